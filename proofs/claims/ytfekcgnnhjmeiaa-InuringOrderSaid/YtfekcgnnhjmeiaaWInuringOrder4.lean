/- That functions of the program compute the plain programs of P. Written by a small program. -/
import Derived.Test.YtfekcgnnhjmeiaaWInuringOrder3
namespace Go.Proofs.Ytfekcgnnhjmeiaa
open Go.RowKit
def Q_treatyref25_Treaties (r : Int) : Value → List Ent → List Fact → Prop := fun v θ κ => v = .int .i64 r ∧ θ = [] ∧ κ = []
theorem plains_treatyref25_Treaties {r : Int} : ∀ v θ κ, Q_treatyref25_Treaties r v θ κ → Plains θ := by
 rintro _ _ _ ⟨rfl, rfl, rfl⟩
 exact trivial
set_option maxHeartbeats 4000000 in
set_option maxRecDepth 100000 in
theorem W_treatyref25_Treaties (a0 : (List GTreaty)) (A0 : Option Addr) (n0 : Nat) (c0 : Nat) (r : Int) (h : treatyref25_Treaties a0 = some r) : Spec Try.prog 32 [.slice A0 n0 c0] [] [fV (lSlice lGTreaty) (.slice A0 n0 c0) a0] (Q_treatyref25_Treaties r) := by
 unfold treatyref25_Treaties at h
 refine spec_of (σ := [(0, _)]) Try.func32 rfl rfl rfl rfl ?_
 intro C
 refine wc_know (fun _ h => h.lenF m0) (fun e => ?_)
 subst e
 refine Wq ?_
 refine Wr (D rfl (ag rfl) (Wn (Pt (Wq (Wq (Wr (D rfl (mv rfl) (D rfl (det_len rfl un23) (D rfl (det_gtr rfl rfl) (Wn (Pt ?_)))))))))))
 refine wc_cond rfl (fun cd5 => ?_) (fun cd5 => ?_)
 ·have h := ifT h cd5
  refine Wq (Wr (D rfl (ag rfl) (Wn (Pt (Wt (Rt ?_))))))
  obtain rfl := si h
  refine pn_ret (vs := [_]) rfl ⟨rfl, trivial⟩ ⟨rfl, rfl, rfl⟩ (fun _ h => h.to trivial trivial)
 ·have h := ifF h cd5
  refine Wk (Pt ?_)
  obtain ⟨q8, h, ho8⟩ := bs h
  refine wc_meetG (G := Unit × Unit) (fun (s8, _) => (.inl s8) = q8) (fun (_, _) => [(0, .slice A0 a0.length c0)]) (fun (_, _) => []) (fun (_, _) => [fV (lSlice lGTreaty) (.slice A0 a0.length c0) a0]) ?_ ?_
  ·refine Wq (Wr (D rfl (mv rfl) (D rfl (det_len rfl un23) (D rfl (mv rfl) (Wn (Pt (Wb ?_)))))))
   obtain ⟨o12, h, ho12⟩ := bs h
   obtain ⟨k12, hk12⟩ := loopV_some.1 h
   refine wc_loop (G := Nat × Int × Unit) (fun g => IterN (treatyref25_Treaties_l12 a0) g.1 g.2.1 o12) (fun g => g.1) (fun (_, s12, _) => [(0, .slice A0 a0.length c0), (19, .slice A0 a0.length c0), (20, .int .i64 (a0.length : Int)), (21, .int .i64 s12)]) (fun (_, _, _) => []) (fun (_, _, _) => [fV (lSlice lGTreaty) (.slice A0 a0.length c0) a0]) (k12, 0, ()) hk12 (Sb rfl) (fun _ h => h.to trivial ⟨m0, trivial⟩) ?_
   rintro ⟨k12, s12, _⟩ hI
   obtain ⟨k12, rfl, q12, h, g12⟩ := IterN.pos hI
   dsimp only at h ⊢
   unfold treatyref25_Treaties_l12 at h
   refine Wq (Wr (D rfl (det_lss rfl rfl) (Wn (Pt (Wq ?_)))))
   refine wc_cond rfl (fun cd16 => ?_) (fun cd16 => ?_)
   ·have h := ifT h cd16
    refine Wk (Pt (Wq (Wb (Wq (Wr (D rfl (mv rfl) ?_))))))
    obtain ⟨k5_1, h⟩ := chk_some h
    refine wl_ex (G := Option Addr × Nat × Option Addr × Nat × Option Addr × Nat × Option Addr × Nat × Option Addr × Nat) _ _ (fun _ => True) (fun _ h => openGTreaty h m0 k5_1) ?_
    rintro ⟨A5_1, c5_1, A5_1a, c5_1a, A5_1b, c5_1b, A5_1c, c5_1c, A5_1d, c5_1d⟩ -
    dsimp only
    refine D rfl (det_indexP rfl rfl (ms (ms (ms (ms (ms (ms m0)))))) k5_1 m0 un23 sz41) (D rfl (det_loadP (off := 0) rfl m0 (by rfl) (by rfl) (loaded_n (cells := [_, _, _, _, _, _, _, _, _, _, _, _, _, _, _, _, _, _, _, _, _]) ag41 sz41)) (Ac rfl (act_alloc (cs := [_, _, _, _, _, _, _, _, _, _, _, _, _, _, _, _, _, _, _, _, _]) zr41 rfl) ?_))
    rintro _ _ _ ⟨b5_3, rfl, rfl, rfl⟩
    refine D rfl (ag rfl) (Az rfl (act_store (cells := [_, _, _, _, _, _, _, _, _, _, _, _, _, _, _, _, _, _, _, _, _]) (cs' := [_, _, _, _, _, _, _, _, _, _, _, _, _, _, _, _, _, _, _, _, _]) rfl rfl rfl s0 (by rfl) (of_decide_eq_true rfl) sz41 (On1 rfl)) ?_)
    rintro _ _ _ ⟨rfl, rfl⟩
    refine Wn (Pt (Wq (Wq (Wr (D rfl (det_loadN (cells := [_, _, _, _, _, _, _, _, _, _, _, _, _, _, _, _, _, _, _, _, _]) rfl m0 (by rfl) ag41 sz41) ?_)))))
    obtain ⟨r6_1, hr6_1, h⟩ := bs h
    refine Ac rfl (act_callS (cap := []) (W_treatyref20_Validate (ix a0 s12) A5_1 (ix a0 s12).Perils.length c5_1 A5_1a (ix a0 s12).Areas.length c5_1a A5_1b (ix a0 s12).Reinstatements.length c5_1b A5_1c (ix a0 s12).Inures.length c5_1c A5_1d (ix a0 s12).Parts.length c5_1d r6_1 hr6_1) rfl rfl rfl bd55 rfl ⟨(ms m0), ⟨(ms (ms m0)), ⟨(ms (ms (ms m0))), ⟨(ms (ms (ms (ms m0)))), ⟨(ms (ms (ms (ms (ms m0))))), trivial⟩⟩⟩⟩⟩) ?_
    rintro _ _ _ ⟨_, _, ⟨rfl, rfl, rfl⟩, rfl, rfl⟩
    dsimp only [na, ca]
    refine D rfl (ag rfl) (Wn (Pt (Wq (Wr (D rfl (mv rfl) (D rfl (det_neq rfl rfl) (Wn (Pt ?_))))))))
    refine wc_cond rfl (fun cd27 => ?_) (fun cd27 => ?_)
    ·have h := ifT h cd27
     refine Wq ?_
     refine Wr (D rfl (mv rfl) (D rfl (ag rfl) (Wn (Pt (Wt (Rt (Rb (Rt (Rt (Rb (Rt ?_)))))))))))
     obtain rfl := si h
     replace g12 := nextR g12
     subst g12
     have h := (elimL ho12)
     obtain rfl := si h
     have h := (elimR ho8)
     obtain rfl := si h
     refine pn_ret (vs := [_]) rfl ⟨rfl, trivial⟩ ⟨rfl, rfl, rfl⟩ (fun _ h => h.to trivial trivial)
    ·have h := ifF h cd27
     refine Wk (Pt ?_)
     obtain ⟨q30, h, ho30⟩ := bs h
     refine wc_meetG (G := Bool × Unit) (fun (s30, _) => s30 = q30) (fun (s30, _) => [(0, .slice A0 a0.length c0), (19, .slice A0 a0.length c0), (20, .int .i64 (a0.length : Int)), (21, .int .i64 s12), (43, .bool s30)]) (fun (_, _) => []) (fun (_, _) => [fV (lSlice lGTreaty) (.slice A0 a0.length c0) a0]) ?_ ?_
     ·rcases Bool.eq_false_or_eq_true (decide (0 < s12)) with hg9_g33 | hg9_g33
      ·have h := ifT h hg9_g33
       obtain ⟨k9_p1, h⟩ := chk_some h
       refine wc_ex (G := Option Addr × Nat × Option Addr × Nat × Option Addr × Nat × Option Addr × Nat × Option Addr × Nat) _ _ (fun _ => True) (fun _ h => openGTreaty h (ms (ms (ms (ms (ms (ms m0)))))) k9_p1) ?_
       rintro ⟨A9_p1, c9_p1, A9_p1a, c9_p1a, A9_p1b, c9_p1b, A9_p1c, c9_p1c, A9_p1d, c9_p1d⟩ -
       dsimp only
       refine dx_region 13 [[], [0], [0, 1], [0, 1, 2], [0, 1, 2, 3], [0, 1, 2], [0, 1, 2], [0, 1, 2, 6], [0, 1, 2, 5, 6, 7], [0, 1, 2, 5, 6, 7, 8], [0, 1, 2, 5, 6, 7, 8, 9], [0, 1, 2, 3, 4, 5, 6, 7, 8, 9, 10], [0, 1, 2, 3, 4, 5, 6, 7, 8, 9, 10, 11]] mixed (ord := (.det 0 (.det 1 (.det 2 (.det 3 (.det 4 (.det 5 (.det 6 (.det 7 (.det 8 (.det 9 (.det 10 (.det 11 (.det 12 .done)))))))))))))) (by kernel_rfl) ?_
       refine Hd rfl rfl rfl (mv rfl) (Hd rfl rfl rfl (det_gtr rfl rfl) (Hd rfl rfl rfl (mv rfl) ?_))
       refine hx_on rfl rfl rfl rfl rfl hg9_g33 nofun (fd rfl fd41_0 rfl) rfl ?_
       refine hx_on rfl rfl rfl rfl rfl hg9_g33 nofun (ld rfl m0 (by rfl) na3 us3) rfl ?_
       refine hx_on rfl rfl rfl rfl rfl hg9_g33 nofun (mv rfl) rfl ?_
       refine hx_on rfl rfl rfl rfl rfl hg9_g33 nofun (mv rfl) rfl ?_
       refine hx_on rfl rfl rfl rfl rfl hg9_g33 nofun (det_sub rfl rfl) rfl ?_
       refine hx_on rfl rfl rfl rfl rfl hg9_g33 nofun (det_indexP rfl rfl (ms (ms (ms (ms (ms (ms (ms (ms (ms (ms (ms (ms m0)))))))))))) k9_p1 m0 un23 sz41) rfl ?_
       refine hx_on rfl rfl rfl rfl rfl hg9_g33 nofun (det_fieldP rfl m0 fd41_0 rfl) rfl ?_
       refine hx_on rfl rfl rfl rfl rfl hg9_g33 nofun (det_loadP (off := 0) rfl m0 (by rfl) (by rfl) (loaded_1 na3 us3)) rfl ?_
       refine hx_on rfl rfl rfl rfl rfl hg9_g33 nofun (det_leq rfl rfl) rfl ?_
       refine Hd rfl rfl rfl (det_pick_on rfl hg9_g33 rfl rfl) (hx_end (Wn ?_))
       obtain rfl := si h
       exact pn_meetG ((decide ((ix a0 s12).ID ≤ (ix a0 (w64 (s12 - 1))).ID)), ()) rfl (Sb rfl) (fun _ h => h.to trivial ⟨(ms (ms (ms (ms (ms (ms (ms (ms (ms (ms (ms (ms m0)))))))))))), trivial⟩)
      ·have h := ifF h hg9_g33
       refine dx_region 13 [[], [0], [0, 1], [0, 1, 2], [0, 1, 2, 3], [0, 1, 2], [0, 1, 2], [0, 1, 2, 6], [0, 1, 2, 5, 6, 7], [0, 1, 2, 5, 6, 7, 8], [0, 1, 2, 5, 6, 7, 8, 9], [0, 1, 2, 3, 4, 5, 6, 7, 8, 9, 10], [0, 1, 2, 3, 4, 5, 6, 7, 8, 9, 10, 11]] mixed (ord := (.det 0 (.det 1 (.det 2 (.det 3 (.det 4 (.det 5 (.det 6 (.det 7 (.det 8 (.det 9 (.det 10 (.det 11 (.det 12 .done)))))))))))))) (by kernel_rfl) ?_
       refine Hd rfl rfl rfl (mv rfl) (Hd rfl rfl rfl (det_gtr rfl rfl) (Hd rfl rfl rfl (mv rfl) ?_))
       refine hx_off rfl rfl rfl rfl rfl hg9_g33 rfl ?_
       refine hx_off rfl rfl rfl rfl rfl hg9_g33 rfl ?_
       refine hx_off rfl rfl rfl rfl rfl hg9_g33 rfl ?_
       refine hx_off rfl rfl rfl rfl rfl hg9_g33 rfl ?_
       refine hx_off rfl rfl rfl rfl rfl hg9_g33 rfl ?_
       refine hx_off rfl rfl rfl rfl rfl hg9_g33 rfl ?_
       refine hx_off rfl rfl rfl rfl rfl hg9_g33 rfl ?_
       refine hx_off rfl rfl rfl rfl rfl hg9_g33 rfl ?_
       refine hx_off rfl rfl rfl rfl rfl hg9_g33 rfl ?_
       refine Hd rfl rfl rfl (det_pick_off rfl hg9_g33 rfl rfl) (hx_end (Wn ?_))
       obtain rfl := si h
       exact pn_meetG (false, ()) rfl (Sb rfl) (fun _ h => h.to trivial ⟨(ms (ms (ms (ms (ms (ms m0)))))), trivial⟩)
     rintro ⟨s30, _⟩ e30
     dsimp only at e30 ⊢
     subst e30
     have h := ho30
     refine wc_cond rfl (fun cd32 => ?_) (fun cd32 => ?_)
     ·have h := ifT h cd32
      refine Wq (Wr (D rfl (ag rfl) (Wn (Pt (Wt (Rb (Rt (Rt (Rb (Rt ?_))))))))))
      obtain rfl := si h
      replace g12 := nextR g12
      subst g12
      have h := (elimL ho12)
      obtain rfl := si h
      have h := (elimR ho8)
      obtain rfl := si h
      refine pn_ret (vs := [_]) rfl ⟨rfl, trivial⟩ ⟨rfl, rfl, rfl⟩ (fun _ h => h.to trivial trivial)
     ·have h := ifF h cd32
      refine Wk (Pb (Pt (Wr (D rfl (det_add rfl rfl) (D rfl (mv rfl) (Wn ?_))))))
      obtain rfl := si h
      exact pn_some (k12, (w64 (s12 + 1)), ()) ⟨nextL g12, Nat.lt_succ_self _⟩ (Sb rfl) (fun _ h => h.to trivial ⟨m0, trivial⟩)
   ·have h := ifF h cd16
    refine We (Xt (Xt (Xb ?_)))
    obtain rfl := si h
    replace g12 := nextR g12
    subst g12
    have h := (elimR ho12)
    obtain rfl := si h
    exact pn_meetG ((), ()) rfl (Sb rfl) (fun _ h => h.to trivial ⟨m0, trivial⟩)
  rintro ⟨s8, _⟩ e8
  dsimp only at e8 ⊢
  subst e8
  have h := (elimL ho8)
  obtain ⟨q36, h, ho36⟩ := bs h
  refine wc_meetG (G := Unit × Unit) (fun (s36, _) => (.inl s36) = q36) (fun (_, _) => [(0, .slice A0 a0.length c0)]) (fun (_, _) => []) (fun (_, _) => [fV (lSlice lGTreaty) (.slice A0 a0.length c0) a0]) ?_ ?_
  ·refine Wq (Wr (D rfl (mv rfl) (D rfl (det_len rfl un23) (D rfl (mv rfl) (Wn (Pt (Wb ?_)))))))
   obtain ⟨o40, h, ho40⟩ := bs h
   obtain ⟨k40, hk40⟩ := loopV_some.1 h
   refine wc_loop (G := Nat × Int × Unit) (fun g => IterN (treatyref25_Treaties_l40 a0) g.1 g.2.1 o40) (fun g => g.1) (fun (_, s40, _) => [(0, .slice A0 a0.length c0), (45, .slice A0 a0.length c0), (46, .int .i64 (a0.length : Int)), (47, .int .i64 s40)]) (fun (_, _, _) => []) (fun (_, _, _) => [fV (lSlice lGTreaty) (.slice A0 a0.length c0) a0]) (k40, 0, ()) hk40 (Sb rfl) (fun _ h => h.to trivial ⟨m0, trivial⟩) ?_
   rintro ⟨k40, s40, _⟩ hI
   obtain ⟨k40, rfl, q40, h, g40⟩ := IterN.pos hI
   dsimp only at h ⊢
   unfold treatyref25_Treaties_l40 at h
   refine Wq (Wr (D rfl (det_lss rfl rfl) (Wn (Pt (Wq ?_)))))
   refine wc_cond rfl (fun cd44 => ?_) (fun cd44 => ?_)
   ·have h := ifT h cd44
    refine Wk (Pt ?_)
    obtain ⟨q46, h, ho46⟩ := bs h
    refine wc_meetG (G := Unit × Unit) (fun (s46, _) => (.inl s46) = q46) (fun (_, _) => [(0, .slice A0 a0.length c0), (45, .slice A0 a0.length c0), (46, .int .i64 (a0.length : Int)), (47, .int .i64 s40)]) (fun (_, _) => []) (fun (_, _) => [fV (lSlice lGTreaty) (.slice A0 a0.length c0) a0]) ?_ ?_
    ·refine Wb (Wq (Wr ?_))
     obtain ⟨k14_0, h⟩ := chk_some h
     refine wl_ex (G := Option Addr × Nat × Option Addr × Nat × Option Addr × Nat × Option Addr × Nat × Option Addr × Nat) _ _ (fun _ => True) (fun _ h => openGTreaty h m0 k14_0) ?_
     rintro ⟨A14_0, c14_0, A14_0a, c14_0a, A14_0b, c14_0b, A14_0c, c14_0c, A14_0d, c14_0d⟩ -
     dsimp only
     refine D rfl (det_indexP rfl rfl (ms (ms (ms (ms (ms (ms m0)))))) k14_0 m0 un23 sz41) (D rfl (det_loadP (off := 0) rfl m0 (by rfl) (by rfl) (loaded_n (cells := [_, _, _, _, _, _, _, _, _, _, _, _, _, _, _, _, _, _, _, _, _]) ag41 sz41)) (Ac rfl (act_alloc (cs := [_, _, _, _, _, _, _, _, _, _, _, _, _, _, _, _, _, _, _, _, _]) zr41 rfl) ?_))
     rintro _ _ _ ⟨b14_2, rfl, rfl, rfl⟩
     refine Az rfl (act_store (cells := [_, _, _, _, _, _, _, _, _, _, _, _, _, _, _, _, _, _, _, _, _]) (cs' := [_, _, _, _, _, _, _, _, _, _, _, _, _, _, _, _, _, _, _, _, _]) rfl rfl rfl s0 (by rfl) (of_decide_eq_true rfl) sz41 (On1 rfl)) ?_
     rintro _ _ _ ⟨rfl, rfl⟩
     refine Wn (Pt (Wq (Wr (D rfl (fd rfl fd41_18 rfl) (D rfl (ld rfl m0 (by rfl) na22 us22) (D rfl (det_len rfl un22) (D rfl (mv rfl) (Wn (Pt (Wb ?_))))))))))
     obtain ⟨o53, h, ho53⟩ := bs h
     obtain ⟨k53, hk53⟩ := loopV_some.1 h
     refine wc_loop (G := Nat × Int × Unit) (fun g => IterN (treatyref25_Treaties_l53 a0 s40) g.1 g.2.1 o53) (fun g => g.1) (fun (_, s53, _) => [(0, .slice A0 a0.length c0), (45, .slice A0 a0.length c0), (46, .int .i64 (a0.length : Int)), (47, .int .i64 s40), (52, .slice A14_0c (ix a0 s40).Inures.length c14_0c), (53, .int .i64 ((ix a0 s40).Inures.length : Int)), (54, .int .i64 s53)]) (fun (_, _, _) => []) (fun (_, _, _) => [fV (lSlice lGTreaty) (.slice A0 a0.length c0) a0, fV (lSlice (lInt .i64)) (.slice A14_0c (ix a0 s40).Inures.length c14_0c) (ix a0 s40).Inures]) (k53, 0, ()) hk53 (Sb rfl) (fun _ h => h.to trivial ⟨(ms (ms (ms (ms (ms (ms m0)))))), ⟨(ms (ms (ms (ms m0)))), trivial⟩⟩) ?_
     rintro ⟨k53, s53, _⟩ hI
     obtain ⟨k53, rfl, q53, h, g53⟩ := IterN.pos hI
     dsimp only at h ⊢
     unfold treatyref25_Treaties_l53 at h
     refine Wq (Wr (D rfl (det_lss rfl rfl) (Wn (Pt (Wq ?_)))))
     refine wc_cond rfl (fun cd57 => ?_) (fun cd57 => ?_)
     ·have h := ifT h cd57
      refine Wk (Pt (Wq (Wb (Wq (Wr ?_)))))
      obtain ⟨k17_0, h⟩ := chk_some h
      refine wl_st (fun _ h => h.openF (ms m0) k17_0) ?_
      refine D rfl (det_indexP rfl rfl (ms (ms m0)) k17_0 m0 un22 sz3) (D rfl (det_loadP (off := 0) rfl m0 (by rfl) (by rfl) (loaded_1 na3 us3)) (D rfl (ag rfl) (Wn (Pt (Wq (Wr (D rfl (mv rfl) (D rfl (mv rfl) ?_))))))))
      obtain ⟨r18_2, hr18_2, h⟩ := bs h
      refine Ac rfl (act_callS (cap := []) (W_treatyref25_Index a0 (ix (ix a0 s40).Inures s53) A0 a0.length c0 r18_2 hr18_2) rfl rfl rfl bd34 rfl ⟨(ms m0), trivial⟩) ?_
      rintro _ _ _ ⟨_, _, ⟨rfl, rfl, rfl⟩, rfl, rfl⟩
      dsimp only [na, ca]
      refine D rfl (det_lss rfl rfl) (Wn (Pt ?_))
      refine wc_cond rfl (fun cd65 => ?_) (fun cd65 => ?_)
      ·have h := ifT h cd65
       refine Wq (Wr (D rfl (ag rfl) ?_))
       refine Wn (Pt (Wt (Rb (Rt (Rt (Rb (Rb (Rt (Rt (Rb (Rt ?_)))))))))))
       obtain rfl := si h
       replace g53 := nextR g53
       subst g53
       have h := (elimL ho53)
       obtain rfl := si h
       have h := (elimR ho46)
       obtain rfl := si h
       replace g40 := nextR g40
       subst g40
       have h := (elimL ho40)
       obtain rfl := si h
       have h := (elimR ho36)
       obtain rfl := si h
       refine pn_ret (vs := [_]) rfl ⟨rfl, trivial⟩ ⟨rfl, rfl, rfl⟩ (fun _ h => h.to trivial trivial)
      ·have h := ifF h cd65
       refine Wk (Pb (Pt (Wr (D rfl (det_add rfl rfl) (D rfl (mv rfl) (Wn ?_))))))
       obtain rfl := si h
       exact pn_some (k53, (w64 (s53 + 1)), ()) ⟨nextL g53, Nat.lt_succ_self _⟩ (Sb rfl) (fun _ h => h.to trivial ⟨(ms m0), ⟨(ms (ms m0)), trivial⟩⟩)
     ·have h := ifF h cd57
      refine We (Xt (Xt (Xb (Pb ?_))))
      obtain rfl := si h
      replace g53 := nextR g53
      subst g53
      have h := (elimR ho53)
      obtain rfl := si h
      exact pn_meetG ((), ()) rfl (Sb rfl) (fun _ h => h.to trivial ⟨m0, trivial⟩)
    rintro ⟨s46, _⟩ e46
    dsimp only at e46 ⊢
    subst e46
    have h := (elimL ho46)
    refine Wr (D rfl (det_add rfl rfl) (D rfl (mv rfl) (Wn ?_)))
    obtain rfl := si h
    exact pn_some (k40, (w64 (s40 + 1)), ()) ⟨nextL g40, Nat.lt_succ_self _⟩ (Sb rfl) (fun _ h => h.to trivial ⟨m0, trivial⟩)
   ·have h := ifF h cd44
    refine We (Xt (Xt (Xb ?_)))
    obtain rfl := si h
    replace g40 := nextR g40
    subst g40
    have h := (elimR ho40)
    obtain rfl := si h
    exact pn_meetG ((), ()) rfl (Sb rfl) (fun _ h => h.to trivial ⟨m0, trivial⟩)
  rintro ⟨s36, _⟩ e36
  dsimp only at e36 ⊢
  subst e36
  have h := (elimL ho36)
  obtain ⟨q70, h, ho70⟩ := bs h
  refine wc_meetG (G := Unit × Unit) (fun (s70, _) => (.inl s70) = q70) (fun (_, _) => [(0, .slice A0 a0.length c0)]) (fun (_, _) => []) (fun (_, _) => [fV (lSlice lGTreaty) (.slice A0 a0.length c0) a0]) ?_ ?_
  ·refine Wq (Wr (D rfl (mv rfl) (D rfl (det_len rfl un23) (D rfl (mv rfl) (Wn (Pt (Wb ?_)))))))
   obtain ⟨o74, h, ho74⟩ := bs h
   obtain ⟨k74, hk74⟩ := loopV_some.1 h
   refine wc_loop (G := Nat × Int × Unit) (fun g => IterN (treatyref25_Treaties_l74 a0) g.1 g.2.1 o74) (fun g => g.1) (fun (_, s74, _) => [(0, .slice A0 a0.length c0), (65, .int .i64 (a0.length : Int)), (66, .int .i64 s74)]) (fun (_, _, _) => []) (fun (_, _, _) => [fV (lSlice lGTreaty) (.slice A0 a0.length c0) a0]) (k74, 0, ()) hk74 (Sb rfl) (fun _ h => h.to trivial ⟨m0, trivial⟩) ?_
   rintro ⟨k74, s74, _⟩ hI
   obtain ⟨k74, rfl, q74, h, g74⟩ := IterN.pos hI
   dsimp only at h ⊢
   unfold treatyref25_Treaties_l74 at h
   refine Wq (Wr (D rfl (det_lss rfl rfl) (Wn (Pt (Wq ?_)))))
   refine wc_cond rfl (fun cd78 => ?_) (fun cd78 => ?_)
   ·have h := ifT h cd78
    refine Wk (Pt (Wq ?_))
    refine Wb (Wq (Wr (D rfl (mv rfl) (D rfl (ag rfl) (Wn (Pt (Wq (Wr (D rfl (mv rfl) (D rfl (mv rfl) (D rfl (mv rfl) ?_)))))))))))
    obtain ⟨r25_3, hr25_3, h⟩ := bs h
    refine Ac rfl (act_callS (cap := []) (W_treatyref25_Depends a0 s74 s74 A0 a0.length c0 r25_3 hr25_3) rfl rfl rfl bd56 rfl ⟨m0, trivial⟩) ?_
    rintro _ _ _ ⟨_, _, ⟨rfl, rfl, rfl⟩, rfl, rfl⟩
    dsimp only [na, ca]
    refine Wn (Pt ?_)
    refine wc_cond rfl (fun cd86 => ?_) (fun cd86 => ?_)
    ·have h := ifT h cd86
     refine Wq (Wr (D rfl (ag rfl) (Wn (Pt (Wt (Rb (Rt (Rt (Rb (Rt ?_))))))))))
     obtain rfl := si h
     replace g74 := nextR g74
     subst g74
     have h := (elimL ho74)
     obtain rfl := si h
     have h := (elimR ho70)
     obtain rfl := si h
     refine pn_ret (vs := [_]) rfl ⟨rfl, trivial⟩ ⟨rfl, rfl, rfl⟩ (fun _ h => h.to trivial trivial)
    ·have h := ifF h cd86
     refine Wk (Pb (Pt (Wr (D rfl (det_add rfl rfl) (D rfl (mv rfl) (Wn ?_))))))
     obtain rfl := si h
     exact pn_some (k74, (w64 (s74 + 1)), ()) ⟨nextL g74, Nat.lt_succ_self _⟩ (Sb rfl) (fun _ h => h.to trivial ⟨m0, trivial⟩)
   ·have h := ifF h cd78
    refine We (Xt (Xt (Xb ?_)))
    obtain rfl := si h
    replace g74 := nextR g74
    subst g74
    have h := (elimR ho74)
    obtain rfl := si h
    exact pn_meetG ((), ()) rfl (Sb rfl) (fun _ h => h.to trivial ⟨m0, trivial⟩)
  rintro ⟨s70, _⟩ e70
  dsimp only at e70 ⊢
  subst e70
  have h := (elimL ho70)
  obtain ⟨q90, h, ho90⟩ := bs h
  refine wc_meetG (G := Unit × Unit) (fun (s90, _) => (.inl s90) = q90) (fun (_, _) => []) (fun (_, _) => []) (fun (_, _) => []) ?_ ?_
  ·refine Wq (Wr (D rfl (mv rfl) (D rfl (det_len rfl un23) (D rfl (mv rfl) (Wn (Pt (Wb ?_)))))))
   obtain ⟨o94, h, ho94⟩ := bs h
   obtain ⟨k94, hk94⟩ := loopV_some.1 h
   refine wc_loop (G := Nat × Int × Unit) (fun g => IterN (treatyref25_Treaties_l94 a0) g.1 g.2.1 o94) (fun g => g.1) (fun (_, s94, _) => [(0, .slice A0 a0.length c0), (74, .slice A0 a0.length c0), (75, .int .i64 (a0.length : Int)), (76, .int .i64 s94)]) (fun (_, _, _) => []) (fun (_, _, _) => [fV (lSlice lGTreaty) (.slice A0 a0.length c0) a0]) (k94, 0, ()) hk94 (Sb rfl) (fun _ h => h.to trivial ⟨m0, trivial⟩) ?_
   rintro ⟨k94, s94, _⟩ hI
   obtain ⟨k94, rfl, q94, h, g94⟩ := IterN.pos hI
   dsimp only at h ⊢
   unfold treatyref25_Treaties_l94 at h
   refine Wq (Wr (D rfl (det_lss rfl rfl) (Wn (Pt (Wq ?_)))))
   refine wc_cond rfl (fun cd98 => ?_) (fun cd98 => ?_)
   ·have h := ifT h cd98
    refine Wk (Pt ?_)
    obtain ⟨q100, h, ho100⟩ := bs h
    refine wc_meetG (G := Unit × Unit) (fun (s100, _) => (.inl s100) = q100) (fun (_, _) => [(0, .slice A0 a0.length c0), (74, .slice A0 a0.length c0), (75, .int .i64 (a0.length : Int)), (76, .int .i64 s94)]) (fun (_, _) => []) (fun (_, _) => [fV (lSlice lGTreaty) (.slice A0 a0.length c0) a0]) ?_ ?_
    ·refine Wb (Wq (Wr (D rfl (mv rfl) ?_)))
     obtain ⟨k30_1, h⟩ := chk_some h
     refine wl_ex (G := Option Addr × Nat × Option Addr × Nat × Option Addr × Nat × Option Addr × Nat × Option Addr × Nat) _ _ (fun _ => True) (fun _ h => openGTreaty h m0 k30_1) ?_
     rintro ⟨A30_1, c30_1, A30_1a, c30_1a, A30_1b, c30_1b, A30_1c, c30_1c, A30_1d, c30_1d⟩ -
     dsimp only
     refine D rfl (det_indexP rfl rfl (ms (ms (ms (ms (ms (ms m0)))))) k30_1 m0 un23 sz41) (D rfl (det_loadP (off := 0) rfl m0 (by rfl) (by rfl) (loaded_n (cells := [_, _, _, _, _, _, _, _, _, _, _, _, _, _, _, _, _, _, _, _, _]) ag41 sz41)) (Ac rfl (act_alloc (cs := [_, _, _, _, _, _, _, _, _, _, _, _, _, _, _, _, _, _, _, _, _]) zr41 rfl) ?_))
     rintro _ _ _ ⟨b30_3, rfl, rfl, rfl⟩
     refine D rfl (ag rfl) (Az rfl (act_store (cells := [_, _, _, _, _, _, _, _, _, _, _, _, _, _, _, _, _, _, _, _, _]) (cs' := [_, _, _, _, _, _, _, _, _, _, _, _, _, _, _, _, _, _, _, _, _]) rfl rfl rfl s0 (by rfl) (of_decide_eq_true rfl) sz41 (On1 rfl)) ?_)
     rintro _ _ _ ⟨rfl, rfl⟩
     refine Wn (Pt (Wq (Wr (D rfl (mv rfl) (D rfl (mv rfl) ?_)))))
     obtain ⟨k31_2, h⟩ := chk_some h
     obtain ⟨k31_2a, h⟩ := chk_some h
     refine Ac rfl (act_sliceH rfl rfl (ms (ms (ms (ms (ms (ms m0)))))) un23 sz41 rfl k31_2 k31_2a) ?_
     rintro _ _ _ ⟨A31_2, c31_2, rfl, rfl, rfl⟩
     refine D rfl (det_len rfl un23) (D rfl (mv rfl) (Wn (Pt (Wb ?_))))
     obtain ⟨o107, h, ho107⟩ := bs h
     obtain ⟨k107, hk107⟩ := loopV_some.1 h
     refine wc_loop (G := Nat × Int × Unit) (fun g => IterN (treatyref25_Treaties_l107 a0 s94) g.1 g.2.1 o107) (fun g => g.1) (fun (_, s107, _) => [(0, .slice A0 a0.length c0), (12, .pointer (some ⟨b30_3, 0, none⟩)), (74, .slice A0 a0.length c0), (75, .int .i64 (a0.length : Int)), (76, .int .i64 s94), (83, .slice A31_2 (a0.take s94.toNat).length c31_2), (84, .int .i64 ((a0.take s94.toNat).length : Int)), (85, .int .i64 s107)]) (fun (_, _, _) => [eBlk b30_3 41 [.int .i64 (ix a0 s94).ID, .int .i64 (ix a0 s94).Kind, .int .i64 (ix a0 s94).Period.From, .int .i64 (ix a0 s94).Period.To, .slice A30_1 (ix a0 s94).Perils.length c30_1, .slice A30_1a (ix a0 s94).Areas.length c30_1a, .int .i64 (ix a0 s94).Risk, .int .i64 (ix a0 s94).Cession, .int .i64 (ix a0 s94).Line, .int .i64 (ix a0 s94).Lines, .int .i64 (ix a0 s94).Retention, .int .i64 (ix a0 s94).Limit, .int .i64 (ix a0 s94).Window, .int .i64 (ix a0 s94).Deductible, .int .i64 (ix a0 s94).Aggregate, .int .i64 (ix a0 s94).Premium, .slice A30_1b (ix a0 s94).Reinstatements.length c30_1b, .bool (ix a0 s94).Timed, .int .i64 (ix a0 s94).Base, .slice A30_1c (ix a0 s94).Inures.length c30_1c, .slice A30_1d (ix a0 s94).Parts.length c30_1d]]) (fun (_, _, _) => [fV (lSlice lGTreaty) (.slice A0 a0.length c0) a0, fV (lSlice (lInt .i64)) (.slice A30_1 (ix a0 s94).Perils.length c30_1) (ix a0 s94).Perils, fV (lSlice (lInt .i64)) (.slice A30_1a (ix a0 s94).Areas.length c30_1a) (ix a0 s94).Areas, fV (lSlice (lInt .i64)) (.slice A30_1b (ix a0 s94).Reinstatements.length c30_1b) (ix a0 s94).Reinstatements, fV (lSlice (lInt .i64)) (.slice A30_1c (ix a0 s94).Inures.length c30_1c) (ix a0 s94).Inures, fV (lSlice lGPart) (.slice A30_1d (ix a0 s94).Parts.length c30_1d) (ix a0 s94).Parts, fV (lSlice lGTreaty) (.slice A31_2 (a0.take s94.toNat).length c31_2) (a0.take s94.toNat)]) (k107, 0, ()) hk107 (Sb rfl) (fun _ h => h.to ⟨_, r0, trivial⟩ ⟨(ms (ms (ms (ms (ms (ms (ms m0))))))), ⟨(ms (ms m0)), ⟨(ms (ms (ms m0))), ⟨(ms (ms (ms (ms m0)))), ⟨(ms (ms (ms (ms (ms m0))))), ⟨(ms (ms (ms (ms (ms (ms m0)))))), ⟨m0, trivial⟩⟩⟩⟩⟩⟩⟩) ?_
     rintro ⟨k107, s107, _⟩ hI
     obtain ⟨k107, rfl, q107, h, g107⟩ := IterN.pos hI
     dsimp only at h ⊢
     unfold treatyref25_Treaties_l107 at h
     refine Wq (Wr (D rfl (det_lss rfl rfl) (Wn (Pt (Wq ?_)))))
     refine wc_cond rfl (fun cd111 => ?_) (fun cd111 => ?_)
     ·have h := ifT h cd111
      refine Wk (Pt (Wq (Wb (Wq (Wr ?_)))))
      obtain ⟨k33_0, h⟩ := chk_some h
      refine wl_ex (G := Option Addr × Nat × Option Addr × Nat × Option Addr × Nat × Option Addr × Nat × Option Addr × Nat) _ _ (fun _ => True) (fun _ h => openGTreaty h (ms (ms (ms (ms (ms (ms m0)))))) k33_0) ?_
      rintro ⟨A33_0, c33_0, A33_0a, c33_0a, A33_0b, c33_0b, A33_0c, c33_0c, A33_0d, c33_0d⟩ -
      dsimp only
      refine D rfl (det_indexP rfl rfl (ms (ms (ms (ms (ms (ms (ms (ms (ms (ms (ms (ms m0)))))))))))) k33_0 m0 un23 sz41) (D rfl (det_loadP (off := 0) rfl m0 (by rfl) (by rfl) (loaded_n (cells := [_, _, _, _, _, _, _, _, _, _, _, _, _, _, _, _, _, _, _, _, _]) ag41 sz41)) (Ac rfl (act_alloc (cs := [_, _, _, _, _, _, _, _, _, _, _, _, _, _, _, _, _, _, _, _, _]) zr41 rfl) ?_))
      rintro _ _ _ ⟨b33_2, rfl, rfl, rfl⟩
      refine Az rfl (act_store (cells := [_, _, _, _, _, _, _, _, _, _, _, _, _, _, _, _, _, _, _, _, _]) (cs' := [_, _, _, _, _, _, _, _, _, _, _, _, _, _, _, _, _, _, _, _, _]) rfl rfl rfl s0 (by rfl) (of_decide_eq_true rfl) sz41 (On1 rfl)) ?_
      rintro _ _ _ ⟨rfl, rfl⟩
      refine Wn (Pt (Wq (Wr (D rfl (det_loadN (cells := [_, _, _, _, _, _, _, _, _, _, _, _, _, _, _, _, _, _, _, _, _]) rfl (ms m0) (by rfl) ag41 sz41) (D rfl (det_loadN (cells := [_, _, _, _, _, _, _, _, _, _, _, _, _, _, _, _, _, _, _, _, _]) rfl m0 (by rfl) ag41 sz41) ?_)))))
      obtain ⟨r34_2, hr34_2, h⟩ := bs h
      refine Ac rfl (act_callS (cap := []) (W_treatyref25_SameTower (ix a0 s94) (ix (a0.take s94.toNat) s107) A30_1 (ix a0 s94).Perils.length c30_1 A30_1a (ix a0 s94).Areas.length c30_1a A30_1b (ix a0 s94).Reinstatements.length c30_1b A30_1c (ix a0 s94).Inures.length c30_1c A30_1d (ix a0 s94).Parts.length c30_1d A33_0 (ix (a0.take s94.toNat) s107).Perils.length c33_0 A33_0a (ix (a0.take s94.toNat) s107).Areas.length c33_0a A33_0b (ix (a0.take s94.toNat) s107).Reinstatements.length c33_0b A33_0c (ix (a0.take s94.toNat) s107).Inures.length c33_0c A33_0d (ix (a0.take s94.toNat) s107).Parts.length c33_0d r34_2 hr34_2) rfl rfl rfl bd57 rfl ⟨(ms (ms (ms (ms (ms (ms (ms m0))))))), ⟨(ms (ms (ms (ms (ms (ms (ms (ms m0)))))))), ⟨(ms (ms (ms (ms (ms (ms (ms (ms (ms m0))))))))), ⟨(ms (ms (ms (ms (ms (ms (ms (ms (ms (ms m0)))))))))), ⟨(ms (ms (ms (ms (ms (ms (ms (ms (ms (ms (ms m0))))))))))), ⟨(ms m0), ⟨(ms (ms m0)), ⟨(ms (ms (ms m0))), ⟨(ms (ms (ms (ms m0)))), ⟨(ms (ms (ms (ms (ms m0))))), trivial⟩⟩⟩⟩⟩⟩⟩⟩⟩⟩) ?_
      rintro _ _ _ ⟨_, _, ⟨rfl, rfl, rfl⟩, rfl, rfl⟩
      dsimp only [na, ca]
      refine D rfl (mv rfl) ?_
      refine wl_way r34_2 (r34_2 && ((decide ((w64 ((ix (a0.take s94.toNat) s107).Retention + (ix (a0.take s94.toNat) s107).Limit)) ≤ (ix a0 s94).Retention)) || (decide ((w64 ((ix a0 s94).Retention + (ix a0 s94).Limit)) ≤ (ix (a0.take s94.toNat) s107).Retention)))) 19 111 (fun hg => ?_) (fun hg => ?_) ?_
      ·have hg34_22 := hg
       refine Gn rfl rfl hg34_22 (D rfl (fd rfl fd41_9 rfl) (Gn rfl rfl hg34_22 (D rfl (ld rfl (ms m0) (by rfl) na3 us3) (Gn rfl rfl hg34_22 (D rfl (fd rfl fd41_9 rfl) ?_)))))
       refine Gn rfl rfl hg34_22 (D rfl (ld rfl m0 (by rfl) na3 us3) (Gn rfl rfl hg34_22 (D rfl (fd rfl fd41_10 rfl) (Gn rfl rfl hg34_22 (D rfl (ld rfl m0 (by rfl) na3 us3) (Gn rfl rfl hg34_22 (D rfl (det_add rfl rfl) (Gn rfl rfl hg34_22 (D rfl (det_geq rfl rfl) (Gn rfl rfl hg34_22 (D rfl (mv rfl) ?_)))))))))))
       refine wl_way (decide ((w64 ((ix (a0.take s94.toNat) s107).Retention + (ix (a0.take s94.toNat) s107).Limit)) ≤ (ix a0 s94).Retention)) ((decide ((w64 ((ix (a0.take s94.toNat) s107).Retention + (ix (a0.take s94.toNat) s107).Limit)) ≤ (ix a0 s94).Retention)) || (decide ((w64 ((ix a0 s94).Retention + (ix a0 s94).Limit)) ≤ (ix (a0.take s94.toNat) s107).Retention))) 9 110 (fun hg => ?_) (fun hg => ?_) ?_
       ·have hg34_21 := hg
        refine Gf rfl rfl rfl hg34_21 (Gf rfl rfl rfl hg34_21 (Gf rfl rfl rfl hg34_21 (Gf rfl rfl rfl hg34_21 (Gf rfl rfl rfl hg34_21 (Gf rfl rfl rfl hg34_21 (Gf rfl rfl rfl hg34_21 (Gf rfl rfl rfl hg34_21 (Gn rfl rfl hg34_22 (D rfl (det_or_on (r := (decide ((w64 ((ix a0 s94).Retention + (ix a0 s94).Limit)) ≤ (ix (a0.take s94.toNat) s107).Retention))) rfl rfl rfl hg34_21) ?_)))))))))
        exact wl_nil (pn_qnE (ext_cons rfl (Ex 9 rfl rfl)) (fun _ h => h))
       ·have hg34_21a := hg
        refine Gn rfl rfl hg34_21a (D rfl (fd rfl fd41_9 rfl) (Gn rfl rfl hg34_21a (D rfl (ld rfl m0 (by rfl) na3 us3) (Gn rfl rfl hg34_21a (D rfl (fd rfl fd41_9 rfl) ?_)))))
        refine Gn rfl rfl hg34_21a (D rfl (ld rfl (ms m0) (by rfl) na3 us3) (Gn rfl rfl hg34_21a (D rfl (fd rfl fd41_10 rfl) (Gn rfl rfl hg34_21a (D rfl (ld rfl (ms m0) (by rfl) na3 us3) (Gn rfl rfl hg34_21a (D rfl (det_add rfl rfl) (Gn rfl rfl hg34_21a (D rfl (det_geq rfl rfl) (Gn rfl rfl hg34_22 (D rfl (det_or_off rfl rfl rfl hg34_21a) ?_)))))))))))
        exact wl_nil (pn_qnE (ext_cons rfl (Ex 9 rfl rfl)) (fun _ h => h))
       refine D rfl (det_and_on rfl rfl rfl hg34_22) ?_
       exact wl_nil (pn_qnE (ext_cons rfl (Ex 11 rfl rfl)) (fun _ h => h))
      ·have hg34_22a := hg
       refine Gf rfl rfl rfl hg34_22a (Gf rfl rfl rfl hg34_22a (Gf rfl rfl rfl hg34_22a (Gf rfl rfl rfl hg34_22a (Gf rfl rfl rfl hg34_22a (Gf rfl rfl rfl hg34_22a (Gf rfl rfl rfl hg34_22a (Gf rfl rfl rfl hg34_22a (Gf rfl rfl rfl hg34_22a ?_))))))))
       refine wl_none rfl rfl rfl rfl rfl rfl ?_
       refine wl_none rfl rfl rfl rfl rfl rfl ?_
       refine wl_none rfl rfl rfl rfl rfl rfl ?_
       refine wl_none rfl rfl rfl rfl rfl rfl ?_
       refine wl_none rfl rfl rfl rfl rfl rfl ?_
       refine wl_none rfl rfl rfl rfl rfl rfl ?_
       refine wl_none rfl rfl rfl rfl rfl rfl ?_
       refine wl_none rfl rfl rfl rfl rfl rfl ?_
       refine Gf rfl rfl rfl hg34_22a (D rfl (det_and_off (q := ((decide ((w64 ((ix (a0.take s94.toNat) s107).Retention + (ix (a0.take s94.toNat) s107).Limit)) ≤ (ix a0 s94).Retention)) || (decide ((w64 ((ix a0 s94).Retention + (ix a0 s94).Limit)) ≤ (ix (a0.take s94.toNat) s107).Retention)))) rfl rfl rfl hg34_22a) ?_)
       exact wl_nil (pn_qnE (ext_cons rfl (Ex 19 rfl rfl)) (fun _ h => h))
      refine D rfl (ag rfl) (Wn (Pt (Wq (Wr (D rfl (det_loadN (cells := [_, _, _, _, _, _, _, _, _, _, _, _, _, _, _, _, _, _, _, _, _]) rfl (ms m0) (by rfl) ag41 sz41) (D rfl (det_loadN (cells := [_, _, _, _, _, _, _, _, _, _, _, _, _, _, _, _, _, _, _, _, _]) rfl m0 (by rfl) ag41 sz41) ?_))))))
      obtain ⟨r35_2, hr35_2, h⟩ := bs h
      refine Ac rfl (act_callS (cap := []) (W_treatyref25_Meet (ix a0 s94) (ix (a0.take s94.toNat) s107) A30_1 (ix a0 s94).Perils.length c30_1 A30_1a (ix a0 s94).Areas.length c30_1a A30_1b (ix a0 s94).Reinstatements.length c30_1b A30_1c (ix a0 s94).Inures.length c30_1c A30_1d (ix a0 s94).Parts.length c30_1d A33_0 (ix (a0.take s94.toNat) s107).Perils.length c33_0 A33_0a (ix (a0.take s94.toNat) s107).Areas.length c33_0a A33_0b (ix (a0.take s94.toNat) s107).Reinstatements.length c33_0b A33_0c (ix (a0.take s94.toNat) s107).Inures.length c33_0c A33_0d (ix (a0.take s94.toNat) s107).Parts.length c33_0d r35_2 hr35_2) rfl rfl rfl bd26 rfl ⟨(ms (ms (ms (ms (ms (ms (ms m0))))))), ⟨(ms (ms (ms (ms (ms (ms (ms (ms m0)))))))), ⟨(ms (ms (ms (ms (ms (ms (ms (ms (ms m0))))))))), ⟨(ms (ms (ms (ms (ms (ms (ms (ms (ms (ms m0)))))))))), ⟨(ms (ms (ms (ms (ms (ms (ms (ms (ms (ms (ms m0))))))))))), ⟨(ms m0), ⟨(ms (ms m0)), ⟨(ms (ms (ms m0))), ⟨(ms (ms (ms (ms m0)))), ⟨(ms (ms (ms (ms (ms m0))))), trivial⟩⟩⟩⟩⟩⟩⟩⟩⟩⟩) ?_
      rintro _ _ _ ⟨_, _, ⟨rfl, rfl, rfl⟩, rfl, rfl⟩
      dsimp only [na, ca]
      refine D rfl (mv rfl) ?_
      obtain ⟨q35_10, hq35_10, h⟩ := bs h
      have ho35_10 := h
      refine wl_way r35_2 q35_10 7 122 (fun hg => ?_) (fun hg => ?_) ?_
      ·have hg35_10 := hg
       have h := ifT hq35_10 hg
       refine Gn rfl rfl hg35_10 (D rfl (fd rfl fd41_18 rfl) (Gn rfl rfl hg35_10 (D rfl (ld rfl (ms m0) (by rfl) na22 us22) (Gn rfl rfl hg35_10 (D rfl (fd rfl fd41_0 rfl) (Gn rfl rfl hg35_10 (D rfl (ld rfl m0 (by rfl) na3 us3) (Gn rfl rfl hg35_10 ?_))))))))
       obtain ⟨r35_8, hr35_8, h⟩ := bs h
       refine Ac rfl (act_callS (cap := []) (W_treatyref25_Has (ix a0 s94).Inures (ix (a0.take s94.toNat) s107).ID A30_1c (ix a0 s94).Inures.length c30_1c r35_8 hr35_8) rfl rfl rfl bd33 rfl ⟨(ms (ms (ms (ms (ms (ms (ms (ms (ms (ms m0)))))))))), trivial⟩) ?_
       rintro _ _ _ ⟨_, _, ⟨rfl, rfl, rfl⟩, rfl, rfl⟩
       dsimp only [na, ca]
       refine Gn rfl rfl hg35_10 (D rfl (det_not rfl) ?_)
       obtain rfl := si h
       refine D rfl (det_pick_on rfl hg35_10 rfl rfl) ?_
       exact wl_nil (pn_qnE (ext_cons rfl (Ex 7 rfl rfl)) (fun _ h => h))
      ·have hg35_10a := hg
       have h := ifF hq35_10 hg
       refine Gf rfl rfl rfl hg35_10a (Gf rfl rfl rfl hg35_10a (Gf rfl rfl rfl hg35_10a (Gf rfl rfl rfl hg35_10a (Gf rfl rfl rfl hg35_10a (Gf rfl rfl rfl hg35_10a ?_)))))
       obtain rfl := si h
       refine D rfl (det_pick_off rfl hg35_10a rfl rfl) ?_
       exact wl_nil (pn_qnE (ext_cons rfl (Ex 7 rfl rfl)) (fun _ h => h))
      have h := ho35_10
      refine D rfl (mv rfl) ?_
      obtain ⟨q35_18, hq35_18, h⟩ := bs h
      have ho35_18 := h
      refine wl_way q35_10 q35_18 7 130 (fun hg => ?_) (fun hg => ?_) ?_
      ·have hg35_18 := hg
       have h := ifT hq35_18 hg
       refine Gn rfl rfl hg35_18 (D rfl (fd rfl fd41_18 rfl) (Gn rfl rfl hg35_18 (D rfl (ld rfl m0 (by rfl) na22 us22) (Gn rfl rfl hg35_18 (D rfl (fd rfl fd41_0 rfl) (Gn rfl rfl hg35_18 (D rfl (ld rfl (ms m0) (by rfl) na3 us3) (Gn rfl rfl hg35_18 ?_))))))))
       obtain ⟨r35_16, hr35_16, h⟩ := bs h
       refine Ac rfl (act_callS (cap := []) (W_treatyref25_Has (ix (a0.take s94.toNat) s107).Inures (ix a0 s94).ID A33_0c (ix (a0.take s94.toNat) s107).Inures.length c33_0c r35_16 hr35_16) rfl rfl rfl bd33 rfl ⟨(ms (ms (ms (ms m0)))), trivial⟩) ?_
       rintro _ _ _ ⟨_, _, ⟨rfl, rfl, rfl⟩, rfl, rfl⟩
       dsimp only [na, ca]
       refine Gn rfl rfl hg35_18 (D rfl (det_not rfl) ?_)
       obtain rfl := si h
       refine D rfl (det_pick_on rfl hg35_18 rfl rfl) ?_
       exact wl_nil (pn_qnE (ext_cons rfl (Ex 7 rfl rfl)) (fun _ h => h))
      ·have hg35_18a := hg
       have h := ifF hq35_18 hg
       refine Gf rfl rfl rfl hg35_18a (Gf rfl rfl rfl hg35_18a (Gf rfl rfl rfl hg35_18a (Gf rfl rfl rfl hg35_18a (Gf rfl rfl rfl hg35_18a (Gf rfl rfl rfl hg35_18a ?_)))))
       obtain rfl := si h
       refine D rfl (det_pick_off rfl hg35_18a rfl rfl) ?_
       exact wl_nil (pn_qnE (ext_cons rfl (Ex 7 rfl rfl)) (fun _ h => h))
      have h := ho35_18
      refine D rfl (mv rfl) ?_
      refine wl_way q35_18 (q35_18 && (!(r34_2 && ((decide ((w64 ((ix (a0.take s94.toNat) s107).Retention + (ix (a0.take s94.toNat) s107).Limit)) ≤ (ix a0 s94).Retention)) || (decide ((w64 ((ix a0 s94).Retention + (ix a0 s94).Limit)) ≤ (ix (a0.take s94.toNat) s107).Retention)))))) 3 134 (fun hg => ?_) (fun hg => ?_) ?_
      ·have hg35_22 := hg
       refine Gn rfl rfl hg35_22 (D rfl (mv rfl) (Gn rfl rfl hg35_22 (D rfl (det_not rfl) (D rfl (det_and_on rfl rfl rfl hg35_22) ?_))))
       exact wl_nil (pn_qnE (ext_cons rfl (Ex 3 rfl rfl)) (fun _ h => h))
      ·have hg35_22a := hg
       refine Gf rfl rfl rfl hg35_22a (Gf rfl rfl rfl hg35_22a (D rfl (det_and_off (q := (!(r34_2 && ((decide ((w64 ((ix (a0.take s94.toNat) s107).Retention + (ix (a0.take s94.toNat) s107).Limit)) ≤ (ix a0 s94).Retention)) || (decide ((w64 ((ix a0 s94).Retention + (ix a0 s94).Limit)) ≤ (ix (a0.take s94.toNat) s107).Retention)))))) rfl rfl rfl hg35_22a) ?_))
       exact wl_nil (pn_qnE (ext_cons rfl (Ex 3 rfl rfl)) (fun _ h => h))
      refine Wn (Pt ?_)
      refine wc_cond rfl (fun cd121 => ?_) (fun cd121 => ?_)
      ·have h := ifT h cd121
       refine Wq (Wr (D rfl (ag rfl) ?_))
       refine Wn (Pt (Wt (Rb (Rt (Rt (Rb (Rb (Rt (Rt (Rb (Rt ?_)))))))))))
       obtain rfl := si h
       replace g107 := nextR g107
       subst g107
       have h := (elimL ho107)
       obtain rfl := si h
       have h := (elimR ho100)
       obtain rfl := si h
       replace g94 := nextR g94
       subst g94
       have h := (elimL ho94)
       obtain rfl := si h
       have h := (elimR ho90)
       obtain rfl := si h
       refine pn_ret (vs := [_]) rfl ⟨rfl, trivial⟩ ⟨rfl, rfl, rfl⟩ (fun _ h => h.to trivial trivial)
      ·have h := ifF h cd121
       refine Wk (Pb (Pt (Wr (D rfl (det_add rfl rfl) (D rfl (mv rfl) (Wn ?_))))))
       obtain rfl := si h
       exact pn_some (k107, (w64 (s107 + 1)), ()) ⟨nextL g107, Nat.lt_succ_self _⟩ (Sb rfl) (fun _ h => h.to ⟨_, (rs r0), trivial⟩ ⟨(ms (ms (ms (ms (ms (ms m0)))))), ⟨(ms (ms (ms (ms (ms (ms (ms m0))))))), ⟨(ms (ms (ms (ms (ms (ms (ms (ms m0)))))))), ⟨(ms (ms (ms (ms (ms (ms (ms (ms (ms m0))))))))), ⟨(ms (ms (ms (ms (ms (ms (ms (ms (ms (ms m0)))))))))), ⟨(ms (ms (ms (ms (ms (ms (ms (ms (ms (ms (ms m0))))))))))), ⟨(ms (ms (ms (ms (ms (ms (ms (ms (ms (ms (ms (ms m0)))))))))))), trivial⟩⟩⟩⟩⟩⟩⟩)
     ·have h := ifF h cd111
      refine We (Xt (Xt (Xb (Pb ?_))))
      obtain rfl := si h
      replace g107 := nextR g107
      subst g107
      have h := (elimR ho107)
      obtain rfl := si h
      exact pn_meetG ((), ()) rfl (Sb rfl) (fun _ h => h.to trivial ⟨m0, trivial⟩)
    rintro ⟨s100, _⟩ e100
    dsimp only at e100 ⊢
    subst e100
    have h := (elimL ho100)
    refine Wr (D rfl (det_add rfl rfl) (D rfl (mv rfl) (Wn ?_)))
    obtain rfl := si h
    exact pn_some (k94, (w64 (s94 + 1)), ()) ⟨nextL g94, Nat.lt_succ_self _⟩ (Sb rfl) (fun _ h => h.to trivial ⟨m0, trivial⟩)
   ·have h := ifF h cd98
    refine We (Xt (Xt (Xb ?_)))
    obtain rfl := si h
    replace g94 := nextR g94
    subst g94
    have h := (elimR ho94)
    obtain rfl := si h
    exact pn_meetG ((), ()) rfl trivial (fun _ h => h.to trivial trivial)
  rintro ⟨s90, _⟩ e90
  dsimp only at e90 ⊢
  subst e90
  have h := (elimL ho90)
  refine Wq (Wr (D rfl (ag rfl) (Wn (Pt (Wt ?_)))))
  obtain rfl := si h
  refine pn_ret (vs := [_]) rfl ⟨rfl, trivial⟩ ⟨rfl, rfl, rfl⟩ (fun _ h => h.to trivial trivial)
def Q_treatyref25_Order (r : (List Int) × Int) : Value → List Ent → List Fact → Prop := fun v θ κ => ∃ (pA0 : Option Addr), ∃ (pn0 : Nat), ∃ (pc0 : Nat), v = .tuple #[.slice pA0 pn0 pc0, .int .i64 r.2] ∧ θ = [eS (lInt .i64) 3 pA0 pn0 pc0 r.1] ∧ κ = []
theorem plains_treatyref25_Order {r : (List Int) × Int} : ∀ v θ κ, Q_treatyref25_Order r v θ κ → Plains θ := by
 rintro _ _ _ ⟨_, _, _, rfl, rfl, rfl⟩
 exact ⟨plain_eS, trivial⟩
set_option maxHeartbeats 4000000 in
set_option maxRecDepth 100000 in
theorem W_treatyref25_Order (a0 : (List GTreaty)) (A0 : Option Addr) (n0 : Nat) (c0 : Nat) (r : (List Int) × Int) (h : treatyref25_Order a0 = some r) : Spec Try.prog 11 [.slice A0 n0 c0] [] [fV (lSlice lGTreaty) (.slice A0 n0 c0) a0] (Q_treatyref25_Order r) := by
 unfold treatyref25_Order at h
 refine spec_of (σ := [(0, _)]) Try.func11 rfl rfl rfl rfl ?_
 intro C
 refine wc_know (fun _ h => h.lenF m0) (fun e => ?_)
 subst e
 refine Wq (Wr (D rfl (ag rfl) (D rfl (ag rfl) (Wn (Pt (Wq (Wq (Wr (D rfl (mv rfl) ?_)))))))))
 obtain ⟨r1_1, hr1_1, h⟩ := bs h
 refine Ac rfl (act_callS (cap := []) (W_treatyref25_Treaties a0 A0 a0.length c0 r1_1 hr1_1) rfl rfl rfl bd32 rfl ⟨m0, trivial⟩) ?_
 rintro _ _ _ ⟨_, _, ⟨rfl, rfl, rfl⟩, rfl, rfl⟩
 dsimp only [na, ca]
 refine D rfl (ag rfl) (Wn (Pt (Wq (Wr (D rfl (mv rfl) (D rfl (det_neq rfl rfl) (Wn (Pt ?_))))))))
 refine wc_cond rfl (fun cd7 => ?_) (fun cd7 => ?_)
 ·have h := ifT h cd7
  refine Wq (Wr (D rfl (mv rfl) (D rfl (ag rfl) (D rfl (ag rfl) (Wn (Pt (Wt (Rt ?_))))))))
  refine pn_st (fun _ h => h.zeroS (lInt .i64) 3 none) ?_
  obtain rfl := si h
  refine pn_ret (vs := [_, _]) rfl ⟨rfl, rfl, trivial⟩ ⟨none, 0, 0, rfl, rfl, rfl⟩ (fun _ h => h.to ⟨_, r0, trivial⟩ trivial)
 ·have h := ifF h cd7
  refine Wk (Pt (Wq (Wr (D rfl (ag rfl) (Wn (Pt ?_))))))
  obtain ⟨q12, h, ho12⟩ := bs h
  refine wc_meetG (G := (List Int) × Option Addr × Nat × Nat × Unit) (fun (s12, _, _, _, _) => s12 = q12) (fun (_, A12_0, n12_0, c12_0, _) => [(5, .slice A12_0 n12_0 c12_0)]) (fun (s12, A12_0, n12_0, c12_0, _) => [eS (lInt .i64) 3 A12_0 n12_0 c12_0 s12]) (fun (_, _, _, _, _) => []) ?_ ?_
  ·refine Wb ?_
   refine wc_st (fun _ h => h.zeroS (lInt .i64) 3 none) ?_
   obtain ⟨k14, hk14⟩ := loopV_some.1 h
   refine wc_loop (G := Nat × (List Int) × Option Addr × Nat × Nat × Unit) (fun g => IterN (treatyref25_Order_l14 a0) g.1 g.2.1 q12) (fun g => g.1) (fun (_, _, A14_0, n14_0, c14_0, _) => [(0, .slice A0 a0.length c0), (5, .slice A14_0 n14_0 c14_0)]) (fun (_, s14, A14_0, n14_0, c14_0, _) => [eS (lInt .i64) 3 A14_0 n14_0 c14_0 s14]) (fun (_, _, _, _, _, _) => [fV (lSlice lGTreaty) (.slice A0 a0.length c0) a0]) (k14, [], none, 0, 0, ()) hk14 (Sb rfl) (fun _ h => h.to ⟨_, r0, trivial⟩ ⟨m0, trivial⟩) ?_
   rintro ⟨k14, s14, A14_0, n14_0, c14_0, _⟩ hI
   obtain ⟨k14, rfl, q14, h, g14⟩ := IterN.pos hI
   dsimp only at h ⊢
   unfold treatyref25_Order_l14 at h
   refine wc_know (fun _ h => h.lenO m0) (fun e => ?_)
   subst e
   refine Wq (Wq (Wr (D rfl (mv rfl) (D rfl (det_len rfl un22) (D rfl (mv rfl) (D rfl (det_len rfl un23) (D rfl (det_lss rfl rfl) (Wn (Pt ?_)))))))))
   refine wc_cond rfl (fun cd18 => ?_) (fun cd18 => ?_)
   ·have h := ifT h cd18
    refine Wk (Pt ?_)
    obtain ⟨q20, h, ho20⟩ := bs h
    refine wc_meetN (G := (List Int) × Option Addr × Nat × Nat × Unit) (fun (s20, _, _, _, _) => s20 = q20) (fun (_, A20_0, n20_0, c20_0, _) => [(0, .slice A0 a0.length c0), (5, .slice A20_0 n20_0 c20_0)]) (fun (s20, A20_0, n20_0, c20_0, _) => [eS (lInt .i64) 3 A20_0 n20_0 c20_0 s20]) (fun (_, _, _, _, _) => [fV (lSlice lGTreaty) (.slice A0 a0.length c0) a0]) ?_ ?_
    ·refine Wb (Wq (Wr (D rfl (mv rfl) (D rfl (det_len rfl un23) (D rfl (mv rfl) (Wn (Pt (Wb ?_))))))))
     obtain ⟨k24, hk24⟩ := loopV_some.1 h
     refine wc_loop (G := Nat × Int × Unit) (fun g => IterN (treatyref25_Order_l24 a0 s14) g.1 g.2.1 q20) (fun g => g.1) (fun (_, s24, _) => [(0, .slice A0 a0.length c0), (5, .slice A14_0 s14.length c14_0), (21, .slice A0 a0.length c0), (22, .int .i64 (a0.length : Int)), (23, .int .i64 s24)]) (fun (_, _, _) => [eS (lInt .i64) 3 A14_0 s14.length c14_0 s14]) (fun (_, _, _) => [fV (lSlice lGTreaty) (.slice A0 a0.length c0) a0]) (k24, 0, ()) hk24 (Sb rfl) (fun _ h => h.to ⟨_, r0, trivial⟩ ⟨m0, trivial⟩) ?_
     rintro ⟨k24, s24, _⟩ hI
     obtain ⟨k24, rfl, q24, h, g24⟩ := IterN.pos hI
     dsimp only at h ⊢
     unfold treatyref25_Order_l24 at h
     refine Wq (Wr (D rfl (det_lss rfl rfl) (Wn (Pt (Wq ?_)))))
     refine wc_cond rfl (fun cd28 => ?_) (fun cd28 => ?_)
     ·have h := ifT h cd28
      refine Wk (Pt ?_)
      obtain ⟨q30, h, ho30⟩ := bs h
      refine wc_meetG (G := Unit × Unit) (fun (s30, _) => (.inl s30) = q30) (fun (_, _) => [(0, .slice A0 a0.length c0), (5, .slice A14_0 s14.length c14_0), (21, .slice A0 a0.length c0), (22, .int .i64 (a0.length : Int)), (23, .int .i64 s24)]) (fun (_, _) => [eS (lInt .i64) 3 A14_0 s14.length c14_0 s14]) (fun (_, _) => [fV (lSlice lGTreaty) (.slice A0 a0.length c0) a0]) ?_ ?_
      ·refine Wb (Wq (Wr (D rfl (mv rfl) ?_)))
       obtain ⟨k8_1, h⟩ := chk_some h
       refine wl_ex (G := Option Addr × Nat × Option Addr × Nat × Option Addr × Nat × Option Addr × Nat × Option Addr × Nat) _ _ (fun _ => True) (fun _ h => openGTreaty h m0 k8_1) ?_
       rintro ⟨A8_1, c8_1, A8_1a, c8_1a, A8_1b, c8_1b, A8_1c, c8_1c, A8_1d, c8_1d⟩ -
       dsimp only
       refine D rfl (det_indexP rfl rfl (ms (ms (ms (ms (ms (ms m0)))))) k8_1 m0 un23 sz41) (D rfl (det_loadP (off := 0) rfl m0 (by rfl) (by rfl) (loaded_n (cells := [_, _, _, _, _, _, _, _, _, _, _, _, _, _, _, _, _, _, _, _, _]) ag41 sz41)) (Ac rfl (act_alloc (cs := [_, _, _, _, _, _, _, _, _, _, _, _, _, _, _, _, _, _, _, _, _]) zr41 rfl) ?_))
       rintro _ _ _ ⟨b8_3, rfl, rfl, rfl⟩
       refine D rfl (ag rfl) (Az rfl (act_store (cells := [_, _, _, _, _, _, _, _, _, _, _, _, _, _, _, _, _, _, _, _, _]) (cs' := [_, _, _, _, _, _, _, _, _, _, _, _, _, _, _, _, _, _, _, _, _]) rfl rfl rfl s0 (by rfl) (of_decide_eq_true rfl) sz41 (On1 rfl)) ?_)
       rintro _ _ _ ⟨rfl, rfl⟩
       refine Wn (Pt (Wq (Wr (D rfl (mv rfl) (D rfl (mv rfl) ?_)))))
       obtain ⟨r9_2, hr9_2, h⟩ := bs h
       refine Ac rfl (act_callL (cap := []) [eS (lInt .i64) 3 A14_0 s14.length c14_0 s14] (W_treatyref25_Has s14 s24 A14_0 s14.length c14_0 r9_2 hr9_2) plains_treatyref25_Has rfl rfl rfl bd33 rfl ⟨(ms m0), trivial⟩ ⟨.inr ⟨_, m0, lent_eS⟩, trivial⟩) ?_
       rintro _ _ _ ⟨_, _, ⟨rfl, rfl, rfl⟩, rfl, rfl⟩
       dsimp only [na, ca]
       refine D rfl (det_not rfl) (D rfl (ag rfl) (Wn (Pt ?_)))
       obtain ⟨q36, h, ho36⟩ := bs h
       refine wc_meetG (G := Bool × Unit) (fun (s36, _) => s36 = q36) (fun (s36, _) => [(0, .slice A0 a0.length c0), (5, .slice A14_0 s14.length c14_0), (6, .int .i64 s24), (8, .bool s36), (21, .slice A0 a0.length c0), (22, .int .i64 (a0.length : Int)), (23, .int .i64 s24)]) (fun (_, _) => [eS (lInt .i64) 3 A14_0 s14.length c14_0 s14]) (fun (_, _) => [fV (lSlice lGTreaty) (.slice A0 a0.length c0) a0]) ?_ ?_
       ·refine Wq (Wr (D rfl (fd rfl fd41_18 rfl) (D rfl (ld rfl m0 (by rfl) na22 us22) (D rfl (det_len rfl un22) (D rfl (mv rfl) (Wn (Pt (Wb ?_))))))))
        obtain ⟨k40, hk40⟩ := loopV_some.1 h
        refine wc_loop (G := Nat × (Bool × Int) × Unit) (fun g => IterN (treatyref25_Order_l40 a0 s14 s24) g.1 g.2.1 q36) (fun g => g.1) (fun (_, s40, _) => [(0, .slice A0 a0.length c0), (5, .slice A14_0 s14.length c14_0), (6, .int .i64 s24), (8, .bool s40.1), (21, .slice A0 a0.length c0), (22, .int .i64 (a0.length : Int)), (23, .int .i64 s24), (33, .slice A8_1c (ix a0 s24).Inures.length c8_1c), (34, .int .i64 ((ix a0 s24).Inures.length : Int)), (35, .int .i64 s40.2)]) (fun (_, _, _) => [eS (lInt .i64) 3 A14_0 s14.length c14_0 s14]) (fun (_, _, _) => [fV (lSlice lGTreaty) (.slice A0 a0.length c0) a0, fV (lSlice (lInt .i64)) (.slice A8_1c (ix a0 s24).Inures.length c8_1c) (ix a0 s24).Inures]) (k40, ((!r9_2), 0), ()) hk40 (Sb rfl) (fun _ h => h.to ⟨_, (rs r0), trivial⟩ ⟨(ms (ms (ms (ms (ms (ms m0)))))), ⟨(ms (ms (ms (ms m0)))), trivial⟩⟩) ?_
        rintro ⟨k40, s40, _⟩ hI
        obtain ⟨k40, rfl, q40, h, g40⟩ := IterN.pos hI
        dsimp only at h ⊢
        unfold treatyref25_Order_l40 at h
        refine Wq (Wr (D rfl (det_lss rfl rfl) (Wn (Pt (Wq ?_)))))
        refine wc_cond rfl (fun cd44 => ?_) (fun cd44 => ?_)
        ·have h := ifT h cd44
         refine Wk (Pt (Wq (Wb (Wq (Wr ?_)))))
         obtain ⟨k12_0, h⟩ := chk_some h
         refine wl_st (fun _ h => h.openF (ms m0) k12_0) ?_
         refine D rfl (det_indexP rfl rfl (ms (ms m0)) k12_0 m0 un22 sz3) (D rfl (det_loadP (off := 0) rfl m0 (by rfl) (by rfl) (loaded_1 na3 us3)) (D rfl (ag rfl) (Wn (Pt (Wr (D rfl (mv rfl) (D rfl (mv rfl) ?_)))))))
         obtain ⟨q13_7, hq13_7, h⟩ := bs h
         have ho13_7 := h
         refine wl_way s40.1 q13_7 6 46 (fun hg => ?_) (fun hg => ?_) ?_
         ·have hg13_7 := hg
          have h := ifT hq13_7 hg
          refine Gn rfl rfl hg13_7 (D rfl (mv rfl) (Gn rfl rfl hg13_7 (D rfl (mv rfl) (Gn rfl rfl hg13_7 (D rfl (mv rfl) (Gn rfl rfl hg13_7 ?_))))))
          obtain ⟨r13_5, hr13_5, h⟩ := bs h
          refine Ac rfl (act_callS (cap := []) (W_treatyref25_Index a0 (ix (ix a0 s24).Inures s40.2) A0 a0.length c0 r13_5 hr13_5) rfl rfl rfl bd34 rfl ⟨(ms m0), trivial⟩) ?_
          rintro _ _ _ ⟨_, _, ⟨rfl, rfl, rfl⟩, rfl, rfl⟩
          dsimp only [na, ca]
          refine Gn rfl rfl hg13_7 ?_
          obtain ⟨r13_6, hr13_6, h⟩ := bs h
          refine Ac rfl (act_callL (cap := []) [eS (lInt .i64) 3 A14_0 s14.length c14_0 s14] (W_treatyref25_Has s14 r13_5 A14_0 s14.length c14_0 r13_6 hr13_6) plains_treatyref25_Has rfl rfl rfl bd33 rfl ⟨m0, trivial⟩ ⟨.inr ⟨_, m0, lent_eS⟩, trivial⟩) ?_
          rintro _ _ _ ⟨_, _, ⟨rfl, rfl, rfl⟩, rfl, rfl⟩
          dsimp only [na, ca]
          obtain rfl := si h
          refine D rfl (det_pick_on rfl hg13_7 rfl rfl) ?_
          exact wl_nil (pn_qnE (ext_cons rfl (Ex 6 rfl rfl)) (fun _ h => h))
         ·have hg13_7a := hg
          have h := ifF hq13_7 hg
          refine Gf rfl rfl rfl hg13_7a (Gf rfl rfl rfl hg13_7a (Gf rfl rfl rfl hg13_7a (Gf rfl rfl rfl hg13_7a (Gf rfl rfl rfl hg13_7a ?_))))
          obtain rfl := si h
          refine D rfl (det_pick_off rfl hg13_7a rfl rfl) ?_
          exact wl_nil (pn_qnE (ext_cons rfl (Ex 6 rfl rfl)) (fun _ h => h))
         have h := ho13_7
         refine D rfl (ag rfl) (Wn (Pb (Pt (Wr (D rfl (det_add rfl rfl) (D rfl (mv rfl) (Wn ?_)))))))
         obtain rfl := si h
         exact pn_some (k40, (q13_7, (w64 (s40.2 + 1))), ()) ⟨nextL g40, Nat.lt_succ_self _⟩ (Sb rfl) (fun _ h => h.to ⟨_, r0, trivial⟩ ⟨(ms m0), ⟨(ms (ms m0)), trivial⟩⟩)
        ·have h := ifF h cd44
         refine We (Xt (Xt (Xb ?_)))
         obtain rfl := si h
         replace g40 := nextR g40
         subst g40
         exact pn_meetG (s40.1, ()) rfl (Sb rfl) (fun _ h => h.to ⟨_, r0, trivial⟩ ⟨m0, trivial⟩)
       rintro ⟨s36, _⟩ e36
       dsimp only at e36 ⊢
       subst e36
       have h := ho36
       refine Wq (Wr (D rfl (mv rfl) (Wn (Pt ?_))))
       refine wc_cond rfl (fun cd54 => ?_) (fun cd54 => ?_)
       ·have h := ifT h cd54
        refine Wq (Wr (D rfl (mv rfl) (D rfl (mv rfl) (Ac rfl (act_litS (lInt .i64) (vs := [_]) (cs := [_]) [s24] un22 in3 rfl rfl rfl rfl rfl ⟨rfl, trivial⟩ (by rfl) rfl (litR_flat rfl)) ?_))))
        rintro _ _ _ ⟨A16_2, rfl, rfl, rfl⟩
        obtain ⟨k16_3, h⟩ := chk_some h
        refine Ac rfl (act_appendS (L := (lInt .i64)) rfl rfl (ss s0) (src_O m0) un22 in3 rfl rfl rfl k16_3) ?_
        rintro _ _ _ ⟨A16_3, c16_3, rfl, rfl, rfl⟩
        refine D rfl (ag rfl) (Wn (Pt (We (px_block_ne rfl (Xt (Xt (Xb (Pb ?_))))))))
        obtain rfl := si h
        have h := (elimR ho30)
        obtain rfl := si h
        replace g24 := nextR g24
        subst g24
        exact pn_meetG ((s14 ++ [s24]), A16_3, (s14 ++ [s24]).length, c16_3, ()) rfl (Sb rfl) (fun _ h => h.to ⟨_, (rs r0), trivial⟩ ⟨m0, trivial⟩)
       ·have h := ifF h cd54
        refine Wk (Pb ?_)
        obtain rfl := si h
        exact pn_meetG ((), ()) rfl (Sb rfl) (fun _ h => h.to ⟨_, r0, trivial⟩ ⟨m0, trivial⟩)
      rintro ⟨s30, _⟩ e30
      dsimp only at e30 ⊢
      subst e30
      have h := (elimL ho30)
      refine Wr (D rfl (det_add rfl rfl) (D rfl (mv rfl) (Wn ?_)))
      obtain rfl := si h
      exact pn_some (k24, (w64 (s24 + 1)), ()) ⟨nextL g24, Nat.lt_succ_self _⟩ (Sb rfl) (fun _ h => h.to ⟨_, r0, trivial⟩ ⟨m0, trivial⟩)
     ·have h := ifF h cd28
      refine We (Xt (Xt (Xb (Pb ?_))))
      obtain rfl := si h
      replace g24 := nextR g24
      subst g24
      exact pn_meetG (s14, A14_0, s14.length, c14_0, ()) rfl (Sb rfl) (fun _ h => h.to ⟨_, r0, trivial⟩ ⟨m0, trivial⟩)
    rintro ⟨s20, A20_0, n20_0, c20_0, _⟩ e20
    dsimp only at e20 ⊢
    subst e20
    have h := ho20
    refine pn_know (fun _ h => h.lenO m0) (fun e => ?_)
    subst e
    obtain rfl := si h
    exact pn_some (k14, s20, A20_0, s20.length, c20_0, ()) ⟨nextL g14, Nat.lt_succ_self _⟩ (Sb rfl) (fun _ h => h.to ⟨_, r0, trivial⟩ ⟨m0, trivial⟩)
   ·have h := ifF h cd18
    refine We (Xt (Xt (Xb ?_)))
    obtain rfl := si h
    replace g14 := nextR g14
    subst g14
    exact pn_meetG (s14, A14_0, s14.length, c14_0, ()) rfl (Sb rfl) (fun _ h => h.to ⟨_, r0, trivial⟩ trivial)
  rintro ⟨s12, A12_0, n12_0, c12_0, _⟩ e12
  dsimp only at e12 ⊢
  subst e12
  have h := ho12
  refine wc_know (fun _ h => h.lenO m0) (fun e => ?_)
  subst e
  refine Wq (Wr (D rfl (mv rfl) (D rfl (ag rfl) (D rfl (ag rfl) (Wn (Pt (Wt ?_)))))))
  obtain rfl := si h
  refine pn_ret (vs := [_, _]) rfl ⟨rfl, rfl, trivial⟩ ⟨A12_0, s12.length, c12_0, rfl, rfl, rfl⟩ (fun _ h => h.to ⟨_, r0, trivial⟩ trivial)
def Q_treatylaw29_three (r : (List GTreaty)) : Value → List Ent → List Fact → Prop := fun v θ κ => ∃ (pA0 : Option Addr), ∃ (pn0 : Nat), ∃ (pc0 : Nat), v = .slice pA0 pn0 pc0 ∧ θ = [eS lGTreaty 41 pA0 pn0 pc0 r] ∧ κ = []
set_option maxHeartbeats 4000000 in
set_option maxRecDepth 100000 in
theorem W_treatylaw29_three (a0 : Int) (r : (List GTreaty)) (h : treatylaw29_three a0 = some r) : Spec Try.prog 35 [.int .i64 a0] [] [] (Q_treatylaw29_three r) := by
 unfold treatylaw29_three at h
 refine spec_of (σ := [(0, _)]) Try.func35 rfl rfl rfl rfl ?_
 intro C
 refine Wq (Wr (D rfl (ag rfl) (Wn (Pt (Wq (Wr (D rfl (det_build (cs := [_, _]) pl38 zr38 rfl rfl (by rfl)) (Ac rfl (act_alloc (cs := [_, _]) zr38 rfl) ?_))))))))
 rintro _ _ _ ⟨b1_1, rfl, rfl, rfl⟩
 refine Az rfl (act_store (cells := [_, _]) (cs' := [_, _]) rfl rfl rfl s0 (by rfl) (of_decide_eq_true rfl) sz38 (On1 rfl)) ?_
 rintro _ _ _ ⟨rfl, rfl⟩
 refine Wn (Pt (Wq (Wr (D rfl (det_loadN (cells := [_, _]) rfl m0 (by rfl) ag38 sz38) (D rfl (det_build (cs := [_, _, _, _, _, _, _, _, _, _, _, _, _, _, _, _, _, _, _, _, _]) pl41 zr41 rfl rfl (by rfl)) (D rfl (det_loadN (cells := [_, _]) rfl m0 (by rfl) ag38 sz38) (Ac rfl (act_litS (lInt .i64) (vs := [_]) (cs := [_]) [1] un22 in3 rfl rfl rfl rfl rfl ⟨rfl, trivial⟩ (by rfl) rfl (litR_flat rfl)) ?_)))))))
 rintro _ _ _ ⟨A2_3, rfl, rfl, rfl⟩
 refine D rfl (det_build (cs := [_, _, _, _, _, _, _, _, _, _, _, _, _, _, _, _, _, _, _, _, _]) pl41 zr41 rfl rfl (by rfl)) (D rfl (det_loadN (cells := [_, _]) rfl (ms m0) (by rfl) ag38 sz38) (D rfl (mv rfl) (Ac rfl (act_litS (lInt .i64) (vs := [_]) (cs := [_]) [1] un22 in3 rfl rfl rfl rfl rfl ⟨rfl, trivial⟩ (by rfl) rfl (litR_flat rfl)) ?_)))
 rintro _ _ _ ⟨A2_7, rfl, rfl, rfl⟩
 refine D rfl (det_build (cs := [_, _, _, _, _, _, _, _, _, _, _, _, _, _, _, _, _, _, _, _, _]) pl41 zr41 rfl rfl (by rfl)) ?_
 refine wl_st (fun _ h => h.zeroF (lInt .i64) none 0) ?_
 refine wl_st (fun _ h => h.zeroF lGPart none 0) ?_
 refine wl_st (fun _ h => h.fact (f := fC lGTreaty [.int .i64 1, .int .i64 1, .int .i64 0, .int .i64 100, .slice none 0 0, .slice none 0 0, .int .i64 0, .int .i64 500000, .int .i64 0, .int .i64 0, .int .i64 0, .int .i64 0, .int .i64 0, .int .i64 0, .int .i64 0, .int .i64 0, .slice none 0 0, .bool false, .int .i64 0, .slice none 0 0, .slice none 0 0] (GTreaty.mk 1 1 (GPeriod.mk 0 100) [] [] 0 500000 0 0 0 0 0 0 0 0 [] false 0 [] [])) (mkGTreaty (x := (GTreaty.mk 1 1 (GPeriod.mk 0 100) [] [] 0 500000 0 0 0 0 0 0 0 0 [] false 0 [] [])) ⟨h.facts _ (ms m0), h.facts _ (ms m0), h.facts _ (ms m0), h.facts _ (ms m0), h.facts _ m0, trivial⟩)) ?_
 refine wl_st (fun _ h => h.shutS (rs r0)) ?_
 refine wl_st (fun _ h => h.fact (f := fC lGTreaty [.int .i64 2, .int .i64 5, .int .i64 0, .int .i64 100, .slice none 0 0, .slice none 0 0, .int .i64 0, .int .i64 0, .int .i64 0, .int .i64 0, .int .i64 100, .int .i64 100, .int .i64 24, .int .i64 0, .int .i64 0, .int .i64 0, .slice none 0 0, .bool false, .int .i64 0, .slice A2_3 1 1, .slice none 0 0] (GTreaty.mk 2 5 (GPeriod.mk 0 100) [] [] 0 0 0 0 100 100 24 0 0 0 [] false 0 [1] [])) (mkGTreaty (x := (GTreaty.mk 2 5 (GPeriod.mk 0 100) [] [] 0 0 0 0 100 100 24 0 0 0 [] false 0 [1] [])) ⟨h.facts _ (ms (ms (ms m0))), h.facts _ (ms (ms (ms m0))), h.facts _ (ms (ms (ms m0))), h.facts _ m0, h.facts _ (ms (ms m0)), trivial⟩)) ?_
 refine wl_st (fun _ h => h.shutS r0) ?_
 refine wl_st (fun _ h => h.fact (f := fC lGTreaty [.int .i64 3, .int .i64 5, .int .i64 0, .int .i64 100, .slice none 0 0, .slice none 0 0, .int .i64 0, .int .i64 0, .int .i64 0, .int .i64 0, .int .i64 a0, .int .i64 300, .int .i64 24, .int .i64 0, .int .i64 0, .int .i64 0, .slice none 0 0, .bool false, .int .i64 0, .slice A2_7 1 1, .slice none 0 0] (GTreaty.mk 3 5 (GPeriod.mk 0 100) [] [] 0 0 0 0 a0 300 24 0 0 0 [] false 0 [1] [])) (mkGTreaty (x := (GTreaty.mk 3 5 (GPeriod.mk 0 100) [] [] 0 0 0 0 a0 300 24 0 0 0 [] false 0 [1] [])) ⟨h.facts _ (ms (ms (ms (ms (ms m0))))), h.facts _ (ms (ms (ms (ms (ms m0))))), h.facts _ (ms (ms (ms (ms (ms m0))))), h.facts _ m0, h.facts _ (ms (ms (ms (ms m0)))), trivial⟩)) ?_
 refine Ac rfl (act_litS lGTreaty (vs := [_, _, _]) (cs := [_, _, _, _, _, _, _, _, _, _, _, _, _, _, _, _, _, _, _, _, _, _, _, _, _, _, _, _, _, _, _, _, _, _, _, _, _, _, _, _, _, _, _, _, _, _, _, _, _, _, _, _, _, _, _, _, _, _, _, _, _, _, _]) [(GTreaty.mk 1 1 (GPeriod.mk 0 100) [] [] 0 500000 0 0 0 0 0 0 0 0 [] false 0 [] []), (GTreaty.mk 2 5 (GPeriod.mk 0 100) [] [] 0 0 0 0 100 100 24 0 0 0 [] false 0 [1] []), (GTreaty.mk 3 5 (GPeriod.mk 0 100) [] [] 0 0 0 0 a0 300 24 0 0 0 [] false 0 [1] [])] un23 in41 rfl rfl rfl rfl rfl ⟨rfl, rfl, rfl, trivial⟩ (by rfl) rfl (fun _ h => by have q := ((oneF h (ms (ms (ms (ms m0))))).cat (oneF h (ms (ms m0)))).cat (oneF h m0); exact q)) ?_
 rintro _ _ _ ⟨A2_9, rfl, rfl, rfl⟩
 refine D rfl (ag rfl) (Wn (Pt (Wt ?_)))
 obtain rfl := si h
 refine pn_ret (vs := [_]) rfl ⟨rfl, trivial⟩ ⟨A2_9, 3, 3, rfl, rfl, rfl⟩ (fun _ h => h.to ⟨_, r0, trivial⟩ trivial)
def Q_inuring_Depends (r : Bool) : Value → List Ent → List Fact → Prop := fun v θ κ => v = .bool r ∧ θ = [] ∧ κ = []
theorem plains_inuring_Depends {r : Bool} : ∀ v θ κ, Q_inuring_Depends r v θ κ → Plains θ := by
 rintro _ _ _ ⟨rfl, rfl, rfl⟩
 exact trivial
set_option maxHeartbeats 4000000 in
set_option maxRecDepth 100000 in
theorem W_inuring_Depends (a0 : (List GTreaty)) (a1 : Int) (a2 : Int) (A0 : Option Addr) (n0 : Nat) (c0 : Nat) (r : Bool) (h : inuring_Depends a0 a1 a2 = some r) : Spec Try.prog 14 [.slice A0 n0 c0, .int .i64 a1, .int .i64 a2] [] [fV (lSlice lGTreaty) (.slice A0 n0 c0) a0] (Q_inuring_Depends r) := by
 unfold inuring_Depends at h
 refine spec_of (σ := [(0, _), (1, _), (2, _)]) Try.func14 rfl rfl rfl rfl ?_
 intro C
 refine wc_know (fun _ h => h.lenF m0) (fun e => ?_)
 subst e
 refine Wq (Wr (D rfl (ag rfl) (Wn (Pt (Wq (Wq (Wr (D rfl (mv rfl) (D rfl (det_lss rfl rfl) (D rfl (mv rfl) ?_))))))))))
 refine wl_way (decide (a1 < 0)) ((decide (a1 < 0)) || (decide ((a0.length : Int) ≤ a1))) 5 22 (fun hg => ?_) (fun hg => ?_) ?_
 ·have hg1_7 := hg
  refine Gf rfl rfl rfl hg1_7 (Gf rfl rfl rfl hg1_7 (Gf rfl rfl rfl hg1_7 (Gf rfl rfl rfl hg1_7 (D rfl (det_or_on (r := (decide ((a0.length : Int) ≤ a1))) rfl rfl rfl hg1_7) ?_))))
  exact wl_nil (pn_qnE (ext_cons rfl (Ex 5 rfl rfl)) (fun _ h => h))
 ·have hg1_7a := hg
  refine Gn rfl rfl hg1_7a (D rfl (mv rfl) (Gn rfl rfl hg1_7a (D rfl (mv rfl) (Gn rfl rfl hg1_7a (D rfl (det_len rfl un23) (Gn rfl rfl hg1_7a (D rfl (det_geq rfl rfl) (D rfl (det_or_off rfl rfl rfl hg1_7a) ?_))))))))
  exact wl_nil (pn_qnE (ext_cons rfl (Ex 5 rfl rfl)) (fun _ h => h))
 refine D rfl (mv rfl) ?_
 refine wl_way ((decide (a1 < 0)) || (decide ((a0.length : Int) ≤ a1))) (((decide (a1 < 0)) || (decide ((a0.length : Int) ≤ a1))) || (decide (a2 < 0))) 3 26 (fun hg => ?_) (fun hg => ?_) ?_
 ·have hg1_11 := hg
  refine Gf rfl rfl rfl hg1_11 (Gf rfl rfl rfl hg1_11 (D rfl (det_or_on (r := (decide (a2 < 0))) rfl rfl rfl hg1_11) ?_))
  exact wl_nil (pn_qnE (ext_cons rfl (Ex 3 rfl rfl)) (fun _ h => h))
 ·have hg1_11a := hg
  refine Gn rfl rfl hg1_11a (D rfl (mv rfl) (Gn rfl rfl hg1_11a (D rfl (det_lss rfl rfl) (D rfl (det_or_off rfl rfl rfl hg1_11a) ?_))))
  exact wl_nil (pn_qnE (ext_cons rfl (Ex 3 rfl rfl)) (fun _ h => h))
 refine D rfl (mv rfl) ?_
 refine wl_way (((decide (a1 < 0)) || (decide ((a0.length : Int) ≤ a1))) || (decide (a2 < 0))) ((((decide (a1 < 0)) || (decide ((a0.length : Int) ≤ a1))) || (decide (a2 < 0))) || (decide ((a0.length : Int) ≤ a2))) 5 32 (fun hg => ?_) (fun hg => ?_) ?_
 ·have hg1_17 := hg
  refine Gf rfl rfl rfl hg1_17 (Gf rfl rfl rfl hg1_17 (Gf rfl rfl rfl hg1_17 (Gf rfl rfl rfl hg1_17 (D rfl (det_or_on (r := (decide ((a0.length : Int) ≤ a2))) rfl rfl rfl hg1_17) ?_))))
  exact wl_nil (pn_qnE (ext_cons rfl (Ex 5 rfl rfl)) (fun _ h => h))
 ·have hg1_17a := hg
  refine Gn rfl rfl hg1_17a (D rfl (mv rfl) (Gn rfl rfl hg1_17a (D rfl (mv rfl) (Gn rfl rfl hg1_17a (D rfl (det_len rfl un23) (Gn rfl rfl hg1_17a (D rfl (det_geq rfl rfl) (D rfl (det_or_off rfl rfl rfl hg1_17a) ?_))))))))
  exact wl_nil (pn_qnE (ext_cons rfl (Ex 5 rfl rfl)) (fun _ h => h))
 refine Wn (Pt ?_)
 refine wc_cond rfl (fun cd5 => ?_) (fun cd5 => ?_)
 ·have h := ifT h cd5
  refine Wq (Wr (D rfl (ag rfl) (Wn (Pt (Wt (Rt ?_))))))
  obtain rfl := si h
  refine pn_ret (vs := [_]) rfl ⟨rfl, trivial⟩ ⟨rfl, rfl, rfl⟩ (fun _ h => h.to trivial trivial)
 ·have h := ifF h cd5
  refine Wk (Pt (Wq (Wr (Ac rfl (act_makeMapS encKI (lInt .i64)) ?_))))
  rintro _ _ _ ⟨b3_0, rfl, rfl, rfl⟩
  refine D rfl (ag rfl) (Wn (Pt ?_))
  obtain ⟨q10, h, ho10⟩ := bs h
  refine wc_meetG (G := (List (Int × (List Int))) × Unit) (fun (s10, _) => s10 = q10) (fun (_, _) => [(0, .slice A0 a0.length c0), (1, .int .i64 a1), (2, .int .i64 a2), (7, .map (some b3_0))]) (fun (s10, _) => [eMS encKI (lInt .i64) b3_0 s10]) (fun (_, _) => [fV (lSlice lGTreaty) (.slice A0 a0.length c0) a0]) ?_ ?_
  ·refine Wq (Wr (D rfl (mv rfl) (D rfl (det_len rfl un23) (D rfl (mv rfl) (Wn (Pt (Wb ?_)))))))
   obtain ⟨k14, hk14⟩ := loopV_some.1 h
   refine wc_loop (G := Nat × ((List (Int × (List Int))) × Int) × Unit) (fun g => IterN (inuring_Depends_l14 a0) g.1 g.2.1 q10) (fun g => g.1) (fun (_, s14, _) => [(0, .slice A0 a0.length c0), (1, .int .i64 a1), (2, .int .i64 a2), (7, .map (some b3_0)), (34, .slice A0 a0.length c0), (35, .int .i64 (a0.length : Int)), (36, .int .i64 s14.2)]) (fun (_, s14, _) => [eMS encKI (lInt .i64) b3_0 s14.1]) (fun (_, _, _) => [fV (lSlice lGTreaty) (.slice A0 a0.length c0) a0]) (k14, ([], 0), ()) hk14 (Sb rfl) (fun _ h => h.to ⟨_, r0, trivial⟩ ⟨m0, trivial⟩) ?_
   rintro ⟨k14, s14, _⟩ hI
   obtain ⟨k14, rfl, q14, h, g14⟩ := IterN.pos hI
   dsimp only at h ⊢
   unfold inuring_Depends_l14 at h
   refine Wq (Wr (D rfl (det_lss rfl rfl) (Wn (Pt (Wq ?_)))))
   refine wc_cond rfl (fun cd18 => ?_) (fun cd18 => ?_)
   ·have h := ifT h cd18
    refine Wk (Pt (Wq (Wb (Wq (Wr (D rfl (mv rfl) ?_))))))
    obtain ⟨k6_1, h⟩ := chk_some h
    refine wl_ex (G := Option Addr × Nat × Option Addr × Nat × Option Addr × Nat × Option Addr × Nat × Option Addr × Nat) _ _ (fun _ => True) (fun _ h => openGTreaty h m0 k6_1) ?_
    rintro ⟨A6_1, c6_1, A6_1a, c6_1a, A6_1b, c6_1b, A6_1c, c6_1c, A6_1d, c6_1d⟩ -
    dsimp only
    refine D rfl (det_indexP rfl rfl (ms (ms (ms (ms (ms (ms m0)))))) k6_1 m0 un23 sz41) (D rfl (det_loadP (off := 0) rfl m0 (by rfl) (by rfl) (loaded_n (cells := [_, _, _, _, _, _, _, _, _, _, _, _, _, _, _, _, _, _, _, _, _]) ag41 sz41)) (Ac rfl (act_alloc (cs := [_, _, _, _, _, _, _, _, _, _, _, _, _, _, _, _, _, _, _, _, _]) zr41 rfl) ?_))
    rintro _ _ _ ⟨b6_3, rfl, rfl, rfl⟩
    refine D rfl (ag rfl) (Az rfl (act_store (cells := [_, _, _, _, _, _, _, _, _, _, _, _, _, _, _, _, _, _, _, _, _]) (cs' := [_, _, _, _, _, _, _, _, _, _, _, _, _, _, _, _, _, _, _, _, _]) rfl rfl rfl s0 (by rfl) (of_decide_eq_true rfl) sz41 (On1 rfl)) ?_)
    rintro _ _ _ ⟨rfl, rfl⟩
    refine Wn (Pt ?_)
    refine wc_st (fun _ h => h.zeroS (lInt .i64) 3 none) ?_
    obtain ⟨k7_p1, h⟩ := chk_some h
    obtain ⟨k7_p2, h⟩ := chk_some h
    refine dx_regionZ (Z := St C [_, _] [_, _, _, _, _, _, _]) 10 [[], [], [1], [], [], [4], [3, 4, 5], [], [7], [3, 4, 5, 6, 7, 8], [0, 1, 2, 3, 4, 5, 6, 7, 8, 9]] mixed (ord := (.det 0 (.det 1 (.det 2 (.det 3 (.det 4 (.det 5 (.det 6 (.det 7 (.alt 8 (.alt 9 .done .dead) .dead)))))))))) (by kernel_rfl) (fun _ h => h.to ⟨_, (rs r0), ⟨_, (rs r0), trivial⟩⟩ ⟨m0, ⟨(ms m0), ⟨(ms (ms m0)), ⟨(ms (ms (ms m0))), ⟨(ms (ms (ms (ms m0)))), ⟨(ms (ms (ms (ms (ms m0))))), ⟨(ms (ms (ms (ms (ms (ms m0)))))), trivial⟩⟩⟩⟩⟩⟩⟩) ?_
    refine Hd rfl rfl rfl (mv rfl) (Hd rfl rfl rfl (fd rfl fd41_0 rfl) (Hd rfl rfl rfl (ld rfl m0 (by rfl) na3 us3) (Hd rfl rfl rfl (mv rfl) (Hd rfl rfl rfl (fd rfl fd41_0 rfl) (Hd rfl rfl rfl (ld rfl m0 (by rfl) na3 us3) (Hd rfl rfl rfl (det_lookupS0 (L := (lInt .i64)) (k := (ix a0 s14.2).ID) rfl rfl rfl (ms m0) (keyOk_int un3) um62 zr22 (by simpa using k7_p1)) (Hd rfl rfl rfl (mv rfl) ?_)))))))
    refine hx_mut rfl rfl rfl (act_litS (lInt .i64) (vs := [_]) (cs := [_]) [s14.2] un22 in3 rfl rfl rfl rfl rfl ⟨rfl, trivial⟩ (by rfl) rfl (litR_flat rfl)) rfl (by rintro _ _ _ ⟨A7_8, rfl, rfl, rfl⟩ w hs; exact hs.to ⟨_, (rs (rs r0)), ⟨_, (rs (rs r0)), trivial⟩⟩ ⟨m0, ⟨(ms m0), ⟨(ms (ms m0)), ⟨(ms (ms (ms m0))), ⟨(ms (ms (ms (ms m0)))), ⟨(ms (ms (ms (ms (ms m0))))), ⟨(ms (ms (ms (ms (ms (ms m0)))))), trivial⟩⟩⟩⟩⟩⟩⟩) ?_
    rintro _ _ _ ⟨A7_8, rfl, rfl, rfl⟩
    refine hx_mut rfl rfl rfl (act_appendS0 (L := (lInt .i64)) rfl rfl (ss s0) (src_O m0) un22 in3 rfl rfl rfl k7_p2) rfl (by rintro _ _ _ ⟨A7_9, c7_9, rfl, rfl, rfl⟩ w hs; exact hs.to ⟨_, (rs (rs r0)), ⟨_, (rs (rs r0)), trivial⟩⟩ ⟨m0, ⟨(ms m0), ⟨(ms (ms m0)), ⟨(ms (ms (ms m0))), ⟨(ms (ms (ms (ms m0)))), ⟨(ms (ms (ms (ms (ms m0))))), ⟨(ms (ms (ms (ms (ms (ms m0)))))), trivial⟩⟩⟩⟩⟩⟩⟩) ?_
    rintro _ _ _ ⟨A7_9, c7_9, rfl, rfl, rfl⟩
    refine hx_end ?_
    refine wl_st (fun _ h => h.shutS (rs r0)) ?_
    refine Az rfl (act_mapUpdateS (L := (lInt .i64)) (k := (ix a0 s14.2).ID) rfl rfl rfl rfl rfl m0 (ss (ss s0)) (keyOk_int un3) um62) ?_
    rintro _ _ _ ⟨rfl, rfl⟩
    refine Wn (Pb (Pt (Wr (D rfl (det_add rfl rfl) (D rfl (mv rfl) (Wn ?_))))))
    obtain rfl := si h
    exact pn_some (k14, ((mset s14.1 (ix a0 s14.2).ID [s14.2]), (w64 (s14.2 + 1))), ()) ⟨nextL g14, Nat.lt_succ_self _⟩ (Sb rfl) (fun _ h => h.to ⟨_, (rs (rs r0)), trivial⟩ ⟨(ms (ms (ms (ms (ms (ms (ms m0))))))), trivial⟩)
   ·have h := ifF h cd18
    refine We (Xt (Xt (Xb ?_)))
    obtain rfl := si h
    replace g14 := nextR g14
    subst g14
    exact pn_meetG (s14.1, ()) rfl (Sb rfl) (fun _ h => h.to ⟨_, r0, trivial⟩ ⟨m0, trivial⟩)
  rintro ⟨s10, _⟩ e10
  dsimp only at e10 ⊢
  subst e10
  have h := ho10
  refine Wq (Wr (D rfl (mv rfl) (Ac rfl (act_litS (lInt .i64) (vs := [_]) (cs := [_]) [a1] un22 in3 rfl rfl rfl rfl rfl ⟨rfl, trivial⟩ (by rfl) rfl (litR_flat rfl)) ?_)))
  rintro _ _ _ ⟨A9_1, rfl, rfl, rfl⟩
  refine D rfl (ag rfl) (Wn (Pt ?_))
  obtain ⟨q28, h, ho28⟩ := bs h
  refine wc_meetG (G := Unit × Unit) (fun (s28, _) => (.inl s28) = q28) (fun (_, _) => []) (fun (_, _) => []) (fun (_, _) => []) ?_ ?_
  ·refine Wb ?_
   obtain ⟨o30, h, ho30⟩ := bs h
   obtain ⟨k30, hk30⟩ := loopV_some.1 h
   refine wc_loop (G := Nat × ((List (Int × (List Int))) × (List Int)) × Option Addr × Nat × Nat × Unit) (fun g => IterN (inuring_Depends_l30 a0 a2) g.1 g.2.1 o30) (fun g => g.1) (fun (_, _, A30_0, n30_0, c30_0, _) => [(0, .slice A0 a0.length c0), (2, .int .i64 a2), (7, .map (some b3_0)), (10, .slice A30_0 n30_0 c30_0)]) (fun (_, s30, A30_0, n30_0, c30_0, _) => [eMS encKI (lInt .i64) b3_0 s30.1, eS (lInt .i64) 3 A30_0 n30_0 c30_0 s30.2]) (fun (_, _, _, _, _, _) => [fV (lSlice lGTreaty) (.slice A0 a0.length c0) a0]) (k30, (s10, [a1]), A9_1, 1, 1, ()) hk30 (Sb rfl) (fun _ h => h.to ⟨_, (rs r0), ⟨_, r0, trivial⟩⟩ ⟨m0, trivial⟩) ?_
   rintro ⟨k30, s30, A30_0, n30_0, c30_0, _⟩ hI
   obtain ⟨k30, rfl, q30, h, g30⟩ := IterN.pos hI
   dsimp only at h ⊢
   unfold inuring_Depends_l30 at h
   refine wc_know (fun _ h => h.lenO (ms m0)) (fun e => ?_)
   subst e
   refine Wq (Wq (Wr (D rfl (mv rfl) (D rfl (det_len rfl un22) (D rfl (det_gtr rfl rfl) (Wn (Pt ?_)))))))
   refine wc_cond rfl (fun cd34 => ?_) (fun cd34 => ?_)
   ·have h := ifT h cd34
    refine Wk (Pt ?_)
    obtain ⟨q36, h, ho36⟩ := bs h
    refine wc_meetN (G := ((List (Int × (List Int))) × (List Int)) × Option Addr × Nat × Nat × Unit) (fun (s36, _, _, _, _) => (.inl s36) = q36) (fun (_, A36_0, n36_0, c36_0, _) => [(0, .slice A0 a0.length c0), (2, .int .i64 a2), (7, .map (some b3_0)), (10, .slice A36_0 n36_0 c36_0)]) (fun (s36, A36_0, n36_0, c36_0, _) => [eMS encKI (lInt .i64) b3_0 s36.1, eS (lInt .i64) 3 A36_0 n36_0 c36_0 s36.2]) (fun (_, _, _, _, _) => [fV (lSlice lGTreaty) (.slice A0 a0.length c0) a0]) ?_ ?_
    ·refine Wb ?_
     refine Wq (Wr (D rfl (mv rfl) (D rfl (det_len rfl un22) (D rfl (det_sub rfl rfl) (D rfl (ag rfl) (Wn (Pt (Wq (Wr (D rfl (mv rfl) (D rfl (mv rfl) ?_)))))))))))
     obtain ⟨k12_2, h⟩ := chk_some h
     refine D rfl (det_indexO rfl rfl (ms m0) k12_2 un22 sz3) (D rfl (det_loadO (off := 0) rfl (ms m0) k12_2 (by rfl) (by rfl) (loaded_1 na3 us3)) (D rfl (ag rfl) (Wn (Pt (Wq (Wr (D rfl (mv rfl) (D rfl (mv rfl) ?_))))))))
     obtain ⟨k13_2, h⟩ := chk_some h
     obtain ⟨k13_2a, h⟩ := chk_some h
     refine Ac rfl (act_sliceOH rfl rfl (rs r0) un22 sz3 k13_2 k13_2a) ?_
     rintro _ _ _ ⟨rfl, rfl, rfl⟩
     refine D rfl (ag rfl) (Wn (Pt (Wq (Wr (D rfl (mv rfl) (D rfl (mv rfl) ?_))))))
     obtain ⟨k14_2, h⟩ := chk_some h
     refine wl_ex (G := Option Addr × Nat × Option Addr × Nat × Option Addr × Nat × Option Addr × Nat × Option Addr × Nat) _ _ (fun _ => True) (fun _ h => openGTreaty h m0 k14_2) ?_
     rintro ⟨A14_2, c14_2, A14_2a, c14_2a, A14_2b, c14_2b, A14_2c, c14_2c, A14_2d, c14_2d⟩ -
     dsimp only
     refine D rfl (det_indexP rfl rfl (ms (ms (ms (ms (ms (ms m0)))))) k14_2 m0 un23 sz41) (D rfl (det_fieldP rfl m0 fd41_18 rfl) (D rfl (det_loadP (off := 19) rfl m0 (by rfl) (by rfl) (loaded_1 na22 us22)) (D rfl (det_len rfl un22) (D rfl (mv rfl) (Wn (Pt (Wb ?_)))))))
     obtain ⟨o46, h, ho46⟩ := bs h
     obtain ⟨k46, hk46⟩ := loopV_some.1 h
     refine wc_loop (G := Nat × ((List (Int × (List Int))) × (List Int) × Int) × Option Addr × Nat × Nat × Unit) (fun g => IterN (inuring_Depends_l46 a0 a2 s30) g.1 g.2.1 o46) (fun g => g.1) (fun (_, s46, A46_0, n46_0, c46_0, _) => [(0, .slice A0 a0.length c0), (2, .int .i64 a2), (7, .map (some b3_0)), (10, .slice A46_0 n46_0 c46_0), (71, .slice A14_2c (ix a0 (ix s30.2 (w64 ((s30.2.length : Int) - 1)))).Inures.length c14_2c), (72, .int .i64 ((ix a0 (ix s30.2 (w64 ((s30.2.length : Int) - 1)))).Inures.length : Int)), (73, .int .i64 s46.2.2)]) (fun (_, s46, A46_0, n46_0, c46_0, _) => [eMS encKI (lInt .i64) b3_0 s46.1, eS (lInt .i64) 3 A46_0 n46_0 c46_0 s46.2.1]) (fun (_, _, _, _, _, _) => [fV (lSlice lGTreaty) (.slice A0 a0.length c0) a0, fV (lSlice (lInt .i64)) (.slice A14_2c (ix a0 (ix s30.2 (w64 ((s30.2.length : Int) - 1)))).Inures.length c14_2c) (ix a0 (ix s30.2 (w64 ((s30.2.length : Int) - 1)))).Inures]) (k46, (s30.1, (s30.2.take (w64 ((s30.2.length : Int) - 1)).toNat), 0), A30_0, (s30.2.take (w64 ((s30.2.length : Int) - 1)).toNat).length, c30_0, ()) hk46 (Sb rfl) (fun _ h => h.to ⟨_, (rs r0), ⟨_, r0, trivial⟩⟩ ⟨(ms (ms (ms (ms (ms (ms m0)))))), ⟨(ms (ms (ms (ms m0)))), trivial⟩⟩) ?_
     rintro ⟨k46, s46, A46_0, n46_0, c46_0, _⟩ hI
     obtain ⟨k46, rfl, q46, h, g46⟩ := IterN.pos hI
     dsimp only at h ⊢
     unfold inuring_Depends_l46 at h
     refine wc_know (fun _ h => h.lenO (ms m0)) (fun e => ?_)
     subst e
     refine Wq (Wr (D rfl (det_lss rfl rfl) (Wn (Pt (Wq ?_)))))
     refine wc_cond rfl (fun cd50 => ?_) (fun cd50 => ?_)
     ·have h := ifT h cd50
      refine Wk (Pt (Wq (Wb (Wq (Wr ?_)))))
      obtain ⟨k16_0, h⟩ := chk_some h
      refine wl_st (fun _ h => h.openF (ms m0) k16_0) ?_
      refine D rfl (det_indexP rfl rfl (ms (ms m0)) k16_0 m0 un22 sz3) (D rfl (det_loadP (off := 0) rfl m0 (by rfl) (by rfl) (loaded_1 na3 us3)) (D rfl (ag rfl) (Wn (Pt (Wq (Wq (Wr (D rfl (mv rfl) (D rfl (mv rfl) (D rfl (mv rfl) ?_))))))))))
      obtain ⟨k17_3, h⟩ := chk_some h
      refine wl_ex (G := Option Addr × Nat × Option Addr × Nat × Option Addr × Nat × Option Addr × Nat × Option Addr × Nat) _ _ (fun _ => True) (fun _ h => openGTreaty h (ms m0) k17_3) ?_
      rintro ⟨A17_3, c17_3, A17_3a, c17_3a, A17_3b, c17_3b, A17_3c, c17_3c, A17_3d, c17_3d⟩ -
      dsimp only
      refine D rfl (det_indexP rfl rfl (ms (ms (ms (ms (ms (ms (ms m0))))))) k17_3 m0 un23 sz41) (D rfl (det_fieldP rfl m0 fd41_0 rfl) (D rfl (det_loadP (off := 0) rfl m0 (by rfl) (by rfl) (loaded_1 na3 us3)) (D rfl (det_eql rfl rfl) (Wn (Pt ?_)))))
      refine wc_cond rfl (fun cd59 => ?_) (fun cd59 => ?_)
      ·have h := ifT h cd59
       refine Wq (Wr (D rfl (ag rfl) (Wn ?_)))
       refine Pt (Wt (Rt (Rb (Rt (Rt (Rb (Rb (Rt (Rt (Rb (Rt ?_)))))))))))
       obtain rfl := si h
       replace g46 := nextR g46
       subst g46
       have h := (elimL ho46)
       obtain rfl := si h
       have h := (elimR ho36)
       obtain rfl := si h
       replace g30 := nextR g30
       subst g30
       have h := (elimL ho30)
       obtain rfl := si h
       have h := (elimR ho28)
       obtain rfl := si h
       refine pn_ret (vs := [_]) rfl ⟨rfl, trivial⟩ ⟨rfl, rfl, rfl⟩ (fun _ h => h.to trivial trivial)
      ·have h := ifF h cd59
       refine Wk (Pt (Wq (Wr (D rfl (mv rfl) (D rfl (mv rfl) (D rfl (mv rfl) (Ac rfl (act_lookupS (L := (lInt .i64)) (k := (ix (ix a0 (ix s30.2 (w64 ((s30.2.length : Int) - 1)))).Inures s46.2.2)) rfl rfl rfl m0 (keyOk_int un3) um62 zr22) ?_)))))))
       rintro _ _ _ ⟨A19_3, n19_3, c19_3, rfl, rfl, rfl⟩
       dsimp only [na, ca]
       refine wl_know (fun _ h => h.lenF m0) (fun e => ?_)
       subst e
       obtain ⟨k19_4, h⟩ := chk_some h
       refine Ac rfl (act_appendS (L := (lInt .i64)) rfl rfl (ss s0) (src_F m0) un22 in3 rfl rfl rfl k19_4) ?_
       rintro _ _ _ ⟨A19_4, c19_4, rfl, rfl, rfl⟩
       refine D rfl (ag rfl) (Wn (Pt (Wr (D rfl (mv rfl) (D rfl (mv rfl) (Az rfl (act_deleteS (L := (lInt .i64)) (k := (ix (ix a0 (ix s30.2 (w64 ((s30.2.length : Int) - 1)))).Inures s46.2.2)) rfl rfl rfl s0 (keyOk_int un3) um62) ?_))))))
       rintro _ _ _ ⟨rfl, rfl, rfl⟩
       refine Wn (Pb (Pt (Wr (D rfl (det_add rfl rfl) (D rfl (mv rfl) (Wn ?_))))))
       obtain rfl := si h
       exact pn_some (k46, ((mdel s46.1 (ix (ix a0 (ix s30.2 (w64 ((s30.2.length : Int) - 1)))).Inures s46.2.2)), (s46.2.1 ++ (mget s46.1 (ix (ix a0 (ix s30.2 (w64 ((s30.2.length : Int) - 1)))).Inures s46.2.2) [])), (w64 (s46.2.2 + 1))), A19_4, (s46.2.1 ++ (mget s46.1 (ix (ix a0 (ix s30.2 (w64 ((s30.2.length : Int) - 1)))).Inures s46.2.2) [])).length, c19_4, ()) ⟨nextL g46, Nat.lt_succ_self _⟩ (Sb rfl) (fun _ h => h.to ⟨_, r0, ⟨_, r0, trivial⟩⟩ ⟨(ms (ms (ms (ms (ms (ms (ms (ms m0)))))))), ⟨(ms (ms (ms (ms (ms (ms (ms (ms (ms m0))))))))), trivial⟩⟩)
     ·have h := ifF h cd50
      refine We (Xt (Xt (Xb (Pb ?_))))
      obtain rfl := si h
      replace g46 := nextR g46
      subst g46
      have h := (elimR ho46)
      obtain rfl := si h
      exact pn_meetG ((s46.1, s46.2.1), A46_0, s46.2.1.length, c46_0, ()) rfl (Sb rfl) (fun _ h => h.to ⟨_, r0, ⟨_, r0, trivial⟩⟩ ⟨m0, trivial⟩)
    rintro ⟨s36, A36_0, n36_0, c36_0, _⟩ e36
    dsimp only at e36 ⊢
    subst e36
    have h := (elimL ho36)
    refine pn_know (fun _ h => h.lenO (ms m0)) (fun e => ?_)
    subst e
    obtain rfl := si h
    exact pn_some (k30, (s36.1, s36.2), A36_0, s36.2.length, c36_0, ()) ⟨nextL g30, Nat.lt_succ_self _⟩ (Sb rfl) (fun _ h => h.to ⟨_, r0, ⟨_, r0, trivial⟩⟩ ⟨m0, trivial⟩)
   ·have h := ifF h cd34
    refine We (Xt (Xt (Xb ?_)))
    obtain rfl := si h
    replace g30 := nextR g30
    subst g30
    have h := (elimR ho30)
    obtain rfl := si h
    exact pn_meetG ((), ()) rfl trivial (fun _ h => h.to trivial trivial)
  rintro ⟨s28, _⟩ e28
  dsimp only at e28 ⊢
  subst e28
  have h := (elimL ho28)
  refine Wq (Wr (D rfl (ag rfl) (Wn (Pt (Wt ?_)))))
  obtain rfl := si h
  refine pn_ret (vs := [_]) rfl ⟨rfl, trivial⟩ ⟨rfl, rfl, rfl⟩ (fun _ h => h.to trivial trivial)
def Q_treatylaw29_awake (r : Bool) : Value → List Ent → List Fact → Prop := fun v θ κ => v = .bool r ∧ θ = [] ∧ κ = []
theorem plains_treatylaw29_awake {r : Bool} : ∀ v θ κ, Q_treatylaw29_awake r v θ κ → Plains θ := by
 rintro _ _ _ ⟨rfl, rfl, rfl⟩
 exact trivial
set_option maxHeartbeats 4000000 in
set_option maxRecDepth 100000 in
theorem W_treatylaw29_awake (r : Bool) (h : treatylaw29_awake = some r) : Spec Try.prog 13 [] [] [] (Q_treatylaw29_awake r) := by
 unfold treatylaw29_awake at h
 refine spec_of (σ := []) Try.func13 rfl rfl rfl rfl ?_
 intro C
 refine Wq (Wr (D rfl (ag rfl) (Wn (Pt (Wq (Wr ?_))))))
 obtain ⟨r1_0, hr1_0, h⟩ := bs h
 refine Ac rfl (act_callS (cap := []) (W_treatylaw29_three 200 r1_0 hr1_0) rfl rfl rfl bd35 rfl trivial) ?_
 rintro _ _ _ ⟨_, _, ⟨y1_0A0, y1_0n0, y1_0c0, rfl, rfl, rfl⟩, rfl, rfl⟩
 dsimp only [na, ca]
 refine wl_know (fun _ h => h.lenO m0) (fun e => ?_)
 subst e
 obtain ⟨r1_1, hr1_1, h⟩ := bs h
 refine Ac rfl (act_callL (cap := []) [eS lGTreaty 41 y1_0A0 r1_0.length y1_0c0 r1_0] (W_inuring_Order r1_0 y1_0A0 r1_0.length y1_0c0 r1_1 hr1_1) plains_inuring_Order rfl rfl rfl bd10 rfl ⟨m0, trivial⟩ ⟨.inr ⟨_, m0, lent_eS⟩, trivial⟩) ?_
 rintro _ _ _ ⟨_, _, ⟨y1_1A0, y1_1n0, y1_1c0, rfl, rfl, rfl⟩, rfl, rfl⟩
 dsimp only [na, ca]
 refine wl_know (fun _ h => h.lenO m0) (fun e => ?_)
 subst e
 refine D rfl (mv rfl) (D rfl (det_extract rfl rfl) (D rfl (det_extract rfl rfl) (D rfl (ag rfl) (D rfl (ag rfl) (Wn (Pt (Wq (Wr (D rfl (mv rfl) (D rfl (det_eql rfl rfl) (D rfl (mv rfl) ?_)))))))))))
 obtain ⟨q2_6, hq2_6, h⟩ := bs h
 have ho2_6 := h
 refine wl_way (decide (r1_1.2 = 0)) q2_6 4 14 (fun hg => ?_) (fun hg => ?_) ?_
 ·have hg2_6 := hg
  have h := ifT hq2_6 hg
  refine Gn rfl rfl hg2_6 (D rfl (mv rfl) (Gn rfl rfl hg2_6 (Ac rfl (act_litS (lInt .i64) (vs := [_, _, _]) (cs := [_, _, _]) [0, 1, 2] un22 in3 rfl rfl rfl rfl rfl ⟨rfl, rfl, rfl, trivial⟩ (by rfl) rfl (litR_flat rfl)) ?_)))
  rintro _ _ _ ⟨A2_4, rfl, rfl, rfl⟩
  refine Gn rfl rfl hg2_6 ?_
  obtain ⟨r2_5, hr2_5, h⟩ := bs h
  refine Ac rfl (act_callL (cap := []) [eS (lInt .i64) 3 y1_1A0 r1_1.1.length y1_1c0 r1_1.1, eS (lInt .i64) 3 A2_4 3 3 [0, 1, 2]] (W_treatyref01_SameInts r1_1.1 [0, 1, 2] y1_1A0 r1_1.1.length y1_1c0 A2_4 3 3 r2_5 hr2_5) plains_treatyref01_SameInts rfl rfl rfl bd12 rfl ⟨(ms m0), ⟨m0, trivial⟩⟩ ⟨.inr ⟨_, m0, lent_eS⟩, ⟨.inr ⟨_, (ms m0), lent_eS⟩, trivial⟩⟩) ?_
  rintro _ _ _ ⟨_, _, ⟨rfl, rfl, rfl⟩, rfl, rfl⟩
  dsimp only [na, ca]
  obtain rfl := si h
  refine D rfl (det_pick_on rfl hg2_6 rfl rfl) ?_
  exact wl_nil (pn_qnE (ext_cons rfl (Ex 4 rfl rfl)) (fun _ h => h.to ⟨_, (rs r0), ⟨_, (rs r0), trivial⟩⟩ trivial))
 ·have hg2_6a := hg
  have h := ifF hq2_6 hg
  refine Gf rfl rfl rfl hg2_6a (Gf rfl rfl rfl hg2_6a (Gf rfl rfl rfl hg2_6a ?_))
  obtain rfl := si h
  refine D rfl (det_pick_off rfl hg2_6a rfl rfl) ?_
  exact wl_nil (pn_qnE (ext_cons rfl (Ex 4 rfl rfl)) (fun _ h => h))
 have h := ho2_6
 refine D rfl (mv rfl) ?_
 obtain ⟨q2_11, hq2_11, h⟩ := bs h
 have ho2_11 := h
 refine wl_way q2_6 q2_11 4 19 (fun hg => ?_) (fun hg => ?_) ?_
 ·have hg2_11 := hg
  have h := ifT hq2_11 hg
  refine Gn rfl rfl hg2_11 ?_
  obtain ⟨r2_8, hr2_8, h⟩ := bs h
  refine Ac rfl (act_callS (cap := []) (W_treatylaw29_three 150 r2_8 hr2_8) rfl rfl rfl bd35 rfl trivial) ?_
  rintro _ _ _ ⟨_, _, ⟨y2_8A0, y2_8n0, y2_8c0, rfl, rfl, rfl⟩, rfl, rfl⟩
  dsimp only [na, ca]
  refine wl_know (fun _ h => h.lenO m0) (fun e => ?_)
  subst e
  refine Gn rfl rfl hg2_11 ?_
  obtain ⟨r2_9, hr2_9, h⟩ := bs h
  refine Ac rfl (act_callL (cap := []) [eS lGTreaty 41 y2_8A0 r2_8.length y2_8c0 r2_8] (W_inuring_Validate r2_8 y2_8A0 r2_8.length y2_8c0 r2_9 hr2_9) plains_inuring_Validate rfl rfl rfl bd15 rfl ⟨m0, trivial⟩ ⟨.inr ⟨_, m0, lent_eS⟩, trivial⟩) ?_
  rintro _ _ _ ⟨_, _, ⟨rfl, rfl, rfl⟩, rfl, rfl⟩
  dsimp only [na, ca]
  refine Gn rfl rfl hg2_11 (D rfl (det_eql rfl rfl) ?_)
  obtain rfl := si h
  refine D rfl (det_pick_on rfl hg2_11 rfl rfl) ?_
  exact wl_nil (pn_qnE (ext_cons rfl (Ex 4 rfl rfl)) (fun _ h => h.to ⟨_, (rs r0), ⟨_, (rs r0), trivial⟩⟩ trivial))
 ·have hg2_11a := hg
  have h := ifF hq2_11 hg
  refine Gf rfl rfl rfl hg2_11a (Gf rfl rfl rfl hg2_11a (Gf rfl rfl rfl hg2_11a ?_))
  obtain rfl := si h
  refine D rfl (det_pick_off rfl hg2_11a rfl rfl) ?_
  exact wl_nil (pn_qnE (ext_cons rfl (Ex 4 rfl rfl)) (fun _ h => h))
 have h := ho2_11
 refine D rfl (mv rfl) ?_
 obtain ⟨q2_15, hq2_15, h⟩ := bs h
 have ho2_15 := h
 refine wl_way q2_11 q2_15 3 23 (fun hg => ?_) (fun hg => ?_) ?_
 ·have hg2_15 := hg
  have h := ifT hq2_15 hg
  refine Gn rfl rfl hg2_15 ?_
  obtain ⟨r2_13, hr2_13, h⟩ := bs h
  refine Ac rfl (act_callS (cap := []) (W_treatylaw29_three 200 r2_13 hr2_13) rfl rfl rfl bd35 rfl trivial) ?_
  rintro _ _ _ ⟨_, _, ⟨y2_13A0, y2_13n0, y2_13c0, rfl, rfl, rfl⟩, rfl, rfl⟩
  dsimp only [na, ca]
  refine wl_know (fun _ h => h.lenO m0) (fun e => ?_)
  subst e
  refine Gn rfl rfl hg2_15 ?_
  obtain ⟨r2_14, hr2_14, h⟩ := bs h
  refine Ac rfl (act_callL (cap := []) [eS lGTreaty 41 y2_13A0 r2_13.length y2_13c0 r2_13] (W_inuring_Depends r2_13 2 0 y2_13A0 r2_13.length y2_13c0 r2_14 hr2_14) plains_inuring_Depends rfl rfl rfl bd14 rfl ⟨m0, trivial⟩ ⟨.inr ⟨_, m0, lent_eS⟩, trivial⟩) ?_
  rintro _ _ _ ⟨_, _, ⟨rfl, rfl, rfl⟩, rfl, rfl⟩
  dsimp only [na, ca]
  obtain rfl := si h
  refine D rfl (det_pick_on rfl hg2_15 rfl rfl) ?_
  exact wl_nil (pn_qnE (ext_cons rfl (Ex 3 rfl rfl)) (fun _ h => h.to ⟨_, (rs r0), ⟨_, (rs r0), trivial⟩⟩ trivial))
 ·have hg2_15a := hg
  have h := ifF hq2_15 hg
  refine Gf rfl rfl rfl hg2_15a (Gf rfl rfl rfl hg2_15a ?_)
  obtain rfl := si h
  refine D rfl (det_pick_off rfl hg2_15a rfl rfl) ?_
  exact wl_nil (pn_qnE (ext_cons rfl (Ex 3 rfl rfl)) (fun _ h => h))
 have h := ho2_15
 refine D rfl (ag rfl) (Wn (Pt (Wt ?_)))
 obtain rfl := si h
 refine pn_ret (vs := [_]) rfl ⟨rfl, trivial⟩ ⟨rfl, rfl, rfl⟩ (fun _ h => h.to trivial trivial)
def Q_treatylaw29_InuringOrder (r : Bool) : Value → List Ent → List Fact → Prop := fun v θ κ => v = .bool r ∧ θ = [] ∧ κ = []
theorem plains_treatylaw29_InuringOrder {r : Bool} : ∀ v θ κ, Q_treatylaw29_InuringOrder r v θ κ → Plains θ := by
 rintro _ _ _ ⟨rfl, rfl, rfl⟩
 exact trivial
set_option maxHeartbeats 4000000 in
set_option maxRecDepth 100000 in
theorem W_treatylaw29_InuringOrder (a0 : (List Int)) (a1 : Int) (a2 : Int) (A0 : Option Addr) (n0 : Nat) (c0 : Nat) (r : Bool) (h : treatylaw29_InuringOrder a0 a1 a2 = some r) : Spec Try.prog 3 [.slice A0 n0 c0, .int .i64 a1, .int .i64 a2] [] [fV (lSlice (lInt .i64)) (.slice A0 n0 c0) a0] (Q_treatylaw29_InuringOrder r) := by
 unfold treatylaw29_InuringOrder at h
 refine spec_of (σ := [(0, _), (1, _), (2, _)]) Try.func3 rfl rfl rfl rfl ?_
 intro C
 refine wc_know (fun _ h => h.lenF m0) (fun e => ?_)
 subst e
 refine Wq (Wr (D rfl (ag rfl) (Wn (Pt (Wq (Wr (D rfl (mv rfl) ?_)))))))
 obtain ⟨r1_1, hr1_1, h⟩ := bs h
 refine Ac rfl (act_callS (cap := []) (W_treatymade2_New a0 A0 a0.length c0 r1_1 hr1_1) rfl rfl rfl bd8 rfl ⟨m0, trivial⟩) ?_
 rintro _ _ _ ⟨_, _, ⟨y1_1b0, y1_1A1, y1_1n1, y1_1c1, rfl, rfl, rfl⟩, rfl, rfl⟩
 dsimp only [na, ca]
 refine wl_know (fun _ h => h.lenF m0) (fun e => ?_)
 subst e
 obtain ⟨r1_2, hr1_2, h⟩ := bs h
 refine Ac rfl (act_callS (cap := []) (W_treatymade2_Treaties r1_1 8 y1_1b0 y1_1A1 r1_1.L.length y1_1c1 r1_2 hr1_2) rfl rfl rfl bd7 ⟨_, r0, rfl⟩ ⟨m0, trivial⟩) ?_
 rintro _ _ _ ⟨_, _, ⟨y1_2A0, y1_2n0, y1_2c0, y1_2A1, y1_2n1, y1_2c1, rfl, rfl, rfl⟩, rfl, rfl⟩
 dsimp only [na, ca]
 refine wl_know (fun _ h => h.lenO m0) (fun e => ?_)
 subst e
 refine wl_know (fun _ h => h.lenF m0) (fun e => ?_)
 subst e
 refine D rfl (ag rfl) (Wn (Pt (Wq (Wr (D rfl (mv rfl) (D rfl (mv rfl) (D rfl (mv rfl) ?_)))))))
 refine wl_st (fun _ h => h.shutS r0) ?_
 obtain ⟨r2_3, hr2_3, h⟩ := bs h
 refine Ac rfl (act_callS (cap := []) (W_treatylaw29_spoilt r1_2.1 a1 a2 y1_2A0 r1_2.1.length y1_2c0 r2_3 hr2_3) rfl rfl rfl bd9 rfl ⟨m0, trivial⟩) ?_
 rintro _ _ _ ⟨_, _, ⟨y2_3A0, y2_3n0, y2_3c0, rfl, rfl, rfl⟩, rfl, rfl⟩
 dsimp only [na, ca]
 refine wl_know (fun _ h => h.lenO m0) (fun e => ?_)
 subst e
 refine D rfl (ag rfl) (Wn (Pt (Wq (Wr (D rfl (mv rfl) ?_)))))
 obtain ⟨r3_1, hr3_1, h⟩ := bs h
 refine Ac rfl (act_callS (cap := []) (W_inuring_Order r1_2.1 y1_2A0 r1_2.1.length y1_2c0 r3_1 hr3_1) rfl rfl rfl bd10 rfl ⟨m0, trivial⟩) ?_
 rintro _ _ _ ⟨_, _, ⟨y3_1A0, y3_1n0, y3_1c0, rfl, rfl, rfl⟩, rfl, rfl⟩
 dsimp only [na, ca]
 refine wl_know (fun _ h => h.lenO m0) (fun e => ?_)
 subst e
 refine D rfl (mv rfl) (D rfl (det_extract rfl rfl) (D rfl (det_extract rfl rfl) (D rfl (ag rfl) (D rfl (ag rfl) (Wn (Pt (Wq (Wr (D rfl (mv rfl) ?_)))))))))
 obtain ⟨r4_1, hr4_1, h⟩ := bs h
 refine Ac rfl (act_callS (cap := []) (W_treatyref25_Order r1_2.1 y1_2A0 r1_2.1.length y1_2c0 r4_1 hr4_1) rfl rfl rfl bd11 rfl ⟨m0, trivial⟩) ?_
 rintro _ _ _ ⟨_, _, ⟨y4_1A0, y4_1n0, y4_1c0, rfl, rfl, rfl⟩, rfl, rfl⟩
 dsimp only [na, ca]
 refine wl_know (fun _ h => h.lenO m0) (fun e => ?_)
 subst e
 refine D rfl (mv rfl) (D rfl (det_extract rfl rfl) (D rfl (det_extract rfl rfl) (D rfl (ag rfl) (D rfl (ag rfl) (Wn (Pt (Wq (Wr (D rfl (mv rfl) ?_)))))))))
 obtain ⟨r5_1, hr5_1, h⟩ := bs h
 refine Ac rfl (act_callL (cap := []) [eS lGTreaty 41 y2_3A0 r2_3.length y2_3c0 r2_3] (W_inuring_Order r2_3 y2_3A0 r2_3.length y2_3c0 r5_1 hr5_1) plains_inuring_Order rfl rfl rfl bd10 rfl ⟨(ms (ms m0)), trivial⟩ ⟨.inr ⟨_, m0, lent_eS⟩, trivial⟩) ?_
 rintro _ _ _ ⟨_, _, ⟨y5_1A0, y5_1n0, y5_1c0, rfl, rfl, rfl⟩, rfl, rfl⟩
 dsimp only [na, ca]
 refine wl_know (fun _ h => h.lenO m0) (fun e => ?_)
 subst e
 refine D rfl (mv rfl) (D rfl (det_extract rfl rfl) (D rfl (det_extract rfl rfl) (D rfl (ag rfl) (D rfl (ag rfl) (Wn (Pt (Wq (Wr (D rfl (mv rfl) ?_)))))))))
 obtain ⟨r6_1, hr6_1, h⟩ := bs h
 refine Ac rfl (act_callL (cap := []) [eS lGTreaty 41 y2_3A0 r2_3.length y2_3c0 r2_3] (W_treatyref25_Order r2_3 y2_3A0 r2_3.length y2_3c0 r6_1 hr6_1) plains_treatyref25_Order rfl rfl rfl bd11 rfl ⟨(ms (ms (ms m0))), trivial⟩ ⟨.inr ⟨_, m0, lent_eS⟩, trivial⟩) ?_
 rintro _ _ _ ⟨_, _, ⟨y6_1A0, y6_1n0, y6_1c0, rfl, rfl, rfl⟩, rfl, rfl⟩
 dsimp only [na, ca]
 refine wl_know (fun _ h => h.lenO m0) (fun e => ?_)
 subst e
 refine D rfl (mv rfl) (D rfl (det_extract rfl rfl) (D rfl (det_extract rfl rfl) (D rfl (ag rfl) (D rfl (ag rfl) (Wn (Pt (Wq (Wr (D rfl (mv rfl) (D rfl (mv rfl) ?_))))))))))
 obtain ⟨r7_2, hr7_2, h⟩ := bs h
 refine Ac rfl (act_callL (cap := []) [eS (lInt .i64) 3 y3_1A0 r3_1.1.length y3_1c0 r3_1.1, eS (lInt .i64) 3 y4_1A0 r4_1.1.length y4_1c0 r4_1.1] (W_treatyref01_SameInts r3_1.1 r4_1.1 y3_1A0 r3_1.1.length y3_1c0 y4_1A0 r4_1.1.length y4_1c0 r7_2 hr7_2) plains_treatyref01_SameInts rfl rfl rfl bd12 rfl ⟨(ms (ms (ms m0))), ⟨(ms (ms m0)), trivial⟩⟩ ⟨.inr ⟨_, m0, lent_eS⟩, ⟨.inr ⟨_, (ms m0), lent_eS⟩, trivial⟩⟩) ?_
 rintro _ _ _ ⟨_, _, ⟨rfl, rfl, rfl⟩, rfl, rfl⟩
 dsimp only [na, ca]
 refine D rfl (mv rfl) ?_
 refine wl_way r7_2 (r7_2 && (decide (r3_1.2 = r4_1.2))) 4 51 (fun hg => ?_) (fun hg => ?_) ?_
 ·have hg7_7 := hg
  refine Gn rfl rfl hg7_7 (D rfl (mv rfl) (Gn rfl rfl hg7_7 (D rfl (mv rfl) (Gn rfl rfl hg7_7 (D rfl (det_eql rfl rfl) (D rfl (det_and_on rfl rfl rfl hg7_7) ?_))))))
  exact wl_nil (pn_qnE (ext_cons rfl (Ex 4 rfl rfl)) (fun _ h => h))
 ·have hg7_7a := hg
  refine Gf rfl rfl rfl hg7_7a (Gf rfl rfl rfl hg7_7a (Gf rfl rfl rfl hg7_7a (D rfl (det_and_off (q := (decide (r3_1.2 = r4_1.2))) rfl rfl rfl hg7_7a) ?_)))
  exact wl_nil (pn_qnE (ext_cons rfl (Ex 4 rfl rfl)) (fun _ h => h))
 refine D rfl (mv rfl) ?_
 obtain ⟨q7_12, hq7_12, h⟩ := bs h
 have ho7_12 := h
 refine wl_way (r7_2 && (decide (r3_1.2 = r4_1.2))) q7_12 4 56 (fun hg => ?_) (fun hg => ?_) ?_
 ·have hg7_12 := hg
  have h := ifT hq7_12 hg
  refine Gn rfl rfl hg7_12 (D rfl (mv rfl) (Gn rfl rfl hg7_12 (D rfl (mv rfl) (Gn rfl rfl hg7_12 ?_))))
  obtain ⟨r7_11, hr7_11, h⟩ := bs h
  refine Ac rfl (act_callL (cap := []) [eS (lInt .i64) 3 y5_1A0 r5_1.1.length y5_1c0 r5_1.1, eS (lInt .i64) 3 y6_1A0 r6_1.1.length y6_1c0 r6_1.1] (W_treatyref01_SameInts r5_1.1 r6_1.1 y5_1A0 r5_1.1.length y5_1c0 y6_1A0 r6_1.1.length y6_1c0 r7_11 hr7_11) plains_treatyref01_SameInts rfl rfl rfl bd12 rfl ⟨(ms m0), ⟨m0, trivial⟩⟩ ⟨.inr ⟨_, m0, lent_eS⟩, ⟨.inr ⟨_, (ms m0), lent_eS⟩, trivial⟩⟩) ?_
  rintro _ _ _ ⟨_, _, ⟨rfl, rfl, rfl⟩, rfl, rfl⟩
  dsimp only [na, ca]
  obtain rfl := si h
  refine D rfl (det_pick_on rfl hg7_12 rfl rfl) ?_
  exact wl_nil (pn_qnE (ext_cons rfl (Ex 4 rfl rfl)) (fun _ h => h))
 ·have hg7_12a := hg
  have h := ifF hq7_12 hg
  refine Gf rfl rfl rfl hg7_12a (Gf rfl rfl rfl hg7_12a (Gf rfl rfl rfl hg7_12a ?_))
  obtain rfl := si h
  refine D rfl (det_pick_off rfl hg7_12a rfl rfl) ?_
  exact wl_nil (pn_qnE (ext_cons rfl (Ex 4 rfl rfl)) (fun _ h => h))
 have h := ho7_12
 refine D rfl (mv rfl) ?_
 refine wl_way q7_12 (q7_12 && (decide (r5_1.2 = r6_1.2))) 4 61 (fun hg => ?_) (fun hg => ?_) ?_
 ·have hg7_17 := hg
  refine Gn rfl rfl hg7_17 (D rfl (mv rfl) (Gn rfl rfl hg7_17 (D rfl (mv rfl) (Gn rfl rfl hg7_17 (D rfl (det_eql rfl rfl) (D rfl (det_and_on rfl rfl rfl hg7_17) ?_))))))
  exact wl_nil (pn_qnE (ext_cons rfl (Ex 4 rfl rfl)) (fun _ h => h))
 ·have hg7_17a := hg
  refine Gf rfl rfl rfl hg7_17a (Gf rfl rfl rfl hg7_17a (Gf rfl rfl rfl hg7_17a (D rfl (det_and_off (q := (decide (r5_1.2 = r6_1.2))) rfl rfl rfl hg7_17a) ?_)))
  exact wl_nil (pn_qnE (ext_cons rfl (Ex 4 rfl rfl)) (fun _ h => h))
 refine D rfl (mv rfl) ?_
 obtain ⟨q7_20, hq7_20, h⟩ := bs h
 have ho7_20 := h
 refine wl_way (q7_12 && (decide (r5_1.2 = r6_1.2))) q7_20 2 64 (fun hg => ?_) (fun hg => ?_) ?_
 ·have hg7_20 := hg
  have h := ifT hq7_20 hg
  refine Gn rfl rfl hg7_20 ?_
  obtain ⟨r7_19, hr7_19, h⟩ := bs h
  refine Ac rfl (act_callS (cap := []) (W_treatylaw29_awake r7_19 hr7_19) rfl rfl rfl bd13 rfl trivial) ?_
  rintro _ _ _ ⟨_, _, ⟨rfl, rfl, rfl⟩, rfl, rfl⟩
  dsimp only [na, ca]
  obtain rfl := si h
  refine D rfl (det_pick_on rfl hg7_20 rfl rfl) ?_
  exact wl_nil (pn_qnE (ext_cons rfl (Ex 2 rfl rfl)) (fun _ h => h))
 ·have hg7_20a := hg
  have h := ifF hq7_20 hg
  refine Gf rfl rfl rfl hg7_20a ?_
  obtain rfl := si h
  refine D rfl (det_pick_off rfl hg7_20a rfl rfl) ?_
  exact wl_nil (pn_qnE (ext_cons rfl (Ex 2 rfl rfl)) (fun _ h => h))
 have h := ho7_20
 refine D rfl (ag rfl) (Wn (Pt (Wt ?_)))
 obtain rfl := si h
 refine pn_ret (vs := [_]) rfl ⟨rfl, trivial⟩ ⟨rfl, rfl, rfl⟩ (fun _ h => h.to trivial trivial)
end Go.Proofs.Ytfekcgnnhjmeiaa
