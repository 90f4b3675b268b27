/- That functions of the program compute the plain programs of P. Written by a small program. -/
import Derived.Test.YtfekcgnnhjmeiaaWInuringComes2
namespace Go.Proofs.Ytfekcgnnhjmeiaa
open Go.RowKit
def Q_inuring_Depends (r : Bool) : Value → List Ent → List Fact → Prop := fun v θ κ => v = .bool r ∧ θ = [] ∧ κ = []
theorem plains_inuring_Depends {r : Bool} : ∀ v θ κ, Q_inuring_Depends r v θ κ → Plains θ := by
 rintro _ _ _ ⟨rfl, rfl, rfl⟩
 exact trivial
set_option maxHeartbeats 4000000 in
set_option maxRecDepth 100000 in
theorem W_inuring_Depends (a0 : (List GTreaty)) (a1 : Int) (a2 : Int) (A0 : Option Addr) (n0 : Nat) (c0 : Nat) (r : Bool) (h : inuring_Depends a0 a1 a2 = some r) : Spec Try.prog 14 [.slice A0 n0 c0, .int .i64 a1, .int .i64 a2] [] [fV (lSlice lGTreaty) (.slice A0 n0 c0) a0] (Q_inuring_Depends r) := by
 unfold inuring_Depends at h
 refine spec_of (σ := [(0, _), (1, _), (2, _)]) Try.func14 rfl rfl rfl rfl ?_
 intro C
 refine wc_know (fun _ h => h.lenF m0) (fun e => ?_)
 subst e
 refine Wq (Wr (D rfl (ag rfl) (Wn (Pt (Wq (Wq (Wr (D rfl (mv rfl) (D rfl (det_lss rfl rfl) (D rfl (mv rfl) ?_))))))))))
 refine wl_way (decide (a1 < 0)) ((decide (a1 < 0)) || (decide ((a0.length : Int) ≤ a1))) 5 22 (fun hg => ?_) (fun hg => ?_) ?_
 ·have hg1_7 := hg
  refine Gf rfl rfl rfl hg1_7 (Gf rfl rfl rfl hg1_7 (Gf rfl rfl rfl hg1_7 (Gf rfl rfl rfl hg1_7 (D rfl (det_or_on (r := (decide ((a0.length : Int) ≤ a1))) rfl rfl rfl hg1_7) ?_))))
  exact wl_nil (pn_qnE (ext_cons rfl (Ex 5 rfl rfl)) (fun _ h => h))
 ·have hg1_7a := hg
  refine Gn rfl rfl hg1_7a (D rfl (mv rfl) (Gn rfl rfl hg1_7a (D rfl (mv rfl) (Gn rfl rfl hg1_7a (D rfl (det_len rfl un23) (Gn rfl rfl hg1_7a (D rfl (det_geq rfl rfl) (D rfl (det_or_off rfl rfl rfl hg1_7a) ?_))))))))
  exact wl_nil (pn_qnE (ext_cons rfl (Ex 5 rfl rfl)) (fun _ h => h))
 refine D rfl (mv rfl) ?_
 refine wl_way ((decide (a1 < 0)) || (decide ((a0.length : Int) ≤ a1))) (((decide (a1 < 0)) || (decide ((a0.length : Int) ≤ a1))) || (decide (a2 < 0))) 3 26 (fun hg => ?_) (fun hg => ?_) ?_
 ·have hg1_11 := hg
  refine Gf rfl rfl rfl hg1_11 (Gf rfl rfl rfl hg1_11 (D rfl (det_or_on (r := (decide (a2 < 0))) rfl rfl rfl hg1_11) ?_))
  exact wl_nil (pn_qnE (ext_cons rfl (Ex 3 rfl rfl)) (fun _ h => h))
 ·have hg1_11a := hg
  refine Gn rfl rfl hg1_11a (D rfl (mv rfl) (Gn rfl rfl hg1_11a (D rfl (det_lss rfl rfl) (D rfl (det_or_off rfl rfl rfl hg1_11a) ?_))))
  exact wl_nil (pn_qnE (ext_cons rfl (Ex 3 rfl rfl)) (fun _ h => h))
 refine D rfl (mv rfl) ?_
 refine wl_way (((decide (a1 < 0)) || (decide ((a0.length : Int) ≤ a1))) || (decide (a2 < 0))) ((((decide (a1 < 0)) || (decide ((a0.length : Int) ≤ a1))) || (decide (a2 < 0))) || (decide ((a0.length : Int) ≤ a2))) 5 32 (fun hg => ?_) (fun hg => ?_) ?_
 ·have hg1_17 := hg
  refine Gf rfl rfl rfl hg1_17 (Gf rfl rfl rfl hg1_17 (Gf rfl rfl rfl hg1_17 (Gf rfl rfl rfl hg1_17 (D rfl (det_or_on (r := (decide ((a0.length : Int) ≤ a2))) rfl rfl rfl hg1_17) ?_))))
  exact wl_nil (pn_qnE (ext_cons rfl (Ex 5 rfl rfl)) (fun _ h => h))
 ·have hg1_17a := hg
  refine Gn rfl rfl hg1_17a (D rfl (mv rfl) (Gn rfl rfl hg1_17a (D rfl (mv rfl) (Gn rfl rfl hg1_17a (D rfl (det_len rfl un23) (Gn rfl rfl hg1_17a (D rfl (det_geq rfl rfl) (D rfl (det_or_off rfl rfl rfl hg1_17a) ?_))))))))
  exact wl_nil (pn_qnE (ext_cons rfl (Ex 5 rfl rfl)) (fun _ h => h))
 refine Wn (Pt ?_)
 refine wc_cond rfl (fun cd5 => ?_) (fun cd5 => ?_)
 ·have h := ifT h cd5
  refine Wq (Wr (D rfl (ag rfl) (Wn (Pt (Wt (Rt ?_))))))
  obtain rfl := si h
  refine pn_ret (vs := [_]) rfl ⟨rfl, trivial⟩ ⟨rfl, rfl, rfl⟩ (fun _ h => h.to trivial trivial)
 ·have h := ifF h cd5
  refine Wk (Pt (Wq (Wr (Ac rfl (act_makeMapS encKI (lInt .i64)) ?_))))
  rintro _ _ _ ⟨b3_0, rfl, rfl, rfl⟩
  refine D rfl (ag rfl) (Wn (Pt ?_))
  obtain ⟨q10, h, ho10⟩ := bs h
  refine wc_meetG (G := (List (Int × (List Int))) × Unit) (fun (s10, _) => s10 = q10) (fun (_, _) => [(0, .slice A0 a0.length c0), (1, .int .i64 a1), (2, .int .i64 a2), (7, .map (some b3_0))]) (fun (s10, _) => [eMS encKI (lInt .i64) b3_0 s10]) (fun (_, _) => [fV (lSlice lGTreaty) (.slice A0 a0.length c0) a0]) ?_ ?_
  ·refine Wq (Wr (D rfl (mv rfl) (D rfl (det_len rfl un23) (D rfl (mv rfl) (Wn (Pt (Wb ?_)))))))
   obtain ⟨k14, hk14⟩ := loopV_some.1 h
   refine wc_loop (G := Nat × ((List (Int × (List Int))) × Int) × Unit) (fun g => IterN (inuring_Depends_l14 a0) g.1 g.2.1 q10) (fun g => g.1) (fun (_, s14, _) => [(0, .slice A0 a0.length c0), (1, .int .i64 a1), (2, .int .i64 a2), (7, .map (some b3_0)), (34, .slice A0 a0.length c0), (35, .int .i64 (a0.length : Int)), (36, .int .i64 s14.2)]) (fun (_, s14, _) => [eMS encKI (lInt .i64) b3_0 s14.1]) (fun (_, _, _) => [fV (lSlice lGTreaty) (.slice A0 a0.length c0) a0]) (k14, ([], 0), ()) hk14 (Sb rfl) (fun _ h => h.to ⟨_, r0, trivial⟩ ⟨m0, trivial⟩) ?_
   rintro ⟨k14, s14, _⟩ hI
   obtain ⟨k14, rfl, q14, h, g14⟩ := IterN.pos hI
   dsimp only at h ⊢
   unfold inuring_Depends_l14 at h
   refine Wq (Wr (D rfl (det_lss rfl rfl) (Wn (Pt (Wq ?_)))))
   refine wc_cond rfl (fun cd18 => ?_) (fun cd18 => ?_)
   ·have h := ifT h cd18
    refine Wk (Pt (Wq (Wb (Wq (Wr (D rfl (mv rfl) ?_))))))
    obtain ⟨k6_1, h⟩ := chk_some h
    refine wl_ex (G := Option Addr × Nat × Option Addr × Nat × Option Addr × Nat × Option Addr × Nat × Option Addr × Nat) _ _ (fun _ => True) (fun _ h => openGTreaty h m0 k6_1) ?_
    rintro ⟨A6_1, c6_1, A6_1a, c6_1a, A6_1b, c6_1b, A6_1c, c6_1c, A6_1d, c6_1d⟩ -
    dsimp only
    refine D rfl (det_indexP rfl rfl (ms (ms (ms (ms (ms (ms m0)))))) k6_1 m0 un23 sz41) (D rfl (det_loadP (off := 0) rfl m0 (by rfl) (by rfl) (loaded_n (cells := [_, _, _, _, _, _, _, _, _, _, _, _, _, _, _, _, _, _, _, _, _]) ag41 sz41)) (Ac rfl (act_alloc (cs := [_, _, _, _, _, _, _, _, _, _, _, _, _, _, _, _, _, _, _, _, _]) zr41 rfl) ?_))
    rintro _ _ _ ⟨b6_3, rfl, rfl, rfl⟩
    refine D rfl (ag rfl) (Az rfl (act_store (cells := [_, _, _, _, _, _, _, _, _, _, _, _, _, _, _, _, _, _, _, _, _]) (cs' := [_, _, _, _, _, _, _, _, _, _, _, _, _, _, _, _, _, _, _, _, _]) rfl rfl rfl s0 (by rfl) (of_decide_eq_true rfl) sz41 (On1 rfl)) ?_)
    rintro _ _ _ ⟨rfl, rfl⟩
    refine Wn (Pt ?_)
    refine wc_st (fun _ h => h.zeroS (lInt .i64) 3 none) ?_
    obtain ⟨k7_p1, h⟩ := chk_some h
    obtain ⟨k7_p2, h⟩ := chk_some h
    refine dx_regionZ (Z := St C [_, _] [_, _, _, _, _, _, _]) 10 [[], [], [1], [], [], [4], [3, 4, 5], [], [7], [3, 4, 5, 6, 7, 8], [0, 1, 2, 3, 4, 5, 6, 7, 8, 9]] mixed (ord := (.det 0 (.det 1 (.det 2 (.det 3 (.det 4 (.det 5 (.det 6 (.det 7 (.alt 8 (.alt 9 .done .dead) .dead)))))))))) (by kernel_rfl) (fun _ h => h.to ⟨_, (rs r0), ⟨_, (rs r0), trivial⟩⟩ ⟨m0, ⟨(ms m0), ⟨(ms (ms m0)), ⟨(ms (ms (ms m0))), ⟨(ms (ms (ms (ms m0)))), ⟨(ms (ms (ms (ms (ms m0))))), ⟨(ms (ms (ms (ms (ms (ms m0)))))), trivial⟩⟩⟩⟩⟩⟩⟩) ?_
    refine Hd rfl rfl rfl (mv rfl) (Hd rfl rfl rfl (fd rfl fd41_0 rfl) (Hd rfl rfl rfl (ld rfl m0 (by rfl) na3 us3) (Hd rfl rfl rfl (mv rfl) (Hd rfl rfl rfl (fd rfl fd41_0 rfl) (Hd rfl rfl rfl (ld rfl m0 (by rfl) na3 us3) (Hd rfl rfl rfl (det_lookupS0 (L := (lInt .i64)) (k := (ix a0 s14.2).ID) rfl rfl rfl (ms m0) (keyOk_int un3) um62 zr22 (by simpa using k7_p1)) (Hd rfl rfl rfl (mv rfl) ?_)))))))
    refine hx_mut rfl rfl rfl (act_litS (lInt .i64) (vs := [_]) (cs := [_]) [s14.2] un22 in3 rfl rfl rfl rfl rfl ⟨rfl, trivial⟩ (by rfl) rfl (litR_flat rfl)) rfl (by rintro _ _ _ ⟨A7_8, rfl, rfl, rfl⟩ w hs; exact hs.to ⟨_, (rs (rs r0)), ⟨_, (rs (rs r0)), trivial⟩⟩ ⟨m0, ⟨(ms m0), ⟨(ms (ms m0)), ⟨(ms (ms (ms m0))), ⟨(ms (ms (ms (ms m0)))), ⟨(ms (ms (ms (ms (ms m0))))), ⟨(ms (ms (ms (ms (ms (ms m0)))))), trivial⟩⟩⟩⟩⟩⟩⟩) ?_
    rintro _ _ _ ⟨A7_8, rfl, rfl, rfl⟩
    refine hx_mut rfl rfl rfl (act_appendS0 (L := (lInt .i64)) rfl rfl (ss s0) (src_O m0) un22 in3 rfl rfl rfl k7_p2) rfl (by rintro _ _ _ ⟨A7_9, c7_9, rfl, rfl, rfl⟩ w hs; exact hs.to ⟨_, (rs (rs r0)), ⟨_, (rs (rs r0)), trivial⟩⟩ ⟨m0, ⟨(ms m0), ⟨(ms (ms m0)), ⟨(ms (ms (ms m0))), ⟨(ms (ms (ms (ms m0)))), ⟨(ms (ms (ms (ms (ms m0))))), ⟨(ms (ms (ms (ms (ms (ms m0)))))), trivial⟩⟩⟩⟩⟩⟩⟩) ?_
    rintro _ _ _ ⟨A7_9, c7_9, rfl, rfl, rfl⟩
    refine hx_end ?_
    refine wl_st (fun _ h => h.shutS (rs r0)) ?_
    refine Az rfl (act_mapUpdateS (L := (lInt .i64)) (k := (ix a0 s14.2).ID) rfl rfl rfl rfl rfl m0 (ss (ss s0)) (keyOk_int un3) um62) ?_
    rintro _ _ _ ⟨rfl, rfl⟩
    refine Wn (Pb (Pt (Wr (D rfl (det_add rfl rfl) (D rfl (mv rfl) (Wn ?_))))))
    obtain rfl := si h
    exact pn_some (k14, ((mset s14.1 (ix a0 s14.2).ID [s14.2]), (w64 (s14.2 + 1))), ()) ⟨nextL g14, Nat.lt_succ_self _⟩ (Sb rfl) (fun _ h => h.to ⟨_, (rs (rs r0)), trivial⟩ ⟨(ms (ms (ms (ms (ms (ms (ms m0))))))), trivial⟩)
   ·have h := ifF h cd18
    refine We (Xt (Xt (Xb ?_)))
    obtain rfl := si h
    replace g14 := nextR g14
    subst g14
    exact pn_meetG (s14.1, ()) rfl (Sb rfl) (fun _ h => h.to ⟨_, r0, trivial⟩ ⟨m0, trivial⟩)
  rintro ⟨s10, _⟩ e10
  dsimp only at e10 ⊢
  subst e10
  have h := ho10
  refine Wq (Wr (D rfl (mv rfl) (Ac rfl (act_litS (lInt .i64) (vs := [_]) (cs := [_]) [a1] un22 in3 rfl rfl rfl rfl rfl ⟨rfl, trivial⟩ (by rfl) rfl (litR_flat rfl)) ?_)))
  rintro _ _ _ ⟨A9_1, rfl, rfl, rfl⟩
  refine D rfl (ag rfl) (Wn (Pt ?_))
  obtain ⟨q28, h, ho28⟩ := bs h
  refine wc_meetG (G := Unit × Unit) (fun (s28, _) => (.inl s28) = q28) (fun (_, _) => []) (fun (_, _) => []) (fun (_, _) => []) ?_ ?_
  ·refine Wb ?_
   obtain ⟨o30, h, ho30⟩ := bs h
   obtain ⟨k30, hk30⟩ := loopV_some.1 h
   refine wc_loop (G := Nat × ((List (Int × (List Int))) × (List Int)) × Option Addr × Nat × Nat × Unit) (fun g => IterN (inuring_Depends_l30 a0 a2) g.1 g.2.1 o30) (fun g => g.1) (fun (_, _, A30_0, n30_0, c30_0, _) => [(0, .slice A0 a0.length c0), (2, .int .i64 a2), (7, .map (some b3_0)), (10, .slice A30_0 n30_0 c30_0)]) (fun (_, s30, A30_0, n30_0, c30_0, _) => [eMS encKI (lInt .i64) b3_0 s30.1, eS (lInt .i64) 3 A30_0 n30_0 c30_0 s30.2]) (fun (_, _, _, _, _, _) => [fV (lSlice lGTreaty) (.slice A0 a0.length c0) a0]) (k30, (s10, [a1]), A9_1, 1, 1, ()) hk30 (Sb rfl) (fun _ h => h.to ⟨_, (rs r0), ⟨_, r0, trivial⟩⟩ ⟨m0, trivial⟩) ?_
   rintro ⟨k30, s30, A30_0, n30_0, c30_0, _⟩ hI
   obtain ⟨k30, rfl, q30, h, g30⟩ := IterN.pos hI
   dsimp only at h ⊢
   unfold inuring_Depends_l30 at h
   refine wc_know (fun _ h => h.lenO (ms m0)) (fun e => ?_)
   subst e
   refine Wq (Wq (Wr (D rfl (mv rfl) (D rfl (det_len rfl un22) (D rfl (det_gtr rfl rfl) (Wn (Pt ?_)))))))
   refine wc_cond rfl (fun cd34 => ?_) (fun cd34 => ?_)
   ·have h := ifT h cd34
    refine Wk (Pt ?_)
    obtain ⟨q36, h, ho36⟩ := bs h
    refine wc_meetN (G := ((List (Int × (List Int))) × (List Int)) × Option Addr × Nat × Nat × Unit) (fun (s36, _, _, _, _) => (.inl s36) = q36) (fun (_, A36_0, n36_0, c36_0, _) => [(0, .slice A0 a0.length c0), (2, .int .i64 a2), (7, .map (some b3_0)), (10, .slice A36_0 n36_0 c36_0)]) (fun (s36, A36_0, n36_0, c36_0, _) => [eMS encKI (lInt .i64) b3_0 s36.1, eS (lInt .i64) 3 A36_0 n36_0 c36_0 s36.2]) (fun (_, _, _, _, _) => [fV (lSlice lGTreaty) (.slice A0 a0.length c0) a0]) ?_ ?_
    ·refine Wb ?_
     refine Wq (Wr (D rfl (mv rfl) (D rfl (det_len rfl un22) (D rfl (det_sub rfl rfl) (D rfl (ag rfl) (Wn (Pt (Wq (Wr (D rfl (mv rfl) (D rfl (mv rfl) ?_)))))))))))
     obtain ⟨k12_2, h⟩ := chk_some h
     refine D rfl (det_indexO rfl rfl (ms m0) k12_2 un22 sz3) (D rfl (det_loadO (off := 0) rfl (ms m0) k12_2 (by rfl) (by rfl) (loaded_1 na3 us3)) (D rfl (ag rfl) (Wn (Pt (Wq (Wr (D rfl (mv rfl) (D rfl (mv rfl) ?_))))))))
     obtain ⟨k13_2, h⟩ := chk_some h
     obtain ⟨k13_2a, h⟩ := chk_some h
     refine Ac rfl (act_sliceOH rfl rfl (rs r0) un22 sz3 k13_2 k13_2a) ?_
     rintro _ _ _ ⟨rfl, rfl, rfl⟩
     refine D rfl (ag rfl) (Wn (Pt (Wq (Wr (D rfl (mv rfl) (D rfl (mv rfl) ?_))))))
     obtain ⟨k14_2, h⟩ := chk_some h
     refine wl_ex (G := Option Addr × Nat × Option Addr × Nat × Option Addr × Nat × Option Addr × Nat × Option Addr × Nat) _ _ (fun _ => True) (fun _ h => openGTreaty h m0 k14_2) ?_
     rintro ⟨A14_2, c14_2, A14_2a, c14_2a, A14_2b, c14_2b, A14_2c, c14_2c, A14_2d, c14_2d⟩ -
     dsimp only
     refine D rfl (det_indexP rfl rfl (ms (ms (ms (ms (ms (ms m0)))))) k14_2 m0 un23 sz41) (D rfl (det_fieldP rfl m0 fd41_18 rfl) (D rfl (det_loadP (off := 19) rfl m0 (by rfl) (by rfl) (loaded_1 na22 us22)) (D rfl (det_len rfl un22) (D rfl (mv rfl) (Wn (Pt (Wb ?_)))))))
     obtain ⟨o46, h, ho46⟩ := bs h
     obtain ⟨k46, hk46⟩ := loopV_some.1 h
     refine wc_loop (G := Nat × ((List (Int × (List Int))) × (List Int) × Int) × Option Addr × Nat × Nat × Unit) (fun g => IterN (inuring_Depends_l46 a0 a2 s30) g.1 g.2.1 o46) (fun g => g.1) (fun (_, s46, A46_0, n46_0, c46_0, _) => [(0, .slice A0 a0.length c0), (2, .int .i64 a2), (7, .map (some b3_0)), (10, .slice A46_0 n46_0 c46_0), (71, .slice A14_2c (ix a0 (ix s30.2 (w64 ((s30.2.length : Int) - 1)))).Inures.length c14_2c), (72, .int .i64 ((ix a0 (ix s30.2 (w64 ((s30.2.length : Int) - 1)))).Inures.length : Int)), (73, .int .i64 s46.2.2)]) (fun (_, s46, A46_0, n46_0, c46_0, _) => [eMS encKI (lInt .i64) b3_0 s46.1, eS (lInt .i64) 3 A46_0 n46_0 c46_0 s46.2.1]) (fun (_, _, _, _, _, _) => [fV (lSlice lGTreaty) (.slice A0 a0.length c0) a0, fV (lSlice (lInt .i64)) (.slice A14_2c (ix a0 (ix s30.2 (w64 ((s30.2.length : Int) - 1)))).Inures.length c14_2c) (ix a0 (ix s30.2 (w64 ((s30.2.length : Int) - 1)))).Inures]) (k46, (s30.1, (s30.2.take (w64 ((s30.2.length : Int) - 1)).toNat), 0), A30_0, (s30.2.take (w64 ((s30.2.length : Int) - 1)).toNat).length, c30_0, ()) hk46 (Sb rfl) (fun _ h => h.to ⟨_, (rs r0), ⟨_, r0, trivial⟩⟩ ⟨(ms (ms (ms (ms (ms (ms m0)))))), ⟨(ms (ms (ms (ms m0)))), trivial⟩⟩) ?_
     rintro ⟨k46, s46, A46_0, n46_0, c46_0, _⟩ hI
     obtain ⟨k46, rfl, q46, h, g46⟩ := IterN.pos hI
     dsimp only at h ⊢
     unfold inuring_Depends_l46 at h
     refine wc_know (fun _ h => h.lenO (ms m0)) (fun e => ?_)
     subst e
     refine Wq (Wr (D rfl (det_lss rfl rfl) (Wn (Pt (Wq ?_)))))
     refine wc_cond rfl (fun cd50 => ?_) (fun cd50 => ?_)
     ·have h := ifT h cd50
      refine Wk (Pt (Wq (Wb (Wq (Wr ?_)))))
      obtain ⟨k16_0, h⟩ := chk_some h
      refine wl_st (fun _ h => h.openF (ms m0) k16_0) ?_
      refine D rfl (det_indexP rfl rfl (ms (ms m0)) k16_0 m0 un22 sz3) (D rfl (det_loadP (off := 0) rfl m0 (by rfl) (by rfl) (loaded_1 na3 us3)) (D rfl (ag rfl) (Wn (Pt (Wq (Wq (Wr (D rfl (mv rfl) (D rfl (mv rfl) (D rfl (mv rfl) ?_))))))))))
      obtain ⟨k17_3, h⟩ := chk_some h
      refine wl_ex (G := Option Addr × Nat × Option Addr × Nat × Option Addr × Nat × Option Addr × Nat × Option Addr × Nat) _ _ (fun _ => True) (fun _ h => openGTreaty h (ms m0) k17_3) ?_
      rintro ⟨A17_3, c17_3, A17_3a, c17_3a, A17_3b, c17_3b, A17_3c, c17_3c, A17_3d, c17_3d⟩ -
      dsimp only
      refine D rfl (det_indexP rfl rfl (ms (ms (ms (ms (ms (ms (ms m0))))))) k17_3 m0 un23 sz41) (D rfl (det_fieldP rfl m0 fd41_0 rfl) (D rfl (det_loadP (off := 0) rfl m0 (by rfl) (by rfl) (loaded_1 na3 us3)) (D rfl (det_eql rfl rfl) (Wn (Pt ?_)))))
      refine wc_cond rfl (fun cd59 => ?_) (fun cd59 => ?_)
      ·have h := ifT h cd59
       refine Wq (Wr (D rfl (ag rfl) (Wn ?_)))
       refine Pt (Wt (Rt (Rb (Rt (Rt (Rb (Rb (Rt (Rt (Rb (Rt ?_)))))))))))
       obtain rfl := si h
       replace g46 := nextR g46
       subst g46
       have h := (elimL ho46)
       obtain rfl := si h
       have h := (elimR ho36)
       obtain rfl := si h
       replace g30 := nextR g30
       subst g30
       have h := (elimL ho30)
       obtain rfl := si h
       have h := (elimR ho28)
       obtain rfl := si h
       refine pn_ret (vs := [_]) rfl ⟨rfl, trivial⟩ ⟨rfl, rfl, rfl⟩ (fun _ h => h.to trivial trivial)
      ·have h := ifF h cd59
       refine Wk (Pt (Wq (Wr (D rfl (mv rfl) (D rfl (mv rfl) (D rfl (mv rfl) (Ac rfl (act_lookupS (L := (lInt .i64)) (k := (ix (ix a0 (ix s30.2 (w64 ((s30.2.length : Int) - 1)))).Inures s46.2.2)) rfl rfl rfl m0 (keyOk_int un3) um62 zr22) ?_)))))))
       rintro _ _ _ ⟨A19_3, n19_3, c19_3, rfl, rfl, rfl⟩
       dsimp only [na, ca]
       refine wl_know (fun _ h => h.lenF m0) (fun e => ?_)
       subst e
       obtain ⟨k19_4, h⟩ := chk_some h
       refine Ac rfl (act_appendS (L := (lInt .i64)) rfl rfl (ss s0) (src_F m0) un22 in3 rfl rfl rfl k19_4) ?_
       rintro _ _ _ ⟨A19_4, c19_4, rfl, rfl, rfl⟩
       refine D rfl (ag rfl) (Wn (Pt (Wr (D rfl (mv rfl) (D rfl (mv rfl) (Az rfl (act_deleteS (L := (lInt .i64)) (k := (ix (ix a0 (ix s30.2 (w64 ((s30.2.length : Int) - 1)))).Inures s46.2.2)) rfl rfl rfl s0 (keyOk_int un3) um62) ?_))))))
       rintro _ _ _ ⟨rfl, rfl, rfl⟩
       refine Wn (Pb (Pt (Wr (D rfl (det_add rfl rfl) (D rfl (mv rfl) (Wn ?_))))))
       obtain rfl := si h
       exact pn_some (k46, ((mdel s46.1 (ix (ix a0 (ix s30.2 (w64 ((s30.2.length : Int) - 1)))).Inures s46.2.2)), (s46.2.1 ++ (mget s46.1 (ix (ix a0 (ix s30.2 (w64 ((s30.2.length : Int) - 1)))).Inures s46.2.2) [])), (w64 (s46.2.2 + 1))), A19_4, (s46.2.1 ++ (mget s46.1 (ix (ix a0 (ix s30.2 (w64 ((s30.2.length : Int) - 1)))).Inures s46.2.2) [])).length, c19_4, ()) ⟨nextL g46, Nat.lt_succ_self _⟩ (Sb rfl) (fun _ h => h.to ⟨_, r0, ⟨_, r0, trivial⟩⟩ ⟨(ms (ms (ms (ms (ms (ms (ms (ms m0)))))))), ⟨(ms (ms (ms (ms (ms (ms (ms (ms (ms m0))))))))), trivial⟩⟩)
     ·have h := ifF h cd50
      refine We (Xt (Xt (Xb (Pb ?_))))
      obtain rfl := si h
      replace g46 := nextR g46
      subst g46
      have h := (elimR ho46)
      obtain rfl := si h
      exact pn_meetG ((s46.1, s46.2.1), A46_0, s46.2.1.length, c46_0, ()) rfl (Sb rfl) (fun _ h => h.to ⟨_, r0, ⟨_, r0, trivial⟩⟩ ⟨m0, trivial⟩)
    rintro ⟨s36, A36_0, n36_0, c36_0, _⟩ e36
    dsimp only at e36 ⊢
    subst e36
    have h := (elimL ho36)
    refine pn_know (fun _ h => h.lenO (ms m0)) (fun e => ?_)
    subst e
    obtain rfl := si h
    exact pn_some (k30, (s36.1, s36.2), A36_0, s36.2.length, c36_0, ()) ⟨nextL g30, Nat.lt_succ_self _⟩ (Sb rfl) (fun _ h => h.to ⟨_, r0, ⟨_, r0, trivial⟩⟩ ⟨m0, trivial⟩)
   ·have h := ifF h cd34
    refine We (Xt (Xt (Xb ?_)))
    obtain rfl := si h
    replace g30 := nextR g30
    subst g30
    have h := (elimR ho30)
    obtain rfl := si h
    exact pn_meetG ((), ()) rfl trivial (fun _ h => h.to trivial trivial)
  rintro ⟨s28, _⟩ e28
  dsimp only at e28 ⊢
  subst e28
  have h := (elimL ho28)
  refine Wq (Wr (D rfl (ag rfl) (Wn (Pt (Wt ?_)))))
  obtain rfl := si h
  refine pn_ret (vs := [_]) rfl ⟨rfl, trivial⟩ ⟨rfl, rfl, rfl⟩ (fun _ h => h.to trivial trivial)
def Q_treatylaw29_three (r : (List GTreaty)) : Value → List Ent → List Fact → Prop := fun v θ κ => ∃ (pA0 : Option Addr), ∃ (pn0 : Nat), ∃ (pc0 : Nat), v = .slice pA0 pn0 pc0 ∧ θ = [eS lGTreaty 41 pA0 pn0 pc0 r] ∧ κ = []
set_option maxHeartbeats 4000000 in
set_option maxRecDepth 100000 in
theorem W_treatylaw29_three (a0 : Int) (r : (List GTreaty)) (h : treatylaw29_three a0 = some r) : Spec Try.prog 35 [.int .i64 a0] [] [] (Q_treatylaw29_three r) := by
 unfold treatylaw29_three at h
 refine spec_of (σ := [(0, _)]) Try.func35 rfl rfl rfl rfl ?_
 intro C
 refine Wq (Wr (D rfl (ag rfl) (Wn (Pt (Wq (Wr (D rfl (det_build (cs := [_, _]) pl38 zr38 rfl rfl (by rfl)) (Ac rfl (act_alloc (cs := [_, _]) zr38 rfl) ?_))))))))
 rintro _ _ _ ⟨b1_1, rfl, rfl, rfl⟩
 refine Az rfl (act_store (cells := [_, _]) (cs' := [_, _]) rfl rfl rfl s0 (by rfl) (of_decide_eq_true rfl) sz38 (On1 rfl)) ?_
 rintro _ _ _ ⟨rfl, rfl⟩
 refine Wn (Pt (Wq (Wr (D rfl (det_loadN (cells := [_, _]) rfl m0 (by rfl) ag38 sz38) (D rfl (det_build (cs := [_, _, _, _, _, _, _, _, _, _, _, _, _, _, _, _, _, _, _, _, _]) pl41 zr41 rfl rfl (by rfl)) (D rfl (det_loadN (cells := [_, _]) rfl m0 (by rfl) ag38 sz38) (Ac rfl (act_litS (lInt .i64) (vs := [_]) (cs := [_]) [1] un22 in3 rfl rfl rfl rfl rfl ⟨rfl, trivial⟩ (by rfl) rfl (litR_flat rfl)) ?_)))))))
 rintro _ _ _ ⟨A2_3, rfl, rfl, rfl⟩
 refine D rfl (det_build (cs := [_, _, _, _, _, _, _, _, _, _, _, _, _, _, _, _, _, _, _, _, _]) pl41 zr41 rfl rfl (by rfl)) (D rfl (det_loadN (cells := [_, _]) rfl (ms m0) (by rfl) ag38 sz38) (D rfl (mv rfl) (Ac rfl (act_litS (lInt .i64) (vs := [_]) (cs := [_]) [1] un22 in3 rfl rfl rfl rfl rfl ⟨rfl, trivial⟩ (by rfl) rfl (litR_flat rfl)) ?_)))
 rintro _ _ _ ⟨A2_7, rfl, rfl, rfl⟩
 refine D rfl (det_build (cs := [_, _, _, _, _, _, _, _, _, _, _, _, _, _, _, _, _, _, _, _, _]) pl41 zr41 rfl rfl (by rfl)) ?_
 refine wl_st (fun _ h => h.zeroF (lInt .i64) none 0) ?_
 refine wl_st (fun _ h => h.zeroF lGPart none 0) ?_
 refine wl_st (fun _ h => h.fact (f := fC lGTreaty [.int .i64 1, .int .i64 1, .int .i64 0, .int .i64 100, .slice none 0 0, .slice none 0 0, .int .i64 0, .int .i64 500000, .int .i64 0, .int .i64 0, .int .i64 0, .int .i64 0, .int .i64 0, .int .i64 0, .int .i64 0, .int .i64 0, .slice none 0 0, .bool false, .int .i64 0, .slice none 0 0, .slice none 0 0] (GTreaty.mk 1 1 (GPeriod.mk 0 100) [] [] 0 500000 0 0 0 0 0 0 0 0 [] false 0 [] [])) (mkGTreaty (x := (GTreaty.mk 1 1 (GPeriod.mk 0 100) [] [] 0 500000 0 0 0 0 0 0 0 0 [] false 0 [] [])) ⟨h.facts _ (ms m0), h.facts _ (ms m0), h.facts _ (ms m0), h.facts _ (ms m0), h.facts _ m0, trivial⟩)) ?_
 refine wl_st (fun _ h => h.shutS (rs r0)) ?_
 refine wl_st (fun _ h => h.fact (f := fC lGTreaty [.int .i64 2, .int .i64 5, .int .i64 0, .int .i64 100, .slice none 0 0, .slice none 0 0, .int .i64 0, .int .i64 0, .int .i64 0, .int .i64 0, .int .i64 100, .int .i64 100, .int .i64 24, .int .i64 0, .int .i64 0, .int .i64 0, .slice none 0 0, .bool false, .int .i64 0, .slice A2_3 1 1, .slice none 0 0] (GTreaty.mk 2 5 (GPeriod.mk 0 100) [] [] 0 0 0 0 100 100 24 0 0 0 [] false 0 [1] [])) (mkGTreaty (x := (GTreaty.mk 2 5 (GPeriod.mk 0 100) [] [] 0 0 0 0 100 100 24 0 0 0 [] false 0 [1] [])) ⟨h.facts _ (ms (ms (ms m0))), h.facts _ (ms (ms (ms m0))), h.facts _ (ms (ms (ms m0))), h.facts _ m0, h.facts _ (ms (ms m0)), trivial⟩)) ?_
 refine wl_st (fun _ h => h.shutS r0) ?_
 refine wl_st (fun _ h => h.fact (f := fC lGTreaty [.int .i64 3, .int .i64 5, .int .i64 0, .int .i64 100, .slice none 0 0, .slice none 0 0, .int .i64 0, .int .i64 0, .int .i64 0, .int .i64 0, .int .i64 a0, .int .i64 300, .int .i64 24, .int .i64 0, .int .i64 0, .int .i64 0, .slice none 0 0, .bool false, .int .i64 0, .slice A2_7 1 1, .slice none 0 0] (GTreaty.mk 3 5 (GPeriod.mk 0 100) [] [] 0 0 0 0 a0 300 24 0 0 0 [] false 0 [1] [])) (mkGTreaty (x := (GTreaty.mk 3 5 (GPeriod.mk 0 100) [] [] 0 0 0 0 a0 300 24 0 0 0 [] false 0 [1] [])) ⟨h.facts _ (ms (ms (ms (ms (ms m0))))), h.facts _ (ms (ms (ms (ms (ms m0))))), h.facts _ (ms (ms (ms (ms (ms m0))))), h.facts _ m0, h.facts _ (ms (ms (ms (ms m0)))), trivial⟩)) ?_
 refine Ac rfl (act_litS lGTreaty (vs := [_, _, _]) (cs := [_, _, _, _, _, _, _, _, _, _, _, _, _, _, _, _, _, _, _, _, _, _, _, _, _, _, _, _, _, _, _, _, _, _, _, _, _, _, _, _, _, _, _, _, _, _, _, _, _, _, _, _, _, _, _, _, _, _, _, _, _, _, _]) [(GTreaty.mk 1 1 (GPeriod.mk 0 100) [] [] 0 500000 0 0 0 0 0 0 0 0 [] false 0 [] []), (GTreaty.mk 2 5 (GPeriod.mk 0 100) [] [] 0 0 0 0 100 100 24 0 0 0 [] false 0 [1] []), (GTreaty.mk 3 5 (GPeriod.mk 0 100) [] [] 0 0 0 0 a0 300 24 0 0 0 [] false 0 [1] [])] un23 in41 rfl rfl rfl rfl rfl ⟨rfl, rfl, rfl, trivial⟩ (by rfl) rfl (fun _ h => by have q := ((oneF h (ms (ms (ms (ms m0))))).cat (oneF h (ms (ms m0)))).cat (oneF h m0); exact q)) ?_
 rintro _ _ _ ⟨A2_9, rfl, rfl, rfl⟩
 refine D rfl (ag rfl) (Wn (Pt (Wt ?_)))
 obtain rfl := si h
 refine pn_ret (vs := [_]) rfl ⟨rfl, trivial⟩ ⟨A2_9, 3, 3, rfl, rfl, rfl⟩ (fun _ h => h.to ⟨_, r0, trivial⟩ trivial)
def Q_treatyref01_SameInts (r : Bool) : Value → List Ent → List Fact → Prop := fun v θ κ => v = .bool r ∧ θ = [] ∧ κ = []
theorem plains_treatyref01_SameInts {r : Bool} : ∀ v θ κ, Q_treatyref01_SameInts r v θ κ → Plains θ := by
 rintro _ _ _ ⟨rfl, rfl, rfl⟩
 exact trivial
set_option maxHeartbeats 4000000 in
set_option maxRecDepth 100000 in
theorem W_treatyref01_SameInts (a0 : (List Int)) (a1 : (List Int)) (A0 : Option Addr) (n0 : Nat) (c0 : Nat) (A3 : Option Addr) (n3 : Nat) (c3 : Nat) (r : Bool) (h : treatyref01_SameInts a0 a1 = some r) : Spec Try.prog 12 [.slice A0 n0 c0, .slice A3 n3 c3] [] [fV (lSlice (lInt .i64)) (.slice A0 n0 c0) a0, fV (lSlice (lInt .i64)) (.slice A3 n3 c3) a1] (Q_treatyref01_SameInts r) := by
 unfold treatyref01_SameInts at h
 refine spec_of (σ := [(0, _), (1, _)]) Try.func12 rfl rfl rfl rfl ?_
 intro C
 refine wc_know (fun _ h => h.lenF m0) (fun e => ?_)
 subst e
 refine wc_know (fun _ h => h.lenF (ms m0)) (fun e => ?_)
 subst e
 refine Wq (Wr (D rfl (ag rfl) ?_))
 refine Wn (Pt (Wq (Wq (Wr (D rfl (mv rfl) (D rfl (det_len rfl un22) (D rfl (mv rfl) (D rfl (det_len rfl un22) (D rfl (det_neq rfl rfl) (Wn (Pt ?_)))))))))))
 refine wc_cond rfl (fun cd5 => ?_) (fun cd5 => ?_)
 ·have h := ifT h cd5
  refine Wq (Wr (D rfl (ag rfl) (Wn (Pt (Wt (Rt ?_))))))
  obtain rfl := si h
  refine pn_ret (vs := [_]) rfl ⟨rfl, trivial⟩ ⟨rfl, rfl, rfl⟩ (fun _ h => h.to trivial trivial)
 ·have h := ifF h cd5
  refine Wk (Pt ?_)
  obtain ⟨q8, h, ho8⟩ := bs h
  refine wc_meetG (G := Unit × Unit) (fun (s8, _) => (.inl s8) = q8) (fun (_, _) => []) (fun (_, _) => []) (fun (_, _) => []) ?_ ?_
  ·refine Wq (Wr (D rfl (ag rfl) (Wn (Pt (Wb ?_)))))
   obtain ⟨o12, h, ho12⟩ := bs h
   obtain ⟨k12, hk12⟩ := loopV_some.1 h
   refine wc_loop (G := Nat × Int × Unit) (fun g => IterN (treatyref01_SameInts_l12 a0 a1) g.1 g.2.1 o12) (fun g => g.1) (fun (_, s12, _) => [(0, .slice A0 a0.length c0), (1, .slice A3 a1.length c3), (5, .int .i64 s12)]) (fun (_, _, _) => []) (fun (_, _, _) => [fV (lSlice (lInt .i64)) (.slice A0 a0.length c0) a0, fV (lSlice (lInt .i64)) (.slice A3 a1.length c3) a1]) (k12, 0, ()) hk12 (Sb rfl) (fun _ h => h.to trivial ⟨m0, ⟨(ms m0), trivial⟩⟩) ?_
   rintro ⟨k12, s12, _⟩ hI
   obtain ⟨k12, rfl, q12, h, g12⟩ := IterN.pos hI
   dsimp only at h ⊢
   unfold treatyref01_SameInts_l12 at h
   refine Wq (Wq (Wr (D rfl (mv rfl) (D rfl (mv rfl) (D rfl (det_len rfl un22) (D rfl (det_lss rfl rfl) (Wn (Pt ?_))))))))
   refine wc_cond rfl (fun cd16 => ?_) (fun cd16 => ?_)
   ·have h := ifT h cd16
    refine Wk (Pt (Wq (Wb (Wq ?_))))
    obtain ⟨k6_p1, h⟩ := chk_some h
    refine wc_st (fun _ h => h.openF m0 k6_p1) ?_
    obtain ⟨k6_p3, h⟩ := chk_some h
    refine wc_st (fun _ h => h.openF (ms (ms m0)) k6_p3) ?_
    refine dx_region 9 [[], [], [0, 1], [0, 1, 2], [], [], [4, 5], [4, 5, 6], [0, 1, 2, 3, 4, 5, 6, 7]] mixed (ord := (.det 0 (.det 1 (.det 2 (.det 3 (.det 4 (.det 5 (.det 6 (.det 7 (.det 8 .done)))))))))) (by kernel_rfl) ?_
    refine Hd rfl rfl rfl (mv rfl) (Hd rfl rfl rfl (mv rfl) (Hd rfl rfl rfl (det_indexP rfl rfl (ms (ms m0)) k6_p1 (ms m0) un22 sz3) (Hd rfl rfl rfl (det_loadP (off := 0) rfl (ms m0) (by rfl) (by rfl) (loaded_1 na3 us3)) (Hd rfl rfl rfl (mv rfl) (Hd rfl rfl rfl (mv rfl) (Hd rfl rfl rfl (det_indexP rfl rfl (ms (ms (ms m0))) k6_p3 m0 un22 sz3) (Hd rfl rfl rfl (det_loadP (off := 0) rfl m0 (by rfl) (by rfl) (loaded_1 na3 us3)) (Hd rfl rfl rfl (det_neq rfl rfl) (hx_end (Wn (Pt ?_)))))))))))
    refine wc_cond rfl (fun cd22 => ?_) (fun cd22 => ?_)
    ·have h := ifT h cd22
     refine Wq (Wr (D rfl (ag rfl) (Wn (Pt (Wt (Rb (Rt (Rt (Rb (Rt ?_))))))))))
     obtain rfl := si h
     replace g12 := nextR g12
     subst g12
     have h := (elimL ho12)
     obtain rfl := si h
     have h := (elimR ho8)
     obtain rfl := si h
     refine pn_ret (vs := [_]) rfl ⟨rfl, trivial⟩ ⟨rfl, rfl, rfl⟩ (fun _ h => h.to trivial trivial)
    ·have h := ifF h cd22
     refine Wk (Pb (Pt (Wr (D rfl (mv rfl) (D rfl (det_add rfl rfl) (D rfl (ag rfl) (Wn ?_)))))))
     obtain rfl := si h
     exact pn_some (k12, (w64 (s12 + 1)), ()) ⟨nextL g12, Nat.lt_succ_self _⟩ (Sb rfl) (fun _ h => h.to trivial ⟨(ms (ms m0)), ⟨(ms (ms (ms m0))), trivial⟩⟩)
   ·have h := ifF h cd16
    refine We (Xt (Xt (Xb ?_)))
    obtain rfl := si h
    replace g12 := nextR g12
    subst g12
    have h := (elimR ho12)
    obtain rfl := si h
    exact pn_meetG ((), ()) rfl trivial (fun _ h => h.to trivial trivial)
  rintro ⟨s8, _⟩ e8
  dsimp only at e8 ⊢
  subst e8
  have h := (elimL ho8)
  refine Wq (Wr (D rfl (ag rfl) (Wn (Pt (Wt ?_)))))
  obtain rfl := si h
  refine pn_ret (vs := [_]) rfl ⟨rfl, trivial⟩ ⟨rfl, rfl, rfl⟩ (fun _ h => h.to trivial trivial)
def Q_treatylaw29_awake (r : Bool) : Value → List Ent → List Fact → Prop := fun v θ κ => v = .bool r ∧ θ = [] ∧ κ = []
theorem plains_treatylaw29_awake {r : Bool} : ∀ v θ κ, Q_treatylaw29_awake r v θ κ → Plains θ := by
 rintro _ _ _ ⟨rfl, rfl, rfl⟩
 exact trivial
set_option maxHeartbeats 4000000 in
set_option maxRecDepth 100000 in
theorem W_treatylaw29_awake (r : Bool) (h : treatylaw29_awake = some r) : Spec Try.prog 13 [] [] [] (Q_treatylaw29_awake r) := by
 unfold treatylaw29_awake at h
 refine spec_of (σ := []) Try.func13 rfl rfl rfl rfl ?_
 intro C
 refine Wq (Wr (D rfl (ag rfl) (Wn (Pt (Wq (Wr ?_))))))
 obtain ⟨r1_0, hr1_0, h⟩ := bs h
 refine Ac rfl (act_callS (cap := []) (W_treatylaw29_three 200 r1_0 hr1_0) rfl rfl rfl bd35 rfl trivial) ?_
 rintro _ _ _ ⟨_, _, ⟨y1_0A0, y1_0n0, y1_0c0, rfl, rfl, rfl⟩, rfl, rfl⟩
 dsimp only [na, ca]
 refine wl_know (fun _ h => h.lenO m0) (fun e => ?_)
 subst e
 obtain ⟨r1_1, hr1_1, h⟩ := bs h
 refine Ac rfl (act_callL (cap := []) [eS lGTreaty 41 y1_0A0 r1_0.length y1_0c0 r1_0] (W_inuring_Order r1_0 y1_0A0 r1_0.length y1_0c0 r1_1 hr1_1) plains_inuring_Order rfl rfl rfl bd10 rfl ⟨m0, trivial⟩ ⟨.inr ⟨_, m0, lent_eS⟩, trivial⟩) ?_
 rintro _ _ _ ⟨_, _, ⟨y1_1A0, y1_1n0, y1_1c0, rfl, rfl, rfl⟩, rfl, rfl⟩
 dsimp only [na, ca]
 refine wl_know (fun _ h => h.lenO m0) (fun e => ?_)
 subst e
 refine D rfl (mv rfl) (D rfl (det_extract rfl rfl) (D rfl (det_extract rfl rfl) (D rfl (ag rfl) (D rfl (ag rfl) (Wn (Pt (Wq (Wr (D rfl (mv rfl) (D rfl (det_eql rfl rfl) (D rfl (mv rfl) ?_)))))))))))
 obtain ⟨q2_6, hq2_6, h⟩ := bs h
 have ho2_6 := h
 refine wl_way (decide (r1_1.2 = 0)) q2_6 4 14 (fun hg => ?_) (fun hg => ?_) ?_
 ·have hg2_6 := hg
  have h := ifT hq2_6 hg
  refine Gn rfl rfl hg2_6 (D rfl (mv rfl) (Gn rfl rfl hg2_6 (Ac rfl (act_litS (lInt .i64) (vs := [_, _, _]) (cs := [_, _, _]) [0, 1, 2] un22 in3 rfl rfl rfl rfl rfl ⟨rfl, rfl, rfl, trivial⟩ (by rfl) rfl (litR_flat rfl)) ?_)))
  rintro _ _ _ ⟨A2_4, rfl, rfl, rfl⟩
  refine Gn rfl rfl hg2_6 ?_
  obtain ⟨r2_5, hr2_5, h⟩ := bs h
  refine Ac rfl (act_callL (cap := []) [eS (lInt .i64) 3 y1_1A0 r1_1.1.length y1_1c0 r1_1.1, eS (lInt .i64) 3 A2_4 3 3 [0, 1, 2]] (W_treatyref01_SameInts r1_1.1 [0, 1, 2] y1_1A0 r1_1.1.length y1_1c0 A2_4 3 3 r2_5 hr2_5) plains_treatyref01_SameInts rfl rfl rfl bd12 rfl ⟨(ms m0), ⟨m0, trivial⟩⟩ ⟨.inr ⟨_, m0, lent_eS⟩, ⟨.inr ⟨_, (ms m0), lent_eS⟩, trivial⟩⟩) ?_
  rintro _ _ _ ⟨_, _, ⟨rfl, rfl, rfl⟩, rfl, rfl⟩
  dsimp only [na, ca]
  obtain rfl := si h
  refine D rfl (det_pick_on rfl hg2_6 rfl rfl) ?_
  exact wl_nil (pn_qnE (ext_cons rfl (Ex 4 rfl rfl)) (fun _ h => h.to ⟨_, (rs r0), ⟨_, (rs r0), trivial⟩⟩ trivial))
 ·have hg2_6a := hg
  have h := ifF hq2_6 hg
  refine Gf rfl rfl rfl hg2_6a (Gf rfl rfl rfl hg2_6a (Gf rfl rfl rfl hg2_6a ?_))
  obtain rfl := si h
  refine D rfl (det_pick_off rfl hg2_6a rfl rfl) ?_
  exact wl_nil (pn_qnE (ext_cons rfl (Ex 4 rfl rfl)) (fun _ h => h))
 have h := ho2_6
 refine D rfl (mv rfl) ?_
 obtain ⟨q2_11, hq2_11, h⟩ := bs h
 have ho2_11 := h
 refine wl_way q2_6 q2_11 4 19 (fun hg => ?_) (fun hg => ?_) ?_
 ·have hg2_11 := hg
  have h := ifT hq2_11 hg
  refine Gn rfl rfl hg2_11 ?_
  obtain ⟨r2_8, hr2_8, h⟩ := bs h
  refine Ac rfl (act_callS (cap := []) (W_treatylaw29_three 150 r2_8 hr2_8) rfl rfl rfl bd35 rfl trivial) ?_
  rintro _ _ _ ⟨_, _, ⟨y2_8A0, y2_8n0, y2_8c0, rfl, rfl, rfl⟩, rfl, rfl⟩
  dsimp only [na, ca]
  refine wl_know (fun _ h => h.lenO m0) (fun e => ?_)
  subst e
  refine Gn rfl rfl hg2_11 ?_
  obtain ⟨r2_9, hr2_9, h⟩ := bs h
  refine Ac rfl (act_callL (cap := []) [eS lGTreaty 41 y2_8A0 r2_8.length y2_8c0 r2_8] (W_inuring_Validate r2_8 y2_8A0 r2_8.length y2_8c0 r2_9 hr2_9) plains_inuring_Validate rfl rfl rfl bd15 rfl ⟨m0, trivial⟩ ⟨.inr ⟨_, m0, lent_eS⟩, trivial⟩) ?_
  rintro _ _ _ ⟨_, _, ⟨rfl, rfl, rfl⟩, rfl, rfl⟩
  dsimp only [na, ca]
  refine Gn rfl rfl hg2_11 (D rfl (det_eql rfl rfl) ?_)
  obtain rfl := si h
  refine D rfl (det_pick_on rfl hg2_11 rfl rfl) ?_
  exact wl_nil (pn_qnE (ext_cons rfl (Ex 4 rfl rfl)) (fun _ h => h.to ⟨_, (rs r0), ⟨_, (rs r0), trivial⟩⟩ trivial))
 ·have hg2_11a := hg
  have h := ifF hq2_11 hg
  refine Gf rfl rfl rfl hg2_11a (Gf rfl rfl rfl hg2_11a (Gf rfl rfl rfl hg2_11a ?_))
  obtain rfl := si h
  refine D rfl (det_pick_off rfl hg2_11a rfl rfl) ?_
  exact wl_nil (pn_qnE (ext_cons rfl (Ex 4 rfl rfl)) (fun _ h => h))
 have h := ho2_11
 refine D rfl (mv rfl) ?_
 obtain ⟨q2_15, hq2_15, h⟩ := bs h
 have ho2_15 := h
 refine wl_way q2_11 q2_15 3 23 (fun hg => ?_) (fun hg => ?_) ?_
 ·have hg2_15 := hg
  have h := ifT hq2_15 hg
  refine Gn rfl rfl hg2_15 ?_
  obtain ⟨r2_13, hr2_13, h⟩ := bs h
  refine Ac rfl (act_callS (cap := []) (W_treatylaw29_three 200 r2_13 hr2_13) rfl rfl rfl bd35 rfl trivial) ?_
  rintro _ _ _ ⟨_, _, ⟨y2_13A0, y2_13n0, y2_13c0, rfl, rfl, rfl⟩, rfl, rfl⟩
  dsimp only [na, ca]
  refine wl_know (fun _ h => h.lenO m0) (fun e => ?_)
  subst e
  refine Gn rfl rfl hg2_15 ?_
  obtain ⟨r2_14, hr2_14, h⟩ := bs h
  refine Ac rfl (act_callL (cap := []) [eS lGTreaty 41 y2_13A0 r2_13.length y2_13c0 r2_13] (W_inuring_Depends r2_13 2 0 y2_13A0 r2_13.length y2_13c0 r2_14 hr2_14) plains_inuring_Depends rfl rfl rfl bd14 rfl ⟨m0, trivial⟩ ⟨.inr ⟨_, m0, lent_eS⟩, trivial⟩) ?_
  rintro _ _ _ ⟨_, _, ⟨rfl, rfl, rfl⟩, rfl, rfl⟩
  dsimp only [na, ca]
  obtain rfl := si h
  refine D rfl (det_pick_on rfl hg2_15 rfl rfl) ?_
  exact wl_nil (pn_qnE (ext_cons rfl (Ex 3 rfl rfl)) (fun _ h => h.to ⟨_, (rs r0), ⟨_, (rs r0), trivial⟩⟩ trivial))
 ·have hg2_15a := hg
  have h := ifF hq2_15 hg
  refine Gf rfl rfl rfl hg2_15a (Gf rfl rfl rfl hg2_15a ?_)
  obtain rfl := si h
  refine D rfl (det_pick_off rfl hg2_15a rfl rfl) ?_
  exact wl_nil (pn_qnE (ext_cons rfl (Ex 3 rfl rfl)) (fun _ h => h))
 have h := ho2_15
 refine D rfl (ag rfl) (Wn (Pt (Wt ?_)))
 obtain rfl := si h
 refine pn_ret (vs := [_]) rfl ⟨rfl, trivial⟩ ⟨rfl, rfl, rfl⟩ (fun _ h => h.to trivial trivial)
def Q_treatylaw29_InuringComes (r : Bool) : Value → List Ent → List Fact → Prop := fun v θ κ => v = .bool r ∧ θ = [] ∧ κ = []
theorem plains_treatylaw29_InuringComes {r : Bool} : ∀ v θ κ, Q_treatylaw29_InuringComes r v θ κ → Plains θ := by
 rintro _ _ _ ⟨rfl, rfl, rfl⟩
 exact trivial
set_option maxHeartbeats 4000000 in
set_option maxRecDepth 100000 in
theorem W_treatylaw29_InuringComes (a0 : (List Int)) (A0 : Option Addr) (n0 : Nat) (c0 : Nat) (r : Bool) (h : treatylaw29_InuringComes a0 = some r) : Spec Try.prog 4 [.slice A0 n0 c0] [] [fV (lSlice (lInt .i64)) (.slice A0 n0 c0) a0] (Q_treatylaw29_InuringComes r) := by
 unfold treatylaw29_InuringComes at h
 refine spec_of (σ := [(0, _)]) Try.func4 rfl rfl rfl rfl ?_
 intro C
 refine wc_know (fun _ h => h.lenF m0) (fun e => ?_)
 subst e
 refine Wq (Wr (D rfl (ag rfl) (Wn (Pt (Wq (Wr (D rfl (mv rfl) ?_)))))))
 obtain ⟨r1_1, hr1_1, h⟩ := bs h
 refine Ac rfl (act_callS (cap := []) (W_treatymade2_New a0 A0 a0.length c0 r1_1 hr1_1) rfl rfl rfl bd8 rfl ⟨m0, trivial⟩) ?_
 rintro _ _ _ ⟨_, _, ⟨y1_1b0, y1_1A1, y1_1n1, y1_1c1, rfl, rfl, rfl⟩, rfl, rfl⟩
 dsimp only [na, ca]
 refine wl_know (fun _ h => h.lenF m0) (fun e => ?_)
 subst e
 obtain ⟨r1_2, hr1_2, h⟩ := bs h
 refine Ac rfl (act_callS (cap := []) (W_treatymade2_Treaties r1_1 8 y1_1b0 y1_1A1 r1_1.L.length y1_1c1 r1_2 hr1_2) rfl rfl rfl bd7 ⟨_, r0, rfl⟩ ⟨m0, trivial⟩) ?_
 rintro _ _ _ ⟨_, _, ⟨y1_2A0, y1_2n0, y1_2c0, y1_2A1, y1_2n1, y1_2c1, rfl, rfl, rfl⟩, rfl, rfl⟩
 dsimp only [na, ca]
 refine wl_know (fun _ h => h.lenO m0) (fun e => ?_)
 subst e
 refine wl_know (fun _ h => h.lenF m0) (fun e => ?_)
 subst e
 refine D rfl (ag rfl) (Wn (Pt (Wq (Wr (D rfl (mv rfl) ?_)))))
 obtain ⟨r2_1, hr2_1, h⟩ := bs h
 refine Ac rfl (act_callL (cap := []) [eS lGTreaty 41 y1_2A0 r1_2.1.length y1_2c0 r1_2.1] (W_inuring_Order r1_2.1 y1_2A0 r1_2.1.length y1_2c0 r2_1 hr2_1) plains_inuring_Order rfl rfl rfl bd10 rfl ⟨m0, trivial⟩ ⟨.inr ⟨_, m0, lent_eS⟩, trivial⟩) ?_
 rintro _ _ _ ⟨_, _, ⟨y2_1A0, y2_1n0, y2_1c0, rfl, rfl, rfl⟩, rfl, rfl⟩
 dsimp only [na, ca]
 refine wl_know (fun _ h => h.lenO m0) (fun e => ?_)
 subst e
 refine D rfl (mv rfl) ?_
 refine D rfl (det_extract rfl rfl) (D rfl (det_extract rfl rfl) (D rfl (ag rfl) (D rfl (ag rfl) (Wn (Pt (Wq (Wq (Wr (D rfl (mv rfl) (D rfl (det_neq rfl rfl) (D rfl (mv rfl) ?_)))))))))))
 refine wl_way (!decide (r2_1.2 = 0)) ((!decide (r2_1.2 = 0)) || (!decide ((r2_1.1.length : Int) = (r1_2.1.length : Int)))) 6 28 (fun hg => ?_) (fun hg => ?_) ?_
 ·have hg3_8 := hg
  refine Gf rfl rfl rfl hg3_8 (Gf rfl rfl rfl hg3_8 (Gf rfl rfl rfl hg3_8 (Gf rfl rfl rfl hg3_8 (Gf rfl rfl rfl hg3_8 (D rfl (det_or_on (r := (!decide ((r2_1.1.length : Int) = (r1_2.1.length : Int)))) rfl rfl rfl hg3_8) ?_)))))
  exact wl_nil (pn_qnE (ext_cons rfl (Ex 6 rfl rfl)) (fun _ h => h))
 ·have hg3_8a := hg
  refine Gn rfl rfl hg3_8a (D rfl (mv rfl) (Gn rfl rfl hg3_8a (D rfl (det_len rfl un22) (Gn rfl rfl hg3_8a (D rfl (mv rfl) (Gn rfl rfl hg3_8a (D rfl (det_len rfl un23) (Gn rfl rfl hg3_8a (D rfl (det_neq rfl rfl) (D rfl (det_or_off rfl rfl rfl hg3_8a) ?_))))))))))
  exact wl_nil (pn_qnE (ext_cons rfl (Ex 6 rfl rfl)) (fun _ h => h))
 refine Wn (Pt ?_)
 refine wc_cond rfl (fun cd9 => ?_) (fun cd9 => ?_)
 ·have h := ifT h cd9
  refine Wq (Wr (D rfl (ag rfl) (Wn (Pt (Wt (Rt ?_))))))
  obtain rfl := si h
  refine pn_ret (vs := [_]) rfl ⟨rfl, trivial⟩ ⟨rfl, rfl, rfl⟩ (fun _ h => h.to trivial trivial)
 ·have h := ifF h cd9
  refine Wk (Pt ?_)
  obtain ⟨q12, h, ho12⟩ := bs h
  refine wc_meetG (G := Unit × Unit) (fun (s12, _) => (.inl s12) = q12) (fun (_, _) => []) (fun (_, _) => []) (fun (_, _) => []) ?_ ?_
  ·refine Wq (Wr (D rfl (mv rfl) (D rfl (det_len rfl un22) (D rfl (mv rfl) (Wn (Pt (Wb ?_)))))))
   refine wc_st (fun _ h => h.shutS r0) ?_
   obtain ⟨o16, h, ho16⟩ := bs h
   obtain ⟨k16, hk16⟩ := loopV_some.1 h
   refine wc_loop (G := Nat × Int × Unit) (fun g => IterN (treatylaw29_InuringComes_l16 r1_2 r2_1) g.1 g.2.1 o16) (fun g => g.1) (fun (_, s16, _) => [(3, .slice y1_2A0 r1_2.1.length y1_2c0), (4, .slice y2_1A0 r2_1.1.length y2_1c0), (29, .slice y2_1A0 r2_1.1.length y2_1c0), (30, .int .i64 (r2_1.1.length : Int)), (31, .int .i64 s16)]) (fun (_, _, _) => [eS lGTreaty 41 y1_2A0 r1_2.1.length y1_2c0 r1_2.1]) (fun (_, _, _) => [fV (lSlice (lInt .i64)) (.slice y2_1A0 r2_1.1.length y2_1c0) r2_1.1]) (k16, 0, ()) hk16 (Sb rfl) (fun _ h => h.to ⟨_, r0, trivial⟩ ⟨m0, trivial⟩) ?_
   rintro ⟨k16, s16, _⟩ hI
   obtain ⟨k16, rfl, q16, h, g16⟩ := IterN.pos hI
   dsimp only at h ⊢
   unfold treatylaw29_InuringComes_l16 at h
   refine Wq (Wr (D rfl (det_lss rfl rfl) (Wn (Pt (Wq ?_)))))
   refine wc_cond rfl (fun cd20 => ?_) (fun cd20 => ?_)
   ·have h := ifT h cd20
    refine Wk (Pt ?_)
    obtain ⟨q22, h, ho22⟩ := bs h
    refine wc_meetG (G := Unit × Unit) (fun (s22, _) => (.inl s22) = q22) (fun (_, _) => [(3, .slice y1_2A0 r1_2.1.length y1_2c0), (4, .slice y2_1A0 r2_1.1.length y2_1c0), (29, .slice y2_1A0 r2_1.1.length y2_1c0), (30, .int .i64 (r2_1.1.length : Int)), (31, .int .i64 s16)]) (fun (_, _) => [eS lGTreaty 41 y1_2A0 r1_2.1.length y1_2c0 r1_2.1]) (fun (_, _) => [fV (lSlice (lInt .i64)) (.slice y2_1A0 r2_1.1.length y2_1c0) r2_1.1]) ?_ ?_
    ·refine Wb (Wq (Wr (D rfl (mv rfl) ?_)))
     obtain ⟨k7_1, h⟩ := chk_some h
     refine wl_st (fun _ h => h.openF m0 k7_1) ?_
     refine D rfl (det_indexP rfl rfl (ms m0) k7_1 m0 un22 sz3) (D rfl (det_loadP (off := 0) rfl m0 (by rfl) (by rfl) (loaded_1 na3 us3)) (D rfl (ag rfl) (D rfl (ag rfl) (Wn (Pt (Wq (Wq (Wr (D rfl (mv rfl) (D rfl (det_lss rfl rfl) (D rfl (mv rfl) ?_)))))))))))
     refine wl_way (decide ((ix r2_1.1 s16) < 0)) ((decide ((ix r2_1.1 s16) < 0)) || (decide ((r1_2.1.length : Int) ≤ (ix r2_1.1 s16)))) 5 43 (fun hg => ?_) (fun hg => ?_) ?_
     ·have hg8_7 := hg
      refine Gf rfl rfl rfl hg8_7 (Gf rfl rfl rfl hg8_7 (Gf rfl rfl rfl hg8_7 (Gf rfl rfl rfl hg8_7 (D rfl (det_or_on (r := (decide ((r1_2.1.length : Int) ≤ (ix r2_1.1 s16)))) rfl rfl rfl hg8_7) ?_))))
      exact wl_nil (pn_qnE (ext_cons rfl (Ex 5 rfl rfl)) (fun _ h => h))
     ·have hg8_7a := hg
      refine Gn rfl rfl hg8_7a (D rfl (mv rfl) (Gn rfl rfl hg8_7a (D rfl (mv rfl) (Gn rfl rfl hg8_7a (D rfl (det_len rfl un23) (Gn rfl rfl hg8_7a (D rfl (det_geq rfl rfl) (D rfl (det_or_off rfl rfl rfl hg8_7a) ?_))))))))
      exact wl_nil (pn_qnE (ext_cons rfl (Ex 5 rfl rfl)) (fun _ h => h))
     refine Wn (Pt ?_)
     refine wc_cond rfl (fun cd29 => ?_) (fun cd29 => ?_)
     ·have h := ifT h cd29
      refine Wq (Wr (D rfl (ag rfl) (Wn (Pt (Wt (Rt (Rb (Rt (Rt (Rb (Rt ?_)))))))))))
      obtain rfl := si h
      have h := (elimR ho22)
      obtain rfl := si h
      replace g16 := nextR g16
      subst g16
      have h := (elimL ho16)
      obtain rfl := si h
      have h := (elimR ho12)
      obtain rfl := si h
      refine pn_ret (vs := [_]) rfl ⟨rfl, trivial⟩ ⟨rfl, rfl, rfl⟩ (fun _ h => h.to trivial trivial)
     ·have h := ifF h cd29
      refine Wk (Pt ?_)
      obtain ⟨q32, h, ho32⟩ := bs h
      refine wc_meetG (G := Unit × Unit) (fun (s32, _) => (.inl s32) = q32) (fun (_, _) => [(3, .slice y1_2A0 r1_2.1.length y1_2c0), (4, .slice y2_1A0 r2_1.1.length y2_1c0), (6, .int .i64 s16), (7, .int .i64 (ix r2_1.1 s16)), (29, .slice y2_1A0 r2_1.1.length y2_1c0), (30, .int .i64 (r2_1.1.length : Int)), (31, .int .i64 s16)]) (fun (_, _) => [eS lGTreaty 41 y1_2A0 r1_2.1.length y1_2c0 r1_2.1]) (fun (_, _) => [fV (lSlice (lInt .i64)) (.slice y2_1A0 r2_1.1.length y2_1c0) r2_1.1]) ?_ ?_
      ·refine Wq (Wr (D rfl (mv rfl) (D rfl (mv rfl) ?_)))
       obtain ⟨k10_2, h⟩ := chk_some h
       obtain ⟨k10_2a, h⟩ := chk_some h
       refine Ac rfl (act_sliceL rfl rfl (ms m0) un22 sz3 rfl k10_2 k10_2a) ?_
       rintro _ _ _ ⟨A10_2, c10_2, rfl, rfl, rfl⟩
       refine D rfl (det_len rfl un22) (D rfl (mv rfl) (Wn (Pt (Wb ?_))))
       obtain ⟨o36, h, ho36⟩ := bs h
       obtain ⟨k36, hk36⟩ := loopV_some.1 h
       refine wc_loop (G := Nat × Int × Unit) (fun g => IterN (treatylaw29_InuringComes_l36 r1_2 r2_1 s16) g.1 g.2.1 o36) (fun g => g.1) (fun (_, s36, _) => [(3, .slice y1_2A0 r1_2.1.length y1_2c0), (4, .slice y2_1A0 r2_1.1.length y2_1c0), (6, .int .i64 s16), (7, .int .i64 (ix r2_1.1 s16)), (29, .slice y2_1A0 r2_1.1.length y2_1c0), (30, .int .i64 (r2_1.1.length : Int)), (31, .int .i64 s16), (46, .slice A10_2 (r2_1.1.drop s16.toNat).length c10_2), (47, .int .i64 ((r2_1.1.drop s16.toNat).length : Int)), (48, .int .i64 s36)]) (fun (_, _, _) => [eS lGTreaty 41 y1_2A0 r1_2.1.length y1_2c0 r1_2.1]) (fun (_, _, _) => [fV (lSlice (lInt .i64)) (.slice y2_1A0 r2_1.1.length y2_1c0) r2_1.1, fV (lSlice (lInt .i64)) (.slice A10_2 (r2_1.1.drop s16.toNat).length c10_2) (r2_1.1.drop s16.toNat)]) (k36, 0, ()) hk36 (Sb rfl) (fun _ h => h.to ⟨_, r0, trivial⟩ ⟨(ms (ms m0)), ⟨m0, trivial⟩⟩) ?_
       rintro ⟨k36, s36, _⟩ hI
       obtain ⟨k36, rfl, q36, h, g36⟩ := IterN.pos hI
       dsimp only at h ⊢
       unfold treatylaw29_InuringComes_l36 at h
       refine Wq (Wr (D rfl (det_lss rfl rfl) (Wn (Pt (Wq ?_)))))
       refine wc_cond rfl (fun cd40 => ?_) (fun cd40 => ?_)
       ·have h := ifT h cd40
        refine Wk (Pt (Wq (Wb (Wq (Wr ?_)))))
        obtain ⟨k12_0, h⟩ := chk_some h
        refine wl_st (fun _ h => h.openF (ms m0) k12_0) ?_
        refine D rfl (det_indexP rfl rfl (ms (ms m0)) k12_0 m0 un22 sz3) (D rfl (det_loadP (off := 0) rfl m0 (by rfl) (by rfl) (loaded_1 na3 us3)) (D rfl (ag rfl) (Wn (Pt (Wq (Wr (D rfl (mv rfl) (D rfl (mv rfl) (D rfl (mv rfl) ?_)))))))))
        obtain ⟨r13_3, hr13_3, h⟩ := bs h
        refine Ac rfl (act_callL (cap := []) [eS lGTreaty 41 y1_2A0 r1_2.1.length y1_2c0 r1_2.1] (W_inuring_Depends r1_2.1 (ix r2_1.1 s16) (ix (r2_1.1.drop s16.toNat) s36) y1_2A0 r1_2.1.length y1_2c0 r13_3 hr13_3) plains_inuring_Depends rfl rfl rfl bd14 rfl ⟨m0, trivial⟩ ⟨.inr ⟨_, m0, lent_eS⟩, trivial⟩) ?_
        rintro _ _ _ ⟨_, _, ⟨rfl, rfl, rfl⟩, rfl, rfl⟩
        dsimp only [na, ca]
        refine Wn (Pt ?_)
        refine wc_cond rfl (fun cd48 => ?_) (fun cd48 => ?_)
        ·have h := ifT h cd48
         refine Wq (Wr (D rfl (ag rfl) (Wn ?_)))
         refine Pt (Wt (Rb (Rt (Rt (Rb (Rt (Rb (Rt (Rt (Rb (Rt ?_)))))))))))
         obtain rfl := si h
         replace g36 := nextR g36
         subst g36
         have h := (elimL ho36)
         obtain rfl := si h
         have h := (elimR ho32)
         obtain rfl := si h
         have h := (elimR ho22)
         obtain rfl := si h
         replace g16 := nextR g16
         subst g16
         have h := (elimL ho16)
         obtain rfl := si h
         have h := (elimR ho12)
         obtain rfl := si h
         refine pn_ret (vs := [_]) rfl ⟨rfl, trivial⟩ ⟨rfl, rfl, rfl⟩ (fun _ h => h.to trivial trivial)
        ·have h := ifF h cd48
         refine Wk (Pb (Pt (Wr (D rfl (det_add rfl rfl) (D rfl (mv rfl) (Wn ?_))))))
         obtain rfl := si h
         exact pn_some (k36, (w64 (s36 + 1)), ()) ⟨nextL g36, Nat.lt_succ_self _⟩ (Sb rfl) (fun _ h => h.to ⟨_, r0, trivial⟩ ⟨(ms m0), ⟨(ms (ms m0)), trivial⟩⟩)
       ·have h := ifF h cd40
        refine We (Xt (Xt (Xb ?_)))
        obtain rfl := si h
        replace g36 := nextR g36
        subst g36
        have h := (elimR ho36)
        obtain rfl := si h
        exact pn_meetG ((), ()) rfl (Sb rfl) (fun _ h => h.to ⟨_, r0, trivial⟩ ⟨m0, trivial⟩)
      rintro ⟨s32, _⟩ e32
      dsimp only at e32 ⊢
      subst e32
      have h := (elimL ho32)
      refine Wq (Wr (D rfl (mv rfl) (D rfl (mv rfl) ?_)))
      obtain ⟨k16_2, h⟩ := chk_some h
      obtain ⟨k16_2a, h⟩ := chk_some h
      refine Ac rfl (act_sliceH rfl rfl m0 un22 sz3 rfl k16_2 k16_2a) ?_
      rintro _ _ _ ⟨A16_2, c16_2, rfl, rfl, rfl⟩
      refine D rfl (det_len rfl un22) (D rfl (mv rfl) (Wn (Pt (Wb ?_))))
      obtain ⟨o55, h, ho55⟩ := bs h
      obtain ⟨k55, hk55⟩ := loopV_some.1 h
      refine wc_loop (G := Nat × Int × Unit) (fun g => IterN (treatylaw29_InuringComes_l55 r2_1 s16) g.1 g.2.1 o55) (fun g => g.1) (fun (_, s55, _) => [(3, .slice y1_2A0 r1_2.1.length y1_2c0), (4, .slice y2_1A0 r2_1.1.length y2_1c0), (7, .int .i64 (ix r2_1.1 s16)), (29, .slice y2_1A0 r2_1.1.length y2_1c0), (30, .int .i64 (r2_1.1.length : Int)), (31, .int .i64 s16), (59, .slice A16_2 (r2_1.1.take s16.toNat).length c16_2), (60, .int .i64 ((r2_1.1.take s16.toNat).length : Int)), (61, .int .i64 s55)]) (fun (_, _, _) => [eS lGTreaty 41 y1_2A0 r1_2.1.length y1_2c0 r1_2.1]) (fun (_, _, _) => [fV (lSlice (lInt .i64)) (.slice y2_1A0 r2_1.1.length y2_1c0) r2_1.1, fV (lSlice (lInt .i64)) (.slice A16_2 (r2_1.1.take s16.toNat).length c16_2) (r2_1.1.take s16.toNat)]) (k55, 0, ()) hk55 (Sb rfl) (fun _ h => h.to ⟨_, r0, trivial⟩ ⟨(ms m0), ⟨m0, trivial⟩⟩) ?_
      rintro ⟨k55, s55, _⟩ hI
      obtain ⟨k55, rfl, q55, h, g55⟩ := IterN.pos hI
      dsimp only at h ⊢
      unfold treatylaw29_InuringComes_l55 at h
      refine Wq (Wr (D rfl (det_lss rfl rfl) (Wn (Pt (Wq ?_)))))
      refine wc_cond rfl (fun cd59 => ?_) (fun cd59 => ?_)
      ·have h := ifT h cd59
       refine Wk (Pt (Wq (Wb (Wq (Wr ?_)))))
       obtain ⟨k18_0, h⟩ := chk_some h
       refine wl_st (fun _ h => h.openF (ms m0) k18_0) ?_
       refine D rfl (det_indexP rfl rfl (ms (ms m0)) k18_0 m0 un22 sz3) (D rfl (det_loadP (off := 0) rfl m0 (by rfl) (by rfl) (loaded_1 na3 us3)) (D rfl (ag rfl) (Wn (Pt (Wq (Wr (D rfl (mv rfl) (D rfl (mv rfl) (D rfl (det_eql rfl rfl) (Wn (Pt ?_)))))))))))
       refine wc_cond rfl (fun cd67 => ?_) (fun cd67 => ?_)
       ·have h := ifT h cd67
        refine Wq (Wr (D rfl (ag rfl) ?_))
        refine Wn (Pt (Wt (Rb (Rt (Rt (Rb (Rb (Rt (Rt (Rb (Rt ?_)))))))))))
        obtain rfl := si h
        replace g55 := nextR g55
        subst g55
        have h := (elimL ho55)
        obtain rfl := si h
        have h := (elimR ho22)
        obtain rfl := si h
        replace g16 := nextR g16
        subst g16
        have h := (elimL ho16)
        obtain rfl := si h
        have h := (elimR ho12)
        obtain rfl := si h
        refine pn_ret (vs := [_]) rfl ⟨rfl, trivial⟩ ⟨rfl, rfl, rfl⟩ (fun _ h => h.to trivial trivial)
       ·have h := ifF h cd67
        refine Wk (Pb (Pt (Wr (D rfl (det_add rfl rfl) (D rfl (mv rfl) (Wn ?_))))))
        obtain rfl := si h
        exact pn_some (k55, (w64 (s55 + 1)), ()) ⟨nextL g55, Nat.lt_succ_self _⟩ (Sb rfl) (fun _ h => h.to ⟨_, r0, trivial⟩ ⟨(ms m0), ⟨(ms (ms m0)), trivial⟩⟩)
      ·have h := ifF h cd59
       refine We (Xt (Xt (Xb (Pb ?_))))
       obtain rfl := si h
       replace g55 := nextR g55
       subst g55
       have h := (elimR ho55)
       obtain rfl := si h
       exact pn_meetG ((), ()) rfl (Sb rfl) (fun _ h => h.to ⟨_, r0, trivial⟩ ⟨m0, trivial⟩)
    rintro ⟨s22, _⟩ e22
    dsimp only at e22 ⊢
    subst e22
    have h := (elimL ho22)
    refine Wr (D rfl (det_add rfl rfl) (D rfl (mv rfl) (Wn ?_)))
    obtain rfl := si h
    exact pn_some (k16, (w64 (s16 + 1)), ()) ⟨nextL g16, Nat.lt_succ_self _⟩ (Sb rfl) (fun _ h => h.to ⟨_, r0, trivial⟩ ⟨m0, trivial⟩)
   ·have h := ifF h cd20
    refine We (Xt (Xt (Xb ?_)))
    obtain rfl := si h
    replace g16 := nextR g16
    subst g16
    have h := (elimR ho16)
    obtain rfl := si h
    exact pn_meetG ((), ()) rfl trivial (fun _ h => h.to trivial trivial)
  rintro ⟨s12, _⟩ e12
  dsimp only at e12 ⊢
  subst e12
  have h := (elimL ho12)
  refine Wq (Wr ?_)
  obtain ⟨r23_0, hr23_0, h⟩ := bs h
  refine Ac rfl (act_callS (cap := []) (W_treatylaw29_awake r23_0 hr23_0) rfl rfl rfl bd13 rfl trivial) ?_
  rintro _ _ _ ⟨_, _, ⟨rfl, rfl, rfl⟩, rfl, rfl⟩
  dsimp only [na, ca]
  refine D rfl (ag rfl) (Wn (Pt (Wt ?_)))
  obtain rfl := si h
  refine pn_ret (vs := [_]) rfl ⟨rfl, trivial⟩ ⟨rfl, rfl, rfl⟩ (fun _ h => h.to trivial trivial)
end Go.Proofs.Ytfekcgnnhjmeiaa
