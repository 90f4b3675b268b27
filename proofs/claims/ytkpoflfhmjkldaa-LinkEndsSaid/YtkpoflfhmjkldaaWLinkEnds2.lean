/- That functions of the program compute the plain programs of P. Written by a small program. -/
import Derived.Test.YtkpoflfhmjkldaaWLinkEnds1
namespace Go.Proofs.Ytkpoflfhmjkldaa
open Go.RowKit
def Q_treatylaw42_awake (r : Bool) : Value → List Ent → List Fact → Prop := fun v θ κ => v = .bool r ∧ θ = [] ∧ κ = []
theorem plains_treatylaw42_awake {r : Bool} : ∀ v θ κ, Q_treatylaw42_awake r v θ κ → Plains θ := by
  rintro _ _ _ ⟨rfl, rfl, rfl⟩
  exact trivial
set_option maxHeartbeats 4000000 in
set_option maxRecDepth 100000 in
theorem W_treatylaw42_awake (r : Bool) (h : treatylaw42_awake = some r) : Spec Try.prog 11 [] [] [] (Q_treatylaw42_awake r) := by
  unfold treatylaw42_awake at h
  refine spec_of (σ := []) Try.func11 rfl rfl rfl rfl ?_
  intro C
  refine wc_seq ?_
  refine wc_region ?_   -- region 0
  refine wl_det rfl rfl (det_assign rfl) rfl ?_
  refine wl_nil ?_
  refine pn_then ?_
  refine wc_seq ?_
  refine wc_region ?_   -- region 1
  refine wl_act (act_litS (lInt .u8) (vs := [_]) (cs := [_]) [1] un25 in5 rfl rfl rfl rfl rfl ⟨rfl, trivial⟩ (by rfl) rfl (litR_flat rfl)) rfl rfl rfl ?_
  rintro _ _ _ ⟨A1_0, rfl, rfl, rfl⟩
  refine wl_act (act_litS (lInt .u8) (vs := [_]) (cs := [_]) [2] un25 in5 rfl rfl rfl rfl rfl ⟨rfl, trivial⟩ (by rfl) rfl (litR_flat rfl)) rfl rfl rfl ?_
  rintro _ _ _ ⟨A1_1, rfl, rfl, rfl⟩
  refine wl_act (act_litS (lInt .u8) (vs := [_]) (cs := [_]) [3] un25 in5 rfl rfl rfl rfl rfl ⟨rfl, trivial⟩ (by rfl) rfl (litR_flat rfl)) rfl rfl rfl ?_
  rintro _ _ _ ⟨A1_2, rfl, rfl, rfl⟩
  refine wl_st (fun _ h => h.shutS (rs (rs r0))) ?_
  refine wl_st (fun _ h => h.shutS (rs r0)) ?_
  refine wl_st (fun _ h => h.shutS r0) ?_
  refine wl_act (act_litS (lSlice (lInt .u8)) (vs := [_, _, _]) (cs := [_, _, _]) [[1], [2], [3]] un22 in25 rfl rfl rfl rfl rfl ⟨rfl, rfl, rfl, trivial⟩ (by rfl) rfl (fun _ h => by have q := ((oneV h (ms (ms m0))).cat (oneV h (ms m0))).cat (oneV h m0); exact q)) rfl rfl rfl ?_
  rintro _ _ _ ⟨A1_3, rfl, rfl, rfl⟩
  refine wl_det rfl rfl (det_build (cs := [_, _, _]) pl24 zr24 rfl rfl (by rfl)) rfl ?_
  refine wl_act (act_alloc (cs := [_, _, _]) zr24 rfl) rfl rfl rfl ?_
  rintro _ _ _ ⟨b1_5, rfl, rfl, rfl⟩
  refine wl_act0 (act_store (cells := [_, _, _]) (cs' := [_, _, _]) rfl rfl rfl s0 (by rfl) (of_decide_eq_true rfl) sz24 ⟨rfl, rfl, rfl, trivial⟩) rfl rfl ?_
  rintro _ _ _ ⟨rfl, rfl⟩
  refine wl_nil ?_
  refine pn_then ?_
  refine wc_seq ?_
  refine wc_region ?_   -- region 2
  refine wl_det rfl rfl (det_loadN (cells := [_, _, _]) rfl m0 (by rfl) ag24 sz24) rfl ?_
  refine wl_st (fun _ h => h.shutS (rs r0)) ?_
  obtain ⟨r2_1, hr2_1, h⟩ := bind_some h
  refine wl_act (act_callS (cap := []) (W_link_Pending (GEndpoint.mk [[1], [2], [3]] 1 0) 5 true A1_3 3 3 r2_1 hr2_1) rfl rfl rfl bd14 rfl ⟨m0, trivial⟩) rfl rfl rfl ?_
  rintro _ _ _ ⟨_, _, ⟨y2_1A0, y2_1n0, y2_1c0, rfl, rfl, rfl⟩, rfl, rfl⟩
  dsimp only [List.nil_append, List.cons_append]
  refine wl_know (fun _ h => h.lenO m0) (fun e => ?_)
  subst e
  refine wl_det rfl rfl (det_assign rfl) rfl ?_
  refine wl_nil ?_
  refine pn_then ?_
  refine wc_seq ?_
  refine wc_seq ?_
  refine wc_region ?_   -- region 3
  refine wl_det rfl rfl (det_move rfl) rfl ?_
  refine wl_det rfl rfl (det_len rfl un31) rfl ?_
  refine wl_det rfl rfl (det_neq rfl rfl) rfl ?_
  refine wl_det rfl rfl (det_move rfl) rfl ?_
  rcases Bool.eq_false_or_eq_true (!decide ((r2_1.length : Int) = 2)) with hg3_f4 | hg3_f4
  · have h := ifT h hg3_f4
    refine wl_off rfl rfl rfl rfl rfl hg3_f4 rfl ?_
    refine wl_off rfl rfl rfl rfl rfl hg3_f4 rfl ?_
    refine wl_off rfl rfl rfl rfl rfl hg3_f4 rfl ?_
    refine wl_off rfl rfl rfl rfl rfl hg3_f4 rfl ?_
    refine wl_off rfl rfl rfl rfl rfl hg3_f4 rfl ?_
    refine wl_det rfl rfl (det_pick_on rfl hg3_f4 rfl rfl) rfl ?_
    refine wl_det rfl rfl (det_move rfl) rfl ?_
    refine wl_off rfl rfl rfl rfl rfl rfl rfl ?_
    refine wl_off rfl rfl rfl rfl rfl rfl rfl ?_
    refine wl_off rfl rfl rfl rfl rfl rfl rfl ?_
    refine wl_off rfl rfl rfl rfl rfl rfl rfl ?_
    refine wl_off rfl rfl rfl rfl rfl rfl rfl ?_
    refine wl_det rfl rfl (det_pick_on rfl rfl rfl rfl) rfl ?_
    refine wl_det rfl rfl (det_move rfl) rfl ?_
    refine wl_off rfl rfl rfl rfl rfl rfl rfl ?_
    refine wl_off rfl rfl rfl rfl rfl rfl rfl ?_
    refine wl_off rfl rfl rfl rfl rfl rfl rfl ?_
    refine wl_off rfl rfl rfl rfl rfl rfl rfl ?_
    refine wl_off rfl rfl rfl rfl rfl rfl rfl ?_
    refine wl_off rfl rfl rfl rfl rfl rfl rfl ?_
    refine wl_off rfl rfl rfl rfl rfl rfl rfl ?_
    refine wl_det rfl rfl (det_pick_on rfl rfl rfl rfl) rfl ?_
    refine wl_nil ?_
    refine pn_then ?_
    refine wc_cond rfl (fun cd9 => ?_) (fun cd9 => ?_)
    · have h := ifT h cd9
      refine wc_seq ?_
      refine wc_region ?_   -- region 4
      refine wl_det rfl rfl (det_assign rfl) rfl ?_
      refine wl_nil ?_
      refine pn_then ?_
      refine wc_ret ?_
      refine pr_then ?_
      replace h := Option.some.inj h
      subst h
      refine pn_ret (vs := [_]) rfl ⟨rfl, trivial⟩ ⟨rfl, rfl, rfl⟩ (fun _ h => h.to trivial trivial)
    · have h := ifF h cd9
      refine wc_skip ?_
      refine pn_then ?_
      refine wc_seq ?_
      refine wc_region ?_   -- region 5
      refine wl_det rfl rfl (det_build (cs := [_, _, _]) pl24 zr24 rfl rfl (by rfl)) rfl ?_
      refine wl_det rfl rfl (det_move rfl) rfl ?_
      obtain ⟨k5_2, h⟩ := chk_some h
      refine wl_det rfl rfl (det_indexO rfl rfl m0 k5_2 un31 sz27) rfl ?_
      refine wl_st (fun _ h => h.shutS r0) ?_
      refine wl_ex (G := Option Addr × Nat) _ _ (fun _ => True) (fun _ h => openGPacket h m0 k5_2) ?_
      rintro ⟨A5_3, c5_3⟩ -
      dsimp only
      refine wl_det rfl rfl (det_loadP (off := 0) rfl m0 (by rfl) (by rfl) (loaded_n (cells := [_, _, _, _, _]) ag27 sz27)) rfl ?_
      refine wl_st (fun _ h => h.zeroF (lSlice (lInt .u8)) none 0) ?_
      obtain ⟨r5_4, hr5_4, h⟩ := bind_some h
      refine wl_act (act_callS (cap := []) (W_link_Receive (GEndpoint.mk [] 0 1) (ix r2_1 0) none 0 0 A5_3 (ix r2_1 0).Data.length c5_3 r5_4 hr5_4) rfl rfl rfl bd7 rfl ⟨m0, ⟨(ms (ms m0)), trivial⟩⟩) rfl rfl rfl ?_
      rintro _ _ _ ⟨_, _, ⟨y5_4A0, y5_4n0, y5_4c0, y5_4A1, y5_4n1, y5_4c1, rfl, rfl, rfl⟩, rfl, rfl⟩
      dsimp only [List.nil_append, List.cons_append]
      refine wl_know (fun _ h => h.lenO m0) (fun e => ?_)
      subst e
      refine wl_know (fun _ h => h.lenO (ms m0)) (fun e => ?_)
      subst e
      refine wl_det rfl rfl (det_move rfl) rfl ?_
      refine wl_det rfl rfl (det_extract rfl rfl) rfl ?_
      refine wl_det rfl rfl (det_extract rfl rfl) rfl ?_
      refine wl_det rfl rfl (det_extract rfl rfl) rfl ?_
      refine wl_act (act_alloc (cs := [_, _, _]) zr24 rfl) rfl rfl rfl ?_
      rintro _ _ _ ⟨b5_9, rfl, rfl, rfl⟩
      refine wl_act0 (act_store (cells := [_, _, _]) (cs' := [_, _, _]) rfl rfl rfl s0 (by rfl) (of_decide_eq_true rfl) sz24 ⟨rfl, rfl, rfl, trivial⟩) rfl rfl ?_
      rintro _ _ _ ⟨rfl, rfl⟩
      refine wl_det rfl rfl (det_assign rfl) rfl ?_
      refine wl_det rfl rfl (det_assign rfl) rfl ?_
      refine wl_nil ?_
      refine pn_then ?_
      refine wc_seq ?_
      refine wc_region ?_   -- region 6
      refine wl_det rfl rfl (det_build (cs := [_, _, _]) pl24 zr24 rfl rfl (by rfl)) rfl ?_
      refine wl_det rfl rfl (det_move rfl) rfl ?_
      obtain ⟨k6_2, h⟩ := chk_some h
      refine wl_ex (G := Option Addr × Nat) _ _ (fun _ => True) (fun _ h => openGPacket h (ms (ms (ms m0))) k6_2) ?_
      rintro ⟨A6_2, c6_2⟩ -
      dsimp only
      refine wl_det rfl rfl (det_indexP rfl rfl (ms (ms (ms (ms (ms m0))))) k6_2 m0 un31 sz27) rfl ?_
      refine wl_det rfl rfl (det_loadP (off := 0) rfl m0 (by rfl) (by rfl) (loaded_n (cells := [_, _, _, _, _]) ag27 sz27)) rfl ?_
      obtain ⟨r6_4, hr6_4, h⟩ := bind_some h
      refine wl_act (act_callS (cap := []) (W_link_Receive (GEndpoint.mk [] 0 1) (ix r2_1 1) none 0 0 A6_2 (ix r2_1 1).Data.length c6_2 r6_4 hr6_4) rfl rfl rfl bd7 rfl ⟨(ms (ms m0)), ⟨(ms m0), trivial⟩⟩) rfl rfl rfl ?_
      rintro _ _ _ ⟨_, _, ⟨y6_4A0, y6_4n0, y6_4c0, y6_4A1, y6_4n1, y6_4c1, rfl, rfl, rfl⟩, rfl, rfl⟩
      dsimp only [List.nil_append, List.cons_append]
      refine wl_know (fun _ h => h.lenO m0) (fun e => ?_)
      subst e
      refine wl_know (fun _ h => h.lenO (ms m0)) (fun e => ?_)
      subst e
      refine wl_det rfl rfl (det_move rfl) rfl ?_
      refine wl_det rfl rfl (det_extract rfl rfl) rfl ?_
      refine wl_det rfl rfl (det_extract rfl rfl) rfl ?_
      refine wl_det rfl rfl (det_extract rfl rfl) rfl ?_
      refine wl_act (act_alloc (cs := [_, _, _]) zr24 rfl) rfl rfl rfl ?_
      rintro _ _ _ ⟨b6_9, rfl, rfl, rfl⟩
      refine wl_act0 (act_store (cells := [_, _, _]) (cs' := [_, _, _]) rfl rfl rfl s0 (by rfl) (of_decide_eq_true rfl) sz24 ⟨rfl, rfl, rfl, trivial⟩) rfl rfl ?_
      rintro _ _ _ ⟨rfl, rfl⟩
      refine wl_det rfl rfl (det_assign rfl) rfl ?_
      refine wl_det rfl rfl (det_assign rfl) rfl ?_
      refine wl_nil ?_
      refine pn_then ?_
      refine wc_seq ?_
      refine wc_region ?_   -- region 7
      refine wl_det rfl rfl (det_move rfl) rfl ?_
      refine wl_det rfl rfl (det_move rfl) rfl ?_
      obtain ⟨q7_5, hq7_5, h⟩ := bind_some h
      have ho7_5 := h
      refine wl_way r5_4.2.2 q7_5 4 65 (fun hg => ?_) (fun hg => ?_) ?_
      · have hg7_5 := hg
        have h := ifT hq7_5 hg
        refine wl_on rfl rfl rfl rfl hg7_5 ?_
        refine wl_det rfl rfl (det_move rfl) rfl ?_
        refine wl_on rfl rfl rfl rfl hg7_5 ?_
        refine wl_act (act_litS (lInt .u8) (vs := [_]) (cs := [_]) [2] un25 in5 rfl rfl rfl rfl rfl ⟨rfl, trivial⟩ (by rfl) rfl (litR_flat rfl)) rfl rfl rfl ?_
        rintro _ _ _ ⟨A7_3, rfl, rfl, rfl⟩
        refine wl_on rfl rfl rfl rfl hg7_5 ?_
        obtain ⟨r7_4, hr7_4, h⟩ := bind_some h
        refine wl_act (act_callL (cap := []) [eS (lInt .u8) 5 y5_4A1 r5_4.2.1.length y5_4c1 r5_4.2.1, eS (lInt .u8) 5 A7_3 1 1 [2]] (W_treatyref40_Same r5_4.2.1 [2] y5_4A1 r5_4.2.1.length y5_4c1 A7_3 1 1 r7_4 hr7_4) plains_treatyref40_Same rfl rfl rfl bd10 rfl ⟨(ms (ms (ms (ms (ms (ms m0)))))), ⟨m0, trivial⟩⟩ ⟨.inr ⟨_, m0, lent_eS⟩, ⟨.inr ⟨_, (ms m0), lent_eS⟩, trivial⟩⟩) rfl rfl rfl ?_
        rintro _ _ _ ⟨_, _, ⟨rfl, rfl, rfl⟩, rfl, rfl⟩
        dsimp only [List.nil_append, List.cons_append]
        replace h := Option.some.inj h
        subst h
        refine wl_det rfl rfl (det_pick_on rfl hg7_5 rfl rfl) rfl ?_
        exact wl_nil (pn_qnE (ext_cons rfl (ext_skip rfl (ext_skip rfl (ext_skip rfl (ext_skip rfl ext_refl))))) (fun _ h => h.to ⟨_, (rs r0), ⟨_, (rs r0), ⟨_, (rs r0), ⟨_, (rs r0), ⟨_, (rs r0), ⟨_, (rs r0), ⟨_, (rs r0), trivial⟩⟩⟩⟩⟩⟩⟩ ⟨m0, ⟨(ms m0), ⟨(ms (ms m0)), ⟨(ms (ms (ms m0))), ⟨(ms (ms (ms (ms m0)))), ⟨(ms (ms (ms (ms (ms m0))))), ⟨(ms (ms (ms (ms (ms (ms m0)))))), ⟨(ms (ms (ms (ms (ms (ms (ms m0))))))), ⟨(ms (ms (ms (ms (ms (ms (ms (ms m0)))))))), ⟨(ms (ms (ms (ms (ms (ms (ms (ms (ms m0))))))))), trivial⟩⟩⟩⟩⟩⟩⟩⟩⟩⟩))
      · have hg7_5a := hg
        have h := ifF hq7_5 hg
        refine wl_off rfl rfl rfl rfl rfl hg7_5a rfl ?_
        refine wl_off rfl rfl rfl rfl rfl hg7_5a rfl ?_
        refine wl_off rfl rfl rfl rfl rfl hg7_5a rfl ?_
        replace h := Option.some.inj h
        subst h
        refine wl_det rfl rfl (det_pick_off rfl hg7_5a rfl rfl) rfl ?_
        exact wl_nil (pn_qnE (ext_cons rfl (ext_skip rfl (ext_skip rfl (ext_skip rfl (ext_skip rfl ext_refl))))) (fun _ h => h))
      have h := ho7_5
      refine wl_det rfl rfl (det_move rfl) rfl ?_
      refine wl_way q7_5 (q7_5 && (decide (r5_4.1.Got = 2))) 4 70 (fun hg => ?_) (fun hg => ?_) ?_
      · have hg7_10 := hg
        refine wl_on rfl rfl rfl rfl hg7_10 ?_
        refine wl_det rfl rfl (det_field rfl fd24_2 rfl) rfl ?_
        refine wl_on rfl rfl rfl rfl hg7_10 ?_
        refine wl_det rfl rfl (det_load rfl (ms (ms (ms m0))) (by rfl) na3 us3) rfl ?_
        refine wl_on rfl rfl rfl rfl hg7_10 ?_
        refine wl_det rfl rfl (det_eql rfl rfl) rfl ?_
        refine wl_det rfl rfl (det_and_on rfl rfl rfl hg7_10) rfl ?_
        exact wl_nil (pn_qnE (ext_cons rfl (ext_skip rfl (ext_skip rfl (ext_skip rfl (ext_skip rfl ext_refl))))) (fun _ h => h))
      · have hg7_10a := hg
        refine wl_off rfl rfl rfl rfl rfl hg7_10a rfl ?_
        refine wl_off rfl rfl rfl rfl rfl hg7_10a rfl ?_
        refine wl_off rfl rfl rfl rfl rfl hg7_10a rfl ?_
        refine wl_det rfl rfl (det_and_off (q := (decide (r5_4.1.Got = 2))) rfl rfl rfl hg7_10a) rfl ?_
        exact wl_nil (pn_qnE (ext_cons rfl (ext_skip rfl (ext_skip rfl (ext_skip rfl (ext_skip rfl ext_refl))))) (fun _ h => h))
      refine wl_det rfl rfl (det_move rfl) rfl ?_
      refine wl_way (q7_5 && (decide (r5_4.1.Got = 2))) ((q7_5 && (decide (r5_4.1.Got = 2))) && (!r6_4.2.2)) 3 74 (fun hg => ?_) (fun hg => ?_) ?_
      · have hg7_14 := hg
        refine wl_on rfl rfl rfl rfl hg7_14 ?_
        refine wl_det rfl rfl (det_move rfl) rfl ?_
        refine wl_on rfl rfl rfl rfl hg7_14 ?_
        refine wl_det rfl rfl (det_not rfl) rfl ?_
        refine wl_det rfl rfl (det_and_on rfl rfl rfl hg7_14) rfl ?_
        exact wl_nil (pn_qnE (ext_cons rfl (ext_skip rfl (ext_skip rfl (ext_skip rfl ext_refl)))) (fun _ h => h))
      · have hg7_14a := hg
        refine wl_off rfl rfl rfl rfl rfl hg7_14a rfl ?_
        refine wl_off rfl rfl rfl rfl rfl hg7_14a rfl ?_
        refine wl_det rfl rfl (det_and_off (q := (!r6_4.2.2)) rfl rfl rfl hg7_14a) rfl ?_
        exact wl_nil (pn_qnE (ext_cons rfl (ext_skip rfl (ext_skip rfl (ext_skip rfl ext_refl)))) (fun _ h => h))
      refine wl_det rfl rfl (det_assign rfl) rfl ?_
      refine wl_nil ?_
      refine pn_then ?_
      refine wc_ret ?_
      replace h := Option.some.inj h
      subst h
      refine pn_ret (vs := [_]) rfl ⟨rfl, trivial⟩ ⟨rfl, rfl, rfl⟩ (fun _ h => h.to trivial trivial)
  · have h := ifF h hg3_f4
    refine wl_on rfl rfl rfl rfl hg3_f4 ?_
    refine wl_det rfl rfl (det_move rfl) rfl ?_
    refine wl_on rfl rfl rfl rfl hg3_f4 ?_
    obtain ⟨k3_5, h⟩ := chk_some h
    refine wl_det rfl rfl (det_indexO rfl rfl m0 k3_5 un31 sz27) rfl ?_
    refine wl_on rfl rfl rfl rfl hg3_f4 ?_
    refine wl_det rfl rfl (det_fieldO rfl m0 k3_5 fd27_2 rfl) rfl ?_
    refine wl_on rfl rfl rfl rfl hg3_f4 ?_
    refine wl_st (fun _ h => h.shutS r0) ?_
    refine wl_ex (G := Option Addr × Nat) _ _ (fun _ => True) (fun _ h => openGPacket h m0 k3_5) ?_
    rintro ⟨A3_7, c3_7⟩ -
    dsimp only
    refine wl_det rfl rfl (det_loadP (off := 2) rfl m0 (by rfl) (by rfl) (loaded_1 na3 us3)) rfl ?_
    refine wl_on rfl rfl rfl rfl hg3_f4 ?_
    refine wl_det rfl rfl (det_neq rfl rfl) rfl ?_
    refine wl_det rfl rfl (det_pick_off rfl hg3_f4 rfl rfl) rfl ?_
    refine wl_det rfl rfl (det_move rfl) rfl ?_
    rcases Bool.eq_false_or_eq_true (!decide ((ix r2_1 0).Number = 2)) with hg3_f11 | hg3_f11
    · have h := ifT h hg3_f11
      refine wl_off rfl rfl rfl rfl rfl hg3_f11 rfl ?_
      refine wl_off rfl rfl rfl rfl rfl hg3_f11 rfl ?_
      refine wl_off rfl rfl rfl rfl rfl hg3_f11 rfl ?_
      refine wl_off rfl rfl rfl rfl rfl hg3_f11 rfl ?_
      refine wl_off rfl rfl rfl rfl rfl hg3_f11 rfl ?_
      refine wl_det rfl rfl (det_pick_on rfl hg3_f11 rfl rfl) rfl ?_
      refine wl_det rfl rfl (det_move rfl) rfl ?_
      refine wl_off rfl rfl rfl rfl rfl rfl rfl ?_
      refine wl_off rfl rfl rfl rfl rfl rfl rfl ?_
      refine wl_off rfl rfl rfl rfl rfl rfl rfl ?_
      refine wl_off rfl rfl rfl rfl rfl rfl rfl ?_
      refine wl_off rfl rfl rfl rfl rfl rfl rfl ?_
      refine wl_off rfl rfl rfl rfl rfl rfl rfl ?_
      refine wl_off rfl rfl rfl rfl rfl rfl rfl ?_
      refine wl_det rfl rfl (det_pick_on rfl rfl rfl rfl) rfl ?_
      refine wl_nil ?_
      refine pn_then ?_
      refine wc_cond rfl (fun cd9 => ?_) (fun cd9 => ?_)
      · have h := ifT h cd9
        refine wc_seq ?_
        refine wc_region ?_   -- region 4
        refine wl_det rfl rfl (det_assign rfl) rfl ?_
        refine wl_nil ?_
        refine pn_then ?_
        refine wc_ret ?_
        refine pr_then ?_
        replace h := Option.some.inj h
        subst h
        refine pn_ret (vs := [_]) rfl ⟨rfl, trivial⟩ ⟨rfl, rfl, rfl⟩ (fun _ h => h.to trivial trivial)
      · have h := ifF h cd9
        refine wc_skip ?_
        refine pn_then ?_
        refine wc_seq ?_
        refine wc_region ?_   -- region 5
        refine wl_det rfl rfl (det_build (cs := [_, _, _]) pl24 zr24 rfl rfl (by rfl)) rfl ?_
        refine wl_det rfl rfl (det_move rfl) rfl ?_
        refine wl_det rfl rfl (det_indexP rfl rfl (ms (ms m0)) k3_5 m0 un31 sz27) rfl ?_
        refine wl_det rfl rfl (det_loadP (off := 0) rfl m0 (by rfl) (by rfl) (loaded_n (cells := [_, _, _, _, _]) ag27 sz27)) rfl ?_
        refine wl_st (fun _ h => h.zeroF (lSlice (lInt .u8)) none 0) ?_
        obtain ⟨r5_4, hr5_4, h⟩ := bind_some h
        refine wl_act (act_callS (cap := []) (W_link_Receive (GEndpoint.mk [] 0 1) (ix r2_1 0) none 0 0 A3_7 (ix r2_1 0).Data.length c3_7 r5_4 hr5_4) rfl rfl rfl bd7 rfl ⟨m0, ⟨(ms (ms m0)), trivial⟩⟩) rfl rfl rfl ?_
        rintro _ _ _ ⟨_, _, ⟨y5_4A0, y5_4n0, y5_4c0, y5_4A1, y5_4n1, y5_4c1, rfl, rfl, rfl⟩, rfl, rfl⟩
        dsimp only [List.nil_append, List.cons_append]
        refine wl_know (fun _ h => h.lenO m0) (fun e => ?_)
        subst e
        refine wl_know (fun _ h => h.lenO (ms m0)) (fun e => ?_)
        subst e
        refine wl_det rfl rfl (det_move rfl) rfl ?_
        refine wl_det rfl rfl (det_extract rfl rfl) rfl ?_
        refine wl_det rfl rfl (det_extract rfl rfl) rfl ?_
        refine wl_det rfl rfl (det_extract rfl rfl) rfl ?_
        refine wl_act (act_alloc (cs := [_, _, _]) zr24 rfl) rfl rfl rfl ?_
        rintro _ _ _ ⟨b5_9, rfl, rfl, rfl⟩
        refine wl_act0 (act_store (cells := [_, _, _]) (cs' := [_, _, _]) rfl rfl rfl s0 (by rfl) (of_decide_eq_true rfl) sz24 ⟨rfl, rfl, rfl, trivial⟩) rfl rfl ?_
        rintro _ _ _ ⟨rfl, rfl⟩
        refine wl_det rfl rfl (det_assign rfl) rfl ?_
        refine wl_det rfl rfl (det_assign rfl) rfl ?_
        refine wl_nil ?_
        refine pn_then ?_
        refine wc_seq ?_
        refine wc_region ?_   -- region 6
        refine wl_det rfl rfl (det_build (cs := [_, _, _]) pl24 zr24 rfl rfl (by rfl)) rfl ?_
        refine wl_det rfl rfl (det_move rfl) rfl ?_
        obtain ⟨k6_2, h⟩ := chk_some h
        refine wl_ex (G := Option Addr × Nat) _ _ (fun _ => True) (fun _ h => openGPacket h (ms (ms (ms m0))) k6_2) ?_
        rintro ⟨A6_2, c6_2⟩ -
        dsimp only
        refine wl_det rfl rfl (det_indexP rfl rfl (ms (ms (ms (ms (ms m0))))) k6_2 m0 un31 sz27) rfl ?_
        refine wl_det rfl rfl (det_loadP (off := 0) rfl m0 (by rfl) (by rfl) (loaded_n (cells := [_, _, _, _, _]) ag27 sz27)) rfl ?_
        obtain ⟨r6_4, hr6_4, h⟩ := bind_some h
        refine wl_act (act_callS (cap := []) (W_link_Receive (GEndpoint.mk [] 0 1) (ix r2_1 1) none 0 0 A6_2 (ix r2_1 1).Data.length c6_2 r6_4 hr6_4) rfl rfl rfl bd7 rfl ⟨(ms (ms m0)), ⟨(ms m0), trivial⟩⟩) rfl rfl rfl ?_
        rintro _ _ _ ⟨_, _, ⟨y6_4A0, y6_4n0, y6_4c0, y6_4A1, y6_4n1, y6_4c1, rfl, rfl, rfl⟩, rfl, rfl⟩
        dsimp only [List.nil_append, List.cons_append]
        refine wl_know (fun _ h => h.lenO m0) (fun e => ?_)
        subst e
        refine wl_know (fun _ h => h.lenO (ms m0)) (fun e => ?_)
        subst e
        refine wl_det rfl rfl (det_move rfl) rfl ?_
        refine wl_det rfl rfl (det_extract rfl rfl) rfl ?_
        refine wl_det rfl rfl (det_extract rfl rfl) rfl ?_
        refine wl_det rfl rfl (det_extract rfl rfl) rfl ?_
        refine wl_act (act_alloc (cs := [_, _, _]) zr24 rfl) rfl rfl rfl ?_
        rintro _ _ _ ⟨b6_9, rfl, rfl, rfl⟩
        refine wl_act0 (act_store (cells := [_, _, _]) (cs' := [_, _, _]) rfl rfl rfl s0 (by rfl) (of_decide_eq_true rfl) sz24 ⟨rfl, rfl, rfl, trivial⟩) rfl rfl ?_
        rintro _ _ _ ⟨rfl, rfl⟩
        refine wl_det rfl rfl (det_assign rfl) rfl ?_
        refine wl_det rfl rfl (det_assign rfl) rfl ?_
        refine wl_nil ?_
        refine pn_then ?_
        refine wc_seq ?_
        refine wc_region ?_   -- region 7
        refine wl_det rfl rfl (det_move rfl) rfl ?_
        refine wl_det rfl rfl (det_move rfl) rfl ?_
        obtain ⟨q7_5, hq7_5, h⟩ := bind_some h
        have ho7_5 := h
        refine wl_way r5_4.2.2 q7_5 4 65 (fun hg => ?_) (fun hg => ?_) ?_
        · have hg7_5 := hg
          have h := ifT hq7_5 hg
          refine wl_on rfl rfl rfl rfl hg7_5 ?_
          refine wl_det rfl rfl (det_move rfl) rfl ?_
          refine wl_on rfl rfl rfl rfl hg7_5 ?_
          refine wl_act (act_litS (lInt .u8) (vs := [_]) (cs := [_]) [2] un25 in5 rfl rfl rfl rfl rfl ⟨rfl, trivial⟩ (by rfl) rfl (litR_flat rfl)) rfl rfl rfl ?_
          rintro _ _ _ ⟨A7_3, rfl, rfl, rfl⟩
          refine wl_on rfl rfl rfl rfl hg7_5 ?_
          obtain ⟨r7_4, hr7_4, h⟩ := bind_some h
          refine wl_act (act_callL (cap := []) [eS (lInt .u8) 5 y5_4A1 r5_4.2.1.length y5_4c1 r5_4.2.1, eS (lInt .u8) 5 A7_3 1 1 [2]] (W_treatyref40_Same r5_4.2.1 [2] y5_4A1 r5_4.2.1.length y5_4c1 A7_3 1 1 r7_4 hr7_4) plains_treatyref40_Same rfl rfl rfl bd10 rfl ⟨(ms (ms (ms (ms (ms (ms m0)))))), ⟨m0, trivial⟩⟩ ⟨.inr ⟨_, m0, lent_eS⟩, ⟨.inr ⟨_, (ms m0), lent_eS⟩, trivial⟩⟩) rfl rfl rfl ?_
          rintro _ _ _ ⟨_, _, ⟨rfl, rfl, rfl⟩, rfl, rfl⟩
          dsimp only [List.nil_append, List.cons_append]
          replace h := Option.some.inj h
          subst h
          refine wl_det rfl rfl (det_pick_on rfl hg7_5 rfl rfl) rfl ?_
          exact wl_nil (pn_qnE (ext_cons rfl (ext_skip rfl (ext_skip rfl (ext_skip rfl (ext_skip rfl ext_refl))))) (fun _ h => h.to ⟨_, (rs r0), ⟨_, (rs r0), ⟨_, (rs r0), ⟨_, (rs r0), ⟨_, (rs r0), ⟨_, (rs r0), ⟨_, (rs r0), trivial⟩⟩⟩⟩⟩⟩⟩ ⟨m0, ⟨(ms m0), ⟨(ms (ms m0)), ⟨(ms (ms (ms m0))), ⟨(ms (ms (ms (ms m0)))), ⟨(ms (ms (ms (ms (ms m0))))), ⟨(ms (ms (ms (ms (ms (ms m0)))))), ⟨(ms (ms (ms (ms (ms (ms (ms m0))))))), ⟨(ms (ms (ms (ms (ms (ms (ms (ms m0)))))))), ⟨(ms (ms (ms (ms (ms (ms (ms (ms (ms m0))))))))), trivial⟩⟩⟩⟩⟩⟩⟩⟩⟩⟩))
        · have hg7_5a := hg
          have h := ifF hq7_5 hg
          refine wl_off rfl rfl rfl rfl rfl hg7_5a rfl ?_
          refine wl_off rfl rfl rfl rfl rfl hg7_5a rfl ?_
          refine wl_off rfl rfl rfl rfl rfl hg7_5a rfl ?_
          replace h := Option.some.inj h
          subst h
          refine wl_det rfl rfl (det_pick_off rfl hg7_5a rfl rfl) rfl ?_
          exact wl_nil (pn_qnE (ext_cons rfl (ext_skip rfl (ext_skip rfl (ext_skip rfl (ext_skip rfl ext_refl))))) (fun _ h => h))
        have h := ho7_5
        refine wl_det rfl rfl (det_move rfl) rfl ?_
        refine wl_way q7_5 (q7_5 && (decide (r5_4.1.Got = 2))) 4 70 (fun hg => ?_) (fun hg => ?_) ?_
        · have hg7_10 := hg
          refine wl_on rfl rfl rfl rfl hg7_10 ?_
          refine wl_det rfl rfl (det_field rfl fd24_2 rfl) rfl ?_
          refine wl_on rfl rfl rfl rfl hg7_10 ?_
          refine wl_det rfl rfl (det_load rfl (ms (ms (ms m0))) (by rfl) na3 us3) rfl ?_
          refine wl_on rfl rfl rfl rfl hg7_10 ?_
          refine wl_det rfl rfl (det_eql rfl rfl) rfl ?_
          refine wl_det rfl rfl (det_and_on rfl rfl rfl hg7_10) rfl ?_
          exact wl_nil (pn_qnE (ext_cons rfl (ext_skip rfl (ext_skip rfl (ext_skip rfl (ext_skip rfl ext_refl))))) (fun _ h => h))
        · have hg7_10a := hg
          refine wl_off rfl rfl rfl rfl rfl hg7_10a rfl ?_
          refine wl_off rfl rfl rfl rfl rfl hg7_10a rfl ?_
          refine wl_off rfl rfl rfl rfl rfl hg7_10a rfl ?_
          refine wl_det rfl rfl (det_and_off (q := (decide (r5_4.1.Got = 2))) rfl rfl rfl hg7_10a) rfl ?_
          exact wl_nil (pn_qnE (ext_cons rfl (ext_skip rfl (ext_skip rfl (ext_skip rfl (ext_skip rfl ext_refl))))) (fun _ h => h))
        refine wl_det rfl rfl (det_move rfl) rfl ?_
        refine wl_way (q7_5 && (decide (r5_4.1.Got = 2))) ((q7_5 && (decide (r5_4.1.Got = 2))) && (!r6_4.2.2)) 3 74 (fun hg => ?_) (fun hg => ?_) ?_
        · have hg7_14 := hg
          refine wl_on rfl rfl rfl rfl hg7_14 ?_
          refine wl_det rfl rfl (det_move rfl) rfl ?_
          refine wl_on rfl rfl rfl rfl hg7_14 ?_
          refine wl_det rfl rfl (det_not rfl) rfl ?_
          refine wl_det rfl rfl (det_and_on rfl rfl rfl hg7_14) rfl ?_
          exact wl_nil (pn_qnE (ext_cons rfl (ext_skip rfl (ext_skip rfl (ext_skip rfl ext_refl)))) (fun _ h => h))
        · have hg7_14a := hg
          refine wl_off rfl rfl rfl rfl rfl hg7_14a rfl ?_
          refine wl_off rfl rfl rfl rfl rfl hg7_14a rfl ?_
          refine wl_det rfl rfl (det_and_off (q := (!r6_4.2.2)) rfl rfl rfl hg7_14a) rfl ?_
          exact wl_nil (pn_qnE (ext_cons rfl (ext_skip rfl (ext_skip rfl (ext_skip rfl ext_refl)))) (fun _ h => h))
        refine wl_det rfl rfl (det_assign rfl) rfl ?_
        refine wl_nil ?_
        refine pn_then ?_
        refine wc_ret ?_
        replace h := Option.some.inj h
        subst h
        refine pn_ret (vs := [_]) rfl ⟨rfl, trivial⟩ ⟨rfl, rfl, rfl⟩ (fun _ h => h.to trivial trivial)
    · have h := ifF h hg3_f11
      refine wl_on rfl rfl rfl rfl hg3_f11 ?_
      refine wl_det rfl rfl (det_move rfl) rfl ?_
      refine wl_on rfl rfl rfl rfl hg3_f11 ?_
      obtain ⟨k3_12, h⟩ := chk_some h
      refine wl_ex (G := Option Addr × Nat) _ _ (fun _ => True) (fun _ h => openGPacket h (ms (ms m0)) k3_12) ?_
      rintro ⟨A3_12, c3_12⟩ -
      dsimp only
      refine wl_det rfl rfl (det_indexP rfl rfl (ms (ms (ms (ms m0)))) k3_12 m0 un31 sz27) rfl ?_
      refine wl_on rfl rfl rfl rfl hg3_f11 ?_
      refine wl_det rfl rfl (det_fieldP rfl m0 fd27_2 rfl) rfl ?_
      refine wl_on rfl rfl rfl rfl hg3_f11 ?_
      refine wl_det rfl rfl (det_loadP (off := 2) rfl m0 (by rfl) (by rfl) (loaded_1 na3 us3)) rfl ?_
      refine wl_on rfl rfl rfl rfl hg3_f11 ?_
      refine wl_det rfl rfl (det_neq rfl rfl) rfl ?_
      refine wl_det rfl rfl (det_pick_off rfl hg3_f11 rfl rfl) rfl ?_
      refine wl_det rfl rfl (det_move rfl) rfl ?_
      rcases Bool.eq_false_or_eq_true (!decide ((ix r2_1 1).Number = 3)) with hg3_f18 | hg3_f18
      · have h := ifT h hg3_f18
        refine wl_off rfl rfl rfl rfl rfl hg3_f18 rfl ?_
        refine wl_off rfl rfl rfl rfl rfl hg3_f18 rfl ?_
        refine wl_off rfl rfl rfl rfl rfl hg3_f18 rfl ?_
        refine wl_off rfl rfl rfl rfl rfl hg3_f18 rfl ?_
        refine wl_off rfl rfl rfl rfl rfl hg3_f18 rfl ?_
        refine wl_off rfl rfl rfl rfl rfl hg3_f18 rfl ?_
        refine wl_off rfl rfl rfl rfl rfl hg3_f18 rfl ?_
        refine wl_det rfl rfl (det_pick_on rfl hg3_f18 rfl rfl) rfl ?_
        refine wl_nil ?_
        refine pn_then ?_
        refine wc_cond rfl (fun cd9 => ?_) (fun cd9 => ?_)
        · have h := ifT h cd9
          refine wc_seq ?_
          refine wc_region ?_   -- region 4
          refine wl_det rfl rfl (det_assign rfl) rfl ?_
          refine wl_nil ?_
          refine pn_then ?_
          refine wc_ret ?_
          refine pr_then ?_
          replace h := Option.some.inj h
          subst h
          refine pn_ret (vs := [_]) rfl ⟨rfl, trivial⟩ ⟨rfl, rfl, rfl⟩ (fun _ h => h.to trivial trivial)
        · have h := ifF h cd9
          refine wc_skip ?_
          refine pn_then ?_
          refine wc_seq ?_
          refine wc_region ?_   -- region 5
          refine wl_det rfl rfl (det_build (cs := [_, _, _]) pl24 zr24 rfl rfl (by rfl)) rfl ?_
          refine wl_det rfl rfl (det_move rfl) rfl ?_
          refine wl_det rfl rfl (det_indexP rfl rfl (ms (ms (ms (ms m0)))) k3_5 (ms (ms m0)) un31 sz27) rfl ?_
          refine wl_det rfl rfl (det_loadP (off := 0) rfl (ms (ms m0)) (by rfl) (by rfl) (loaded_n (cells := [_, _, _, _, _]) ag27 sz27)) rfl ?_
          refine wl_st (fun _ h => h.zeroF (lSlice (lInt .u8)) none 0) ?_
          obtain ⟨r5_4, hr5_4, h⟩ := bind_some h
          refine wl_act (act_callS (cap := []) (W_link_Receive (GEndpoint.mk [] 0 1) (ix r2_1 0) none 0 0 A3_7 (ix r2_1 0).Data.length c3_7 r5_4 hr5_4) rfl rfl rfl bd7 rfl ⟨m0, ⟨(ms (ms (ms (ms m0)))), trivial⟩⟩) rfl rfl rfl ?_
          rintro _ _ _ ⟨_, _, ⟨y5_4A0, y5_4n0, y5_4c0, y5_4A1, y5_4n1, y5_4c1, rfl, rfl, rfl⟩, rfl, rfl⟩
          dsimp only [List.nil_append, List.cons_append]
          refine wl_know (fun _ h => h.lenO m0) (fun e => ?_)
          subst e
          refine wl_know (fun _ h => h.lenO (ms m0)) (fun e => ?_)
          subst e
          refine wl_det rfl rfl (det_move rfl) rfl ?_
          refine wl_det rfl rfl (det_extract rfl rfl) rfl ?_
          refine wl_det rfl rfl (det_extract rfl rfl) rfl ?_
          refine wl_det rfl rfl (det_extract rfl rfl) rfl ?_
          refine wl_act (act_alloc (cs := [_, _, _]) zr24 rfl) rfl rfl rfl ?_
          rintro _ _ _ ⟨b5_9, rfl, rfl, rfl⟩
          refine wl_act0 (act_store (cells := [_, _, _]) (cs' := [_, _, _]) rfl rfl rfl s0 (by rfl) (of_decide_eq_true rfl) sz24 ⟨rfl, rfl, rfl, trivial⟩) rfl rfl ?_
          rintro _ _ _ ⟨rfl, rfl⟩
          refine wl_det rfl rfl (det_assign rfl) rfl ?_
          refine wl_det rfl rfl (det_assign rfl) rfl ?_
          refine wl_nil ?_
          refine pn_then ?_
          refine wc_seq ?_
          refine wc_region ?_   -- region 6
          refine wl_det rfl rfl (det_build (cs := [_, _, _]) pl24 zr24 rfl rfl (by rfl)) rfl ?_
          refine wl_det rfl rfl (det_move rfl) rfl ?_
          refine wl_det rfl rfl (det_indexP rfl rfl (ms (ms (ms (ms (ms m0))))) k3_12 (ms m0) un31 sz27) rfl ?_
          refine wl_det rfl rfl (det_loadP (off := 0) rfl (ms m0) (by rfl) (by rfl) (loaded_n (cells := [_, _, _, _, _]) ag27 sz27)) rfl ?_
          obtain ⟨r6_4, hr6_4, h⟩ := bind_some h
          refine wl_act (act_callS (cap := []) (W_link_Receive (GEndpoint.mk [] 0 1) (ix r2_1 1) none 0 0 A3_12 (ix r2_1 1).Data.length c3_12 r6_4 hr6_4) rfl rfl rfl bd7 rfl ⟨m0, ⟨(ms (ms m0)), trivial⟩⟩) rfl rfl rfl ?_
          rintro _ _ _ ⟨_, _, ⟨y6_4A0, y6_4n0, y6_4c0, y6_4A1, y6_4n1, y6_4c1, rfl, rfl, rfl⟩, rfl, rfl⟩
          dsimp only [List.nil_append, List.cons_append]
          refine wl_know (fun _ h => h.lenO m0) (fun e => ?_)
          subst e
          refine wl_know (fun _ h => h.lenO (ms m0)) (fun e => ?_)
          subst e
          refine wl_det rfl rfl (det_move rfl) rfl ?_
          refine wl_det rfl rfl (det_extract rfl rfl) rfl ?_
          refine wl_det rfl rfl (det_extract rfl rfl) rfl ?_
          refine wl_det rfl rfl (det_extract rfl rfl) rfl ?_
          refine wl_act (act_alloc (cs := [_, _, _]) zr24 rfl) rfl rfl rfl ?_
          rintro _ _ _ ⟨b6_9, rfl, rfl, rfl⟩
          refine wl_act0 (act_store (cells := [_, _, _]) (cs' := [_, _, _]) rfl rfl rfl s0 (by rfl) (of_decide_eq_true rfl) sz24 ⟨rfl, rfl, rfl, trivial⟩) rfl rfl ?_
          rintro _ _ _ ⟨rfl, rfl⟩
          refine wl_det rfl rfl (det_assign rfl) rfl ?_
          refine wl_det rfl rfl (det_assign rfl) rfl ?_
          refine wl_nil ?_
          refine pn_then ?_
          refine wc_seq ?_
          refine wc_region ?_   -- region 7
          refine wl_det rfl rfl (det_move rfl) rfl ?_
          refine wl_det rfl rfl (det_move rfl) rfl ?_
          obtain ⟨q7_5, hq7_5, h⟩ := bind_some h
          have ho7_5 := h
          refine wl_way r5_4.2.2 q7_5 4 65 (fun hg => ?_) (fun hg => ?_) ?_
          · have hg7_5 := hg
            have h := ifT hq7_5 hg
            refine wl_on rfl rfl rfl rfl hg7_5 ?_
            refine wl_det rfl rfl (det_move rfl) rfl ?_
            refine wl_on rfl rfl rfl rfl hg7_5 ?_
            refine wl_act (act_litS (lInt .u8) (vs := [_]) (cs := [_]) [2] un25 in5 rfl rfl rfl rfl rfl ⟨rfl, trivial⟩ (by rfl) rfl (litR_flat rfl)) rfl rfl rfl ?_
            rintro _ _ _ ⟨A7_3, rfl, rfl, rfl⟩
            refine wl_on rfl rfl rfl rfl hg7_5 ?_
            obtain ⟨r7_4, hr7_4, h⟩ := bind_some h
            refine wl_act (act_callL (cap := []) [eS (lInt .u8) 5 y5_4A1 r5_4.2.1.length y5_4c1 r5_4.2.1, eS (lInt .u8) 5 A7_3 1 1 [2]] (W_treatyref40_Same r5_4.2.1 [2] y5_4A1 r5_4.2.1.length y5_4c1 A7_3 1 1 r7_4 hr7_4) plains_treatyref40_Same rfl rfl rfl bd10 rfl ⟨(ms (ms (ms (ms (ms (ms m0)))))), ⟨m0, trivial⟩⟩ ⟨.inr ⟨_, m0, lent_eS⟩, ⟨.inr ⟨_, (ms m0), lent_eS⟩, trivial⟩⟩) rfl rfl rfl ?_
            rintro _ _ _ ⟨_, _, ⟨rfl, rfl, rfl⟩, rfl, rfl⟩
            dsimp only [List.nil_append, List.cons_append]
            replace h := Option.some.inj h
            subst h
            refine wl_det rfl rfl (det_pick_on rfl hg7_5 rfl rfl) rfl ?_
            exact wl_nil (pn_qnE (ext_cons rfl (ext_skip rfl (ext_skip rfl (ext_skip rfl (ext_skip rfl ext_refl))))) (fun _ h => h.to ⟨_, (rs r0), ⟨_, (rs r0), ⟨_, (rs r0), ⟨_, (rs r0), ⟨_, (rs r0), ⟨_, (rs r0), ⟨_, (rs r0), trivial⟩⟩⟩⟩⟩⟩⟩ ⟨m0, ⟨(ms m0), ⟨(ms (ms m0)), ⟨(ms (ms (ms m0))), ⟨(ms (ms (ms (ms m0)))), ⟨(ms (ms (ms (ms (ms m0))))), ⟨(ms (ms (ms (ms (ms (ms m0)))))), ⟨(ms (ms (ms (ms (ms (ms (ms m0))))))), ⟨(ms (ms (ms (ms (ms (ms (ms (ms m0)))))))), ⟨(ms (ms (ms (ms (ms (ms (ms (ms (ms m0))))))))), trivial⟩⟩⟩⟩⟩⟩⟩⟩⟩⟩))
          · have hg7_5a := hg
            have h := ifF hq7_5 hg
            refine wl_off rfl rfl rfl rfl rfl hg7_5a rfl ?_
            refine wl_off rfl rfl rfl rfl rfl hg7_5a rfl ?_
            refine wl_off rfl rfl rfl rfl rfl hg7_5a rfl ?_
            replace h := Option.some.inj h
            subst h
            refine wl_det rfl rfl (det_pick_off rfl hg7_5a rfl rfl) rfl ?_
            exact wl_nil (pn_qnE (ext_cons rfl (ext_skip rfl (ext_skip rfl (ext_skip rfl (ext_skip rfl ext_refl))))) (fun _ h => h))
          have h := ho7_5
          refine wl_det rfl rfl (det_move rfl) rfl ?_
          refine wl_way q7_5 (q7_5 && (decide (r5_4.1.Got = 2))) 4 70 (fun hg => ?_) (fun hg => ?_) ?_
          · have hg7_10 := hg
            refine wl_on rfl rfl rfl rfl hg7_10 ?_
            refine wl_det rfl rfl (det_field rfl fd24_2 rfl) rfl ?_
            refine wl_on rfl rfl rfl rfl hg7_10 ?_
            refine wl_det rfl rfl (det_load rfl (ms (ms (ms m0))) (by rfl) na3 us3) rfl ?_
            refine wl_on rfl rfl rfl rfl hg7_10 ?_
            refine wl_det rfl rfl (det_eql rfl rfl) rfl ?_
            refine wl_det rfl rfl (det_and_on rfl rfl rfl hg7_10) rfl ?_
            exact wl_nil (pn_qnE (ext_cons rfl (ext_skip rfl (ext_skip rfl (ext_skip rfl (ext_skip rfl ext_refl))))) (fun _ h => h))
          · have hg7_10a := hg
            refine wl_off rfl rfl rfl rfl rfl hg7_10a rfl ?_
            refine wl_off rfl rfl rfl rfl rfl hg7_10a rfl ?_
            refine wl_off rfl rfl rfl rfl rfl hg7_10a rfl ?_
            refine wl_det rfl rfl (det_and_off (q := (decide (r5_4.1.Got = 2))) rfl rfl rfl hg7_10a) rfl ?_
            exact wl_nil (pn_qnE (ext_cons rfl (ext_skip rfl (ext_skip rfl (ext_skip rfl (ext_skip rfl ext_refl))))) (fun _ h => h))
          refine wl_det rfl rfl (det_move rfl) rfl ?_
          refine wl_way (q7_5 && (decide (r5_4.1.Got = 2))) ((q7_5 && (decide (r5_4.1.Got = 2))) && (!r6_4.2.2)) 3 74 (fun hg => ?_) (fun hg => ?_) ?_
          · have hg7_14 := hg
            refine wl_on rfl rfl rfl rfl hg7_14 ?_
            refine wl_det rfl rfl (det_move rfl) rfl ?_
            refine wl_on rfl rfl rfl rfl hg7_14 ?_
            refine wl_det rfl rfl (det_not rfl) rfl ?_
            refine wl_det rfl rfl (det_and_on rfl rfl rfl hg7_14) rfl ?_
            exact wl_nil (pn_qnE (ext_cons rfl (ext_skip rfl (ext_skip rfl (ext_skip rfl ext_refl)))) (fun _ h => h))
          · have hg7_14a := hg
            refine wl_off rfl rfl rfl rfl rfl hg7_14a rfl ?_
            refine wl_off rfl rfl rfl rfl rfl hg7_14a rfl ?_
            refine wl_det rfl rfl (det_and_off (q := (!r6_4.2.2)) rfl rfl rfl hg7_14a) rfl ?_
            exact wl_nil (pn_qnE (ext_cons rfl (ext_skip rfl (ext_skip rfl (ext_skip rfl ext_refl)))) (fun _ h => h))
          refine wl_det rfl rfl (det_assign rfl) rfl ?_
          refine wl_nil ?_
          refine pn_then ?_
          refine wc_ret ?_
          replace h := Option.some.inj h
          subst h
          refine pn_ret (vs := [_]) rfl ⟨rfl, trivial⟩ ⟨rfl, rfl, rfl⟩ (fun _ h => h.to trivial trivial)
      · have h := ifF h hg3_f18
        refine wl_on rfl rfl rfl rfl hg3_f18 ?_
        refine wl_det rfl rfl (det_move rfl) rfl ?_
        refine wl_on rfl rfl rfl rfl hg3_f18 ?_
        refine wl_det rfl rfl (det_indexP rfl rfl (ms (ms (ms (ms m0)))) k3_12 m0 un31 sz27) rfl ?_
        refine wl_on rfl rfl rfl rfl hg3_f18 ?_
        refine wl_det rfl rfl (det_fieldP rfl m0 fd27_4 rfl) rfl ?_
        refine wl_on rfl rfl rfl rfl hg3_f18 ?_
        refine wl_det rfl rfl (det_loadP (off := 4) rfl m0 (by rfl) (by rfl) (loaded_1 na25 us25)) rfl ?_
        refine wl_on rfl rfl rfl rfl hg3_f18 ?_
        refine wl_act (act_litS (lInt .u8) (vs := [_]) (cs := [_]) [3] un25 in5 rfl rfl rfl rfl rfl ⟨rfl, trivial⟩ (by rfl) rfl (litR_flat rfl)) rfl rfl rfl ?_
        rintro _ _ _ ⟨A3_22, rfl, rfl, rfl⟩
        refine wl_on rfl rfl rfl rfl hg3_f18 ?_
        obtain ⟨r3_23, hr3_23, h⟩ := bind_some h
        refine wl_act (act_callL (cap := []) [eS (lInt .u8) 5 A3_22 1 1 [3]] (W_treatyref40_Same (ix r2_1 1).Data [3] A3_12 (ix r2_1 1).Data.length c3_12 A3_22 1 1 r3_23 hr3_23) plains_treatyref40_Same rfl rfl rfl bd10 rfl ⟨m0, trivial⟩ ⟨.inl (ms m0), ⟨.inr ⟨_, m0, lent_eS⟩, trivial⟩⟩) rfl rfl rfl ?_
        rintro _ _ _ ⟨_, _, ⟨rfl, rfl, rfl⟩, rfl, rfl⟩
        dsimp only [List.nil_append, List.cons_append]
        refine wl_on rfl rfl rfl rfl hg3_f18 ?_
        refine wl_det rfl rfl (det_not rfl) rfl ?_
        refine wl_det rfl rfl (det_pick_off rfl hg3_f18 rfl rfl) rfl ?_
        refine wl_nil ?_
        refine pn_then ?_
        refine wc_cond rfl (fun cd9 => ?_) (fun cd9 => ?_)
        · have h := ifT h cd9
          refine wc_seq ?_
          refine wc_region ?_   -- region 4
          refine wl_det rfl rfl (det_assign rfl) rfl ?_
          refine wl_nil ?_
          refine pn_then ?_
          refine wc_ret ?_
          refine pr_then ?_
          replace h := Option.some.inj h
          subst h
          refine pn_ret (vs := [_]) rfl ⟨rfl, trivial⟩ ⟨rfl, rfl, rfl⟩ (fun _ h => h.to trivial trivial)
        · have h := ifF h cd9
          refine wc_skip ?_
          refine pn_then ?_
          refine wc_seq ?_
          refine wc_region ?_   -- region 5
          refine wl_det rfl rfl (det_build (cs := [_, _, _]) pl24 zr24 rfl rfl (by rfl)) rfl ?_
          refine wl_det rfl rfl (det_move rfl) rfl ?_
          refine wl_det rfl rfl (det_indexP rfl rfl (ms (ms (ms (ms m0)))) k3_5 (ms (ms m0)) un31 sz27) rfl ?_
          refine wl_det rfl rfl (det_loadP (off := 0) rfl (ms (ms m0)) (by rfl) (by rfl) (loaded_n (cells := [_, _, _, _, _]) ag27 sz27)) rfl ?_
          refine wl_st (fun _ h => h.zeroF (lSlice (lInt .u8)) none 0) ?_
          obtain ⟨r5_4, hr5_4, h⟩ := bind_some h
          refine wl_act (act_callS (cap := []) (W_link_Receive (GEndpoint.mk [] 0 1) (ix r2_1 0) none 0 0 A3_7 (ix r2_1 0).Data.length c3_7 r5_4 hr5_4) rfl rfl rfl bd7 rfl ⟨m0, ⟨(ms (ms (ms (ms m0)))), trivial⟩⟩) rfl rfl rfl ?_
          rintro _ _ _ ⟨_, _, ⟨y5_4A0, y5_4n0, y5_4c0, y5_4A1, y5_4n1, y5_4c1, rfl, rfl, rfl⟩, rfl, rfl⟩
          dsimp only [List.nil_append, List.cons_append]
          refine wl_know (fun _ h => h.lenO m0) (fun e => ?_)
          subst e
          refine wl_know (fun _ h => h.lenO (ms m0)) (fun e => ?_)
          subst e
          refine wl_det rfl rfl (det_move rfl) rfl ?_
          refine wl_det rfl rfl (det_extract rfl rfl) rfl ?_
          refine wl_det rfl rfl (det_extract rfl rfl) rfl ?_
          refine wl_det rfl rfl (det_extract rfl rfl) rfl ?_
          refine wl_act (act_alloc (cs := [_, _, _]) zr24 rfl) rfl rfl rfl ?_
          rintro _ _ _ ⟨b5_9, rfl, rfl, rfl⟩
          refine wl_act0 (act_store (cells := [_, _, _]) (cs' := [_, _, _]) rfl rfl rfl s0 (by rfl) (of_decide_eq_true rfl) sz24 ⟨rfl, rfl, rfl, trivial⟩) rfl rfl ?_
          rintro _ _ _ ⟨rfl, rfl⟩
          refine wl_det rfl rfl (det_assign rfl) rfl ?_
          refine wl_det rfl rfl (det_assign rfl) rfl ?_
          refine wl_nil ?_
          refine pn_then ?_
          refine wc_seq ?_
          refine wc_region ?_   -- region 6
          refine wl_det rfl rfl (det_build (cs := [_, _, _]) pl24 zr24 rfl rfl (by rfl)) rfl ?_
          refine wl_det rfl rfl (det_move rfl) rfl ?_
          refine wl_det rfl rfl (det_indexP rfl rfl (ms (ms (ms (ms (ms m0))))) k3_12 (ms m0) un31 sz27) rfl ?_
          refine wl_det rfl rfl (det_loadP (off := 0) rfl (ms m0) (by rfl) (by rfl) (loaded_n (cells := [_, _, _, _, _]) ag27 sz27)) rfl ?_
          obtain ⟨r6_4, hr6_4, h⟩ := bind_some h
          refine wl_act (act_callS (cap := []) (W_link_Receive (GEndpoint.mk [] 0 1) (ix r2_1 1) none 0 0 A3_12 (ix r2_1 1).Data.length c3_12 r6_4 hr6_4) rfl rfl rfl bd7 rfl ⟨m0, ⟨(ms (ms m0)), trivial⟩⟩) rfl rfl rfl ?_
          rintro _ _ _ ⟨_, _, ⟨y6_4A0, y6_4n0, y6_4c0, y6_4A1, y6_4n1, y6_4c1, rfl, rfl, rfl⟩, rfl, rfl⟩
          dsimp only [List.nil_append, List.cons_append]
          refine wl_know (fun _ h => h.lenO m0) (fun e => ?_)
          subst e
          refine wl_know (fun _ h => h.lenO (ms m0)) (fun e => ?_)
          subst e
          refine wl_det rfl rfl (det_move rfl) rfl ?_
          refine wl_det rfl rfl (det_extract rfl rfl) rfl ?_
          refine wl_det rfl rfl (det_extract rfl rfl) rfl ?_
          refine wl_det rfl rfl (det_extract rfl rfl) rfl ?_
          refine wl_act (act_alloc (cs := [_, _, _]) zr24 rfl) rfl rfl rfl ?_
          rintro _ _ _ ⟨b6_9, rfl, rfl, rfl⟩
          refine wl_act0 (act_store (cells := [_, _, _]) (cs' := [_, _, _]) rfl rfl rfl s0 (by rfl) (of_decide_eq_true rfl) sz24 ⟨rfl, rfl, rfl, trivial⟩) rfl rfl ?_
          rintro _ _ _ ⟨rfl, rfl⟩
          refine wl_det rfl rfl (det_assign rfl) rfl ?_
          refine wl_det rfl rfl (det_assign rfl) rfl ?_
          refine wl_nil ?_
          refine pn_then ?_
          refine wc_seq ?_
          refine wc_region ?_   -- region 7
          refine wl_det rfl rfl (det_move rfl) rfl ?_
          refine wl_det rfl rfl (det_move rfl) rfl ?_
          obtain ⟨q7_5, hq7_5, h⟩ := bind_some h
          have ho7_5 := h
          refine wl_way r5_4.2.2 q7_5 4 65 (fun hg => ?_) (fun hg => ?_) ?_
          · have hg7_5 := hg
            have h := ifT hq7_5 hg
            refine wl_on rfl rfl rfl rfl hg7_5 ?_
            refine wl_det rfl rfl (det_move rfl) rfl ?_
            refine wl_on rfl rfl rfl rfl hg7_5 ?_
            refine wl_act (act_litS (lInt .u8) (vs := [_]) (cs := [_]) [2] un25 in5 rfl rfl rfl rfl rfl ⟨rfl, trivial⟩ (by rfl) rfl (litR_flat rfl)) rfl rfl rfl ?_
            rintro _ _ _ ⟨A7_3, rfl, rfl, rfl⟩
            refine wl_on rfl rfl rfl rfl hg7_5 ?_
            obtain ⟨r7_4, hr7_4, h⟩ := bind_some h
            refine wl_act (act_callL (cap := []) [eS (lInt .u8) 5 y5_4A1 r5_4.2.1.length y5_4c1 r5_4.2.1, eS (lInt .u8) 5 A7_3 1 1 [2]] (W_treatyref40_Same r5_4.2.1 [2] y5_4A1 r5_4.2.1.length y5_4c1 A7_3 1 1 r7_4 hr7_4) plains_treatyref40_Same rfl rfl rfl bd10 rfl ⟨(ms (ms (ms (ms (ms (ms m0)))))), ⟨m0, trivial⟩⟩ ⟨.inr ⟨_, m0, lent_eS⟩, ⟨.inr ⟨_, (ms m0), lent_eS⟩, trivial⟩⟩) rfl rfl rfl ?_
            rintro _ _ _ ⟨_, _, ⟨rfl, rfl, rfl⟩, rfl, rfl⟩
            dsimp only [List.nil_append, List.cons_append]
            replace h := Option.some.inj h
            subst h
            refine wl_det rfl rfl (det_pick_on rfl hg7_5 rfl rfl) rfl ?_
            exact wl_nil (pn_qnE (ext_cons rfl (ext_skip rfl (ext_skip rfl (ext_skip rfl (ext_skip rfl ext_refl))))) (fun _ h => h.to ⟨_, (rs r0), ⟨_, (rs r0), ⟨_, (rs r0), ⟨_, (rs r0), ⟨_, (rs r0), ⟨_, (rs r0), ⟨_, (rs r0), ⟨_, (rs r0), trivial⟩⟩⟩⟩⟩⟩⟩⟩ ⟨m0, ⟨(ms m0), ⟨(ms (ms m0)), ⟨(ms (ms (ms m0))), ⟨(ms (ms (ms (ms m0)))), ⟨(ms (ms (ms (ms (ms m0))))), ⟨(ms (ms (ms (ms (ms (ms m0)))))), ⟨(ms (ms (ms (ms (ms (ms (ms m0))))))), ⟨(ms (ms (ms (ms (ms (ms (ms (ms m0)))))))), ⟨(ms (ms (ms (ms (ms (ms (ms (ms (ms m0))))))))), trivial⟩⟩⟩⟩⟩⟩⟩⟩⟩⟩))
          · have hg7_5a := hg
            have h := ifF hq7_5 hg
            refine wl_off rfl rfl rfl rfl rfl hg7_5a rfl ?_
            refine wl_off rfl rfl rfl rfl rfl hg7_5a rfl ?_
            refine wl_off rfl rfl rfl rfl rfl hg7_5a rfl ?_
            replace h := Option.some.inj h
            subst h
            refine wl_det rfl rfl (det_pick_off rfl hg7_5a rfl rfl) rfl ?_
            exact wl_nil (pn_qnE (ext_cons rfl (ext_skip rfl (ext_skip rfl (ext_skip rfl (ext_skip rfl ext_refl))))) (fun _ h => h))
          have h := ho7_5
          refine wl_det rfl rfl (det_move rfl) rfl ?_
          refine wl_way q7_5 (q7_5 && (decide (r5_4.1.Got = 2))) 4 70 (fun hg => ?_) (fun hg => ?_) ?_
          · have hg7_10 := hg
            refine wl_on rfl rfl rfl rfl hg7_10 ?_
            refine wl_det rfl rfl (det_field rfl fd24_2 rfl) rfl ?_
            refine wl_on rfl rfl rfl rfl hg7_10 ?_
            refine wl_det rfl rfl (det_load rfl (ms (ms (ms m0))) (by rfl) na3 us3) rfl ?_
            refine wl_on rfl rfl rfl rfl hg7_10 ?_
            refine wl_det rfl rfl (det_eql rfl rfl) rfl ?_
            refine wl_det rfl rfl (det_and_on rfl rfl rfl hg7_10) rfl ?_
            exact wl_nil (pn_qnE (ext_cons rfl (ext_skip rfl (ext_skip rfl (ext_skip rfl (ext_skip rfl ext_refl))))) (fun _ h => h))
          · have hg7_10a := hg
            refine wl_off rfl rfl rfl rfl rfl hg7_10a rfl ?_
            refine wl_off rfl rfl rfl rfl rfl hg7_10a rfl ?_
            refine wl_off rfl rfl rfl rfl rfl hg7_10a rfl ?_
            refine wl_det rfl rfl (det_and_off (q := (decide (r5_4.1.Got = 2))) rfl rfl rfl hg7_10a) rfl ?_
            exact wl_nil (pn_qnE (ext_cons rfl (ext_skip rfl (ext_skip rfl (ext_skip rfl (ext_skip rfl ext_refl))))) (fun _ h => h))
          refine wl_det rfl rfl (det_move rfl) rfl ?_
          refine wl_way (q7_5 && (decide (r5_4.1.Got = 2))) ((q7_5 && (decide (r5_4.1.Got = 2))) && (!r6_4.2.2)) 3 74 (fun hg => ?_) (fun hg => ?_) ?_
          · have hg7_14 := hg
            refine wl_on rfl rfl rfl rfl hg7_14 ?_
            refine wl_det rfl rfl (det_move rfl) rfl ?_
            refine wl_on rfl rfl rfl rfl hg7_14 ?_
            refine wl_det rfl rfl (det_not rfl) rfl ?_
            refine wl_det rfl rfl (det_and_on rfl rfl rfl hg7_14) rfl ?_
            exact wl_nil (pn_qnE (ext_cons rfl (ext_skip rfl (ext_skip rfl (ext_skip rfl ext_refl)))) (fun _ h => h))
          · have hg7_14a := hg
            refine wl_off rfl rfl rfl rfl rfl hg7_14a rfl ?_
            refine wl_off rfl rfl rfl rfl rfl hg7_14a rfl ?_
            refine wl_det rfl rfl (det_and_off (q := (!r6_4.2.2)) rfl rfl rfl hg7_14a) rfl ?_
            exact wl_nil (pn_qnE (ext_cons rfl (ext_skip rfl (ext_skip rfl (ext_skip rfl ext_refl)))) (fun _ h => h))
          refine wl_det rfl rfl (det_assign rfl) rfl ?_
          refine wl_nil ?_
          refine pn_then ?_
          refine wc_ret ?_
          replace h := Option.some.inj h
          subst h
          refine pn_ret (vs := [_]) rfl ⟨rfl, trivial⟩ ⟨rfl, rfl, rfl⟩ (fun _ h => h.to trivial trivial)
def Q_treatylaw42_LinkEnds (r : Bool) : Value → List Ent → List Fact → Prop := fun v θ κ => v = .bool r ∧ θ = [] ∧ κ = []
theorem plains_treatylaw42_LinkEnds {r : Bool} : ∀ v θ κ, Q_treatylaw42_LinkEnds r v θ κ → Plains θ := by
  rintro _ _ _ ⟨rfl, rfl, rfl⟩
  exact trivial
set_option maxHeartbeats 4000000 in
set_option maxRecDepth 100000 in
theorem W_treatylaw42_LinkEnds (a0 : (List Int)) (A0 : Option Addr) (n0 : Nat) (c0 : Nat) (r : Bool) (h : treatylaw42_LinkEnds a0 = some r) : Spec Try.prog 5 [.slice A0 n0 c0] [] [fV (lSlice (lInt .i64)) (.slice A0 n0 c0) a0] (Q_treatylaw42_LinkEnds r) := by
  unfold treatylaw42_LinkEnds at h
  refine spec_of (σ := [(0, _)]) Try.func5 rfl rfl rfl rfl ?_
  intro C
  refine wc_know (fun _ h => h.lenF m0) (fun e => ?_)
  subst e
  refine wc_seq ?_
  refine wc_region ?_   -- region 0
  refine wl_det rfl rfl (det_assign rfl) rfl ?_
  refine wl_nil ?_
  refine pn_then ?_
  refine wc_seq ?_
  refine wc_region ?_   -- region 1
  refine wl_det rfl rfl (det_move rfl) rfl ?_
  obtain ⟨r1_1, hr1_1, h⟩ := bind_some h
  refine wl_act (act_callS (cap := []) (W_treatylaw42_play a0 A0 a0.length c0 r1_1 hr1_1) rfl rfl rfl bd12 rfl ⟨m0, trivial⟩) rfl rfl rfl ?_
  rintro _ _ _ ⟨_, _, ⟨y1_1b0, y1_1A1, y1_1n1, y1_1c1, y1_1A2, y1_1n2, y1_1c2, y1_1A3, y1_1n3, y1_1c3, y1_1A4, y1_1n4, y1_1c4, rfl, rfl, rfl⟩, rfl, rfl⟩
  dsimp only [List.nil_append, List.cons_append]
  refine wl_know (fun _ h => h.lenF m0) (fun e => ?_)
  subst e
  refine wl_know (fun _ h => h.lenO (ms m0)) (fun e => ?_)
  subst e
  refine wl_know (fun _ h => h.lenO (ms (ms m0))) (fun e => ?_)
  subst e
  refine wl_know (fun _ h => h.lenO (ms (ms (ms m0)))) (fun e => ?_)
  subst e
  refine wl_det rfl rfl (det_move rfl) rfl ?_
  refine wl_det rfl rfl (det_extract rfl rfl) rfl ?_
  refine wl_det rfl rfl (det_extract rfl rfl) rfl ?_
  refine wl_det rfl rfl (det_assign rfl) rfl ?_
  refine wl_det rfl rfl (det_assign rfl) rfl ?_
  refine wl_nil ?_
  refine pn_then ?_
  refine wc_seq ?_
  refine wc_region ?_   -- region 2
  refine wl_det rfl rfl (det_move rfl) rfl ?_
  refine wl_det rfl rfl (det_nilCheckB rfl) rfl ?_
  refine wl_det rfl rfl (det_field rfl fd43_2 rfl) rfl ?_
  refine wl_act0 (act_store (cells := [_]) (cs' := [_, _, _, _, _, _, _, _, _]) rfl rfl rfl s0 (by rfl) (of_decide_eq_true rfl) sz31 ⟨rfl, trivial⟩) rfl rfl ?_
  rintro _ _ _ ⟨rfl, rfl⟩
  refine wl_nil ?_
  refine pn_then ?_
  obtain ⟨q6, h, ho6⟩ := bind_some h
  refine wc_meetG (G := ((List (List Int)) × Int × Int × (List (List Int)) × Int × Int × (List (List Int)) × Bool) × Option Addr × Nat × Nat × Option Addr × Nat × Nat × Option Addr × Nat × Nat × Unit) (fun (s6, _, _, _, _, _, _, _, _, _, _) => (.inl s6) = q6) (fun (_, _, _, _, _, _, _, _, _, _, _) => [(3, .pointer (some ⟨y1_1b0, 0, none⟩)), (4, .int .i64 r1_1.2)]) (fun (s6, A6_0, n6_0, c6_0, A6_3, n6_3, c6_3, A6_6, n6_6, c6_6, _) => [eBlk y1_1b0 43 [.slice A6_0 n6_0 c6_0, .int .i64 s6.2.1, .int .i64 s6.2.2.1, .slice A6_3 n6_3 c6_3, .int .i64 s6.2.2.2.2.1, .int .i64 s6.2.2.2.2.2.1, .slice none 0 0, .slice A6_6 n6_6 c6_6, .bool s6.2.2.2.2.2.2.2], eS (lSlice (lInt .u8)) 25 A6_3 n6_3 c6_3 s6.2.2.2.1, eS (lSlice (lInt .u8)) 25 A6_6 n6_6 c6_6 s6.2.2.2.2.2.2.1]) (fun (s6, A6_0, n6_0, c6_0, _, _, _, _, _, _, _) => [fV (lSlice (lSlice (lInt .u8))) (.slice A6_0 n6_0 c6_0) s6.1]) ?_ ?_
  · refine wc_seq ?_
    refine wc_region ?_   -- region 3
    refine wl_det rfl rfl (det_assign rfl) rfl ?_
    refine wl_nil ?_
    refine pn_then ?_
    refine wc_block ?_
    obtain ⟨o10, h, ho10⟩ := bind_some h
    obtain ⟨k10, hk10⟩ := loopV_some.1 h
    refine wc_loop (G := Nat × ((List (List Int)) × Int × Int × (List (List Int)) × Int × Int × (List (List Int)) × Bool × Int) × Option Addr × Nat × Nat × Option Addr × Nat × Nat × Option Addr × Nat × Nat × Unit) (fun g => IterN treatylaw42_LinkEnds_l10 g.1 g.2.1 o10) (fun g => g.1) (fun (_, s10, _, _, _, _, _, _, _, _, _, _) => [(3, .pointer (some ⟨y1_1b0, 0, none⟩)), (4, .int .i64 r1_1.2), (5, .int .i64 s10.2.2.2.2.2.2.2.2)]) (fun (_, s10, A10_0, n10_0, c10_0, A10_3, n10_3, c10_3, A10_6, n10_6, c10_6, _) => [eBlk y1_1b0 43 [.slice A10_0 n10_0 c10_0, .int .i64 s10.2.1, .int .i64 s10.2.2.1, .slice A10_3 n10_3 c10_3, .int .i64 s10.2.2.2.2.1, .int .i64 s10.2.2.2.2.2.1, .slice none 0 0, .slice A10_6 n10_6 c10_6, .bool s10.2.2.2.2.2.2.2.1], eS (lSlice (lInt .u8)) 25 A10_3 n10_3 c10_3 s10.2.2.2.1, eS (lSlice (lInt .u8)) 25 A10_6 n10_6 c10_6 s10.2.2.2.2.2.2.1]) (fun (_, s10, A10_0, n10_0, c10_0, _, _, _, _, _, _, _) => [fV (lSlice (lSlice (lInt .u8))) (.slice A10_0 n10_0 c10_0) s10.1]) (k10, (r1_1.1.a.Out, r1_1.1.a.Acked, r1_1.1.a.Got, r1_1.1.b.Out, r1_1.1.b.Acked, r1_1.1.b.Got, r1_1.1.got, r1_1.1.ok, 0), y1_1A1, r1_1.1.a.Out.length, y1_1c1, y1_1A2, r1_1.1.b.Out.length, y1_1c2, y1_1A4, r1_1.1.got.length, y1_1c4, ()) hk10 ⟨rfl, rfl, rfl, trivial⟩ (fun _ h => h.to ⟨_, r0, ⟨_, r0, ⟨_, (rs r0), trivial⟩⟩⟩ ⟨m0, trivial⟩) ?_
    rintro ⟨k10, s10, A10_0, n10_0, c10_0, A10_3, n10_3, c10_3, A10_6, n10_6, c10_6, _⟩ hI
    obtain ⟨k10, rfl, q10, h, g10⟩ := IterN.pos hI
    dsimp only at h ⊢
    unfold treatylaw42_LinkEnds_l10 at h
    refine wc_know (fun _ h => h.lenF m0) (fun e => ?_)
    subst e
    refine wc_know (fun _ h => h.lenO (ms m0)) (fun e => ?_)
    subst e
    refine wc_know (fun _ h => h.lenO (ms (ms m0))) (fun e => ?_)
    subst e
    refine wc_seq ?_
    refine wc_seq ?_
    refine wc_region ?_   -- region 4
    refine wl_det rfl rfl (det_move rfl) rfl ?_
    refine wl_det rfl rfl (det_lss rfl rfl) rfl ?_
    refine wl_nil ?_
    refine pn_then ?_
    refine wc_cond rfl (fun cd14 => ?_) (fun cd14 => ?_)
    · have h := ifT h cd14
      refine wc_skip ?_
      refine pn_then ?_
      obtain ⟨q16, h, ho16⟩ := bind_some h
      refine wc_meetG (G := ((List (List Int)) × Int × Int × (List (List Int)) × Int × Int × (List (List Int)) × Bool) × Option Addr × Nat × Nat × Option Addr × Nat × Nat × Option Addr × Nat × Nat × Unit) (fun (s16, _, _, _, _, _, _, _, _, _, _) => (.inl s16) = q16) (fun (_, _, _, _, _, _, _, _, _, _, _) => [(3, .pointer (some ⟨y1_1b0, 0, none⟩)), (4, .int .i64 r1_1.2), (5, .int .i64 s10.2.2.2.2.2.2.2.2)]) (fun (s16, A16_0, n16_0, c16_0, A16_3, n16_3, c16_3, A16_6, n16_6, c16_6, _) => [eBlk y1_1b0 43 [.slice A16_0 n16_0 c16_0, .int .i64 s16.2.1, .int .i64 s16.2.2.1, .slice A16_3 n16_3 c16_3, .int .i64 s16.2.2.2.2.1, .int .i64 s16.2.2.2.2.2.1, .slice none 0 0, .slice A16_6 n16_6 c16_6, .bool s16.2.2.2.2.2.2.2], eS (lSlice (lInt .u8)) 25 A16_3 n16_3 c16_3 s16.2.2.2.1, eS (lSlice (lInt .u8)) 25 A16_6 n16_6 c16_6 s16.2.2.2.2.2.2.1]) (fun (s16, A16_0, n16_0, c16_0, _, _, _, _, _, _, _) => [fV (lSlice (lSlice (lInt .u8))) (.slice A16_0 n16_0 c16_0) s16.1]) ?_ ?_
      · refine wc_block ?_
        refine wc_seq ?_
        refine wc_region ?_   -- region 6
        refine wl_det rfl rfl (det_move rfl) rfl ?_
        refine wl_det rfl rfl (det_nilCheckB rfl) rfl ?_
        refine wl_det rfl rfl (det_field rfl fd43_0 rfl) rfl ?_
        refine wl_det rfl rfl (det_loadN (cells := [_, _, _]) rfl m0 (by rfl) ag24 sz24) rfl ?_
        obtain ⟨r6_4, hr6_4, h⟩ := bind_some h
        refine wl_act (act_callS (cap := []) (W_link_Pending (GEndpoint.mk s10.1 s10.2.1 s10.2.2.1) 3 true A10_0 s10.1.length c10_0 r6_4 hr6_4) rfl rfl rfl bd14 rfl ⟨m0, trivial⟩) rfl rfl rfl ?_
        rintro _ _ _ ⟨_, _, ⟨y6_4A0, y6_4n0, y6_4c0, rfl, rfl, rfl⟩, rfl, rfl⟩
        dsimp only [List.nil_append, List.cons_append]
        refine wl_know (fun _ h => h.lenO m0) (fun e => ?_)
        subst e
        refine wl_det rfl rfl (det_len rfl un31) rfl ?_
        refine wl_det rfl rfl (det_move rfl) rfl ?_
        refine wl_nil ?_
        refine pn_then ?_
        refine wc_block ?_
        refine wc_st (fun _ h => h.shutS r0) ?_
        obtain ⟨o21, h, ho21⟩ := bind_some h
        obtain ⟨k21, hk21⟩ := loopV_some.1 h
        refine wc_loop (G := Nat × ((List (List Int)) × Int × Int × (List (List Int)) × Int × Int × (List (List Int)) × Bool × Int) × Option Addr × Nat × Nat × Option Addr × Nat × Nat × Option Addr × Nat × Nat × Unit) (fun g => IterN (treatylaw42_LinkEnds_l21 r6_4) g.1 g.2.1 o21) (fun g => g.1) (fun (_, s21, _, _, _, _, _, _, _, _, _, _) => [(3, .pointer (some ⟨y1_1b0, 0, none⟩)), (4, .int .i64 r1_1.2), (5, .int .i64 s10.2.2.2.2.2.2.2.2), (24, .slice y6_4A0 r6_4.length y6_4c0), (25, .int .i64 (r6_4.length : Int)), (26, .int .i64 s21.2.2.2.2.2.2.2.2)]) (fun (_, s21, A21_0, n21_0, c21_0, A21_3, n21_3, c21_3, A21_6, n21_6, c21_6, _) => [eBlk y1_1b0 43 [.slice A21_0 n21_0 c21_0, .int .i64 s21.2.1, .int .i64 s21.2.2.1, .slice A21_3 n21_3 c21_3, .int .i64 s21.2.2.2.2.1, .int .i64 s21.2.2.2.2.2.1, .slice none 0 0, .slice A21_6 n21_6 c21_6, .bool s21.2.2.2.2.2.2.2.1], eS (lSlice (lInt .u8)) 25 A21_3 n21_3 c21_3 s21.2.2.2.1, eS (lSlice (lInt .u8)) 25 A21_6 n21_6 c21_6 s21.2.2.2.2.2.2.1]) (fun (_, s21, A21_0, n21_0, c21_0, _, _, _, _, _, _, _) => [fV (lSlice (lSlice (lInt .u8))) (.slice A21_0 n21_0 c21_0) s21.1, fV (lSlice lGPacket) (.slice y6_4A0 r6_4.length y6_4c0) r6_4]) (k21, (s10.1, s10.2.1, s10.2.2.1, s10.2.2.2.1, s10.2.2.2.2.1, s10.2.2.2.2.2.1, s10.2.2.2.2.2.2.1, s10.2.2.2.2.2.2.2.1, 0), A10_0, s10.1.length, c10_0, A10_3, s10.2.2.2.1.length, c10_3, A10_6, s10.2.2.2.2.2.2.1.length, c10_6, ()) hk21 ⟨rfl, rfl, rfl, rfl, rfl, rfl, trivial⟩ (fun _ h => h.to ⟨_, r0, ⟨_, r0, ⟨_, r0, trivial⟩⟩⟩ ⟨(ms m0), ⟨m0, trivial⟩⟩) ?_
        rintro ⟨k21, s21, A21_0, n21_0, c21_0, A21_3, n21_3, c21_3, A21_6, n21_6, c21_6, _⟩ hI
        obtain ⟨k21, rfl, q21, h, g21⟩ := IterN.pos hI
        dsimp only at h ⊢
        unfold treatylaw42_LinkEnds_l21 at h
        refine wc_know (fun _ h => h.lenF m0) (fun e => ?_)
        subst e
        refine wc_know (fun _ h => h.lenO (ms m0)) (fun e => ?_)
        subst e
        refine wc_know (fun _ h => h.lenO (ms (ms m0))) (fun e => ?_)
        subst e
        refine wc_seq ?_
        refine wc_region ?_   -- region 7
        refine wl_det rfl rfl (det_lss rfl rfl) rfl ?_
        refine wl_nil ?_
        refine pn_then ?_
        refine wc_seq ?_
        refine wc_cond rfl (fun cd25 => ?_) (fun cd25 => ?_)
        · have h := ifT h cd25
          refine wc_skip ?_
          refine pn_then ?_
          refine wc_seq ?_
          refine wc_block ?_
          refine wc_seq ?_
          refine wc_region ?_   -- region 8
          obtain ⟨k8_0, h⟩ := chk_some h
          refine wl_ex (G := Option Addr × Nat) _ _ (fun _ => True) (fun _ h => openGPacket h (ms m0) k8_0) ?_
          rintro ⟨A8_0, c8_0⟩ -
          dsimp only
          refine wl_det rfl rfl (det_indexP rfl rfl (ms (ms (ms m0))) k8_0 m0 un31 sz27) rfl ?_
          refine wl_det rfl rfl (det_loadP (off := 0) rfl m0 (by rfl) (by rfl) (loaded_n (cells := [_, _, _, _, _]) ag27 sz27)) rfl ?_
          refine wl_act (act_alloc (cs := [_, _, _, _, _]) zr27 rfl) rfl rfl rfl ?_
          rintro _ _ _ ⟨b8_2, rfl, rfl, rfl⟩
          refine wl_act0 (act_store (cells := [_, _, _, _, _]) (cs' := [_, _, _, _, _]) rfl rfl rfl s0 (by rfl) (of_decide_eq_true rfl) sz27 ⟨rfl, rfl, rfl, rfl, rfl, trivial⟩) rfl rfl ?_
          rintro _ _ _ ⟨rfl, rfl⟩
          refine wl_nil ?_
          refine pn_then ?_
          refine wc_seq ?_
          refine wc_region ?_   -- region 9
          refine wl_det rfl rfl (det_move rfl) rfl ?_
          refine wl_det rfl rfl (det_loadN (cells := [_, _, _, _, _]) rfl m0 (by rfl) ag27 sz27) rfl ?_
          refine wl_st (fun _ h => h.fact (f := fC lGPacket [.int .i64 (ix r6_4 s21.2.2.2.2.2.2.2.2).Party, .bool (ix r6_4 s21.2.2.2.2.2.2.2.2).Down, .int .i64 (ix r6_4 s21.2.2.2.2.2.2.2.2).Number, .int .i64 (ix r6_4 s21.2.2.2.2.2.2.2.2).Ack, .slice A8_0 (ix r6_4 s21.2.2.2.2.2.2.2.2).Data.length c8_0] (ix r6_4 s21.2.2.2.2.2.2.2.2)) (mkGPacket (x := (ix r6_4 s21.2.2.2.2.2.2.2.2)) ⟨h.facts _ (ms m0), trivial⟩)) ?_
          refine wl_act (act_litS lGPacket (vs := [_]) (cs := [_, _, _, _, _]) [(ix r6_4 s21.2.2.2.2.2.2.2.2)] un31 in27 rfl rfl rfl rfl rfl ⟨rfl, trivial⟩ (by rfl) rfl (fun _ h => by have q := oneF h m0; exact q)) rfl rfl rfl ?_
          rintro _ _ _ ⟨A9_2, rfl, rfl, rfl⟩
          refine wl_det rfl rfl (det_nilCheckB rfl) rfl ?_
          refine wl_det rfl rfl (det_field rfl fd43_2 rfl) rfl ?_
          refine wl_act0 (act_store (cells := [_]) (cs' := [_, _, _, _, _, _, _, _, _]) rfl rfl rfl (ss (ss s0)) (by rfl) (of_decide_eq_true rfl) sz31 ⟨rfl, trivial⟩) rfl rfl ?_
          rintro _ _ _ ⟨rfl, rfl⟩
          refine wl_nil ?_
          refine pn_then ?_
          refine wc_seq ?_
          refine wc_region ?_   -- region 10
          refine wl_det rfl rfl (det_move rfl) rfl ?_
          obtain ⟨r10_1, hr10_1, h⟩ := bind_some h
          refine wl_act (act_callS (cap := []) (W_treatylaw42_world_deliver_o_o_o (Gworld.mk (GEndpoint.mk s21.1 s21.2.1 s21.2.2.1) (GEndpoint.mk s21.2.2.2.1 s21.2.2.2.2.1 s21.2.2.2.2.2.1) [(ix r6_4 s21.2.2.2.2.2.2.2.2)] s21.2.2.2.2.2.2.1 s21.2.2.2.2.2.2.2.1) 0 y1_1b0 A21_0 s21.1.length c21_0 A21_3 s21.2.2.2.1.length c21_3 A9_2 1 1 A21_6 s21.2.2.2.2.2.2.1.length c21_6 r10_1 hr10_1) rfl rfl rfl bd15 ⟨_, (rs (rs r0)), ⟨_, (rs (rs r0)), ⟨_, r0, ⟨_, (rs r0), rfl⟩⟩⟩⟩ ⟨(ms (ms (ms m0))), trivial⟩) rfl rfl rfl ?_
          rintro _ _ _ ⟨_, _, ⟨y10_1A0, y10_1n0, y10_1c0, y10_1A1, y10_1n1, y10_1c1, y10_1A2, y10_1n2, y10_1c2, y10_1A3, y10_1n3, y10_1c3, rfl, rfl, rfl⟩, rfl, rfl⟩
          dsimp only [List.nil_append, List.cons_append]
          refine wl_know (fun _ h => h.lenF m0) (fun e => ?_)
          subst e
          refine wl_know (fun _ h => h.lenO (ms m0)) (fun e => ?_)
          subst e
          refine wl_know (fun _ h => h.lenO (ms (ms m0))) (fun e => ?_)
          subst e
          refine wl_know (fun _ h => h.lenO (ms (ms (ms m0)))) (fun e => ?_)
          subst e
          refine wl_nil ?_
          refine pn_then ?_
          refine wc_seq ?_
          refine wc_region ?_   -- region 11
          refine wl_det rfl rfl (det_move rfl) rfl ?_
          refine wl_det rfl rfl (det_move rfl) rfl ?_
          refine wl_det rfl rfl (det_nilCheckB rfl) rfl ?_
          refine wl_det rfl rfl (det_field rfl fd43_2 rfl) rfl ?_
          refine wl_det rfl rfl (det_load rfl m0 (by rfl) na31 us31) rfl ?_
          refine wl_st (fun _ h => h.shutS (rs (rs r0))) ?_
          obtain ⟨k11_5, h⟩ := chk_some h
          refine wl_act (act_sliceL rfl rfl m0 un31 sz27 rfl rfl k11_5) rfl rfl rfl ?_
          rintro _ _ _ ⟨A11_5, c11_5, rfl, rfl, rfl⟩
          refine wl_det rfl rfl (det_nilCheckB rfl) rfl ?_
          refine wl_det rfl rfl (det_field rfl fd43_2 rfl) rfl ?_
          refine wl_act0 (act_store (cells := [_]) (cs' := [_, _, _, _, _, _, _, _, _]) rfl rfl rfl s0 (by rfl) (of_decide_eq_true rfl) sz31 ⟨rfl, trivial⟩) rfl rfl ?_
          rintro _ _ _ ⟨rfl, rfl⟩
          refine wl_nil ?_
          refine pn_then ?_
          refine wc_seq ?_
          refine wc_seq ?_
          refine wc_region ?_   -- region 12
          refine wl_det rfl rfl (det_move rfl) rfl ?_
          refine wl_det rfl rfl (det_nilCheckB rfl) rfl ?_
          refine wl_det rfl rfl (det_field rfl fd43_2 rfl) rfl ?_
          refine wl_det rfl rfl (det_load rfl m0 (by rfl) na31 us31) rfl ?_
          refine wl_det rfl rfl (det_len rfl un31) rfl ?_
          refine wl_det rfl rfl (det_neq rfl rfl) rfl ?_
          refine wl_nil ?_
          refine pn_then ?_
          refine wc_cond rfl (fun cd40 => ?_) (fun cd40 => ?_)
          · have h := ifT h cd40
            refine wc_seq ?_
            refine wc_region ?_   -- region 13
            refine wl_det rfl rfl (det_assign rfl) rfl ?_
            refine wl_nil ?_
            refine pn_then ?_
            refine wc_ret ?_
            refine pr_then ?_
            refine pr_block ?_
            refine pr_then ?_
            refine pr_then ?_
            refine pr_block ?_
            refine pr_block ?_
            refine pr_then ?_
            refine pr_then ?_
            refine pr_block ?_
            refine pr_then ?_
            replace h := Option.some.inj h
            subst h
            replace g21 := nextR g21
            subst g21
            have h := (elimL ho21)
            replace h := Option.some.inj h
            subst h
            have h := (elimR ho16)
            replace h := Option.some.inj h
            subst h
            replace g10 := nextR g10
            subst g10
            have h := (elimL ho10)
            replace h := Option.some.inj h
            subst h
            have h := (elimR ho6)
            replace h := Option.some.inj h
            subst h
            refine pn_ret (vs := [_]) rfl ⟨rfl, trivial⟩ ⟨rfl, rfl, rfl⟩ (fun _ h => h.to trivial trivial)
          · have h := ifF h cd40
            refine wc_skip ?_
            refine pn_then ?_
            refine wc_seq ?_
            refine wc_region ?_   -- region 14
            refine wl_det rfl rfl (det_move rfl) rfl ?_
            obtain ⟨r14_1, hr14_1, h⟩ := bind_some h
            refine wl_act (act_callS (cap := []) (W_treatylaw42_world_deliver_o_o (Gworld.mk r10_1.a r10_1.b (r10_1.wire.drop (1 : Int).toNat) r10_1.got r10_1.ok) 0 y1_1b0 y10_1A0 r10_1.a.Out.length y10_1c0 y10_1A1 r10_1.b.Out.length y10_1c1 A11_5 (r10_1.wire.drop (1 : Int).toNat).length c11_5 y10_1A3 r10_1.got.length y10_1c3 r14_1 hr14_1) rfl rfl rfl bd15 ⟨_, r0, ⟨_, r0, ⟨_, r0, rfl⟩⟩⟩ ⟨(ms (ms m0)), ⟨m0, trivial⟩⟩) rfl rfl rfl ?_
            rintro _ _ _ ⟨_, _, ⟨y14_1A0, y14_1n0, y14_1c0, y14_1A1, y14_1n1, y14_1c1, y14_1A2, y14_1n2, y14_1c2, y14_1A3, y14_1n3, y14_1c3, rfl, rfl, rfl⟩, rfl, rfl⟩
            dsimp only [List.nil_append, List.cons_append]
            refine wl_know (fun _ h => h.lenO (ms m0)) (fun e => ?_)
            subst e
            refine wl_know (fun _ h => h.lenO (ms (ms m0))) (fun e => ?_)
            subst e
            refine wl_know (fun _ h => h.lenF m0) (fun e => ?_)
            subst e
            refine wl_know (fun _ h => h.lenO (ms (ms (ms m0)))) (fun e => ?_)
            subst e
            refine wl_nil ?_
            refine pn_then ?_
            refine wc_region ?_   -- region 15
            refine wl_det rfl rfl (det_move rfl) rfl ?_
            refine wl_det rfl rfl (det_nilCheckB rfl) rfl ?_
            refine wl_det rfl rfl (det_field rfl fd43_2 rfl) rfl ?_
            refine wl_act0 (act_store (cells := [_]) (cs' := [_, _, _, _, _, _, _, _, _]) rfl rfl rfl s0 (by rfl) (of_decide_eq_true rfl) sz31 ⟨rfl, trivial⟩) rfl rfl ?_
            rintro _ _ _ ⟨rfl, rfl⟩
            refine wl_nil ?_
            refine pn_block ?_
            refine pn_then ?_
            refine wc_region ?_   -- region 16
            refine wl_det rfl rfl (det_add rfl rfl) rfl ?_
            refine wl_det rfl rfl (det_move rfl) rfl ?_
            refine wl_nil ?_
            refine pn_st (fun _ h => h.shutS (rs r0)) ?_
            replace h := Option.some.inj h
            subst h
            exact pn_some (k21, (r14_1.a.Out, r14_1.a.Acked, r14_1.a.Got, r14_1.b.Out, r14_1.b.Acked, r14_1.b.Got, r14_1.got, r14_1.ok, (w64 (s21.2.2.2.2.2.2.2.2 + 1))), y14_1A0, r14_1.a.Out.length, y14_1c0, y14_1A1, r14_1.b.Out.length, y14_1c1, y14_1A3, r14_1.got.length, y14_1c3, ()) ⟨nextL g21, Nat.lt_succ_self _⟩ ⟨rfl, rfl, rfl, rfl, rfl, rfl, trivial⟩ (fun _ h => h.to ⟨_, r0, ⟨_, r0, ⟨_, r0, trivial⟩⟩⟩ ⟨m0, ⟨(ms (ms (ms (ms (ms (ms (ms (ms (ms m0))))))))), trivial⟩⟩)
        · have h := ifF h cd25
          refine wc_exit ?_
          refine px_then ?_
          refine px_then ?_
          refine px_block ?_
          refine pn_block ?_
          replace h := Option.some.inj h
          subst h
          replace g21 := nextR g21
          subst g21
          have h := (elimR ho21)
          replace h := Option.some.inj h
          subst h
          exact pn_meetG ((s21.1, s21.2.1, s21.2.2.1, s21.2.2.2.1, s21.2.2.2.2.1, s21.2.2.2.2.2.1, s21.2.2.2.2.2.2.1, s21.2.2.2.2.2.2.2.1), A21_0, s21.1.length, c21_0, A21_3, s21.2.2.2.1.length, c21_3, A21_6, s21.2.2.2.2.2.2.1.length, c21_6, ()) rfl ⟨rfl, rfl, rfl, trivial⟩ (fun _ h => h.to ⟨_, r0, ⟨_, r0, ⟨_, r0, trivial⟩⟩⟩ ⟨m0, trivial⟩)
      rintro ⟨s16, A16_0, n16_0, c16_0, A16_3, n16_3, c16_3, A16_6, n16_6, c16_6, _⟩ e16
      dsimp only at e16 ⊢
      subst e16
      have h := (elimL ho16)
      refine wc_know (fun _ h => h.lenF m0) (fun e => ?_)
      subst e
      refine wc_know (fun _ h => h.lenO (ms m0)) (fun e => ?_)
      subst e
      refine wc_know (fun _ h => h.lenO (ms (ms m0))) (fun e => ?_)
      subst e
      refine wc_region ?_   -- region 5
      refine wl_det rfl rfl (det_move rfl) rfl ?_
      refine wl_det rfl rfl (det_add rfl rfl) rfl ?_
      refine wl_det rfl rfl (det_assign rfl) rfl ?_
      refine wl_nil ?_
      replace h := Option.some.inj h
      subst h
      exact pn_some (k10, (s16.1, s16.2.1, s16.2.2.1, s16.2.2.2.1, s16.2.2.2.2.1, s16.2.2.2.2.2.1, s16.2.2.2.2.2.2.1, s16.2.2.2.2.2.2.2, (w64 (s10.2.2.2.2.2.2.2.2 + 1))), A16_0, s16.1.length, c16_0, A16_3, s16.2.2.2.1.length, c16_3, A16_6, s16.2.2.2.2.2.2.1.length, c16_6, ()) ⟨nextL g10, Nat.lt_succ_self _⟩ ⟨rfl, rfl, rfl, trivial⟩ (fun _ h => h.to ⟨_, r0, ⟨_, r0, ⟨_, r0, trivial⟩⟩⟩ ⟨m0, trivial⟩)
    · have h := ifF h cd14
      refine wc_exit ?_
      refine px_then ?_
      refine px_then ?_
      refine px_block ?_
      replace h := Option.some.inj h
      subst h
      replace g10 := nextR g10
      subst g10
      have h := (elimR ho10)
      replace h := Option.some.inj h
      subst h
      exact pn_meetG ((s10.1, s10.2.1, s10.2.2.1, s10.2.2.2.1, s10.2.2.2.2.1, s10.2.2.2.2.2.1, s10.2.2.2.2.2.2.1, s10.2.2.2.2.2.2.2.1), A10_0, s10.1.length, c10_0, A10_3, s10.2.2.2.1.length, c10_3, A10_6, s10.2.2.2.2.2.2.1.length, c10_6, ()) rfl ⟨rfl, rfl, trivial⟩ (fun _ h => h.to ⟨_, r0, ⟨_, r0, ⟨_, r0, trivial⟩⟩⟩ ⟨m0, trivial⟩)
  rintro ⟨s6, A6_0, n6_0, c6_0, A6_3, n6_3, c6_3, A6_6, n6_6, c6_6, _⟩ e6
  dsimp only at e6 ⊢
  subst e6
  have h := (elimL ho6)
  refine wc_know (fun _ h => h.lenF m0) (fun e => ?_)
  subst e
  refine wc_know (fun _ h => h.lenO (ms m0)) (fun e => ?_)
  subst e
  refine wc_know (fun _ h => h.lenO (ms (ms m0))) (fun e => ?_)
  subst e
  refine wc_seq ?_
  refine wc_region ?_   -- region 17
  refine wl_det rfl rfl (det_move rfl) rfl ?_
  refine wl_det rfl rfl (det_nilCheckB rfl) rfl ?_
  refine wl_det rfl rfl (det_field rfl fd43_4 rfl) rfl ?_
  refine wl_det rfl rfl (det_load rfl m0 (by rfl) na4 us4) rfl ?_
  refine wl_det rfl rfl (det_move rfl) rfl ?_
  refine wl_way s6.2.2.2.2.2.2.2 (s6.2.2.2.2.2.2.2 && (decide ((s6.2.2.2.2.2.2.1.length : Int) = r1_1.2))) 8 69 (fun hg => ?_) (fun hg => ?_) ?_
  · have hg17_12 := hg
    refine wl_on rfl rfl rfl rfl hg17_12 ?_
    refine wl_det rfl rfl (det_move rfl) rfl ?_
    refine wl_on rfl rfl rfl rfl hg17_12 ?_
    refine wl_det rfl rfl (det_nilCheckB rfl) rfl ?_
    refine wl_on rfl rfl rfl rfl hg17_12 ?_
    refine wl_det rfl rfl (det_field rfl fd43_3 rfl) rfl ?_
    refine wl_on rfl rfl rfl rfl hg17_12 ?_
    refine wl_det rfl rfl (det_load rfl m0 (by rfl) na22 us22) rfl ?_
    refine wl_on rfl rfl rfl rfl hg17_12 ?_
    refine wl_det rfl rfl (det_len rfl un22) rfl ?_
    refine wl_on rfl rfl rfl rfl hg17_12 ?_
    refine wl_det rfl rfl (det_move rfl) rfl ?_
    refine wl_on rfl rfl rfl rfl hg17_12 ?_
    refine wl_det rfl rfl (det_eql rfl rfl) rfl ?_
    refine wl_det rfl rfl (det_and_on rfl rfl rfl hg17_12) rfl ?_
    exact wl_nil (pn_qnE (ext_cons rfl (ext_skip rfl (ext_skip rfl (ext_skip rfl (ext_skip rfl (ext_skip rfl (ext_skip rfl (ext_skip rfl (ext_skip rfl ext_refl))))))))) (fun _ h => h))
  · have hg17_12a := hg
    refine wl_off rfl rfl rfl rfl rfl hg17_12a rfl ?_
    refine wl_off rfl rfl rfl rfl rfl hg17_12a rfl ?_
    refine wl_off rfl rfl rfl rfl rfl hg17_12a rfl ?_
    refine wl_off rfl rfl rfl rfl rfl hg17_12a rfl ?_
    refine wl_off rfl rfl rfl rfl rfl hg17_12a rfl ?_
    refine wl_off rfl rfl rfl rfl rfl hg17_12a rfl ?_
    refine wl_off rfl rfl rfl rfl rfl hg17_12a rfl ?_
    refine wl_det rfl rfl (det_and_off (q := (decide ((s6.2.2.2.2.2.2.1.length : Int) = r1_1.2))) rfl rfl rfl hg17_12a) rfl ?_
    exact wl_nil (pn_qnE (ext_cons rfl (ext_skip rfl (ext_skip rfl (ext_skip rfl (ext_skip rfl (ext_skip rfl (ext_skip rfl (ext_skip rfl (ext_skip rfl ext_refl))))))))) (fun _ h => h))
  refine wl_det rfl rfl (det_move rfl) rfl ?_
  refine wl_way (s6.2.2.2.2.2.2.2 && (decide ((s6.2.2.2.2.2.2.1.length : Int) = r1_1.2))) ((s6.2.2.2.2.2.2.2 && (decide ((s6.2.2.2.2.2.2.1.length : Int) = r1_1.2))) && (decide (s6.2.1 = r1_1.2))) 8 78 (fun hg => ?_) (fun hg => ?_) ?_
  · have hg17_21 := hg
    refine wl_on rfl rfl rfl rfl hg17_21 ?_
    refine wl_det rfl rfl (det_move rfl) rfl ?_
    refine wl_on rfl rfl rfl rfl hg17_21 ?_
    refine wl_det rfl rfl (det_nilCheckB rfl) rfl ?_
    refine wl_on rfl rfl rfl rfl hg17_21 ?_
    refine wl_det rfl rfl (det_field rfl fd43_0 rfl) rfl ?_
    refine wl_on rfl rfl rfl rfl hg17_21 ?_
    refine wl_det rfl rfl (det_field rfl fd24_1 rfl) rfl ?_
    refine wl_on rfl rfl rfl rfl hg17_21 ?_
    refine wl_det rfl rfl (det_load rfl m0 (by rfl) na3 us3) rfl ?_
    refine wl_on rfl rfl rfl rfl hg17_21 ?_
    refine wl_det rfl rfl (det_move rfl) rfl ?_
    refine wl_on rfl rfl rfl rfl hg17_21 ?_
    refine wl_det rfl rfl (det_eql rfl rfl) rfl ?_
    refine wl_det rfl rfl (det_and_on rfl rfl rfl hg17_21) rfl ?_
    exact wl_nil (pn_qnE (ext_cons rfl (ext_skip rfl (ext_skip rfl (ext_skip rfl (ext_skip rfl (ext_skip rfl (ext_skip rfl (ext_skip rfl (ext_skip rfl ext_refl))))))))) (fun _ h => h))
  · have hg17_21a := hg
    refine wl_off rfl rfl rfl rfl rfl hg17_21a rfl ?_
    refine wl_off rfl rfl rfl rfl rfl hg17_21a rfl ?_
    refine wl_off rfl rfl rfl rfl rfl hg17_21a rfl ?_
    refine wl_off rfl rfl rfl rfl rfl hg17_21a rfl ?_
    refine wl_off rfl rfl rfl rfl rfl hg17_21a rfl ?_
    refine wl_off rfl rfl rfl rfl rfl hg17_21a rfl ?_
    refine wl_off rfl rfl rfl rfl rfl hg17_21a rfl ?_
    refine wl_det rfl rfl (det_and_off (q := (decide (s6.2.1 = r1_1.2))) rfl rfl rfl hg17_21a) rfl ?_
    exact wl_nil (pn_qnE (ext_cons rfl (ext_skip rfl (ext_skip rfl (ext_skip rfl (ext_skip rfl (ext_skip rfl (ext_skip rfl (ext_skip rfl (ext_skip rfl ext_refl))))))))) (fun _ h => h))
  refine wl_det rfl rfl (det_move rfl) rfl ?_
  obtain ⟨q17_30, hq17_30, h⟩ := bind_some h
  have ho17_30 := h
  refine wl_way ((s6.2.2.2.2.2.2.2 && (decide ((s6.2.2.2.2.2.2.1.length : Int) = r1_1.2))) && (decide (s6.2.1 = r1_1.2))) q17_30 8 87 (fun hg => ?_) (fun hg => ?_) ?_
  · have hg17_30 := hg
    have h := ifT hq17_30 hg
    refine wl_on rfl rfl rfl rfl hg17_30 ?_
    refine wl_det rfl rfl (det_move rfl) rfl ?_
    refine wl_on rfl rfl rfl rfl hg17_30 ?_
    refine wl_det rfl rfl (det_nilCheckB rfl) rfl ?_
    refine wl_on rfl rfl rfl rfl hg17_30 ?_
    refine wl_det rfl rfl (det_field rfl fd43_0 rfl) rfl ?_
    refine wl_on rfl rfl rfl rfl hg17_30 ?_
    refine wl_det rfl rfl (det_loadN (cells := [_, _, _]) rfl m0 (by rfl) ag24 sz24) rfl ?_
    refine wl_on rfl rfl rfl rfl hg17_30 ?_
    obtain ⟨r17_27, hr17_27, h⟩ := bind_some h
    refine wl_act (act_callS (cap := []) (W_link_Pending (GEndpoint.mk s6.1 s6.2.1 s6.2.2.1) 3 true A6_0 s6.1.length c6_0 r17_27 hr17_27) rfl rfl rfl bd14 rfl ⟨m0, trivial⟩) rfl rfl rfl ?_
    rintro _ _ _ ⟨_, _, ⟨y17_27A0, y17_27n0, y17_27c0, rfl, rfl, rfl⟩, rfl, rfl⟩
    dsimp only [List.nil_append, List.cons_append]
    refine wl_know (fun _ h => h.lenO m0) (fun e => ?_)
    subst e
    refine wl_on rfl rfl rfl rfl hg17_30 ?_
    refine wl_det rfl rfl (det_len rfl un31) rfl ?_
    refine wl_on rfl rfl rfl rfl hg17_30 ?_
    refine wl_det rfl rfl (det_eql rfl rfl) rfl ?_
    replace h := Option.some.inj h
    subst h
    refine wl_det rfl rfl (det_pick_on rfl hg17_30 rfl rfl) rfl ?_
    exact wl_nil (pn_qnE (ext_cons rfl (ext_skip rfl (ext_skip rfl (ext_skip rfl (ext_skip rfl (ext_skip rfl (ext_skip rfl (ext_skip rfl (ext_skip rfl ext_refl))))))))) (fun _ h => h.to ⟨_, (rs r0), ⟨_, (rs r0), ⟨_, (rs r0), trivial⟩⟩⟩ ⟨m0, trivial⟩))
  · have hg17_30a := hg
    have h := ifF hq17_30 hg
    refine wl_off rfl rfl rfl rfl rfl hg17_30a rfl ?_
    refine wl_off rfl rfl rfl rfl rfl hg17_30a rfl ?_
    refine wl_off rfl rfl rfl rfl rfl hg17_30a rfl ?_
    refine wl_off rfl rfl rfl rfl rfl hg17_30a rfl ?_
    refine wl_off rfl rfl rfl rfl rfl hg17_30a rfl ?_
    refine wl_off rfl rfl rfl rfl rfl hg17_30a rfl ?_
    refine wl_off rfl rfl rfl rfl rfl hg17_30a rfl ?_
    replace h := Option.some.inj h
    subst h
    refine wl_det rfl rfl (det_pick_off rfl hg17_30a rfl rfl) rfl ?_
    exact wl_nil (pn_qnE (ext_cons rfl (ext_skip rfl (ext_skip rfl (ext_skip rfl (ext_skip rfl (ext_skip rfl (ext_skip rfl (ext_skip rfl (ext_skip rfl ext_refl))))))))) (fun _ h => h))
  have h := ho17_30
  refine wl_det rfl rfl (det_move rfl) rfl ?_
  obtain ⟨q17_33, hq17_33, h⟩ := bind_some h
  have ho17_33 := h
  refine wl_way q17_30 q17_33 2 90 (fun hg => ?_) (fun hg => ?_) ?_
  · have hg17_33 := hg
    have h := ifT hq17_33 hg
    refine wl_on rfl rfl rfl rfl hg17_33 ?_
    obtain ⟨r17_32, hr17_32, h⟩ := bind_some h
    refine wl_act (act_callS (cap := []) (W_treatylaw42_awake r17_32 hr17_32) rfl rfl rfl bd11 rfl trivial) rfl rfl rfl ?_
    rintro _ _ _ ⟨_, _, ⟨rfl, rfl, rfl⟩, rfl, rfl⟩
    dsimp only [List.nil_append, List.cons_append]
    replace h := Option.some.inj h
    subst h
    refine wl_det rfl rfl (det_pick_on rfl hg17_33 rfl rfl) rfl ?_
    exact wl_nil (pn_qnE (ext_cons rfl (ext_skip rfl (ext_skip rfl ext_refl))) (fun _ h => h))
  · have hg17_33a := hg
    have h := ifF hq17_33 hg
    refine wl_off rfl rfl rfl rfl rfl hg17_33a rfl ?_
    replace h := Option.some.inj h
    subst h
    refine wl_det rfl rfl (det_pick_off rfl hg17_33a rfl rfl) rfl ?_
    exact wl_nil (pn_qnE (ext_cons rfl (ext_skip rfl (ext_skip rfl ext_refl))) (fun _ h => h))
  have h := ho17_33
  refine wl_det rfl rfl (det_assign rfl) rfl ?_
  refine wl_nil ?_
  refine pn_then ?_
  refine wc_ret ?_
  replace h := Option.some.inj h
  subst h
  refine pn_ret (vs := [_]) rfl ⟨rfl, trivial⟩ ⟨rfl, rfl, rfl⟩ (fun _ h => h.to trivial trivial)
end Go.Proofs.Ytkpoflfhmjkldaa
