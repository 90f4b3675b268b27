/- That functions of the program compute the plain programs of P. Written by a small program. -/
import Derived.Test.YtoodneljjhbfhaaWAggregateLeft1
namespace Go.Proofs.Ytoodneljjhbfhaa
open Go.RowKit
def Q_treatylaw23_AggregateLeft (r : Bool) : Value → List Ent → List Fact → Prop := fun v θ κ => v = .bool r ∧ θ = [] ∧ κ = []
theorem plains_treatylaw23_AggregateLeft {r : Bool} : ∀ v θ κ, Q_treatylaw23_AggregateLeft r v θ κ → Plains θ := by
  rintro _ _ _ ⟨rfl, rfl, rfl⟩
  exact trivial
set_option maxRecDepth 100000 in
theorem W_treatylaw23_AggregateLeft (a0 : (List Int)) (a1 : Int) (a2 : Int) (a3 : (List Int)) (A0 : Option Addr) (n0 : Nat) (c0 : Nat) (A3 : Option Addr) (n3 : Nat) (c3 : Nat) (r : Bool) (h : treatylaw23_AggregateLeft a0 a1 a2 a3 = some r) : Spec Try.prog 11 [.slice A0 n0 c0, .int .i64 a1, .int .i64 a2, .slice A3 n3 c3] [] [fV (lSlice (lInt .i64)) (.slice A0 n0 c0) a0, fV (lSlice (lInt .i64)) (.slice A3 n3 c3) a3] (Q_treatylaw23_AggregateLeft r) := by
  unfold treatylaw23_AggregateLeft at h
  refine spec_of (σ := [(0, _), (1, _), (2, _), (3, _)]) Try.func11 rfl rfl rfl rfl ?_
  intro C
  refine wc_know (fun _ h => h.lenF m0) (fun e => ?_)
  subst e
  refine wc_know (fun _ h => h.lenF (ms m0)) (fun e => ?_)
  subst e
  refine wc_seq ?_
  refine wc_region ?_   -- region 0
  refine wl_det rfl rfl (det_assign rfl) rfl ?_
  refine wl_nil ?_
  refine pn_then ?_
  refine wc_seq ?_
  refine wc_seq ?_
  refine wc_region ?_   -- region 1
  refine wl_det rfl rfl (det_move rfl) rfl ?_
  refine wl_det rfl rfl (det_len rfl un22) rfl ?_
  refine wl_det rfl rfl (det_gtr rfl rfl) rfl ?_
  refine wl_nil ?_
  refine pn_then ?_
  refine wc_cond rfl (fun c5 => ?_) (fun c5 => ?_)
  · have h := ifT h c5
    refine wc_seq ?_
    refine wc_region ?_   -- region 2
    obtain ⟨r2_0, hr2_0, h⟩ := bind_some h
    refine wl_act (act_callS (cap := []) (W_treatylaw23_awake r2_0 hr2_0) rfl rfl rfl bd13 rfl trivial) rfl rfl rfl ?_
    rintro _ _ _ ⟨_, _, ⟨rfl, rfl, rfl⟩, rfl, rfl⟩
    dsimp only [List.nil_append, List.cons_append]
    refine wl_det rfl rfl (det_assign rfl) rfl ?_
    refine wl_nil ?_
    refine pn_then ?_
    refine wc_ret ?_
    refine pr_then ?_
    replace h := Option.some.inj h
    subst h
    refine pn_ret (vs := [_]) rfl ⟨rfl, trivial⟩ ⟨rfl, rfl, rfl⟩ (fun _ h => h.to trivial trivial)
  · have h := ifF h c5
    refine wc_skip ?_
    refine pn_then ?_
    refine wc_seq ?_
    refine wc_region ?_   -- region 3
    refine wl_det rfl rfl (det_move rfl) rfl ?_
    refine wl_det rfl rfl (det_move rfl) rfl ?_
    refine wl_det rfl rfl (det_move rfl) rfl ?_
    obtain ⟨r3_3, hr3_3, h⟩ := bind_some h
    refine wl_act (act_callS (cap := []) (W_aggregate_Left a0 a1 a2 A0 a0.length c0 r3_3 hr3_3) rfl rfl rfl bd32 rfl ⟨m0, trivial⟩) rfl rfl rfl ?_
    rintro _ _ _ ⟨_, _, ⟨rfl, rfl, rfl⟩, rfl, rfl⟩
    dsimp only [List.nil_append, List.cons_append]
    refine wl_det rfl rfl (det_move rfl) rfl ?_
    refine wl_det rfl rfl (det_extract rfl rfl) rfl ?_
    refine wl_det rfl rfl (det_extract rfl rfl) rfl ?_
    refine wl_det rfl rfl (det_extract rfl rfl) rfl ?_
    refine wl_det rfl rfl (det_assign rfl) rfl ?_
    refine wl_det rfl rfl (det_assign rfl) rfl ?_
    refine wl_det rfl rfl (det_assign rfl) rfl ?_
    refine wl_nil ?_
    refine pn_then ?_
    refine wc_seq ?_
    refine wc_region ?_   -- region 4
    refine wl_det rfl rfl (det_move rfl) rfl ?_
    refine wl_det rfl rfl (det_move rfl) rfl ?_
    refine wl_det rfl rfl (det_move rfl) rfl ?_
    obtain ⟨r4_3, hr4_3, h⟩ := bind_some h
    refine wl_act (act_callS (cap := []) (W_treatyref20_Left a0 a1 a2 A0 a0.length c0 r4_3 hr4_3) rfl rfl rfl bd33 rfl ⟨m0, trivial⟩) rfl rfl rfl ?_
    rintro _ _ _ ⟨_, _, ⟨rfl, rfl, rfl⟩, rfl, rfl⟩
    dsimp only [List.nil_append, List.cons_append]
    refine wl_det rfl rfl (det_move rfl) rfl ?_
    refine wl_det rfl rfl (det_extract rfl rfl) rfl ?_
    refine wl_det rfl rfl (det_extract rfl rfl) rfl ?_
    refine wl_det rfl rfl (det_extract rfl rfl) rfl ?_
    refine wl_det rfl rfl (det_assign rfl) rfl ?_
    refine wl_det rfl rfl (det_assign rfl) rfl ?_
    refine wl_det rfl rfl (det_assign rfl) rfl ?_
    refine wl_nil ?_
    refine pn_then ?_
    refine wc_seq ?_
    refine wc_region ?_   -- region 5
    refine wl_det rfl rfl (det_move rfl) rfl ?_
    obtain ⟨r5_1, hr5_1, h⟩ := bind_some h
    refine wl_act (act_callS (cap := []) (W_treatylaw23_made a3 A3 a3.length c3 r5_1 hr5_1) rfl rfl rfl bd16 rfl ⟨(ms m0), trivial⟩) rfl rfl rfl ?_
    rintro _ _ _ ⟨_, _, ⟨y5_1A0, y5_1n0, y5_1c0, y5_1b1, y5_1A2, y5_1n2, y5_1c2, rfl, rfl, rfl⟩, rfl, rfl⟩
    dsimp only [List.nil_append, List.cons_append]
    refine wl_know (fun _ h => h.lenO m0) (fun e => ?_)
    subst e
    refine wl_know (fun _ h => h.lenF m0) (fun e => ?_)
    subst e
    refine wl_det rfl rfl (det_move rfl) rfl ?_
    refine wl_det rfl rfl (det_extract rfl rfl) rfl ?_
    refine wl_det rfl rfl (det_extract rfl rfl) rfl ?_
    refine wl_det rfl rfl (det_extract rfl rfl) rfl ?_
    refine wl_det rfl rfl (det_extract rfl rfl) rfl ?_
    refine wl_det rfl rfl (det_assign rfl) rfl ?_
    refine wl_det rfl rfl (det_assign rfl) rfl ?_
    refine wl_det rfl rfl (det_assign rfl) rfl ?_
    refine wl_det rfl rfl (det_assign rfl) rfl ?_
    refine wl_nil ?_
    refine pn_then ?_
    refine wc_seq ?_
    refine wc_region ?_   -- region 6
    refine wl_det rfl rfl (det_move rfl) rfl ?_
    refine wl_det rfl rfl (det_move rfl) rfl ?_
    refine wl_det rfl rfl (det_move rfl) rfl ?_
    obtain ⟨r6_3, hr6_3, h⟩ := bind_some h
    refine wl_act (act_callL (cap := []) [eS (lInt .i64) 3 y5_1A0 r5_1.1.length y5_1c0 r5_1.1] (W_aggregate_Left r5_1.1 r5_1.2.1 r5_1.2.2.1 y5_1A0 r5_1.1.length y5_1c0 r6_3 hr6_3) plains_aggregate_Left rfl rfl rfl bd32 rfl ⟨m0, trivial⟩ ⟨.inr ⟨_, m0, lent_eS⟩, trivial⟩) rfl rfl rfl ?_
    rintro _ _ _ ⟨_, _, ⟨rfl, rfl, rfl⟩, rfl, rfl⟩
    dsimp only [List.nil_append, List.cons_append]
    refine wl_det rfl rfl (det_move rfl) rfl ?_
    refine wl_det rfl rfl (det_extract rfl rfl) rfl ?_
    refine wl_det rfl rfl (det_extract rfl rfl) rfl ?_
    refine wl_det rfl rfl (det_extract rfl rfl) rfl ?_
    refine wl_det rfl rfl (det_assign rfl) rfl ?_
    refine wl_det rfl rfl (det_assign rfl) rfl ?_
    refine wl_det rfl rfl (det_assign rfl) rfl ?_
    refine wl_nil ?_
    refine pn_then ?_
    refine wc_seq ?_
    refine wc_region ?_   -- region 7
    refine wl_det rfl rfl (det_move rfl) rfl ?_
    refine wl_det rfl rfl (det_move rfl) rfl ?_
    refine wl_det rfl rfl (det_move rfl) rfl ?_
    obtain ⟨r7_3, hr7_3, h⟩ := bind_some h
    refine wl_act (act_callL (cap := []) [eS (lInt .i64) 3 y5_1A0 r5_1.1.length y5_1c0 r5_1.1] (W_treatyref20_Left r5_1.1 r5_1.2.1 r5_1.2.2.1 y5_1A0 r5_1.1.length y5_1c0 r7_3 hr7_3) plains_treatyref20_Left rfl rfl rfl bd33 rfl ⟨m0, trivial⟩ ⟨.inr ⟨_, m0, lent_eS⟩, trivial⟩) rfl rfl rfl ?_
    rintro _ _ _ ⟨_, _, ⟨rfl, rfl, rfl⟩, rfl, rfl⟩
    dsimp only [List.nil_append, List.cons_append]
    refine wl_det rfl rfl (det_move rfl) rfl ?_
    refine wl_det rfl rfl (det_extract rfl rfl) rfl ?_
    refine wl_det rfl rfl (det_extract rfl rfl) rfl ?_
    refine wl_det rfl rfl (det_extract rfl rfl) rfl ?_
    refine wl_det rfl rfl (det_assign rfl) rfl ?_
    refine wl_det rfl rfl (det_assign rfl) rfl ?_
    refine wl_det rfl rfl (det_assign rfl) rfl ?_
    refine wl_nil ?_
    refine pn_then ?_
    refine wc_seq ?_
    refine wc_region ?_   -- region 8
    refine wl_det rfl rfl (det_move rfl) rfl ?_
    refine wl_det rfl rfl (det_move rfl) rfl ?_
    refine wl_det rfl rfl (det_eql rfl rfl) rfl ?_
    refine wl_det rfl rfl (det_move rfl) rfl ?_
    refine wl_way (decide (r3_3.1 = r4_3.1)) ((decide (r3_3.1 = r4_3.1)) && (decide (r3_3.2.1 = r4_3.2.1))) 4 75 (fun hg => ?_) (fun hg => ?_) ?_
    · have hg8_7 := hg
      refine wl_on rfl rfl rfl rfl hg8_7 ?_
      refine wl_det rfl rfl (det_move rfl) rfl ?_
      refine wl_on rfl rfl rfl rfl hg8_7 ?_
      refine wl_det rfl rfl (det_move rfl) rfl ?_
      refine wl_on rfl rfl rfl rfl hg8_7 ?_
      refine wl_det rfl rfl (det_eql rfl rfl) rfl ?_
      refine wl_det rfl rfl (det_and_on rfl rfl rfl hg8_7) rfl ?_
      exact wl_nil (pn_qnE (ext_cons rfl (ext_skip rfl (ext_skip rfl (ext_skip rfl (ext_skip rfl ext_refl))))) (fun _ h => h))
    · have hg8_7a := hg
      refine wl_off rfl rfl rfl rfl rfl hg8_7a rfl ?_
      refine wl_off rfl rfl rfl rfl rfl hg8_7a rfl ?_
      refine wl_off rfl rfl rfl rfl rfl hg8_7a rfl ?_
      refine wl_det rfl rfl (det_and_off (q := (decide (r3_3.2.1 = r4_3.2.1))) rfl rfl rfl hg8_7a) rfl ?_
      exact wl_nil (pn_qnE (ext_cons rfl (ext_skip rfl (ext_skip rfl (ext_skip rfl (ext_skip rfl ext_refl))))) (fun _ h => h))
    refine wl_det rfl rfl (det_move rfl) rfl ?_
    refine wl_way ((decide (r3_3.1 = r4_3.1)) && (decide (r3_3.2.1 = r4_3.2.1))) (((decide (r3_3.1 = r4_3.1)) && (decide (r3_3.2.1 = r4_3.2.1))) && (decide (r3_3.2.2 = r4_3.2.2))) 4 80 (fun hg => ?_) (fun hg => ?_) ?_
    · have hg8_12 := hg
      refine wl_on rfl rfl rfl rfl hg8_12 ?_
      refine wl_det rfl rfl (det_move rfl) rfl ?_
      refine wl_on rfl rfl rfl rfl hg8_12 ?_
      refine wl_det rfl rfl (det_move rfl) rfl ?_
      refine wl_on rfl rfl rfl rfl hg8_12 ?_
      refine wl_det rfl rfl (det_eql rfl rfl) rfl ?_
      refine wl_det rfl rfl (det_and_on rfl rfl rfl hg8_12) rfl ?_
      exact wl_nil (pn_qnE (ext_cons rfl (ext_skip rfl (ext_skip rfl (ext_skip rfl (ext_skip rfl ext_refl))))) (fun _ h => h))
    · have hg8_12a := hg
      refine wl_off rfl rfl rfl rfl rfl hg8_12a rfl ?_
      refine wl_off rfl rfl rfl rfl rfl hg8_12a rfl ?_
      refine wl_off rfl rfl rfl rfl rfl hg8_12a rfl ?_
      refine wl_det rfl rfl (det_and_off (q := (decide (r3_3.2.2 = r4_3.2.2))) rfl rfl rfl hg8_12a) rfl ?_
      exact wl_nil (pn_qnE (ext_cons rfl (ext_skip rfl (ext_skip rfl (ext_skip rfl (ext_skip rfl ext_refl))))) (fun _ h => h))
    refine wl_det rfl rfl (det_move rfl) rfl ?_
    refine wl_way (((decide (r3_3.1 = r4_3.1)) && (decide (r3_3.2.1 = r4_3.2.1))) && (decide (r3_3.2.2 = r4_3.2.2))) ((((decide (r3_3.1 = r4_3.1)) && (decide (r3_3.2.1 = r4_3.2.1))) && (decide (r3_3.2.2 = r4_3.2.2))) && (decide (r6_3.1 = r7_3.1))) 4 85 (fun hg => ?_) (fun hg => ?_) ?_
    · have hg8_17 := hg
      refine wl_on rfl rfl rfl rfl hg8_17 ?_
      refine wl_det rfl rfl (det_move rfl) rfl ?_
      refine wl_on rfl rfl rfl rfl hg8_17 ?_
      refine wl_det rfl rfl (det_move rfl) rfl ?_
      refine wl_on rfl rfl rfl rfl hg8_17 ?_
      refine wl_det rfl rfl (det_eql rfl rfl) rfl ?_
      refine wl_det rfl rfl (det_and_on rfl rfl rfl hg8_17) rfl ?_
      exact wl_nil (pn_qnE (ext_cons rfl (ext_skip rfl (ext_skip rfl (ext_skip rfl (ext_skip rfl ext_refl))))) (fun _ h => h))
    · have hg8_17a := hg
      refine wl_off rfl rfl rfl rfl rfl hg8_17a rfl ?_
      refine wl_off rfl rfl rfl rfl rfl hg8_17a rfl ?_
      refine wl_off rfl rfl rfl rfl rfl hg8_17a rfl ?_
      refine wl_det rfl rfl (det_and_off (q := (decide (r6_3.1 = r7_3.1))) rfl rfl rfl hg8_17a) rfl ?_
      exact wl_nil (pn_qnE (ext_cons rfl (ext_skip rfl (ext_skip rfl (ext_skip rfl (ext_skip rfl ext_refl))))) (fun _ h => h))
    refine wl_det rfl rfl (det_move rfl) rfl ?_
    refine wl_way ((((decide (r3_3.1 = r4_3.1)) && (decide (r3_3.2.1 = r4_3.2.1))) && (decide (r3_3.2.2 = r4_3.2.2))) && (decide (r6_3.1 = r7_3.1))) (((((decide (r3_3.1 = r4_3.1)) && (decide (r3_3.2.1 = r4_3.2.1))) && (decide (r3_3.2.2 = r4_3.2.2))) && (decide (r6_3.1 = r7_3.1))) && (decide (r6_3.2.1 = r7_3.2.1))) 4 90 (fun hg => ?_) (fun hg => ?_) ?_
    · have hg8_22 := hg
      refine wl_on rfl rfl rfl rfl hg8_22 ?_
      refine wl_det rfl rfl (det_move rfl) rfl ?_
      refine wl_on rfl rfl rfl rfl hg8_22 ?_
      refine wl_det rfl rfl (det_move rfl) rfl ?_
      refine wl_on rfl rfl rfl rfl hg8_22 ?_
      refine wl_det rfl rfl (det_eql rfl rfl) rfl ?_
      refine wl_det rfl rfl (det_and_on rfl rfl rfl hg8_22) rfl ?_
      exact wl_nil (pn_qnE (ext_cons rfl (ext_skip rfl (ext_skip rfl (ext_skip rfl (ext_skip rfl ext_refl))))) (fun _ h => h))
    · have hg8_22a := hg
      refine wl_off rfl rfl rfl rfl rfl hg8_22a rfl ?_
      refine wl_off rfl rfl rfl rfl rfl hg8_22a rfl ?_
      refine wl_off rfl rfl rfl rfl rfl hg8_22a rfl ?_
      refine wl_det rfl rfl (det_and_off (q := (decide (r6_3.2.1 = r7_3.2.1))) rfl rfl rfl hg8_22a) rfl ?_
      exact wl_nil (pn_qnE (ext_cons rfl (ext_skip rfl (ext_skip rfl (ext_skip rfl (ext_skip rfl ext_refl))))) (fun _ h => h))
    refine wl_det rfl rfl (det_move rfl) rfl ?_
    refine wl_way (((((decide (r3_3.1 = r4_3.1)) && (decide (r3_3.2.1 = r4_3.2.1))) && (decide (r3_3.2.2 = r4_3.2.2))) && (decide (r6_3.1 = r7_3.1))) && (decide (r6_3.2.1 = r7_3.2.1))) ((((((decide (r3_3.1 = r4_3.1)) && (decide (r3_3.2.1 = r4_3.2.1))) && (decide (r3_3.2.2 = r4_3.2.2))) && (decide (r6_3.1 = r7_3.1))) && (decide (r6_3.2.1 = r7_3.2.1))) && (decide (r6_3.2.2 = r7_3.2.2))) 4 95 (fun hg => ?_) (fun hg => ?_) ?_
    · have hg8_27 := hg
      refine wl_on rfl rfl rfl rfl hg8_27 ?_
      refine wl_det rfl rfl (det_move rfl) rfl ?_
      refine wl_on rfl rfl rfl rfl hg8_27 ?_
      refine wl_det rfl rfl (det_move rfl) rfl ?_
      refine wl_on rfl rfl rfl rfl hg8_27 ?_
      refine wl_det rfl rfl (det_eql rfl rfl) rfl ?_
      refine wl_det rfl rfl (det_and_on rfl rfl rfl hg8_27) rfl ?_
      exact wl_nil (pn_qnE (ext_cons rfl (ext_skip rfl (ext_skip rfl (ext_skip rfl (ext_skip rfl ext_refl))))) (fun _ h => h))
    · have hg8_27a := hg
      refine wl_off rfl rfl rfl rfl rfl hg8_27a rfl ?_
      refine wl_off rfl rfl rfl rfl rfl hg8_27a rfl ?_
      refine wl_off rfl rfl rfl rfl rfl hg8_27a rfl ?_
      refine wl_det rfl rfl (det_and_off (q := (decide (r6_3.2.2 = r7_3.2.2))) rfl rfl rfl hg8_27a) rfl ?_
      exact wl_nil (pn_qnE (ext_cons rfl (ext_skip rfl (ext_skip rfl (ext_skip rfl (ext_skip rfl ext_refl))))) (fun _ h => h))
    refine wl_det rfl rfl (det_move rfl) rfl ?_
    obtain ⟨q8_30, hq8_30, h⟩ := bind_some h
    have ho8_30 := h
    refine wl_way ((((((decide (r3_3.1 = r4_3.1)) && (decide (r3_3.2.1 = r4_3.2.1))) && (decide (r3_3.2.2 = r4_3.2.2))) && (decide (r6_3.1 = r7_3.1))) && (decide (r6_3.2.1 = r7_3.2.1))) && (decide (r6_3.2.2 = r7_3.2.2))) q8_30 2 98 (fun hg => ?_) (fun hg => ?_) ?_
    · have hg8_30 := hg
      have h := ifT hq8_30 hg
      refine wl_on rfl rfl rfl rfl hg8_30 ?_
      obtain ⟨r8_29, hr8_29, h⟩ := bind_some h
      refine wl_act (act_callS (cap := []) (W_treatylaw23_awake r8_29 hr8_29) rfl rfl rfl bd13 rfl trivial) rfl rfl rfl ?_
      rintro _ _ _ ⟨_, _, ⟨rfl, rfl, rfl⟩, rfl, rfl⟩
      dsimp only [List.nil_append, List.cons_append]
      replace h := Option.some.inj h
      subst h
      refine wl_det rfl rfl (det_pick_on rfl hg8_30 rfl rfl) rfl ?_
      exact wl_nil (pn_qnE (ext_cons rfl (ext_skip rfl (ext_skip rfl ext_refl))) (fun _ h => h))
    · have hg8_30a := hg
      have h := ifF hq8_30 hg
      refine wl_off rfl rfl rfl rfl rfl hg8_30a rfl ?_
      replace h := Option.some.inj h
      subst h
      refine wl_det rfl rfl (det_pick_off rfl hg8_30a rfl rfl) rfl ?_
      exact wl_nil (pn_qnE (ext_cons rfl (ext_skip rfl (ext_skip rfl ext_refl))) (fun _ h => h))
    have h := ho8_30
    refine wl_det rfl rfl (det_assign rfl) rfl ?_
    refine wl_nil ?_
    refine pn_then ?_
    refine wc_ret ?_
    replace h := Option.some.inj h
    subst h
    refine pn_ret (vs := [_]) rfl ⟨rfl, trivial⟩ ⟨rfl, rfl, rfl⟩ (fun _ h => h.to trivial trivial)
end Go.Proofs.Ytoodneljjhbfhaa
