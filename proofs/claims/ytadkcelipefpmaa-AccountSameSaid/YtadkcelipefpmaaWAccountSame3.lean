/- That functions of the program compute the plain programs of P. Written by a small program. -/
import Derived.Test.YtadkcelipefpmaaWAccountSame2
namespace Go.Proofs.Ytadkcelipefpmaa
open Go.RowKit
def Q_treatylaw34_AccountSame (r : Bool) : Value → List Ent → List Fact → Prop := fun v θ κ => v = .bool r ∧ θ = [] ∧ κ = []
theorem plains_treatylaw34_AccountSame {r : Bool} : ∀ v θ κ, Q_treatylaw34_AccountSame r v θ κ → Plains θ := by
  rintro _ _ _ ⟨rfl, rfl, rfl⟩
  exact trivial
set_option maxHeartbeats 4000000 in
set_option maxRecDepth 100000 in
theorem W_treatylaw34_AccountSame (a0 : (List Int)) (a1 : (List Int)) (A0 : Option Addr) (n0 : Nat) (c0 : Nat) (A3 : Option Addr) (n3 : Nat) (c3 : Nat) (r : Bool) (h : treatylaw34_AccountSame a0 a1 = some r) : Spec Try.prog 11 [.slice A0 n0 c0, .slice A3 n3 c3] [] [fV (lSlice (lInt .i64)) (.slice A0 n0 c0) a0, fV (lSlice (lInt .i64)) (.slice A3 n3 c3) a1] (Q_treatylaw34_AccountSame r) := by
  unfold treatylaw34_AccountSame at h
  refine spec_of (σ := [(0, _), (1, _)]) Try.func11 rfl rfl rfl rfl ?_
  intro C
  refine wc_know (fun _ h => h.lenF m0) (fun e => ?_)
  subst e
  refine wc_know (fun _ h => h.lenF (ms m0)) (fun e => ?_)
  subst e
  refine wc_seq ?_
  refine wc_region ?_   -- region 0
  refine wl_det rfl rfl (det_assign rfl) rfl ?_
  refine wl_nil ?_
  refine pn_then ?_
  refine wc_seq ?_
  refine wc_region ?_   -- region 1
  refine wl_det rfl rfl (det_move rfl) rfl ?_
  obtain ⟨r1_1, hr1_1, h⟩ := bind_some h
  refine wl_act (act_callS (cap := []) (W_treatymade2_New a0 A0 a0.length c0 r1_1 hr1_1) rfl rfl rfl bd14 rfl ⟨m0, trivial⟩) rfl rfl rfl ?_
  rintro _ _ _ ⟨_, _, ⟨y1_1b0, y1_1A1, y1_1n1, y1_1c1, rfl, rfl, rfl⟩, rfl, rfl⟩
  dsimp only [List.nil_append, List.cons_append]
  refine wl_know (fun _ h => h.lenF m0) (fun e => ?_)
  subst e
  obtain ⟨r1_2, hr1_2, h⟩ := bind_some h
  refine wl_act (act_callS (cap := []) (W_treatymade2_Ledger r1_1 5 y1_1b0 y1_1A1 r1_1.L.length y1_1c1 r1_2 hr1_2) rfl rfl rfl bd13 ⟨_, r0, rfl⟩ ⟨m0, trivial⟩) rfl rfl rfl ?_
  rintro _ _ _ ⟨_, _, ⟨y1_2A0, y1_2n0, y1_2c0, y1_2A1, y1_2n1, y1_2c1, rfl, rfl, rfl⟩, rfl, rfl⟩
  dsimp only [List.nil_append, List.cons_append]
  refine wl_know (fun _ h => h.lenF m0) (fun e => ?_)
  subst e
  refine wl_know (fun _ h => h.lenF (ms m0)) (fun e => ?_)
  subst e
  refine wl_det rfl rfl (det_move rfl) rfl ?_
  obtain ⟨r1_4, hr1_4, h⟩ := bind_some h
  refine wl_act (act_callS (cap := []) (W_treatymade2_New a1 A3 a1.length c3 r1_4 hr1_4) rfl rfl rfl bd14 rfl ⟨(ms (ms (ms (ms m0)))), trivial⟩) rfl rfl rfl ?_
  rintro _ _ _ ⟨_, _, ⟨y1_4b0, y1_4A1, y1_4n1, y1_4c1, rfl, rfl, rfl⟩, rfl, rfl⟩
  dsimp only [List.nil_append, List.cons_append]
  refine wl_know (fun _ h => h.lenF m0) (fun e => ?_)
  subst e
  obtain ⟨r1_5, hr1_5, h⟩ := bind_some h
  refine wl_act (act_callS (cap := []) (W_treatymade2_Ledger r1_4 5 y1_4b0 y1_4A1 r1_4.L.length y1_4c1 r1_5 hr1_5) rfl rfl rfl bd13 ⟨_, r0, rfl⟩ ⟨m0, trivial⟩) rfl rfl rfl ?_
  rintro _ _ _ ⟨_, _, ⟨y1_5A0, y1_5n0, y1_5c0, y1_5A1, y1_5n1, y1_5c1, rfl, rfl, rfl⟩, rfl, rfl⟩
  dsimp only [List.nil_append, List.cons_append]
  refine wl_know (fun _ h => h.lenF m0) (fun e => ?_)
  subst e
  refine wl_know (fun _ h => h.lenF (ms m0)) (fun e => ?_)
  subst e
  refine wl_act (act_alloc (cs := [_, _]) zr25 rfl) rfl rfl rfl ?_
  rintro _ _ _ ⟨b1_6, rfl, rfl, rfl⟩
  refine wl_act (act_alloc (cs := [_, _]) zr25 rfl) rfl rfl rfl ?_
  rintro _ _ _ ⟨b1_7, rfl, rfl, rfl⟩
  refine wl_act0 (act_store (cells := [_, _]) (cs' := [_, _]) rfl rfl rfl (ss s0) (by rfl) (of_decide_eq_true rfl) sz25 ⟨rfl, rfl, trivial⟩) rfl rfl ?_
  rintro _ _ _ ⟨rfl, rfl⟩
  refine wl_act0 (act_store (cells := [_, _]) (cs' := [_, _]) rfl rfl rfl s0 (by rfl) (of_decide_eq_true rfl) sz25 ⟨rfl, rfl, trivial⟩) rfl rfl ?_
  rintro _ _ _ ⟨rfl, rfl⟩
  refine wl_nil ?_
  refine pn_then ?_
  refine wc_seq ?_
  refine wc_region ?_   -- region 2
  refine wl_det rfl rfl (det_loadN (cells := [_, _]) rfl (ms m0) (by rfl) ag25 sz25) rfl ?_
  refine wl_det rfl rfl (det_loadN (cells := [_, _]) rfl m0 (by rfl) ag25 sz25) rfl ?_
  obtain ⟨r2_2, hr2_2, h⟩ := bind_some h
  refine wl_act (act_callS (cap := []) (W_account_Differences r1_2.1 r1_5.1 y1_2A0 r1_2.1.Postings.length y1_2c0 y1_5A0 r1_5.1.Postings.length y1_5c0 r2_2 hr2_2) rfl rfl rfl bd40 rfl ⟨(ms (ms (ms m0))), ⟨m0, trivial⟩⟩) rfl rfl rfl ?_
  rintro _ _ _ ⟨_, _, ⟨y2_2A0, y2_2n0, y2_2c0, rfl, rfl, rfl⟩, rfl, rfl⟩
  dsimp only [List.nil_append, List.cons_append]
  refine wl_know (fun _ h => h.lenO m0) (fun e => ?_)
  subst e
  refine wl_det rfl rfl (det_move rfl) rfl ?_
  refine wl_det rfl rfl (det_extract rfl rfl) rfl ?_
  refine wl_det rfl rfl (det_extract rfl rfl) rfl ?_
  refine wl_det rfl rfl (det_assign rfl) rfl ?_
  refine wl_det rfl rfl (det_assign rfl) rfl ?_
  refine wl_nil ?_
  refine pn_then ?_
  refine wc_seq ?_
  refine wc_region ?_   -- region 3
  refine wl_det rfl rfl (det_loadN (cells := [_, _]) rfl (ms (ms m0)) (by rfl) ag25 sz25) rfl ?_
  refine wl_det rfl rfl (det_field rfl fd25_0 rfl) rfl ?_
  refine wl_det rfl rfl (det_load rfl (ms (ms m0)) (by rfl) na3 us3) rfl ?_
  refine wl_det rfl rfl (det_add rfl rfl) rfl ?_
  obtain ⟨r3_4, hr3_4, h⟩ := bind_some h
  refine wl_act (act_callS (cap := []) (W_ledger_Totals r1_2.1 (w64 (r1_2.1.Closed + 1)) y1_2A0 r1_2.1.Postings.length y1_2c0 r3_4 hr3_4) rfl rfl rfl bd18 rfl ⟨(ms (ms (ms m0))), trivial⟩) rfl rfl rfl ?_
  rintro _ _ _ ⟨_, _, ⟨y3_4A0, y3_4n0, y3_4c0, rfl, rfl, rfl⟩, rfl, rfl⟩
  dsimp only [List.nil_append, List.cons_append]
  refine wl_know (fun _ h => h.lenO m0) (fun e => ?_)
  subst e
  refine wl_det rfl rfl (det_move rfl) rfl ?_
  refine wl_det rfl rfl (det_extract rfl rfl) rfl ?_
  refine wl_det rfl rfl (det_extract rfl rfl) rfl ?_
  refine wl_det rfl rfl (det_assign rfl) rfl ?_
  refine wl_det rfl rfl (det_assign rfl) rfl ?_
  refine wl_nil ?_
  refine pn_then ?_
  refine wc_seq ?_
  refine wc_region ?_   -- region 4
  refine wl_det rfl rfl (det_loadN (cells := [_, _]) rfl (ms (ms m0)) (by rfl) ag25 sz25) rfl ?_
  refine wl_det rfl rfl (det_field rfl fd25_0 rfl) rfl ?_
  refine wl_det rfl rfl (det_load rfl (ms (ms m0)) (by rfl) na3 us3) rfl ?_
  refine wl_det rfl rfl (det_add rfl rfl) rfl ?_
  obtain ⟨r4_4, hr4_4, h⟩ := bind_some h
  refine wl_act (act_callS (cap := []) (W_ledger_Totals r1_5.1 (w64 (r1_5.1.Closed + 1)) y1_5A0 r1_5.1.Postings.length y1_5c0 r4_4 hr4_4) rfl rfl rfl bd18 rfl ⟨m0, trivial⟩) rfl rfl rfl ?_
  rintro _ _ _ ⟨_, _, ⟨y4_4A0, y4_4n0, y4_4c0, rfl, rfl, rfl⟩, rfl, rfl⟩
  dsimp only [List.nil_append, List.cons_append]
  refine wl_know (fun _ h => h.lenO m0) (fun e => ?_)
  subst e
  refine wl_det rfl rfl (det_move rfl) rfl ?_
  refine wl_det rfl rfl (det_extract rfl rfl) rfl ?_
  refine wl_det rfl rfl (det_extract rfl rfl) rfl ?_
  refine wl_det rfl rfl (det_assign rfl) rfl ?_
  refine wl_det rfl rfl (det_assign rfl) rfl ?_
  refine wl_nil ?_
  refine pn_then ?_
  refine wc_seq ?_
  refine wc_region ?_   -- region 5
  refine wl_det rfl rfl (det_loadN (cells := [_, _]) rfl (ms (ms (ms m0))) (by rfl) ag25 sz25) rfl ?_
  refine wl_det rfl rfl (det_move rfl) rfl ?_
  obtain ⟨r5_2, hr5_2, h⟩ := bind_some h
  refine wl_act (act_callL (cap := []) [eS lGEntry 41 y2_2A0 r2_2.1.length y2_2c0 r2_2.1] (W_ledger_Post r1_5.1 r2_2.1 y1_5A0 r1_5.1.Postings.length y1_5c0 y2_2A0 r2_2.1.length y2_2c0 r5_2 hr5_2) plains_ledger_Post rfl rfl rfl bd32 rfl ⟨(ms (ms m0)), trivial⟩ ⟨.inl m0, ⟨.inr ⟨_, m0, lent_eS⟩, trivial⟩⟩) rfl rfl rfl ?_
  rintro _ _ _ ⟨_, _, ⟨y5_2A0, y5_2n0, y5_2c0, rfl, rfl, rfl⟩, rfl, rfl⟩
  dsimp only [List.nil_append, List.cons_append]
  refine wl_know (fun _ h => h.lenO m0) (fun e => ?_)
  subst e
  refine wl_det rfl rfl (det_move rfl) rfl ?_
  refine wl_det rfl rfl (det_extract rfl rfl) rfl ?_
  refine wl_det rfl rfl (det_extract rfl rfl) rfl ?_
  refine wl_act (act_alloc (cs := [_, _]) zr25 rfl) rfl rfl rfl ?_
  rintro _ _ _ ⟨b5_6, rfl, rfl, rfl⟩
  refine wl_act0 (act_store (cells := [_, _]) (cs' := [_, _]) rfl rfl rfl s0 (by rfl) (of_decide_eq_true rfl) sz25 ⟨rfl, rfl, trivial⟩) rfl rfl ?_
  rintro _ _ _ ⟨rfl, rfl⟩
  refine wl_det rfl rfl (det_assign rfl) rfl ?_
  refine wl_nil ?_
  refine pn_then ?_
  refine wc_seq ?_
  refine wc_region ?_   -- region 6
  refine wl_det rfl rfl (det_loadN (cells := [_, _]) rfl (ms (ms (ms (ms (ms (ms m0)))))) (by rfl) ag25 sz25) rfl ?_
  refine wl_det rfl rfl (det_loadN (cells := [_, _]) rfl m0 (by rfl) ag25 sz25) rfl ?_
  obtain ⟨r6_2, hr6_2, h⟩ := bind_some h
  refine wl_act (act_callL (cap := []) [eS lGPosting 73 y5_2A0 r5_2.1.Postings.length y5_2c0 r5_2.1.Postings] (W_account_Differences r1_2.1 r5_2.1 y1_2A0 r1_2.1.Postings.length y1_2c0 y5_2A0 r5_2.1.Postings.length y5_2c0 r6_2 hr6_2) plains_account_Differences rfl rfl rfl bd40 rfl ⟨(ms m0), trivial⟩ ⟨.inl (ms (ms (ms m0))), ⟨.inr ⟨_, m0, lent_eS⟩, trivial⟩⟩) rfl rfl rfl ?_
  rintro _ _ _ ⟨_, _, ⟨y6_2A0, y6_2n0, y6_2c0, rfl, rfl, rfl⟩, rfl, rfl⟩
  dsimp only [List.nil_append, List.cons_append]
  refine wl_know (fun _ h => h.lenO m0) (fun e => ?_)
  subst e
  refine wl_det rfl rfl (det_move rfl) rfl ?_
  refine wl_det rfl rfl (det_extract rfl rfl) rfl ?_
  refine wl_det rfl rfl (det_extract rfl rfl) rfl ?_
  refine wl_det rfl rfl (det_assign rfl) rfl ?_
  refine wl_det rfl rfl (det_assign rfl) rfl ?_
  refine wl_nil ?_
  refine pn_then ?_
  refine wc_seq ?_
  refine wc_region ?_   -- region 7
  refine wl_det rfl rfl (det_move rfl) rfl ?_
  refine wl_det rfl rfl (det_eql rfl rfl) rfl ?_
  refine wl_det rfl rfl (det_move rfl) rfl ?_
  refine wl_way (decide (r2_2.2 = 0)) ((decide (r2_2.2 = 0)) && (decide (r3_4.2 = 0))) 3 62 (fun hg => ?_) (fun hg => ?_) ?_
  · have hg7_5 := hg
    refine wl_on rfl rfl rfl rfl hg7_5 ?_
    refine wl_det rfl rfl (det_move rfl) rfl ?_
    refine wl_on rfl rfl rfl rfl hg7_5 ?_
    refine wl_det rfl rfl (det_eql rfl rfl) rfl ?_
    refine wl_det rfl rfl (det_and_on rfl rfl rfl hg7_5) rfl ?_
    exact wl_nil (pn_qnE (ext_cons rfl (ext_skip rfl (ext_skip rfl (ext_skip rfl ext_refl)))) (fun _ h => h))
  · have hg7_5a := hg
    refine wl_off rfl rfl rfl rfl rfl hg7_5a rfl ?_
    refine wl_off rfl rfl rfl rfl rfl hg7_5a rfl ?_
    refine wl_det rfl rfl (det_and_off (q := (decide (r3_4.2 = 0))) rfl rfl rfl hg7_5a) rfl ?_
    exact wl_nil (pn_qnE (ext_cons rfl (ext_skip rfl (ext_skip rfl (ext_skip rfl ext_refl)))) (fun _ h => h))
  refine wl_det rfl rfl (det_move rfl) rfl ?_
  refine wl_way ((decide (r2_2.2 = 0)) && (decide (r3_4.2 = 0))) (((decide (r2_2.2 = 0)) && (decide (r3_4.2 = 0))) && (decide (r4_4.2 = 0))) 3 66 (fun hg => ?_) (fun hg => ?_) ?_
  · have hg7_9 := hg
    refine wl_on rfl rfl rfl rfl hg7_9 ?_
    refine wl_det rfl rfl (det_move rfl) rfl ?_
    refine wl_on rfl rfl rfl rfl hg7_9 ?_
    refine wl_det rfl rfl (det_eql rfl rfl) rfl ?_
    refine wl_det rfl rfl (det_and_on rfl rfl rfl hg7_9) rfl ?_
    exact wl_nil (pn_qnE (ext_cons rfl (ext_skip rfl (ext_skip rfl (ext_skip rfl ext_refl)))) (fun _ h => h))
  · have hg7_9a := hg
    refine wl_off rfl rfl rfl rfl rfl hg7_9a rfl ?_
    refine wl_off rfl rfl rfl rfl rfl hg7_9a rfl ?_
    refine wl_det rfl rfl (det_and_off (q := (decide (r4_4.2 = 0))) rfl rfl rfl hg7_9a) rfl ?_
    exact wl_nil (pn_qnE (ext_cons rfl (ext_skip rfl (ext_skip rfl (ext_skip rfl ext_refl)))) (fun _ h => h))
  refine wl_det rfl rfl (det_move rfl) rfl ?_
  refine wl_way (((decide (r2_2.2 = 0)) && (decide (r3_4.2 = 0))) && (decide (r4_4.2 = 0))) ((((decide (r2_2.2 = 0)) && (decide (r3_4.2 = 0))) && (decide (r4_4.2 = 0))) && (decide (r5_2.2 = 0))) 3 70 (fun hg => ?_) (fun hg => ?_) ?_
  · have hg7_13 := hg
    refine wl_on rfl rfl rfl rfl hg7_13 ?_
    refine wl_det rfl rfl (det_move rfl) rfl ?_
    refine wl_on rfl rfl rfl rfl hg7_13 ?_
    refine wl_det rfl rfl (det_eql rfl rfl) rfl ?_
    refine wl_det rfl rfl (det_and_on rfl rfl rfl hg7_13) rfl ?_
    exact wl_nil (pn_qnE (ext_cons rfl (ext_skip rfl (ext_skip rfl (ext_skip rfl ext_refl)))) (fun _ h => h))
  · have hg7_13a := hg
    refine wl_off rfl rfl rfl rfl rfl hg7_13a rfl ?_
    refine wl_off rfl rfl rfl rfl rfl hg7_13a rfl ?_
    refine wl_det rfl rfl (det_and_off (q := (decide (r5_2.2 = 0))) rfl rfl rfl hg7_13a) rfl ?_
    exact wl_nil (pn_qnE (ext_cons rfl (ext_skip rfl (ext_skip rfl (ext_skip rfl ext_refl)))) (fun _ h => h))
  refine wl_det rfl rfl (det_move rfl) rfl ?_
  refine wl_way ((((decide (r2_2.2 = 0)) && (decide (r3_4.2 = 0))) && (decide (r4_4.2 = 0))) && (decide (r5_2.2 = 0))) (((((decide (r2_2.2 = 0)) && (decide (r3_4.2 = 0))) && (decide (r4_4.2 = 0))) && (decide (r5_2.2 = 0))) && (decide (r6_2.2 = 0))) 3 74 (fun hg => ?_) (fun hg => ?_) ?_
  · have hg7_17 := hg
    refine wl_on rfl rfl rfl rfl hg7_17 ?_
    refine wl_det rfl rfl (det_move rfl) rfl ?_
    refine wl_on rfl rfl rfl rfl hg7_17 ?_
    refine wl_det rfl rfl (det_eql rfl rfl) rfl ?_
    refine wl_det rfl rfl (det_and_on rfl rfl rfl hg7_17) rfl ?_
    exact wl_nil (pn_qnE (ext_cons rfl (ext_skip rfl (ext_skip rfl (ext_skip rfl ext_refl)))) (fun _ h => h))
  · have hg7_17a := hg
    refine wl_off rfl rfl rfl rfl rfl hg7_17a rfl ?_
    refine wl_off rfl rfl rfl rfl rfl hg7_17a rfl ?_
    refine wl_det rfl rfl (det_and_off (q := (decide (r6_2.2 = 0))) rfl rfl rfl hg7_17a) rfl ?_
    exact wl_nil (pn_qnE (ext_cons rfl (ext_skip rfl (ext_skip rfl (ext_skip rfl ext_refl)))) (fun _ h => h))
  refine wl_det rfl rfl (det_move rfl) rfl ?_
  refine wl_way (((((decide (r2_2.2 = 0)) && (decide (r3_4.2 = 0))) && (decide (r4_4.2 = 0))) && (decide (r5_2.2 = 0))) && (decide (r6_2.2 = 0))) ((((((decide (r2_2.2 = 0)) && (decide (r3_4.2 = 0))) && (decide (r4_4.2 = 0))) && (decide (r5_2.2 = 0))) && (decide (r6_2.2 = 0))) && (decide ((r6_2.1.length : Int) = 0))) 4 79 (fun hg => ?_) (fun hg => ?_) ?_
  · have hg7_22 := hg
    refine wl_on rfl rfl rfl rfl hg7_22 ?_
    refine wl_det rfl rfl (det_move rfl) rfl ?_
    refine wl_on rfl rfl rfl rfl hg7_22 ?_
    refine wl_det rfl rfl (det_len rfl un37) rfl ?_
    refine wl_on rfl rfl rfl rfl hg7_22 ?_
    refine wl_det rfl rfl (det_eql rfl rfl) rfl ?_
    refine wl_det rfl rfl (det_and_on rfl rfl rfl hg7_22) rfl ?_
    exact wl_nil (pn_qnE (ext_cons rfl (ext_skip rfl (ext_skip rfl (ext_skip rfl (ext_skip rfl ext_refl))))) (fun _ h => h))
  · have hg7_22a := hg
    refine wl_off rfl rfl rfl rfl rfl hg7_22a rfl ?_
    refine wl_off rfl rfl rfl rfl rfl hg7_22a rfl ?_
    refine wl_off rfl rfl rfl rfl rfl hg7_22a rfl ?_
    refine wl_det rfl rfl (det_and_off (q := (decide ((r6_2.1.length : Int) = 0))) rfl rfl rfl hg7_22a) rfl ?_
    exact wl_nil (pn_qnE (ext_cons rfl (ext_skip rfl (ext_skip rfl (ext_skip rfl (ext_skip rfl ext_refl))))) (fun _ h => h))
  refine wl_det rfl rfl (det_move rfl) rfl ?_
  obtain ⟨q7_31, hq7_31, h⟩ := bind_some h
  have ho7_31 := h
  refine wl_way ((((((decide (r2_2.2 = 0)) && (decide (r3_4.2 = 0))) && (decide (r4_4.2 = 0))) && (decide (r5_2.2 = 0))) && (decide (r6_2.2 = 0))) && (decide ((r6_2.1.length : Int) = 0))) q7_31 8 88 (fun hg => ?_) (fun hg => ?_) ?_
  · have hg7_31 := hg
    have h := ifT hq7_31 hg
    refine wl_on rfl rfl rfl rfl hg7_31 ?_
    refine wl_det rfl rfl (det_move rfl) rfl ?_
    refine wl_on rfl rfl rfl rfl hg7_31 ?_
    refine wl_det rfl rfl (det_len rfl un37) rfl ?_
    refine wl_on rfl rfl rfl rfl hg7_31 ?_
    refine wl_det rfl rfl (det_eql rfl rfl) rfl ?_
    refine wl_on rfl rfl rfl rfl hg7_31 ?_
    refine wl_det rfl rfl (det_move rfl) rfl ?_
    refine wl_on rfl rfl rfl rfl hg7_31 ?_
    refine wl_det rfl rfl (det_move rfl) rfl ?_
    refine wl_on rfl rfl rfl rfl hg7_31 ?_
    obtain ⟨r7_29, hr7_29, h⟩ := bind_some h
    refine wl_act (act_callL (cap := []) [eS lGEntry 41 y3_4A0 r3_4.1.length y3_4c0 r3_4.1, eS lGEntry 41 y4_4A0 r4_4.1.length y4_4c0 r4_4.1] (W_treatyref33_SameEntries r3_4.1 r4_4.1 y3_4A0 r3_4.1.length y3_4c0 y4_4A0 r4_4.1.length y4_4c0 r7_29 hr7_29) plains_treatyref33_SameEntries rfl rfl rfl bd28 rfl ⟨(ms (ms (ms (ms m0)))), ⟨(ms (ms (ms m0))), trivial⟩⟩ ⟨.inr ⟨_, m0, lent_eS⟩, ⟨.inr ⟨_, (ms m0), lent_eS⟩, trivial⟩⟩) rfl rfl rfl ?_
    rintro _ _ _ ⟨_, _, ⟨rfl, rfl, rfl⟩, rfl, rfl⟩
    dsimp only [List.nil_append, List.cons_append]
    refine wl_on rfl rfl rfl rfl hg7_31 ?_
    refine wl_det rfl rfl (det_beql rfl rfl un4) rfl ?_
    replace h := Option.some.inj h
    subst h
    refine wl_det rfl rfl (det_pick_on rfl hg7_31 rfl rfl) rfl ?_
    exact wl_nil (pn_qnE (ext_cons rfl (ext_skip rfl (ext_skip rfl (ext_skip rfl (ext_skip rfl (ext_skip rfl (ext_skip rfl (ext_skip rfl (ext_skip rfl ext_refl))))))))) (fun _ h => h))
  · have hg7_31a := hg
    have h := ifF hq7_31 hg
    refine wl_off rfl rfl rfl rfl rfl hg7_31a rfl ?_
    refine wl_off rfl rfl rfl rfl rfl hg7_31a rfl ?_
    refine wl_off rfl rfl rfl rfl rfl hg7_31a rfl ?_
    refine wl_off rfl rfl rfl rfl rfl hg7_31a rfl ?_
    refine wl_off rfl rfl rfl rfl rfl hg7_31a rfl ?_
    refine wl_off rfl rfl rfl rfl rfl hg7_31a rfl ?_
    refine wl_off rfl rfl rfl rfl rfl hg7_31a rfl ?_
    replace h := Option.some.inj h
    subst h
    refine wl_det rfl rfl (det_pick_off rfl hg7_31a rfl rfl) rfl ?_
    exact wl_nil (pn_qnE (ext_cons rfl (ext_skip rfl (ext_skip rfl (ext_skip rfl (ext_skip rfl (ext_skip rfl (ext_skip rfl (ext_skip rfl (ext_skip rfl ext_refl))))))))) (fun _ h => h))
  have h := ho7_31
  refine wl_det rfl rfl (det_move rfl) rfl ?_
  obtain ⟨q7_34, hq7_34, h⟩ := bind_some h
  have ho7_34 := h
  refine wl_way q7_31 q7_34 2 91 (fun hg => ?_) (fun hg => ?_) ?_
  · have hg7_34 := hg
    have h := ifT hq7_34 hg
    refine wl_on rfl rfl rfl rfl hg7_34 ?_
    obtain ⟨r7_33, hr7_33, h⟩ := bind_some h
    refine wl_act (act_callS (cap := []) (W_treatylaw34_awake r7_33 hr7_33) rfl rfl rfl bd19 rfl trivial) rfl rfl rfl ?_
    rintro _ _ _ ⟨_, _, ⟨rfl, rfl, rfl⟩, rfl, rfl⟩
    dsimp only [List.nil_append, List.cons_append]
    replace h := Option.some.inj h
    subst h
    refine wl_det rfl rfl (det_pick_on rfl hg7_34 rfl rfl) rfl ?_
    exact wl_nil (pn_qnE (ext_cons rfl (ext_skip rfl (ext_skip rfl ext_refl))) (fun _ h => h))
  · have hg7_34a := hg
    have h := ifF hq7_34 hg
    refine wl_off rfl rfl rfl rfl rfl hg7_34a rfl ?_
    replace h := Option.some.inj h
    subst h
    refine wl_det rfl rfl (det_pick_off rfl hg7_34a rfl rfl) rfl ?_
    exact wl_nil (pn_qnE (ext_cons rfl (ext_skip rfl (ext_skip rfl ext_refl))) (fun _ h => h))
  have h := ho7_34
  refine wl_det rfl rfl (det_assign rfl) rfl ?_
  refine wl_nil ?_
  refine pn_then ?_
  refine wc_ret ?_
  replace h := Option.some.inj h
  subst h
  refine pn_ret (vs := [_]) rfl ⟨rfl, trivial⟩ ⟨rfl, rfl, rfl⟩ (fun _ h => h.to trivial trivial)
end Go.Proofs.Ytadkcelipefpmaa
