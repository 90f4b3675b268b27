/- That functions of the program compute the plain programs of P. Written by a small program. -/
import Derived.Test.YtadkcelipefpmaaWLedgerClose2
namespace Go.Proofs.Ytadkcelipefpmaa
open Go.RowKit
def Q_treatylaw33_LedgerClose (r : Bool) : Value → List Ent → List Fact → Prop := fun v θ κ => v = .bool r ∧ θ = [] ∧ κ = []
theorem plains_treatylaw33_LedgerClose {r : Bool} : ∀ v θ κ, Q_treatylaw33_LedgerClose r v θ κ → Plains θ := by
  rintro _ _ _ ⟨rfl, rfl, rfl⟩
  exact trivial
set_option maxHeartbeats 4000000 in
set_option maxRecDepth 100000 in
theorem W_treatylaw33_LedgerClose (a0 : (List Int)) (a1 : (List Int)) (a2 : Int) (a3 : Int) (A0 : Option Addr) (n0 : Nat) (c0 : Nat) (A3 : Option Addr) (n3 : Nat) (c3 : Nat) (r : Bool) (h : treatylaw33_LedgerClose a0 a1 a2 a3 = some r) : Spec Try.prog 7 [.slice A0 n0 c0, .slice A3 n3 c3, .int .i64 a2, .int .i64 a3] [] [fV (lSlice (lInt .i64)) (.slice A0 n0 c0) a0, fV (lSlice (lInt .i64)) (.slice A3 n3 c3) a1] (Q_treatylaw33_LedgerClose r) := by
  unfold treatylaw33_LedgerClose at h
  refine spec_of (σ := [(0, _), (1, _), (2, _), (3, _)]) Try.func7 rfl rfl rfl rfl ?_
  intro C
  refine wc_know (fun _ h => h.lenF m0) (fun e => ?_)
  subst e
  refine wc_know (fun _ h => h.lenF (ms m0)) (fun e => ?_)
  subst e
  refine wc_seq ?_
  refine wc_region ?_   -- region 0
  refine wl_det rfl rfl (det_assign rfl) rfl ?_
  refine wl_nil ?_
  refine pn_then ?_
  refine wc_seq ?_
  refine wc_region ?_   -- region 1
  refine wl_det rfl rfl (det_move rfl) rfl ?_
  refine wl_det rfl rfl (det_move rfl) rfl ?_
  refine wl_det rfl rfl (det_move rfl) rfl ?_
  obtain ⟨r1_3, hr1_3, h⟩ := bind_some h
  refine wl_act (act_callS (cap := []) (W_treatylaw33_few a0 a2 a3 A0 a0.length c0 r1_3 hr1_3) rfl rfl rfl bd21 rfl ⟨m0, trivial⟩) rfl rfl rfl ?_
  rintro _ _ _ ⟨_, _, ⟨y1_3A0, y1_3n0, y1_3c0, y1_3A1, y1_3n1, y1_3c1, rfl, rfl, rfl⟩, rfl, rfl⟩
  dsimp only [List.nil_append, List.cons_append]
  refine wl_know (fun _ h => h.lenF m0) (fun e => ?_)
  subst e
  refine wl_know (fun _ h => h.lenO m0) (fun e => ?_)
  subst e
  refine wl_det rfl rfl (det_move rfl) rfl ?_
  refine wl_det rfl rfl (det_extract rfl rfl) rfl ?_
  refine wl_det rfl rfl (det_extract rfl rfl) rfl ?_
  refine wl_act (act_alloc (cs := [_, _]) zr25 rfl) rfl rfl rfl ?_
  rintro _ _ _ ⟨b1_7, rfl, rfl, rfl⟩
  refine wl_act (act_alloc (cs := [_, _]) zr25 rfl) rfl rfl rfl ?_
  rintro _ _ _ ⟨b1_8, rfl, rfl, rfl⟩
  refine wl_act0 (act_store (cells := [_, _]) (cs' := [_, _]) rfl rfl rfl (ss s0) (by rfl) (of_decide_eq_true rfl) sz25 ⟨rfl, rfl, trivial⟩) rfl rfl ?_
  rintro _ _ _ ⟨rfl, rfl⟩
  refine wl_act0 (act_store (cells := [_, _]) (cs' := [_, _]) rfl rfl rfl s0 (by rfl) (of_decide_eq_true rfl) sz25 ⟨rfl, rfl, trivial⟩) rfl rfl ?_
  rintro _ _ _ ⟨rfl, rfl⟩
  refine wl_nil ?_
  refine pn_then ?_
  refine wc_seq ?_
  refine wc_region ?_   -- region 2
  refine wl_det rfl rfl (det_loadN (cells := [_, _]) rfl (ms m0) (by rfl) ag25 sz25) rfl ?_
  obtain ⟨r2_1, hr2_1, h⟩ := bind_some h
  refine wl_act (act_callS (cap := []) (W_ledger_Close r1_3.1 y1_3A0 r1_3.1.Postings.length y1_3c0 r2_1 hr2_1) rfl rfl rfl bd30 rfl ⟨m0, trivial⟩) rfl rfl rfl ?_
  rintro _ _ _ ⟨_, _, ⟨y2_1A0, y2_1n0, y2_1c0, rfl, rfl, rfl⟩, rfl, rfl⟩
  dsimp only [List.nil_append, List.cons_append]
  refine wl_know (fun _ h => h.lenO m0) (fun e => ?_)
  subst e
  refine wl_det rfl rfl (det_move rfl) rfl ?_
  refine wl_det rfl rfl (det_extract rfl rfl) rfl ?_
  refine wl_det rfl rfl (det_extract rfl rfl) rfl ?_
  refine wl_act (act_alloc (cs := [_, _]) zr25 rfl) rfl rfl rfl ?_
  rintro _ _ _ ⟨b2_5, rfl, rfl, rfl⟩
  refine wl_act0 (act_store (cells := [_, _]) (cs' := [_, _]) rfl rfl rfl s0 (by rfl) (of_decide_eq_true rfl) sz25 ⟨rfl, rfl, trivial⟩) rfl rfl ?_
  rintro _ _ _ ⟨rfl, rfl⟩
  refine wl_det rfl rfl (det_assign rfl) rfl ?_
  refine wl_nil ?_
  refine pn_then ?_
  refine wc_seq ?_
  refine wc_region ?_   -- region 3
  refine wl_det rfl rfl (det_loadN (cells := [_, _]) rfl (ms (ms (ms m0))) (by rfl) ag25 sz25) rfl ?_
  obtain ⟨r3_1, hr3_1, h⟩ := bind_some h
  refine wl_act (act_callS (cap := []) (W_treatyref33_Close r1_3.1 y1_3A0 r1_3.1.Postings.length y1_3c0 r3_1 hr3_1) rfl rfl rfl bd31 rfl ⟨m0, trivial⟩) rfl rfl rfl ?_
  rintro _ _ _ ⟨_, _, ⟨y3_1A0, y3_1n0, y3_1c0, rfl, rfl, rfl⟩, rfl, rfl⟩
  dsimp only [List.nil_append, List.cons_append]
  refine wl_know (fun _ h => h.lenO m0) (fun e => ?_)
  subst e
  refine wl_det rfl rfl (det_move rfl) rfl ?_
  refine wl_det rfl rfl (det_extract rfl rfl) rfl ?_
  refine wl_det rfl rfl (det_extract rfl rfl) rfl ?_
  refine wl_act (act_alloc (cs := [_, _]) zr25 rfl) rfl rfl rfl ?_
  rintro _ _ _ ⟨b3_5, rfl, rfl, rfl⟩
  refine wl_act0 (act_store (cells := [_, _]) (cs' := [_, _]) rfl rfl rfl s0 (by rfl) (of_decide_eq_true rfl) sz25 ⟨rfl, rfl, trivial⟩) rfl rfl ?_
  rintro _ _ _ ⟨rfl, rfl⟩
  refine wl_det rfl rfl (det_assign rfl) rfl ?_
  refine wl_nil ?_
  refine pn_then ?_
  refine wc_seq ?_
  refine wc_region ?_   -- region 4
  refine wl_det rfl rfl (det_loadN (cells := [_, _]) rfl (ms (ms (ms (ms m0)))) (by rfl) ag25 sz25) rfl ?_
  obtain ⟨r4_1, hr4_1, h⟩ := bind_some h
  refine wl_act (act_callL (cap := []) [eS lGPosting 73 y1_3A1 r1_3.2.Postings.length y1_3c1 r1_3.2.Postings] (W_ledger_Close r1_3.2 y1_3A1 r1_3.2.Postings.length y1_3c1 r4_1 hr4_1) plains_ledger_Close rfl rfl rfl bd30 rfl ⟨(ms (ms (ms (ms (ms (ms m0)))))), trivial⟩ ⟨.inr ⟨_, m0, lent_eS⟩, trivial⟩) rfl rfl rfl ?_
  rintro _ _ _ ⟨_, _, ⟨y4_1A0, y4_1n0, y4_1c0, rfl, rfl, rfl⟩, rfl, rfl⟩
  dsimp only [List.nil_append, List.cons_append]
  refine wl_know (fun _ h => h.lenO m0) (fun e => ?_)
  subst e
  refine wl_det rfl rfl (det_move rfl) rfl ?_
  refine wl_det rfl rfl (det_extract rfl rfl) rfl ?_
  refine wl_det rfl rfl (det_extract rfl rfl) rfl ?_
  refine wl_act (act_alloc (cs := [_, _]) zr25 rfl) rfl rfl rfl ?_
  rintro _ _ _ ⟨b4_5, rfl, rfl, rfl⟩
  refine wl_act0 (act_store (cells := [_, _]) (cs' := [_, _]) rfl rfl rfl s0 (by rfl) (of_decide_eq_true rfl) sz25 ⟨rfl, rfl, trivial⟩) rfl rfl ?_
  rintro _ _ _ ⟨rfl, rfl⟩
  refine wl_det rfl rfl (det_assign rfl) rfl ?_
  refine wl_nil ?_
  refine pn_then ?_
  refine wc_seq ?_
  refine wc_region ?_   -- region 5
  refine wl_det rfl rfl (det_loadN (cells := [_, _]) rfl (ms (ms (ms (ms (ms (ms m0)))))) (by rfl) ag25 sz25) rfl ?_
  obtain ⟨r5_1, hr5_1, h⟩ := bind_some h
  refine wl_act (act_callL (cap := []) [eS lGPosting 73 y1_3A1 r1_3.2.Postings.length y1_3c1 r1_3.2.Postings] (W_treatyref33_Close r1_3.2 y1_3A1 r1_3.2.Postings.length y1_3c1 r5_1 hr5_1) plains_treatyref33_Close rfl rfl rfl bd31 rfl ⟨(ms (ms (ms (ms (ms (ms (ms (ms m0)))))))), trivial⟩ ⟨.inr ⟨_, m0, lent_eS⟩, trivial⟩) rfl rfl rfl ?_
  rintro _ _ _ ⟨_, _, ⟨y5_1A0, y5_1n0, y5_1c0, rfl, rfl, rfl⟩, rfl, rfl⟩
  dsimp only [List.nil_append, List.cons_append]
  refine wl_know (fun _ h => h.lenO m0) (fun e => ?_)
  subst e
  refine wl_det rfl rfl (det_move rfl) rfl ?_
  refine wl_det rfl rfl (det_extract rfl rfl) rfl ?_
  refine wl_det rfl rfl (det_extract rfl rfl) rfl ?_
  refine wl_act (act_alloc (cs := [_, _]) zr25 rfl) rfl rfl rfl ?_
  rintro _ _ _ ⟨b5_5, rfl, rfl, rfl⟩
  refine wl_act0 (act_store (cells := [_, _]) (cs' := [_, _]) rfl rfl rfl s0 (by rfl) (of_decide_eq_true rfl) sz25 ⟨rfl, rfl, trivial⟩) rfl rfl ?_
  rintro _ _ _ ⟨rfl, rfl⟩
  refine wl_det rfl rfl (det_assign rfl) rfl ?_
  refine wl_nil ?_
  refine pn_then ?_
  refine wc_seq ?_
  refine wc_region ?_   -- region 6
  refine wl_det rfl rfl (det_field rfl fd25_0 rfl) rfl ?_
  refine wl_act0 (act_store (cells := [_]) (cs' := [_, _]) rfl rfl rfl (ss (ss (ss (ss (ss (ss (ss (ss (ss s0))))))))) (by rfl) (of_decide_eq_true rfl) sz3 ⟨rfl, trivial⟩) rfl rfl ?_
  rintro _ _ _ ⟨rfl, rfl⟩
  refine wl_nil ?_
  refine pn_then ?_
  refine wc_seq ?_
  refine wc_region ?_   -- region 7
  refine wl_det rfl rfl (det_loadN (cells := [_, _]) rfl (ms (ms (ms (ms (ms (ms (ms (ms (ms m0))))))))) (by rfl) ag25 sz25) rfl ?_
  obtain ⟨r7_1, hr7_1, h⟩ := bind_some h
  refine wl_act (act_callS (cap := []) (W_ledger_Close (GLedger.mk 100 r1_3.1.Postings) y1_3A0 r1_3.1.Postings.length y1_3c0 r7_1 hr7_1) rfl rfl rfl bd30 rfl ⟨m0, trivial⟩) rfl rfl rfl ?_
  rintro _ _ _ ⟨_, _, ⟨y7_1A0, y7_1n0, y7_1c0, rfl, rfl, rfl⟩, rfl, rfl⟩
  dsimp only [List.nil_append, List.cons_append]
  refine wl_know (fun _ h => h.lenO m0) (fun e => ?_)
  subst e
  refine wl_det rfl rfl (det_move rfl) rfl ?_
  refine wl_det rfl rfl (det_extract rfl rfl) rfl ?_
  refine wl_det rfl rfl (det_extract rfl rfl) rfl ?_
  refine wl_act (act_alloc (cs := [_, _]) zr25 rfl) rfl rfl rfl ?_
  rintro _ _ _ ⟨b7_5, rfl, rfl, rfl⟩
  refine wl_act0 (act_store (cells := [_, _]) (cs' := [_, _]) rfl rfl rfl s0 (by rfl) (of_decide_eq_true rfl) sz25 ⟨rfl, rfl, trivial⟩) rfl rfl ?_
  rintro _ _ _ ⟨rfl, rfl⟩
  refine wl_det rfl rfl (det_assign rfl) rfl ?_
  refine wl_nil ?_
  refine pn_then ?_
  obtain ⟨q16, h, ho16⟩ := bind_some h
  refine wc_meetG (G := Int × Unit) (fun (s16, _) => s16 = q16) (fun (s16, _) => [(11, .pointer (some ⟨b2_5, 0, none⟩)), (12, .int .i64 r2_1.2), (13, .pointer (some ⟨b3_5, 0, none⟩)), (14, .int .i64 r3_1.2), (15, .pointer (some ⟨b4_5, 0, none⟩)), (16, .int .i64 r4_1.2), (17, .pointer (some ⟨b5_5, 0, none⟩)), (18, .int .i64 r5_1.2), (20, .int .i64 r7_1.2), (22, .int .i64 s16)]) (fun (_, _) => [eBlk b2_5 25 [.int .i64 r2_1.1.Closed, .slice y2_1A0 r2_1.1.Postings.length y2_1c0], eS lGPosting 73 y2_1A0 r2_1.1.Postings.length y2_1c0 r2_1.1.Postings, eBlk b3_5 25 [.int .i64 r3_1.1.Closed, .slice y3_1A0 r3_1.1.Postings.length y3_1c0], eS lGPosting 73 y3_1A0 r3_1.1.Postings.length y3_1c0 r3_1.1.Postings, eBlk b4_5 25 [.int .i64 r4_1.1.Closed, .slice y4_1A0 r4_1.1.Postings.length y4_1c0], eS lGPosting 73 y4_1A0 r4_1.1.Postings.length y4_1c0 r4_1.1.Postings, eBlk b5_5 25 [.int .i64 r5_1.1.Closed, .slice y5_1A0 r5_1.1.Postings.length y5_1c0], eS lGPosting 73 y5_1A0 r5_1.1.Postings.length y5_1c0 r5_1.1.Postings]) (fun (_, _) => []) ?_ ?_
  · refine dx_regionZ (Z := St C [_, _, _, _, _, _, _, _, _, _, _, _, _] [_, _, _]) 10 [[], [], [1], [1, 2], [0, 1, 2, 3], [0, 1, 2, 3, 4], [0, 1, 2, 3, 4, 5], [0, 1, 2, 3, 4, 5], [], [0, 1, 2, 3, 4, 5, 6, 8], [0, 1, 2, 3, 4, 5, 6, 7, 8, 9]] mixed (ord := (.det 0 (.det 1 (.alt 2 (.alt 3 (.alt 4 (.det 5 (.det 6 (.det 7 (.alt 8 (.alt 9 .done .dead) .dead)))) (.alt 8 (.alt 4 (.det 5 (.det 6 (.det 7 (.alt 9 .done .dead)))) .dead) .dead)) (.alt 8 (.alt 3 (.alt 4 (.det 5 (.det 6 (.det 7 (.alt 9 .done .dead)))) .dead) .dead) .dead)) (.alt 8 (.alt 2 (.alt 3 (.alt 4 (.det 5 (.det 6 (.det 7 (.alt 9 .done .dead)))) .dead) .dead) .dead) .dead))))) (by kernel_rfl) (fun _ h => h.to ⟨_, r0, ⟨_, r0, ⟨_, r0, ⟨_, r0, ⟨_, r0, ⟨_, r0, ⟨_, r0, ⟨_, r0, ⟨_, r0, ⟨_, r0, ⟨_, r0, ⟨_, r0, ⟨_, r0, trivial⟩⟩⟩⟩⟩⟩⟩⟩⟩⟩⟩⟩⟩ ⟨m0, ⟨(ms m0), ⟨(ms (ms m0)), trivial⟩⟩⟩) ?_   -- region 8
    refine hx_det rfl rfl rfl nofun (det_loadN (cells := [_, _]) rfl (ms (ms (ms (ms (ms (ms (ms (ms (ms (ms (ms m0))))))))))) (by rfl) ag25 sz25) rfl ?_
    refine hx_det rfl rfl rfl nofun (det_move rfl) rfl ?_
    refine hx_or ?_ ?_
    · obtain ⟨r8_2, hr8_2, h⟩ := bind_some h
      refine hx_mut rfl rfl rfl (act_callS (cap := []) (W_treatymade2_New a1 A3 a1.length c3 r8_2 hr8_2) rfl rfl rfl bd14 rfl ⟨(ms (ms m0)), trivial⟩) rfl (by rintro _ _ _ ⟨_, _, ⟨y8_2b0, y8_2A1, y8_2n1, y8_2c1, rfl, rfl, rfl⟩, rfl, rfl⟩ w hs; exact hs.to ⟨_, (rs r0), ⟨_, (rs r0), ⟨_, (rs r0), ⟨_, (rs r0), ⟨_, (rs r0), ⟨_, (rs r0), ⟨_, (rs r0), ⟨_, (rs r0), ⟨_, (rs r0), ⟨_, (rs r0), ⟨_, (rs r0), ⟨_, (rs r0), ⟨_, (rs r0), trivial⟩⟩⟩⟩⟩⟩⟩⟩⟩⟩⟩⟩⟩ ⟨(ms m0), ⟨(ms (ms m0)), ⟨(ms (ms (ms m0))), trivial⟩⟩⟩) ?_
      rintro _ _ _ ⟨_, _, ⟨y8_2b0, y8_2A1, y8_2n1, y8_2c1, rfl, rfl, rfl⟩, rfl, rfl⟩
      dsimp only [List.nil_append, List.cons_append]
      refine hx_or ?_ ?_
      · obtain ⟨r8_3, hr8_3, h⟩ := bind_some h
        refine hx_mut rfl rfl rfl (act_callS (cap := []) (W_treatymade2_Entries r8_2 3 y8_2b0 y8_2A1 y8_2n1 y8_2c1 r8_3 hr8_3) rfl rfl rfl bd25 ⟨_, r0, rfl⟩ ⟨m0, trivial⟩) rfl (by rintro _ _ _ ⟨_, _, ⟨y8_3A0, y8_3n0, y8_3c0, y8_3A1, y8_3n1, y8_3c1, rfl, rfl, rfl⟩, rfl, rfl⟩ w hs; exact hs.to ⟨_, (rs (rs r0)), ⟨_, (rs (rs r0)), ⟨_, (rs (rs r0)), ⟨_, (rs (rs r0)), ⟨_, (rs (rs r0)), ⟨_, (rs (rs r0)), ⟨_, (rs (rs r0)), ⟨_, (rs (rs r0)), ⟨_, (rs (rs r0)), ⟨_, (rs (rs r0)), ⟨_, (rs (rs r0)), ⟨_, (rs (rs r0)), ⟨_, (rs (rs r0)), trivial⟩⟩⟩⟩⟩⟩⟩⟩⟩⟩⟩⟩⟩ ⟨(ms (ms m0)), ⟨(ms (ms (ms m0))), ⟨(ms (ms (ms (ms m0)))), trivial⟩⟩⟩) ?_
        rintro _ _ _ ⟨_, _, ⟨y8_3A0, y8_3n0, y8_3c0, y8_3A1, y8_3n1, y8_3c1, rfl, rfl, rfl⟩, rfl, rfl⟩
        dsimp only [List.nil_append, List.cons_append]
        refine hx_or ?_ ?_
        · obtain ⟨r8_4, hr8_4, h⟩ := bind_some h
          refine hx_mut rfl rfl rfl (act_callL (cap := []) [eS lGEntry 41 y8_3A0 y8_3n0 y8_3c0 r8_3.1] (W_ledger_Post (GLedger.mk 100 r1_3.1.Postings) r8_3.1 y1_3A0 r1_3.1.Postings.length y1_3c0 y8_3A0 y8_3n0 y8_3c0 r8_4 hr8_4) plains_ledger_Post rfl rfl rfl bd32 rfl ⟨m0, trivial⟩ ⟨.inl (ms (ms m0)), ⟨.inr ⟨_, m0, lent_eS⟩, trivial⟩⟩) rfl (by rintro _ _ _ ⟨_, _, ⟨y8_4A0, y8_4n0, y8_4c0, rfl, rfl, rfl⟩, rfl, rfl⟩ w hs; exact hs.to ⟨_, (rs (rs (rs r0))), ⟨_, (rs (rs (rs r0))), ⟨_, (rs (rs (rs r0))), ⟨_, (rs (rs (rs r0))), ⟨_, (rs (rs (rs r0))), ⟨_, (rs (rs (rs r0))), ⟨_, (rs (rs (rs r0))), ⟨_, (rs (rs (rs r0))), ⟨_, (rs (rs (rs r0))), ⟨_, (rs (rs (rs r0))), ⟨_, (rs (rs (rs r0))), ⟨_, (rs (rs (rs r0))), ⟨_, (rs (rs (rs r0))), trivial⟩⟩⟩⟩⟩⟩⟩⟩⟩⟩⟩⟩⟩ ⟨(ms (ms m0)), ⟨(ms (ms (ms m0))), ⟨(ms (ms (ms (ms m0)))), trivial⟩⟩⟩) ?_
          rintro _ _ _ ⟨_, _, ⟨y8_4A0, y8_4n0, y8_4c0, rfl, rfl, rfl⟩, rfl, rfl⟩
          dsimp only [List.nil_append, List.cons_append]
          refine hx_det rfl rfl rfl nofun (det_move rfl) rfl ?_
          refine hx_det rfl rfl rfl nofun (det_extract rfl rfl) rfl ?_
          refine hx_det rfl rfl rfl nofun (det_extract rfl rfl) rfl ?_
          refine hx_mut rfl rfl rfl (act_alloc (cs := [_, _]) zr25 rfl) rfl (by rintro _ _ _ ⟨b8_8, rfl, rfl, rfl⟩ w hs; exact hs.to ⟨_, (rs (rs (rs (rs r0)))), ⟨_, (rs (rs (rs (rs r0)))), ⟨_, (rs (rs (rs (rs r0)))), ⟨_, (rs (rs (rs (rs r0)))), ⟨_, (rs (rs (rs (rs r0)))), ⟨_, (rs (rs (rs (rs r0)))), ⟨_, (rs (rs (rs (rs r0)))), ⟨_, (rs (rs (rs (rs r0)))), ⟨_, (rs (rs (rs (rs r0)))), ⟨_, (rs (rs (rs (rs r0)))), ⟨_, (rs (rs (rs (rs r0)))), ⟨_, (rs (rs (rs (rs r0)))), ⟨_, (rs (rs (rs (rs r0)))), trivial⟩⟩⟩⟩⟩⟩⟩⟩⟩⟩⟩⟩⟩ ⟨(ms (ms m0)), ⟨(ms (ms (ms m0))), ⟨(ms (ms (ms (ms m0)))), trivial⟩⟩⟩) ?_
          rintro _ _ _ ⟨b8_8, rfl, rfl, rfl⟩
          refine hx_mut0 rfl rfl rfl (act_store (cells := [_, _]) (cs' := [_, _]) rfl rfl rfl s0 (by rfl) (of_decide_eq_true rfl) sz25 ⟨rfl, rfl, trivial⟩) (by rintro _ _ _ ⟨rfl, rfl⟩ w hs; exact hs.to ⟨_, (rs (rs (rs (rs r0)))), ⟨_, (rs (rs (rs (rs r0)))), ⟨_, (rs (rs (rs (rs r0)))), ⟨_, (rs (rs (rs (rs r0)))), ⟨_, (rs (rs (rs (rs r0)))), ⟨_, (rs (rs (rs (rs r0)))), ⟨_, (rs (rs (rs (rs r0)))), ⟨_, (rs (rs (rs (rs r0)))), ⟨_, (rs (rs (rs (rs r0)))), ⟨_, (rs (rs (rs (rs r0)))), ⟨_, (rs (rs (rs (rs r0)))), ⟨_, (rs (rs (rs (rs r0)))), ⟨_, (rs (rs (rs (rs r0)))), trivial⟩⟩⟩⟩⟩⟩⟩⟩⟩⟩⟩⟩⟩ ⟨(ms (ms m0)), ⟨(ms (ms (ms m0))), ⟨(ms (ms (ms (ms m0)))), trivial⟩⟩⟩) ?_
          rintro _ _ _ ⟨rfl, rfl⟩
          refine hx_end ?_
          refine wl_know (fun _ h => h.lenF (ms m0)) (fun e => ?_)
          subst e
          refine wl_know (fun _ h => h.lenO (ms (ms m0))) (fun e => ?_)
          subst e
          refine wl_know (fun _ h => h.lenF m0) (fun e => ?_)
          subst e
          refine wl_know (fun _ h => h.lenO (ms m0)) (fun e => ?_)
          subst e
          refine wl_det rfl rfl (det_assign rfl) rfl ?_
          refine wl_nil ?_
          replace h := Option.some.inj h
          subst h
          exact pn_meetG (r8_4.2, ()) rfl ⟨rfl, rfl, rfl, rfl, rfl, rfl, rfl, rfl, rfl, rfl, trivial⟩ (fun _ h => h.to ⟨_, (rs (rs (rs (rs (rs (rs (rs (rs (rs (rs (rs (rs r0)))))))))))), ⟨_, (rs (rs (rs (rs (rs (rs (rs (rs (rs (rs (rs (rs r0)))))))))))), ⟨_, (rs (rs (rs (rs (rs (rs (rs (rs (rs (rs r0)))))))))), ⟨_, (rs (rs (rs (rs (rs (rs (rs (rs (rs (rs r0)))))))))), ⟨_, (rs (rs (rs (rs (rs (rs (rs (rs r0)))))))), ⟨_, (rs (rs (rs (rs (rs (rs (rs (rs r0)))))))), ⟨_, (rs (rs (rs (rs (rs (rs r0)))))), ⟨_, (rs (rs (rs (rs (rs (rs r0)))))), trivial⟩⟩⟩⟩⟩⟩⟩⟩ trivial)
        refine hx_or ?_ trivial
        refine hx_mut rfl rfl rfl (act_alloc (cs := [_, _]) zr25 rfl) rfl (by rintro _ _ _ ⟨b8_8, rfl, rfl, rfl⟩ w hs; exact hs.to ⟨_, (rs (rs (rs r0))), ⟨_, (rs (rs (rs r0))), ⟨_, (rs (rs (rs r0))), ⟨_, (rs (rs (rs r0))), ⟨_, (rs (rs (rs r0))), ⟨_, (rs (rs (rs r0))), ⟨_, (rs (rs (rs r0))), ⟨_, (rs (rs (rs r0))), ⟨_, (rs (rs (rs r0))), ⟨_, (rs (rs (rs r0))), ⟨_, (rs (rs (rs r0))), ⟨_, (rs (rs (rs r0))), ⟨_, (rs (rs (rs r0))), trivial⟩⟩⟩⟩⟩⟩⟩⟩⟩⟩⟩⟩⟩ ⟨(ms (ms m0)), ⟨(ms (ms (ms m0))), ⟨(ms (ms (ms (ms m0)))), trivial⟩⟩⟩) ?_
        rintro _ _ _ ⟨b8_8, rfl, rfl, rfl⟩
        obtain ⟨r8_4, hr8_4, h⟩ := bind_some h
        refine hx_mut rfl rfl rfl (act_callL (cap := []) [eS lGEntry 41 y8_3A0 y8_3n0 y8_3c0 r8_3.1] (W_ledger_Post (GLedger.mk 100 r1_3.1.Postings) r8_3.1 y1_3A0 r1_3.1.Postings.length y1_3c0 y8_3A0 y8_3n0 y8_3c0 r8_4 hr8_4) plains_ledger_Post rfl rfl rfl bd32 rfl ⟨(ms m0), trivial⟩ ⟨.inl (ms (ms m0)), ⟨.inr ⟨_, m0, lent_eS⟩, trivial⟩⟩) rfl (by rintro _ _ _ ⟨_, _, ⟨y8_4A0, y8_4n0, y8_4c0, rfl, rfl, rfl⟩, rfl, rfl⟩ w hs; exact hs.to ⟨_, (rs (rs (rs (rs r0)))), ⟨_, (rs (rs (rs (rs r0)))), ⟨_, (rs (rs (rs (rs r0)))), ⟨_, (rs (rs (rs (rs r0)))), ⟨_, (rs (rs (rs (rs r0)))), ⟨_, (rs (rs (rs (rs r0)))), ⟨_, (rs (rs (rs (rs r0)))), ⟨_, (rs (rs (rs (rs r0)))), ⟨_, (rs (rs (rs (rs r0)))), ⟨_, (rs (rs (rs (rs r0)))), ⟨_, (rs (rs (rs (rs r0)))), ⟨_, (rs (rs (rs (rs r0)))), ⟨_, (rs (rs (rs (rs r0)))), trivial⟩⟩⟩⟩⟩⟩⟩⟩⟩⟩⟩⟩⟩ ⟨(ms (ms m0)), ⟨(ms (ms (ms m0))), ⟨(ms (ms (ms (ms m0)))), trivial⟩⟩⟩) ?_
        rintro _ _ _ ⟨_, _, ⟨y8_4A0, y8_4n0, y8_4c0, rfl, rfl, rfl⟩, rfl, rfl⟩
        dsimp only [List.nil_append, List.cons_append]
        refine hx_det rfl rfl rfl nofun (det_move rfl) rfl ?_
        refine hx_det rfl rfl rfl nofun (det_extract rfl rfl) rfl ?_
        refine hx_det rfl rfl rfl nofun (det_extract rfl rfl) rfl ?_
        refine hx_mut0 rfl rfl rfl (act_store (cells := [_, _]) (cs' := [_, _]) rfl rfl rfl (ss s0) (by rfl) (of_decide_eq_true rfl) sz25 ⟨rfl, rfl, trivial⟩) (by rintro _ _ _ ⟨rfl, rfl⟩ w hs; exact hs.to ⟨_, (rs (rs (rs (rs r0)))), ⟨_, (rs (rs (rs (rs r0)))), ⟨_, (rs (rs (rs (rs r0)))), ⟨_, (rs (rs (rs (rs r0)))), ⟨_, (rs (rs (rs (rs r0)))), ⟨_, (rs (rs (rs (rs r0)))), ⟨_, (rs (rs (rs (rs r0)))), ⟨_, (rs (rs (rs (rs r0)))), ⟨_, (rs (rs (rs (rs r0)))), ⟨_, (rs (rs (rs (rs r0)))), ⟨_, (rs (rs (rs (rs r0)))), ⟨_, (rs (rs (rs (rs r0)))), ⟨_, (rs (rs (rs (rs r0)))), trivial⟩⟩⟩⟩⟩⟩⟩⟩⟩⟩⟩⟩⟩ ⟨(ms (ms m0)), ⟨(ms (ms (ms m0))), ⟨(ms (ms (ms (ms m0)))), trivial⟩⟩⟩) ?_
        rintro _ _ _ ⟨rfl, rfl⟩
        refine hx_end ?_
        refine wl_know (fun _ h => h.lenF (ms m0)) (fun e => ?_)
        subst e
        refine wl_know (fun _ h => h.lenO (ms (ms m0))) (fun e => ?_)
        subst e
        refine wl_know (fun _ h => h.lenF m0) (fun e => ?_)
        subst e
        refine wl_know (fun _ h => h.lenO m0) (fun e => ?_)
        subst e
        refine wl_det rfl rfl (det_assign rfl) rfl ?_
        refine wl_nil ?_
        replace h := Option.some.inj h
        subst h
        exact pn_meetG (r8_4.2, ()) rfl ⟨rfl, rfl, rfl, rfl, rfl, rfl, rfl, rfl, rfl, rfl, trivial⟩ (fun _ h => h.to ⟨_, (rs (rs (rs (rs (rs (rs (rs (rs (rs (rs (rs (rs r0)))))))))))), ⟨_, (rs (rs (rs (rs (rs (rs (rs (rs (rs (rs (rs (rs r0)))))))))))), ⟨_, (rs (rs (rs (rs (rs (rs (rs (rs (rs (rs r0)))))))))), ⟨_, (rs (rs (rs (rs (rs (rs (rs (rs (rs (rs r0)))))))))), ⟨_, (rs (rs (rs (rs (rs (rs (rs (rs r0)))))))), ⟨_, (rs (rs (rs (rs (rs (rs (rs (rs r0)))))))), ⟨_, (rs (rs (rs (rs (rs (rs r0)))))), ⟨_, (rs (rs (rs (rs (rs (rs r0)))))), trivial⟩⟩⟩⟩⟩⟩⟩⟩ trivial)
      refine hx_or ?_ trivial
      refine hx_mut rfl rfl rfl (act_alloc (cs := [_, _]) zr25 rfl) rfl (by rintro _ _ _ ⟨b8_8, rfl, rfl, rfl⟩ w hs; exact hs.to ⟨_, (rs (rs r0)), ⟨_, (rs (rs r0)), ⟨_, (rs (rs r0)), ⟨_, (rs (rs r0)), ⟨_, (rs (rs r0)), ⟨_, (rs (rs r0)), ⟨_, (rs (rs r0)), ⟨_, (rs (rs r0)), ⟨_, (rs (rs r0)), ⟨_, (rs (rs r0)), ⟨_, (rs (rs r0)), ⟨_, (rs (rs r0)), ⟨_, (rs (rs r0)), trivial⟩⟩⟩⟩⟩⟩⟩⟩⟩⟩⟩⟩⟩ ⟨(ms m0), ⟨(ms (ms m0)), ⟨(ms (ms (ms m0))), trivial⟩⟩⟩) ?_
      rintro _ _ _ ⟨b8_8, rfl, rfl, rfl⟩
      obtain ⟨r8_3, hr8_3, h⟩ := bind_some h
      refine hx_mut rfl rfl rfl (act_callS (cap := []) (W_treatymade2_Entries r8_2 3 y8_2b0 y8_2A1 y8_2n1 y8_2c1 r8_3 hr8_3) rfl rfl rfl bd25 ⟨_, (rs r0), rfl⟩ ⟨m0, trivial⟩) rfl (by rintro _ _ _ ⟨_, _, ⟨y8_3A0, y8_3n0, y8_3c0, y8_3A1, y8_3n1, y8_3c1, rfl, rfl, rfl⟩, rfl, rfl⟩ w hs; exact hs.to ⟨_, (rs (rs (rs r0))), ⟨_, (rs (rs (rs r0))), ⟨_, (rs (rs (rs r0))), ⟨_, (rs (rs (rs r0))), ⟨_, (rs (rs (rs r0))), ⟨_, (rs (rs (rs r0))), ⟨_, (rs (rs (rs r0))), ⟨_, (rs (rs (rs r0))), ⟨_, (rs (rs (rs r0))), ⟨_, (rs (rs (rs r0))), ⟨_, (rs (rs (rs r0))), ⟨_, (rs (rs (rs r0))), ⟨_, (rs (rs (rs r0))), trivial⟩⟩⟩⟩⟩⟩⟩⟩⟩⟩⟩⟩⟩ ⟨(ms (ms m0)), ⟨(ms (ms (ms m0))), ⟨(ms (ms (ms (ms m0)))), trivial⟩⟩⟩) ?_
      rintro _ _ _ ⟨_, _, ⟨y8_3A0, y8_3n0, y8_3c0, y8_3A1, y8_3n1, y8_3c1, rfl, rfl, rfl⟩, rfl, rfl⟩
      dsimp only [List.nil_append, List.cons_append]
      obtain ⟨r8_4, hr8_4, h⟩ := bind_some h
      refine hx_mut rfl rfl rfl (act_callL (cap := []) [eS lGEntry 41 y8_3A0 y8_3n0 y8_3c0 r8_3.1] (W_ledger_Post (GLedger.mk 100 r1_3.1.Postings) r8_3.1 y1_3A0 r1_3.1.Postings.length y1_3c0 y8_3A0 y8_3n0 y8_3c0 r8_4 hr8_4) plains_ledger_Post rfl rfl rfl bd32 rfl ⟨m0, trivial⟩ ⟨.inl (ms (ms m0)), ⟨.inr ⟨_, m0, lent_eS⟩, trivial⟩⟩) rfl (by rintro _ _ _ ⟨_, _, ⟨y8_4A0, y8_4n0, y8_4c0, rfl, rfl, rfl⟩, rfl, rfl⟩ w hs; exact hs.to ⟨_, (rs (rs (rs (rs r0)))), ⟨_, (rs (rs (rs (rs r0)))), ⟨_, (rs (rs (rs (rs r0)))), ⟨_, (rs (rs (rs (rs r0)))), ⟨_, (rs (rs (rs (rs r0)))), ⟨_, (rs (rs (rs (rs r0)))), ⟨_, (rs (rs (rs (rs r0)))), ⟨_, (rs (rs (rs (rs r0)))), ⟨_, (rs (rs (rs (rs r0)))), ⟨_, (rs (rs (rs (rs r0)))), ⟨_, (rs (rs (rs (rs r0)))), ⟨_, (rs (rs (rs (rs r0)))), ⟨_, (rs (rs (rs (rs r0)))), trivial⟩⟩⟩⟩⟩⟩⟩⟩⟩⟩⟩⟩⟩ ⟨(ms (ms m0)), ⟨(ms (ms (ms m0))), ⟨(ms (ms (ms (ms m0)))), trivial⟩⟩⟩) ?_
      rintro _ _ _ ⟨_, _, ⟨y8_4A0, y8_4n0, y8_4c0, rfl, rfl, rfl⟩, rfl, rfl⟩
      dsimp only [List.nil_append, List.cons_append]
      refine hx_det rfl rfl rfl nofun (det_move rfl) rfl ?_
      refine hx_det rfl rfl rfl nofun (det_extract rfl rfl) rfl ?_
      refine hx_det rfl rfl rfl nofun (det_extract rfl rfl) rfl ?_
      refine hx_mut0 rfl rfl rfl (act_store (cells := [_, _]) (cs' := [_, _]) rfl rfl rfl (ss (ss (ss s0))) (by rfl) (of_decide_eq_true rfl) sz25 ⟨rfl, rfl, trivial⟩) (by rintro _ _ _ ⟨rfl, rfl⟩ w hs; exact hs.to ⟨_, (rs (rs (rs (rs r0)))), ⟨_, (rs (rs (rs (rs r0)))), ⟨_, (rs (rs (rs (rs r0)))), ⟨_, (rs (rs (rs (rs r0)))), ⟨_, (rs (rs (rs (rs r0)))), ⟨_, (rs (rs (rs (rs r0)))), ⟨_, (rs (rs (rs (rs r0)))), ⟨_, (rs (rs (rs (rs r0)))), ⟨_, (rs (rs (rs (rs r0)))), ⟨_, (rs (rs (rs (rs r0)))), ⟨_, (rs (rs (rs (rs r0)))), ⟨_, (rs (rs (rs (rs r0)))), ⟨_, (rs (rs (rs (rs r0)))), trivial⟩⟩⟩⟩⟩⟩⟩⟩⟩⟩⟩⟩⟩ ⟨(ms (ms m0)), ⟨(ms (ms (ms m0))), ⟨(ms (ms (ms (ms m0)))), trivial⟩⟩⟩) ?_
      rintro _ _ _ ⟨rfl, rfl⟩
      refine hx_end ?_
      refine wl_know (fun _ h => h.lenF (ms m0)) (fun e => ?_)
      subst e
      refine wl_know (fun _ h => h.lenO (ms m0)) (fun e => ?_)
      subst e
      refine wl_know (fun _ h => h.lenF m0) (fun e => ?_)
      subst e
      refine wl_know (fun _ h => h.lenO m0) (fun e => ?_)
      subst e
      refine wl_det rfl rfl (det_assign rfl) rfl ?_
      refine wl_nil ?_
      replace h := Option.some.inj h
      subst h
      exact pn_meetG (r8_4.2, ()) rfl ⟨rfl, rfl, rfl, rfl, rfl, rfl, rfl, rfl, rfl, rfl, trivial⟩ (fun _ h => h.to ⟨_, (rs (rs (rs (rs (rs (rs (rs (rs (rs (rs (rs (rs r0)))))))))))), ⟨_, (rs (rs (rs (rs (rs (rs (rs (rs (rs (rs (rs (rs r0)))))))))))), ⟨_, (rs (rs (rs (rs (rs (rs (rs (rs (rs (rs r0)))))))))), ⟨_, (rs (rs (rs (rs (rs (rs (rs (rs (rs (rs r0)))))))))), ⟨_, (rs (rs (rs (rs (rs (rs (rs (rs r0)))))))), ⟨_, (rs (rs (rs (rs (rs (rs (rs (rs r0)))))))), ⟨_, (rs (rs (rs (rs (rs (rs r0)))))), ⟨_, (rs (rs (rs (rs (rs (rs r0)))))), trivial⟩⟩⟩⟩⟩⟩⟩⟩ trivial)
    refine hx_or ?_ trivial
    refine hx_mut rfl rfl rfl (act_alloc (cs := [_, _]) zr25 rfl) rfl (by rintro _ _ _ ⟨b8_8, rfl, rfl, rfl⟩ w hs; exact hs.to ⟨_, (rs r0), ⟨_, (rs r0), ⟨_, (rs r0), ⟨_, (rs r0), ⟨_, (rs r0), ⟨_, (rs r0), ⟨_, (rs r0), ⟨_, (rs r0), ⟨_, (rs r0), ⟨_, (rs r0), ⟨_, (rs r0), ⟨_, (rs r0), ⟨_, (rs r0), trivial⟩⟩⟩⟩⟩⟩⟩⟩⟩⟩⟩⟩⟩ ⟨m0, ⟨(ms m0), ⟨(ms (ms m0)), trivial⟩⟩⟩) ?_
    rintro _ _ _ ⟨b8_8, rfl, rfl, rfl⟩
    obtain ⟨r8_2, hr8_2, h⟩ := bind_some h
    refine hx_mut rfl rfl rfl (act_callS (cap := []) (W_treatymade2_New a1 A3 a1.length c3 r8_2 hr8_2) rfl rfl rfl bd14 rfl ⟨(ms (ms m0)), trivial⟩) rfl (by rintro _ _ _ ⟨_, _, ⟨y8_2b0, y8_2A1, y8_2n1, y8_2c1, rfl, rfl, rfl⟩, rfl, rfl⟩ w hs; exact hs.to ⟨_, (rs (rs r0)), ⟨_, (rs (rs r0)), ⟨_, (rs (rs r0)), ⟨_, (rs (rs r0)), ⟨_, (rs (rs r0)), ⟨_, (rs (rs r0)), ⟨_, (rs (rs r0)), ⟨_, (rs (rs r0)), ⟨_, (rs (rs r0)), ⟨_, (rs (rs r0)), ⟨_, (rs (rs r0)), ⟨_, (rs (rs r0)), ⟨_, (rs (rs r0)), trivial⟩⟩⟩⟩⟩⟩⟩⟩⟩⟩⟩⟩⟩ ⟨(ms m0), ⟨(ms (ms m0)), ⟨(ms (ms (ms m0))), trivial⟩⟩⟩) ?_
    rintro _ _ _ ⟨_, _, ⟨y8_2b0, y8_2A1, y8_2n1, y8_2c1, rfl, rfl, rfl⟩, rfl, rfl⟩
    dsimp only [List.nil_append, List.cons_append]
    obtain ⟨r8_3, hr8_3, h⟩ := bind_some h
    refine hx_mut rfl rfl rfl (act_callS (cap := []) (W_treatymade2_Entries r8_2 3 y8_2b0 y8_2A1 y8_2n1 y8_2c1 r8_3 hr8_3) rfl rfl rfl bd25 ⟨_, r0, rfl⟩ ⟨m0, trivial⟩) rfl (by rintro _ _ _ ⟨_, _, ⟨y8_3A0, y8_3n0, y8_3c0, y8_3A1, y8_3n1, y8_3c1, rfl, rfl, rfl⟩, rfl, rfl⟩ w hs; exact hs.to ⟨_, (rs (rs (rs r0))), ⟨_, (rs (rs (rs r0))), ⟨_, (rs (rs (rs r0))), ⟨_, (rs (rs (rs r0))), ⟨_, (rs (rs (rs r0))), ⟨_, (rs (rs (rs r0))), ⟨_, (rs (rs (rs r0))), ⟨_, (rs (rs (rs r0))), ⟨_, (rs (rs (rs r0))), ⟨_, (rs (rs (rs r0))), ⟨_, (rs (rs (rs r0))), ⟨_, (rs (rs (rs r0))), ⟨_, (rs (rs (rs r0))), trivial⟩⟩⟩⟩⟩⟩⟩⟩⟩⟩⟩⟩⟩ ⟨(ms (ms m0)), ⟨(ms (ms (ms m0))), ⟨(ms (ms (ms (ms m0)))), trivial⟩⟩⟩) ?_
    rintro _ _ _ ⟨_, _, ⟨y8_3A0, y8_3n0, y8_3c0, y8_3A1, y8_3n1, y8_3c1, rfl, rfl, rfl⟩, rfl, rfl⟩
    dsimp only [List.nil_append, List.cons_append]
    obtain ⟨r8_4, hr8_4, h⟩ := bind_some h
    refine hx_mut rfl rfl rfl (act_callL (cap := []) [eS lGEntry 41 y8_3A0 y8_3n0 y8_3c0 r8_3.1] (W_ledger_Post (GLedger.mk 100 r1_3.1.Postings) r8_3.1 y1_3A0 r1_3.1.Postings.length y1_3c0 y8_3A0 y8_3n0 y8_3c0 r8_4 hr8_4) plains_ledger_Post rfl rfl rfl bd32 rfl ⟨m0, trivial⟩ ⟨.inl (ms (ms m0)), ⟨.inr ⟨_, m0, lent_eS⟩, trivial⟩⟩) rfl (by rintro _ _ _ ⟨_, _, ⟨y8_4A0, y8_4n0, y8_4c0, rfl, rfl, rfl⟩, rfl, rfl⟩ w hs; exact hs.to ⟨_, (rs (rs (rs (rs r0)))), ⟨_, (rs (rs (rs (rs r0)))), ⟨_, (rs (rs (rs (rs r0)))), ⟨_, (rs (rs (rs (rs r0)))), ⟨_, (rs (rs (rs (rs r0)))), ⟨_, (rs (rs (rs (rs r0)))), ⟨_, (rs (rs (rs (rs r0)))), ⟨_, (rs (rs (rs (rs r0)))), ⟨_, (rs (rs (rs (rs r0)))), ⟨_, (rs (rs (rs (rs r0)))), ⟨_, (rs (rs (rs (rs r0)))), ⟨_, (rs (rs (rs (rs r0)))), ⟨_, (rs (rs (rs (rs r0)))), trivial⟩⟩⟩⟩⟩⟩⟩⟩⟩⟩⟩⟩⟩ ⟨(ms (ms m0)), ⟨(ms (ms (ms m0))), ⟨(ms (ms (ms (ms m0)))), trivial⟩⟩⟩) ?_
    rintro _ _ _ ⟨_, _, ⟨y8_4A0, y8_4n0, y8_4c0, rfl, rfl, rfl⟩, rfl, rfl⟩
    dsimp only [List.nil_append, List.cons_append]
    refine hx_det rfl rfl rfl nofun (det_move rfl) rfl ?_
    refine hx_det rfl rfl rfl nofun (det_extract rfl rfl) rfl ?_
    refine hx_det rfl rfl rfl nofun (det_extract rfl rfl) rfl ?_
    refine hx_mut0 rfl rfl rfl (act_store (cells := [_, _]) (cs' := [_, _]) rfl rfl rfl (ss (ss (ss s0))) (by rfl) (of_decide_eq_true rfl) sz25 ⟨rfl, rfl, trivial⟩) (by rintro _ _ _ ⟨rfl, rfl⟩ w hs; exact hs.to ⟨_, (rs (rs (rs (rs r0)))), ⟨_, (rs (rs (rs (rs r0)))), ⟨_, (rs (rs (rs (rs r0)))), ⟨_, (rs (rs (rs (rs r0)))), ⟨_, (rs (rs (rs (rs r0)))), ⟨_, (rs (rs (rs (rs r0)))), ⟨_, (rs (rs (rs (rs r0)))), ⟨_, (rs (rs (rs (rs r0)))), ⟨_, (rs (rs (rs (rs r0)))), ⟨_, (rs (rs (rs (rs r0)))), ⟨_, (rs (rs (rs (rs r0)))), ⟨_, (rs (rs (rs (rs r0)))), ⟨_, (rs (rs (rs (rs r0)))), trivial⟩⟩⟩⟩⟩⟩⟩⟩⟩⟩⟩⟩⟩ ⟨(ms (ms m0)), ⟨(ms (ms (ms m0))), ⟨(ms (ms (ms (ms m0)))), trivial⟩⟩⟩) ?_
    rintro _ _ _ ⟨rfl, rfl⟩
    refine hx_end ?_
    refine wl_know (fun _ h => h.lenF (ms m0)) (fun e => ?_)
    subst e
    refine wl_know (fun _ h => h.lenO (ms m0)) (fun e => ?_)
    subst e
    refine wl_know (fun _ h => h.lenF m0) (fun e => ?_)
    subst e
    refine wl_know (fun _ h => h.lenO m0) (fun e => ?_)
    subst e
    refine wl_det rfl rfl (det_assign rfl) rfl ?_
    refine wl_nil ?_
    replace h := Option.some.inj h
    subst h
    exact pn_meetG (r8_4.2, ()) rfl ⟨rfl, rfl, rfl, rfl, rfl, rfl, rfl, rfl, rfl, rfl, trivial⟩ (fun _ h => h.to ⟨_, (rs (rs (rs (rs (rs (rs (rs (rs (rs (rs (rs (rs r0)))))))))))), ⟨_, (rs (rs (rs (rs (rs (rs (rs (rs (rs (rs (rs (rs r0)))))))))))), ⟨_, (rs (rs (rs (rs (rs (rs (rs (rs (rs (rs r0)))))))))), ⟨_, (rs (rs (rs (rs (rs (rs (rs (rs (rs (rs r0)))))))))), ⟨_, (rs (rs (rs (rs (rs (rs (rs (rs r0)))))))), ⟨_, (rs (rs (rs (rs (rs (rs (rs (rs r0)))))))), ⟨_, (rs (rs (rs (rs (rs (rs r0)))))), ⟨_, (rs (rs (rs (rs (rs (rs r0)))))), trivial⟩⟩⟩⟩⟩⟩⟩⟩ trivial)
  rintro ⟨s16, _⟩ e16
  dsimp only at e16 ⊢
  subst e16
  have h := ho16
  refine wc_seq ?_
  refine wc_region ?_   -- region 9
  refine wl_det rfl rfl (det_loadN (cells := [_, _]) rfl m0 (by rfl) ag25 sz25) rfl ?_
  refine wl_det rfl rfl (det_loadN (cells := [_, _]) rfl (ms (ms m0)) (by rfl) ag25 sz25) rfl ?_
  obtain ⟨r9_2, hr9_2, h⟩ := bind_some h
  refine wl_act (act_callL (cap := []) [eS lGPosting 73 y2_1A0 r2_1.1.Postings.length y2_1c0 r2_1.1.Postings, eS lGPosting 73 y3_1A0 r3_1.1.Postings.length y3_1c0 r3_1.1.Postings] (W_treatyref33_SameLedger r2_1.1 r3_1.1 y2_1A0 r2_1.1.Postings.length y2_1c0 y3_1A0 r3_1.1.Postings.length y3_1c0 r9_2 hr9_2) plains_treatyref33_SameLedger rfl rfl rfl bd33 rfl ⟨(ms m0), ⟨(ms (ms (ms m0))), trivial⟩⟩ ⟨.inr ⟨_, m0, lent_eS⟩, ⟨.inr ⟨_, (ms m0), lent_eS⟩, trivial⟩⟩) rfl rfl rfl ?_
  rintro _ _ _ ⟨_, _, ⟨rfl, rfl, rfl⟩, rfl, rfl⟩
  dsimp only [List.nil_append, List.cons_append]
  refine wl_det rfl rfl (det_move rfl) rfl ?_
  refine wl_way r9_2 (r9_2 && (decide (r2_1.2 = r3_1.2))) 4 71 (fun hg => ?_) (fun hg => ?_) ?_
  · have hg9_7 := hg
    refine wl_on rfl rfl rfl rfl hg9_7 ?_
    refine wl_det rfl rfl (det_move rfl) rfl ?_
    refine wl_on rfl rfl rfl rfl hg9_7 ?_
    refine wl_det rfl rfl (det_move rfl) rfl ?_
    refine wl_on rfl rfl rfl rfl hg9_7 ?_
    refine wl_det rfl rfl (det_eql rfl rfl) rfl ?_
    refine wl_det rfl rfl (det_and_on rfl rfl rfl hg9_7) rfl ?_
    exact wl_nil (pn_qnE (ext_cons rfl (ext_skip rfl (ext_skip rfl (ext_skip rfl (ext_skip rfl ext_refl))))) (fun _ h => h))
  · have hg9_7a := hg
    refine wl_off rfl rfl rfl rfl rfl hg9_7a rfl ?_
    refine wl_off rfl rfl rfl rfl rfl hg9_7a rfl ?_
    refine wl_off rfl rfl rfl rfl rfl hg9_7a rfl ?_
    refine wl_det rfl rfl (det_and_off (q := (decide (r2_1.2 = r3_1.2))) rfl rfl rfl hg9_7a) rfl ?_
    exact wl_nil (pn_qnE (ext_cons rfl (ext_skip rfl (ext_skip rfl (ext_skip rfl (ext_skip rfl ext_refl))))) (fun _ h => h))
  refine wl_det rfl rfl (det_move rfl) rfl ?_
  obtain ⟨q9_12, hq9_12, h⟩ := bind_some h
  have ho9_12 := h
  refine wl_way (r9_2 && (decide (r2_1.2 = r3_1.2))) q9_12 4 76 (fun hg => ?_) (fun hg => ?_) ?_
  · have hg9_12 := hg
    have h := ifT hq9_12 hg
    refine wl_on rfl rfl rfl rfl hg9_12 ?_
    refine wl_det rfl rfl (det_loadN (cells := [_, _]) rfl (ms (ms (ms (ms m0)))) (by rfl) ag25 sz25) rfl ?_
    refine wl_on rfl rfl rfl rfl hg9_12 ?_
    refine wl_det rfl rfl (det_loadN (cells := [_, _]) rfl (ms (ms (ms (ms (ms (ms m0)))))) (by rfl) ag25 sz25) rfl ?_
    refine wl_on rfl rfl rfl rfl hg9_12 ?_
    obtain ⟨r9_11, hr9_11, h⟩ := bind_some h
    refine wl_act (act_callL (cap := []) [eS lGPosting 73 y4_1A0 r4_1.1.Postings.length y4_1c0 r4_1.1.Postings, eS lGPosting 73 y5_1A0 r5_1.1.Postings.length y5_1c0 r5_1.1.Postings] (W_treatyref33_SameLedger r4_1.1 r5_1.1 y4_1A0 r4_1.1.Postings.length y4_1c0 y5_1A0 r5_1.1.Postings.length y5_1c0 r9_11 hr9_11) plains_treatyref33_SameLedger rfl rfl rfl bd33 rfl ⟨(ms (ms (ms (ms (ms m0))))), ⟨(ms (ms (ms (ms (ms (ms (ms m0))))))), trivial⟩⟩ ⟨.inr ⟨_, m0, lent_eS⟩, ⟨.inr ⟨_, (ms m0), lent_eS⟩, trivial⟩⟩) rfl rfl rfl ?_
    rintro _ _ _ ⟨_, _, ⟨rfl, rfl, rfl⟩, rfl, rfl⟩
    dsimp only [List.nil_append, List.cons_append]
    replace h := Option.some.inj h
    subst h
    refine wl_det rfl rfl (det_pick_on rfl hg9_12 rfl rfl) rfl ?_
    exact wl_nil (pn_qnE (ext_cons rfl (ext_skip rfl (ext_skip rfl (ext_skip rfl (ext_skip rfl ext_refl))))) (fun _ h => h))
  · have hg9_12a := hg
    have h := ifF hq9_12 hg
    refine wl_off rfl rfl rfl rfl rfl hg9_12a rfl ?_
    refine wl_off rfl rfl rfl rfl rfl hg9_12a rfl ?_
    refine wl_off rfl rfl rfl rfl rfl hg9_12a rfl ?_
    replace h := Option.some.inj h
    subst h
    refine wl_det rfl rfl (det_pick_off rfl hg9_12a rfl rfl) rfl ?_
    exact wl_nil (pn_qnE (ext_cons rfl (ext_skip rfl (ext_skip rfl (ext_skip rfl (ext_skip rfl ext_refl))))) (fun _ h => h))
  have h := ho9_12
  refine wl_det rfl rfl (det_move rfl) rfl ?_
  refine wl_way q9_12 (q9_12 && (decide (r4_1.2 = r5_1.2))) 4 81 (fun hg => ?_) (fun hg => ?_) ?_
  · have hg9_17 := hg
    refine wl_on rfl rfl rfl rfl hg9_17 ?_
    refine wl_det rfl rfl (det_move rfl) rfl ?_
    refine wl_on rfl rfl rfl rfl hg9_17 ?_
    refine wl_det rfl rfl (det_move rfl) rfl ?_
    refine wl_on rfl rfl rfl rfl hg9_17 ?_
    refine wl_det rfl rfl (det_eql rfl rfl) rfl ?_
    refine wl_det rfl rfl (det_and_on rfl rfl rfl hg9_17) rfl ?_
    exact wl_nil (pn_qnE (ext_cons rfl (ext_skip rfl (ext_skip rfl (ext_skip rfl (ext_skip rfl ext_refl))))) (fun _ h => h))
  · have hg9_17a := hg
    refine wl_off rfl rfl rfl rfl rfl hg9_17a rfl ?_
    refine wl_off rfl rfl rfl rfl rfl hg9_17a rfl ?_
    refine wl_off rfl rfl rfl rfl rfl hg9_17a rfl ?_
    refine wl_det rfl rfl (det_and_off (q := (decide (r4_1.2 = r5_1.2))) rfl rfl rfl hg9_17a) rfl ?_
    exact wl_nil (pn_qnE (ext_cons rfl (ext_skip rfl (ext_skip rfl (ext_skip rfl (ext_skip rfl ext_refl))))) (fun _ h => h))
  refine wl_det rfl rfl (det_move rfl) rfl ?_
  refine wl_way (q9_12 && (decide (r4_1.2 = r5_1.2))) ((q9_12 && (decide (r4_1.2 = r5_1.2))) && (decide (r7_1.2 = 18))) 3 85 (fun hg => ?_) (fun hg => ?_) ?_
  · have hg9_21 := hg
    refine wl_on rfl rfl rfl rfl hg9_21 ?_
    refine wl_det rfl rfl (det_move rfl) rfl ?_
    refine wl_on rfl rfl rfl rfl hg9_21 ?_
    refine wl_det rfl rfl (det_eql rfl rfl) rfl ?_
    refine wl_det rfl rfl (det_and_on rfl rfl rfl hg9_21) rfl ?_
    exact wl_nil (pn_qnE (ext_cons rfl (ext_skip rfl (ext_skip rfl (ext_skip rfl ext_refl)))) (fun _ h => h))
  · have hg9_21a := hg
    refine wl_off rfl rfl rfl rfl rfl hg9_21a rfl ?_
    refine wl_off rfl rfl rfl rfl rfl hg9_21a rfl ?_
    refine wl_det rfl rfl (det_and_off (q := (decide (r7_1.2 = 18))) rfl rfl rfl hg9_21a) rfl ?_
    exact wl_nil (pn_qnE (ext_cons rfl (ext_skip rfl (ext_skip rfl (ext_skip rfl ext_refl)))) (fun _ h => h))
  refine wl_det rfl rfl (det_move rfl) rfl ?_
  refine wl_way ((q9_12 && (decide (r4_1.2 = r5_1.2))) && (decide (r7_1.2 = 18))) (((q9_12 && (decide (r4_1.2 = r5_1.2))) && (decide (r7_1.2 = 18))) && (decide (s16 = 18))) 3 89 (fun hg => ?_) (fun hg => ?_) ?_
  · have hg9_25 := hg
    refine wl_on rfl rfl rfl rfl hg9_25 ?_
    refine wl_det rfl rfl (det_move rfl) rfl ?_
    refine wl_on rfl rfl rfl rfl hg9_25 ?_
    refine wl_det rfl rfl (det_eql rfl rfl) rfl ?_
    refine wl_det rfl rfl (det_and_on rfl rfl rfl hg9_25) rfl ?_
    exact wl_nil (pn_qnE (ext_cons rfl (ext_skip rfl (ext_skip rfl (ext_skip rfl ext_refl)))) (fun _ h => h))
  · have hg9_25a := hg
    refine wl_off rfl rfl rfl rfl rfl hg9_25a rfl ?_
    refine wl_off rfl rfl rfl rfl rfl hg9_25a rfl ?_
    refine wl_det rfl rfl (det_and_off (q := (decide (s16 = 18))) rfl rfl rfl hg9_25a) rfl ?_
    exact wl_nil (pn_qnE (ext_cons rfl (ext_skip rfl (ext_skip rfl (ext_skip rfl ext_refl)))) (fun _ h => h))
  refine wl_det rfl rfl (det_move rfl) rfl ?_
  obtain ⟨q9_28, hq9_28, h⟩ := bind_some h
  have ho9_28 := h
  refine wl_way (((q9_12 && (decide (r4_1.2 = r5_1.2))) && (decide (r7_1.2 = 18))) && (decide (s16 = 18))) q9_28 2 92 (fun hg => ?_) (fun hg => ?_) ?_
  · have hg9_28 := hg
    have h := ifT hq9_28 hg
    refine wl_on rfl rfl rfl rfl hg9_28 ?_
    obtain ⟨r9_27, hr9_27, h⟩ := bind_some h
    refine wl_act (act_callS (cap := []) (W_treatylaw33_awake r9_27 hr9_27) rfl rfl rfl bd20 rfl trivial) rfl rfl rfl ?_
    rintro _ _ _ ⟨_, _, ⟨rfl, rfl, rfl⟩, rfl, rfl⟩
    dsimp only [List.nil_append, List.cons_append]
    replace h := Option.some.inj h
    subst h
    refine wl_det rfl rfl (det_pick_on rfl hg9_28 rfl rfl) rfl ?_
    exact wl_nil (pn_qnE (ext_cons rfl (ext_skip rfl (ext_skip rfl ext_refl))) (fun _ h => h))
  · have hg9_28a := hg
    have h := ifF hq9_28 hg
    refine wl_off rfl rfl rfl rfl rfl hg9_28a rfl ?_
    replace h := Option.some.inj h
    subst h
    refine wl_det rfl rfl (det_pick_off rfl hg9_28a rfl rfl) rfl ?_
    exact wl_nil (pn_qnE (ext_cons rfl (ext_skip rfl (ext_skip rfl ext_refl))) (fun _ h => h))
  have h := ho9_28
  refine wl_det rfl rfl (det_assign rfl) rfl ?_
  refine wl_nil ?_
  refine pn_then ?_
  refine wc_ret ?_
  replace h := Option.some.inj h
  subst h
  refine pn_ret (vs := [_]) rfl ⟨rfl, trivial⟩ ⟨rfl, rfl, rfl⟩ (fun _ h => h.to trivial trivial)
end Go.Proofs.Ytadkcelipefpmaa
