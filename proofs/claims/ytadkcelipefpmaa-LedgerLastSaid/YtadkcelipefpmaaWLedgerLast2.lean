/- That functions of the program compute the plain programs of P. Written by a small program. -/
import Derived.Test.YtadkcelipefpmaaWLedgerLast1
namespace Go.Proofs.Ytadkcelipefpmaa
open Go.RowKit
def Q_treatylaw33_awake (r : Bool) : Value → List Ent → List Fact → Prop := fun v θ κ => v = .bool r ∧ θ = [] ∧ κ = []
theorem plains_treatylaw33_awake {r : Bool} : ∀ v θ κ, Q_treatylaw33_awake r v θ κ → Plains θ := by
  rintro _ _ _ ⟨rfl, rfl, rfl⟩
  exact trivial
set_option maxHeartbeats 4000000 in
set_option maxRecDepth 100000 in
theorem W_treatylaw33_awake (r : Bool) (h : treatylaw33_awake = some r) : Spec Try.prog 20 [] [] [] (Q_treatylaw33_awake r) := by
  unfold treatylaw33_awake at h
  refine spec_of (σ := []) Try.func20 rfl rfl rfl rfl ?_
  intro C
  refine wc_seq ?_
  refine wc_region ?_   -- region 0
  refine wl_det rfl rfl (det_assign rfl) rfl ?_
  refine wl_nil ?_
  refine pn_then ?_
  refine wc_seq ?_
  refine wc_region ?_   -- region 1
  refine wl_det rfl rfl (det_build (cs := [_, _, _, _, _]) pl41 zr41 rfl rfl (by rfl)) rfl ?_
  refine wl_act (act_alloc (cs := [_, _, _, _, _]) zr41 rfl) rfl rfl rfl ?_
  rintro _ _ _ ⟨b1_1, rfl, rfl, rfl⟩
  refine wl_act0 (act_store (cells := [_, _, _, _, _]) (cs' := [_, _, _, _, _]) rfl rfl rfl s0 (by rfl) (of_decide_eq_true rfl) sz41 ⟨rfl, rfl, rfl, rfl, rfl, trivial⟩) rfl rfl ?_
  rintro _ _ _ ⟨rfl, rfl⟩
  refine wl_nil ?_
  refine pn_then ?_
  refine wc_seq ?_
  refine wc_region ?_   -- region 2
  refine wl_det rfl rfl (det_build (cs := [_, _]) pl25 zr25 rfl rfl (by rfl)) rfl ?_
  refine wl_det rfl rfl (det_loadN (cells := [_, _, _, _, _]) rfl m0 (by rfl) ag41 sz41) rfl ?_
  refine wl_act (act_litS lGEntry (vs := [_]) (cs := [_, _, _, _, _]) [(GEntry.mk 1 5 2 7 100)] un37 in41 rfl rfl rfl rfl rfl ⟨rfl, trivial⟩ (by rfl) rfl (litR_flat rfl)) rfl rfl rfl ?_
  rintro _ _ _ ⟨A2_2, rfl, rfl, rfl⟩
  refine wl_st (fun _ h => h.zeroF lGPosting none 0) ?_
  obtain ⟨r2_3, hr2_3, h⟩ := bind_some h
  refine wl_act (act_callL (cap := []) [eS lGEntry 41 A2_2 1 1 [(GEntry.mk 1 5 2 7 100)]] (W_ledger_Post (GLedger.mk 0 []) [(GEntry.mk 1 5 2 7 100)] none 0 0 A2_2 1 1 r2_3 hr2_3) plains_ledger_Post rfl rfl rfl bd32 rfl ⟨m0, trivial⟩ ⟨.inl m0, ⟨.inr ⟨_, m0, lent_eS⟩, trivial⟩⟩) rfl rfl rfl ?_
  rintro _ _ _ ⟨_, _, ⟨y2_3A0, y2_3n0, y2_3c0, rfl, rfl, rfl⟩, rfl, rfl⟩
  dsimp only [List.nil_append, List.cons_append]
  refine wl_know (fun _ h => h.lenO m0) (fun e => ?_)
  subst e
  refine wl_det rfl rfl (det_move rfl) rfl ?_
  refine wl_det rfl rfl (det_extract rfl rfl) rfl ?_
  refine wl_det rfl rfl (det_extract rfl rfl) rfl ?_
  refine wl_act (act_alloc (cs := [_, _]) zr25 rfl) rfl rfl rfl ?_
  rintro _ _ _ ⟨b2_7, rfl, rfl, rfl⟩
  refine wl_act0 (act_store (cells := [_, _]) (cs' := [_, _]) rfl rfl rfl s0 (by rfl) (of_decide_eq_true rfl) sz25 ⟨rfl, rfl, trivial⟩) rfl rfl ?_
  rintro _ _ _ ⟨rfl, rfl⟩
  refine wl_det rfl rfl (det_assign rfl) rfl ?_
  refine wl_nil ?_
  refine pn_then ?_
  refine wc_seq ?_
  refine wc_region ?_   -- region 3
  refine wl_det rfl rfl (det_loadN (cells := [_, _]) rfl m0 (by rfl) ag25 sz25) rfl ?_
  obtain ⟨r3_1, hr3_1, h⟩ := bind_some h
  refine wl_act (act_callL (cap := []) [eS lGPosting 73 y2_3A0 r2_3.1.Postings.length y2_3c0 r2_3.1.Postings] (W_ledger_Close r2_3.1 y2_3A0 r2_3.1.Postings.length y2_3c0 r3_1 hr3_1) plains_ledger_Close rfl rfl rfl bd30 rfl ⟨(ms m0), trivial⟩ ⟨.inr ⟨_, m0, lent_eS⟩, trivial⟩) rfl rfl rfl ?_
  rintro _ _ _ ⟨_, _, ⟨y3_1A0, y3_1n0, y3_1c0, rfl, rfl, rfl⟩, rfl, rfl⟩
  dsimp only [List.nil_append, List.cons_append]
  refine wl_know (fun _ h => h.lenO m0) (fun e => ?_)
  subst e
  refine wl_det rfl rfl (det_move rfl) rfl ?_
  refine wl_det rfl rfl (det_extract rfl rfl) rfl ?_
  refine wl_det rfl rfl (det_extract rfl rfl) rfl ?_
  refine wl_act0 (act_store (cells := [_, _]) (cs' := [_, _]) rfl rfl rfl (ss s0) (by rfl) (of_decide_eq_true rfl) sz25 ⟨rfl, rfl, trivial⟩) rfl rfl ?_
  rintro _ _ _ ⟨rfl, rfl⟩
  refine wl_det rfl rfl (det_assign rfl) rfl ?_
  refine wl_nil ?_
  refine pn_then ?_
  refine wc_seq ?_
  refine wc_region ?_   -- region 4
  refine wl_det rfl rfl (det_field rfl fd41_4 rfl) rfl ?_
  refine wl_act0 (act_store (cells := [_]) (cs' := [_, _, _, _, _]) rfl rfl rfl (ss (ss (ss (ss s0)))) (by rfl) (of_decide_eq_true rfl) sz3 ⟨rfl, trivial⟩) rfl rfl ?_
  rintro _ _ _ ⟨rfl, rfl⟩
  refine wl_nil ?_
  refine pn_then ?_
  refine wc_seq ?_
  refine wc_region ?_   -- region 5
  refine wl_det rfl rfl (det_loadN (cells := [_, _]) rfl (ms m0) (by rfl) ag25 sz25) rfl ?_
  refine wl_det rfl rfl (det_loadN (cells := [_, _, _, _, _]) rfl (ms (ms (ms (ms m0)))) (by rfl) ag41 sz41) rfl ?_
  refine wl_act (act_litS lGEntry (vs := [_]) (cs := [_, _, _, _, _]) [(GEntry.mk 1 5 2 7 80)] un37 in41 rfl rfl rfl rfl rfl ⟨rfl, trivial⟩ (by rfl) rfl (litR_flat rfl)) rfl rfl rfl ?_
  rintro _ _ _ ⟨A5_2, rfl, rfl, rfl⟩
  refine wl_st (fun _ h => h.shutS (rs r0)) ?_
  refine wl_st (fun _ h => h.shutS r0) ?_
  obtain ⟨r5_3, hr5_3, h⟩ := bind_some h
  refine wl_act (act_callS (cap := []) (W_ledger_Restate r3_1.1 [(GEntry.mk 1 5 2 7 80)] y3_1A0 r3_1.1.Postings.length y3_1c0 A5_2 1 1 r5_3 hr5_3) rfl rfl rfl bd35 rfl ⟨(ms m0), ⟨m0, trivial⟩⟩) rfl rfl rfl ?_
  rintro _ _ _ ⟨_, _, ⟨y5_3A0, y5_3n0, y5_3c0, y5_3A1, y5_3n1, y5_3c1, rfl, rfl, rfl⟩, rfl, rfl⟩
  dsimp only [List.nil_append, List.cons_append]
  refine wl_know (fun _ h => h.lenF m0) (fun e => ?_)
  subst e
  refine wl_know (fun _ h => h.lenO m0) (fun e => ?_)
  subst e
  refine wl_det rfl rfl (det_move rfl) rfl ?_
  refine wl_det rfl rfl (det_extract rfl rfl) rfl ?_
  refine wl_det rfl rfl (det_extract rfl rfl) rfl ?_
  refine wl_det rfl rfl (det_extract rfl rfl) rfl ?_
  refine wl_act (act_alloc (cs := [_, _]) zr25 rfl) rfl rfl rfl ?_
  rintro _ _ _ ⟨b5_8, rfl, rfl, rfl⟩
  refine wl_act0 (act_store (cells := [_, _]) (cs' := [_, _]) rfl rfl rfl s0 (by rfl) (of_decide_eq_true rfl) sz25 ⟨rfl, rfl, trivial⟩) rfl rfl ?_
  rintro _ _ _ ⟨rfl, rfl⟩
  refine wl_det rfl rfl (det_assign rfl) rfl ?_
  refine wl_det rfl rfl (det_assign rfl) rfl ?_
  refine wl_nil ?_
  refine pn_then ?_
  refine wc_seq ?_
  refine wc_region ?_   -- region 6
  refine wl_det rfl rfl (det_field rfl fd41_4 rfl) rfl ?_
  refine wl_act0 (act_store (cells := [_]) (cs' := [_, _, _, _, _]) rfl rfl rfl (ss (ss (ss (ss (ss s0))))) (by rfl) (of_decide_eq_true rfl) sz3 ⟨rfl, trivial⟩) rfl rfl ?_
  rintro _ _ _ ⟨rfl, rfl⟩
  refine wl_nil ?_
  refine pn_then ?_
  obtain ⟨q14, h, ho14⟩ := bind_some h
  refine wc_meetG (G := Bool × Unit) (fun (s14, _) => s14 = q14) (fun (s14, _) => [(0, .bool s14)]) (fun (_, _) => []) (fun (_, _) => []) ?_ ?_
  · rcases Bool.eq_false_or_eq_true (decide (r2_3.2 = 0)) with hg7_g33 | hg7_g33
    · have h := ifT h hg7_g33
      rcases Bool.eq_false_or_eq_true (decide (r3_1.2 = 0)) with hg7_g37 | hg7_g37
      · have h := ifT h hg7_g37
        rcases Bool.eq_false_or_eq_true (decide (r5_3.2.2 = 0)) with hg7_g41 | hg7_g41
        · have h := ifT h hg7_g41
          rcases Bool.eq_false_or_eq_true (decide ((r5_3.1.Postings.length : Int) = 2)) with hg7_g47 | hg7_g47
          · have h := ifT h hg7_g47
            obtain ⟨r7_21, hr7_21, h⟩ := bind_some h
            rcases Bool.eq_false_or_eq_true r7_21 with hg7_g54 | hg7_g54
            · have h := ifT h hg7_g54
              obtain ⟨k7_p1, h⟩ := chk_some h
              refine wc_st (fun _ h => h.openF m0 k7_p1) ?_
              obtain ⟨k7_p3, h⟩ := chk_some h
              refine dx_region 33 [[], [0], [0, 1], [0, 1, 2], [0, 1, 2, 3], [0, 1, 2, 3, 4], [0, 1, 2, 3, 4, 5], [0, 1, 2, 3, 4, 5, 6], [0, 1, 2, 3, 4, 5, 6, 7], [0, 1, 2, 3, 4, 5, 6, 7, 8], [0, 1, 2, 3, 4, 5, 6, 7, 8, 9], [0, 1, 2, 3, 4, 5, 6, 7, 8, 9, 10], [0, 1, 2, 3, 4, 5, 6, 7, 8, 9, 10, 11], [0, 1, 2, 3, 4, 5, 6, 7, 8, 9, 10, 11, 12], [0, 1, 2, 3, 4, 5, 6, 7, 8, 9, 10, 11, 12, 13], [0, 1, 2, 3, 4, 5, 6, 7, 8, 9, 10, 11, 12, 13, 14], [0, 1, 2, 3, 4, 5, 6, 7, 8, 9, 10, 11, 12, 13, 14, 15], [0, 1, 2, 3, 4, 5, 6, 7, 8, 9, 10, 11, 12, 13, 14, 15, 16], [0, 1, 2, 3, 4, 5, 6, 7, 8, 9, 10, 11, 12, 13, 14, 15, 16], [0, 1, 2, 3, 4, 5, 6, 7, 8, 9, 10, 11, 12, 13, 14, 15, 16, 18], [0, 1, 2, 3, 4, 5, 6, 7, 8, 9, 10, 11, 12, 13, 14, 15, 16, 18, 19], [0, 1, 2, 3, 4, 5, 6, 7, 8, 9, 10, 11, 12, 13, 14, 15, 16, 17, 18, 19, 20], [0, 1, 2, 3, 4, 5, 6, 7, 8, 9, 10, 11, 12, 13, 14, 15, 16, 17, 18, 19, 20, 21], [0, 1, 2, 3, 4, 5, 6, 7, 8, 9, 10, 11, 12, 13, 14, 15, 16, 17, 18, 19, 20, 21, 22], [0, 1, 2, 3, 4, 5, 6, 7, 8, 9, 10, 11, 12, 13, 14, 15, 16, 17, 18, 19, 20, 21, 22, 23], [0, 1, 2, 3, 4, 5, 6, 7, 8, 9, 10, 11, 12, 13, 14, 15, 16, 17, 18, 19, 20, 21, 22, 23, 24], [0, 1, 2, 3, 4, 5, 6, 7, 8, 9, 10, 11, 12, 13, 14, 15, 16, 17, 18, 19, 20, 21, 22, 23, 24, 25], [0, 1, 2, 3, 4, 5, 6, 7, 8, 9, 10, 11, 12, 13, 14, 15, 16, 17, 18, 19, 20, 21, 22, 23, 24, 25, 26], [0, 1, 2, 3, 4, 5, 6, 7, 8, 9, 10, 11, 12, 13, 14, 15, 16, 17, 18, 19, 20, 21, 22, 23], [0, 1, 2, 3, 4, 5, 6, 7, 8, 9, 10, 11, 12, 13, 14, 15, 16, 17, 18, 19, 20, 21, 22, 23, 28], [0, 1, 2, 3, 4, 5, 6, 7, 8, 9, 10, 11, 12, 13, 14, 15, 16, 17, 18, 19, 20, 21, 22, 23, 28, 29], [0, 1, 2, 3, 4, 5, 6, 7, 8, 9, 10, 11, 12, 13, 14, 15, 16, 17, 18, 19, 20, 21, 22, 23, 24, 25, 26, 27, 28, 29, 30], [0, 1, 2, 3, 4, 5, 6, 7, 8, 9, 10, 11, 12, 13, 14, 15, 16, 17, 18, 19, 20, 21, 22, 23, 24, 25, 26, 27, 28, 29, 30, 31], [0, 1, 2, 3, 4, 5, 6, 7, 8, 9, 10, 11, 12, 13, 14, 15, 16, 17, 18, 19, 20, 21, 22, 23, 24, 25, 26, 27, 28, 29, 30, 31, 32]] mixed (ord := (.det 0 (.det 1 (.det 2 (.det 3 (.det 4 (.det 5 (.det 6 (.det 7 (.det 8 (.det 9 (.det 10 (.det 11 (.det 12 (.det 13 (.det 14 (.det 15 (.det 16 (.det 17 (.det 18 (.det 19 (.alt 20 (.alt 21 (.det 22 (.det 23 (.det 24 (.det 25 (.det 26 (.det 27 (.det 28 (.det 29 (.det 30 (.det 31 (.det 32 .done))))))))))) .dead) .dead)))))))))))))))))))))) (by kernel_rfl) ?_   -- region 7
              refine hx_det rfl rfl rfl nofun (det_move rfl) rfl ?_
              refine hx_det rfl rfl rfl nofun (det_eql rfl rfl) rfl ?_
              refine hx_det rfl rfl rfl nofun (det_move rfl) rfl ?_
              refine hx_on rfl rfl rfl rfl rfl hg7_g33 nofun (det_move rfl) rfl ?_
              refine hx_on rfl rfl rfl rfl rfl hg7_g33 nofun (det_eql rfl rfl) rfl ?_
              refine hx_det rfl rfl rfl nofun (det_pick_on rfl hg7_g33 rfl rfl) rfl ?_
              refine hx_det rfl rfl rfl nofun (det_move rfl) rfl ?_
              refine hx_on rfl rfl rfl rfl rfl hg7_g37 nofun (det_move rfl) rfl ?_
              refine hx_on rfl rfl rfl rfl rfl hg7_g37 nofun (det_eql rfl rfl) rfl ?_
              refine hx_det rfl rfl rfl nofun (det_pick_on rfl hg7_g37 rfl rfl) rfl ?_
              refine hx_det rfl rfl rfl nofun (det_move rfl) rfl ?_
              refine hx_on rfl rfl rfl rfl rfl hg7_g41 nofun (det_field rfl fd25_1 rfl) rfl ?_
              refine hx_on rfl rfl rfl rfl rfl hg7_g41 nofun (det_load rfl m0 (by rfl) na23 us23) rfl ?_
              refine hx_on rfl rfl rfl rfl rfl hg7_g41 nofun (det_len rfl un23) rfl ?_
              refine hx_on rfl rfl rfl rfl rfl hg7_g41 nofun (det_eql rfl rfl) rfl ?_
              refine hx_det rfl rfl rfl nofun (det_pick_on rfl hg7_g41 rfl rfl) rfl ?_
              refine hx_det rfl rfl rfl nofun (det_move rfl) rfl ?_
              refine hx_on rfl rfl rfl rfl rfl hg7_g47 nofun (det_move rfl) rfl ?_
              refine hx_on rfl rfl rfl rfl rfl hg7_g47 nofun (det_loadN (cells := [_, _, _, _, _]) rfl (ms (ms (ms (ms (ms m0))))) (by rfl) ag41 sz41) rfl ?_
              refine hx_on rfl rfl rfl rfl rfl hg7_g47 nofun (det_build (cs := [_, _, _, _, _, _, _]) pl73 zr73 rfl rfl (by rfl)) rfl ?_
              refine hx_actG rfl rfl rfl rfl rfl hg7_g47 (act_litS lGPosting (vs := [_]) (cs := [_, _, _, _, _, _, _]) [(GPosting.mk 2 1 (GEntry.mk 1 5 2 7 (-20)))] un23 in73 rfl rfl rfl rfl rfl ⟨rfl, trivial⟩ (by rfl) rfl (litR_flat rfl)) rfl (by rintro _ _ _ ⟨A7_20, rfl, rfl, rfl⟩; first | exact ⟨_ :: [], [], rfl, rfl⟩ | exact ⟨[], [_], rfl, rfl⟩ | exact ⟨[], [], rfl, rfl⟩) ?_
              rintro _ _ _ ⟨A7_20, rfl, rfl, rfl⟩
              refine hx_actG rfl rfl rfl rfl rfl hg7_g47 (act_callL (cap := []) [eS lGPosting 73 y5_3A1 r5_3.2.1.length y5_3c1 r5_3.2.1, eS lGPosting 73 A7_20 1 1 [(GPosting.mk 2 1 (GEntry.mk 1 5 2 7 (-20)))]] (W_treatyref33_SamePostings r5_3.2.1 [(GPosting.mk 2 1 (GEntry.mk 1 5 2 7 (-20)))] y5_3A1 r5_3.2.1.length y5_3c1 A7_20 1 1 r7_21 hr7_21) plains_treatyref33_SamePostings rfl rfl rfl bd37 rfl ⟨(ms (ms m0)), ⟨m0, trivial⟩⟩ ⟨.inr ⟨_, m0, lent_eS⟩, ⟨.inr ⟨_, (ms m0), lent_eS⟩, trivial⟩⟩) rfl (by rintro _ _ _ ⟨_, _, _, rfl, rfl⟩; first | exact ⟨_, _, rfl, rfl⟩ | exact ⟨_, [], rfl, rfl⟩) ?_
              rintro _ _ _ ⟨_, _, ⟨rfl, rfl, rfl⟩, rfl, rfl⟩
              dsimp only [List.nil_append, List.cons_append]
              refine hx_det rfl rfl rfl nofun (det_pick_on rfl hg7_g47 rfl rfl) rfl ?_
              refine hx_det rfl rfl rfl nofun (det_move rfl) rfl ?_
              refine hx_on rfl rfl rfl rfl rfl hg7_g54 nofun (det_field rfl fd25_1 rfl) rfl ?_
              refine hx_on rfl rfl rfl rfl rfl hg7_g54 nofun (det_load rfl (ms m0) (by rfl) na23 us23) rfl ?_
              refine hx_on rfl rfl rfl rfl rfl hg7_g54 nofun (det_indexP rfl rfl (ms m0) k7_p1 m0 un23 sz73) rfl ?_
              refine hx_on rfl rfl rfl rfl rfl hg7_g54 nofun (det_loadP (off := 0) rfl m0 (by rfl) (by rfl) (loaded_n (cells := [_, _, _, _, _, _, _]) ag73 sz73)) rfl ?_
              refine hx_on rfl rfl rfl rfl rfl hg7_g54 nofun (det_move rfl) rfl ?_
              refine hx_on rfl rfl rfl rfl rfl hg7_g54 nofun (det_indexO rfl rfl (ms (ms m0)) k7_p3 un23 sz73) rfl ?_
              refine hx_on rfl rfl rfl rfl rfl hg7_g54 nofun (det_loadO (off := 0) rfl (ms (ms m0)) k7_p3 (by rfl) (by rfl) (loaded_n (cells := [_, _, _, _, _, _, _]) ag73 sz73)) rfl ?_
              refine hx_on rfl rfl rfl rfl rfl hg7_g54 nofun (det_eqlS [_, _, _, _, _, _, _] [_, _, _, _, _, _, _] eq73 rfl rfl rfl rfl) rfl ?_
              refine hx_det rfl rfl rfl nofun (det_pick_on rfl hg7_g54 rfl rfl) rfl ?_
              refine hx_end ?_
              refine wl_det rfl rfl (det_assign rfl) rfl ?_
              refine wl_nil ?_
              replace h := Option.some.inj h
              subst h
              exact pn_meetG ((decide ([(ix r5_3.1.Postings 1).Number, (ix r5_3.1.Postings 1).Period, (ix r5_3.1.Postings 1).Entry.Kind, (ix r5_3.1.Postings 1).Entry.Treaty, (ix r5_3.1.Postings 1).Entry.Party, (ix r5_3.1.Postings 1).Entry.Loss, (ix r5_3.1.Postings 1).Entry.Amount] = [(ix r5_3.2.1 0).Number, (ix r5_3.2.1 0).Period, (ix r5_3.2.1 0).Entry.Kind, (ix r5_3.2.1 0).Entry.Treaty, (ix r5_3.2.1 0).Entry.Party, (ix r5_3.2.1 0).Entry.Loss, (ix r5_3.2.1 0).Entry.Amount])), ()) rfl ⟨rfl, trivial⟩ (fun _ h => h.to trivial trivial)
            · have h := ifF h hg7_g54
              refine dx_region 33 [[], [0], [0, 1], [0, 1, 2], [0, 1, 2, 3], [0, 1, 2, 3, 4], [0, 1, 2, 3, 4, 5], [0, 1, 2, 3, 4, 5, 6], [0, 1, 2, 3, 4, 5, 6, 7], [0, 1, 2, 3, 4, 5, 6, 7, 8], [0, 1, 2, 3, 4, 5, 6, 7, 8, 9], [0, 1, 2, 3, 4, 5, 6, 7, 8, 9, 10], [0, 1, 2, 3, 4, 5, 6, 7, 8, 9, 10, 11], [0, 1, 2, 3, 4, 5, 6, 7, 8, 9, 10, 11, 12], [0, 1, 2, 3, 4, 5, 6, 7, 8, 9, 10, 11, 12, 13], [0, 1, 2, 3, 4, 5, 6, 7, 8, 9, 10, 11, 12, 13, 14], [0, 1, 2, 3, 4, 5, 6, 7, 8, 9, 10, 11, 12, 13, 14, 15], [0, 1, 2, 3, 4, 5, 6, 7, 8, 9, 10, 11, 12, 13, 14, 15, 16], [0, 1, 2, 3, 4, 5, 6, 7, 8, 9, 10, 11, 12, 13, 14, 15, 16], [0, 1, 2, 3, 4, 5, 6, 7, 8, 9, 10, 11, 12, 13, 14, 15, 16, 18], [0, 1, 2, 3, 4, 5, 6, 7, 8, 9, 10, 11, 12, 13, 14, 15, 16, 18, 19], [0, 1, 2, 3, 4, 5, 6, 7, 8, 9, 10, 11, 12, 13, 14, 15, 16, 17, 18, 19, 20], [0, 1, 2, 3, 4, 5, 6, 7, 8, 9, 10, 11, 12, 13, 14, 15, 16, 17, 18, 19, 20, 21], [0, 1, 2, 3, 4, 5, 6, 7, 8, 9, 10, 11, 12, 13, 14, 15, 16, 17, 18, 19, 20, 21, 22], [0, 1, 2, 3, 4, 5, 6, 7, 8, 9, 10, 11, 12, 13, 14, 15, 16, 17, 18, 19, 20, 21, 22, 23], [0, 1, 2, 3, 4, 5, 6, 7, 8, 9, 10, 11, 12, 13, 14, 15, 16, 17, 18, 19, 20, 21, 22, 23, 24], [0, 1, 2, 3, 4, 5, 6, 7, 8, 9, 10, 11, 12, 13, 14, 15, 16, 17, 18, 19, 20, 21, 22, 23, 24, 25], [0, 1, 2, 3, 4, 5, 6, 7, 8, 9, 10, 11, 12, 13, 14, 15, 16, 17, 18, 19, 20, 21, 22, 23, 24, 25, 26], [0, 1, 2, 3, 4, 5, 6, 7, 8, 9, 10, 11, 12, 13, 14, 15, 16, 17, 18, 19, 20, 21, 22, 23], [0, 1, 2, 3, 4, 5, 6, 7, 8, 9, 10, 11, 12, 13, 14, 15, 16, 17, 18, 19, 20, 21, 22, 23, 28], [0, 1, 2, 3, 4, 5, 6, 7, 8, 9, 10, 11, 12, 13, 14, 15, 16, 17, 18, 19, 20, 21, 22, 23, 28, 29], [0, 1, 2, 3, 4, 5, 6, 7, 8, 9, 10, 11, 12, 13, 14, 15, 16, 17, 18, 19, 20, 21, 22, 23, 24, 25, 26, 27, 28, 29, 30], [0, 1, 2, 3, 4, 5, 6, 7, 8, 9, 10, 11, 12, 13, 14, 15, 16, 17, 18, 19, 20, 21, 22, 23, 24, 25, 26, 27, 28, 29, 30, 31], [0, 1, 2, 3, 4, 5, 6, 7, 8, 9, 10, 11, 12, 13, 14, 15, 16, 17, 18, 19, 20, 21, 22, 23, 24, 25, 26, 27, 28, 29, 30, 31, 32]] mixed (ord := (.det 0 (.det 1 (.det 2 (.det 3 (.det 4 (.det 5 (.det 6 (.det 7 (.det 8 (.det 9 (.det 10 (.det 11 (.det 12 (.det 13 (.det 14 (.det 15 (.det 16 (.det 17 (.det 18 (.det 19 (.alt 20 (.alt 21 (.det 22 (.det 23 (.det 24 (.det 25 (.det 26 (.det 27 (.det 28 (.det 29 (.det 30 (.det 31 (.det 32 .done))))))))))) .dead) .dead)))))))))))))))))))))) (by kernel_rfl) ?_   -- region 7
              refine hx_det rfl rfl rfl nofun (det_move rfl) rfl ?_
              refine hx_det rfl rfl rfl nofun (det_eql rfl rfl) rfl ?_
              refine hx_det rfl rfl rfl nofun (det_move rfl) rfl ?_
              refine hx_on rfl rfl rfl rfl rfl hg7_g33 nofun (det_move rfl) rfl ?_
              refine hx_on rfl rfl rfl rfl rfl hg7_g33 nofun (det_eql rfl rfl) rfl ?_
              refine hx_det rfl rfl rfl nofun (det_pick_on rfl hg7_g33 rfl rfl) rfl ?_
              refine hx_det rfl rfl rfl nofun (det_move rfl) rfl ?_
              refine hx_on rfl rfl rfl rfl rfl hg7_g37 nofun (det_move rfl) rfl ?_
              refine hx_on rfl rfl rfl rfl rfl hg7_g37 nofun (det_eql rfl rfl) rfl ?_
              refine hx_det rfl rfl rfl nofun (det_pick_on rfl hg7_g37 rfl rfl) rfl ?_
              refine hx_det rfl rfl rfl nofun (det_move rfl) rfl ?_
              refine hx_on rfl rfl rfl rfl rfl hg7_g41 nofun (det_field rfl fd25_1 rfl) rfl ?_
              refine hx_on rfl rfl rfl rfl rfl hg7_g41 nofun (det_load rfl m0 (by rfl) na23 us23) rfl ?_
              refine hx_on rfl rfl rfl rfl rfl hg7_g41 nofun (det_len rfl un23) rfl ?_
              refine hx_on rfl rfl rfl rfl rfl hg7_g41 nofun (det_eql rfl rfl) rfl ?_
              refine hx_det rfl rfl rfl nofun (det_pick_on rfl hg7_g41 rfl rfl) rfl ?_
              refine hx_det rfl rfl rfl nofun (det_move rfl) rfl ?_
              refine hx_on rfl rfl rfl rfl rfl hg7_g47 nofun (det_move rfl) rfl ?_
              refine hx_on rfl rfl rfl rfl rfl hg7_g47 nofun (det_loadN (cells := [_, _, _, _, _]) rfl (ms (ms (ms (ms (ms m0))))) (by rfl) ag41 sz41) rfl ?_
              refine hx_on rfl rfl rfl rfl rfl hg7_g47 nofun (det_build (cs := [_, _, _, _, _, _, _]) pl73 zr73 rfl rfl (by rfl)) rfl ?_
              refine hx_actG rfl rfl rfl rfl rfl hg7_g47 (act_litS lGPosting (vs := [_]) (cs := [_, _, _, _, _, _, _]) [(GPosting.mk 2 1 (GEntry.mk 1 5 2 7 (-20)))] un23 in73 rfl rfl rfl rfl rfl ⟨rfl, trivial⟩ (by rfl) rfl (litR_flat rfl)) rfl (by rintro _ _ _ ⟨A7_20, rfl, rfl, rfl⟩; first | exact ⟨_ :: [], [], rfl, rfl⟩ | exact ⟨[], [_], rfl, rfl⟩ | exact ⟨[], [], rfl, rfl⟩) ?_
              rintro _ _ _ ⟨A7_20, rfl, rfl, rfl⟩
              refine hx_actG rfl rfl rfl rfl rfl hg7_g47 (act_callL (cap := []) [eS lGPosting 73 y5_3A1 r5_3.2.1.length y5_3c1 r5_3.2.1, eS lGPosting 73 A7_20 1 1 [(GPosting.mk 2 1 (GEntry.mk 1 5 2 7 (-20)))]] (W_treatyref33_SamePostings r5_3.2.1 [(GPosting.mk 2 1 (GEntry.mk 1 5 2 7 (-20)))] y5_3A1 r5_3.2.1.length y5_3c1 A7_20 1 1 r7_21 hr7_21) plains_treatyref33_SamePostings rfl rfl rfl bd37 rfl ⟨(ms (ms m0)), ⟨m0, trivial⟩⟩ ⟨.inr ⟨_, m0, lent_eS⟩, ⟨.inr ⟨_, (ms m0), lent_eS⟩, trivial⟩⟩) rfl (by rintro _ _ _ ⟨_, _, _, rfl, rfl⟩; first | exact ⟨_, _, rfl, rfl⟩ | exact ⟨_, [], rfl, rfl⟩) ?_
              rintro _ _ _ ⟨_, _, ⟨rfl, rfl, rfl⟩, rfl, rfl⟩
              dsimp only [List.nil_append, List.cons_append]
              refine hx_det rfl rfl rfl nofun (det_pick_on rfl hg7_g47 rfl rfl) rfl ?_
              refine hx_det rfl rfl rfl nofun (det_move rfl) rfl ?_
              refine hx_off rfl rfl rfl rfl rfl hg7_g54 rfl ?_
              refine hx_off rfl rfl rfl rfl rfl hg7_g54 rfl ?_
              refine hx_off rfl rfl rfl rfl rfl hg7_g54 rfl ?_
              refine hx_off rfl rfl rfl rfl rfl hg7_g54 rfl ?_
              refine hx_off rfl rfl rfl rfl rfl hg7_g54 rfl ?_
              refine hx_off rfl rfl rfl rfl rfl hg7_g54 rfl ?_
              refine hx_off rfl rfl rfl rfl rfl hg7_g54 rfl ?_
              refine hx_off rfl rfl rfl rfl rfl hg7_g54 rfl ?_
              refine hx_det rfl rfl rfl nofun (det_pick_off rfl hg7_g54 rfl rfl) rfl ?_
              refine hx_end ?_
              refine wl_det rfl rfl (det_assign rfl) rfl ?_
              refine wl_nil ?_
              replace h := Option.some.inj h
              subst h
              exact pn_meetG (false, ()) rfl ⟨rfl, trivial⟩ (fun _ h => h.to trivial trivial)
          · have h := ifF h hg7_g47
            refine dx_region 33 [[], [0], [0, 1], [0, 1, 2], [0, 1, 2, 3], [0, 1, 2, 3, 4], [0, 1, 2, 3, 4, 5], [0, 1, 2, 3, 4, 5, 6], [0, 1, 2, 3, 4, 5, 6, 7], [0, 1, 2, 3, 4, 5, 6, 7, 8], [0, 1, 2, 3, 4, 5, 6, 7, 8, 9], [0, 1, 2, 3, 4, 5, 6, 7, 8, 9, 10], [0, 1, 2, 3, 4, 5, 6, 7, 8, 9, 10, 11], [0, 1, 2, 3, 4, 5, 6, 7, 8, 9, 10, 11, 12], [0, 1, 2, 3, 4, 5, 6, 7, 8, 9, 10, 11, 12, 13], [0, 1, 2, 3, 4, 5, 6, 7, 8, 9, 10, 11, 12, 13, 14], [0, 1, 2, 3, 4, 5, 6, 7, 8, 9, 10, 11, 12, 13, 14, 15], [0, 1, 2, 3, 4, 5, 6, 7, 8, 9, 10, 11, 12, 13, 14, 15, 16], [0, 1, 2, 3, 4, 5, 6, 7, 8, 9, 10, 11, 12, 13, 14, 15, 16], [0, 1, 2, 3, 4, 5, 6, 7, 8, 9, 10, 11, 12, 13, 14, 15, 16, 18], [0, 1, 2, 3, 4, 5, 6, 7, 8, 9, 10, 11, 12, 13, 14, 15, 16, 18, 19], [0, 1, 2, 3, 4, 5, 6, 7, 8, 9, 10, 11, 12, 13, 14, 15, 16, 17, 18, 19, 20], [0, 1, 2, 3, 4, 5, 6, 7, 8, 9, 10, 11, 12, 13, 14, 15, 16, 17, 18, 19, 20, 21], [0, 1, 2, 3, 4, 5, 6, 7, 8, 9, 10, 11, 12, 13, 14, 15, 16, 17, 18, 19, 20, 21, 22], [0, 1, 2, 3, 4, 5, 6, 7, 8, 9, 10, 11, 12, 13, 14, 15, 16, 17, 18, 19, 20, 21, 22, 23], [0, 1, 2, 3, 4, 5, 6, 7, 8, 9, 10, 11, 12, 13, 14, 15, 16, 17, 18, 19, 20, 21, 22, 23, 24], [0, 1, 2, 3, 4, 5, 6, 7, 8, 9, 10, 11, 12, 13, 14, 15, 16, 17, 18, 19, 20, 21, 22, 23, 24, 25], [0, 1, 2, 3, 4, 5, 6, 7, 8, 9, 10, 11, 12, 13, 14, 15, 16, 17, 18, 19, 20, 21, 22, 23, 24, 25, 26], [0, 1, 2, 3, 4, 5, 6, 7, 8, 9, 10, 11, 12, 13, 14, 15, 16, 17, 18, 19, 20, 21, 22, 23], [0, 1, 2, 3, 4, 5, 6, 7, 8, 9, 10, 11, 12, 13, 14, 15, 16, 17, 18, 19, 20, 21, 22, 23, 28], [0, 1, 2, 3, 4, 5, 6, 7, 8, 9, 10, 11, 12, 13, 14, 15, 16, 17, 18, 19, 20, 21, 22, 23, 28, 29], [0, 1, 2, 3, 4, 5, 6, 7, 8, 9, 10, 11, 12, 13, 14, 15, 16, 17, 18, 19, 20, 21, 22, 23, 24, 25, 26, 27, 28, 29, 30], [0, 1, 2, 3, 4, 5, 6, 7, 8, 9, 10, 11, 12, 13, 14, 15, 16, 17, 18, 19, 20, 21, 22, 23, 24, 25, 26, 27, 28, 29, 30, 31], [0, 1, 2, 3, 4, 5, 6, 7, 8, 9, 10, 11, 12, 13, 14, 15, 16, 17, 18, 19, 20, 21, 22, 23, 24, 25, 26, 27, 28, 29, 30, 31, 32]] mixed (ord := (.det 0 (.det 1 (.det 2 (.det 3 (.det 4 (.det 5 (.det 6 (.det 7 (.det 8 (.det 9 (.det 10 (.det 11 (.det 12 (.det 13 (.det 14 (.det 15 (.det 16 (.det 17 (.det 18 (.det 19 (.det 20 (.det 21 (.det 22 (.det 23 (.det 24 (.det 25 (.det 26 (.det 27 (.det 28 (.det 29 (.det 30 (.det 31 (.det 32 .done)))))))))))))))))))))))))))))))))) (by kernel_rfl) ?_   -- region 7
            refine hx_det rfl rfl rfl nofun (det_move rfl) rfl ?_
            refine hx_det rfl rfl rfl nofun (det_eql rfl rfl) rfl ?_
            refine hx_det rfl rfl rfl nofun (det_move rfl) rfl ?_
            refine hx_on rfl rfl rfl rfl rfl hg7_g33 nofun (det_move rfl) rfl ?_
            refine hx_on rfl rfl rfl rfl rfl hg7_g33 nofun (det_eql rfl rfl) rfl ?_
            refine hx_det rfl rfl rfl nofun (det_pick_on rfl hg7_g33 rfl rfl) rfl ?_
            refine hx_det rfl rfl rfl nofun (det_move rfl) rfl ?_
            refine hx_on rfl rfl rfl rfl rfl hg7_g37 nofun (det_move rfl) rfl ?_
            refine hx_on rfl rfl rfl rfl rfl hg7_g37 nofun (det_eql rfl rfl) rfl ?_
            refine hx_det rfl rfl rfl nofun (det_pick_on rfl hg7_g37 rfl rfl) rfl ?_
            refine hx_det rfl rfl rfl nofun (det_move rfl) rfl ?_
            refine hx_on rfl rfl rfl rfl rfl hg7_g41 nofun (det_field rfl fd25_1 rfl) rfl ?_
            refine hx_on rfl rfl rfl rfl rfl hg7_g41 nofun (det_load rfl m0 (by rfl) na23 us23) rfl ?_
            refine hx_on rfl rfl rfl rfl rfl hg7_g41 nofun (det_len rfl un23) rfl ?_
            refine hx_on rfl rfl rfl rfl rfl hg7_g41 nofun (det_eql rfl rfl) rfl ?_
            refine hx_det rfl rfl rfl nofun (det_pick_on rfl hg7_g41 rfl rfl) rfl ?_
            refine hx_det rfl rfl rfl nofun (det_move rfl) rfl ?_
            refine hx_off rfl rfl rfl rfl rfl hg7_g47 rfl ?_
            refine hx_off rfl rfl rfl rfl rfl hg7_g47 rfl ?_
            refine hx_off rfl rfl rfl rfl rfl hg7_g47 rfl ?_
            refine hx_off rfl rfl rfl rfl rfl hg7_g47 rfl ?_
            refine hx_off rfl rfl rfl rfl rfl hg7_g47 rfl ?_
            refine hx_det rfl rfl rfl nofun (det_pick_off rfl hg7_g47 rfl rfl) rfl ?_
            refine hx_det rfl rfl rfl nofun (det_move rfl) rfl ?_
            refine hx_off rfl rfl rfl rfl rfl rfl rfl ?_
            refine hx_off rfl rfl rfl rfl rfl rfl rfl ?_
            refine hx_off rfl rfl rfl rfl rfl rfl rfl ?_
            refine hx_off rfl rfl rfl rfl rfl rfl rfl ?_
            refine hx_off rfl rfl rfl rfl rfl rfl rfl ?_
            refine hx_off rfl rfl rfl rfl rfl rfl rfl ?_
            refine hx_off rfl rfl rfl rfl rfl rfl rfl ?_
            refine hx_off rfl rfl rfl rfl rfl rfl rfl ?_
            refine hx_det rfl rfl rfl nofun (det_pick_off rfl rfl rfl rfl) rfl ?_
            refine hx_end ?_
            refine wl_det rfl rfl (det_assign rfl) rfl ?_
            refine wl_nil ?_
            replace h := Option.some.inj h
            subst h
            exact pn_meetG (false, ()) rfl ⟨rfl, trivial⟩ (fun _ h => h.to trivial trivial)
        · have h := ifF h hg7_g41
          refine dx_region 33 [[], [0], [0, 1], [0, 1, 2], [0, 1, 2, 3], [0, 1, 2, 3, 4], [0, 1, 2, 3, 4, 5], [0, 1, 2, 3, 4, 5, 6], [0, 1, 2, 3, 4, 5, 6, 7], [0, 1, 2, 3, 4, 5, 6, 7, 8], [0, 1, 2, 3, 4, 5, 6, 7, 8, 9], [0, 1, 2, 3, 4, 5, 6, 7, 8, 9, 10], [0, 1, 2, 3, 4, 5, 6, 7, 8, 9, 10, 11], [0, 1, 2, 3, 4, 5, 6, 7, 8, 9, 10, 11, 12], [0, 1, 2, 3, 4, 5, 6, 7, 8, 9, 10, 11, 12, 13], [0, 1, 2, 3, 4, 5, 6, 7, 8, 9, 10, 11, 12, 13, 14], [0, 1, 2, 3, 4, 5, 6, 7, 8, 9, 10, 11, 12, 13, 14, 15], [0, 1, 2, 3, 4, 5, 6, 7, 8, 9, 10, 11, 12, 13, 14, 15, 16], [0, 1, 2, 3, 4, 5, 6, 7, 8, 9, 10, 11, 12, 13, 14, 15, 16], [0, 1, 2, 3, 4, 5, 6, 7, 8, 9, 10, 11, 12, 13, 14, 15, 16, 18], [0, 1, 2, 3, 4, 5, 6, 7, 8, 9, 10, 11, 12, 13, 14, 15, 16, 18, 19], [0, 1, 2, 3, 4, 5, 6, 7, 8, 9, 10, 11, 12, 13, 14, 15, 16, 17, 18, 19, 20], [0, 1, 2, 3, 4, 5, 6, 7, 8, 9, 10, 11, 12, 13, 14, 15, 16, 17, 18, 19, 20, 21], [0, 1, 2, 3, 4, 5, 6, 7, 8, 9, 10, 11, 12, 13, 14, 15, 16, 17, 18, 19, 20, 21, 22], [0, 1, 2, 3, 4, 5, 6, 7, 8, 9, 10, 11, 12, 13, 14, 15, 16, 17, 18, 19, 20, 21, 22, 23], [0, 1, 2, 3, 4, 5, 6, 7, 8, 9, 10, 11, 12, 13, 14, 15, 16, 17, 18, 19, 20, 21, 22, 23, 24], [0, 1, 2, 3, 4, 5, 6, 7, 8, 9, 10, 11, 12, 13, 14, 15, 16, 17, 18, 19, 20, 21, 22, 23, 24, 25], [0, 1, 2, 3, 4, 5, 6, 7, 8, 9, 10, 11, 12, 13, 14, 15, 16, 17, 18, 19, 20, 21, 22, 23, 24, 25, 26], [0, 1, 2, 3, 4, 5, 6, 7, 8, 9, 10, 11, 12, 13, 14, 15, 16, 17, 18, 19, 20, 21, 22, 23], [0, 1, 2, 3, 4, 5, 6, 7, 8, 9, 10, 11, 12, 13, 14, 15, 16, 17, 18, 19, 20, 21, 22, 23, 28], [0, 1, 2, 3, 4, 5, 6, 7, 8, 9, 10, 11, 12, 13, 14, 15, 16, 17, 18, 19, 20, 21, 22, 23, 28, 29], [0, 1, 2, 3, 4, 5, 6, 7, 8, 9, 10, 11, 12, 13, 14, 15, 16, 17, 18, 19, 20, 21, 22, 23, 24, 25, 26, 27, 28, 29, 30], [0, 1, 2, 3, 4, 5, 6, 7, 8, 9, 10, 11, 12, 13, 14, 15, 16, 17, 18, 19, 20, 21, 22, 23, 24, 25, 26, 27, 28, 29, 30, 31], [0, 1, 2, 3, 4, 5, 6, 7, 8, 9, 10, 11, 12, 13, 14, 15, 16, 17, 18, 19, 20, 21, 22, 23, 24, 25, 26, 27, 28, 29, 30, 31, 32]] mixed (ord := (.det 0 (.det 1 (.det 2 (.det 3 (.det 4 (.det 5 (.det 6 (.det 7 (.det 8 (.det 9 (.det 10 (.det 11 (.det 12 (.det 13 (.det 14 (.det 15 (.det 16 (.det 17 (.det 18 (.det 19 (.det 20 (.det 21 (.det 22 (.det 23 (.det 24 (.det 25 (.det 26 (.det 27 (.det 28 (.det 29 (.det 30 (.det 31 (.det 32 .done)))))))))))))))))))))))))))))))))) (by kernel_rfl) ?_   -- region 7
          refine hx_det rfl rfl rfl nofun (det_move rfl) rfl ?_
          refine hx_det rfl rfl rfl nofun (det_eql rfl rfl) rfl ?_
          refine hx_det rfl rfl rfl nofun (det_move rfl) rfl ?_
          refine hx_on rfl rfl rfl rfl rfl hg7_g33 nofun (det_move rfl) rfl ?_
          refine hx_on rfl rfl rfl rfl rfl hg7_g33 nofun (det_eql rfl rfl) rfl ?_
          refine hx_det rfl rfl rfl nofun (det_pick_on rfl hg7_g33 rfl rfl) rfl ?_
          refine hx_det rfl rfl rfl nofun (det_move rfl) rfl ?_
          refine hx_on rfl rfl rfl rfl rfl hg7_g37 nofun (det_move rfl) rfl ?_
          refine hx_on rfl rfl rfl rfl rfl hg7_g37 nofun (det_eql rfl rfl) rfl ?_
          refine hx_det rfl rfl rfl nofun (det_pick_on rfl hg7_g37 rfl rfl) rfl ?_
          refine hx_det rfl rfl rfl nofun (det_move rfl) rfl ?_
          refine hx_off rfl rfl rfl rfl rfl hg7_g41 rfl ?_
          refine hx_off rfl rfl rfl rfl rfl hg7_g41 rfl ?_
          refine hx_off rfl rfl rfl rfl rfl hg7_g41 rfl ?_
          refine hx_off rfl rfl rfl rfl rfl hg7_g41 rfl ?_
          refine hx_det rfl rfl rfl nofun (det_pick_off rfl hg7_g41 rfl rfl) rfl ?_
          refine hx_det rfl rfl rfl nofun (det_move rfl) rfl ?_
          refine hx_off rfl rfl rfl rfl rfl rfl rfl ?_
          refine hx_off rfl rfl rfl rfl rfl rfl rfl ?_
          refine hx_off rfl rfl rfl rfl rfl rfl rfl ?_
          refine hx_off rfl rfl rfl rfl rfl rfl rfl ?_
          refine hx_off rfl rfl rfl rfl rfl rfl rfl ?_
          refine hx_det rfl rfl rfl nofun (det_pick_off rfl rfl rfl rfl) rfl ?_
          refine hx_det rfl rfl rfl nofun (det_move rfl) rfl ?_
          refine hx_off rfl rfl rfl rfl rfl rfl rfl ?_
          refine hx_off rfl rfl rfl rfl rfl rfl rfl ?_
          refine hx_off rfl rfl rfl rfl rfl rfl rfl ?_
          refine hx_off rfl rfl rfl rfl rfl rfl rfl ?_
          refine hx_off rfl rfl rfl rfl rfl rfl rfl ?_
          refine hx_off rfl rfl rfl rfl rfl rfl rfl ?_
          refine hx_off rfl rfl rfl rfl rfl rfl rfl ?_
          refine hx_off rfl rfl rfl rfl rfl rfl rfl ?_
          refine hx_det rfl rfl rfl nofun (det_pick_off rfl rfl rfl rfl) rfl ?_
          refine hx_end ?_
          refine wl_det rfl rfl (det_assign rfl) rfl ?_
          refine wl_nil ?_
          replace h := Option.some.inj h
          subst h
          exact pn_meetG (false, ()) rfl ⟨rfl, trivial⟩ (fun _ h => h.to trivial trivial)
      · have h := ifF h hg7_g37
        refine dx_region 33 [[], [0], [0, 1], [0, 1, 2], [0, 1, 2, 3], [0, 1, 2, 3, 4], [0, 1, 2, 3, 4, 5], [0, 1, 2, 3, 4, 5, 6], [0, 1, 2, 3, 4, 5, 6, 7], [0, 1, 2, 3, 4, 5, 6, 7, 8], [0, 1, 2, 3, 4, 5, 6, 7, 8, 9], [0, 1, 2, 3, 4, 5, 6, 7, 8, 9, 10], [0, 1, 2, 3, 4, 5, 6, 7, 8, 9, 10, 11], [0, 1, 2, 3, 4, 5, 6, 7, 8, 9, 10, 11, 12], [0, 1, 2, 3, 4, 5, 6, 7, 8, 9, 10, 11, 12, 13], [0, 1, 2, 3, 4, 5, 6, 7, 8, 9, 10, 11, 12, 13, 14], [0, 1, 2, 3, 4, 5, 6, 7, 8, 9, 10, 11, 12, 13, 14, 15], [0, 1, 2, 3, 4, 5, 6, 7, 8, 9, 10, 11, 12, 13, 14, 15, 16], [0, 1, 2, 3, 4, 5, 6, 7, 8, 9, 10, 11, 12, 13, 14, 15, 16], [0, 1, 2, 3, 4, 5, 6, 7, 8, 9, 10, 11, 12, 13, 14, 15, 16, 18], [0, 1, 2, 3, 4, 5, 6, 7, 8, 9, 10, 11, 12, 13, 14, 15, 16, 18, 19], [0, 1, 2, 3, 4, 5, 6, 7, 8, 9, 10, 11, 12, 13, 14, 15, 16, 17, 18, 19, 20], [0, 1, 2, 3, 4, 5, 6, 7, 8, 9, 10, 11, 12, 13, 14, 15, 16, 17, 18, 19, 20, 21], [0, 1, 2, 3, 4, 5, 6, 7, 8, 9, 10, 11, 12, 13, 14, 15, 16, 17, 18, 19, 20, 21, 22], [0, 1, 2, 3, 4, 5, 6, 7, 8, 9, 10, 11, 12, 13, 14, 15, 16, 17, 18, 19, 20, 21, 22, 23], [0, 1, 2, 3, 4, 5, 6, 7, 8, 9, 10, 11, 12, 13, 14, 15, 16, 17, 18, 19, 20, 21, 22, 23, 24], [0, 1, 2, 3, 4, 5, 6, 7, 8, 9, 10, 11, 12, 13, 14, 15, 16, 17, 18, 19, 20, 21, 22, 23, 24, 25], [0, 1, 2, 3, 4, 5, 6, 7, 8, 9, 10, 11, 12, 13, 14, 15, 16, 17, 18, 19, 20, 21, 22, 23, 24, 25, 26], [0, 1, 2, 3, 4, 5, 6, 7, 8, 9, 10, 11, 12, 13, 14, 15, 16, 17, 18, 19, 20, 21, 22, 23], [0, 1, 2, 3, 4, 5, 6, 7, 8, 9, 10, 11, 12, 13, 14, 15, 16, 17, 18, 19, 20, 21, 22, 23, 28], [0, 1, 2, 3, 4, 5, 6, 7, 8, 9, 10, 11, 12, 13, 14, 15, 16, 17, 18, 19, 20, 21, 22, 23, 28, 29], [0, 1, 2, 3, 4, 5, 6, 7, 8, 9, 10, 11, 12, 13, 14, 15, 16, 17, 18, 19, 20, 21, 22, 23, 24, 25, 26, 27, 28, 29, 30], [0, 1, 2, 3, 4, 5, 6, 7, 8, 9, 10, 11, 12, 13, 14, 15, 16, 17, 18, 19, 20, 21, 22, 23, 24, 25, 26, 27, 28, 29, 30, 31], [0, 1, 2, 3, 4, 5, 6, 7, 8, 9, 10, 11, 12, 13, 14, 15, 16, 17, 18, 19, 20, 21, 22, 23, 24, 25, 26, 27, 28, 29, 30, 31, 32]] mixed (ord := (.det 0 (.det 1 (.det 2 (.det 3 (.det 4 (.det 5 (.det 6 (.det 7 (.det 8 (.det 9 (.det 10 (.det 11 (.det 12 (.det 13 (.det 14 (.det 15 (.det 16 (.det 17 (.det 18 (.det 19 (.det 20 (.det 21 (.det 22 (.det 23 (.det 24 (.det 25 (.det 26 (.det 27 (.det 28 (.det 29 (.det 30 (.det 31 (.det 32 .done)))))))))))))))))))))))))))))))))) (by kernel_rfl) ?_   -- region 7
        refine hx_det rfl rfl rfl nofun (det_move rfl) rfl ?_
        refine hx_det rfl rfl rfl nofun (det_eql rfl rfl) rfl ?_
        refine hx_det rfl rfl rfl nofun (det_move rfl) rfl ?_
        refine hx_on rfl rfl rfl rfl rfl hg7_g33 nofun (det_move rfl) rfl ?_
        refine hx_on rfl rfl rfl rfl rfl hg7_g33 nofun (det_eql rfl rfl) rfl ?_
        refine hx_det rfl rfl rfl nofun (det_pick_on rfl hg7_g33 rfl rfl) rfl ?_
        refine hx_det rfl rfl rfl nofun (det_move rfl) rfl ?_
        refine hx_off rfl rfl rfl rfl rfl hg7_g37 rfl ?_
        refine hx_off rfl rfl rfl rfl rfl hg7_g37 rfl ?_
        refine hx_det rfl rfl rfl nofun (det_pick_off rfl hg7_g37 rfl rfl) rfl ?_
        refine hx_det rfl rfl rfl nofun (det_move rfl) rfl ?_
        refine hx_off rfl rfl rfl rfl rfl rfl rfl ?_
        refine hx_off rfl rfl rfl rfl rfl rfl rfl ?_
        refine hx_off rfl rfl rfl rfl rfl rfl rfl ?_
        refine hx_off rfl rfl rfl rfl rfl rfl rfl ?_
        refine hx_det rfl rfl rfl nofun (det_pick_off rfl rfl rfl rfl) rfl ?_
        refine hx_det rfl rfl rfl nofun (det_move rfl) rfl ?_
        refine hx_off rfl rfl rfl rfl rfl rfl rfl ?_
        refine hx_off rfl rfl rfl rfl rfl rfl rfl ?_
        refine hx_off rfl rfl rfl rfl rfl rfl rfl ?_
        refine hx_off rfl rfl rfl rfl rfl rfl rfl ?_
        refine hx_off rfl rfl rfl rfl rfl rfl rfl ?_
        refine hx_det rfl rfl rfl nofun (det_pick_off rfl rfl rfl rfl) rfl ?_
        refine hx_det rfl rfl rfl nofun (det_move rfl) rfl ?_
        refine hx_off rfl rfl rfl rfl rfl rfl rfl ?_
        refine hx_off rfl rfl rfl rfl rfl rfl rfl ?_
        refine hx_off rfl rfl rfl rfl rfl rfl rfl ?_
        refine hx_off rfl rfl rfl rfl rfl rfl rfl ?_
        refine hx_off rfl rfl rfl rfl rfl rfl rfl ?_
        refine hx_off rfl rfl rfl rfl rfl rfl rfl ?_
        refine hx_off rfl rfl rfl rfl rfl rfl rfl ?_
        refine hx_off rfl rfl rfl rfl rfl rfl rfl ?_
        refine hx_det rfl rfl rfl nofun (det_pick_off rfl rfl rfl rfl) rfl ?_
        refine hx_end ?_
        refine wl_det rfl rfl (det_assign rfl) rfl ?_
        refine wl_nil ?_
        replace h := Option.some.inj h
        subst h
        exact pn_meetG (false, ()) rfl ⟨rfl, trivial⟩ (fun _ h => h.to trivial trivial)
    · have h := ifF h hg7_g33
      refine dx_region 33 [[], [0], [0, 1], [0, 1, 2], [0, 1, 2, 3], [0, 1, 2, 3, 4], [0, 1, 2, 3, 4, 5], [0, 1, 2, 3, 4, 5, 6], [0, 1, 2, 3, 4, 5, 6, 7], [0, 1, 2, 3, 4, 5, 6, 7, 8], [0, 1, 2, 3, 4, 5, 6, 7, 8, 9], [0, 1, 2, 3, 4, 5, 6, 7, 8, 9, 10], [0, 1, 2, 3, 4, 5, 6, 7, 8, 9, 10, 11], [0, 1, 2, 3, 4, 5, 6, 7, 8, 9, 10, 11, 12], [0, 1, 2, 3, 4, 5, 6, 7, 8, 9, 10, 11, 12, 13], [0, 1, 2, 3, 4, 5, 6, 7, 8, 9, 10, 11, 12, 13, 14], [0, 1, 2, 3, 4, 5, 6, 7, 8, 9, 10, 11, 12, 13, 14, 15], [0, 1, 2, 3, 4, 5, 6, 7, 8, 9, 10, 11, 12, 13, 14, 15, 16], [0, 1, 2, 3, 4, 5, 6, 7, 8, 9, 10, 11, 12, 13, 14, 15, 16], [0, 1, 2, 3, 4, 5, 6, 7, 8, 9, 10, 11, 12, 13, 14, 15, 16, 18], [0, 1, 2, 3, 4, 5, 6, 7, 8, 9, 10, 11, 12, 13, 14, 15, 16, 18, 19], [0, 1, 2, 3, 4, 5, 6, 7, 8, 9, 10, 11, 12, 13, 14, 15, 16, 17, 18, 19, 20], [0, 1, 2, 3, 4, 5, 6, 7, 8, 9, 10, 11, 12, 13, 14, 15, 16, 17, 18, 19, 20, 21], [0, 1, 2, 3, 4, 5, 6, 7, 8, 9, 10, 11, 12, 13, 14, 15, 16, 17, 18, 19, 20, 21, 22], [0, 1, 2, 3, 4, 5, 6, 7, 8, 9, 10, 11, 12, 13, 14, 15, 16, 17, 18, 19, 20, 21, 22, 23], [0, 1, 2, 3, 4, 5, 6, 7, 8, 9, 10, 11, 12, 13, 14, 15, 16, 17, 18, 19, 20, 21, 22, 23, 24], [0, 1, 2, 3, 4, 5, 6, 7, 8, 9, 10, 11, 12, 13, 14, 15, 16, 17, 18, 19, 20, 21, 22, 23, 24, 25], [0, 1, 2, 3, 4, 5, 6, 7, 8, 9, 10, 11, 12, 13, 14, 15, 16, 17, 18, 19, 20, 21, 22, 23, 24, 25, 26], [0, 1, 2, 3, 4, 5, 6, 7, 8, 9, 10, 11, 12, 13, 14, 15, 16, 17, 18, 19, 20, 21, 22, 23], [0, 1, 2, 3, 4, 5, 6, 7, 8, 9, 10, 11, 12, 13, 14, 15, 16, 17, 18, 19, 20, 21, 22, 23, 28], [0, 1, 2, 3, 4, 5, 6, 7, 8, 9, 10, 11, 12, 13, 14, 15, 16, 17, 18, 19, 20, 21, 22, 23, 28, 29], [0, 1, 2, 3, 4, 5, 6, 7, 8, 9, 10, 11, 12, 13, 14, 15, 16, 17, 18, 19, 20, 21, 22, 23, 24, 25, 26, 27, 28, 29, 30], [0, 1, 2, 3, 4, 5, 6, 7, 8, 9, 10, 11, 12, 13, 14, 15, 16, 17, 18, 19, 20, 21, 22, 23, 24, 25, 26, 27, 28, 29, 30, 31], [0, 1, 2, 3, 4, 5, 6, 7, 8, 9, 10, 11, 12, 13, 14, 15, 16, 17, 18, 19, 20, 21, 22, 23, 24, 25, 26, 27, 28, 29, 30, 31, 32]] mixed (ord := (.det 0 (.det 1 (.det 2 (.det 3 (.det 4 (.det 5 (.det 6 (.det 7 (.det 8 (.det 9 (.det 10 (.det 11 (.det 12 (.det 13 (.det 14 (.det 15 (.det 16 (.det 17 (.det 18 (.det 19 (.det 20 (.det 21 (.det 22 (.det 23 (.det 24 (.det 25 (.det 26 (.det 27 (.det 28 (.det 29 (.det 30 (.det 31 (.det 32 .done)))))))))))))))))))))))))))))))))) (by kernel_rfl) ?_   -- region 7
      refine hx_det rfl rfl rfl nofun (det_move rfl) rfl ?_
      refine hx_det rfl rfl rfl nofun (det_eql rfl rfl) rfl ?_
      refine hx_det rfl rfl rfl nofun (det_move rfl) rfl ?_
      refine hx_off rfl rfl rfl rfl rfl hg7_g33 rfl ?_
      refine hx_off rfl rfl rfl rfl rfl hg7_g33 rfl ?_
      refine hx_det rfl rfl rfl nofun (det_pick_off rfl hg7_g33 rfl rfl) rfl ?_
      refine hx_det rfl rfl rfl nofun (det_move rfl) rfl ?_
      refine hx_off rfl rfl rfl rfl rfl rfl rfl ?_
      refine hx_off rfl rfl rfl rfl rfl rfl rfl ?_
      refine hx_det rfl rfl rfl nofun (det_pick_off rfl rfl rfl rfl) rfl ?_
      refine hx_det rfl rfl rfl nofun (det_move rfl) rfl ?_
      refine hx_off rfl rfl rfl rfl rfl rfl rfl ?_
      refine hx_off rfl rfl rfl rfl rfl rfl rfl ?_
      refine hx_off rfl rfl rfl rfl rfl rfl rfl ?_
      refine hx_off rfl rfl rfl rfl rfl rfl rfl ?_
      refine hx_det rfl rfl rfl nofun (det_pick_off rfl rfl rfl rfl) rfl ?_
      refine hx_det rfl rfl rfl nofun (det_move rfl) rfl ?_
      refine hx_off rfl rfl rfl rfl rfl rfl rfl ?_
      refine hx_off rfl rfl rfl rfl rfl rfl rfl ?_
      refine hx_off rfl rfl rfl rfl rfl rfl rfl ?_
      refine hx_off rfl rfl rfl rfl rfl rfl rfl ?_
      refine hx_off rfl rfl rfl rfl rfl rfl rfl ?_
      refine hx_det rfl rfl rfl nofun (det_pick_off rfl rfl rfl rfl) rfl ?_
      refine hx_det rfl rfl rfl nofun (det_move rfl) rfl ?_
      refine hx_off rfl rfl rfl rfl rfl rfl rfl ?_
      refine hx_off rfl rfl rfl rfl rfl rfl rfl ?_
      refine hx_off rfl rfl rfl rfl rfl rfl rfl ?_
      refine hx_off rfl rfl rfl rfl rfl rfl rfl ?_
      refine hx_off rfl rfl rfl rfl rfl rfl rfl ?_
      refine hx_off rfl rfl rfl rfl rfl rfl rfl ?_
      refine hx_off rfl rfl rfl rfl rfl rfl rfl ?_
      refine hx_off rfl rfl rfl rfl rfl rfl rfl ?_
      refine hx_det rfl rfl rfl nofun (det_pick_off rfl rfl rfl rfl) rfl ?_
      refine hx_end ?_
      refine wl_det rfl rfl (det_assign rfl) rfl ?_
      refine wl_nil ?_
      replace h := Option.some.inj h
      subst h
      exact pn_meetG (false, ()) rfl ⟨rfl, trivial⟩ (fun _ h => h.to trivial trivial)
  rintro ⟨s14, _⟩ e14
  dsimp only at e14 ⊢
  subst e14
  have h := ho14
  refine wc_ret ?_
  replace h := Option.some.inj h
  subst h
  refine pn_ret (vs := [_]) rfl ⟨rfl, trivial⟩ ⟨rfl, rfl, rfl⟩ (fun _ h => h.to trivial trivial)
def Q_treatylaw33_LedgerLast (r : Bool) : Value → List Ent → List Fact → Prop := fun v θ κ => v = .bool r ∧ θ = [] ∧ κ = []
theorem plains_treatylaw33_LedgerLast {r : Bool} : ∀ v θ κ, Q_treatylaw33_LedgerLast r v θ κ → Plains θ := by
  rintro _ _ _ ⟨rfl, rfl, rfl⟩
  exact trivial
set_option maxHeartbeats 4000000 in
set_option maxRecDepth 100000 in
theorem W_treatylaw33_LedgerLast (a0 : (List (List Int))) (a1 : (List Bool)) (A0 : Option Addr) (n0 : Nat) (c0 : Nat) (A3 : Option Addr) (n3 : Nat) (c3 : Nat) (r : Bool) (h : treatylaw33_LedgerLast a0 a1 = some r) : Spec Try.prog 9 [.slice A0 n0 c0, .slice A3 n3 c3] [] [fV (lSlice (lSlice (lInt .i64))) (.slice A0 n0 c0) a0, fV (lSlice lBool) (.slice A3 n3 c3) a1] (Q_treatylaw33_LedgerLast r) := by
  unfold treatylaw33_LedgerLast at h
  refine spec_of (σ := [(0, _), (1, _)]) Try.func9 rfl rfl rfl rfl ?_
  intro C
  refine wc_know (fun _ h => h.lenF m0) (fun e => ?_)
  subst e
  refine wc_know (fun _ h => h.lenF (ms m0)) (fun e => ?_)
  subst e
  refine wc_seq ?_
  refine wc_region ?_   -- region 0
  refine wl_det rfl rfl (det_assign rfl) rfl ?_
  refine wl_nil ?_
  refine pn_then ?_
  refine wc_seq ?_
  refine wc_region ?_   -- region 1
  refine wl_act (act_alloc (cs := [_, _]) zr25 rfl) rfl rfl rfl ?_
  rintro _ _ _ ⟨b1_0, rfl, rfl, rfl⟩
  refine wl_act (act_alloc (cs := [_, _]) zr25 rfl) rfl rfl rfl ?_
  rintro _ _ _ ⟨b1_1, rfl, rfl, rfl⟩
  refine wl_nil ?_
  refine pn_then ?_
  refine wc_seq ?_
  refine wc_region ?_   -- region 2
  refine wl_det rfl rfl (det_assign rfl) rfl ?_
  refine wl_nil ?_
  refine pn_then ?_
  obtain ⟨q6, h, ho6⟩ := bind_some h
  refine wc_meetG (G := (Int × (List GPosting) × (List GEntry)) × Option Addr × Nat × Nat × Option Addr × Nat × Nat × Unit) (fun (s6, _, _, _, _, _, _, _) => (.inl s6) = q6) (fun (_, _, _, _, A6_3, n6_3, c6_3, _) => [(5, .pointer (some ⟨b1_0, 0, none⟩)), (6, .pointer (some ⟨b1_1, 0, none⟩)), (7, .slice A6_3 n6_3 c6_3)]) (fun (s6, A6_0, n6_0, c6_0, _, _, _, _) => [eBlk b1_0 25 [.int .i64 s6.1, .slice A6_0 n6_0 c6_0], eBlk b1_1 25 [.int .i64 0, .slice none 0 0]]) (fun (s6, A6_0, n6_0, c6_0, A6_3, n6_3, c6_3, _) => [fV (lSlice lGPosting) (.slice A6_0 n6_0 c6_0) s6.2.1, fV (lSlice lGPosting) (.slice none 0 0) [], fV (lSlice lGEntry) (.slice A6_3 n6_3 c6_3) s6.2.2]) ?_ ?_
  · refine wc_seq ?_
    refine wc_region ?_   -- region 3
    refine wl_det rfl rfl (det_assign rfl) rfl ?_
    refine wl_nil ?_
    refine pn_then ?_
    refine wc_block ?_
    refine wc_st (fun _ h => h.zeroF lGPosting none 0) ?_
    refine wc_st (fun _ h => h.zeroF lGEntry none 0) ?_
    obtain ⟨o10, h, ho10⟩ := bind_some h
    obtain ⟨k10, hk10⟩ := loopV_some.1 h
    refine wc_loop (G := Nat × (Int × (List GPosting) × (List GEntry) × Int) × Option Addr × Nat × Nat × Option Addr × Nat × Nat × Unit) (fun g => IterN (treatylaw33_LedgerLast_l10 a0 a1) g.1 g.2.1 o10) (fun g => g.1) (fun (_, s10, _, _, _, A10_3, n10_3, c10_3, _) => [(0, .slice A0 a0.length c0), (1, .slice A3 a1.length c3), (5, .pointer (some ⟨b1_0, 0, none⟩)), (6, .pointer (some ⟨b1_1, 0, none⟩)), (7, .slice A10_3 n10_3 c10_3), (8, .int .i64 s10.2.2.2)]) (fun (_, s10, A10_0, n10_0, c10_0, _, _, _, _) => [eBlk b1_0 25 [.int .i64 s10.1, .slice A10_0 n10_0 c10_0], eBlk b1_1 25 [.int .i64 0, .slice none 0 0]]) (fun (_, s10, A10_0, n10_0, c10_0, A10_3, n10_3, c10_3, _) => [fV (lSlice (lSlice (lInt .i64))) (.slice A0 a0.length c0) a0, fV (lSlice lBool) (.slice A3 a1.length c3) a1, fV (lSlice lGPosting) (.slice A10_0 n10_0 c10_0) s10.2.1, fV (lSlice lGPosting) (.slice none 0 0) [], fV (lSlice lGEntry) (.slice A10_3 n10_3 c10_3) s10.2.2.1]) (k10, (0, [], [], 0), none, 0, 0, none, 0, 0, ()) hk10 ⟨rfl, rfl, rfl, rfl, rfl, rfl, trivial⟩ (fun _ h => h.to ⟨_, (rs r0), ⟨_, r0, trivial⟩⟩ ⟨(ms (ms m0)), ⟨(ms (ms (ms m0))), ⟨(ms m0), ⟨(ms m0), ⟨m0, trivial⟩⟩⟩⟩⟩) ?_
    rintro ⟨k10, s10, A10_0, n10_0, c10_0, A10_3, n10_3, c10_3, _⟩ hI
    obtain ⟨k10, rfl, q10, h, g10⟩ := IterN.pos hI
    dsimp only at h ⊢
    unfold treatylaw33_LedgerLast_l10 at h
    refine wc_know (fun _ h => h.lenF (ms (ms m0))) (fun e => ?_)
    subst e
    refine wc_know (fun _ h => h.lenF (ms (ms (ms (ms m0))))) (fun e => ?_)
    subst e
    refine wc_seq ?_
    refine wc_seq ?_
    refine wc_region ?_   -- region 4
    refine wl_det rfl rfl (det_move rfl) rfl ?_
    refine wl_det rfl rfl (det_move rfl) rfl ?_
    refine wl_det rfl rfl (det_len rfl un63) rfl ?_
    refine wl_det rfl rfl (det_lss rfl rfl) rfl ?_
    refine wl_det rfl rfl (det_move rfl) rfl ?_
    refine wl_way (decide (s10.2.2.2 < (a0.length : Int))) ((decide (s10.2.2.2 < (a0.length : Int))) && (decide (s10.2.2.2 < 8))) 3 25 (fun hg => ?_) (fun hg => ?_) ?_
    · have hg4_7 := hg
      refine wl_on rfl rfl rfl rfl hg4_7 ?_
      refine wl_det rfl rfl (det_move rfl) rfl ?_
      refine wl_on rfl rfl rfl rfl hg4_7 ?_
      refine wl_det rfl rfl (det_lss rfl rfl) rfl ?_
      refine wl_det rfl rfl (det_and_on rfl rfl rfl hg4_7) rfl ?_
      exact wl_nil (pn_qnE (ext_cons rfl (ext_skip rfl (ext_skip rfl (ext_skip rfl ext_refl)))) (fun _ h => h))
    · have hg4_7a := hg
      refine wl_off rfl rfl rfl rfl rfl hg4_7a rfl ?_
      refine wl_off rfl rfl rfl rfl rfl hg4_7a rfl ?_
      refine wl_det rfl rfl (det_and_off (q := (decide (s10.2.2.2 < 8))) rfl rfl rfl hg4_7a) rfl ?_
      exact wl_nil (pn_qnE (ext_cons rfl (ext_skip rfl (ext_skip rfl (ext_skip rfl ext_refl)))) (fun _ h => h))
    refine wl_nil ?_
    refine pn_then ?_
    refine wc_cond rfl (fun cd14 => ?_) (fun cd14 => ?_)
    · have h := ifT h cd14
      refine wc_skip ?_
      refine pn_then ?_
      obtain ⟨q16, h, ho16⟩ := bind_some h
      refine wc_meetG (G := (Int × (List GPosting) × (List GEntry)) × Option Addr × Nat × Nat × Option Addr × Nat × Nat × Unit) (fun (s16, _, _, _, _, _, _, _) => (.inl s16) = q16) (fun (_, _, _, _, A16_3, n16_3, c16_3, _) => [(0, .slice A0 a0.length c0), (1, .slice A3 a1.length c3), (5, .pointer (some ⟨b1_0, 0, none⟩)), (6, .pointer (some ⟨b1_1, 0, none⟩)), (7, .slice A16_3 n16_3 c16_3), (8, .int .i64 s10.2.2.2)]) (fun (s16, A16_0, n16_0, c16_0, _, _, _, _) => [eBlk b1_0 25 [.int .i64 s16.1, .slice A16_0 n16_0 c16_0], eBlk b1_1 25 [.int .i64 0, .slice none 0 0]]) (fun (s16, A16_0, n16_0, c16_0, A16_3, n16_3, c16_3, _) => [fV (lSlice (lSlice (lInt .i64))) (.slice A0 a0.length c0) a0, fV (lSlice lBool) (.slice A3 a1.length c3) a1, fV (lSlice lGPosting) (.slice A16_0 n16_0 c16_0) s16.2.1, fV (lSlice lGPosting) (.slice none 0 0) [], fV (lSlice lGEntry) (.slice A16_3 n16_3 c16_3) s16.2.2]) ?_ ?_
      · refine wc_block ?_
        refine wc_seq ?_
        refine wc_region ?_   -- region 6
        refine wl_det rfl rfl (det_move rfl) rfl ?_
        refine wl_det rfl rfl (det_move rfl) rfl ?_
        obtain ⟨k6_2, h⟩ := chk_some h
        refine wl_ex (G := Option Addr × Nat) (fun _ => _) (fun g => fPt A0 (s10.2.2.2.toNat * 1) [.slice g.1 (ix a0 s10.2.2.2).length g.2] :: fV (lSlice (lInt .i64)) (.slice g.1 (ix a0 s10.2.2.2).length g.2) (ix a0 s10.2.2.2) :: _) (fun _ => True) (fun _ h => open_slice h m0 k6_2) ?_
        rintro ⟨A6_2, c6_2⟩ -
        dsimp only
        refine wl_det rfl rfl (det_indexP rfl rfl (ms (ms m0)) k6_2 m0 un63 sz22) rfl ?_
        refine wl_det rfl rfl (det_loadP (off := 0) rfl m0 (by rfl) (by rfl) (loaded_1 na22 us22)) rfl ?_
        obtain ⟨r6_4, hr6_4, h⟩ := bind_some h
        refine wl_act (act_callS (cap := []) (W_treatymade2_New (ix a0 s10.2.2.2) A6_2 (ix a0 s10.2.2.2).length c6_2 r6_4 hr6_4) rfl rfl rfl bd14 rfl ⟨(ms m0), trivial⟩) rfl rfl rfl ?_
        rintro _ _ _ ⟨_, _, ⟨y6_4b0, y6_4A1, y6_4n1, y6_4c1, rfl, rfl, rfl⟩, rfl, rfl⟩
        dsimp only [List.nil_append, List.cons_append]
        refine wl_know (fun _ h => h.lenF m0) (fun e => ?_)
        subst e
        obtain ⟨r6_5, hr6_5, h⟩ := bind_some h
        refine wl_act (act_callS (cap := []) (W_treatymade2_Target r6_4 8 y6_4b0 y6_4A1 r6_4.L.length y6_4c1 r6_5 hr6_5) rfl rfl rfl bd36 ⟨_, r0, rfl⟩ ⟨m0, trivial⟩) rfl rfl rfl ?_
        rintro _ _ _ ⟨_, _, ⟨y6_5A0, y6_5n0, y6_5c0, y6_5A1, y6_5n1, y6_5c1, rfl, rfl, rfl⟩, rfl, rfl⟩
        dsimp only [List.nil_append, List.cons_append]
        refine wl_know (fun _ h => h.lenO m0) (fun e => ?_)
        subst e
        refine wl_know (fun _ h => h.lenF m0) (fun e => ?_)
        subst e
        refine wl_det rfl rfl (det_assign rfl) rfl ?_
        refine wl_nil ?_
        refine pn_then ?_
        refine wc_seq ?_
        refine wc_region ?_   -- region 7
        refine wl_det rfl rfl (det_loadN (cells := [_, _]) rfl (ms (ms m0)) (by rfl) ag25 sz25) rfl ?_
        refine wl_det rfl rfl (det_move rfl) rfl ?_
        refine wl_st (fun _ h => h.shutS r0) ?_
        obtain ⟨r7_2, hr7_2, h⟩ := bind_some h
        refine wl_act (act_callS (cap := []) (W_ledger_Restate (GLedger.mk s10.1 s10.2.1) r6_5.1 A10_0 s10.2.1.length c10_0 y6_5A0 r6_5.1.length y6_5c0 r7_2 hr7_2) rfl rfl rfl bd35 rfl ⟨(ms (ms (ms (ms (ms (ms (ms m0))))))), ⟨m0, trivial⟩⟩) rfl rfl rfl ?_
        rintro _ _ _ ⟨_, _, ⟨y7_2A0, y7_2n0, y7_2c0, y7_2A1, y7_2n1, y7_2c1, rfl, rfl, rfl⟩, rfl, rfl⟩
        dsimp only [List.nil_append, List.cons_append]
        refine wl_know (fun _ h => h.lenF m0) (fun e => ?_)
        subst e
        refine wl_know (fun _ h => h.lenO m0) (fun e => ?_)
        subst e
        refine wl_det rfl rfl (det_move rfl) rfl ?_
        refine wl_det rfl rfl (det_extract rfl rfl) rfl ?_
        refine wl_det rfl rfl (det_extract rfl rfl) rfl ?_
        refine wl_det rfl rfl (det_extract rfl rfl) rfl ?_
        refine wl_act (act_alloc (cs := [_, _]) zr25 rfl) rfl rfl rfl ?_
        rintro _ _ _ ⟨b7_7, rfl, rfl, rfl⟩
        refine wl_act0 (act_store (cells := [_, _]) (cs' := [_, _]) rfl rfl rfl s0 (by rfl) (of_decide_eq_true rfl) sz25 ⟨rfl, rfl, trivial⟩) rfl rfl ?_
        rintro _ _ _ ⟨rfl, rfl⟩
        refine wl_det rfl rfl (det_assign rfl) rfl ?_
        refine wl_det rfl rfl (det_assign rfl) rfl ?_
        refine wl_nil ?_
        refine pn_then ?_
        refine wc_seq ?_
        refine wc_seq ?_
        refine wc_region ?_   -- region 8
        refine wl_det rfl rfl (det_move rfl) rfl ?_
        refine wl_det rfl rfl (det_neq rfl rfl) rfl ?_
        refine wl_nil ?_
        refine pn_then ?_
        refine wc_cond rfl (fun cd25 => ?_) (fun cd25 => ?_)
        · have h := ifT h cd25
          refine wc_seq ?_
          refine wc_region ?_   -- region 9
          refine wl_det rfl rfl (det_assign rfl) rfl ?_
          refine wl_nil ?_
          refine pn_then ?_
          refine wc_ret ?_
          refine pr_then ?_
          refine pr_block ?_
          refine pr_then ?_
          refine pr_then ?_
          refine pr_block ?_
          refine pr_then ?_
          replace h := Option.some.inj h
          subst h
          have h := (elimR ho16)
          replace h := Option.some.inj h
          subst h
          replace g10 := nextR g10
          subst g10
          have h := (elimL ho10)
          replace h := Option.some.inj h
          subst h
          have h := (elimR ho6)
          replace h := Option.some.inj h
          subst h
          refine pn_ret (vs := [_]) rfl ⟨rfl, trivial⟩ ⟨rfl, rfl, rfl⟩ (fun _ h => h.to trivial trivial)
        · have h := ifF h cd25
          refine wc_skip ?_
          refine pn_then ?_
          refine wc_seq ?_
          refine wc_region ?_   -- region 10
          refine wl_det rfl rfl (det_loadN (cells := [_, _]) rfl m0 (by rfl) ag25 sz25) rfl ?_
          refine wl_act0 (act_store (cells := [_, _]) (cs' := [_, _]) rfl rfl rfl (ss (ss (ss s0))) (by rfl) (of_decide_eq_true rfl) sz25 ⟨rfl, rfl, trivial⟩) rfl rfl ?_
          rintro _ _ _ ⟨rfl, rfl⟩
          refine wl_nil ?_
          refine pn_then ?_
          refine wc_seq ?_
          refine wc_region ?_   -- region 11
          refine wl_det rfl rfl (det_move rfl) rfl ?_
          refine wl_det rfl rfl (det_move rfl) rfl ?_
          refine wl_det rfl rfl (det_len rfl un64) rfl ?_
          refine wl_det rfl rfl (det_lss rfl rfl) rfl ?_
          refine wl_det rfl rfl (det_move rfl) rfl ?_
          obtain ⟨q11_9, hq11_9, h⟩ := bind_some h
          have ho11_9 := h
          refine wl_way (decide (s10.2.2.2 < (a1.length : Int))) q11_9 5 53 (fun hg => ?_) (fun hg => ?_) ?_
          · have hg11_9 := hg
            have h := ifT hq11_9 hg
            refine wl_on rfl rfl rfl rfl hg11_9 ?_
            refine wl_det rfl rfl (det_move rfl) rfl ?_
            refine wl_on rfl rfl rfl rfl hg11_9 ?_
            refine wl_det rfl rfl (det_move rfl) rfl ?_
            refine wl_on rfl rfl rfl rfl hg11_9 ?_
            obtain ⟨k11_7, h⟩ := chk_some h
            refine wl_st (fun _ h => h.openF (ms (ms (ms (ms (ms (ms (ms m0))))))) k11_7) ?_
            refine wl_det rfl rfl (det_indexP rfl rfl (ms (ms (ms (ms (ms (ms (ms (ms m0)))))))) k11_7 m0 un64 sz4) rfl ?_
            refine wl_on rfl rfl rfl rfl hg11_9 ?_
            refine wl_det rfl rfl (det_loadP (off := 0) rfl m0 (by rfl) (by rfl) (loaded_1 na4 us4)) rfl ?_
            replace h := Option.some.inj h
            subst h
            refine wl_det rfl rfl (det_pick_on rfl hg11_9 rfl rfl) rfl ?_
            exact wl_nil (pn_qnE (ext_cons rfl (ext_skip rfl (ext_skip rfl (ext_skip rfl (ext_skip rfl (ext_skip rfl ext_refl)))))) (fun _ h => h.to ⟨_, r0, ⟨_, r0, ⟨_, r0, ⟨_, r0, ⟨_, r0, trivial⟩⟩⟩⟩⟩ ⟨(ms m0), ⟨(ms (ms m0)), ⟨(ms (ms (ms m0))), ⟨(ms (ms (ms (ms m0)))), ⟨(ms (ms (ms (ms (ms m0))))), ⟨(ms (ms (ms (ms (ms (ms m0)))))), ⟨(ms (ms (ms (ms (ms (ms (ms m0))))))), ⟨(ms (ms (ms (ms (ms (ms (ms (ms m0)))))))), ⟨(ms (ms (ms (ms (ms (ms (ms (ms (ms m0))))))))), ⟨(ms (ms (ms (ms (ms (ms (ms (ms (ms (ms m0)))))))))), ⟨(ms (ms (ms (ms (ms (ms (ms (ms (ms (ms (ms m0))))))))))), trivial⟩⟩⟩⟩⟩⟩⟩⟩⟩⟩⟩))
          · have hg11_9a := hg
            have h := ifF hq11_9 hg
            refine wl_off rfl rfl rfl rfl rfl hg11_9a rfl ?_
            refine wl_off rfl rfl rfl rfl rfl hg11_9a rfl ?_
            refine wl_off rfl rfl rfl rfl rfl hg11_9a rfl ?_
            refine wl_off rfl rfl rfl rfl rfl hg11_9a rfl ?_
            replace h := Option.some.inj h
            subst h
            refine wl_det rfl rfl (det_pick_off rfl hg11_9a rfl rfl) rfl ?_
            exact wl_nil (pn_qnE (ext_cons rfl (ext_skip rfl (ext_skip rfl (ext_skip rfl (ext_skip rfl (ext_skip rfl ext_refl)))))) (fun _ h => h))
          have h := ho11_9
          refine wl_nil ?_
          refine pn_then ?_
          refine wc_cond rfl (fun cd32 => ?_) (fun cd32 => ?_)
          · have h := ifT h cd32
            refine wc_seq ?_
            refine wc_region ?_   -- region 12
            refine wl_det rfl rfl (det_loadN (cells := [_, _]) rfl (ms (ms (ms m0))) (by rfl) ag25 sz25) rfl ?_
            obtain ⟨r12_1, hr12_1, h⟩ := bind_some h
            refine wl_act (act_callS (cap := []) (W_ledger_Close r7_2.1 y7_2A0 r7_2.1.Postings.length y7_2c0 r12_1 hr12_1) rfl rfl rfl bd30 rfl ⟨m0, trivial⟩) rfl rfl rfl ?_
            rintro _ _ _ ⟨_, _, ⟨y12_1A0, y12_1n0, y12_1c0, rfl, rfl, rfl⟩, rfl, rfl⟩
            dsimp only [List.nil_append, List.cons_append]
            refine wl_know (fun _ h => h.lenO m0) (fun e => ?_)
            subst e
            refine wl_det rfl rfl (det_move rfl) rfl ?_
            refine wl_det rfl rfl (det_extract rfl rfl) rfl ?_
            refine wl_det rfl rfl (det_extract rfl rfl) rfl ?_
            refine wl_act0 (act_store (cells := [_, _]) (cs' := [_, _]) rfl rfl rfl (ss (ss (ss (ss s0)))) (by rfl) (of_decide_eq_true rfl) sz25 ⟨rfl, rfl, trivial⟩) rfl rfl ?_
            rintro _ _ _ ⟨rfl, rfl⟩
            refine wl_det rfl rfl (det_assign rfl) rfl ?_
            refine wl_nil ?_
            refine pn_then ?_
            refine wc_seq ?_
            refine wc_region ?_   -- region 13
            refine wl_det rfl rfl (det_move rfl) rfl ?_
            refine wl_det rfl rfl (det_neq rfl rfl) rfl ?_
            refine wl_nil ?_
            refine pn_then ?_
            refine wc_cond rfl (fun cd37 => ?_) (fun cd37 => ?_)
            · have h := ifT h cd37
              refine wc_seq ?_
              refine wc_region ?_   -- region 14
              refine wl_det rfl rfl (det_assign rfl) rfl ?_
              refine wl_nil ?_
              refine pn_then ?_
              refine wc_ret ?_
              refine pr_block ?_
              refine pr_then ?_
              refine pr_then ?_
              refine pr_block ?_
              refine pr_then ?_
              replace h := Option.some.inj h
              subst h
              have h := (elimR ho16)
              replace h := Option.some.inj h
              subst h
              replace g10 := nextR g10
              subst g10
              have h := (elimL ho10)
              replace h := Option.some.inj h
              subst h
              have h := (elimR ho6)
              replace h := Option.some.inj h
              subst h
              refine pn_ret (vs := [_]) rfl ⟨rfl, trivial⟩ ⟨rfl, rfl, rfl⟩ (fun _ h => h.to trivial trivial)
            · have h := ifF h cd37
              refine wc_skip ?_
              refine pn_block ?_
              refine pn_st (fun _ h => h.shutS r0) ?_
              replace h := Option.some.inj h
              subst h
              exact pn_meetG ((r12_1.1.Closed, r12_1.1.Postings, r6_5.1), y12_1A0, r12_1.1.Postings.length, y12_1c0, y6_5A0, r6_5.1.length, y6_5c0, ()) rfl ⟨rfl, rfl, rfl, rfl, rfl, rfl, trivial⟩ (fun _ h => h.to ⟨_, (rs (rs (rs r0))), ⟨_, (rs (rs (rs r0))), trivial⟩⟩ ⟨(ms (ms (ms (ms (ms (ms (ms m0))))))), ⟨(ms (ms (ms (ms (ms (ms (ms (ms m0)))))))), ⟨m0, ⟨(ms (ms (ms (ms (ms (ms (ms (ms (ms (ms m0)))))))))), ⟨(ms (ms m0)), trivial⟩⟩⟩⟩⟩)
          · have h := ifF h cd32
            refine wc_skip ?_
            refine pn_block ?_
            replace h := Option.some.inj h
            subst h
            exact pn_meetG ((r7_2.1.Closed, r7_2.1.Postings, r6_5.1), y7_2A0, r7_2.1.Postings.length, y7_2c0, y6_5A0, r6_5.1.length, y6_5c0, ()) rfl ⟨rfl, rfl, rfl, rfl, rfl, rfl, trivial⟩ (fun _ h => h.to ⟨_, (rs (rs (rs r0))), ⟨_, (rs (rs (rs r0))), trivial⟩⟩ ⟨(ms (ms (ms (ms (ms (ms m0)))))), ⟨(ms (ms (ms (ms (ms (ms (ms m0))))))), ⟨m0, ⟨(ms (ms (ms (ms (ms (ms (ms (ms (ms m0))))))))), ⟨(ms m0), trivial⟩⟩⟩⟩⟩)
      rintro ⟨s16, A16_0, n16_0, c16_0, A16_3, n16_3, c16_3, _⟩ e16
      dsimp only at e16 ⊢
      subst e16
      have h := (elimL ho16)
      refine wc_know (fun _ h => h.lenF (ms (ms m0))) (fun e => ?_)
      subst e
      refine wc_know (fun _ h => h.lenF (ms (ms (ms (ms m0))))) (fun e => ?_)
      subst e
      refine wc_region ?_   -- region 5
      refine wl_det rfl rfl (det_move rfl) rfl ?_
      refine wl_det rfl rfl (det_add rfl rfl) rfl ?_
      refine wl_det rfl rfl (det_assign rfl) rfl ?_
      refine wl_nil ?_
      replace h := Option.some.inj h
      subst h
      exact pn_some (k10, (s16.1, s16.2.1, s16.2.2, (w64 (s10.2.2.2 + 1))), A16_0, s16.2.1.length, c16_0, A16_3, s16.2.2.length, c16_3, ()) ⟨nextL g10, Nat.lt_succ_self _⟩ ⟨rfl, rfl, rfl, rfl, rfl, rfl, trivial⟩ (fun _ h => h.to ⟨_, r0, ⟨_, r0, trivial⟩⟩ ⟨m0, ⟨(ms m0), ⟨(ms (ms m0)), ⟨(ms (ms (ms m0))), ⟨(ms (ms (ms (ms m0)))), trivial⟩⟩⟩⟩⟩)
    · have h := ifF h cd14
      refine wc_exit ?_
      refine px_then ?_
      refine px_then ?_
      refine px_block ?_
      replace h := Option.some.inj h
      subst h
      replace g10 := nextR g10
      subst g10
      have h := (elimR ho10)
      replace h := Option.some.inj h
      subst h
      exact pn_meetG ((s10.1, s10.2.1, s10.2.2.1), A10_0, s10.2.1.length, c10_0, A10_3, s10.2.2.1.length, c10_3, ()) rfl ⟨rfl, rfl, rfl, trivial⟩ (fun _ h => h.to ⟨_, r0, ⟨_, r0, trivial⟩⟩ ⟨(ms (ms m0)), ⟨(ms (ms (ms m0))), ⟨(ms (ms (ms (ms m0)))), trivial⟩⟩⟩)
  rintro ⟨s6, A6_0, n6_0, c6_0, A6_3, n6_3, c6_3, _⟩ e6
  dsimp only at e6 ⊢
  subst e6
  have h := (elimL ho6)
  refine wc_know (fun _ h => h.lenF m0) (fun e => ?_)
  subst e
  refine wc_know (fun _ h => h.lenF (ms (ms m0))) (fun e => ?_)
  subst e
  refine wc_seq ?_
  refine wc_region ?_   -- region 15
  refine wl_det rfl rfl (det_loadN (cells := [_, _]) rfl (ms m0) (by rfl) ag25 sz25) rfl ?_
  refine wl_det rfl rfl (det_move rfl) rfl ?_
  obtain ⟨r15_2, hr15_2, h⟩ := bind_some h
  refine wl_act (act_callS (cap := []) (W_ledger_Restate (GLedger.mk 0 []) s6.2.2 none 0 0 A6_3 s6.2.2.length c6_3 r15_2 hr15_2) rfl rfl rfl bd35 rfl ⟨(ms m0), ⟨(ms (ms m0)), trivial⟩⟩) rfl rfl rfl ?_
  rintro _ _ _ ⟨_, _, ⟨y15_2A0, y15_2n0, y15_2c0, y15_2A1, y15_2n1, y15_2c1, rfl, rfl, rfl⟩, rfl, rfl⟩
  dsimp only [List.nil_append, List.cons_append]
  refine wl_know (fun _ h => h.lenF m0) (fun e => ?_)
  subst e
  refine wl_know (fun _ h => h.lenO m0) (fun e => ?_)
  subst e
  refine wl_det rfl rfl (det_move rfl) rfl ?_
  refine wl_det rfl rfl (det_extract rfl rfl) rfl ?_
  refine wl_det rfl rfl (det_extract rfl rfl) rfl ?_
  refine wl_det rfl rfl (det_extract rfl rfl) rfl ?_
  refine wl_act0 (act_store (cells := [_, _]) (cs' := [_, _]) rfl rfl rfl (ss (ss s0)) (by rfl) (of_decide_eq_true rfl) sz25 ⟨rfl, rfl, trivial⟩) rfl rfl ?_
  rintro _ _ _ ⟨rfl, rfl⟩
  refine wl_det rfl rfl (det_assign rfl) rfl ?_
  refine wl_det rfl rfl (det_assign rfl) rfl ?_
  refine wl_nil ?_
  refine pn_then ?_
  refine wc_seq ?_
  refine wc_region ?_   -- region 16
  refine wl_det rfl rfl (det_loadN (cells := [_, _]) rfl (ms m0) (by rfl) ag25 sz25) rfl ?_
  refine wl_det rfl rfl (det_field rfl fd25_0 rfl) rfl ?_
  refine wl_det rfl rfl (det_load rfl (ms m0) (by rfl) na3 us3) rfl ?_
  refine wl_det rfl rfl (det_add rfl rfl) rfl ?_
  obtain ⟨r16_4, hr16_4, h⟩ := bind_some h
  refine wl_act (act_callS (cap := []) (W_ledger_Totals (GLedger.mk s6.1 s6.2.1) (w64 (s6.1 + 1)) A6_0 s6.2.1.length c6_0 r16_4 hr16_4) rfl rfl rfl bd18 rfl ⟨(ms m0), trivial⟩) rfl rfl rfl ?_
  rintro _ _ _ ⟨_, _, ⟨y16_4A0, y16_4n0, y16_4c0, rfl, rfl, rfl⟩, rfl, rfl⟩
  dsimp only [List.nil_append, List.cons_append]
  refine wl_know (fun _ h => h.lenO m0) (fun e => ?_)
  subst e
  refine wl_det rfl rfl (det_move rfl) rfl ?_
  refine wl_det rfl rfl (det_extract rfl rfl) rfl ?_
  refine wl_det rfl rfl (det_extract rfl rfl) rfl ?_
  refine wl_det rfl rfl (det_assign rfl) rfl ?_
  refine wl_det rfl rfl (det_assign rfl) rfl ?_
  refine wl_nil ?_
  refine pn_then ?_
  refine wc_seq ?_
  refine wc_region ?_   -- region 17
  refine wl_det rfl rfl (det_loadN (cells := [_, _]) rfl (ms (ms (ms m0))) (by rfl) ag25 sz25) rfl ?_
  refine wl_det rfl rfl (det_field rfl fd25_0 rfl) rfl ?_
  refine wl_det rfl rfl (det_load rfl (ms (ms (ms m0))) (by rfl) na3 us3) rfl ?_
  refine wl_det rfl rfl (det_add rfl rfl) rfl ?_
  obtain ⟨r17_4, hr17_4, h⟩ := bind_some h
  refine wl_act (act_callS (cap := []) (W_ledger_Totals r15_2.1 (w64 (r15_2.1.Closed + 1)) y15_2A0 r15_2.1.Postings.length y15_2c0 r17_4 hr17_4) rfl rfl rfl bd18 rfl ⟨m0, trivial⟩) rfl rfl rfl ?_
  rintro _ _ _ ⟨_, _, ⟨y17_4A0, y17_4n0, y17_4c0, rfl, rfl, rfl⟩, rfl, rfl⟩
  dsimp only [List.nil_append, List.cons_append]
  refine wl_know (fun _ h => h.lenO m0) (fun e => ?_)
  subst e
  refine wl_det rfl rfl (det_move rfl) rfl ?_
  refine wl_det rfl rfl (det_extract rfl rfl) rfl ?_
  refine wl_det rfl rfl (det_extract rfl rfl) rfl ?_
  refine wl_det rfl rfl (det_assign rfl) rfl ?_
  refine wl_det rfl rfl (det_assign rfl) rfl ?_
  refine wl_nil ?_
  refine pn_then ?_
  refine wc_seq ?_
  refine wc_region ?_   -- region 18
  refine wl_det rfl rfl (det_move rfl) rfl ?_
  refine wl_det rfl rfl (det_eql rfl rfl) rfl ?_
  refine wl_det rfl rfl (det_move rfl) rfl ?_
  refine wl_way (decide (r15_2.2.2 = 0)) ((decide (r15_2.2.2 = 0)) && (decide (r16_4.2 = 0))) 3 89 (fun hg => ?_) (fun hg => ?_) ?_
  · have hg18_5 := hg
    refine wl_on rfl rfl rfl rfl hg18_5 ?_
    refine wl_det rfl rfl (det_move rfl) rfl ?_
    refine wl_on rfl rfl rfl rfl hg18_5 ?_
    refine wl_det rfl rfl (det_eql rfl rfl) rfl ?_
    refine wl_det rfl rfl (det_and_on rfl rfl rfl hg18_5) rfl ?_
    exact wl_nil (pn_qnE (ext_cons rfl (ext_skip rfl (ext_skip rfl (ext_skip rfl ext_refl)))) (fun _ h => h))
  · have hg18_5a := hg
    refine wl_off rfl rfl rfl rfl rfl hg18_5a rfl ?_
    refine wl_off rfl rfl rfl rfl rfl hg18_5a rfl ?_
    refine wl_det rfl rfl (det_and_off (q := (decide (r16_4.2 = 0))) rfl rfl rfl hg18_5a) rfl ?_
    exact wl_nil (pn_qnE (ext_cons rfl (ext_skip rfl (ext_skip rfl (ext_skip rfl ext_refl)))) (fun _ h => h))
  refine wl_det rfl rfl (det_move rfl) rfl ?_
  refine wl_way ((decide (r15_2.2.2 = 0)) && (decide (r16_4.2 = 0))) (((decide (r15_2.2.2 = 0)) && (decide (r16_4.2 = 0))) && (decide (r17_4.2 = 0))) 3 93 (fun hg => ?_) (fun hg => ?_) ?_
  · have hg18_9 := hg
    refine wl_on rfl rfl rfl rfl hg18_9 ?_
    refine wl_det rfl rfl (det_move rfl) rfl ?_
    refine wl_on rfl rfl rfl rfl hg18_9 ?_
    refine wl_det rfl rfl (det_eql rfl rfl) rfl ?_
    refine wl_det rfl rfl (det_and_on rfl rfl rfl hg18_9) rfl ?_
    exact wl_nil (pn_qnE (ext_cons rfl (ext_skip rfl (ext_skip rfl (ext_skip rfl ext_refl)))) (fun _ h => h))
  · have hg18_9a := hg
    refine wl_off rfl rfl rfl rfl rfl hg18_9a rfl ?_
    refine wl_off rfl rfl rfl rfl rfl hg18_9a rfl ?_
    refine wl_det rfl rfl (det_and_off (q := (decide (r17_4.2 = 0))) rfl rfl rfl hg18_9a) rfl ?_
    exact wl_nil (pn_qnE (ext_cons rfl (ext_skip rfl (ext_skip rfl (ext_skip rfl ext_refl)))) (fun _ h => h))
  refine wl_det rfl rfl (det_move rfl) rfl ?_
  obtain ⟨q18_14, hq18_14, h⟩ := bind_some h
  have ho18_14 := h
  refine wl_way (((decide (r15_2.2.2 = 0)) && (decide (r16_4.2 = 0))) && (decide (r17_4.2 = 0))) q18_14 4 98 (fun hg => ?_) (fun hg => ?_) ?_
  · have hg18_14 := hg
    have h := ifT hq18_14 hg
    refine wl_on rfl rfl rfl rfl hg18_14 ?_
    refine wl_det rfl rfl (det_move rfl) rfl ?_
    refine wl_on rfl rfl rfl rfl hg18_14 ?_
    refine wl_det rfl rfl (det_move rfl) rfl ?_
    refine wl_on rfl rfl rfl rfl hg18_14 ?_
    obtain ⟨r18_13, hr18_13, h⟩ := bind_some h
    refine wl_act (act_callL (cap := []) [eS lGEntry 41 y16_4A0 r16_4.1.length y16_4c0 r16_4.1, eS lGEntry 41 y17_4A0 r17_4.1.length y17_4c0 r17_4.1] (W_treatyref33_SameEntries r16_4.1 r17_4.1 y16_4A0 r16_4.1.length y16_4c0 y17_4A0 r17_4.1.length y17_4c0 r18_13 hr18_13) plains_treatyref33_SameEntries rfl rfl rfl bd28 rfl ⟨(ms m0), ⟨m0, trivial⟩⟩ ⟨.inr ⟨_, m0, lent_eS⟩, ⟨.inr ⟨_, (ms m0), lent_eS⟩, trivial⟩⟩) rfl rfl rfl ?_
    rintro _ _ _ ⟨_, _, ⟨rfl, rfl, rfl⟩, rfl, rfl⟩
    dsimp only [List.nil_append, List.cons_append]
    replace h := Option.some.inj h
    subst h
    refine wl_det rfl rfl (det_pick_on rfl hg18_14 rfl rfl) rfl ?_
    exact wl_nil (pn_qnE (ext_cons rfl (ext_skip rfl (ext_skip rfl (ext_skip rfl (ext_skip rfl ext_refl))))) (fun _ h => h))
  · have hg18_14a := hg
    have h := ifF hq18_14 hg
    refine wl_off rfl rfl rfl rfl rfl hg18_14a rfl ?_
    refine wl_off rfl rfl rfl rfl rfl hg18_14a rfl ?_
    refine wl_off rfl rfl rfl rfl rfl hg18_14a rfl ?_
    replace h := Option.some.inj h
    subst h
    refine wl_det rfl rfl (det_pick_off rfl hg18_14a rfl rfl) rfl ?_
    exact wl_nil (pn_qnE (ext_cons rfl (ext_skip rfl (ext_skip rfl (ext_skip rfl (ext_skip rfl ext_refl))))) (fun _ h => h))
  have h := ho18_14
  refine wl_det rfl rfl (det_move rfl) rfl ?_
  obtain ⟨q18_17, hq18_17, h⟩ := bind_some h
  have ho18_17 := h
  refine wl_way q18_14 q18_17 2 101 (fun hg => ?_) (fun hg => ?_) ?_
  · have hg18_17 := hg
    have h := ifT hq18_17 hg
    refine wl_on rfl rfl rfl rfl hg18_17 ?_
    obtain ⟨r18_16, hr18_16, h⟩ := bind_some h
    refine wl_act (act_callS (cap := []) (W_treatylaw33_awake r18_16 hr18_16) rfl rfl rfl bd20 rfl trivial) rfl rfl rfl ?_
    rintro _ _ _ ⟨_, _, ⟨rfl, rfl, rfl⟩, rfl, rfl⟩
    dsimp only [List.nil_append, List.cons_append]
    replace h := Option.some.inj h
    subst h
    refine wl_det rfl rfl (det_pick_on rfl hg18_17 rfl rfl) rfl ?_
    exact wl_nil (pn_qnE (ext_cons rfl (ext_skip rfl (ext_skip rfl ext_refl))) (fun _ h => h))
  · have hg18_17a := hg
    have h := ifF hq18_17 hg
    refine wl_off rfl rfl rfl rfl rfl hg18_17a rfl ?_
    replace h := Option.some.inj h
    subst h
    refine wl_det rfl rfl (det_pick_off rfl hg18_17a rfl rfl) rfl ?_
    exact wl_nil (pn_qnE (ext_cons rfl (ext_skip rfl (ext_skip rfl ext_refl))) (fun _ h => h))
  have h := ho18_17
  refine wl_det rfl rfl (det_assign rfl) rfl ?_
  refine wl_nil ?_
  refine pn_then ?_
  refine wc_ret ?_
  replace h := Option.some.inj h
  subst h
  refine pn_ret (vs := [_]) rfl ⟨rfl, trivial⟩ ⟨rfl, rfl, rfl⟩ (fun _ h => h.to trivial trivial)
end Go.Proofs.Ytadkcelipefpmaa
