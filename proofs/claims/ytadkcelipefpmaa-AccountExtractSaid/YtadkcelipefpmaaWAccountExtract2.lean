/- That functions of the program compute the plain programs of P. Written by a small program. -/
import Derived.Test.YtadkcelipefpmaaWAccountExtract1
namespace Go.Proofs.Ytadkcelipefpmaa
open Go.RowKit
def Q_treatylaw34_few (r : GLedger × GLedger) : Value → List Ent → List Fact → Prop := fun v θ κ => ∃ (pA0 : Option Addr), ∃ (pn0 : Nat), ∃ (pc0 : Nat), ∃ (pA1 : Option Addr), ∃ (pn1 : Nat), ∃ (pc1 : Nat), v = .tuple #[.agg #[.int .i64 r.1.Closed, .slice pA0 pn0 pc0], .agg #[.int .i64 r.2.Closed, .slice pA1 pn1 pc1]] ∧ θ = [eS lGPosting 73 pA1 pn1 pc1 r.2.Postings] ∧ κ = [fV (lSlice lGPosting) (.slice pA0 pn0 pc0) r.1.Postings]
set_option maxHeartbeats 4000000 in
set_option maxRecDepth 100000 in
theorem W_treatylaw34_few (a0 : (List Int)) (a1 : Int) (a2 : Int) (A0 : Option Addr) (n0 : Nat) (c0 : Nat) (r : GLedger × GLedger) (h : treatylaw34_few a0 a1 a2 = some r) : Spec Try.prog 38 [.slice A0 n0 c0, .int .i64 a1, .int .i64 a2] [] [fV (lSlice (lInt .i64)) (.slice A0 n0 c0) a0] (Q_treatylaw34_few r) := by
  unfold treatylaw34_few at h
  refine spec_of (σ := [(0, _), (1, _), (2, _)]) Try.func38 rfl rfl rfl rfl ?_
  intro C
  refine wc_know (fun _ h => h.lenF m0) (fun e => ?_)
  subst e
  refine wc_seq ?_
  refine wc_region ?_   -- region 0
  refine wl_act (act_alloc (cs := [_, _]) zr25 rfl) rfl rfl rfl ?_
  rintro _ _ _ ⟨b0_0, rfl, rfl, rfl⟩
  refine wl_act (act_alloc (cs := [_, _]) zr25 rfl) rfl rfl rfl ?_
  rintro _ _ _ ⟨b0_1, rfl, rfl, rfl⟩
  refine wl_nil ?_
  refine pn_then ?_
  refine wc_seq ?_
  refine wc_region ?_   -- region 1
  refine wl_det rfl rfl (det_move rfl) rfl ?_
  obtain ⟨r1_1, hr1_1, h⟩ := bind_some h
  refine wl_act (act_callS (cap := []) (W_treatymade2_New a0 A0 a0.length c0 r1_1 hr1_1) rfl rfl rfl bd14 rfl ⟨m0, trivial⟩) rfl rfl rfl ?_
  rintro _ _ _ ⟨_, _, ⟨y1_1b0, y1_1A1, y1_1n1, y1_1c1, rfl, rfl, rfl⟩, rfl, rfl⟩
  dsimp only [List.nil_append, List.cons_append]
  refine wl_know (fun _ h => h.lenF m0) (fun e => ?_)
  subst e
  obtain ⟨r1_2, hr1_2, h⟩ := bind_some h
  refine wl_act (act_callS (cap := []) (W_treatymade2_Ledger r1_1 8 y1_1b0 y1_1A1 r1_1.L.length y1_1c1 r1_2 hr1_2) rfl rfl rfl bd13 ⟨_, r0, rfl⟩ ⟨m0, trivial⟩) rfl rfl rfl ?_
  rintro _ _ _ ⟨_, _, ⟨y1_2A0, y1_2n0, y1_2c0, y1_2A1, y1_2n1, y1_2c1, rfl, rfl, rfl⟩, rfl, rfl⟩
  dsimp only [List.nil_append, List.cons_append]
  refine wl_know (fun _ h => h.lenF m0) (fun e => ?_)
  subst e
  refine wl_know (fun _ h => h.lenF (ms m0)) (fun e => ?_)
  subst e
  refine wl_act (act_alloc (cs := [_, _]) zr25 rfl) rfl rfl rfl ?_
  rintro _ _ _ ⟨b1_3, rfl, rfl, rfl⟩
  refine wl_act0 (act_store (cells := [_, _]) (cs' := [_, _]) rfl rfl rfl s0 (by rfl) (of_decide_eq_true rfl) sz25 ⟨rfl, rfl, trivial⟩) rfl rfl ?_
  rintro _ _ _ ⟨rfl, rfl⟩
  refine wl_nil ?_
  refine pn_then ?_
  obtain ⟨q4, h, ho4⟩ := bind_some h
  refine wc_meetG (G := Unit × Nat × Option Addr × Nat × Nat × Unit) (fun (s4, _, _, _, _, _) => s4 = q4) (fun (_, B4_0, _, _, _, _) => [(1, .int .i64 a1), (2, .int .i64 a2), (6, .pointer (some ⟨b0_0, 0, none⟩)), (7, .pointer (some ⟨b0_1, 0, none⟩)), (8, .pointer (some ⟨b1_3, 0, none⟩)), (9, .pointer (some ⟨B4_0, 0, none⟩))]) (fun (_, B4_0, A4_1, n4_1, c4_1, _) => [eBlk b0_0 25 [.int .i64 0, .slice none 0 0], eBlk b0_1 25 [.int .i64 0, .slice none 0 0], eBlk b1_3 25 [.int .i64 r1_2.1.Closed, .slice y1_2A0 r1_2.1.Postings.length y1_2c0], eBlk B4_0 25 [.int .i64 r1_2.1.Closed, .slice A4_1 n4_1 c4_1], eS lGPosting 73 A4_1 n4_1 c4_1 r1_2.1.Postings]) (fun (_, _, _, _, _, _) => [fV (lSlice lGPosting) (.slice y1_2A0 r1_2.1.Postings.length y1_2c0) r1_2.1.Postings]) ?_ ?_
  · obtain ⟨k2_p1, h⟩ := chk_some h
    refine dx_regionZ (Z := St C [_, _, _, _] [_, _, _, _]) 8 [[], [0], [], [], [3], [2, 3, 4], [0, 1, 2, 3, 4, 5], [], [0, 1, 2, 3, 4, 5, 6, 7]] mixed (ord := (.det 0 (.det 1 (.det 3 (.det 4 (.alt 2 (.alt 5 (.det 6 (.alt 7 .done .dead)) (.alt 7 (.alt 5 (.det 6 .done) .dead) .dead)) (.alt 7 (.alt 2 (.alt 5 (.det 6 .done) .dead) .dead) .dead))))))) (by kernel_rfl) (fun _ h => h.to ⟨_, r0, ⟨_, r0, ⟨_, r0, ⟨_, r0, trivial⟩⟩⟩⟩ ⟨m0, ⟨(ms m0), ⟨(ms (ms m0)), ⟨(ms (ms (ms m0))), trivial⟩⟩⟩⟩) ?_   -- region 2
    refine hx_det rfl rfl rfl nofun (det_field rfl fd25_0 rfl) rfl ?_
    refine hx_det rfl rfl rfl nofun (det_load rfl m0 (by rfl) na3 us3) rfl ?_
    refine hx_det rfl rfl rfl nofun (det_field rfl fd25_1 rfl) rfl ?_
    refine hx_det rfl rfl rfl nofun (det_load rfl m0 (by rfl) na23 us23) rfl ?_
    refine hx_or ?_ ?_
    · refine hx_mut rfl rfl rfl (act_lit0S lGPosting un23 (by kernel_rfl)) rfl (by rintro _ _ _ ⟨A2_2, rfl, rfl, rfl⟩ w hs; exact hs.to ⟨_, (rs r0), ⟨_, (rs r0), ⟨_, (rs r0), ⟨_, (rs r0), trivial⟩⟩⟩⟩ ⟨m0, ⟨(ms m0), ⟨(ms (ms m0)), ⟨(ms (ms (ms m0))), trivial⟩⟩⟩⟩) ?_
      rintro _ _ _ ⟨A2_2, rfl, rfl, rfl⟩
      refine hx_or ?_ ?_
      · refine hx_mut rfl rfl rfl (act_appendS0 (L := lGPosting) rfl rfl s0 (src_F m0) un23 in73 rfl rfl rfl k2_p1) rfl (by rintro _ _ _ ⟨A2_5, c2_5, rfl, rfl, rfl⟩ w hs; exact hs.to ⟨_, (rs r0), ⟨_, (rs r0), ⟨_, (rs r0), ⟨_, (rs r0), trivial⟩⟩⟩⟩ ⟨m0, ⟨(ms m0), ⟨(ms (ms m0)), ⟨(ms (ms (ms m0))), trivial⟩⟩⟩⟩) ?_
        rintro _ _ _ ⟨A2_5, c2_5, rfl, rfl, rfl⟩
        refine hx_det rfl rfl rfl nofun (det_build (cs := [_, _]) pl25 zr25 rfl rfl (by rfl)) rfl ?_
        refine hx_mut rfl rfl rfl (act_alloc (cs := [_, _]) zr25 rfl) rfl (by rintro _ _ _ ⟨b2_7, rfl, rfl, rfl⟩ w hs; exact hs.to ⟨_, (rs (rs r0)), ⟨_, (rs (rs r0)), ⟨_, (rs (rs r0)), ⟨_, (rs (rs r0)), trivial⟩⟩⟩⟩ ⟨m0, ⟨(ms m0), ⟨(ms (ms m0)), ⟨(ms (ms (ms m0))), trivial⟩⟩⟩⟩) ?_
        rintro _ _ _ ⟨b2_7, rfl, rfl, rfl⟩
        refine hx_end ?_
        refine wl_act0 (act_store (cells := [_, _]) (cs' := [_, _]) rfl rfl rfl s0 (by rfl) (of_decide_eq_true rfl) sz25 ⟨rfl, rfl, trivial⟩) rfl rfl ?_
        rintro _ _ _ ⟨rfl, rfl⟩
        refine wl_nil ?_
        replace h := Option.some.inj h
        subst h
        exact pn_meetG ((), b2_7, A2_5, r1_2.1.Postings.length, c2_5, ()) rfl ⟨rfl, rfl, rfl, rfl, rfl, rfl, trivial⟩ (fun _ h => h.to ⟨_, (rs (rs (rs (rs (rs r0))))), ⟨_, (rs (rs (rs (rs r0)))), ⟨_, (rs (rs r0)), ⟨_, r0, ⟨_, r0, trivial⟩⟩⟩⟩⟩ ⟨m0, trivial⟩)
      refine hx_or ?_ trivial
      refine hx_mut rfl rfl rfl (act_alloc (cs := [_, _]) zr25 rfl) rfl (by rintro _ _ _ ⟨b2_7, rfl, rfl, rfl⟩ w hs; exact hs.to ⟨_, (rs (rs r0)), ⟨_, (rs (rs r0)), ⟨_, (rs (rs r0)), ⟨_, (rs (rs r0)), trivial⟩⟩⟩⟩ ⟨m0, ⟨(ms m0), ⟨(ms (ms m0)), ⟨(ms (ms (ms m0))), trivial⟩⟩⟩⟩) ?_
      rintro _ _ _ ⟨b2_7, rfl, rfl, rfl⟩
      refine hx_mut rfl rfl rfl (act_appendS0 (L := lGPosting) rfl rfl (ss s0) (src_F m0) un23 in73 rfl rfl rfl k2_p1) rfl (by rintro _ _ _ ⟨A2_5, c2_5, rfl, rfl, rfl⟩ w hs; exact hs.to ⟨_, (rs (rs r0)), ⟨_, (rs (rs r0)), ⟨_, (rs (rs r0)), ⟨_, (rs (rs r0)), trivial⟩⟩⟩⟩ ⟨m0, ⟨(ms m0), ⟨(ms (ms m0)), ⟨(ms (ms (ms m0))), trivial⟩⟩⟩⟩) ?_
      rintro _ _ _ ⟨A2_5, c2_5, rfl, rfl, rfl⟩
      refine hx_det rfl rfl rfl nofun (det_build (cs := [_, _]) pl25 zr25 rfl rfl (by rfl)) rfl ?_
      refine hx_end ?_
      refine wl_act0 (act_store (cells := [_, _]) (cs' := [_, _]) rfl rfl rfl s0 (by rfl) (of_decide_eq_true rfl) sz25 ⟨rfl, rfl, trivial⟩) rfl rfl ?_
      rintro _ _ _ ⟨rfl, rfl⟩
      refine wl_nil ?_
      replace h := Option.some.inj h
      subst h
      exact pn_meetG ((), b2_7, A2_5, r1_2.1.Postings.length, c2_5, ()) rfl ⟨rfl, rfl, rfl, rfl, rfl, rfl, trivial⟩ (fun _ h => h.to ⟨_, (rs (rs (rs (rs (rs r0))))), ⟨_, (rs (rs (rs (rs r0)))), ⟨_, (rs (rs r0)), ⟨_, r0, ⟨_, r0, trivial⟩⟩⟩⟩⟩ ⟨m0, trivial⟩)
    refine hx_or ?_ trivial
    refine hx_mut rfl rfl rfl (act_alloc (cs := [_, _]) zr25 rfl) rfl (by rintro _ _ _ ⟨b2_7, rfl, rfl, rfl⟩ w hs; exact hs.to ⟨_, (rs r0), ⟨_, (rs r0), ⟨_, (rs r0), ⟨_, (rs r0), trivial⟩⟩⟩⟩ ⟨m0, ⟨(ms m0), ⟨(ms (ms m0)), ⟨(ms (ms (ms m0))), trivial⟩⟩⟩⟩) ?_
    rintro _ _ _ ⟨b2_7, rfl, rfl, rfl⟩
    refine hx_mut rfl rfl rfl (act_lit0S lGPosting un23 (by kernel_rfl)) rfl (by rintro _ _ _ ⟨A2_2, rfl, rfl, rfl⟩ w hs; exact hs.to ⟨_, (rs (rs r0)), ⟨_, (rs (rs r0)), ⟨_, (rs (rs r0)), ⟨_, (rs (rs r0)), trivial⟩⟩⟩⟩ ⟨m0, ⟨(ms m0), ⟨(ms (ms m0)), ⟨(ms (ms (ms m0))), trivial⟩⟩⟩⟩) ?_
    rintro _ _ _ ⟨A2_2, rfl, rfl, rfl⟩
    refine hx_mut rfl rfl rfl (act_appendS0 (L := lGPosting) rfl rfl s0 (src_F m0) un23 in73 rfl rfl rfl k2_p1) rfl (by rintro _ _ _ ⟨A2_5, c2_5, rfl, rfl, rfl⟩ w hs; exact hs.to ⟨_, (rs (rs r0)), ⟨_, (rs (rs r0)), ⟨_, (rs (rs r0)), ⟨_, (rs (rs r0)), trivial⟩⟩⟩⟩ ⟨m0, ⟨(ms m0), ⟨(ms (ms m0)), ⟨(ms (ms (ms m0))), trivial⟩⟩⟩⟩) ?_
    rintro _ _ _ ⟨A2_5, c2_5, rfl, rfl, rfl⟩
    refine hx_det rfl rfl rfl nofun (det_build (cs := [_, _]) pl25 zr25 rfl rfl (by rfl)) rfl ?_
    refine hx_end ?_
    refine wl_act0 (act_store (cells := [_, _]) (cs' := [_, _]) rfl rfl rfl (ss s0) (by rfl) (of_decide_eq_true rfl) sz25 ⟨rfl, rfl, trivial⟩) rfl rfl ?_
    rintro _ _ _ ⟨rfl, rfl⟩
    refine wl_nil ?_
    replace h := Option.some.inj h
    subst h
    exact pn_meetG ((), b2_7, A2_5, r1_2.1.Postings.length, c2_5, ()) rfl ⟨rfl, rfl, rfl, rfl, rfl, rfl, trivial⟩ (fun _ h => h.to ⟨_, (rs (rs (rs (rs (rs r0))))), ⟨_, (rs (rs (rs (rs r0)))), ⟨_, (rs (rs r0)), ⟨_, (rs r0), ⟨_, r0, trivial⟩⟩⟩⟩⟩ ⟨m0, trivial⟩)
  rintro ⟨s4, B4_0, A4_1, n4_1, c4_1, _⟩ e4
  dsimp only at e4 ⊢
  subst e4
  have h := ho4
  refine wc_know (fun _ h => h.lenO (ms (ms (ms (ms m0))))) (fun e => ?_)
  subst e
  obtain ⟨q6, h, ho6⟩ := bind_some h
  refine wc_meetG (G := (Int × (List GPosting)) × Unit) (fun (s6, _) => s6 = q6) (fun (_, _) => [(6, .pointer (some ⟨b0_0, 0, none⟩)), (7, .pointer (some ⟨b0_1, 0, none⟩)), (8, .pointer (some ⟨b1_3, 0, none⟩)), (9, .pointer (some ⟨B4_0, 0, none⟩))]) (fun (s6, _) => [eBlk b0_0 25 [.int .i64 0, .slice none 0 0], eBlk b0_1 25 [.int .i64 0, .slice none 0 0], eBlk b1_3 25 [.int .i64 r1_2.1.Closed, .slice y1_2A0 r1_2.1.Postings.length y1_2c0], eBlk B4_0 25 [.int .i64 s6.1, .slice A4_1 r1_2.1.Postings.length c4_1], eS lGPosting 73 A4_1 r1_2.1.Postings.length c4_1 s6.2]) (fun (_, _) => [fV (lSlice lGPosting) (.slice y1_2A0 r1_2.1.Postings.length y1_2c0) r1_2.1.Postings]) ?_ ?_
  · refine wc_seq ?_
    refine wc_region ?_   -- region 3
    refine wl_det rfl rfl (det_field rfl fd25_1 rfl) rfl ?_
    refine wl_det rfl rfl (det_load rfl (ms (ms (ms m0))) (by rfl) na23 us23) rfl ?_
    refine wl_det rfl rfl (det_len rfl un23) rfl ?_
    refine wl_det rfl rfl (det_gtr rfl rfl) rfl ?_
    refine wl_nil ?_
    refine pn_then ?_
    refine wc_cond rfl (fun cd9 => ?_) (fun cd9 => ?_)
    · have h := ifT h cd9
      refine wc_seq ?_
      obtain ⟨k4_p1, h⟩ := chk_some h
      obtain ⟨k4_p2, h⟩ := chk_some h
      refine dx_region 10 [[], [0], [], [2], [2, 3], [], [5], [5, 6], [2, 3, 4, 5, 6, 7], [0, 1, 2, 3, 4, 5, 6, 7, 8], [0, 1, 2, 3, 4, 5, 6, 7, 8, 9]] mixed (ord := (.det 0 (.det 1 (.det 2 (.det 3 (.det 4 (.det 5 (.det 6 (.det 7 (.det 8 (.det 9 .done))))))))))) (by kernel_rfl) ?_   -- region 4
      refine hx_det rfl rfl rfl nofun (det_field rfl fd25_1 rfl) rfl ?_
      refine hx_det rfl rfl rfl nofun (det_load rfl (ms (ms (ms m0))) (by rfl) na23 us23) rfl ?_
      refine hx_det rfl rfl rfl nofun (det_move rfl) rfl ?_
      refine hx_det rfl rfl rfl nofun (det_shr rfl rfl rfl) rfl ?_
      refine hx_det rfl rfl rfl nofun (det_band rfl rfl) rfl ?_
      refine hx_det rfl rfl rfl nofun (det_field rfl fd25_1 rfl) rfl ?_
      refine hx_det rfl rfl rfl nofun (det_load rfl (ms (ms (ms m0))) (by rfl) na23 us23) rfl ?_
      refine hx_det rfl rfl rfl nofun (det_len rfl un23) rfl ?_
      refine hx_det rfl rfl rfl nofun (det_remB rfl rfl k4_p1) rfl ?_
      refine hx_det rfl rfl rfl nofun (det_indexO rfl rfl (ms (ms (ms (ms m0)))) k4_p2 un23 sz73) rfl ?_
      refine hx_end ?_
      refine wl_det rfl rfl (det_assign rfl) rfl ?_
      refine wl_nil ?_
      refine pn_then ?_
      refine wc_seq ?_
      refine dx_region 28 [[], [], [1], [1, 2], [], [4], [4, 5], [], [7], [7, 8], [7, 8, 9], [], [11], [11, 12], [11, 12, 13], [], [15], [15, 16], [15, 16, 17], [], [19], [19, 20], [19, 20, 21], [], [23], [23, 24], [23, 24, 25], [0, 1, 2, 3, 4, 5, 6, 7, 8, 9, 10, 11, 12, 13, 14, 15, 16, 17, 18, 19, 20, 21, 22, 23, 24, 25, 26], [0, 1, 2, 3, 4, 5, 6, 7, 8, 9, 10, 11, 12, 13, 14, 15, 16, 17, 18, 19, 20, 21, 22, 23, 24, 25, 26, 27]] mixed (ord := (.det 0 (.det 1 (.det 2 (.det 3 (.det 4 (.det 5 (.det 6 (.det 7 (.det 8 (.det 9 (.det 10 (.det 11 (.det 12 (.det 13 (.det 14 (.det 15 (.det 16 (.det 17 (.det 18 (.det 19 (.det 20 (.det 21 (.det 22 (.det 23 (.det 24 (.det 25 (.det 26 (.alt 27 .done .dead))))))))))))))))))))))))))))) (by kernel_rfl) ?_   -- region 5
      refine hx_det rfl rfl rfl nofun (det_field rfl fd25_0 rfl) rfl ?_
      refine hx_det rfl rfl rfl nofun (det_move rfl) rfl ?_
      refine hx_det rfl rfl rfl nofun (det_nilCheckO rfl (ms (ms (ms (ms m0)))) k4_p2) rfl ?_
      refine hx_det rfl rfl rfl nofun (det_fieldO rfl (ms (ms (ms (ms m0)))) k4_p2 fd73_0 rfl) rfl ?_
      refine hx_det rfl rfl rfl nofun (det_move rfl) rfl ?_
      refine hx_det rfl rfl rfl nofun (det_nilCheckO rfl (ms (ms (ms (ms m0)))) k4_p2) rfl ?_
      refine hx_det rfl rfl rfl nofun (det_fieldO rfl (ms (ms (ms (ms m0)))) k4_p2 fd73_1 rfl) rfl ?_
      refine hx_det rfl rfl rfl nofun (det_move rfl) rfl ?_
      refine hx_det rfl rfl rfl nofun (det_nilCheckO rfl (ms (ms (ms (ms m0)))) k4_p2) rfl ?_
      refine hx_det rfl rfl rfl nofun (det_fieldO rfl (ms (ms (ms (ms m0)))) k4_p2 fd73_2 rfl) rfl ?_
      refine hx_det rfl rfl rfl nofun (det_fieldO rfl (ms (ms (ms (ms m0)))) k4_p2 fd41_0 rfl) rfl ?_
      refine hx_det rfl rfl rfl nofun (det_move rfl) rfl ?_
      refine hx_det rfl rfl rfl nofun (det_nilCheckO rfl (ms (ms (ms (ms m0)))) k4_p2) rfl ?_
      refine hx_det rfl rfl rfl nofun (det_fieldO rfl (ms (ms (ms (ms m0)))) k4_p2 fd73_2 rfl) rfl ?_
      refine hx_det rfl rfl rfl nofun (det_fieldO rfl (ms (ms (ms (ms m0)))) k4_p2 fd41_1 rfl) rfl ?_
      refine hx_det rfl rfl rfl nofun (det_move rfl) rfl ?_
      refine hx_det rfl rfl rfl nofun (det_nilCheckO rfl (ms (ms (ms (ms m0)))) k4_p2) rfl ?_
      refine hx_det rfl rfl rfl nofun (det_fieldO rfl (ms (ms (ms (ms m0)))) k4_p2 fd73_2 rfl) rfl ?_
      refine hx_det rfl rfl rfl nofun (det_fieldO rfl (ms (ms (ms (ms m0)))) k4_p2 fd41_2 rfl) rfl ?_
      refine hx_det rfl rfl rfl nofun (det_move rfl) rfl ?_
      refine hx_det rfl rfl rfl nofun (det_nilCheckO rfl (ms (ms (ms (ms m0)))) k4_p2) rfl ?_
      refine hx_det rfl rfl rfl nofun (det_fieldO rfl (ms (ms (ms (ms m0)))) k4_p2 fd73_2 rfl) rfl ?_
      refine hx_det rfl rfl rfl nofun (det_fieldO rfl (ms (ms (ms (ms m0)))) k4_p2 fd41_3 rfl) rfl ?_
      refine hx_det rfl rfl rfl nofun (det_move rfl) rfl ?_
      refine hx_det rfl rfl rfl nofun (det_nilCheckO rfl (ms (ms (ms (ms m0)))) k4_p2) rfl ?_
      refine hx_det rfl rfl rfl nofun (det_fieldO rfl (ms (ms (ms (ms m0)))) k4_p2 fd73_2 rfl) rfl ?_
      refine hx_det rfl rfl rfl nofun (det_fieldO rfl (ms (ms (ms (ms m0)))) k4_p2 fd41_4 rfl) rfl ?_
      refine hx_act rfl rfl rfl (act_litB (vs := [_, _, _, _, _, _, _, _]) (cs := [_, _, _, _, _, _, _, _]) un84 in83 rfl rfl rfl rfl ⟨rfl, rfl, rfl, rfl, rfl, rfl, rfl, rfl, trivial⟩ (by rfl)) rfl (by rintro _ _ _ ⟨b5_27, rfl, rfl, rfl⟩; first | exact ⟨_ :: [], [], rfl, rfl⟩ | exact ⟨[], [_], rfl, rfl⟩ | exact ⟨[], [], rfl, rfl⟩) ?_
      rintro _ _ _ ⟨b5_27, rfl, rfl, rfl⟩
      refine hx_end ?_
      refine wl_det rfl rfl (det_assign rfl) rfl ?_
      refine wl_nil ?_
      refine pn_then ?_
      refine wc_seq ?_
      refine wc_region ?_   -- region 6
      refine wl_det rfl rfl (det_move rfl) rfl ?_
      refine wl_det rfl rfl (det_band rfl rfl) rfl ?_
      refine wl_det rfl rfl (det_assign rfl) rfl ?_
      refine wl_nil ?_
      refine pn_then ?_
      refine wc_seq ?_
      refine wc_region ?_   -- region 7
      refine wl_det rfl rfl (det_move rfl) rfl ?_
      refine wl_det rfl rfl (det_move rfl) rfl ?_
      refine wl_det rfl rfl (det_len rfl un84) rfl ?_
      refine wl_det rfl rfl (det_lss rfl rfl) rfl ?_
      refine wl_nil ?_
      refine pn_then ?_
      refine wc_cond rfl (fun cd18 => ?_) (fun cd18 => ?_)
      · have h := ifT h cd18
        refine wc_region ?_   -- region 8
        refine wl_det rfl rfl (det_move rfl) rfl ?_
        refine wl_det rfl rfl (det_move rfl) rfl ?_
        obtain ⟨k8_2, h⟩ := chk_some h
        obtain ⟨k8_2a, h⟩ := chk_some h
        refine wl_det rfl rfl (det_indexV rfl rfl (ixT k8_2 k8_2a) un84 sz83) rfl ?_
        rcases Bool.eq_false_or_eq_true (decide ((bAnd .i64 a1 15) = 0)) with hg8_t0 | hg8_t0
        · have h := ifT h hg8_t0
          refine wl_det rfl rfl (det_loadT (k := 0) (i := (bAnd .i64 a1 15)) rfl m0 hg8_t0 rfl na83 us83) rfl ?_
          refine wl_det rfl rfl (det_move rfl) rfl ?_
          refine wl_det rfl rfl (det_nilCheckB rfl) rfl ?_
          refine wl_act0 (act_store (cells := [_]) (cs' := [_, _]) rfl rfl rfl (ss (ss (ss (ss s0)))) (by rfl) (of_decide_eq_true rfl) sz3 ⟨rfl, trivial⟩) rfl rfl ?_
          rintro _ _ _ ⟨rfl, rfl⟩
          refine wl_nil ?_
          replace h := Option.some.inj h
          subst h
          exact pn_meetG ((a2, r1_2.1.Postings), ()) rfl ⟨rfl, rfl, rfl, rfl, trivial⟩ (fun _ h => h.to ⟨_, (rs r0), ⟨_, (rs r0), ⟨_, (rs r0), ⟨_, (rs r0), ⟨_, (rs r0), trivial⟩⟩⟩⟩⟩ ⟨m0, trivial⟩)
        · have h := ifF h hg8_t0
          rcases Bool.eq_false_or_eq_true (decide ((bAnd .i64 a1 15) = 1)) with hg8_t1 | hg8_t1
          · have h := ifT h hg8_t1
            refine wl_det rfl rfl (det_loadT (k := 1) (i := (bAnd .i64 a1 15)) rfl m0 hg8_t1 rfl na83 us83) rfl ?_
            refine wl_det rfl rfl (det_move rfl) rfl ?_
            refine wl_det rfl rfl (det_nilCheckO rfl (ms (ms (ms (ms (ms m0))))) k4_p2) rfl ?_
            refine wl_act0 (act_storeO (cells := [_]) (off := 0) (GPosting.mk a2 (ix r1_2.1.Postings ((bAnd .i64 (bShr .i64 a1 4) 31).tmod (r1_2.1.Postings.length : Int))).Period (ix r1_2.1.Postings ((bAnd .i64 (bShr .i64 a1 4) 31).tmod (r1_2.1.Postings.length : Int))).Entry) rfl rfl rfl (ss (ss (ss (ss (ss s0))))) k4_p2 (by rfl) sz3 (by intro u hu; simp at hu; rcases hu with rfl <;> rfl) (stR_flat rfl rfl)) rfl rfl ?_
            rintro _ _ _ ⟨rfl, rfl⟩
            refine wl_nil ?_
            replace h := Option.some.inj h
            subst h
            exact pn_meetG ((r1_2.1.Closed, (upd r1_2.1.Postings ((bAnd .i64 (bShr .i64 a1 4) 31).tmod (r1_2.1.Postings.length : Int)) (GPosting.mk a2 (ix r1_2.1.Postings ((bAnd .i64 (bShr .i64 a1 4) 31).tmod (r1_2.1.Postings.length : Int))).Period (ix r1_2.1.Postings ((bAnd .i64 (bShr .i64 a1 4) 31).tmod (r1_2.1.Postings.length : Int))).Entry))), ()) rfl ⟨rfl, rfl, rfl, rfl, trivial⟩ (fun _ h => h.to ⟨_, (rs r0), ⟨_, (rs r0), ⟨_, (rs r0), ⟨_, (rs r0), ⟨_, (rs r0), trivial⟩⟩⟩⟩⟩ ⟨m0, trivial⟩)
          · have h := ifF h hg8_t1
            rcases Bool.eq_false_or_eq_true (decide ((bAnd .i64 a1 15) = 2)) with hg8_t2 | hg8_t2
            · have h := ifT h hg8_t2
              refine wl_det rfl rfl (det_loadT (k := 2) (i := (bAnd .i64 a1 15)) rfl m0 hg8_t2 rfl na83 us83) rfl ?_
              refine wl_det rfl rfl (det_move rfl) rfl ?_
              refine wl_det rfl rfl (det_nilCheckO rfl (ms (ms (ms (ms (ms m0))))) k4_p2) rfl ?_
              refine wl_act0 (act_storeO (cells := [_]) (off := 1) (GPosting.mk (ix r1_2.1.Postings ((bAnd .i64 (bShr .i64 a1 4) 31).tmod (r1_2.1.Postings.length : Int))).Number a2 (ix r1_2.1.Postings ((bAnd .i64 (bShr .i64 a1 4) 31).tmod (r1_2.1.Postings.length : Int))).Entry) rfl rfl rfl (ss (ss (ss (ss (ss s0))))) k4_p2 (by rfl) sz3 (by intro u hu; simp at hu; rcases hu with rfl <;> rfl) (stR_flat rfl rfl)) rfl rfl ?_
              rintro _ _ _ ⟨rfl, rfl⟩
              refine wl_nil ?_
              replace h := Option.some.inj h
              subst h
              exact pn_meetG ((r1_2.1.Closed, (upd r1_2.1.Postings ((bAnd .i64 (bShr .i64 a1 4) 31).tmod (r1_2.1.Postings.length : Int)) (GPosting.mk (ix r1_2.1.Postings ((bAnd .i64 (bShr .i64 a1 4) 31).tmod (r1_2.1.Postings.length : Int))).Number a2 (ix r1_2.1.Postings ((bAnd .i64 (bShr .i64 a1 4) 31).tmod (r1_2.1.Postings.length : Int))).Entry))), ()) rfl ⟨rfl, rfl, rfl, rfl, trivial⟩ (fun _ h => h.to ⟨_, (rs r0), ⟨_, (rs r0), ⟨_, (rs r0), ⟨_, (rs r0), ⟨_, (rs r0), trivial⟩⟩⟩⟩⟩ ⟨m0, trivial⟩)
            · have h := ifF h hg8_t2
              rcases Bool.eq_false_or_eq_true (decide ((bAnd .i64 a1 15) = 3)) with hg8_t3 | hg8_t3
              · have h := ifT h hg8_t3
                refine wl_det rfl rfl (det_loadT (k := 3) (i := (bAnd .i64 a1 15)) rfl m0 hg8_t3 rfl na83 us83) rfl ?_
                refine wl_det rfl rfl (det_move rfl) rfl ?_
                refine wl_det rfl rfl (det_nilCheckO rfl (ms (ms (ms (ms (ms m0))))) k4_p2) rfl ?_
                refine wl_act0 (act_storeO (cells := [_]) (off := 2) (GPosting.mk (ix r1_2.1.Postings ((bAnd .i64 (bShr .i64 a1 4) 31).tmod (r1_2.1.Postings.length : Int))).Number (ix r1_2.1.Postings ((bAnd .i64 (bShr .i64 a1 4) 31).tmod (r1_2.1.Postings.length : Int))).Period (GEntry.mk a2 (ix r1_2.1.Postings ((bAnd .i64 (bShr .i64 a1 4) 31).tmod (r1_2.1.Postings.length : Int))).Entry.Treaty (ix r1_2.1.Postings ((bAnd .i64 (bShr .i64 a1 4) 31).tmod (r1_2.1.Postings.length : Int))).Entry.Party (ix r1_2.1.Postings ((bAnd .i64 (bShr .i64 a1 4) 31).tmod (r1_2.1.Postings.length : Int))).Entry.Loss (ix r1_2.1.Postings ((bAnd .i64 (bShr .i64 a1 4) 31).tmod (r1_2.1.Postings.length : Int))).Entry.Amount)) rfl rfl rfl (ss (ss (ss (ss (ss s0))))) k4_p2 (by rfl) sz3 (by intro u hu; simp at hu; rcases hu with rfl <;> rfl) (stR_flat rfl rfl)) rfl rfl ?_
                rintro _ _ _ ⟨rfl, rfl⟩
                refine wl_nil ?_
                replace h := Option.some.inj h
                subst h
                exact pn_meetG ((r1_2.1.Closed, (upd r1_2.1.Postings ((bAnd .i64 (bShr .i64 a1 4) 31).tmod (r1_2.1.Postings.length : Int)) (GPosting.mk (ix r1_2.1.Postings ((bAnd .i64 (bShr .i64 a1 4) 31).tmod (r1_2.1.Postings.length : Int))).Number (ix r1_2.1.Postings ((bAnd .i64 (bShr .i64 a1 4) 31).tmod (r1_2.1.Postings.length : Int))).Period (GEntry.mk a2 (ix r1_2.1.Postings ((bAnd .i64 (bShr .i64 a1 4) 31).tmod (r1_2.1.Postings.length : Int))).Entry.Treaty (ix r1_2.1.Postings ((bAnd .i64 (bShr .i64 a1 4) 31).tmod (r1_2.1.Postings.length : Int))).Entry.Party (ix r1_2.1.Postings ((bAnd .i64 (bShr .i64 a1 4) 31).tmod (r1_2.1.Postings.length : Int))).Entry.Loss (ix r1_2.1.Postings ((bAnd .i64 (bShr .i64 a1 4) 31).tmod (r1_2.1.Postings.length : Int))).Entry.Amount)))), ()) rfl ⟨rfl, rfl, rfl, rfl, trivial⟩ (fun _ h => h.to ⟨_, (rs r0), ⟨_, (rs r0), ⟨_, (rs r0), ⟨_, (rs r0), ⟨_, (rs r0), trivial⟩⟩⟩⟩⟩ ⟨m0, trivial⟩)
              · have h := ifF h hg8_t3
                rcases Bool.eq_false_or_eq_true (decide ((bAnd .i64 a1 15) = 4)) with hg8_t4 | hg8_t4
                · have h := ifT h hg8_t4
                  refine wl_det rfl rfl (det_loadT (k := 4) (i := (bAnd .i64 a1 15)) rfl m0 hg8_t4 rfl na83 us83) rfl ?_
                  refine wl_det rfl rfl (det_move rfl) rfl ?_
                  refine wl_det rfl rfl (det_nilCheckO rfl (ms (ms (ms (ms (ms m0))))) k4_p2) rfl ?_
                  refine wl_act0 (act_storeO (cells := [_]) (off := 3) (GPosting.mk (ix r1_2.1.Postings ((bAnd .i64 (bShr .i64 a1 4) 31).tmod (r1_2.1.Postings.length : Int))).Number (ix r1_2.1.Postings ((bAnd .i64 (bShr .i64 a1 4) 31).tmod (r1_2.1.Postings.length : Int))).Period (GEntry.mk (ix r1_2.1.Postings ((bAnd .i64 (bShr .i64 a1 4) 31).tmod (r1_2.1.Postings.length : Int))).Entry.Kind a2 (ix r1_2.1.Postings ((bAnd .i64 (bShr .i64 a1 4) 31).tmod (r1_2.1.Postings.length : Int))).Entry.Party (ix r1_2.1.Postings ((bAnd .i64 (bShr .i64 a1 4) 31).tmod (r1_2.1.Postings.length : Int))).Entry.Loss (ix r1_2.1.Postings ((bAnd .i64 (bShr .i64 a1 4) 31).tmod (r1_2.1.Postings.length : Int))).Entry.Amount)) rfl rfl rfl (ss (ss (ss (ss (ss s0))))) k4_p2 (by rfl) sz3 (by intro u hu; simp at hu; rcases hu with rfl <;> rfl) (stR_flat rfl rfl)) rfl rfl ?_
                  rintro _ _ _ ⟨rfl, rfl⟩
                  refine wl_nil ?_
                  replace h := Option.some.inj h
                  subst h
                  exact pn_meetG ((r1_2.1.Closed, (upd r1_2.1.Postings ((bAnd .i64 (bShr .i64 a1 4) 31).tmod (r1_2.1.Postings.length : Int)) (GPosting.mk (ix r1_2.1.Postings ((bAnd .i64 (bShr .i64 a1 4) 31).tmod (r1_2.1.Postings.length : Int))).Number (ix r1_2.1.Postings ((bAnd .i64 (bShr .i64 a1 4) 31).tmod (r1_2.1.Postings.length : Int))).Period (GEntry.mk (ix r1_2.1.Postings ((bAnd .i64 (bShr .i64 a1 4) 31).tmod (r1_2.1.Postings.length : Int))).Entry.Kind a2 (ix r1_2.1.Postings ((bAnd .i64 (bShr .i64 a1 4) 31).tmod (r1_2.1.Postings.length : Int))).Entry.Party (ix r1_2.1.Postings ((bAnd .i64 (bShr .i64 a1 4) 31).tmod (r1_2.1.Postings.length : Int))).Entry.Loss (ix r1_2.1.Postings ((bAnd .i64 (bShr .i64 a1 4) 31).tmod (r1_2.1.Postings.length : Int))).Entry.Amount)))), ()) rfl ⟨rfl, rfl, rfl, rfl, trivial⟩ (fun _ h => h.to ⟨_, (rs r0), ⟨_, (rs r0), ⟨_, (rs r0), ⟨_, (rs r0), ⟨_, (rs r0), trivial⟩⟩⟩⟩⟩ ⟨m0, trivial⟩)
                · have h := ifF h hg8_t4
                  rcases Bool.eq_false_or_eq_true (decide ((bAnd .i64 a1 15) = 5)) with hg8_t5 | hg8_t5
                  · have h := ifT h hg8_t5
                    refine wl_det rfl rfl (det_loadT (k := 5) (i := (bAnd .i64 a1 15)) rfl m0 hg8_t5 rfl na83 us83) rfl ?_
                    refine wl_det rfl rfl (det_move rfl) rfl ?_
                    refine wl_det rfl rfl (det_nilCheckO rfl (ms (ms (ms (ms (ms m0))))) k4_p2) rfl ?_
                    refine wl_act0 (act_storeO (cells := [_]) (off := 4) (GPosting.mk (ix r1_2.1.Postings ((bAnd .i64 (bShr .i64 a1 4) 31).tmod (r1_2.1.Postings.length : Int))).Number (ix r1_2.1.Postings ((bAnd .i64 (bShr .i64 a1 4) 31).tmod (r1_2.1.Postings.length : Int))).Period (GEntry.mk (ix r1_2.1.Postings ((bAnd .i64 (bShr .i64 a1 4) 31).tmod (r1_2.1.Postings.length : Int))).Entry.Kind (ix r1_2.1.Postings ((bAnd .i64 (bShr .i64 a1 4) 31).tmod (r1_2.1.Postings.length : Int))).Entry.Treaty a2 (ix r1_2.1.Postings ((bAnd .i64 (bShr .i64 a1 4) 31).tmod (r1_2.1.Postings.length : Int))).Entry.Loss (ix r1_2.1.Postings ((bAnd .i64 (bShr .i64 a1 4) 31).tmod (r1_2.1.Postings.length : Int))).Entry.Amount)) rfl rfl rfl (ss (ss (ss (ss (ss s0))))) k4_p2 (by rfl) sz3 (by intro u hu; simp at hu; rcases hu with rfl <;> rfl) (stR_flat rfl rfl)) rfl rfl ?_
                    rintro _ _ _ ⟨rfl, rfl⟩
                    refine wl_nil ?_
                    replace h := Option.some.inj h
                    subst h
                    exact pn_meetG ((r1_2.1.Closed, (upd r1_2.1.Postings ((bAnd .i64 (bShr .i64 a1 4) 31).tmod (r1_2.1.Postings.length : Int)) (GPosting.mk (ix r1_2.1.Postings ((bAnd .i64 (bShr .i64 a1 4) 31).tmod (r1_2.1.Postings.length : Int))).Number (ix r1_2.1.Postings ((bAnd .i64 (bShr .i64 a1 4) 31).tmod (r1_2.1.Postings.length : Int))).Period (GEntry.mk (ix r1_2.1.Postings ((bAnd .i64 (bShr .i64 a1 4) 31).tmod (r1_2.1.Postings.length : Int))).Entry.Kind (ix r1_2.1.Postings ((bAnd .i64 (bShr .i64 a1 4) 31).tmod (r1_2.1.Postings.length : Int))).Entry.Treaty a2 (ix r1_2.1.Postings ((bAnd .i64 (bShr .i64 a1 4) 31).tmod (r1_2.1.Postings.length : Int))).Entry.Loss (ix r1_2.1.Postings ((bAnd .i64 (bShr .i64 a1 4) 31).tmod (r1_2.1.Postings.length : Int))).Entry.Amount)))), ()) rfl ⟨rfl, rfl, rfl, rfl, trivial⟩ (fun _ h => h.to ⟨_, (rs r0), ⟨_, (rs r0), ⟨_, (rs r0), ⟨_, (rs r0), ⟨_, (rs r0), trivial⟩⟩⟩⟩⟩ ⟨m0, trivial⟩)
                  · have h := ifF h hg8_t5
                    rcases Bool.eq_false_or_eq_true (decide ((bAnd .i64 a1 15) = 6)) with hg8_t6 | hg8_t6
                    · have h := ifT h hg8_t6
                      refine wl_det rfl rfl (det_loadT (k := 6) (i := (bAnd .i64 a1 15)) rfl m0 hg8_t6 rfl na83 us83) rfl ?_
                      refine wl_det rfl rfl (det_move rfl) rfl ?_
                      refine wl_det rfl rfl (det_nilCheckO rfl (ms (ms (ms (ms (ms m0))))) k4_p2) rfl ?_
                      refine wl_act0 (act_storeO (cells := [_]) (off := 5) (GPosting.mk (ix r1_2.1.Postings ((bAnd .i64 (bShr .i64 a1 4) 31).tmod (r1_2.1.Postings.length : Int))).Number (ix r1_2.1.Postings ((bAnd .i64 (bShr .i64 a1 4) 31).tmod (r1_2.1.Postings.length : Int))).Period (GEntry.mk (ix r1_2.1.Postings ((bAnd .i64 (bShr .i64 a1 4) 31).tmod (r1_2.1.Postings.length : Int))).Entry.Kind (ix r1_2.1.Postings ((bAnd .i64 (bShr .i64 a1 4) 31).tmod (r1_2.1.Postings.length : Int))).Entry.Treaty (ix r1_2.1.Postings ((bAnd .i64 (bShr .i64 a1 4) 31).tmod (r1_2.1.Postings.length : Int))).Entry.Party a2 (ix r1_2.1.Postings ((bAnd .i64 (bShr .i64 a1 4) 31).tmod (r1_2.1.Postings.length : Int))).Entry.Amount)) rfl rfl rfl (ss (ss (ss (ss (ss s0))))) k4_p2 (by rfl) sz3 (by intro u hu; simp at hu; rcases hu with rfl <;> rfl) (stR_flat rfl rfl)) rfl rfl ?_
                      rintro _ _ _ ⟨rfl, rfl⟩
                      refine wl_nil ?_
                      replace h := Option.some.inj h
                      subst h
                      exact pn_meetG ((r1_2.1.Closed, (upd r1_2.1.Postings ((bAnd .i64 (bShr .i64 a1 4) 31).tmod (r1_2.1.Postings.length : Int)) (GPosting.mk (ix r1_2.1.Postings ((bAnd .i64 (bShr .i64 a1 4) 31).tmod (r1_2.1.Postings.length : Int))).Number (ix r1_2.1.Postings ((bAnd .i64 (bShr .i64 a1 4) 31).tmod (r1_2.1.Postings.length : Int))).Period (GEntry.mk (ix r1_2.1.Postings ((bAnd .i64 (bShr .i64 a1 4) 31).tmod (r1_2.1.Postings.length : Int))).Entry.Kind (ix r1_2.1.Postings ((bAnd .i64 (bShr .i64 a1 4) 31).tmod (r1_2.1.Postings.length : Int))).Entry.Treaty (ix r1_2.1.Postings ((bAnd .i64 (bShr .i64 a1 4) 31).tmod (r1_2.1.Postings.length : Int))).Entry.Party a2 (ix r1_2.1.Postings ((bAnd .i64 (bShr .i64 a1 4) 31).tmod (r1_2.1.Postings.length : Int))).Entry.Amount)))), ()) rfl ⟨rfl, rfl, rfl, rfl, trivial⟩ (fun _ h => h.to ⟨_, (rs r0), ⟨_, (rs r0), ⟨_, (rs r0), ⟨_, (rs r0), ⟨_, (rs r0), trivial⟩⟩⟩⟩⟩ ⟨m0, trivial⟩)
                    · have h := ifF h hg8_t6
                      refine wl_det rfl rfl (det_loadT (k := 7) (i := (bAnd .i64 a1 15)) rfl m0 (by simp only [decide_eq_true_eq, decide_eq_false_iff_not] at k8_2 k8_2a hg8_t0 hg8_t1 hg8_t2 hg8_t3 hg8_t4 hg8_t5 hg8_t6 ⊢; omega) rfl na83 us83) rfl ?_
                      refine wl_det rfl rfl (det_move rfl) rfl ?_
                      refine wl_det rfl rfl (det_nilCheckO rfl (ms (ms (ms (ms (ms m0))))) k4_p2) rfl ?_
                      refine wl_act0 (act_storeO (cells := [_]) (off := 6) (GPosting.mk (ix r1_2.1.Postings ((bAnd .i64 (bShr .i64 a1 4) 31).tmod (r1_2.1.Postings.length : Int))).Number (ix r1_2.1.Postings ((bAnd .i64 (bShr .i64 a1 4) 31).tmod (r1_2.1.Postings.length : Int))).Period (GEntry.mk (ix r1_2.1.Postings ((bAnd .i64 (bShr .i64 a1 4) 31).tmod (r1_2.1.Postings.length : Int))).Entry.Kind (ix r1_2.1.Postings ((bAnd .i64 (bShr .i64 a1 4) 31).tmod (r1_2.1.Postings.length : Int))).Entry.Treaty (ix r1_2.1.Postings ((bAnd .i64 (bShr .i64 a1 4) 31).tmod (r1_2.1.Postings.length : Int))).Entry.Party (ix r1_2.1.Postings ((bAnd .i64 (bShr .i64 a1 4) 31).tmod (r1_2.1.Postings.length : Int))).Entry.Loss a2)) rfl rfl rfl (ss (ss (ss (ss (ss s0))))) k4_p2 (by rfl) sz3 (by intro u hu; simp at hu; rcases hu with rfl <;> rfl) (stR_flat rfl rfl)) rfl rfl ?_
                      rintro _ _ _ ⟨rfl, rfl⟩
                      refine wl_nil ?_
                      replace h := Option.some.inj h
                      subst h
                      exact pn_meetG ((r1_2.1.Closed, (upd r1_2.1.Postings ((bAnd .i64 (bShr .i64 a1 4) 31).tmod (r1_2.1.Postings.length : Int)) (GPosting.mk (ix r1_2.1.Postings ((bAnd .i64 (bShr .i64 a1 4) 31).tmod (r1_2.1.Postings.length : Int))).Number (ix r1_2.1.Postings ((bAnd .i64 (bShr .i64 a1 4) 31).tmod (r1_2.1.Postings.length : Int))).Period (GEntry.mk (ix r1_2.1.Postings ((bAnd .i64 (bShr .i64 a1 4) 31).tmod (r1_2.1.Postings.length : Int))).Entry.Kind (ix r1_2.1.Postings ((bAnd .i64 (bShr .i64 a1 4) 31).tmod (r1_2.1.Postings.length : Int))).Entry.Treaty (ix r1_2.1.Postings ((bAnd .i64 (bShr .i64 a1 4) 31).tmod (r1_2.1.Postings.length : Int))).Entry.Party (ix r1_2.1.Postings ((bAnd .i64 (bShr .i64 a1 4) 31).tmod (r1_2.1.Postings.length : Int))).Entry.Loss a2)))), ()) rfl ⟨rfl, rfl, rfl, rfl, trivial⟩ (fun _ h => h.to ⟨_, (rs r0), ⟨_, (rs r0), ⟨_, (rs r0), ⟨_, (rs r0), ⟨_, (rs r0), trivial⟩⟩⟩⟩⟩ ⟨m0, trivial⟩)
      · have h := ifF h cd18
        refine wc_skip ?_
        replace h := Option.some.inj h
        subst h
        exact pn_meetG ((r1_2.1.Closed, r1_2.1.Postings), ()) rfl ⟨rfl, rfl, rfl, rfl, trivial⟩ (fun _ h => h.to ⟨_, (rs r0), ⟨_, (rs r0), ⟨_, (rs r0), ⟨_, (rs r0), ⟨_, (rs r0), trivial⟩⟩⟩⟩⟩ ⟨m0, trivial⟩)
    · have h := ifF h cd9
      refine wc_skip ?_
      replace h := Option.some.inj h
      subst h
      exact pn_meetG ((r1_2.1.Closed, r1_2.1.Postings), ()) rfl ⟨rfl, rfl, rfl, rfl, trivial⟩ (fun _ h => h.to ⟨_, r0, ⟨_, r0, ⟨_, r0, ⟨_, r0, ⟨_, r0, trivial⟩⟩⟩⟩⟩ ⟨m0, trivial⟩)
  rintro ⟨s6, _⟩ e6
  dsimp only at e6 ⊢
  subst e6
  have h := ho6
  refine wc_seq ?_
  refine dx_regionZ (Z := St C [_, _, _, _] [_]) 3 [[], [], [0], [0, 1, 2]] mixed (ord := (.det 0 (.det 1 (.alt 2 .done .dead)))) (by kernel_rfl) (fun _ h => h.to ⟨_, (rs r0), ⟨_, (rs r0), ⟨_, (rs r0), ⟨_, (rs r0), trivial⟩⟩⟩⟩ ⟨m0, trivial⟩) ?_   -- region 9
  refine hx_det rfl rfl rfl nofun (det_loadN (cells := [_, _]) rfl (ms m0) (by rfl) ag25 sz25) rfl ?_
  refine hx_det rfl rfl rfl nofun (det_loadN (cells := [_, _]) rfl (ms (ms m0)) (by rfl) ag25 sz25) rfl ?_
  refine hx_mut0 rfl rfl rfl (act_store (cells := [_, _]) (cs' := [_, _]) rfl rfl rfl s0 (by rfl) (of_decide_eq_true rfl) sz25 ⟨rfl, rfl, trivial⟩) (by rintro _ _ _ ⟨rfl, rfl⟩ w hs; exact hs.to ⟨_, (rs r0), ⟨_, (rs r0), ⟨_, (rs r0), ⟨_, (rs r0), trivial⟩⟩⟩⟩ ⟨m0, trivial⟩) ?_
  rintro _ _ _ ⟨rfl, rfl⟩
  refine hx_end ?_
  refine wl_act0 (act_store (cells := [_, _]) (cs' := [_, _]) rfl rfl rfl (ss s0) (by rfl) (of_decide_eq_true rfl) sz25 ⟨rfl, rfl, trivial⟩) rfl rfl ?_
  rintro _ _ _ ⟨rfl, rfl⟩
  refine wl_nil ?_
  refine pn_then ?_
  refine wc_ret ?_
  replace h := Option.some.inj h
  subst h
  refine pn_ret (vs := [_, _]) rfl ⟨⟨_, _, [_, _], rfl, m0, ag25, sz25, rfl⟩, ⟨_, _, [_, _], rfl, (ms m0), ag25, sz25, rfl⟩, trivial⟩ ⟨y1_2A0, r1_2.1.Postings.length, y1_2c0, A4_1, r1_2.1.Postings.length, c4_1, rfl, rfl, rfl⟩ (fun _ h => h.to ⟨_, (rs (rs (rs (rs r0)))), trivial⟩ ⟨m0, trivial⟩)
def Q_amount_Valid (r : Bool) : Value → List Ent → List Fact → Prop := fun v θ κ => v = .bool r ∧ θ = [] ∧ κ = []
theorem plains_amount_Valid {r : Bool} : ∀ v θ κ, Q_amount_Valid r v θ κ → Plains θ := by
  rintro _ _ _ ⟨rfl, rfl, rfl⟩
  exact trivial
set_option maxHeartbeats 4000000 in
set_option maxRecDepth 100000 in
theorem W_amount_Valid (a0 : Int) (r : Bool) (h : amount_Valid a0 = some r) : Spec Try.prog 51 [.int .i64 a0] [] [] (Q_amount_Valid r) := by
  unfold amount_Valid at h
  refine spec_of (σ := [(0, _)]) Try.func51 rfl rfl rfl rfl ?_
  intro C
  refine wc_seq ?_
  refine wc_region ?_   -- region 0
  refine wl_det rfl rfl (det_assign rfl) rfl ?_
  refine wl_nil ?_
  refine pn_then ?_
  refine wc_seq ?_
  refine wc_region ?_   -- region 1
  refine wl_det rfl rfl (det_move rfl) rfl ?_
  refine wl_det rfl rfl (det_leq rfl rfl) rfl ?_
  refine wl_det rfl rfl (det_move rfl) rfl ?_
  refine wl_way (decide ((-17592186044416) ≤ a0)) ((decide ((-17592186044416) ≤ a0)) && (decide (a0 ≤ 17592186044416))) 3 8 (fun hg => ?_) (fun hg => ?_) ?_
  · have hg1_5 := hg
    refine wl_on rfl rfl rfl rfl hg1_5 ?_
    refine wl_det rfl rfl (det_move rfl) rfl ?_
    refine wl_on rfl rfl rfl rfl hg1_5 ?_
    refine wl_det rfl rfl (det_leq rfl rfl) rfl ?_
    refine wl_det rfl rfl (det_and_on rfl rfl rfl hg1_5) rfl ?_
    exact wl_nil (pn_qnE (ext_cons rfl (ext_skip rfl (ext_skip rfl (ext_skip rfl ext_refl)))) (fun _ h => h))
  · have hg1_5a := hg
    refine wl_off rfl rfl rfl rfl rfl hg1_5a rfl ?_
    refine wl_off rfl rfl rfl rfl rfl hg1_5a rfl ?_
    refine wl_det rfl rfl (det_and_off (q := (decide (a0 ≤ 17592186044416))) rfl rfl rfl hg1_5a) rfl ?_
    exact wl_nil (pn_qnE (ext_cons rfl (ext_skip rfl (ext_skip rfl (ext_skip rfl ext_refl)))) (fun _ h => h))
  refine wl_det rfl rfl (det_assign rfl) rfl ?_
  refine wl_nil ?_
  refine pn_then ?_
  refine wc_ret ?_
  replace h := Option.some.inj h
  subst h
  refine pn_ret (vs := [_]) rfl ⟨rfl, trivial⟩ ⟨rfl, rfl, rfl⟩ (fun _ h => h.to trivial trivial)
def Q_ledger_Valid (r : Bool) : Value → List Ent → List Fact → Prop := fun v θ κ => v = .bool r ∧ θ = [] ∧ κ = []
theorem plains_ledger_Valid {r : Bool} : ∀ v θ κ, Q_ledger_Valid r v θ κ → Plains θ := by
  rintro _ _ _ ⟨rfl, rfl, rfl⟩
  exact trivial
set_option maxHeartbeats 4000000 in
set_option maxRecDepth 100000 in
theorem W_ledger_Valid (a0 : GEntry) (r : Bool) (h : ledger_Valid a0 = some r) : Spec Try.prog 23 [.agg #[.int .i64 a0.Kind, .int .i64 a0.Treaty, .int .i64 a0.Party, .int .i64 a0.Loss, .int .i64 a0.Amount]] [] [] (Q_ledger_Valid r) := by
  unfold ledger_Valid at h
  refine spec_of (σ := [(0, _)]) Try.func23 rfl rfl rfl rfl ?_
  intro C
  refine wc_seq ?_
  refine wc_region ?_   -- region 0
  refine wl_act (act_box (cs := [_, _, _, _, _]) rfl rfl) rfl rfl rfl ?_
  rintro _ _ _ ⟨b0_0, rfl, rfl, rfl⟩
  refine wl_det rfl rfl (det_assign rfl) rfl ?_
  refine wl_nil ?_
  refine pn_then ?_
  refine wc_seq ?_
  refine wc_seq ?_
  refine wc_region ?_   -- region 1
  refine wl_det rfl rfl (det_field rfl fd41_0 rfl) rfl ?_
  refine wl_det rfl rfl (det_load rfl m0 (by rfl) na3 us3) rfl ?_
  refine wl_det rfl rfl (det_lss rfl rfl) rfl ?_
  refine wl_det rfl rfl (det_move rfl) rfl ?_
  refine wl_way (decide (a0.Kind < 1)) ((decide (a0.Kind < 1)) || (decide (5 < a0.Kind))) 4 10 (fun hg => ?_) (fun hg => ?_) ?_
  · have hg1_7 := hg
    refine wl_off rfl rfl rfl rfl rfl hg1_7 rfl ?_
    refine wl_off rfl rfl rfl rfl rfl hg1_7 rfl ?_
    refine wl_off rfl rfl rfl rfl rfl hg1_7 rfl ?_
    refine wl_det rfl rfl (det_or_on (r := (decide (5 < a0.Kind))) rfl rfl rfl hg1_7) rfl ?_
    exact wl_nil (pn_qnE (ext_cons rfl (ext_skip rfl (ext_skip rfl (ext_skip rfl (ext_skip rfl ext_refl))))) (fun _ h => h))
  · have hg1_7a := hg
    refine wl_on rfl rfl rfl rfl hg1_7a ?_
    refine wl_det rfl rfl (det_field rfl fd41_0 rfl) rfl ?_
    refine wl_on rfl rfl rfl rfl hg1_7a ?_
    refine wl_det rfl rfl (det_load rfl m0 (by rfl) na3 us3) rfl ?_
    refine wl_on rfl rfl rfl rfl hg1_7a ?_
    refine wl_det rfl rfl (det_gtr rfl rfl) rfl ?_
    refine wl_det rfl rfl (det_or_off rfl rfl rfl hg1_7a) rfl ?_
    exact wl_nil (pn_qnE (ext_cons rfl (ext_skip rfl (ext_skip rfl (ext_skip rfl (ext_skip rfl ext_refl))))) (fun _ h => h))
  refine wl_det rfl rfl (det_move rfl) rfl ?_
  refine wl_way ((decide (a0.Kind < 1)) || (decide (5 < a0.Kind))) (((decide (a0.Kind < 1)) || (decide (5 < a0.Kind))) || (decide (a0.Treaty < 0))) 4 15 (fun hg => ?_) (fun hg => ?_) ?_
  · have hg1_12 := hg
    refine wl_off rfl rfl rfl rfl rfl hg1_12 rfl ?_
    refine wl_off rfl rfl rfl rfl rfl hg1_12 rfl ?_
    refine wl_off rfl rfl rfl rfl rfl hg1_12 rfl ?_
    refine wl_det rfl rfl (det_or_on (r := (decide (a0.Treaty < 0))) rfl rfl rfl hg1_12) rfl ?_
    exact wl_nil (pn_qnE (ext_cons rfl (ext_skip rfl (ext_skip rfl (ext_skip rfl (ext_skip rfl ext_refl))))) (fun _ h => h))
  · have hg1_12a := hg
    refine wl_on rfl rfl rfl rfl hg1_12a ?_
    refine wl_det rfl rfl (det_field rfl fd41_1 rfl) rfl ?_
    refine wl_on rfl rfl rfl rfl hg1_12a ?_
    refine wl_det rfl rfl (det_load rfl m0 (by rfl) na3 us3) rfl ?_
    refine wl_on rfl rfl rfl rfl hg1_12a ?_
    refine wl_det rfl rfl (det_lss rfl rfl) rfl ?_
    refine wl_det rfl rfl (det_or_off rfl rfl rfl hg1_12a) rfl ?_
    exact wl_nil (pn_qnE (ext_cons rfl (ext_skip rfl (ext_skip rfl (ext_skip rfl (ext_skip rfl ext_refl))))) (fun _ h => h))
  refine wl_det rfl rfl (det_move rfl) rfl ?_
  refine wl_way (((decide (a0.Kind < 1)) || (decide (5 < a0.Kind))) || (decide (a0.Treaty < 0))) ((((decide (a0.Kind < 1)) || (decide (5 < a0.Kind))) || (decide (a0.Treaty < 0))) || (decide (1048576 < a0.Treaty))) 4 20 (fun hg => ?_) (fun hg => ?_) ?_
  · have hg1_17 := hg
    refine wl_off rfl rfl rfl rfl rfl hg1_17 rfl ?_
    refine wl_off rfl rfl rfl rfl rfl hg1_17 rfl ?_
    refine wl_off rfl rfl rfl rfl rfl hg1_17 rfl ?_
    refine wl_det rfl rfl (det_or_on (r := (decide (1048576 < a0.Treaty))) rfl rfl rfl hg1_17) rfl ?_
    exact wl_nil (pn_qnE (ext_cons rfl (ext_skip rfl (ext_skip rfl (ext_skip rfl (ext_skip rfl ext_refl))))) (fun _ h => h))
  · have hg1_17a := hg
    refine wl_on rfl rfl rfl rfl hg1_17a ?_
    refine wl_det rfl rfl (det_field rfl fd41_1 rfl) rfl ?_
    refine wl_on rfl rfl rfl rfl hg1_17a ?_
    refine wl_det rfl rfl (det_load rfl m0 (by rfl) na3 us3) rfl ?_
    refine wl_on rfl rfl rfl rfl hg1_17a ?_
    refine wl_det rfl rfl (det_gtr rfl rfl) rfl ?_
    refine wl_det rfl rfl (det_or_off rfl rfl rfl hg1_17a) rfl ?_
    exact wl_nil (pn_qnE (ext_cons rfl (ext_skip rfl (ext_skip rfl (ext_skip rfl (ext_skip rfl ext_refl))))) (fun _ h => h))
  refine wl_nil ?_
  refine pn_then ?_
  refine wc_cond rfl (fun cd5 => ?_) (fun cd5 => ?_)
  · have h := ifT h cd5
    refine wc_seq ?_
    refine wc_region ?_   -- region 2
    refine wl_det rfl rfl (det_assign rfl) rfl ?_
    refine wl_nil ?_
    refine pn_then ?_
    refine wc_ret ?_
    refine pr_then ?_
    replace h := Option.some.inj h
    subst h
    refine pn_ret (vs := [_]) rfl ⟨rfl, trivial⟩ ⟨rfl, rfl, rfl⟩ (fun _ h => h.to trivial trivial)
  · have h := ifF h cd5
    refine wc_skip ?_
    refine pn_then ?_
    refine wc_seq ?_
    refine wc_seq ?_
    refine wc_region ?_   -- region 3
    refine wl_det rfl rfl (det_field rfl fd41_2 rfl) rfl ?_
    refine wl_det rfl rfl (det_load rfl m0 (by rfl) na3 us3) rfl ?_
    refine wl_det rfl rfl (det_lss rfl rfl) rfl ?_
    refine wl_det rfl rfl (det_move rfl) rfl ?_
    refine wl_way (decide (a0.Party < 0)) ((decide (a0.Party < 0)) || (decide (15 < a0.Party))) 4 28 (fun hg => ?_) (fun hg => ?_) ?_
    · have hg3_7 := hg
      refine wl_off rfl rfl rfl rfl rfl hg3_7 rfl ?_
      refine wl_off rfl rfl rfl rfl rfl hg3_7 rfl ?_
      refine wl_off rfl rfl rfl rfl rfl hg3_7 rfl ?_
      refine wl_det rfl rfl (det_or_on (r := (decide (15 < a0.Party))) rfl rfl rfl hg3_7) rfl ?_
      exact wl_nil (pn_qnE (ext_cons rfl (ext_skip rfl (ext_skip rfl (ext_skip rfl (ext_skip rfl ext_refl))))) (fun _ h => h))
    · have hg3_7a := hg
      refine wl_on rfl rfl rfl rfl hg3_7a ?_
      refine wl_det rfl rfl (det_field rfl fd41_2 rfl) rfl ?_
      refine wl_on rfl rfl rfl rfl hg3_7a ?_
      refine wl_det rfl rfl (det_load rfl m0 (by rfl) na3 us3) rfl ?_
      refine wl_on rfl rfl rfl rfl hg3_7a ?_
      refine wl_det rfl rfl (det_gtr rfl rfl) rfl ?_
      refine wl_det rfl rfl (det_or_off rfl rfl rfl hg3_7a) rfl ?_
      exact wl_nil (pn_qnE (ext_cons rfl (ext_skip rfl (ext_skip rfl (ext_skip rfl (ext_skip rfl ext_refl))))) (fun _ h => h))
    refine wl_det rfl rfl (det_move rfl) rfl ?_
    obtain ⟨q3_13, hq3_13, h⟩ := bind_some h
    have ho3_13 := h
    refine wl_way ((decide (a0.Party < 0)) || (decide (15 < a0.Party))) q3_13 5 34 (fun hg => ?_) (fun hg => ?_) ?_
    · have hg3_13 := hg
      have h := ifT hq3_13 hg
      refine wl_off rfl rfl rfl rfl rfl hg3_13 rfl ?_
      refine wl_off rfl rfl rfl rfl rfl hg3_13 rfl ?_
      refine wl_off rfl rfl rfl rfl rfl hg3_13 rfl ?_
      refine wl_off rfl rfl rfl rfl rfl hg3_13 rfl ?_
      replace h := Option.some.inj h
      subst h
      refine wl_det rfl rfl (det_pick_on rfl hg3_13 rfl rfl) rfl ?_
      exact wl_nil (pn_qnE (ext_cons rfl (ext_skip rfl (ext_skip rfl (ext_skip rfl (ext_skip rfl (ext_skip rfl ext_refl)))))) (fun _ h => h))
    · have hg3_13a := hg
      have h := ifF hq3_13 hg
      refine wl_on rfl rfl rfl rfl hg3_13a ?_
      refine wl_det rfl rfl (det_field rfl fd41_4 rfl) rfl ?_
      refine wl_on rfl rfl rfl rfl hg3_13a ?_
      refine wl_det rfl rfl (det_load rfl m0 (by rfl) na3 us3) rfl ?_
      refine wl_on rfl rfl rfl rfl hg3_13a ?_
      obtain ⟨r3_11, hr3_11, h⟩ := bind_some h
      refine wl_act (act_callS (cap := []) (W_amount_Valid a0.Amount r3_11 hr3_11) rfl rfl rfl bd51 rfl trivial) rfl rfl rfl ?_
      rintro _ _ _ ⟨_, _, ⟨rfl, rfl, rfl⟩, rfl, rfl⟩
      dsimp only [List.nil_append, List.cons_append]
      refine wl_on rfl rfl rfl rfl hg3_13a ?_
      refine wl_det rfl rfl (det_not rfl) rfl ?_
      replace h := Option.some.inj h
      subst h
      refine wl_det rfl rfl (det_pick_off rfl hg3_13a rfl rfl) rfl ?_
      exact wl_nil (pn_qnE (ext_cons rfl (ext_skip rfl (ext_skip rfl (ext_skip rfl (ext_skip rfl (ext_skip rfl ext_refl)))))) (fun _ h => h))
    have h := ho3_13
    refine wl_nil ?_
    refine pn_then ?_
    refine wc_cond rfl (fun cd11 => ?_) (fun cd11 => ?_)
    · have h := ifT h cd11
      refine wc_seq ?_
      refine wc_region ?_   -- region 4
      refine wl_det rfl rfl (det_assign rfl) rfl ?_
      refine wl_nil ?_
      refine pn_then ?_
      refine wc_ret ?_
      refine pr_then ?_
      replace h := Option.some.inj h
      subst h
      refine pn_ret (vs := [_]) rfl ⟨rfl, trivial⟩ ⟨rfl, rfl, rfl⟩ (fun _ h => h.to trivial trivial)
    · have h := ifF h cd11
      refine wc_skip ?_
      refine pn_then ?_
      refine wc_seq ?_
      refine wc_seq ?_
      refine wc_region ?_   -- region 5
      refine wl_det rfl rfl (det_field rfl fd41_0 rfl) rfl ?_
      refine wl_det rfl rfl (det_load rfl m0 (by rfl) na3 us3) rfl ?_
      refine wl_det rfl rfl (det_eql rfl rfl) rfl ?_
      refine wl_det rfl rfl (det_move rfl) rfl ?_
      refine wl_way (decide (a0.Kind = 1)) ((decide (a0.Kind = 1)) || (decide (a0.Kind = 2))) 4 42 (fun hg => ?_) (fun hg => ?_) ?_
      · have hg5_7 := hg
        refine wl_off rfl rfl rfl rfl rfl hg5_7 rfl ?_
        refine wl_off rfl rfl rfl rfl rfl hg5_7 rfl ?_
        refine wl_off rfl rfl rfl rfl rfl hg5_7 rfl ?_
        refine wl_det rfl rfl (det_or_on (r := (decide (a0.Kind = 2))) rfl rfl rfl hg5_7) rfl ?_
        exact wl_nil (pn_qnE (ext_cons rfl (ext_skip rfl (ext_skip rfl (ext_skip rfl (ext_skip rfl ext_refl))))) (fun _ h => h))
      · have hg5_7a := hg
        refine wl_on rfl rfl rfl rfl hg5_7a ?_
        refine wl_det rfl rfl (det_field rfl fd41_0 rfl) rfl ?_
        refine wl_on rfl rfl rfl rfl hg5_7a ?_
        refine wl_det rfl rfl (det_load rfl m0 (by rfl) na3 us3) rfl ?_
        refine wl_on rfl rfl rfl rfl hg5_7a ?_
        refine wl_det rfl rfl (det_eql rfl rfl) rfl ?_
        refine wl_det rfl rfl (det_or_off rfl rfl rfl hg5_7a) rfl ?_
        exact wl_nil (pn_qnE (ext_cons rfl (ext_skip rfl (ext_skip rfl (ext_skip rfl (ext_skip rfl ext_refl))))) (fun _ h => h))
      refine wl_nil ?_
      refine pn_then ?_
      refine wc_cond rfl (fun cd17 => ?_) (fun cd17 => ?_)
      · have h := ifT h cd17
        refine wc_seq ?_
        refine wc_region ?_   -- region 6
        refine wl_det rfl rfl (det_field rfl fd41_3 rfl) rfl ?_
        refine wl_det rfl rfl (det_load rfl m0 (by rfl) na3 us3) rfl ?_
        refine wl_det rfl rfl (det_leq rfl rfl) rfl ?_
        refine wl_det rfl rfl (det_move rfl) rfl ?_
        refine wl_way (decide (1 ≤ a0.Loss)) ((decide (1 ≤ a0.Loss)) && (decide (a0.Loss ≤ 1048576))) 4 50 (fun hg => ?_) (fun hg => ?_) ?_
        · have hg6_7 := hg
          refine wl_on rfl rfl rfl rfl hg6_7 ?_
          refine wl_det rfl rfl (det_field rfl fd41_3 rfl) rfl ?_
          refine wl_on rfl rfl rfl rfl hg6_7 ?_
          refine wl_det rfl rfl (det_load rfl m0 (by rfl) na3 us3) rfl ?_
          refine wl_on rfl rfl rfl rfl hg6_7 ?_
          refine wl_det rfl rfl (det_leq rfl rfl) rfl ?_
          refine wl_det rfl rfl (det_and_on rfl rfl rfl hg6_7) rfl ?_
          exact wl_nil (pn_qnE (ext_cons rfl (ext_skip rfl (ext_skip rfl (ext_skip rfl (ext_skip rfl ext_refl))))) (fun _ h => h))
        · have hg6_7a := hg
          refine wl_off rfl rfl rfl rfl rfl hg6_7a rfl ?_
          refine wl_off rfl rfl rfl rfl rfl hg6_7a rfl ?_
          refine wl_off rfl rfl rfl rfl rfl hg6_7a rfl ?_
          refine wl_det rfl rfl (det_and_off (q := (decide (a0.Loss ≤ 1048576))) rfl rfl rfl hg6_7a) rfl ?_
          exact wl_nil (pn_qnE (ext_cons rfl (ext_skip rfl (ext_skip rfl (ext_skip rfl (ext_skip rfl ext_refl))))) (fun _ h => h))
        refine wl_det rfl rfl (det_assign rfl) rfl ?_
        refine wl_nil ?_
        refine pn_then ?_
        refine wc_ret ?_
        refine pr_then ?_
        replace h := Option.some.inj h
        subst h
        refine pn_ret (vs := [_]) rfl ⟨rfl, trivial⟩ ⟨rfl, rfl, rfl⟩ (fun _ h => h.to trivial trivial)
      · have h := ifF h cd17
        refine wc_skip ?_
        refine pn_then ?_
        refine wc_seq ?_
        refine wc_region ?_   -- region 7
        refine wl_det rfl rfl (det_field rfl fd41_3 rfl) rfl ?_
        refine wl_det rfl rfl (det_load rfl m0 (by rfl) na3 us3) rfl ?_
        refine wl_det rfl rfl (det_eql rfl rfl) rfl ?_
        refine wl_det rfl rfl (det_assign rfl) rfl ?_
        refine wl_nil ?_
        refine pn_then ?_
        refine wc_ret ?_
        replace h := Option.some.inj h
        subst h
        refine pn_ret (vs := [_]) rfl ⟨rfl, trivial⟩ ⟨rfl, rfl, rfl⟩ (fun _ h => h.to trivial trivial)
def Q_ledger_Validate (r : Int) : Value → List Ent → List Fact → Prop := fun v θ κ => v = .int .i64 r ∧ θ = [] ∧ κ = []
theorem plains_ledger_Validate {r : Int} : ∀ v θ κ, Q_ledger_Validate r v θ κ → Plains θ := by
  rintro _ _ _ ⟨rfl, rfl, rfl⟩
  exact trivial
set_option maxHeartbeats 4000000 in
set_option maxRecDepth 100000 in
theorem W_ledger_Validate (a0 : GLedger) (A0 : Option Addr) (n0 : Nat) (c0 : Nat) (r : Int) (h : ledger_Validate a0 = some r) : Spec Try.prog 16 [.agg #[.int .i64 a0.Closed, .slice A0 n0 c0]] [] [fV (lSlice lGPosting) (.slice A0 n0 c0) a0.Postings] (Q_ledger_Validate r) := by
  unfold ledger_Validate at h
  refine spec_of (σ := [(0, _)]) Try.func16 rfl rfl rfl rfl ?_
  intro C
  refine wc_know (fun _ h => h.lenF m0) (fun e => ?_)
  subst e
  refine wc_seq ?_
  refine wc_region ?_   -- region 0
  refine wl_act (act_box (cs := [_, _]) rfl rfl) rfl rfl rfl ?_
  rintro _ _ _ ⟨b0_0, rfl, rfl, rfl⟩
  refine wl_det rfl rfl (det_assign rfl) rfl ?_
  refine wl_nil ?_
  refine pn_then ?_
  refine wc_seq ?_
  refine wc_seq ?_
  refine wc_region ?_   -- region 1
  refine wl_det rfl rfl (det_field rfl fd25_0 rfl) rfl ?_
  refine wl_det rfl rfl (det_load rfl m0 (by rfl) na3 us3) rfl ?_
  refine wl_det rfl rfl (det_lss rfl rfl) rfl ?_
  refine wl_det rfl rfl (det_move rfl) rfl ?_
  refine wl_way (decide (a0.Closed < 0)) ((decide (a0.Closed < 0)) || (decide (100 < a0.Closed))) 4 12 (fun hg => ?_) (fun hg => ?_) ?_
  · have hg1_7 := hg
    refine wl_off rfl rfl rfl rfl rfl hg1_7 rfl ?_
    refine wl_off rfl rfl rfl rfl rfl hg1_7 rfl ?_
    refine wl_off rfl rfl rfl rfl rfl hg1_7 rfl ?_
    refine wl_det rfl rfl (det_or_on (r := (decide (100 < a0.Closed))) rfl rfl rfl hg1_7) rfl ?_
    exact wl_nil (pn_qnE (ext_cons rfl (ext_skip rfl (ext_skip rfl (ext_skip rfl (ext_skip rfl ext_refl))))) (fun _ h => h))
  · have hg1_7a := hg
    refine wl_on rfl rfl rfl rfl hg1_7a ?_
    refine wl_det rfl rfl (det_field rfl fd25_0 rfl) rfl ?_
    refine wl_on rfl rfl rfl rfl hg1_7a ?_
    refine wl_det rfl rfl (det_load rfl m0 (by rfl) na3 us3) rfl ?_
    refine wl_on rfl rfl rfl rfl hg1_7a ?_
    refine wl_det rfl rfl (det_gtr rfl rfl) rfl ?_
    refine wl_det rfl rfl (det_or_off rfl rfl rfl hg1_7a) rfl ?_
    exact wl_nil (pn_qnE (ext_cons rfl (ext_skip rfl (ext_skip rfl (ext_skip rfl (ext_skip rfl ext_refl))))) (fun _ h => h))
  refine wl_det rfl rfl (det_move rfl) rfl ?_
  refine wl_way ((decide (a0.Closed < 0)) || (decide (100 < a0.Closed))) (((decide (a0.Closed < 0)) || (decide (100 < a0.Closed))) || (decide (65536 < (a0.Postings.length : Int)))) 5 18 (fun hg => ?_) (fun hg => ?_) ?_
  · have hg1_13 := hg
    refine wl_off rfl rfl rfl rfl rfl hg1_13 rfl ?_
    refine wl_off rfl rfl rfl rfl rfl hg1_13 rfl ?_
    refine wl_off rfl rfl rfl rfl rfl hg1_13 rfl ?_
    refine wl_off rfl rfl rfl rfl rfl hg1_13 rfl ?_
    refine wl_det rfl rfl (det_or_on (r := (decide (65536 < (a0.Postings.length : Int)))) rfl rfl rfl hg1_13) rfl ?_
    exact wl_nil (pn_qnE (ext_cons rfl (ext_skip rfl (ext_skip rfl (ext_skip rfl (ext_skip rfl (ext_skip rfl ext_refl)))))) (fun _ h => h))
  · have hg1_13a := hg
    refine wl_on rfl rfl rfl rfl hg1_13a ?_
    refine wl_det rfl rfl (det_field rfl fd25_1 rfl) rfl ?_
    refine wl_on rfl rfl rfl rfl hg1_13a ?_
    refine wl_det rfl rfl (det_load rfl m0 (by rfl) na23 us23) rfl ?_
    refine wl_on rfl rfl rfl rfl hg1_13a ?_
    refine wl_det rfl rfl (det_len rfl un23) rfl ?_
    refine wl_on rfl rfl rfl rfl hg1_13a ?_
    refine wl_det rfl rfl (det_gtr rfl rfl) rfl ?_
    refine wl_det rfl rfl (det_or_off rfl rfl rfl hg1_13a) rfl ?_
    exact wl_nil (pn_qnE (ext_cons rfl (ext_skip rfl (ext_skip rfl (ext_skip rfl (ext_skip rfl (ext_skip rfl ext_refl)))))) (fun _ h => h))
  refine wl_nil ?_
  refine pn_then ?_
  refine wc_cond rfl (fun cd5 => ?_) (fun cd5 => ?_)
  · have h := ifT h cd5
    refine wc_seq ?_
    refine wc_region ?_   -- region 2
    refine wl_det rfl rfl (det_assign rfl) rfl ?_
    refine wl_nil ?_
    refine pn_then ?_
    refine wc_ret ?_
    refine pr_then ?_
    replace h := Option.some.inj h
    subst h
    refine pn_ret (vs := [_]) rfl ⟨rfl, trivial⟩ ⟨rfl, rfl, rfl⟩ (fun _ h => h.to trivial trivial)
  · have h := ifF h cd5
    refine wc_skip ?_
    refine pn_then ?_
    obtain ⟨q8, h, ho8⟩ := bind_some h
    refine wc_meetG (G := Unit × Unit) (fun (s8, _) => (.inl s8) = q8) (fun (_, _) => []) (fun (_, _) => []) (fun (_, _) => []) ?_ ?_
    · refine wc_seq ?_
      refine wc_region ?_   -- region 3
      refine wl_det rfl rfl (det_field rfl fd25_1 rfl) rfl ?_
      refine wl_det rfl rfl (det_load rfl m0 (by rfl) na23 us23) rfl ?_
      refine wl_det rfl rfl (det_len rfl un23) rfl ?_
      refine wl_det rfl rfl (det_move rfl) rfl ?_
      refine wl_nil ?_
      refine pn_then ?_
      refine wc_block ?_
      obtain ⟨o12, h, ho12⟩ := bind_some h
      obtain ⟨k12, hk12⟩ := loopV_some.1 h
      refine wc_loop (G := Nat × Int × Unit) (fun g => IterN (ledger_Validate_l12 a0) g.1 g.2.1 o12) (fun g => g.1) (fun (_, s12, _) => [(1, .pointer (some ⟨b0_0, 0, none⟩)), (20, .slice A0 a0.Postings.length c0), (21, .int .i64 (a0.Postings.length : Int)), (22, .int .i64 s12)]) (fun (_, _, _) => [eBlk b0_0 25 [.int .i64 a0.Closed, .slice A0 a0.Postings.length c0]]) (fun (_, _, _) => [fV (lSlice lGPosting) (.slice A0 a0.Postings.length c0) a0.Postings]) (k12, 0, ()) hk12 ⟨rfl, rfl, rfl, rfl, trivial⟩ (fun _ h => h.to ⟨_, r0, trivial⟩ ⟨m0, trivial⟩) ?_
      rintro ⟨k12, s12, _⟩ hI
      obtain ⟨k12, rfl, q12, h, g12⟩ := IterN.pos hI
      dsimp only at h ⊢
      unfold ledger_Validate_l12 at h
      refine wc_seq ?_
      refine wc_region ?_   -- region 4
      refine wl_det rfl rfl (det_lss rfl rfl) rfl ?_
      refine wl_nil ?_
      refine pn_then ?_
      refine wc_seq ?_
      refine wc_cond rfl (fun cd16 => ?_) (fun cd16 => ?_)
      · have h := ifT h cd16
        refine wc_skip ?_
        refine pn_then ?_
        refine wc_seq ?_
        refine wc_block ?_
        refine wc_seq ?_
        refine wc_region ?_   -- region 5
        refine wl_det rfl rfl (det_move rfl) rfl ?_
        obtain ⟨k5_1, h⟩ := chk_some h
        refine wl_st (fun _ h => h.openF m0 k5_1) ?_
        refine wl_det rfl rfl (det_indexP rfl rfl (ms m0) k5_1 m0 un23 sz73) rfl ?_
        refine wl_det rfl rfl (det_loadP (off := 0) rfl m0 (by rfl) (by rfl) (loaded_n (cells := [_, _, _, _, _, _, _]) ag73 sz73)) rfl ?_
        refine wl_act (act_alloc (cs := [_, _, _, _, _, _, _]) zr73 rfl) rfl rfl rfl ?_
        rintro _ _ _ ⟨b5_3, rfl, rfl, rfl⟩
        refine wl_det rfl rfl (det_assign rfl) rfl ?_
        refine wl_act0 (act_store (cells := [_, _, _, _, _, _, _]) (cs' := [_, _, _, _, _, _, _]) rfl rfl rfl s0 (by rfl) (of_decide_eq_true rfl) sz73 ⟨rfl, rfl, rfl, rfl, rfl, rfl, rfl, trivial⟩) rfl rfl ?_
        rintro _ _ _ ⟨rfl, rfl⟩
        refine wl_nil ?_
        refine pn_then ?_
        refine wc_seq ?_
        refine wc_seq ?_
        refine wc_region ?_   -- region 6
        refine wl_det rfl rfl (det_field rfl fd73_2 rfl) rfl ?_
        refine wl_det rfl rfl (det_loadN (cells := [_, _, _, _, _]) rfl m0 (by rfl) ag41 sz41) rfl ?_
        obtain ⟨r6_2, hr6_2, h⟩ := bind_some h
        refine wl_act (act_callS (cap := []) (W_ledger_Valid (ix a0.Postings s12).Entry r6_2 hr6_2) rfl rfl rfl bd23 rfl trivial) rfl rfl rfl ?_
        rintro _ _ _ ⟨_, _, ⟨rfl, rfl, rfl⟩, rfl, rfl⟩
        dsimp only [List.nil_append, List.cons_append]
        refine wl_det rfl rfl (det_not rfl) rfl ?_
        refine wl_det rfl rfl (det_move rfl) rfl ?_
        refine wl_way (!r6_2) ((!r6_2) || (decide ((ix a0.Postings s12).Entry.Amount = 0))) 5 36 (fun hg => ?_) (fun hg => ?_) ?_
        · have hg6_9 := hg
          refine wl_off rfl rfl rfl rfl rfl hg6_9 rfl ?_
          refine wl_off rfl rfl rfl rfl rfl hg6_9 rfl ?_
          refine wl_off rfl rfl rfl rfl rfl hg6_9 rfl ?_
          refine wl_off rfl rfl rfl rfl rfl hg6_9 rfl ?_
          refine wl_det rfl rfl (det_or_on (r := (decide ((ix a0.Postings s12).Entry.Amount = 0))) rfl rfl rfl hg6_9) rfl ?_
          exact wl_nil (pn_qnE (ext_cons rfl (ext_skip rfl (ext_skip rfl (ext_skip rfl (ext_skip rfl (ext_skip rfl ext_refl)))))) (fun _ h => h))
        · have hg6_9a := hg
          refine wl_on rfl rfl rfl rfl hg6_9a ?_
          refine wl_det rfl rfl (det_field rfl fd73_2 rfl) rfl ?_
          refine wl_on rfl rfl rfl rfl hg6_9a ?_
          refine wl_det rfl rfl (det_field rfl fd41_4 rfl) rfl ?_
          refine wl_on rfl rfl rfl rfl hg6_9a ?_
          refine wl_det rfl rfl (det_load rfl m0 (by rfl) na3 us3) rfl ?_
          refine wl_on rfl rfl rfl rfl hg6_9a ?_
          refine wl_det rfl rfl (det_eql rfl rfl) rfl ?_
          refine wl_det rfl rfl (det_or_off rfl rfl rfl hg6_9a) rfl ?_
          exact wl_nil (pn_qnE (ext_cons rfl (ext_skip rfl (ext_skip rfl (ext_skip rfl (ext_skip rfl (ext_skip rfl ext_refl)))))) (fun _ h => h))
        refine wl_nil ?_
        refine pn_then ?_
        refine wc_cond rfl (fun cd25 => ?_) (fun cd25 => ?_)
        · have h := ifT h cd25
          refine wc_seq ?_
          refine wc_region ?_   -- region 7
          refine wl_det rfl rfl (det_assign rfl) rfl ?_
          refine wl_nil ?_
          refine pn_then ?_
          refine wc_ret ?_
          refine pr_then ?_
          refine pr_block ?_
          refine pr_then ?_
          refine pr_then ?_
          refine pr_block ?_
          refine pr_then ?_
          replace h := Option.some.inj h
          subst h
          replace g12 := nextR g12
          subst g12
          have h := (elimL ho12)
          replace h := Option.some.inj h
          subst h
          have h := (elimR ho8)
          replace h := Option.some.inj h
          subst h
          refine pn_ret (vs := [_]) rfl ⟨rfl, trivial⟩ ⟨rfl, rfl, rfl⟩ (fun _ h => h.to trivial trivial)
        · have h := ifF h cd25
          refine wc_skip ?_
          refine pn_then ?_
          refine wc_seq ?_
          refine wc_seq ?_
          refine wc_region ?_   -- region 8
          refine wl_det rfl rfl (det_field rfl fd73_0 rfl) rfl ?_
          refine wl_det rfl rfl (det_load rfl m0 (by rfl) na3 us3) rfl ?_
          refine wl_det rfl rfl (det_lss rfl rfl) rfl ?_
          refine wl_det rfl rfl (det_move rfl) rfl ?_
          refine wl_way (decide ((ix a0.Postings s12).Number < 1)) ((decide ((ix a0.Postings s12).Number < 1)) || (decide (65536 < (ix a0.Postings s12).Number))) 4 44 (fun hg => ?_) (fun hg => ?_) ?_
          · have hg8_7 := hg
            refine wl_off rfl rfl rfl rfl rfl hg8_7 rfl ?_
            refine wl_off rfl rfl rfl rfl rfl hg8_7 rfl ?_
            refine wl_off rfl rfl rfl rfl rfl hg8_7 rfl ?_
            refine wl_det rfl rfl (det_or_on (r := (decide (65536 < (ix a0.Postings s12).Number))) rfl rfl rfl hg8_7) rfl ?_
            exact wl_nil (pn_qnE (ext_cons rfl (ext_skip rfl (ext_skip rfl (ext_skip rfl (ext_skip rfl ext_refl))))) (fun _ h => h))
          · have hg8_7a := hg
            refine wl_on rfl rfl rfl rfl hg8_7a ?_
            refine wl_det rfl rfl (det_field rfl fd73_0 rfl) rfl ?_
            refine wl_on rfl rfl rfl rfl hg8_7a ?_
            refine wl_det rfl rfl (det_load rfl m0 (by rfl) na3 us3) rfl ?_
            refine wl_on rfl rfl rfl rfl hg8_7a ?_
            refine wl_det rfl rfl (det_gtr rfl rfl) rfl ?_
            refine wl_det rfl rfl (det_or_off rfl rfl rfl hg8_7a) rfl ?_
            exact wl_nil (pn_qnE (ext_cons rfl (ext_skip rfl (ext_skip rfl (ext_skip rfl (ext_skip rfl ext_refl))))) (fun _ h => h))
          refine wl_det rfl rfl (det_move rfl) rfl ?_
          refine wl_way ((decide ((ix a0.Postings s12).Number < 1)) || (decide (65536 < (ix a0.Postings s12).Number))) (((decide ((ix a0.Postings s12).Number < 1)) || (decide (65536 < (ix a0.Postings s12).Number))) || (decide ((ix a0.Postings s12).Period < 0))) 4 49 (fun hg => ?_) (fun hg => ?_) ?_
          · have hg8_12 := hg
            refine wl_off rfl rfl rfl rfl rfl hg8_12 rfl ?_
            refine wl_off rfl rfl rfl rfl rfl hg8_12 rfl ?_
            refine wl_off rfl rfl rfl rfl rfl hg8_12 rfl ?_
            refine wl_det rfl rfl (det_or_on (r := (decide ((ix a0.Postings s12).Period < 0))) rfl rfl rfl hg8_12) rfl ?_
            exact wl_nil (pn_qnE (ext_cons rfl (ext_skip rfl (ext_skip rfl (ext_skip rfl (ext_skip rfl ext_refl))))) (fun _ h => h))
          · have hg8_12a := hg
            refine wl_on rfl rfl rfl rfl hg8_12a ?_
            refine wl_det rfl rfl (det_field rfl fd73_1 rfl) rfl ?_
            refine wl_on rfl rfl rfl rfl hg8_12a ?_
            refine wl_det rfl rfl (det_load rfl m0 (by rfl) na3 us3) rfl ?_
            refine wl_on rfl rfl rfl rfl hg8_12a ?_
            refine wl_det rfl rfl (det_lss rfl rfl) rfl ?_
            refine wl_det rfl rfl (det_or_off rfl rfl rfl hg8_12a) rfl ?_
            exact wl_nil (pn_qnE (ext_cons rfl (ext_skip rfl (ext_skip rfl (ext_skip rfl (ext_skip rfl ext_refl))))) (fun _ h => h))
          refine wl_det rfl rfl (det_move rfl) rfl ?_
          refine wl_way (((decide ((ix a0.Postings s12).Number < 1)) || (decide (65536 < (ix a0.Postings s12).Number))) || (decide ((ix a0.Postings s12).Period < 0))) ((((decide ((ix a0.Postings s12).Number < 1)) || (decide (65536 < (ix a0.Postings s12).Number))) || (decide ((ix a0.Postings s12).Period < 0))) || (decide (a0.Closed < (ix a0.Postings s12).Period))) 6 56 (fun hg => ?_) (fun hg => ?_) ?_
          · have hg8_19 := hg
            refine wl_off rfl rfl rfl rfl rfl hg8_19 rfl ?_
            refine wl_off rfl rfl rfl rfl rfl hg8_19 rfl ?_
            refine wl_off rfl rfl rfl rfl rfl hg8_19 rfl ?_
            refine wl_off rfl rfl rfl rfl rfl hg8_19 rfl ?_
            refine wl_off rfl rfl rfl rfl rfl hg8_19 rfl ?_
            refine wl_det rfl rfl (det_or_on (r := (decide (a0.Closed < (ix a0.Postings s12).Period))) rfl rfl rfl hg8_19) rfl ?_
            exact wl_nil (pn_qnE (ext_cons rfl (ext_skip rfl (ext_skip rfl (ext_skip rfl (ext_skip rfl (ext_skip rfl (ext_skip rfl ext_refl))))))) (fun _ h => h))
          · have hg8_19a := hg
            refine wl_on rfl rfl rfl rfl hg8_19a ?_
            refine wl_det rfl rfl (det_field rfl fd73_1 rfl) rfl ?_
            refine wl_on rfl rfl rfl rfl hg8_19a ?_
            refine wl_det rfl rfl (det_load rfl m0 (by rfl) na3 us3) rfl ?_
            refine wl_on rfl rfl rfl rfl hg8_19a ?_
            refine wl_det rfl rfl (det_field rfl fd25_0 rfl) rfl ?_
            refine wl_on rfl rfl rfl rfl hg8_19a ?_
            refine wl_det rfl rfl (det_load rfl (ms m0) (by rfl) na3 us3) rfl ?_
            refine wl_on rfl rfl rfl rfl hg8_19a ?_
            refine wl_det rfl rfl (det_gtr rfl rfl) rfl ?_
            refine wl_det rfl rfl (det_or_off rfl rfl rfl hg8_19a) rfl ?_
            exact wl_nil (pn_qnE (ext_cons rfl (ext_skip rfl (ext_skip rfl (ext_skip rfl (ext_skip rfl (ext_skip rfl (ext_skip rfl ext_refl))))))) (fun _ h => h))
          refine wl_nil ?_
          refine pn_then ?_
          refine wc_cond rfl (fun cd31 => ?_) (fun cd31 => ?_)
          · have h := ifT h cd31
            refine wc_seq ?_
            refine wc_region ?_   -- region 9
            refine wl_det rfl rfl (det_assign rfl) rfl ?_
            refine wl_nil ?_
            refine pn_then ?_
            refine wc_ret ?_
            refine pr_then ?_
            refine pr_block ?_
            refine pr_then ?_
            refine pr_then ?_
            refine pr_block ?_
            refine pr_then ?_
            replace h := Option.some.inj h
            subst h
            replace g12 := nextR g12
            subst g12
            have h := (elimL ho12)
            replace h := Option.some.inj h
            subst h
            have h := (elimR ho8)
            replace h := Option.some.inj h
            subst h
            refine pn_ret (vs := [_]) rfl ⟨rfl, trivial⟩ ⟨rfl, rfl, rfl⟩ (fun _ h => h.to trivial trivial)
          · have h := ifF h cd31
            refine wc_skip ?_
            refine pn_then ?_
            obtain ⟨q34, h, ho34⟩ := bind_some h
            refine wc_meetG (G := Bool × Unit) (fun (s34, _) => s34 = q34) (fun (s34, _) => [(1, .pointer (some ⟨b0_0, 0, none⟩)), (20, .slice A0 a0.Postings.length c0), (21, .int .i64 (a0.Postings.length : Int)), (22, .int .i64 s12), (82, .bool s34)]) (fun (_, _) => [eBlk b0_0 25 [.int .i64 a0.Closed, .slice A0 a0.Postings.length c0]]) (fun (_, _) => [fV (lSlice lGPosting) (.slice A0 a0.Postings.length c0) a0.Postings]) ?_ ?_
            · rcases Bool.eq_false_or_eq_true (decide (0 < s12)) with hg10_g59 | hg10_g59
              · have h := ifT h hg10_g59
                rcases Bool.eq_false_or_eq_true (decide ((ix a0.Postings s12).Number ≤ (ix a0.Postings (w64 (s12 - 1))).Number)) with hg10_g70 | hg10_g70
                · have h := ifT h hg10_g70
                  obtain ⟨k10_p1, h⟩ := chk_some h
                  refine wc_st (fun _ h => h.openF (ms m0) k10_p1) ?_
                  refine dx_region 26 [[], [0], [0, 1], [0, 1, 2], [0, 1, 2, 3], [0, 1, 2], [0, 1, 2, 5], [0, 1, 2], [0, 1, 2, 7], [0, 1, 2, 5, 6, 7, 8], [0, 1, 2, 5, 6, 7, 8, 9], [0, 1, 2, 5, 6, 7, 8, 9, 10], [0, 1, 2, 3, 4, 5, 6, 7, 8, 9, 10, 11], [0, 1, 2, 3, 4, 5, 6, 7, 8, 9, 10, 11, 12], [0, 1, 2, 3, 4, 5, 6, 7, 8, 9, 10, 11, 12, 13], [0, 1, 2, 3, 4, 5, 6, 7, 8, 9, 10, 11, 12, 13, 14], [0, 1, 2, 3, 4, 5, 6, 7, 8, 9, 10, 11, 12, 13], [0, 1, 2, 3, 4, 5, 6, 7, 8, 9, 10, 11, 12, 13, 16], [0, 1, 2, 3, 4, 5, 6, 7, 8, 9, 10, 11, 12, 13], [0, 1, 2, 3, 4, 5, 6, 7, 8, 9, 10, 11, 12, 13, 18], [0, 1, 2, 3, 4, 5, 6, 7, 8, 9, 10, 11, 12, 13, 16, 17, 18, 19], [0, 1, 2, 3, 4, 5, 6, 7, 8, 9, 10, 11, 12, 13, 16, 17, 18, 19, 20], [0, 1, 2, 3, 4, 5, 6, 7, 8, 9, 10, 11, 12, 13, 16, 17, 18, 19, 20, 21], [0, 1, 2, 3, 4, 5, 6, 7, 8, 9, 10, 11, 12, 13, 14, 15, 16, 17, 18, 19, 20, 21, 22], [0, 1, 2, 3, 4, 5, 6, 7, 8, 9, 10, 11, 12, 13, 14, 15, 16, 17, 18, 19, 20, 21, 22, 23], [0, 1, 2, 3, 4, 5, 6, 7, 8, 9, 10, 11, 12, 13, 14, 15, 16, 17, 18, 19, 20, 21, 22, 23, 24]] mixed (ord := (.det 0 (.det 1 (.det 2 (.det 3 (.det 4 (.det 5 (.det 6 (.det 7 (.det 8 (.det 9 (.det 10 (.det 11 (.det 12 (.det 13 (.det 14 (.det 15 (.det 16 (.det 17 (.det 18 (.det 19 (.det 20 (.det 21 (.det 22 (.det 23 (.det 24 (.det 25 .done))))))))))))))))))))))))))) (by kernel_rfl) ?_   -- region 10
                  refine hx_det rfl rfl rfl nofun (det_move rfl) rfl ?_
                  refine hx_det rfl rfl rfl nofun (det_gtr rfl rfl) rfl ?_
                  refine hx_det rfl rfl rfl nofun (det_move rfl) rfl ?_
                  refine hx_on rfl rfl rfl rfl rfl hg10_g59 nofun (det_field rfl fd73_0 rfl) rfl ?_
                  refine hx_on rfl rfl rfl rfl rfl hg10_g59 nofun (det_load rfl m0 (by rfl) na3 us3) rfl ?_
                  refine hx_on rfl rfl rfl rfl rfl hg10_g59 nofun (det_field rfl fd25_1 rfl) rfl ?_
                  refine hx_on rfl rfl rfl rfl rfl hg10_g59 nofun (det_load rfl (ms m0) (by rfl) na23 us23) rfl ?_
                  refine hx_on rfl rfl rfl rfl rfl hg10_g59 nofun (det_move rfl) rfl ?_
                  refine hx_on rfl rfl rfl rfl rfl hg10_g59 nofun (det_sub rfl rfl) rfl ?_
                  refine hx_on rfl rfl rfl rfl rfl hg10_g59 nofun (det_indexP rfl rfl (ms (ms m0)) k10_p1 m0 un23 sz73) rfl ?_
                  refine hx_on rfl rfl rfl rfl rfl hg10_g59 nofun (det_fieldP rfl m0 fd73_0 rfl) rfl ?_
                  refine hx_on rfl rfl rfl rfl rfl hg10_g59 nofun (det_loadP (off := 0) rfl m0 (by rfl) (by rfl) (loaded_1 na3 us3)) rfl ?_
                  refine hx_on rfl rfl rfl rfl rfl hg10_g59 nofun (det_leq rfl rfl) rfl ?_
                  refine hx_on rfl rfl rfl rfl rfl hg10_g59 nofun (det_move rfl) rfl ?_
                  refine hx_off rfl rfl rfl rfl rfl hg10_g70 rfl ?_
                  refine hx_off rfl rfl rfl rfl rfl hg10_g70 rfl ?_
                  refine hx_off rfl rfl rfl rfl rfl hg10_g70 rfl ?_
                  refine hx_off rfl rfl rfl rfl rfl hg10_g70 rfl ?_
                  refine hx_off rfl rfl rfl rfl rfl hg10_g70 rfl ?_
                  refine hx_off rfl rfl rfl rfl rfl hg10_g70 rfl ?_
                  refine hx_off rfl rfl rfl rfl rfl hg10_g70 rfl ?_
                  refine hx_off rfl rfl rfl rfl rfl hg10_g70 rfl ?_
                  refine hx_off rfl rfl rfl rfl rfl hg10_g70 rfl ?_
                  refine hx_off rfl rfl rfl rfl rfl hg10_g70 rfl ?_
                  refine hx_on rfl rfl rfl rfl rfl hg10_g59 nofun (det_pick_on rfl hg10_g70 rfl rfl) rfl ?_
                  refine hx_det rfl rfl rfl nofun (det_pick_on rfl hg10_g59 rfl rfl) rfl ?_
                  refine hx_end ?_
                  refine wl_nil ?_
                  replace h := Option.some.inj h
                  subst h
                  exact pn_meetG (true, ()) rfl ⟨rfl, rfl, rfl, rfl, rfl, trivial⟩ (fun _ h => h.to ⟨_, (rs r0), trivial⟩ ⟨(ms (ms m0)), trivial⟩)
                · have h := ifF h hg10_g70
                  obtain ⟨k10_p3, h⟩ := chk_some h
                  refine wc_st (fun _ h => h.openF (ms m0) k10_p3) ?_
                  refine dx_region 26 [[], [0], [0, 1], [0, 1, 2], [0, 1, 2, 3], [0, 1, 2], [0, 1, 2, 5], [0, 1, 2], [0, 1, 2, 7], [0, 1, 2, 5, 6, 7, 8], [0, 1, 2, 5, 6, 7, 8, 9], [0, 1, 2, 5, 6, 7, 8, 9, 10], [0, 1, 2, 3, 4, 5, 6, 7, 8, 9, 10, 11], [0, 1, 2, 3, 4, 5, 6, 7, 8, 9, 10, 11, 12], [0, 1, 2, 3, 4, 5, 6, 7, 8, 9, 10, 11, 12, 13], [0, 1, 2, 3, 4, 5, 6, 7, 8, 9, 10, 11, 12, 13, 14], [0, 1, 2, 3, 4, 5, 6, 7, 8, 9, 10, 11, 12, 13], [0, 1, 2, 3, 4, 5, 6, 7, 8, 9, 10, 11, 12, 13, 16], [0, 1, 2, 3, 4, 5, 6, 7, 8, 9, 10, 11, 12, 13], [0, 1, 2, 3, 4, 5, 6, 7, 8, 9, 10, 11, 12, 13, 18], [0, 1, 2, 3, 4, 5, 6, 7, 8, 9, 10, 11, 12, 13, 16, 17, 18, 19], [0, 1, 2, 3, 4, 5, 6, 7, 8, 9, 10, 11, 12, 13, 16, 17, 18, 19, 20], [0, 1, 2, 3, 4, 5, 6, 7, 8, 9, 10, 11, 12, 13, 16, 17, 18, 19, 20, 21], [0, 1, 2, 3, 4, 5, 6, 7, 8, 9, 10, 11, 12, 13, 14, 15, 16, 17, 18, 19, 20, 21, 22], [0, 1, 2, 3, 4, 5, 6, 7, 8, 9, 10, 11, 12, 13, 14, 15, 16, 17, 18, 19, 20, 21, 22, 23], [0, 1, 2, 3, 4, 5, 6, 7, 8, 9, 10, 11, 12, 13, 14, 15, 16, 17, 18, 19, 20, 21, 22, 23, 24]] mixed (ord := (.det 0 (.det 1 (.det 2 (.det 3 (.det 4 (.det 5 (.det 6 (.det 7 (.det 8 (.det 9 (.det 10 (.det 11 (.det 12 (.det 13 (.det 14 (.det 15 (.det 16 (.det 17 (.det 18 (.det 19 (.det 20 (.det 21 (.det 22 (.det 23 (.det 24 (.det 25 .done))))))))))))))))))))))))))) (by kernel_rfl) ?_   -- region 10
                  refine hx_det rfl rfl rfl nofun (det_move rfl) rfl ?_
                  refine hx_det rfl rfl rfl nofun (det_gtr rfl rfl) rfl ?_
                  refine hx_det rfl rfl rfl nofun (det_move rfl) rfl ?_
                  refine hx_on rfl rfl rfl rfl rfl hg10_g59 nofun (det_field rfl fd73_0 rfl) rfl ?_
                  refine hx_on rfl rfl rfl rfl rfl hg10_g59 nofun (det_load rfl m0 (by rfl) na3 us3) rfl ?_
                  refine hx_on rfl rfl rfl rfl rfl hg10_g59 nofun (det_field rfl fd25_1 rfl) rfl ?_
                  refine hx_on rfl rfl rfl rfl rfl hg10_g59 nofun (det_load rfl (ms m0) (by rfl) na23 us23) rfl ?_
                  refine hx_on rfl rfl rfl rfl rfl hg10_g59 nofun (det_move rfl) rfl ?_
                  refine hx_on rfl rfl rfl rfl rfl hg10_g59 nofun (det_sub rfl rfl) rfl ?_
                  refine hx_on rfl rfl rfl rfl rfl hg10_g59 nofun (det_indexP rfl rfl (ms (ms m0)) k10_p3 m0 un23 sz73) rfl ?_
                  refine hx_on rfl rfl rfl rfl rfl hg10_g59 nofun (det_fieldP rfl m0 fd73_0 rfl) rfl ?_
                  refine hx_on rfl rfl rfl rfl rfl hg10_g59 nofun (det_loadP (off := 0) rfl m0 (by rfl) (by rfl) (loaded_1 na3 us3)) rfl ?_
                  refine hx_on rfl rfl rfl rfl rfl hg10_g59 nofun (det_leq rfl rfl) rfl ?_
                  refine hx_on rfl rfl rfl rfl rfl hg10_g59 nofun (det_move rfl) rfl ?_
                  refine hx_on rfl rfl rfl rfl rfl hg10_g70 nofun (det_field rfl fd73_1 rfl) rfl ?_
                  refine hx_on rfl rfl rfl rfl rfl hg10_g70 nofun (det_load rfl m0 (by rfl) na3 us3) rfl ?_
                  refine hx_on rfl rfl rfl rfl rfl hg10_g70 nofun (det_field rfl fd25_1 rfl) rfl ?_
                  refine hx_on rfl rfl rfl rfl rfl hg10_g70 nofun (det_load rfl (ms m0) (by rfl) na23 us23) rfl ?_
                  refine hx_on rfl rfl rfl rfl rfl hg10_g70 nofun (det_move rfl) rfl ?_
                  refine hx_on rfl rfl rfl rfl rfl hg10_g70 nofun (det_sub rfl rfl) rfl ?_
                  refine hx_on rfl rfl rfl rfl rfl hg10_g70 nofun (det_indexP rfl rfl (ms (ms m0)) k10_p3 m0 un23 sz73) rfl ?_
                  refine hx_on rfl rfl rfl rfl rfl hg10_g70 nofun (det_fieldP rfl m0 fd73_1 rfl) rfl ?_
                  refine hx_on rfl rfl rfl rfl rfl hg10_g70 nofun (det_loadP (off := 1) rfl m0 (by rfl) (by rfl) (loaded_1 na3 us3)) rfl ?_
                  refine hx_on rfl rfl rfl rfl rfl hg10_g70 nofun (det_lss rfl rfl) rfl ?_
                  refine hx_on rfl rfl rfl rfl rfl hg10_g59 nofun (det_pick_off rfl hg10_g70 rfl rfl) rfl ?_
                  refine hx_det rfl rfl rfl nofun (det_pick_on rfl hg10_g59 rfl rfl) rfl ?_
                  refine hx_end ?_
                  refine wl_nil ?_
                  replace h := Option.some.inj h
                  subst h
                  exact pn_meetG ((decide ((ix a0.Postings s12).Period < (ix a0.Postings (w64 (s12 - 1))).Period)), ()) rfl ⟨rfl, rfl, rfl, rfl, rfl, trivial⟩ (fun _ h => h.to ⟨_, (rs r0), trivial⟩ ⟨(ms (ms m0)), trivial⟩)
              · have h := ifF h hg10_g59
                refine dx_region 26 [[], [0], [0, 1], [0, 1, 2], [0, 1, 2, 3], [0, 1, 2], [0, 1, 2, 5], [0, 1, 2], [0, 1, 2, 7], [0, 1, 2, 5, 6, 7, 8], [0, 1, 2, 5, 6, 7, 8, 9], [0, 1, 2, 5, 6, 7, 8, 9, 10], [0, 1, 2, 3, 4, 5, 6, 7, 8, 9, 10, 11], [0, 1, 2, 3, 4, 5, 6, 7, 8, 9, 10, 11, 12], [0, 1, 2, 3, 4, 5, 6, 7, 8, 9, 10, 11, 12, 13], [0, 1, 2, 3, 4, 5, 6, 7, 8, 9, 10, 11, 12, 13, 14], [0, 1, 2, 3, 4, 5, 6, 7, 8, 9, 10, 11, 12, 13], [0, 1, 2, 3, 4, 5, 6, 7, 8, 9, 10, 11, 12, 13, 16], [0, 1, 2, 3, 4, 5, 6, 7, 8, 9, 10, 11, 12, 13], [0, 1, 2, 3, 4, 5, 6, 7, 8, 9, 10, 11, 12, 13, 18], [0, 1, 2, 3, 4, 5, 6, 7, 8, 9, 10, 11, 12, 13, 16, 17, 18, 19], [0, 1, 2, 3, 4, 5, 6, 7, 8, 9, 10, 11, 12, 13, 16, 17, 18, 19, 20], [0, 1, 2, 3, 4, 5, 6, 7, 8, 9, 10, 11, 12, 13, 16, 17, 18, 19, 20, 21], [0, 1, 2, 3, 4, 5, 6, 7, 8, 9, 10, 11, 12, 13, 14, 15, 16, 17, 18, 19, 20, 21, 22], [0, 1, 2, 3, 4, 5, 6, 7, 8, 9, 10, 11, 12, 13, 14, 15, 16, 17, 18, 19, 20, 21, 22, 23], [0, 1, 2, 3, 4, 5, 6, 7, 8, 9, 10, 11, 12, 13, 14, 15, 16, 17, 18, 19, 20, 21, 22, 23, 24]] mixed (ord := (.det 0 (.det 1 (.det 2 (.det 3 (.det 4 (.det 5 (.det 6 (.det 7 (.det 8 (.det 9 (.det 10 (.det 11 (.det 12 (.det 13 (.det 14 (.det 15 (.det 16 (.det 17 (.det 18 (.det 19 (.det 20 (.det 21 (.det 22 (.det 23 (.det 24 (.det 25 .done))))))))))))))))))))))))))) (by kernel_rfl) ?_   -- region 10
                refine hx_det rfl rfl rfl nofun (det_move rfl) rfl ?_
                refine hx_det rfl rfl rfl nofun (det_gtr rfl rfl) rfl ?_
                refine hx_det rfl rfl rfl nofun (det_move rfl) rfl ?_
                refine hx_off rfl rfl rfl rfl rfl hg10_g59 rfl ?_
                refine hx_off rfl rfl rfl rfl rfl hg10_g59 rfl ?_
                refine hx_off rfl rfl rfl rfl rfl hg10_g59 rfl ?_
                refine hx_off rfl rfl rfl rfl rfl hg10_g59 rfl ?_
                refine hx_off rfl rfl rfl rfl rfl hg10_g59 rfl ?_
                refine hx_off rfl rfl rfl rfl rfl hg10_g59 rfl ?_
                refine hx_off rfl rfl rfl rfl rfl hg10_g59 rfl ?_
                refine hx_off rfl rfl rfl rfl rfl hg10_g59 rfl ?_
                refine hx_off rfl rfl rfl rfl rfl hg10_g59 rfl ?_
                refine hx_off rfl rfl rfl rfl rfl hg10_g59 rfl ?_
                refine hx_off rfl rfl rfl rfl rfl hg10_g59 rfl ?_
                refine hx_none rfl rfl rfl rfl rfl rfl ?_
                refine hx_none rfl rfl rfl rfl rfl rfl ?_
                refine hx_none rfl rfl rfl rfl rfl rfl ?_
                refine hx_none rfl rfl rfl rfl rfl rfl ?_
                refine hx_none rfl rfl rfl rfl rfl rfl ?_
                refine hx_none rfl rfl rfl rfl rfl rfl ?_
                refine hx_none rfl rfl rfl rfl rfl rfl ?_
                refine hx_none rfl rfl rfl rfl rfl rfl ?_
                refine hx_none rfl rfl rfl rfl rfl rfl ?_
                refine hx_none rfl rfl rfl rfl rfl rfl ?_
                refine hx_off rfl rfl rfl rfl rfl hg10_g59 rfl ?_
                refine hx_det rfl rfl rfl nofun (det_pick_off rfl hg10_g59 rfl rfl) rfl ?_
                refine hx_end ?_
                refine wl_nil ?_
                replace h := Option.some.inj h
                subst h
                exact pn_meetG (false, ()) rfl ⟨rfl, rfl, rfl, rfl, rfl, trivial⟩ (fun _ h => h.to ⟨_, (rs r0), trivial⟩ ⟨(ms m0), trivial⟩)
            rintro ⟨s34, _⟩ e34
            dsimp only at e34 ⊢
            subst e34
            have h := ho34
            refine wc_cond rfl (fun cd36 => ?_) (fun cd36 => ?_)
            · have h := ifT h cd36
              refine wc_seq ?_
              refine wc_region ?_   -- region 11
              refine wl_det rfl rfl (det_assign rfl) rfl ?_
              refine wl_nil ?_
              refine pn_then ?_
              refine wc_ret ?_
              refine pr_block ?_
              refine pr_then ?_
              refine pr_then ?_
              refine pr_block ?_
              refine pr_then ?_
              replace h := Option.some.inj h
              subst h
              replace g12 := nextR g12
              subst g12
              have h := (elimL ho12)
              replace h := Option.some.inj h
              subst h
              have h := (elimR ho8)
              replace h := Option.some.inj h
              subst h
              refine pn_ret (vs := [_]) rfl ⟨rfl, trivial⟩ ⟨rfl, rfl, rfl⟩ (fun _ h => h.to trivial trivial)
            · have h := ifF h cd36
              refine wc_skip ?_
              refine pn_block ?_
              refine pn_then ?_
              refine wc_region ?_   -- region 12
              refine wl_det rfl rfl (det_add rfl rfl) rfl ?_
              refine wl_det rfl rfl (det_move rfl) rfl ?_
              refine wl_nil ?_
              replace h := Option.some.inj h
              subst h
              exact pn_some (k12, (w64 (s12 + 1)), ()) ⟨nextL g12, Nat.lt_succ_self _⟩ ⟨rfl, rfl, rfl, rfl, trivial⟩ (fun _ h => h.to ⟨_, r0, trivial⟩ ⟨m0, trivial⟩)
      · have h := ifF h cd16
        refine wc_exit ?_
        refine px_then ?_
        refine px_then ?_
        refine px_block ?_
        replace h := Option.some.inj h
        subst h
        replace g12 := nextR g12
        subst g12
        have h := (elimR ho12)
        replace h := Option.some.inj h
        subst h
        exact pn_meetG ((), ()) rfl trivial (fun _ h => h.to trivial trivial)
    rintro ⟨s8, _⟩ e8
    dsimp only at e8 ⊢
    subst e8
    have h := (elimL ho8)
    refine wc_seq ?_
    refine wc_region ?_   -- region 13
    refine wl_det rfl rfl (det_assign rfl) rfl ?_
    refine wl_nil ?_
    refine pn_then ?_
    refine wc_ret ?_
    replace h := Option.some.inj h
    subst h
    refine pn_ret (vs := [_]) rfl ⟨rfl, trivial⟩ ⟨rfl, rfl, rfl⟩ (fun _ h => h.to trivial trivial)
def Q_account_Extract (r : GLedger × Int) : Value → List Ent → List Fact → Prop := fun v θ κ => ∃ (pA0 : Option Addr), ∃ (pn0 : Nat), ∃ (pc0 : Nat), v = .tuple #[.agg #[.int .i64 r.1.Closed, .slice pA0 pn0 pc0], .int .i64 r.2] ∧ θ = [eS lGPosting 73 pA0 pn0 pc0 r.1.Postings] ∧ κ = []
theorem plains_account_Extract {r : GLedger × Int} : ∀ v θ κ, Q_account_Extract r v θ κ → Plains θ := by
  rintro _ _ _ ⟨_, _, _, rfl, rfl, rfl⟩
  exact ⟨plain_eS, trivial⟩
set_option maxHeartbeats 4000000 in
set_option maxRecDepth 100000 in
theorem W_account_Extract (a0 : GLedger) (a1 : Int) (A0 : Option Addr) (n0 : Nat) (c0 : Nat) (r : GLedger × Int) (h : account_Extract a0 a1 = some r) : Spec Try.prog 15 [.agg #[.int .i64 a0.Closed, .slice A0 n0 c0], .int .i64 a1] [] [fV (lSlice lGPosting) (.slice A0 n0 c0) a0.Postings] (Q_account_Extract r) := by
  unfold account_Extract at h
  refine spec_of (σ := [(0, _), (1, _)]) Try.func15 rfl rfl rfl rfl ?_
  intro C
  refine wc_know (fun _ h => h.lenF m0) (fun e => ?_)
  subst e
  refine wc_seq ?_
  refine wc_region ?_   -- region 0
  refine wl_act (act_box (cs := [_, _]) rfl rfl) rfl rfl rfl ?_
  rintro _ _ _ ⟨b0_0, rfl, rfl, rfl⟩
  refine wl_act (act_alloc (cs := [_, _]) zr25 rfl) rfl rfl rfl ?_
  rintro _ _ _ ⟨b0_1, rfl, rfl, rfl⟩
  refine wl_det rfl rfl (det_assign rfl) rfl ?_
  refine wl_nil ?_
  refine pn_then ?_
  refine wc_seq ?_
  refine wc_seq ?_
  refine wc_region ?_   -- region 1
  refine wl_det rfl rfl (det_loadN (cells := [_, _]) rfl (ms m0) (by rfl) ag25 sz25) rfl ?_
  obtain ⟨r1_1, hr1_1, h⟩ := bind_some h
  refine wl_act (act_callS (cap := []) (W_ledger_Validate a0 A0 a0.Postings.length c0 r1_1 hr1_1) rfl rfl rfl bd16 rfl ⟨m0, trivial⟩) rfl rfl rfl ?_
  rintro _ _ _ ⟨_, _, ⟨rfl, rfl, rfl⟩, rfl, rfl⟩
  dsimp only [List.nil_append, List.cons_append]
  refine wl_det rfl rfl (det_assign rfl) rfl ?_
  refine wl_nil ?_
  refine pn_then ?_
  refine wc_seq ?_
  refine wc_region ?_   -- region 2
  refine wl_det rfl rfl (det_move rfl) rfl ?_
  refine wl_det rfl rfl (det_neq rfl rfl) rfl ?_
  refine wl_nil ?_
  refine pn_then ?_
  refine wc_cond rfl (fun cd7 => ?_) (fun cd7 => ?_)
  · have h := ifT h cd7
    refine wc_seq ?_
    refine wc_region ?_   -- region 3
    refine wl_det rfl rfl (det_build (cs := [_, _]) pl25 zr25 rfl rfl (by rfl)) rfl ?_
    refine wl_det rfl rfl (det_move rfl) rfl ?_
    refine wl_act0 (act_store (cells := [_, _]) (cs' := [_, _]) rfl rfl rfl s0 (by rfl) (of_decide_eq_true rfl) sz25 ⟨rfl, rfl, trivial⟩) rfl rfl ?_
    rintro _ _ _ ⟨rfl, rfl⟩
    refine wl_det rfl rfl (det_assign rfl) rfl ?_
    refine wl_nil ?_
    refine pn_then ?_
    refine wc_ret ?_
    refine pr_then ?_
    refine pn_st (fun _ h => h.zeroS lGPosting 73 none) ?_
    replace h := Option.some.inj h
    subst h
    refine pn_ret (vs := [_, _]) rfl ⟨⟨_, _, [_, _], rfl, (ms m0), ag25, sz25, rfl⟩, rfl, trivial⟩ ⟨none, 0, 0, rfl, rfl, rfl⟩ (fun _ h => h.to ⟨_, r0, trivial⟩ trivial)
  · have h := ifF h cd7
    refine wc_skip ?_
    refine pn_then ?_
    refine wc_seq ?_
    refine wc_region ?_   -- region 4
    refine wl_det rfl rfl (det_field rfl fd25_0 rfl) rfl ?_
    refine wl_det rfl rfl (det_load rfl (ms m0) (by rfl) na3 us3) rfl ?_
    refine wl_det rfl rfl (det_build (cs := [_, _]) pl25 zr25 rfl rfl (by rfl)) rfl ?_
    refine wl_act (act_alloc (cs := [_, _]) zr25 rfl) rfl rfl rfl ?_
    rintro _ _ _ ⟨b4_3, rfl, rfl, rfl⟩
    refine wl_act0 (act_store (cells := [_, _]) (cs' := [_, _]) rfl rfl rfl s0 (by rfl) (of_decide_eq_true rfl) sz25 ⟨rfl, rfl, trivial⟩) rfl rfl ?_
    rintro _ _ _ ⟨rfl, rfl⟩
    refine wl_nil ?_
    refine pn_then ?_
    obtain ⟨q12, h, ho12⟩ := bind_some h
    refine wc_meetG (G := (List GPosting) × Option Addr × Nat × Nat × Unit) (fun (s12, _, _, _, _) => s12 = q12) (fun (_, _, _, _, _) => [(4, .pointer (some ⟨b0_1, 0, none⟩)), (7, .pointer (some ⟨b4_3, 0, none⟩))]) (fun (s12, A12_0, n12_0, c12_0, _) => [eBlk b0_1 25 [.int .i64 0, .slice none 0 0], eBlk b4_3 25 [.int .i64 a0.Closed, .slice A12_0 n12_0 c12_0], eS lGPosting 73 A12_0 n12_0 c12_0 s12]) (fun (_, _, _, _, _) => []) ?_ ?_
    · refine wc_seq ?_
      refine wc_region ?_   -- region 5
      refine wl_det rfl rfl (det_field rfl fd25_1 rfl) rfl ?_
      refine wl_det rfl rfl (det_load rfl (ms (ms m0)) (by rfl) na23 us23) rfl ?_
      refine wl_det rfl rfl (det_len rfl un23) rfl ?_
      refine wl_det rfl rfl (det_move rfl) rfl ?_
      refine wl_nil ?_
      refine pn_then ?_
      refine wc_block ?_
      refine wc_st (fun _ h => h.zeroS lGPosting 73 none) ?_
      obtain ⟨k16, hk16⟩ := loopV_some.1 h
      refine wc_loop (G := Nat × ((List GPosting) × Int) × Option Addr × Nat × Nat × Unit) (fun g => IterN (account_Extract_l16 a0 a1) g.1 g.2.1 q12) (fun g => g.1) (fun (_, s16, _, _, _, _) => [(1, .int .i64 a1), (4, .pointer (some ⟨b0_1, 0, none⟩)), (7, .pointer (some ⟨b4_3, 0, none⟩)), (20, .slice A0 a0.Postings.length c0), (21, .int .i64 (a0.Postings.length : Int)), (22, .int .i64 s16.2)]) (fun (_, s16, A16_0, n16_0, c16_0, _) => [eBlk b0_1 25 [.int .i64 0, .slice none 0 0], eBlk b4_3 25 [.int .i64 a0.Closed, .slice A16_0 n16_0 c16_0], eS lGPosting 73 A16_0 n16_0 c16_0 s16.1]) (fun (_, _, _, _, _, _) => [fV (lSlice lGPosting) (.slice A0 a0.Postings.length c0) a0.Postings]) (k16, ([], 0), none, 0, 0, ()) hk16 ⟨rfl, rfl, rfl, rfl, rfl, rfl, trivial⟩ (fun _ h => h.to ⟨_, (rs (rs r0)), ⟨_, (rs r0), ⟨_, r0, trivial⟩⟩⟩ ⟨m0, trivial⟩) ?_
      rintro ⟨k16, s16, A16_0, n16_0, c16_0, _⟩ hI
      obtain ⟨k16, rfl, q16, h, g16⟩ := IterN.pos hI
      dsimp only at h ⊢
      unfold account_Extract_l16 at h
      refine wc_know (fun _ h => h.lenO (ms (ms m0))) (fun e => ?_)
      subst e
      refine wc_seq ?_
      refine wc_region ?_   -- region 6
      refine wl_det rfl rfl (det_lss rfl rfl) rfl ?_
      refine wl_nil ?_
      refine pn_then ?_
      refine wc_seq ?_
      refine wc_cond rfl (fun cd20 => ?_) (fun cd20 => ?_)
      · have h := ifT h cd20
        refine wc_skip ?_
        refine pn_then ?_
        obtain ⟨q22, h, ho22⟩ := bind_some h
        refine wc_meetG (G := (List GPosting) × Option Addr × Nat × Nat × Unit) (fun (s22, _, _, _, _) => s22 = q22) (fun (_, _, _, _, _) => [(1, .int .i64 a1), (4, .pointer (some ⟨b0_1, 0, none⟩)), (7, .pointer (some ⟨b4_3, 0, none⟩)), (20, .slice A0 a0.Postings.length c0), (21, .int .i64 (a0.Postings.length : Int)), (22, .int .i64 s16.2)]) (fun (s22, A22_0, n22_0, c22_0, _) => [eBlk b0_1 25 [.int .i64 0, .slice none 0 0], eBlk b4_3 25 [.int .i64 a0.Closed, .slice A22_0 n22_0 c22_0], eS lGPosting 73 A22_0 n22_0 c22_0 s22]) (fun (_, _, _, _, _) => [fV (lSlice lGPosting) (.slice A0 a0.Postings.length c0) a0.Postings]) ?_ ?_
        · refine wc_block ?_
          refine wc_seq ?_
          refine wc_region ?_   -- region 7
          obtain ⟨k7_0, h⟩ := chk_some h
          refine wl_st (fun _ h => h.openF m0 k7_0) ?_
          refine wl_det rfl rfl (det_indexP rfl rfl (ms m0) k7_0 m0 un23 sz73) rfl ?_
          refine wl_det rfl rfl (det_loadP (off := 0) rfl m0 (by rfl) (by rfl) (loaded_n (cells := [_, _, _, _, _, _, _]) ag73 sz73)) rfl ?_
          refine wl_act (act_alloc (cs := [_, _, _, _, _, _, _]) zr73 rfl) rfl rfl rfl ?_
          rintro _ _ _ ⟨b7_2, rfl, rfl, rfl⟩
          refine wl_act0 (act_store (cells := [_, _, _, _, _, _, _]) (cs' := [_, _, _, _, _, _, _]) rfl rfl rfl s0 (by rfl) (of_decide_eq_true rfl) sz73 ⟨rfl, rfl, rfl, rfl, rfl, rfl, rfl, trivial⟩) rfl rfl ?_
          rintro _ _ _ ⟨rfl, rfl⟩
          refine wl_nil ?_
          refine pn_then ?_
          refine wc_seq ?_
          refine wc_region ?_   -- region 8
          refine wl_det rfl rfl (det_field rfl fd73_2 rfl) rfl ?_
          refine wl_det rfl rfl (det_field rfl fd41_2 rfl) rfl ?_
          refine wl_det rfl rfl (det_load rfl m0 (by rfl) na3 us3) rfl ?_
          refine wl_det rfl rfl (det_move rfl) rfl ?_
          refine wl_det rfl rfl (det_eql rfl rfl) rfl ?_
          refine wl_nil ?_
          refine pn_then ?_
          refine wc_cond rfl (fun cd28 => ?_) (fun cd28 => ?_)
          · have h := ifT h cd28
            refine wc_region ?_   -- region 9
            refine wl_det rfl rfl (det_field rfl fd25_1 rfl) rfl ?_
            refine wl_det rfl rfl (det_load rfl (ms (ms m0)) (by rfl) na23 us23) rfl ?_
            refine wl_det rfl rfl (det_loadN (cells := [_, _, _, _, _, _, _]) rfl m0 (by rfl) ag73 sz73) rfl ?_
            refine wl_act (act_litS lGPosting (vs := [_]) (cs := [_, _, _, _, _, _, _]) [(ix a0.Postings s16.2)] un23 in73 rfl rfl rfl rfl rfl ⟨rfl, trivial⟩ (by rfl) rfl (litR_flat rfl)) rfl rfl rfl ?_
            rintro _ _ _ ⟨A9_3, rfl, rfl, rfl⟩
            obtain ⟨k9_4, h⟩ := chk_some h
            refine wl_act (act_appendS (L := lGPosting) rfl rfl (ss (ss (ss (ss s0)))) (src_O m0) un23 in73 rfl rfl rfl k9_4) rfl rfl rfl ?_
            rintro _ _ _ ⟨A9_4, c9_4, rfl, rfl, rfl⟩
            refine wl_det rfl rfl (det_field rfl fd25_1 rfl) rfl ?_
            refine wl_act0 (act_store (cells := [_]) (cs' := [_, _]) rfl rfl rfl (ss (ss (ss s0))) (by rfl) (of_decide_eq_true rfl) sz23 ⟨rfl, trivial⟩) rfl rfl ?_
            rintro _ _ _ ⟨rfl, rfl⟩
            refine wl_nil ?_
            refine pn_block ?_
            replace h := Option.some.inj h
            subst h
            exact pn_meetG ((s16.1 ++ [(ix a0.Postings s16.2)]), A9_4, (s16.1 ++ [(ix a0.Postings s16.2)]).length, c9_4, ()) rfl ⟨rfl, rfl, rfl, rfl, rfl, rfl, trivial⟩ (fun _ h => h.to ⟨_, (rs (rs r0)), ⟨_, (rs (rs r0)), ⟨_, (rs (rs r0)), trivial⟩⟩⟩ ⟨(ms m0), trivial⟩)
          · have h := ifF h cd28
            refine wc_skip ?_
            refine pn_block ?_
            replace h := Option.some.inj h
            subst h
            exact pn_meetG (s16.1, A16_0, s16.1.length, c16_0, ()) rfl ⟨rfl, rfl, rfl, rfl, rfl, rfl, trivial⟩ (fun _ h => h.to ⟨_, (rs r0), ⟨_, (rs r0), ⟨_, (rs r0), trivial⟩⟩⟩ ⟨(ms m0), trivial⟩)
        rintro ⟨s22, A22_0, n22_0, c22_0, _⟩ e22
        dsimp only at e22 ⊢
        subst e22
        have h := ho22
        refine wc_know (fun _ h => h.lenO (ms (ms m0))) (fun e => ?_)
        subst e
        refine wc_region ?_   -- region 10
        refine wl_det rfl rfl (det_add rfl rfl) rfl ?_
        refine wl_det rfl rfl (det_move rfl) rfl ?_
        refine wl_nil ?_
        replace h := Option.some.inj h
        subst h
        exact pn_some (k16, (s22, (w64 (s16.2 + 1))), A22_0, s22.length, c22_0, ()) ⟨nextL g16, Nat.lt_succ_self _⟩ ⟨rfl, rfl, rfl, rfl, rfl, rfl, trivial⟩ (fun _ h => h.to ⟨_, r0, ⟨_, r0, ⟨_, r0, trivial⟩⟩⟩ ⟨m0, trivial⟩)
      · have h := ifF h cd20
        refine wc_exit ?_
        refine px_then ?_
        refine px_then ?_
        refine px_block ?_
        replace h := Option.some.inj h
        subst h
        replace g16 := nextR g16
        subst g16
        exact pn_meetG (s16.1, A16_0, s16.1.length, c16_0, ()) rfl ⟨rfl, rfl, trivial⟩ (fun _ h => h.to ⟨_, r0, ⟨_, r0, ⟨_, r0, trivial⟩⟩⟩ trivial)
    rintro ⟨s12, A12_0, n12_0, c12_0, _⟩ e12
    dsimp only at e12 ⊢
    subst e12
    have h := ho12
    refine wc_know (fun _ h => h.lenO (ms (ms m0))) (fun e => ?_)
    subst e
    refine wc_seq ?_
    refine wc_region ?_   -- region 11
    refine wl_det rfl rfl (det_loadN (cells := [_, _]) rfl (ms m0) (by rfl) ag25 sz25) rfl ?_
    refine wl_act0 (act_store (cells := [_, _]) (cs' := [_, _]) rfl rfl rfl s0 (by rfl) (of_decide_eq_true rfl) sz25 ⟨rfl, rfl, trivial⟩) rfl rfl ?_
    rintro _ _ _ ⟨rfl, rfl⟩
    refine wl_det rfl rfl (det_assign rfl) rfl ?_
    refine wl_nil ?_
    refine pn_then ?_
    refine wc_ret ?_
    replace h := Option.some.inj h
    subst h
    refine pn_ret (vs := [_, _]) rfl ⟨⟨_, _, [_, _], rfl, m0, ag25, sz25, rfl⟩, rfl, trivial⟩ ⟨A12_0, s12.length, c12_0, rfl, rfl, rfl⟩ (fun _ h => h.to ⟨_, (rs (rs r0)), trivial⟩ trivial)
def Q_treatyref33_Extract (r : GLedger × Int) : Value → List Ent → List Fact → Prop := fun v θ κ => ∃ (pA0 : Option Addr), ∃ (pn0 : Nat), ∃ (pc0 : Nat), v = .tuple #[.agg #[.int .i64 r.1.Closed, .slice pA0 pn0 pc0], .int .i64 r.2] ∧ θ = [eS lGPosting 73 pA0 pn0 pc0 r.1.Postings] ∧ κ = []
theorem plains_treatyref33_Extract {r : GLedger × Int} : ∀ v θ κ, Q_treatyref33_Extract r v θ κ → Plains θ := by
  rintro _ _ _ ⟨_, _, _, rfl, rfl, rfl⟩
  exact ⟨plain_eS, trivial⟩
set_option maxHeartbeats 4000000 in
set_option maxRecDepth 100000 in
theorem W_treatyref33_Extract (a0 : GLedger) (a1 : Int) (A0 : Option Addr) (n0 : Nat) (c0 : Nat) (r : GLedger × Int) (h : treatyref33_Extract a0 a1 = some r) : Spec Try.prog 39 [.agg #[.int .i64 a0.Closed, .slice A0 n0 c0], .int .i64 a1] [] [fV (lSlice lGPosting) (.slice A0 n0 c0) a0.Postings] (Q_treatyref33_Extract r) := by
  unfold treatyref33_Extract at h
  refine spec_of (σ := [(0, _), (1, _)]) Try.func39 rfl rfl rfl rfl ?_
  intro C
  refine wc_know (fun _ h => h.lenF m0) (fun e => ?_)
  subst e
  refine wc_seq ?_
  refine wc_region ?_   -- region 0
  refine wl_act (act_box (cs := [_, _]) rfl rfl) rfl rfl rfl ?_
  rintro _ _ _ ⟨b0_0, rfl, rfl, rfl⟩
  refine wl_act (act_alloc (cs := [_, _]) zr25 rfl) rfl rfl rfl ?_
  rintro _ _ _ ⟨b0_1, rfl, rfl, rfl⟩
  refine wl_det rfl rfl (det_assign rfl) rfl ?_
  refine wl_nil ?_
  refine pn_then ?_
  refine wc_seq ?_
  refine wc_seq ?_
  refine wc_region ?_   -- region 1
  refine wl_det rfl rfl (det_loadN (cells := [_, _]) rfl (ms m0) (by rfl) ag25 sz25) rfl ?_
  obtain ⟨r1_1, hr1_1, h⟩ := bind_some h
  refine wl_act (act_callS (cap := []) (W_treatyref33_Validate a0 A0 a0.Postings.length c0 r1_1 hr1_1) rfl rfl rfl bd22 rfl ⟨m0, trivial⟩) rfl rfl rfl ?_
  rintro _ _ _ ⟨_, _, ⟨rfl, rfl, rfl⟩, rfl, rfl⟩
  dsimp only [List.nil_append, List.cons_append]
  refine wl_det rfl rfl (det_assign rfl) rfl ?_
  refine wl_nil ?_
  refine pn_then ?_
  refine wc_seq ?_
  refine wc_region ?_   -- region 2
  refine wl_det rfl rfl (det_move rfl) rfl ?_
  refine wl_det rfl rfl (det_neq rfl rfl) rfl ?_
  refine wl_nil ?_
  refine pn_then ?_
  refine wc_cond rfl (fun cd7 => ?_) (fun cd7 => ?_)
  · have h := ifT h cd7
    refine wc_seq ?_
    refine wc_region ?_   -- region 3
    refine wl_det rfl rfl (det_build (cs := [_, _]) pl25 zr25 rfl rfl (by rfl)) rfl ?_
    refine wl_det rfl rfl (det_move rfl) rfl ?_
    refine wl_act0 (act_store (cells := [_, _]) (cs' := [_, _]) rfl rfl rfl s0 (by rfl) (of_decide_eq_true rfl) sz25 ⟨rfl, rfl, trivial⟩) rfl rfl ?_
    rintro _ _ _ ⟨rfl, rfl⟩
    refine wl_det rfl rfl (det_assign rfl) rfl ?_
    refine wl_nil ?_
    refine pn_then ?_
    refine wc_ret ?_
    refine pr_then ?_
    refine pn_st (fun _ h => h.zeroS lGPosting 73 none) ?_
    replace h := Option.some.inj h
    subst h
    refine pn_ret (vs := [_, _]) rfl ⟨⟨_, _, [_, _], rfl, (ms m0), ag25, sz25, rfl⟩, rfl, trivial⟩ ⟨none, 0, 0, rfl, rfl, rfl⟩ (fun _ h => h.to ⟨_, r0, trivial⟩ trivial)
  · have h := ifF h cd7
    refine wc_skip ?_
    refine pn_then ?_
    refine wc_seq ?_
    refine wc_region ?_   -- region 4
    refine wl_det rfl rfl (det_field rfl fd25_0 rfl) rfl ?_
    refine wl_det rfl rfl (det_load rfl (ms m0) (by rfl) na3 us3) rfl ?_
    refine wl_det rfl rfl (det_build (cs := [_, _]) pl25 zr25 rfl rfl (by rfl)) rfl ?_
    refine wl_act (act_alloc (cs := [_, _]) zr25 rfl) rfl rfl rfl ?_
    rintro _ _ _ ⟨b4_3, rfl, rfl, rfl⟩
    refine wl_act0 (act_store (cells := [_, _]) (cs' := [_, _]) rfl rfl rfl s0 (by rfl) (of_decide_eq_true rfl) sz25 ⟨rfl, rfl, trivial⟩) rfl rfl ?_
    rintro _ _ _ ⟨rfl, rfl⟩
    refine wl_nil ?_
    refine pn_then ?_
    obtain ⟨q12, h, ho12⟩ := bind_some h
    refine wc_meetG (G := (List GPosting) × Option Addr × Nat × Nat × Unit) (fun (s12, _, _, _, _) => s12 = q12) (fun (_, _, _, _, _) => [(4, .pointer (some ⟨b0_1, 0, none⟩)), (7, .pointer (some ⟨b4_3, 0, none⟩))]) (fun (s12, A12_0, n12_0, c12_0, _) => [eBlk b0_1 25 [.int .i64 0, .slice none 0 0], eBlk b4_3 25 [.int .i64 a0.Closed, .slice A12_0 n12_0 c12_0], eS lGPosting 73 A12_0 n12_0 c12_0 s12]) (fun (_, _, _, _, _) => []) ?_ ?_
    · refine wc_seq ?_
      refine wc_region ?_   -- region 5
      refine wl_det rfl rfl (det_field rfl fd25_1 rfl) rfl ?_
      refine wl_det rfl rfl (det_load rfl (ms (ms m0)) (by rfl) na23 us23) rfl ?_
      refine wl_det rfl rfl (det_len rfl un23) rfl ?_
      refine wl_det rfl rfl (det_move rfl) rfl ?_
      refine wl_nil ?_
      refine pn_then ?_
      refine wc_block ?_
      refine wc_st (fun _ h => h.zeroS lGPosting 73 none) ?_
      obtain ⟨k16, hk16⟩ := loopV_some.1 h
      refine wc_loop (G := Nat × ((List GPosting) × Int) × Option Addr × Nat × Nat × Unit) (fun g => IterN (treatyref33_Extract_l16 a0 a1) g.1 g.2.1 q12) (fun g => g.1) (fun (_, s16, _, _, _, _) => [(1, .int .i64 a1), (4, .pointer (some ⟨b0_1, 0, none⟩)), (7, .pointer (some ⟨b4_3, 0, none⟩)), (20, .slice A0 a0.Postings.length c0), (21, .int .i64 (a0.Postings.length : Int)), (22, .int .i64 s16.2)]) (fun (_, s16, A16_0, n16_0, c16_0, _) => [eBlk b0_1 25 [.int .i64 0, .slice none 0 0], eBlk b4_3 25 [.int .i64 a0.Closed, .slice A16_0 n16_0 c16_0], eS lGPosting 73 A16_0 n16_0 c16_0 s16.1]) (fun (_, _, _, _, _, _) => [fV (lSlice lGPosting) (.slice A0 a0.Postings.length c0) a0.Postings]) (k16, ([], 0), none, 0, 0, ()) hk16 ⟨rfl, rfl, rfl, rfl, rfl, rfl, trivial⟩ (fun _ h => h.to ⟨_, (rs (rs r0)), ⟨_, (rs r0), ⟨_, r0, trivial⟩⟩⟩ ⟨m0, trivial⟩) ?_
      rintro ⟨k16, s16, A16_0, n16_0, c16_0, _⟩ hI
      obtain ⟨k16, rfl, q16, h, g16⟩ := IterN.pos hI
      dsimp only at h ⊢
      unfold treatyref33_Extract_l16 at h
      refine wc_know (fun _ h => h.lenO (ms (ms m0))) (fun e => ?_)
      subst e
      refine wc_seq ?_
      refine wc_region ?_   -- region 6
      refine wl_det rfl rfl (det_lss rfl rfl) rfl ?_
      refine wl_nil ?_
      refine pn_then ?_
      refine wc_seq ?_
      refine wc_cond rfl (fun cd20 => ?_) (fun cd20 => ?_)
      · have h := ifT h cd20
        refine wc_skip ?_
        refine pn_then ?_
        obtain ⟨q22, h, ho22⟩ := bind_some h
        refine wc_meetG (G := (List GPosting) × Option Addr × Nat × Nat × Unit) (fun (s22, _, _, _, _) => s22 = q22) (fun (_, _, _, _, _) => [(1, .int .i64 a1), (4, .pointer (some ⟨b0_1, 0, none⟩)), (7, .pointer (some ⟨b4_3, 0, none⟩)), (20, .slice A0 a0.Postings.length c0), (21, .int .i64 (a0.Postings.length : Int)), (22, .int .i64 s16.2)]) (fun (s22, A22_0, n22_0, c22_0, _) => [eBlk b0_1 25 [.int .i64 0, .slice none 0 0], eBlk b4_3 25 [.int .i64 a0.Closed, .slice A22_0 n22_0 c22_0], eS lGPosting 73 A22_0 n22_0 c22_0 s22]) (fun (_, _, _, _, _) => [fV (lSlice lGPosting) (.slice A0 a0.Postings.length c0) a0.Postings]) ?_ ?_
        · refine wc_block ?_
          refine wc_seq ?_
          refine wc_region ?_   -- region 7
          obtain ⟨k7_0, h⟩ := chk_some h
          refine wl_st (fun _ h => h.openF m0 k7_0) ?_
          refine wl_det rfl rfl (det_indexP rfl rfl (ms m0) k7_0 m0 un23 sz73) rfl ?_
          refine wl_det rfl rfl (det_loadP (off := 0) rfl m0 (by rfl) (by rfl) (loaded_n (cells := [_, _, _, _, _, _, _]) ag73 sz73)) rfl ?_
          refine wl_act (act_alloc (cs := [_, _, _, _, _, _, _]) zr73 rfl) rfl rfl rfl ?_
          rintro _ _ _ ⟨b7_2, rfl, rfl, rfl⟩
          refine wl_act0 (act_store (cells := [_, _, _, _, _, _, _]) (cs' := [_, _, _, _, _, _, _]) rfl rfl rfl s0 (by rfl) (of_decide_eq_true rfl) sz73 ⟨rfl, rfl, rfl, rfl, rfl, rfl, rfl, trivial⟩) rfl rfl ?_
          rintro _ _ _ ⟨rfl, rfl⟩
          refine wl_nil ?_
          refine pn_then ?_
          refine wc_seq ?_
          refine wc_region ?_   -- region 8
          refine wl_det rfl rfl (det_field rfl fd73_2 rfl) rfl ?_
          refine wl_det rfl rfl (det_field rfl fd41_2 rfl) rfl ?_
          refine wl_det rfl rfl (det_load rfl m0 (by rfl) na3 us3) rfl ?_
          refine wl_det rfl rfl (det_move rfl) rfl ?_
          refine wl_det rfl rfl (det_eql rfl rfl) rfl ?_
          refine wl_nil ?_
          refine pn_then ?_
          refine wc_cond rfl (fun cd28 => ?_) (fun cd28 => ?_)
          · have h := ifT h cd28
            refine wc_region ?_   -- region 9
            refine wl_det rfl rfl (det_field rfl fd25_1 rfl) rfl ?_
            refine wl_det rfl rfl (det_load rfl (ms (ms m0)) (by rfl) na23 us23) rfl ?_
            refine wl_det rfl rfl (det_loadN (cells := [_, _, _, _, _, _, _]) rfl m0 (by rfl) ag73 sz73) rfl ?_
            refine wl_act (act_litS lGPosting (vs := [_]) (cs := [_, _, _, _, _, _, _]) [(ix a0.Postings s16.2)] un23 in73 rfl rfl rfl rfl rfl ⟨rfl, trivial⟩ (by rfl) rfl (litR_flat rfl)) rfl rfl rfl ?_
            rintro _ _ _ ⟨A9_3, rfl, rfl, rfl⟩
            obtain ⟨k9_4, h⟩ := chk_some h
            refine wl_act (act_appendS (L := lGPosting) rfl rfl (ss (ss (ss (ss s0)))) (src_O m0) un23 in73 rfl rfl rfl k9_4) rfl rfl rfl ?_
            rintro _ _ _ ⟨A9_4, c9_4, rfl, rfl, rfl⟩
            refine wl_det rfl rfl (det_field rfl fd25_1 rfl) rfl ?_
            refine wl_act0 (act_store (cells := [_]) (cs' := [_, _]) rfl rfl rfl (ss (ss (ss s0))) (by rfl) (of_decide_eq_true rfl) sz23 ⟨rfl, trivial⟩) rfl rfl ?_
            rintro _ _ _ ⟨rfl, rfl⟩
            refine wl_nil ?_
            refine pn_block ?_
            replace h := Option.some.inj h
            subst h
            exact pn_meetG ((s16.1 ++ [(ix a0.Postings s16.2)]), A9_4, (s16.1 ++ [(ix a0.Postings s16.2)]).length, c9_4, ()) rfl ⟨rfl, rfl, rfl, rfl, rfl, rfl, trivial⟩ (fun _ h => h.to ⟨_, (rs (rs r0)), ⟨_, (rs (rs r0)), ⟨_, (rs (rs r0)), trivial⟩⟩⟩ ⟨(ms m0), trivial⟩)
          · have h := ifF h cd28
            refine wc_skip ?_
            refine pn_block ?_
            replace h := Option.some.inj h
            subst h
            exact pn_meetG (s16.1, A16_0, s16.1.length, c16_0, ()) rfl ⟨rfl, rfl, rfl, rfl, rfl, rfl, trivial⟩ (fun _ h => h.to ⟨_, (rs r0), ⟨_, (rs r0), ⟨_, (rs r0), trivial⟩⟩⟩ ⟨(ms m0), trivial⟩)
        rintro ⟨s22, A22_0, n22_0, c22_0, _⟩ e22
        dsimp only at e22 ⊢
        subst e22
        have h := ho22
        refine wc_know (fun _ h => h.lenO (ms (ms m0))) (fun e => ?_)
        subst e
        refine wc_region ?_   -- region 10
        refine wl_det rfl rfl (det_add rfl rfl) rfl ?_
        refine wl_det rfl rfl (det_move rfl) rfl ?_
        refine wl_nil ?_
        replace h := Option.some.inj h
        subst h
        exact pn_some (k16, (s22, (w64 (s16.2 + 1))), A22_0, s22.length, c22_0, ()) ⟨nextL g16, Nat.lt_succ_self _⟩ ⟨rfl, rfl, rfl, rfl, rfl, rfl, trivial⟩ (fun _ h => h.to ⟨_, r0, ⟨_, r0, ⟨_, r0, trivial⟩⟩⟩ ⟨m0, trivial⟩)
      · have h := ifF h cd20
        refine wc_exit ?_
        refine px_then ?_
        refine px_then ?_
        refine px_block ?_
        replace h := Option.some.inj h
        subst h
        replace g16 := nextR g16
        subst g16
        exact pn_meetG (s16.1, A16_0, s16.1.length, c16_0, ()) rfl ⟨rfl, rfl, trivial⟩ (fun _ h => h.to ⟨_, r0, ⟨_, r0, ⟨_, r0, trivial⟩⟩⟩ trivial)
    rintro ⟨s12, A12_0, n12_0, c12_0, _⟩ e12
    dsimp only at e12 ⊢
    subst e12
    have h := ho12
    refine wc_know (fun _ h => h.lenO (ms (ms m0))) (fun e => ?_)
    subst e
    refine wc_seq ?_
    refine wc_region ?_   -- region 11
    refine wl_det rfl rfl (det_loadN (cells := [_, _]) rfl (ms m0) (by rfl) ag25 sz25) rfl ?_
    refine wl_act0 (act_store (cells := [_, _]) (cs' := [_, _]) rfl rfl rfl s0 (by rfl) (of_decide_eq_true rfl) sz25 ⟨rfl, rfl, trivial⟩) rfl rfl ?_
    rintro _ _ _ ⟨rfl, rfl⟩
    refine wl_det rfl rfl (det_assign rfl) rfl ?_
    refine wl_nil ?_
    refine pn_then ?_
    refine wc_ret ?_
    replace h := Option.some.inj h
    subst h
    refine pn_ret (vs := [_, _]) rfl ⟨⟨_, _, [_, _], rfl, m0, ag25, sz25, rfl⟩, rfl, trivial⟩ ⟨A12_0, s12.length, c12_0, rfl, rfl, rfl⟩ (fun _ h => h.to ⟨_, (rs (rs r0)), trivial⟩ trivial)
def Q_treatyref33_SamePostings (r : Bool) : Value → List Ent → List Fact → Prop := fun v θ κ => v = .bool r ∧ θ = [] ∧ κ = []
theorem plains_treatyref33_SamePostings {r : Bool} : ∀ v θ κ, Q_treatyref33_SamePostings r v θ κ → Plains θ := by
  rintro _ _ _ ⟨rfl, rfl, rfl⟩
  exact trivial
set_option maxHeartbeats 4000000 in
set_option maxRecDepth 100000 in
theorem W_treatyref33_SamePostings (a0 : (List GPosting)) (a1 : (List GPosting)) (A0 : Option Addr) (n0 : Nat) (c0 : Nat) (A3 : Option Addr) (n3 : Nat) (c3 : Nat) (r : Bool) (h : treatyref33_SamePostings a0 a1 = some r) : Spec Try.prog 37 [.slice A0 n0 c0, .slice A3 n3 c3] [] [fV (lSlice lGPosting) (.slice A0 n0 c0) a0, fV (lSlice lGPosting) (.slice A3 n3 c3) a1] (Q_treatyref33_SamePostings r) := by
  unfold treatyref33_SamePostings at h
  refine spec_of (σ := [(0, _), (1, _)]) Try.func37 rfl rfl rfl rfl ?_
  intro C
  refine wc_know (fun _ h => h.lenF m0) (fun e => ?_)
  subst e
  refine wc_know (fun _ h => h.lenF (ms m0)) (fun e => ?_)
  subst e
  refine wc_seq ?_
  refine wc_region ?_   -- region 0
  refine wl_det rfl rfl (det_assign rfl) rfl ?_
  refine wl_nil ?_
  refine pn_then ?_
  refine wc_seq ?_
  refine wc_seq ?_
  refine wc_region ?_   -- region 1
  refine wl_det rfl rfl (det_move rfl) rfl ?_
  refine wl_det rfl rfl (det_len rfl un23) rfl ?_
  refine wl_det rfl rfl (det_move rfl) rfl ?_
  refine wl_det rfl rfl (det_len rfl un23) rfl ?_
  refine wl_det rfl rfl (det_neq rfl rfl) rfl ?_
  refine wl_nil ?_
  refine pn_then ?_
  refine wc_cond rfl (fun cd5 => ?_) (fun cd5 => ?_)
  · have h := ifT h cd5
    refine wc_seq ?_
    refine wc_region ?_   -- region 2
    refine wl_det rfl rfl (det_assign rfl) rfl ?_
    refine wl_nil ?_
    refine pn_then ?_
    refine wc_ret ?_
    refine pr_then ?_
    replace h := Option.some.inj h
    subst h
    refine pn_ret (vs := [_]) rfl ⟨rfl, trivial⟩ ⟨rfl, rfl, rfl⟩ (fun _ h => h.to trivial trivial)
  · have h := ifF h cd5
    refine wc_skip ?_
    refine pn_then ?_
    obtain ⟨q8, h, ho8⟩ := bind_some h
    refine wc_meetG (G := Unit × Unit) (fun (s8, _) => (.inl s8) = q8) (fun (_, _) => []) (fun (_, _) => []) (fun (_, _) => []) ?_ ?_
    · refine wc_seq ?_
      refine wc_region ?_   -- region 3
      refine wl_det rfl rfl (det_move rfl) rfl ?_
      refine wl_det rfl rfl (det_len rfl un23) rfl ?_
      refine wl_det rfl rfl (det_move rfl) rfl ?_
      refine wl_nil ?_
      refine pn_then ?_
      refine wc_block ?_
      obtain ⟨o12, h, ho12⟩ := bind_some h
      obtain ⟨k12, hk12⟩ := loopV_some.1 h
      refine wc_loop (G := Nat × Int × Unit) (fun g => IterN (treatyref33_SamePostings_l12 a0 a1) g.1 g.2.1 o12) (fun g => g.1) (fun (_, s12, _) => [(0, .slice A0 a0.length c0), (1, .slice A3 a1.length c3), (12, .int .i64 (a0.length : Int)), (13, .int .i64 s12)]) (fun (_, _, _) => []) (fun (_, _, _) => [fV (lSlice lGPosting) (.slice A0 a0.length c0) a0, fV (lSlice lGPosting) (.slice A3 a1.length c3) a1]) (k12, 0, ()) hk12 ⟨rfl, rfl, rfl, rfl, trivial⟩ (fun _ h => h.to trivial ⟨m0, ⟨(ms m0), trivial⟩⟩) ?_
      rintro ⟨k12, s12, _⟩ hI
      obtain ⟨k12, rfl, q12, h, g12⟩ := IterN.pos hI
      dsimp only at h ⊢
      unfold treatyref33_SamePostings_l12 at h
      refine wc_seq ?_
      refine wc_region ?_   -- region 4
      refine wl_det rfl rfl (det_lss rfl rfl) rfl ?_
      refine wl_nil ?_
      refine pn_then ?_
      refine wc_seq ?_
      refine wc_cond rfl (fun cd16 => ?_) (fun cd16 => ?_)
      · have h := ifT h cd16
        refine wc_skip ?_
        refine pn_then ?_
        refine wc_seq ?_
        refine wc_block ?_
        refine wc_seq ?_
        refine wc_region ?_   -- region 5
        refine wl_det rfl rfl (det_move rfl) rfl ?_
        refine wl_det rfl rfl (det_assign rfl) rfl ?_
        refine wl_nil ?_
        refine pn_then ?_
        refine wc_seq ?_
        obtain ⟨k6_p1, h⟩ := chk_some h
        refine wc_st (fun _ h => h.openF m0 k6_p1) ?_
        obtain ⟨k6_p3, h⟩ := chk_some h
        refine wc_st (fun _ h => h.openF (ms (ms m0)) k6_p3) ?_
        refine dx_region 9 [[], [], [0, 1], [0, 1, 2], [], [], [4, 5], [4, 5, 6], [0, 1, 2, 3, 4, 5, 6, 7]] mixed (ord := (.det 0 (.det 1 (.det 2 (.det 3 (.det 4 (.det 5 (.det 6 (.det 7 (.det 8 .done)))))))))) (by kernel_rfl) ?_   -- region 6
        refine hx_det rfl rfl rfl nofun (det_move rfl) rfl ?_
        refine hx_det rfl rfl rfl nofun (det_move rfl) rfl ?_
        refine hx_det rfl rfl rfl nofun (det_indexP rfl rfl (ms (ms m0)) k6_p1 (ms m0) un23 sz73) rfl ?_
        refine hx_det rfl rfl rfl nofun (det_loadP (off := 0) rfl (ms m0) (by rfl) (by rfl) (loaded_n (cells := [_, _, _, _, _, _, _]) ag73 sz73)) rfl ?_
        refine hx_det rfl rfl rfl nofun (det_move rfl) rfl ?_
        refine hx_det rfl rfl rfl nofun (det_move rfl) rfl ?_
        refine hx_det rfl rfl rfl nofun (det_indexP rfl rfl (ms (ms (ms m0))) k6_p3 m0 un23 sz73) rfl ?_
        refine hx_det rfl rfl rfl nofun (det_loadP (off := 0) rfl m0 (by rfl) (by rfl) (loaded_n (cells := [_, _, _, _, _, _, _]) ag73 sz73)) rfl ?_
        refine hx_det rfl rfl rfl nofun (det_neqS [_, _, _, _, _, _, _] [_, _, _, _, _, _, _] eq73 rfl rfl rfl rfl) rfl ?_
        refine hx_end ?_
        refine wl_nil ?_
        refine pn_then ?_
        refine wc_cond rfl (fun cd24 => ?_) (fun cd24 => ?_)
        · have h := ifT h cd24
          refine wc_seq ?_
          refine wc_region ?_   -- region 7
          refine wl_det rfl rfl (det_assign rfl) rfl ?_
          refine wl_nil ?_
          refine pn_then ?_
          refine wc_ret ?_
          refine pr_block ?_
          refine pr_then ?_
          refine pr_then ?_
          refine pr_block ?_
          refine pr_then ?_
          replace h := Option.some.inj h
          subst h
          replace g12 := nextR g12
          subst g12
          have h := (elimL ho12)
          replace h := Option.some.inj h
          subst h
          have h := (elimR ho8)
          replace h := Option.some.inj h
          subst h
          refine pn_ret (vs := [_]) rfl ⟨rfl, trivial⟩ ⟨rfl, rfl, rfl⟩ (fun _ h => h.to trivial trivial)
        · have h := ifF h cd24
          refine wc_skip ?_
          refine pn_block ?_
          refine pn_then ?_
          refine wc_region ?_   -- region 8
          refine wl_det rfl rfl (det_add rfl rfl) rfl ?_
          refine wl_det rfl rfl (det_move rfl) rfl ?_
          refine wl_nil ?_
          replace h := Option.some.inj h
          subst h
          exact pn_some (k12, (w64 (s12 + 1)), ()) ⟨nextL g12, Nat.lt_succ_self _⟩ ⟨rfl, rfl, rfl, rfl, trivial⟩ (fun _ h => h.to trivial ⟨(ms (ms m0)), ⟨(ms (ms (ms m0))), trivial⟩⟩)
      · have h := ifF h cd16
        refine wc_exit ?_
        refine px_then ?_
        refine px_then ?_
        refine px_block ?_
        replace h := Option.some.inj h
        subst h
        replace g12 := nextR g12
        subst g12
        have h := (elimR ho12)
        replace h := Option.some.inj h
        subst h
        exact pn_meetG ((), ()) rfl trivial (fun _ h => h.to trivial trivial)
    rintro ⟨s8, _⟩ e8
    dsimp only at e8 ⊢
    subst e8
    have h := (elimL ho8)
    refine wc_seq ?_
    refine wc_region ?_   -- region 9
    refine wl_det rfl rfl (det_assign rfl) rfl ?_
    refine wl_nil ?_
    refine pn_then ?_
    refine wc_ret ?_
    replace h := Option.some.inj h
    subst h
    refine pn_ret (vs := [_]) rfl ⟨rfl, trivial⟩ ⟨rfl, rfl, rfl⟩ (fun _ h => h.to trivial trivial)
def Q_treatyref33_SameLedger (r : Bool) : Value → List Ent → List Fact → Prop := fun v θ κ => v = .bool r ∧ θ = [] ∧ κ = []
theorem plains_treatyref33_SameLedger {r : Bool} : ∀ v θ κ, Q_treatyref33_SameLedger r v θ κ → Plains θ := by
  rintro _ _ _ ⟨rfl, rfl, rfl⟩
  exact trivial
set_option maxHeartbeats 4000000 in
set_option maxRecDepth 100000 in
theorem W_treatyref33_SameLedger (a0 : GLedger) (a1 : GLedger) (A0 : Option Addr) (n0 : Nat) (c0 : Nat) (A3 : Option Addr) (n3 : Nat) (c3 : Nat) (r : Bool) (h : treatyref33_SameLedger a0 a1 = some r) : Spec Try.prog 33 [.agg #[.int .i64 a0.Closed, .slice A0 n0 c0], .agg #[.int .i64 a1.Closed, .slice A3 n3 c3]] [] [fV (lSlice lGPosting) (.slice A0 n0 c0) a0.Postings, fV (lSlice lGPosting) (.slice A3 n3 c3) a1.Postings] (Q_treatyref33_SameLedger r) := by
  unfold treatyref33_SameLedger at h
  refine spec_of (σ := [(0, _), (1, _)]) Try.func33 rfl rfl rfl rfl ?_
  intro C
  refine wc_know (fun _ h => h.lenF m0) (fun e => ?_)
  subst e
  refine wc_know (fun _ h => h.lenF (ms m0)) (fun e => ?_)
  subst e
  refine wc_seq ?_
  refine wc_region ?_   -- region 0
  refine wl_act (act_box (cs := [_, _]) rfl rfl) rfl rfl rfl ?_
  rintro _ _ _ ⟨b0_0, rfl, rfl, rfl⟩
  refine wl_act (act_box (cs := [_, _]) rfl rfl) rfl rfl rfl ?_
  rintro _ _ _ ⟨b0_1, rfl, rfl, rfl⟩
  refine wl_det rfl rfl (det_assign rfl) rfl ?_
  refine wl_nil ?_
  refine pn_then ?_
  refine wc_seq ?_
  refine wc_region ?_   -- region 1
  refine wl_det rfl rfl (det_field rfl fd25_0 rfl) rfl ?_
  refine wl_det rfl rfl (det_load rfl (ms m0) (by rfl) na3 us3) rfl ?_
  refine wl_det rfl rfl (det_field rfl fd25_0 rfl) rfl ?_
  refine wl_det rfl rfl (det_load rfl m0 (by rfl) na3 us3) rfl ?_
  refine wl_det rfl rfl (det_eql rfl rfl) rfl ?_
  refine wl_det rfl rfl (det_move rfl) rfl ?_
  obtain ⟨q1_11, hq1_11, h⟩ := bind_some h
  have ho1_11 := h
  refine wl_way (decide (a0.Closed = a1.Closed)) q1_11 6 16 (fun hg => ?_) (fun hg => ?_) ?_
  · have hg1_11 := hg
    have h := ifT hq1_11 hg
    refine wl_on rfl rfl rfl rfl hg1_11 ?_
    refine wl_det rfl rfl (det_field rfl fd25_1 rfl) rfl ?_
    refine wl_on rfl rfl rfl rfl hg1_11 ?_
    refine wl_det rfl rfl (det_load rfl (ms m0) (by rfl) na23 us23) rfl ?_
    refine wl_on rfl rfl rfl rfl hg1_11 ?_
    refine wl_det rfl rfl (det_field rfl fd25_1 rfl) rfl ?_
    refine wl_on rfl rfl rfl rfl hg1_11 ?_
    refine wl_det rfl rfl (det_load rfl m0 (by rfl) na23 us23) rfl ?_
    refine wl_on rfl rfl rfl rfl hg1_11 ?_
    obtain ⟨r1_10, hr1_10, h⟩ := bind_some h
    refine wl_act (act_callS (cap := []) (W_treatyref33_SamePostings a0.Postings a1.Postings A0 a0.Postings.length c0 A3 a1.Postings.length c3 r1_10 hr1_10) rfl rfl rfl bd37 rfl ⟨m0, ⟨(ms m0), trivial⟩⟩) rfl rfl rfl ?_
    rintro _ _ _ ⟨_, _, ⟨rfl, rfl, rfl⟩, rfl, rfl⟩
    dsimp only [List.nil_append, List.cons_append]
    replace h := Option.some.inj h
    subst h
    refine wl_det rfl rfl (det_pick_on rfl hg1_11 rfl rfl) rfl ?_
    exact wl_nil (pn_qnE (ext_cons rfl (ext_skip rfl (ext_skip rfl (ext_skip rfl (ext_skip rfl (ext_skip rfl (ext_skip rfl ext_refl))))))) (fun _ h => h))
  · have hg1_11a := hg
    have h := ifF hq1_11 hg
    refine wl_off rfl rfl rfl rfl rfl hg1_11a rfl ?_
    refine wl_off rfl rfl rfl rfl rfl hg1_11a rfl ?_
    refine wl_off rfl rfl rfl rfl rfl hg1_11a rfl ?_
    refine wl_off rfl rfl rfl rfl rfl hg1_11a rfl ?_
    refine wl_off rfl rfl rfl rfl rfl hg1_11a rfl ?_
    replace h := Option.some.inj h
    subst h
    refine wl_det rfl rfl (det_pick_off rfl hg1_11a rfl rfl) rfl ?_
    exact wl_nil (pn_qnE (ext_cons rfl (ext_skip rfl (ext_skip rfl (ext_skip rfl (ext_skip rfl (ext_skip rfl (ext_skip rfl ext_refl))))))) (fun _ h => h))
  have h := ho1_11
  refine wl_det rfl rfl (det_assign rfl) rfl ?_
  refine wl_nil ?_
  refine pn_then ?_
  refine wc_ret ?_
  replace h := Option.some.inj h
  subst h
  refine pn_ret (vs := [_]) rfl ⟨rfl, trivial⟩ ⟨rfl, rfl, rfl⟩ (fun _ h => h.to trivial trivial)
def Q_cmp_isNaN_int (r : Bool) : Value → List Ent → List Fact → Prop := fun v θ κ => v = .bool r ∧ θ = [] ∧ κ = []
theorem plains_cmp_isNaN_int {r : Bool} : ∀ v θ κ, Q_cmp_isNaN_int r v θ κ → Plains θ := by
  rintro _ _ _ ⟨rfl, rfl, rfl⟩
  exact trivial
set_option maxHeartbeats 4000000 in
set_option maxRecDepth 100000 in
theorem W_cmp_isNaN_int (a0 : Int) (r : Bool) (h : cmp_isNaN_int a0 = some r) : Spec Try.prog 86 [.int .i64 a0] [] [] (Q_cmp_isNaN_int r) := by
  unfold cmp_isNaN_int at h
  refine spec_of (σ := [(0, _)]) Try.func86 rfl rfl rfl rfl ?_
  intro C
  refine wc_seq ?_
  refine wc_region ?_   -- region 0
  refine wl_det rfl rfl (det_assign rfl) rfl ?_
  refine wl_nil ?_
  refine pn_then ?_
  refine wc_seq ?_
  refine wc_region ?_   -- region 1
  refine wl_det rfl rfl (det_move rfl) rfl ?_
  refine wl_det rfl rfl (det_move rfl) rfl ?_
  refine wl_det rfl rfl (det_neq rfl rfl) rfl ?_
  refine wl_det rfl rfl (det_assign rfl) rfl ?_
  refine wl_nil ?_
  refine pn_then ?_
  refine wc_ret ?_
  replace h := Option.some.inj h
  subst h
  refine pn_ret (vs := [_]) rfl ⟨rfl, trivial⟩ ⟨rfl, rfl, rfl⟩ (fun _ h => h.to trivial trivial)
def Q_cmp_Compare_int (r : Int) : Value → List Ent → List Fact → Prop := fun v θ κ => v = .int .i64 r ∧ θ = [] ∧ κ = []
theorem plains_cmp_Compare_int {r : Int} : ∀ v θ κ, Q_cmp_Compare_int r v θ κ → Plains θ := by
  rintro _ _ _ ⟨rfl, rfl, rfl⟩
  exact trivial
set_option maxHeartbeats 4000000 in
set_option maxRecDepth 100000 in
theorem W_cmp_Compare_int (a0 : Int) (a1 : Int) (r : Int) (h : cmp_Compare_int a0 a1 = some r) : Spec Try.prog 70 [.int .i64 a0, .int .i64 a1] [] [] (Q_cmp_Compare_int r) := by
  unfold cmp_Compare_int at h
  refine spec_of (σ := [(0, _), (1, _)]) Try.func70 rfl rfl rfl rfl ?_
  intro C
  refine wc_seq ?_
  refine wc_region ?_   -- region 0
  refine wl_det rfl rfl (det_assign rfl) rfl ?_
  refine wl_nil ?_
  refine pn_then ?_
  refine wc_seq ?_
  refine wc_region ?_   -- region 1
  refine wl_det rfl rfl (det_move rfl) rfl ?_
  obtain ⟨r1_1, hr1_1, h⟩ := bind_some h
  refine wl_act (act_callS (cap := []) (W_cmp_isNaN_int a0 r1_1 hr1_1) rfl rfl rfl bd86 rfl trivial) rfl rfl rfl ?_
  rintro _ _ _ ⟨_, _, ⟨rfl, rfl, rfl⟩, rfl, rfl⟩
  dsimp only [List.nil_append, List.cons_append]
  refine wl_det rfl rfl (det_assign rfl) rfl ?_
  refine wl_nil ?_
  refine pn_then ?_
  refine wc_seq ?_
  refine wc_region ?_   -- region 2
  refine wl_det rfl rfl (det_move rfl) rfl ?_
  obtain ⟨r2_1, hr2_1, h⟩ := bind_some h
  refine wl_act (act_callS (cap := []) (W_cmp_isNaN_int a1 r2_1 hr2_1) rfl rfl rfl bd86 rfl trivial) rfl rfl rfl ?_
  rintro _ _ _ ⟨_, _, ⟨rfl, rfl, rfl⟩, rfl, rfl⟩
  dsimp only [List.nil_append, List.cons_append]
  refine wl_det rfl rfl (det_assign rfl) rfl ?_
  refine wl_nil ?_
  refine pn_then ?_
  refine wc_seq ?_
  refine wc_seq ?_
  refine wc_region ?_   -- region 3
  refine wl_det rfl rfl (det_move rfl) rfl ?_
  refine wl_nil ?_
  refine pn_then ?_
  refine wc_cond rfl (fun cd9 => ?_) (fun cd9 => ?_)
  · have h := ifT h cd9
    refine wc_seq ?_
    refine wc_seq ?_
    refine wc_region ?_   -- region 4
    refine wl_det rfl rfl (det_move rfl) rfl ?_
    refine wl_nil ?_
    refine pn_then ?_
    refine wc_cond rfl (fun cd13 => ?_) (fun cd13 => ?_)
    · have h := ifT h cd13
      refine wc_seq ?_
      refine wc_region ?_   -- region 5
      refine wl_det rfl rfl (det_assign rfl) rfl ?_
      refine wl_nil ?_
      refine pn_then ?_
      refine wc_ret ?_
      refine pr_then ?_
      refine pr_then ?_
      replace h := Option.some.inj h
      subst h
      refine pn_ret (vs := [_]) rfl ⟨rfl, trivial⟩ ⟨rfl, rfl, rfl⟩ (fun _ h => h.to trivial trivial)
    · have h := ifF h cd13
      refine wc_skip ?_
      refine pn_then ?_
      refine wc_seq ?_
      refine wc_region ?_   -- region 6
      refine wl_det rfl rfl (det_assign rfl) rfl ?_
      refine wl_nil ?_
      refine pn_then ?_
      refine wc_ret ?_
      refine pr_then ?_
      replace h := Option.some.inj h
      subst h
      refine pn_ret (vs := [_]) rfl ⟨rfl, trivial⟩ ⟨rfl, rfl, rfl⟩ (fun _ h => h.to trivial trivial)
  · have h := ifF h cd9
    refine wc_skip ?_
    refine pn_then ?_
    refine wc_seq ?_
    refine wc_seq ?_
    refine wc_region ?_   -- region 7
    refine wl_det rfl rfl (det_move rfl) rfl ?_
    refine wl_nil ?_
    refine pn_then ?_
    refine wc_cond rfl (fun cd21 => ?_) (fun cd21 => ?_)
    · have h := ifT h cd21
      refine wc_seq ?_
      refine wc_region ?_   -- region 8
      refine wl_det rfl rfl (det_assign rfl) rfl ?_
      refine wl_nil ?_
      refine pn_then ?_
      refine wc_ret ?_
      refine pr_then ?_
      replace h := Option.some.inj h
      subst h
      refine pn_ret (vs := [_]) rfl ⟨rfl, trivial⟩ ⟨rfl, rfl, rfl⟩ (fun _ h => h.to trivial trivial)
    · have h := ifF h cd21
      refine wc_skip ?_
      refine pn_then ?_
      refine wc_seq ?_
      refine wc_seq ?_
      refine wc_region ?_   -- region 9
      refine wl_det rfl rfl (det_move rfl) rfl ?_
      refine wl_det rfl rfl (det_move rfl) rfl ?_
      refine wl_det rfl rfl (det_lss rfl rfl) rfl ?_
      refine wl_nil ?_
      refine pn_then ?_
      refine wc_cond rfl (fun cd27 => ?_) (fun cd27 => ?_)
      · have h := ifT h cd27
        refine wc_seq ?_
        refine wc_region ?_   -- region 10
        refine wl_det rfl rfl (det_assign rfl) rfl ?_
        refine wl_nil ?_
        refine pn_then ?_
        refine wc_ret ?_
        refine pr_then ?_
        replace h := Option.some.inj h
        subst h
        refine pn_ret (vs := [_]) rfl ⟨rfl, trivial⟩ ⟨rfl, rfl, rfl⟩ (fun _ h => h.to trivial trivial)
      · have h := ifF h cd27
        refine wc_skip ?_
        refine pn_then ?_
        refine wc_seq ?_
        refine wc_seq ?_
        refine wc_region ?_   -- region 11
        refine wl_det rfl rfl (det_move rfl) rfl ?_
        refine wl_det rfl rfl (det_move rfl) rfl ?_
        refine wl_det rfl rfl (det_gtr rfl rfl) rfl ?_
        refine wl_nil ?_
        refine pn_then ?_
        refine wc_cond rfl (fun cd33 => ?_) (fun cd33 => ?_)
        · have h := ifT h cd33
          refine wc_seq ?_
          refine wc_region ?_   -- region 12
          refine wl_det rfl rfl (det_assign rfl) rfl ?_
          refine wl_nil ?_
          refine pn_then ?_
          refine wc_ret ?_
          refine pr_then ?_
          replace h := Option.some.inj h
          subst h
          refine pn_ret (vs := [_]) rfl ⟨rfl, trivial⟩ ⟨rfl, rfl, rfl⟩ (fun _ h => h.to trivial trivial)
        · have h := ifF h cd33
          refine wc_skip ?_
          refine pn_then ?_
          refine wc_seq ?_
          refine wc_region ?_   -- region 13
          refine wl_det rfl rfl (det_assign rfl) rfl ?_
          refine wl_nil ?_
          refine pn_then ?_
          refine wc_ret ?_
          replace h := Option.some.inj h
          subst h
          refine pn_ret (vs := [_]) rfl ⟨rfl, trivial⟩ ⟨rfl, rfl, rfl⟩ (fun _ h => h.to trivial trivial)
def Q_cmp_Or_int (r : Int) : Value → List Ent → List Fact → Prop := fun v θ κ => v = .int .i64 r ∧ θ = [] ∧ κ = []
theorem plains_cmp_Or_int {r : Int} : ∀ v θ κ, Q_cmp_Or_int r v θ κ → Plains θ := by
  rintro _ _ _ ⟨rfl, rfl, rfl⟩
  exact trivial
set_option maxHeartbeats 4000000 in
set_option maxRecDepth 100000 in
theorem W_cmp_Or_int (a0 : (List Int)) (A0 : Option Addr) (n0 : Nat) (c0 : Nat) (r : Int) (h : cmp_Or_int a0 = some r) : Spec Try.prog 69 [.slice A0 n0 c0] [] [fV (lSlice (lInt .i64)) (.slice A0 n0 c0) a0] (Q_cmp_Or_int r) := by
  unfold cmp_Or_int at h
  refine spec_of (σ := [(0, _)]) Try.func69 rfl rfl rfl rfl ?_
  intro C
  refine wc_know (fun _ h => h.lenF m0) (fun e => ?_)
  subst e
  refine wc_seq ?_
  refine wc_region ?_   -- region 0
  refine wl_det rfl rfl (det_assign rfl) rfl ?_
  refine wl_nil ?_
  refine pn_then ?_
  refine wc_seq ?_
  refine wc_region ?_   -- region 1
  refine wl_det rfl rfl (det_assign rfl) rfl ?_
  refine wl_nil ?_
  refine pn_then ?_
  obtain ⟨q4, h, ho4⟩ := bind_some h
  refine wc_meetG (G := Unit × Unit) (fun (s4, _) => (.inl s4) = q4) (fun (_, _) => [(3, .int .i64 0)]) (fun (_, _) => []) (fun (_, _) => []) ?_ ?_
  · refine wc_seq ?_
    refine wc_region ?_   -- region 2
    refine wl_det rfl rfl (det_move rfl) rfl ?_
    refine wl_det rfl rfl (det_len rfl un22) rfl ?_
    refine wl_det rfl rfl (det_move rfl) rfl ?_
    refine wl_nil ?_
    refine pn_then ?_
    refine wc_block ?_
    obtain ⟨o8, h, ho8⟩ := bind_some h
    obtain ⟨k8, hk8⟩ := loopV_some.1 h
    refine wc_loop (G := Nat × Int × Unit) (fun g => IterN (cmp_Or_int_l8 a0) g.1 g.2.1 o8) (fun g => g.1) (fun (_, s8, _) => [(3, .int .i64 0), (6, .slice A0 a0.length c0), (7, .int .i64 (a0.length : Int)), (8, .int .i64 s8)]) (fun (_, _, _) => []) (fun (_, _, _) => [fV (lSlice (lInt .i64)) (.slice A0 a0.length c0) a0]) (k8, 0, ()) hk8 ⟨rfl, rfl, rfl, rfl, trivial⟩ (fun _ h => h.to trivial ⟨m0, trivial⟩) ?_
    rintro ⟨k8, s8, _⟩ hI
    obtain ⟨k8, rfl, q8, h, g8⟩ := IterN.pos hI
    dsimp only at h ⊢
    unfold cmp_Or_int_l8 at h
    refine wc_seq ?_
    refine wc_region ?_   -- region 3
    refine wl_det rfl rfl (det_lss rfl rfl) rfl ?_
    refine wl_nil ?_
    refine pn_then ?_
    refine wc_seq ?_
    refine wc_cond rfl (fun cd12 => ?_) (fun cd12 => ?_)
    · have h := ifT h cd12
      refine wc_skip ?_
      refine pn_then ?_
      refine wc_seq ?_
      refine wc_block ?_
      refine wc_seq ?_
      refine wc_region ?_   -- region 4
      obtain ⟨k4_0, h⟩ := chk_some h
      refine wl_st (fun _ h => h.openF m0 k4_0) ?_
      refine wl_det rfl rfl (det_indexP rfl rfl (ms m0) k4_0 m0 un22 sz3) rfl ?_
      refine wl_det rfl rfl (det_loadP (off := 0) rfl m0 (by rfl) (by rfl) (loaded_1 na3 us3)) rfl ?_
      refine wl_det rfl rfl (det_assign rfl) rfl ?_
      refine wl_nil ?_
      refine pn_then ?_
      refine wc_seq ?_
      refine wc_region ?_   -- region 5
      refine wl_det rfl rfl (det_move rfl) rfl ?_
      refine wl_det rfl rfl (det_move rfl) rfl ?_
      refine wl_det rfl rfl (det_neq rfl rfl) rfl ?_
      refine wl_nil ?_
      refine pn_then ?_
      refine wc_cond rfl (fun cd20 => ?_) (fun cd20 => ?_)
      · have h := ifT h cd20
        refine wc_seq ?_
        refine wc_region ?_   -- region 6
        refine wl_det rfl rfl (det_move rfl) rfl ?_
        refine wl_det rfl rfl (det_assign rfl) rfl ?_
        refine wl_nil ?_
        refine pn_then ?_
        refine wc_ret ?_
        refine pr_block ?_
        refine pr_then ?_
        refine pr_then ?_
        refine pr_block ?_
        refine pr_then ?_
        replace h := Option.some.inj h
        subst h
        replace g8 := nextR g8
        subst g8
        have h := (elimL ho8)
        replace h := Option.some.inj h
        subst h
        have h := (elimR ho4)
        replace h := Option.some.inj h
        subst h
        refine pn_ret (vs := [_]) rfl ⟨rfl, trivial⟩ ⟨rfl, rfl, rfl⟩ (fun _ h => h.to trivial trivial)
      · have h := ifF h cd20
        refine wc_skip ?_
        refine pn_block ?_
        refine pn_then ?_
        refine wc_region ?_   -- region 7
        refine wl_det rfl rfl (det_add rfl rfl) rfl ?_
        refine wl_det rfl rfl (det_move rfl) rfl ?_
        refine wl_nil ?_
        replace h := Option.some.inj h
        subst h
        exact pn_some (k8, (w64 (s8 + 1)), ()) ⟨nextL g8, Nat.lt_succ_self _⟩ ⟨rfl, rfl, rfl, rfl, trivial⟩ (fun _ h => h.to trivial ⟨(ms m0), trivial⟩)
    · have h := ifF h cd12
      refine wc_exit ?_
      refine px_then ?_
      refine px_then ?_
      refine px_block ?_
      replace h := Option.some.inj h
      subst h
      replace g8 := nextR g8
      subst g8
      have h := (elimR ho8)
      replace h := Option.some.inj h
      subst h
      exact pn_meetG ((), ()) rfl ⟨rfl, trivial⟩ (fun _ h => h.to trivial trivial)
  rintro ⟨s4, _⟩ e4
  dsimp only at e4 ⊢
  subst e4
  have h := (elimL ho4)
  refine wc_seq ?_
  refine wc_region ?_   -- region 8
  refine wl_det rfl rfl (det_move rfl) rfl ?_
  refine wl_det rfl rfl (det_assign rfl) rfl ?_
  refine wl_nil ?_
  refine pn_then ?_
  refine wc_ret ?_
  replace h := Option.some.inj h
  subst h
  refine pn_ret (vs := [_]) rfl ⟨rfl, trivial⟩ ⟨rfl, rfl, rfl⟩ (fun _ h => h.to trivial trivial)
def Q_ledger_compare (r : Int) : Value → List Ent → List Fact → Prop := fun v θ κ => v = .int .i64 r ∧ θ = [] ∧ κ = []
theorem plains_ledger_compare {r : Int} : ∀ v θ κ, Q_ledger_compare r v θ κ → Plains θ := by
  rintro _ _ _ ⟨rfl, rfl, rfl⟩
  exact trivial
set_option maxHeartbeats 4000000 in
set_option maxRecDepth 100000 in
theorem W_ledger_compare (a0 : GEntry) (a1 : GEntry) (r : Int) (h : ledger_compare a0 a1 = some r) : Spec Try.prog 55 [.agg #[.int .i64 a0.Kind, .int .i64 a0.Treaty, .int .i64 a0.Party, .int .i64 a0.Loss, .int .i64 a0.Amount], .agg #[.int .i64 a1.Kind, .int .i64 a1.Treaty, .int .i64 a1.Party, .int .i64 a1.Loss, .int .i64 a1.Amount]] [] [] (Q_ledger_compare r) := by
  unfold ledger_compare at h
  refine spec_of (σ := [(0, _), (1, _)]) Try.func55 rfl rfl rfl rfl ?_
  intro C
  refine wc_seq ?_
  refine wc_region ?_   -- region 0
  refine wl_act (act_box (cs := [_, _, _, _, _]) rfl rfl) rfl rfl rfl ?_
  rintro _ _ _ ⟨b0_0, rfl, rfl, rfl⟩
  refine wl_act (act_box (cs := [_, _, _, _, _]) rfl rfl) rfl rfl rfl ?_
  rintro _ _ _ ⟨b0_1, rfl, rfl, rfl⟩
  refine wl_det rfl rfl (det_assign rfl) rfl ?_
  refine wl_nil ?_
  refine pn_then ?_
  refine wc_seq ?_
  refine dx_region 22 [[], [0], [], [2], [0, 1, 2, 3], [], [5], [], [7], [0, 1, 2, 3, 4, 5, 6, 7, 8], [], [10], [], [12], [0, 1, 2, 3, 4, 5, 6, 7, 8, 9, 10, 11, 12, 13], [], [15], [], [17], [0, 1, 2, 3, 4, 5, 6, 7, 8, 9, 10, 11, 12, 13, 14, 15, 16, 17, 18], [0, 1, 2, 3, 4, 5, 6, 7, 8, 9, 10, 11, 12, 13, 14, 15, 16, 17, 18, 19], [0, 1, 2, 3, 4, 5, 6, 7, 8, 9, 10, 11, 12, 13, 14, 15, 16, 17, 18, 19, 20], [0, 1, 2, 3, 4, 5, 6, 7, 8, 9, 10, 11, 12, 13, 14, 15, 16, 17, 18, 19, 20, 21]] mixed (ord := (.det 0 (.det 1 (.det 2 (.det 3 (.det 5 (.det 6 (.det 7 (.det 8 (.det 10 (.det 11 (.det 12 (.det 13 (.det 15 (.det 16 (.det 17 (.det 18 (.alt 4 (.alt 9 (.alt 14 (.alt 19 (.alt 20 (.alt 21 .done .dead) .dead) .dead) .dead) .dead) .dead)))))))))))))))))) (by kernel_rfl) ?_   -- region 1
  refine hx_det rfl rfl rfl nofun (det_field rfl fd41_0 rfl) rfl ?_
  refine hx_det rfl rfl rfl nofun (det_load rfl (ms m0) (by rfl) na3 us3) rfl ?_
  refine hx_det rfl rfl rfl nofun (det_field rfl fd41_0 rfl) rfl ?_
  refine hx_det rfl rfl rfl nofun (det_load rfl m0 (by rfl) na3 us3) rfl ?_
  refine hx_det rfl rfl rfl nofun (det_field rfl fd41_1 rfl) rfl ?_
  refine hx_det rfl rfl rfl nofun (det_load rfl (ms m0) (by rfl) na3 us3) rfl ?_
  refine hx_det rfl rfl rfl nofun (det_field rfl fd41_1 rfl) rfl ?_
  refine hx_det rfl rfl rfl nofun (det_load rfl m0 (by rfl) na3 us3) rfl ?_
  refine hx_det rfl rfl rfl nofun (det_field rfl fd41_2 rfl) rfl ?_
  refine hx_det rfl rfl rfl nofun (det_load rfl (ms m0) (by rfl) na3 us3) rfl ?_
  refine hx_det rfl rfl rfl nofun (det_field rfl fd41_2 rfl) rfl ?_
  refine hx_det rfl rfl rfl nofun (det_load rfl m0 (by rfl) na3 us3) rfl ?_
  refine hx_det rfl rfl rfl nofun (det_field rfl fd41_3 rfl) rfl ?_
  refine hx_det rfl rfl rfl nofun (det_load rfl (ms m0) (by rfl) na3 us3) rfl ?_
  refine hx_det rfl rfl rfl nofun (det_field rfl fd41_3 rfl) rfl ?_
  refine hx_det rfl rfl rfl nofun (det_load rfl m0 (by rfl) na3 us3) rfl ?_
  obtain ⟨r1_4, hr1_4, h⟩ := bind_some h
  refine hx_act rfl rfl rfl (act_callS (cap := []) (W_cmp_Compare_int a0.Kind a1.Kind r1_4 hr1_4) rfl rfl rfl bd70 rfl trivial) rfl (by rintro _ _ _ ⟨_, _, _, rfl, rfl⟩; first | exact ⟨_, _, rfl, rfl⟩ | exact ⟨_, [], rfl, rfl⟩) ?_
  rintro _ _ _ ⟨_, _, ⟨rfl, rfl, rfl⟩, rfl, rfl⟩
  dsimp only [List.nil_append, List.cons_append]
  obtain ⟨r1_9, hr1_9, h⟩ := bind_some h
  refine hx_act rfl rfl rfl (act_callS (cap := []) (W_cmp_Compare_int a0.Treaty a1.Treaty r1_9 hr1_9) rfl rfl rfl bd70 rfl trivial) rfl (by rintro _ _ _ ⟨_, _, _, rfl, rfl⟩; first | exact ⟨_, _, rfl, rfl⟩ | exact ⟨_, [], rfl, rfl⟩) ?_
  rintro _ _ _ ⟨_, _, ⟨rfl, rfl, rfl⟩, rfl, rfl⟩
  dsimp only [List.nil_append, List.cons_append]
  obtain ⟨r1_14, hr1_14, h⟩ := bind_some h
  refine hx_act rfl rfl rfl (act_callS (cap := []) (W_cmp_Compare_int a0.Party a1.Party r1_14 hr1_14) rfl rfl rfl bd70 rfl trivial) rfl (by rintro _ _ _ ⟨_, _, _, rfl, rfl⟩; first | exact ⟨_, _, rfl, rfl⟩ | exact ⟨_, [], rfl, rfl⟩) ?_
  rintro _ _ _ ⟨_, _, ⟨rfl, rfl, rfl⟩, rfl, rfl⟩
  dsimp only [List.nil_append, List.cons_append]
  obtain ⟨r1_19, hr1_19, h⟩ := bind_some h
  refine hx_act rfl rfl rfl (act_callS (cap := []) (W_cmp_Compare_int a0.Loss a1.Loss r1_19 hr1_19) rfl rfl rfl bd70 rfl trivial) rfl (by rintro _ _ _ ⟨_, _, _, rfl, rfl⟩; first | exact ⟨_, _, rfl, rfl⟩ | exact ⟨_, [], rfl, rfl⟩) ?_
  rintro _ _ _ ⟨_, _, ⟨rfl, rfl, rfl⟩, rfl, rfl⟩
  dsimp only [List.nil_append, List.cons_append]
  refine hx_act rfl rfl rfl (act_litS (lInt .i64) (vs := [_, _, _, _]) (cs := [_, _, _, _]) [r1_4, r1_9, r1_14, r1_19] un22 in3 rfl rfl rfl rfl rfl ⟨rfl, rfl, rfl, rfl, trivial⟩ (by rfl) rfl (litR_flat rfl)) rfl (by rintro _ _ _ ⟨A1_20, rfl, rfl, rfl⟩; first | exact ⟨_ :: [], [], rfl, rfl⟩ | exact ⟨[], [_], rfl, rfl⟩ | exact ⟨[], [], rfl, rfl⟩) ?_
  rintro _ _ _ ⟨A1_20, rfl, rfl, rfl⟩
  obtain ⟨r1_21, hr1_21, h⟩ := bind_some h
  refine hx_act rfl rfl rfl (act_callL (cap := []) [eS (lInt .i64) 3 A1_20 4 4 [r1_4, r1_9, r1_14, r1_19]] (W_cmp_Or_int [r1_4, r1_9, r1_14, r1_19] A1_20 4 4 r1_21 hr1_21) plains_cmp_Or_int rfl rfl rfl bd69 rfl ⟨m0, trivial⟩ ⟨.inr ⟨_, m0, lent_eS⟩, trivial⟩) rfl (by rintro _ _ _ ⟨_, _, _, rfl, rfl⟩; first | exact ⟨_, _, rfl, rfl⟩ | exact ⟨_, [], rfl, rfl⟩) ?_
  rintro _ _ _ ⟨_, _, ⟨rfl, rfl, rfl⟩, rfl, rfl⟩
  dsimp only [List.nil_append, List.cons_append]
  refine hx_end ?_
  refine wl_det rfl rfl (det_assign rfl) rfl ?_
  refine wl_nil ?_
  refine pn_then ?_
  refine wc_ret ?_
  replace h := Option.some.inj h
  subst h
  refine pn_ret (vs := [_]) rfl ⟨rfl, trivial⟩ ⟨rfl, rfl, rfl⟩ (fun _ h => h.to trivial trivial)
def Q_slices_SortFunc_s_api_Entry_api_Entry_o_ledger_compare (A0 : Option Addr) (n0 : Nat) (c0 : Nat) (r : (List GEntry)) : Value → List Ent → List Fact → Prop := fun v θ κ => v = .tuple #[] ∧ θ = [eS lGEntry 41 A0 n0 c0 r] ∧ κ = []
theorem plains_slices_SortFunc_s_api_Entry_api_Entry_o_ledger_compare {A0 : Option Addr} {n0 : Nat} {c0 : Nat} {r : (List GEntry)} : ∀ v θ κ, Q_slices_SortFunc_s_api_Entry_api_Entry_o_ledger_compare A0 n0 c0 r v θ κ → Plains θ := by
  rintro _ _ _ ⟨rfl, rfl, rfl⟩
  exact ⟨plain_eS, trivial⟩
theorem W_slices_SortFunc_s_api_Entry_api_Entry_o_ledger_compare (a0 : (List GEntry)) (A0 : Option Addr) (n0 : Nat) (c0 : Nat) (r : (List GEntry)) (h : slices_SortFunc_s_api_Entry_api_Entry_o_ledger_compare a0 = some r) : Spec Try.prog 54 [.slice A0 n0 c0, .func (.func 55) #[] #[]] [eS lGEntry 41 A0 n0 c0 a0] [] (Q_slices_SortFunc_s_api_Entry_api_Entry_o_ledger_compare A0 n0 c0 r) :=
  spec_sortK (ρ := Try.sort54_ren) Try.sort54 rfl (by kernel_rfl) (by kernel_rfl) (cap := []) (θ₀ := []) bd55 trivial (fun x y r h => W_ledger_compare x y  r h) h A0 n0 c0
def Q_ledger_Collect (r : (List GEntry) × Int) : Value → List Ent → List Fact → Prop := fun v θ κ => ∃ (pA0 : Option Addr), ∃ (pn0 : Nat), ∃ (pc0 : Nat), v = .tuple #[.slice pA0 pn0 pc0, .int .i64 r.2] ∧ θ = [eS lGEntry 41 pA0 pn0 pc0 r.1] ∧ κ = []
theorem plains_ledger_Collect {r : (List GEntry) × Int} : ∀ v θ κ, Q_ledger_Collect r v θ κ → Plains θ := by
  rintro _ _ _ ⟨_, _, _, rfl, rfl, rfl⟩
  exact ⟨plain_eS, trivial⟩
set_option maxHeartbeats 4000000 in
set_option maxRecDepth 100000 in
theorem W_ledger_Collect (a0 : (List GEntry)) (A0 : Option Addr) (n0 : Nat) (c0 : Nat) (r : (List GEntry) × Int) (h : ledger_Collect a0 = some r) : Spec Try.prog 26 [.slice A0 n0 c0] [] [fV (lSlice lGEntry) (.slice A0 n0 c0) a0] (Q_ledger_Collect r) := by
  unfold ledger_Collect at h
  refine spec_of (σ := [(0, _)]) Try.func26 rfl rfl rfl rfl ?_
  intro C
  refine wc_know (fun _ h => h.lenF m0) (fun e => ?_)
  subst e
  refine wc_seq ?_
  refine wc_region ?_   -- region 0
  refine wl_det rfl rfl (det_assign rfl) rfl ?_
  refine wl_det rfl rfl (det_assign rfl) rfl ?_
  refine wl_nil ?_
  refine pn_then ?_
  refine wc_seq ?_
  refine wc_seq ?_
  refine wc_region ?_   -- region 1
  refine wl_det rfl rfl (det_move rfl) rfl ?_
  refine wl_det rfl rfl (det_len rfl un37) rfl ?_
  refine wl_det rfl rfl (det_gtr rfl rfl) rfl ?_
  refine wl_nil ?_
  refine pn_then ?_
  refine wc_cond rfl (fun cd5 => ?_) (fun cd5 => ?_)
  · have h := ifT h cd5
    refine wc_seq ?_
    refine wc_region ?_   -- region 2
    refine wl_det rfl rfl (det_assign rfl) rfl ?_
    refine wl_det rfl rfl (det_assign rfl) rfl ?_
    refine wl_nil ?_
    refine pn_then ?_
    refine wc_ret ?_
    refine pr_then ?_
    refine pn_st (fun _ h => h.zeroS lGEntry 41 none) ?_
    replace h := Option.some.inj h
    subst h
    refine pn_ret (vs := [_, _]) rfl ⟨rfl, rfl, trivial⟩ ⟨none, 0, 0, rfl, rfl, rfl⟩ (fun _ h => h.to ⟨_, r0, trivial⟩ trivial)
  · have h := ifF h cd5
    refine wc_skip ?_
    refine pn_then ?_
    refine wc_seq ?_
    refine wc_region ?_   -- region 3
    refine wl_act (act_makeMap encKGEntry encKI) rfl rfl rfl ?_
    rintro _ _ _ ⟨b3_0, rfl, rfl, rfl⟩
    refine wl_det rfl rfl (det_assign rfl) rfl ?_
    refine wl_nil ?_
    refine pn_then ?_
    obtain ⟨q10, h, ho10⟩ := bind_some h
    refine wc_meetG (G := (List (GEntry × Int)) × Unit) (fun (s10, _) => (.inl s10) = q10) (fun (_, _) => [(4, .map (some b3_0))]) (fun (s10, _) => [eM encKGEntry encKI b3_0 s10]) (fun (_, _) => []) ?_ ?_
    · refine wc_seq ?_
      refine wc_region ?_   -- region 4
      refine wl_det rfl rfl (det_move rfl) rfl ?_
      refine wl_det rfl rfl (det_len rfl un37) rfl ?_
      refine wl_det rfl rfl (det_move rfl) rfl ?_
      refine wl_nil ?_
      refine pn_then ?_
      refine wc_block ?_
      obtain ⟨o14, h, ho14⟩ := bind_some h
      obtain ⟨k14, hk14⟩ := loopV_some.1 h
      refine wc_loop (G := Nat × ((List (GEntry × Int)) × Int) × Unit) (fun g => IterN (ledger_Collect_l14 a0) g.1 g.2.1 o14) (fun g => g.1) (fun (_, s14, _) => [(4, .map (some b3_0)), (15, .slice A0 a0.length c0), (16, .int .i64 (a0.length : Int)), (17, .int .i64 s14.2)]) (fun (_, s14, _) => [eM encKGEntry encKI b3_0 s14.1]) (fun (_, _, _) => [fV (lSlice lGEntry) (.slice A0 a0.length c0) a0]) (k14, ([], 0), ()) hk14 ⟨rfl, rfl, rfl, rfl, trivial⟩ (fun _ h => h.to ⟨_, r0, trivial⟩ ⟨m0, trivial⟩) ?_
      rintro ⟨k14, s14, _⟩ hI
      obtain ⟨k14, rfl, q14, h, g14⟩ := IterN.pos hI
      dsimp only at h ⊢
      unfold ledger_Collect_l14 at h
      refine wc_seq ?_
      refine wc_region ?_   -- region 5
      refine wl_det rfl rfl (det_lss rfl rfl) rfl ?_
      refine wl_nil ?_
      refine pn_then ?_
      refine wc_seq ?_
      refine wc_cond rfl (fun cd18 => ?_) (fun cd18 => ?_)
      · have h := ifT h cd18
        refine wc_skip ?_
        refine pn_then ?_
        refine wc_seq ?_
        refine wc_block ?_
        refine wc_seq ?_
        refine wc_region ?_   -- region 6
        obtain ⟨k6_0, h⟩ := chk_some h
        refine wl_st (fun _ h => h.openF m0 k6_0) ?_
        refine wl_det rfl rfl (det_indexP rfl rfl (ms m0) k6_0 m0 un37 sz41) rfl ?_
        refine wl_det rfl rfl (det_loadP (off := 0) rfl m0 (by rfl) (by rfl) (loaded_n (cells := [_, _, _, _, _]) ag41 sz41)) rfl ?_
        refine wl_act (act_alloc (cs := [_, _, _, _, _]) zr41 rfl) rfl rfl rfl ?_
        rintro _ _ _ ⟨b6_2, rfl, rfl, rfl⟩
        refine wl_act0 (act_store (cells := [_, _, _, _, _]) (cs' := [_, _, _, _, _]) rfl rfl rfl s0 (by rfl) (of_decide_eq_true rfl) sz41 ⟨rfl, rfl, rfl, rfl, rfl, trivial⟩) rfl rfl ?_
        rintro _ _ _ ⟨rfl, rfl⟩
        refine wl_nil ?_
        refine pn_then ?_
        refine wc_seq ?_
        refine wc_seq ?_
        refine wc_region ?_   -- region 7
        refine wl_det rfl rfl (det_loadN (cells := [_, _, _, _, _]) rfl m0 (by rfl) ag41 sz41) rfl ?_
        obtain ⟨r7_1, hr7_1, h⟩ := bind_some h
        refine wl_act (act_callS (cap := []) (W_ledger_Valid (ix a0 s14.2) r7_1 hr7_1) rfl rfl rfl bd23 rfl trivial) rfl rfl rfl ?_
        rintro _ _ _ ⟨_, _, ⟨rfl, rfl, rfl⟩, rfl, rfl⟩
        dsimp only [List.nil_append, List.cons_append]
        refine wl_det rfl rfl (det_not rfl) rfl ?_
        refine wl_nil ?_
        refine pn_then ?_
        refine wc_cond rfl (fun cd27 => ?_) (fun cd27 => ?_)
        · have h := ifT h cd27
          refine wc_seq ?_
          refine wc_region ?_   -- region 8
          refine wl_det rfl rfl (det_assign rfl) rfl ?_
          refine wl_det rfl rfl (det_assign rfl) rfl ?_
          refine wl_nil ?_
          refine pn_then ?_
          refine wc_ret ?_
          refine pr_then ?_
          refine pr_block ?_
          refine pr_then ?_
          refine pr_then ?_
          refine pr_block ?_
          refine pr_then ?_
          refine pn_st (fun _ h => h.zeroS lGEntry 41 none) ?_
          replace h := Option.some.inj h
          subst h
          replace g14 := nextR g14
          subst g14
          have h := (elimL ho14)
          replace h := Option.some.inj h
          subst h
          have h := (elimR ho10)
          replace h := Option.some.inj h
          subst h
          refine pn_ret (vs := [_, _]) rfl ⟨rfl, rfl, trivial⟩ ⟨none, 0, 0, rfl, rfl, rfl⟩ (fun _ h => h.to ⟨_, r0, trivial⟩ trivial)
        · have h := ifF h cd27
          refine wc_skip ?_
          refine pn_then ?_
          refine wc_seq ?_
          refine wc_region ?_   -- region 9
          refine wl_det rfl rfl (det_loadN (cells := [_, _, _, _, _]) rfl m0 (by rfl) ag41 sz41) rfl ?_
          refine wl_act (act_alloc (cs := [_, _, _, _, _]) zr41 rfl) rfl rfl rfl ?_
          rintro _ _ _ ⟨b9_1, rfl, rfl, rfl⟩
          refine wl_act0 (act_store (cells := [_, _, _, _, _]) (cs' := [_, _, _, _, _]) rfl rfl rfl s0 (by rfl) (of_decide_eq_true rfl) sz41 ⟨rfl, rfl, rfl, rfl, rfl, trivial⟩) rfl rfl ?_
          rintro _ _ _ ⟨rfl, rfl⟩
          refine wl_nil ?_
          refine pn_then ?_
          refine wc_seq ?_
          refine wc_region ?_   -- region 10
          refine wl_det rfl rfl (det_field rfl fd41_4 rfl) rfl ?_
          refine wl_act0 (act_store (cells := [_]) (cs' := [_, _, _, _, _]) rfl rfl rfl s0 (by rfl) (of_decide_eq_true rfl) sz3 ⟨rfl, trivial⟩) rfl rfl ?_
          rintro _ _ _ ⟨rfl, rfl⟩
          refine wl_nil ?_
          refine pn_then ?_
          refine dx_regionZ (Z := St C [_, _, _] [_, _]) 8 [[], [], [0, 1], [], [3], [0, 1, 2, 3, 4], [0, 1, 3, 4], [0, 1, 3, 4, 6], [0, 1, 2, 3, 4, 5, 6, 7]] mixed (ord := (.det 0 (.det 1 (.det 2 (.det 3 (.det 4 (.det 5 (.alt 6 (.det 7 .done) .dead)))))))) (by kernel_rfl) (fun _ h => (h.weakM (0 : Int) (ss (ss s0))).to ⟨_, r0, ⟨_, r0, ⟨_, r0, trivial⟩⟩⟩ ⟨m0, ⟨(ms m0), trivial⟩⟩) ?_   -- region 11
          refine hx_det rfl rfl rfl nofun (det_move rfl) rfl ?_
          refine hx_det rfl rfl rfl nofun (det_loadN (cells := [_, _, _, _, _]) rfl m0 (by rfl) ag41 sz41) rfl ?_
          refine hx_det rfl rfl rfl nofun (det_lookupW (k := (GEntry.mk (ix a0 s14.2).Kind (ix a0 s14.2).Treaty (ix a0 s14.2).Party (ix a0 s14.2).Loss 0)) (z := (0 : Int)) (vr := .int .i64 (mget s14.1 (GEntry.mk (ix a0 s14.2).Kind (ix a0 s14.2).Treaty (ix a0 s14.2).Party (ix a0 s14.2).Loss 0) (0 : Int))) rfl rfl rfl (ms (ms m0)) ko41 um87 zr3 rfl) rfl ?_
          refine hx_det rfl rfl rfl nofun (det_field rfl fd41_4 rfl) rfl ?_
          refine hx_det rfl rfl rfl nofun (det_load rfl (ms m0) (by rfl) na3 us3) rfl ?_
          refine hx_det rfl rfl rfl nofun (det_add rfl rfl) rfl ?_
          refine hx_mut rfl rfl rfl (act_mapEntry (k := (GEntry.mk (ix a0 s14.2).Kind (ix a0 s14.2).Treaty (ix a0 s14.2).Party (ix a0 s14.2).Loss 0)) (z := (0 : Int)) rfl rfl rfl (ss (ss s0)) ko41 um87 zr3) rfl (by rintro _ _ _ ⟨n11_6, rfl, rfl, rfl⟩ w hs; exact (hs.weakP (ss (ss s0))).to ⟨_, r0, ⟨_, r0, ⟨_, r0, trivial⟩⟩⟩ ⟨m0, ⟨(ms m0), trivial⟩⟩) ?_
          rintro _ _ _ ⟨n11_6, rfl, rfl, rfl⟩
          refine hx_det rfl rfl rfl nofun (det_extract rfl rfl) rfl ?_
          refine hx_end ?_
          refine wl_act0 (act_entryStore (v := (w64 ((mget s14.1 (GEntry.mk (ix a0 s14.2).Kind (ix a0 s14.2).Treaty (ix a0 s14.2).Party (ix a0 s14.2).Loss 0) (0 : Int)) + (ix a0 s14.2).Amount))) rfl rfl rfl rfl (ss (ss s0))) rfl rfl ?_
          rintro _ _ _ ⟨rfl, rfl⟩
          refine wl_nil ?_
          refine pn_block ?_
          refine pn_then ?_
          refine wc_region ?_   -- region 12
          refine wl_det rfl rfl (det_add rfl rfl) rfl ?_
          refine wl_det rfl rfl (det_move rfl) rfl ?_
          refine wl_nil ?_
          replace h := Option.some.inj h
          subst h
          exact pn_some (k14, ((mset s14.1 (GEntry.mk (ix a0 s14.2).Kind (ix a0 s14.2).Treaty (ix a0 s14.2).Party (ix a0 s14.2).Loss 0) (w64 ((mget s14.1 (GEntry.mk (ix a0 s14.2).Kind (ix a0 s14.2).Treaty (ix a0 s14.2).Party (ix a0 s14.2).Loss 0) (0 : Int)) + (ix a0 s14.2).Amount))), (w64 (s14.2 + 1))), ()) ⟨nextL g14, Nat.lt_succ_self _⟩ ⟨rfl, rfl, rfl, rfl, trivial⟩ (fun _ h => h.to ⟨_, (rs (rs r0)), trivial⟩ ⟨(ms m0), trivial⟩)
      · have h := ifF h cd18
        refine wc_exit ?_
        refine px_then ?_
        refine px_then ?_
        refine px_block ?_
        replace h := Option.some.inj h
        subst h
        replace g14 := nextR g14
        subst g14
        have h := (elimR ho14)
        replace h := Option.some.inj h
        subst h
        exact pn_meetG (s14.1, ()) rfl ⟨rfl, trivial⟩ (fun _ h => h.to ⟨_, r0, trivial⟩ trivial)
    rintro ⟨s10, _⟩ e10
    dsimp only at e10 ⊢
    subst e10
    have h := (elimL ho10)
    refine wc_seq ?_
    refine wc_region ?_   -- region 13
    refine wl_det rfl rfl (det_move rfl) rfl ?_
    refine wl_det rfl rfl (det_lenM rfl m0 um87) rfl ?_
    obtain ⟨k13_2, h⟩ := chk_some h
    obtain ⟨k13_2a, h⟩ := chk_some h
    refine wl_act (act_makeS (L := lGEntry) (x0 := (GEntry.mk 0 0 0 0 0)) rfl rfl un37 in41 (by refine ⟨rfl, fun _ _ => ?_⟩; first | exact rfl | exact ⟨_, _, _, rfl, rfl, Nat.zero_le _, .inl rfl⟩) rfl rfl rfl k13_2 k13_2a) rfl rfl rfl ?_
    rintro _ _ _ ⟨A13_2, c13_2, rfl, rfl, rfl⟩
    refine wl_det rfl rfl (det_assign rfl) rfl ?_
    refine wl_nil ?_
    refine pn_then ?_
    refine wc_seq ?_
    refine wc_seq ?_
    refine wc_region ?_   -- region 14
    refine wl_det rfl rfl (det_move rfl) rfl ?_
    refine wl_st (fun _ h => h.shutM (rs r0)) ?_
    refine wl_act (act_range rfl m0 um87) rfl rfl rfl ?_
    rintro _ _ _ ⟨b14_1, rfl, rfl, rfl⟩
    refine wl_nil ?_
    refine pn_then ?_
    refine wc_block ?_
    have hR42 := rangeP_some.1 h
    refine wc_range (G := Option Addr × Nat × Nat × Option (GEntry × Int) × Unit) (fun (_, _, A42_0, n42_0, c42_0, _, _) => [(8, .slice A42_0 n42_0 c42_0), (39, .pointer (some ⟨b14_1, 0, none⟩))]) (fun (lf42, s42, A42_0, n42_0, c42_0, cu42_3, _) => [eS lGEntry 41 A42_0 n42_0 c42_0 s42, eIt encKGEntry encKI b14_1 cu42_3 lf42]) (fun (_, _, _, _, _, _, _) => []) (s10, (List.replicate (0 : Int).toNat (GEntry.mk 0 0 0 0 0)), A13_2, (List.replicate (0 : Int).toNat (GEntry.mk 0 0 0 0 0)).length, c13_2, none, ()) hR42 ⟨rfl, rfl, trivial⟩ (fun _ h => h.to ⟨_, (rs r0), ⟨_, r0, trivial⟩⟩ trivial) ?_
    rintro ⟨lf42, s42, A42_0, n42_0, c42_0, cu42_3, _⟩ hI42
    dsimp only at hI42 ⊢
    rcases Classical.em (lf42 = []) with hl42 | hl42
    · subst hl42
      have h := elimL hI42.nil
      refine wc_know (fun _ h => h.lenO m0) (fun e => ?_)
      subst e
      refine wc_seq ?_
      refine wc_region ?_   -- region 15
      refine wl_act (act_next0 rfl (ms m0)) rfl rfl rfl ?_
      rintro _ _ _ ⟨rfl, rfl, rfl⟩
      refine wl_det rfl rfl (det_extract rfl rfl) rfl ?_
      refine wl_nil ?_
      refine pn_then ?_
      refine wc_seq ?_
      refine wc_condF rfl ?_
      refine wc_exit ?_
      refine px_then ?_
      refine px_then ?_
      refine px_block ?_
      refine pn_then ?_
      refine wc_seq ?_
      refine wc_region ?_   -- region 22
      refine wl_det rfl rfl (det_move rfl) rfl ?_
      obtain ⟨r22_1, hr22_1, h⟩ := bind_some h
      refine wl_act (act_callS (cap := []) (W_slices_SortFunc_s_api_Entry_api_Entry_o_ledger_compare s42 A42_0 s42.length c42_0 r22_1 hr22_1) rfl rfl rfl bd54 ⟨_, r0, rfl⟩ trivial) rfl rfl rfl ?_
      rintro _ _ _ ⟨_, _, ⟨rfl, rfl, rfl⟩, rfl, rfl⟩
      dsimp only [List.nil_append, List.cons_append]
      refine wl_nil ?_
      refine pn_then ?_
      refine wc_seq ?_
      refine wc_region ?_   -- region 23
      refine wl_det rfl rfl (det_move rfl) rfl ?_
      refine wl_det rfl rfl (det_assign rfl) rfl ?_
      refine wl_det rfl rfl (det_assign rfl) rfl ?_
      refine wl_nil ?_
      refine pn_then ?_
      refine wc_ret ?_
      replace h := Option.some.inj h
      subst h
      refine pn_ret (vs := [_, _]) rfl ⟨rfl, rfl, trivial⟩ ⟨A42_0, s42.length, c42_0, rfl, rfl, rfl⟩ (fun _ h => h.to ⟨_, r0, trivial⟩ trivial)
    · refine wc_know (fun _ h => h.lenO m0) (fun e => ?_)
      subst e
      refine wc_seq ?_
      refine wc_region ?_   -- region 15
      refine wl_act (act_next1 rfl (ss s0) hl42) rfl rfl rfl ?_
      rintro _ _ _ ⟨p42, lg42, hp42, rfl, rfl, rfl⟩
      obtain ⟨q42, h, hN42⟩ := hI42.cons hp42
      unfold ledger_Collect_l42 at h
      refine wl_det rfl rfl (det_extract rfl rfl) rfl ?_
      refine wl_nil ?_
      refine pn_then ?_
      refine wc_seq ?_
      refine wc_condT rfl ?_
      refine wc_skip ?_
      refine pn_then ?_
      refine wc_block ?_
      refine wc_seq ?_
      refine wc_region ?_   -- region 16
      refine wl_det rfl rfl (det_entry (vk := .agg #[.int .i64 p42.1.Kind, .int .i64 p42.1.Treaty, .int .i64 p42.1.Party, .int .i64 p42.1.Loss, .int .i64 p42.1.Amount]) (vv := .int .i64 p42.2) rfl (ms m0) rfl rfl) rfl ?_
      refine wl_det rfl rfl (det_extract rfl rfl) rfl ?_
      refine wl_det rfl rfl (det_extract rfl rfl) rfl ?_
      refine wl_act (act_alloc (cs := [_, _, _, _, _]) zr41 rfl) rfl rfl rfl ?_
      rintro _ _ _ ⟨b16_3, rfl, rfl, rfl⟩
      refine wl_act0 (act_store (cells := [_, _, _, _, _]) (cs' := [_, _, _, _, _]) rfl rfl rfl s0 (by rfl) (of_decide_eq_true rfl) sz41 ⟨rfl, rfl, rfl, rfl, rfl, trivial⟩) rfl rfl ?_
      rintro _ _ _ ⟨rfl, rfl⟩
      refine wl_det rfl rfl (det_assign rfl) rfl ?_
      refine wl_nil ?_
      refine pn_then ?_
      refine wc_seq ?_
      refine wc_seq ?_
      refine wc_region ?_   -- region 17
      refine wl_det rfl rfl (det_move rfl) rfl ?_
      obtain ⟨r17_1, hr17_1, h⟩ := bind_some h
      refine wl_act (act_callS (cap := []) (W_amount_Valid p42.2 r17_1 hr17_1) rfl rfl rfl bd51 rfl trivial) rfl rfl rfl ?_
      rintro _ _ _ ⟨_, _, ⟨rfl, rfl, rfl⟩, rfl, rfl⟩
      dsimp only [List.nil_append, List.cons_append]
      refine wl_det rfl rfl (det_not rfl) rfl ?_
      refine wl_nil ?_
      refine pn_then ?_
      refine wc_cond rfl (fun cd54 => ?_) (fun cd54 => ?_)
      · have h := ifT h cd54
        refine wc_seq ?_
        refine wc_region ?_   -- region 18
        refine wl_det rfl rfl (det_assign rfl) rfl ?_
        refine wl_det rfl rfl (det_assign rfl) rfl ?_
        refine wl_nil ?_
        refine pn_then ?_
        refine wc_ret ?_
        refine pr_then ?_
        refine pr_block ?_
        refine pr_then ?_
        refine pr_block ?_
        refine pr_then ?_
        refine pn_st (fun _ h => h.zeroS lGEntry 41 none) ?_
        replace h := Option.some.inj h
        subst h
        have h := (elimR (rnextR hN42))
        replace h := Option.some.inj h
        subst h
        refine pn_ret (vs := [_, _]) rfl ⟨rfl, rfl, trivial⟩ ⟨none, 0, 0, rfl, rfl, rfl⟩ (fun _ h => h.to ⟨_, r0, trivial⟩ trivial)
      · have h := ifF h cd54
        refine wc_skip ?_
        refine pn_then ?_
        refine wc_seq ?_
        refine wc_region ?_   -- region 19
        refine wl_det rfl rfl (det_move rfl) rfl ?_
        refine wl_det rfl rfl (det_neq rfl rfl) rfl ?_
        refine wl_nil ?_
        refine pn_then ?_
        refine wc_cond rfl (fun cd59 => ?_) (fun cd59 => ?_)
        · have h := ifT h cd59
          refine wc_seq ?_
          refine wc_region ?_   -- region 20
          refine wl_det rfl rfl (det_move rfl) rfl ?_
          refine wl_det rfl rfl (det_field rfl fd41_4 rfl) rfl ?_
          refine wl_act0 (act_store (cells := [_]) (cs' := [_, _, _, _, _]) rfl rfl rfl s0 (by rfl) (of_decide_eq_true rfl) sz3 ⟨rfl, trivial⟩) rfl rfl ?_
          rintro _ _ _ ⟨rfl, rfl⟩
          refine wl_nil ?_
          refine pn_then ?_
          refine wc_region ?_   -- region 21
          refine wl_det rfl rfl (det_move rfl) rfl ?_
          refine wl_det rfl rfl (det_loadN (cells := [_, _, _, _, _]) rfl m0 (by rfl) ag41 sz41) rfl ?_
          refine wl_act (act_litS lGEntry (vs := [_]) (cs := [_, _, _, _, _]) [(GEntry.mk p42.1.Kind p42.1.Treaty p42.1.Party p42.1.Loss p42.2)] un37 in41 rfl rfl rfl rfl rfl ⟨rfl, trivial⟩ (by rfl) rfl (litR_flat rfl)) rfl rfl rfl ?_
          rintro _ _ _ ⟨A21_2, rfl, rfl, rfl⟩
          obtain ⟨k21_3, h⟩ := chk_some h
          refine wl_act (act_appendS (L := lGEntry) rfl rfl (ss (ss s0)) (src_O m0) un37 in41 rfl rfl rfl k21_3) rfl rfl rfl ?_
          rintro _ _ _ ⟨A21_3, c21_3, rfl, rfl, rfl⟩
          refine wl_det rfl rfl (det_assign rfl) rfl ?_
          refine wl_nil ?_
          refine pn_block ?_
          replace h := Option.some.inj h
          subst h
          exact pn_some (lg42, (s42 ++ [(GEntry.mk p42.1.Kind p42.1.Treaty p42.1.Party p42.1.Loss p42.2)]), A21_3, (s42 ++ [(GEntry.mk p42.1.Kind p42.1.Treaty p42.1.Party p42.1.Loss p42.2)]).length, c21_3, (some p42), ()) ⟨rnextL hN42, perm_lt hp42⟩ ⟨rfl, rfl, trivial⟩ (fun _ h => h.to ⟨_, (rs (rs r0)), ⟨_, (rs (rs r0)), trivial⟩⟩ trivial)
        · have h := ifF h cd59
          refine wc_skip ?_
          refine pn_block ?_
          replace h := Option.some.inj h
          subst h
          exact pn_some (lg42, s42, A42_0, s42.length, c42_0, (some p42), ()) ⟨rnextL hN42, perm_lt hp42⟩ ⟨rfl, rfl, trivial⟩ (fun _ h => h.to ⟨_, (rs r0), ⟨_, (rs r0), trivial⟩⟩ trivial)
def Q_ledger_Totals (r : (List GEntry) × Int) : Value → List Ent → List Fact → Prop := fun v θ κ => ∃ (pA0 : Option Addr), ∃ (pn0 : Nat), ∃ (pc0 : Nat), v = .tuple #[.slice pA0 pn0 pc0, .int .i64 r.2] ∧ θ = [eS lGEntry 41 pA0 pn0 pc0 r.1] ∧ κ = []
theorem plains_ledger_Totals {r : (List GEntry) × Int} : ∀ v θ κ, Q_ledger_Totals r v θ κ → Plains θ := by
  rintro _ _ _ ⟨_, _, _, rfl, rfl, rfl⟩
  exact ⟨plain_eS, trivial⟩
set_option maxHeartbeats 4000000 in
set_option maxRecDepth 100000 in
theorem W_ledger_Totals (a0 : GLedger) (a1 : Int) (A0 : Option Addr) (n0 : Nat) (c0 : Nat) (r : (List GEntry) × Int) (h : ledger_Totals a0 a1 = some r) : Spec Try.prog 18 [.agg #[.int .i64 a0.Closed, .slice A0 n0 c0], .int .i64 a1] [] [fV (lSlice lGPosting) (.slice A0 n0 c0) a0.Postings] (Q_ledger_Totals r) := by
  unfold ledger_Totals at h
  refine spec_of (σ := [(0, _), (1, _)]) Try.func18 rfl rfl rfl rfl ?_
  intro C
  refine wc_know (fun _ h => h.lenF m0) (fun e => ?_)
  subst e
  refine wc_seq ?_
  refine wc_region ?_   -- region 0
  refine wl_act (act_box (cs := [_, _]) rfl rfl) rfl rfl rfl ?_
  rintro _ _ _ ⟨b0_0, rfl, rfl, rfl⟩
  refine wl_det rfl rfl (det_assign rfl) rfl ?_
  refine wl_det rfl rfl (det_assign rfl) rfl ?_
  refine wl_nil ?_
  refine pn_then ?_
  refine wc_seq ?_
  refine wc_seq ?_
  refine wc_region ?_   -- region 1
  refine wl_det rfl rfl (det_loadN (cells := [_, _]) rfl m0 (by rfl) ag25 sz25) rfl ?_
  obtain ⟨r1_1, hr1_1, h⟩ := bind_some h
  refine wl_act (act_callS (cap := []) (W_ledger_Validate a0 A0 a0.Postings.length c0 r1_1 hr1_1) rfl rfl rfl bd16 rfl ⟨m0, trivial⟩) rfl rfl rfl ?_
  rintro _ _ _ ⟨_, _, ⟨rfl, rfl, rfl⟩, rfl, rfl⟩
  dsimp only [List.nil_append, List.cons_append]
  refine wl_det rfl rfl (det_assign rfl) rfl ?_
  refine wl_nil ?_
  refine pn_then ?_
  refine wc_seq ?_
  refine wc_region ?_   -- region 2
  refine wl_det rfl rfl (det_move rfl) rfl ?_
  refine wl_det rfl rfl (det_neq rfl rfl) rfl ?_
  refine wl_nil ?_
  refine pn_then ?_
  refine wc_cond rfl (fun cd7 => ?_) (fun cd7 => ?_)
  · have h := ifT h cd7
    refine wc_seq ?_
    refine wc_region ?_   -- region 3
    refine wl_det rfl rfl (det_move rfl) rfl ?_
    refine wl_det rfl rfl (det_assign rfl) rfl ?_
    refine wl_det rfl rfl (det_assign rfl) rfl ?_
    refine wl_nil ?_
    refine pn_then ?_
    refine wc_ret ?_
    refine pr_then ?_
    refine pn_st (fun _ h => h.zeroS lGEntry 41 none) ?_
    replace h := Option.some.inj h
    subst h
    refine pn_ret (vs := [_, _]) rfl ⟨rfl, rfl, trivial⟩ ⟨none, 0, 0, rfl, rfl, rfl⟩ (fun _ h => h.to ⟨_, r0, trivial⟩ trivial)
  · have h := ifF h cd7
    refine wc_skip ?_
    refine pn_then ?_
    refine wc_seq ?_
    refine wc_seq ?_
    refine wc_region ?_   -- region 4
    refine wl_det rfl rfl (det_move rfl) rfl ?_
    refine wl_det rfl rfl (det_lss rfl rfl) rfl ?_
    refine wl_det rfl rfl (det_move rfl) rfl ?_
    refine wl_way (decide (a1 < 0)) ((decide (a1 < 0)) || (decide ((w64 (a0.Closed + 1)) < a1))) 6 23 (fun hg => ?_) (fun hg => ?_) ?_
    · have hg4_8 := hg
      refine wl_off rfl rfl rfl rfl rfl hg4_8 rfl ?_
      refine wl_off rfl rfl rfl rfl rfl hg4_8 rfl ?_
      refine wl_off rfl rfl rfl rfl rfl hg4_8 rfl ?_
      refine wl_off rfl rfl rfl rfl rfl hg4_8 rfl ?_
      refine wl_off rfl rfl rfl rfl rfl hg4_8 rfl ?_
      refine wl_det rfl rfl (det_or_on (r := (decide ((w64 (a0.Closed + 1)) < a1))) rfl rfl rfl hg4_8) rfl ?_
      exact wl_nil (pn_qnE (ext_cons rfl (ext_skip rfl (ext_skip rfl (ext_skip rfl (ext_skip rfl (ext_skip rfl (ext_skip rfl ext_refl))))))) (fun _ h => h))
    · have hg4_8a := hg
      refine wl_on rfl rfl rfl rfl hg4_8a ?_
      refine wl_det rfl rfl (det_move rfl) rfl ?_
      refine wl_on rfl rfl rfl rfl hg4_8a ?_
      refine wl_det rfl rfl (det_field rfl fd25_0 rfl) rfl ?_
      refine wl_on rfl rfl rfl rfl hg4_8a ?_
      refine wl_det rfl rfl (det_load rfl m0 (by rfl) na3 us3) rfl ?_
      refine wl_on rfl rfl rfl rfl hg4_8a ?_
      refine wl_det rfl rfl (det_add rfl rfl) rfl ?_
      refine wl_on rfl rfl rfl rfl hg4_8a ?_
      refine wl_det rfl rfl (det_gtr rfl rfl) rfl ?_
      refine wl_det rfl rfl (det_or_off rfl rfl rfl hg4_8a) rfl ?_
      exact wl_nil (pn_qnE (ext_cons rfl (ext_skip rfl (ext_skip rfl (ext_skip rfl (ext_skip rfl (ext_skip rfl (ext_skip rfl ext_refl))))))) (fun _ h => h))
    refine wl_nil ?_
    refine pn_then ?_
    refine wc_cond rfl (fun cd13 => ?_) (fun cd13 => ?_)
    · have h := ifT h cd13
      refine wc_seq ?_
      refine wc_region ?_   -- region 5
      refine wl_det rfl rfl (det_assign rfl) rfl ?_
      refine wl_det rfl rfl (det_assign rfl) rfl ?_
      refine wl_nil ?_
      refine pn_then ?_
      refine wc_ret ?_
      refine pr_then ?_
      refine pn_st (fun _ h => h.zeroS lGEntry 41 none) ?_
      replace h := Option.some.inj h
      subst h
      refine pn_ret (vs := [_, _]) rfl ⟨rfl, rfl, trivial⟩ ⟨none, 0, 0, rfl, rfl, rfl⟩ (fun _ h => h.to ⟨_, r0, trivial⟩ trivial)
    · have h := ifF h cd13
      refine wc_skip ?_
      refine pn_then ?_
      refine wc_seq ?_
      refine wc_region ?_   -- region 6
      refine wl_det rfl rfl (det_assign rfl) rfl ?_
      refine wl_nil ?_
      refine pn_then ?_
      obtain ⟨q18, h, ho18⟩ := bind_some h
      refine wc_meetG (G := (List GEntry) × Option Addr × Nat × Nat × Unit) (fun (s18, _, _, _, _) => s18 = q18) (fun (_, A18_0, n18_0, c18_0, _) => [(7, .slice A18_0 n18_0 c18_0)]) (fun (s18, A18_0, n18_0, c18_0, _) => [eS lGEntry 41 A18_0 n18_0 c18_0 s18]) (fun (_, _, _, _, _) => []) ?_ ?_
      · refine wc_seq ?_
        refine wc_region ?_   -- region 7
        refine wl_det rfl rfl (det_field rfl fd25_1 rfl) rfl ?_
        refine wl_det rfl rfl (det_load rfl m0 (by rfl) na23 us23) rfl ?_
        refine wl_det rfl rfl (det_len rfl un23) rfl ?_
        refine wl_det rfl rfl (det_move rfl) rfl ?_
        refine wl_nil ?_
        refine pn_then ?_
        refine wc_block ?_
        refine wc_st (fun _ h => h.zeroS lGEntry 41 none) ?_
        obtain ⟨k22, hk22⟩ := loopV_some.1 h
        refine wc_loop (G := Nat × ((List GEntry) × Int) × Option Addr × Nat × Nat × Unit) (fun g => IterN (ledger_Totals_l22 a0 a1) g.1 g.2.1 q18) (fun g => g.1) (fun (_, s22, A22_0, n22_0, c22_0, _) => [(1, .int .i64 a1), (7, .slice A22_0 n22_0 c22_0), (25, .slice A0 a0.Postings.length c0), (26, .int .i64 (a0.Postings.length : Int)), (27, .int .i64 s22.2)]) (fun (_, s22, A22_0, n22_0, c22_0, _) => [eS lGEntry 41 A22_0 n22_0 c22_0 s22.1]) (fun (_, _, _, _, _, _) => [fV (lSlice lGPosting) (.slice A0 a0.Postings.length c0) a0.Postings]) (k22, ([], 0), none, 0, 0, ()) hk22 ⟨rfl, rfl, rfl, rfl, rfl, trivial⟩ (fun _ h => h.to ⟨_, r0, trivial⟩ ⟨m0, trivial⟩) ?_
        rintro ⟨k22, s22, A22_0, n22_0, c22_0, _⟩ hI
        obtain ⟨k22, rfl, q22, h, g22⟩ := IterN.pos hI
        dsimp only at h ⊢
        unfold ledger_Totals_l22 at h
        refine wc_know (fun _ h => h.lenO m0) (fun e => ?_)
        subst e
        refine wc_seq ?_
        refine wc_region ?_   -- region 8
        refine wl_det rfl rfl (det_lss rfl rfl) rfl ?_
        refine wl_nil ?_
        refine pn_then ?_
        refine wc_seq ?_
        refine wc_cond rfl (fun cd26 => ?_) (fun cd26 => ?_)
        · have h := ifT h cd26
          refine wc_skip ?_
          refine pn_then ?_
          obtain ⟨q28, h, ho28⟩ := bind_some h
          refine wc_meetG (G := (List GEntry) × Option Addr × Nat × Nat × Unit) (fun (s28, _, _, _, _) => s28 = q28) (fun (_, A28_0, n28_0, c28_0, _) => [(1, .int .i64 a1), (7, .slice A28_0 n28_0 c28_0), (25, .slice A0 a0.Postings.length c0), (26, .int .i64 (a0.Postings.length : Int)), (27, .int .i64 s22.2)]) (fun (s28, A28_0, n28_0, c28_0, _) => [eS lGEntry 41 A28_0 n28_0 c28_0 s28]) (fun (_, _, _, _, _) => [fV (lSlice lGPosting) (.slice A0 a0.Postings.length c0) a0.Postings]) ?_ ?_
          · refine wc_block ?_
            refine wc_seq ?_
            refine wc_region ?_   -- region 9
            obtain ⟨k9_0, h⟩ := chk_some h
            refine wl_st (fun _ h => h.openF m0 k9_0) ?_
            refine wl_det rfl rfl (det_indexP rfl rfl (ms m0) k9_0 m0 un23 sz73) rfl ?_
            refine wl_det rfl rfl (det_loadP (off := 0) rfl m0 (by rfl) (by rfl) (loaded_n (cells := [_, _, _, _, _, _, _]) ag73 sz73)) rfl ?_
            refine wl_act (act_alloc (cs := [_, _, _, _, _, _, _]) zr73 rfl) rfl rfl rfl ?_
            rintro _ _ _ ⟨b9_2, rfl, rfl, rfl⟩
            refine wl_act0 (act_store (cells := [_, _, _, _, _, _, _]) (cs' := [_, _, _, _, _, _, _]) rfl rfl rfl s0 (by rfl) (of_decide_eq_true rfl) sz73 ⟨rfl, rfl, rfl, rfl, rfl, rfl, rfl, trivial⟩) rfl rfl ?_
            rintro _ _ _ ⟨rfl, rfl⟩
            refine wl_nil ?_
            refine pn_then ?_
            refine wc_seq ?_
            refine wc_region ?_   -- region 10
            refine wl_det rfl rfl (det_field rfl fd73_1 rfl) rfl ?_
            refine wl_det rfl rfl (det_load rfl m0 (by rfl) na3 us3) rfl ?_
            refine wl_det rfl rfl (det_move rfl) rfl ?_
            refine wl_det rfl rfl (det_lss rfl rfl) rfl ?_
            refine wl_nil ?_
            refine pn_then ?_
            refine wc_cond rfl (fun cd34 => ?_) (fun cd34 => ?_)
            · have h := ifT h cd34
              refine wc_region ?_   -- region 11
              refine wl_det rfl rfl (det_move rfl) rfl ?_
              refine wl_det rfl rfl (det_field rfl fd73_2 rfl) rfl ?_
              refine wl_det rfl rfl (det_loadN (cells := [_, _, _, _, _]) rfl m0 (by rfl) ag41 sz41) rfl ?_
              refine wl_act (act_litS lGEntry (vs := [_]) (cs := [_, _, _, _, _]) [(ix a0.Postings s22.2).Entry] un37 in41 rfl rfl rfl rfl rfl ⟨rfl, trivial⟩ (by rfl) rfl (litR_flat rfl)) rfl rfl rfl ?_
              rintro _ _ _ ⟨A11_3, rfl, rfl, rfl⟩
              obtain ⟨k11_4, h⟩ := chk_some h
              refine wl_act (act_appendS (L := lGEntry) rfl rfl (ss (ss s0)) (src_O m0) un37 in41 rfl rfl rfl k11_4) rfl rfl rfl ?_
              rintro _ _ _ ⟨A11_4, c11_4, rfl, rfl, rfl⟩
              refine wl_det rfl rfl (det_assign rfl) rfl ?_
              refine wl_nil ?_
              refine pn_block ?_
              replace h := Option.some.inj h
              subst h
              exact pn_meetG ((s22.1 ++ [(ix a0.Postings s22.2).Entry]), A11_4, (s22.1 ++ [(ix a0.Postings s22.2).Entry]).length, c11_4, ()) rfl ⟨rfl, rfl, rfl, rfl, rfl, trivial⟩ (fun _ h => h.to ⟨_, (rs (rs r0)), trivial⟩ ⟨(ms m0), trivial⟩)
            · have h := ifF h cd34
              refine wc_skip ?_
              refine pn_block ?_
              replace h := Option.some.inj h
              subst h
              exact pn_meetG (s22.1, A22_0, s22.1.length, c22_0, ()) rfl ⟨rfl, rfl, rfl, rfl, rfl, trivial⟩ (fun _ h => h.to ⟨_, (rs r0), trivial⟩ ⟨(ms m0), trivial⟩)
          rintro ⟨s28, A28_0, n28_0, c28_0, _⟩ e28
          dsimp only at e28 ⊢
          subst e28
          have h := ho28
          refine wc_know (fun _ h => h.lenO m0) (fun e => ?_)
          subst e
          refine wc_region ?_   -- region 12
          refine wl_det rfl rfl (det_add rfl rfl) rfl ?_
          refine wl_det rfl rfl (det_move rfl) rfl ?_
          refine wl_nil ?_
          replace h := Option.some.inj h
          subst h
          exact pn_some (k22, (s28, (w64 (s22.2 + 1))), A28_0, s28.length, c28_0, ()) ⟨nextL g22, Nat.lt_succ_self _⟩ ⟨rfl, rfl, rfl, rfl, rfl, trivial⟩ (fun _ h => h.to ⟨_, r0, trivial⟩ ⟨m0, trivial⟩)
        · have h := ifF h cd26
          refine wc_exit ?_
          refine px_then ?_
          refine px_then ?_
          refine px_block ?_
          replace h := Option.some.inj h
          subst h
          replace g22 := nextR g22
          subst g22
          exact pn_meetG (s22.1, A22_0, s22.1.length, c22_0, ()) rfl ⟨rfl, trivial⟩ (fun _ h => h.to ⟨_, r0, trivial⟩ trivial)
      rintro ⟨s18, A18_0, n18_0, c18_0, _⟩ e18
      dsimp only at e18 ⊢
      subst e18
      have h := ho18
      refine wc_know (fun _ h => h.lenO m0) (fun e => ?_)
      subst e
      refine wc_seq ?_
      refine wc_region ?_   -- region 13
      refine wl_det rfl rfl (det_move rfl) rfl ?_
      obtain ⟨r13_1, hr13_1, h⟩ := bind_some h
      refine wl_act (act_callL (cap := []) [eS lGEntry 41 A18_0 s18.length c18_0 s18] (W_ledger_Collect s18 A18_0 s18.length c18_0 r13_1 hr13_1) plains_ledger_Collect rfl rfl rfl bd26 rfl ⟨m0, trivial⟩ ⟨.inr ⟨_, m0, lent_eS⟩, trivial⟩) rfl rfl rfl ?_
      rintro _ _ _ ⟨_, _, ⟨y13_1A0, y13_1n0, y13_1c0, rfl, rfl, rfl⟩, rfl, rfl⟩
      dsimp only [List.nil_append, List.cons_append]
      refine wl_know (fun _ h => h.lenO m0) (fun e => ?_)
      subst e
      refine wl_det rfl rfl (det_extract rfl rfl) rfl ?_
      refine wl_det rfl rfl (det_extract rfl rfl) rfl ?_
      refine wl_det rfl rfl (det_assign rfl) rfl ?_
      refine wl_det rfl rfl (det_assign rfl) rfl ?_
      refine wl_nil ?_
      refine pn_then ?_
      refine wc_ret ?_
      replace h := Option.some.inj h
      subst h
      refine pn_ret (vs := [_, _]) rfl ⟨rfl, rfl, trivial⟩ ⟨y13_1A0, r13_1.1.length, y13_1c0, rfl, rfl, rfl⟩ (fun _ h => h.to ⟨_, r0, trivial⟩ trivial)
def Q_account_heading (r : GEntry) : Value → List Ent → List Fact → Prop := fun v θ κ => v = .agg #[.int .i64 r.Kind, .int .i64 r.Treaty, .int .i64 r.Party, .int .i64 r.Loss, .int .i64 r.Amount] ∧ θ = [] ∧ κ = []
theorem plains_account_heading {r : GEntry} : ∀ v θ κ, Q_account_heading r v θ κ → Plains θ := by
  rintro _ _ _ ⟨rfl, rfl, rfl⟩
  exact trivial
set_option maxHeartbeats 4000000 in
set_option maxRecDepth 100000 in
theorem W_account_heading (a0 : GEntry) (r : GEntry) (h : account_heading a0 = some r) : Spec Try.prog 60 [.agg #[.int .i64 a0.Kind, .int .i64 a0.Treaty, .int .i64 a0.Party, .int .i64 a0.Loss, .int .i64 a0.Amount]] [] [] (Q_account_heading r) := by
  unfold account_heading at h
  refine spec_of (σ := [(0, _)]) Try.func60 rfl rfl rfl rfl ?_
  intro C
  refine wc_seq ?_
  refine wc_region ?_   -- region 0
  refine wl_act (act_box (cs := [_, _, _, _, _]) rfl rfl) rfl rfl rfl ?_
  rintro _ _ _ ⟨b0_0, rfl, rfl, rfl⟩
  refine wl_act (act_alloc (cs := [_, _, _, _, _]) zr41 rfl) rfl rfl rfl ?_
  rintro _ _ _ ⟨b0_1, rfl, rfl, rfl⟩
  refine wl_nil ?_
  refine pn_then ?_
  refine wc_seq ?_
  refine wc_region ?_   -- region 1
  refine wl_det rfl rfl (det_field rfl fd41_4 rfl) rfl ?_
  refine wl_act0 (act_store (cells := [_]) (cs' := [_, _, _, _, _]) rfl rfl rfl (ss s0) (by rfl) (of_decide_eq_true rfl) sz3 ⟨rfl, trivial⟩) rfl rfl ?_
  rintro _ _ _ ⟨rfl, rfl⟩
  refine wl_nil ?_
  refine pn_then ?_
  refine wc_seq ?_
  refine wc_region ?_   -- region 2
  refine wl_det rfl rfl (det_loadN (cells := [_, _, _, _, _]) rfl (ms m0) (by rfl) ag41 sz41) rfl ?_
  refine wl_act0 (act_store (cells := [_, _, _, _, _]) (cs' := [_, _, _, _, _]) rfl rfl rfl s0 (by rfl) (of_decide_eq_true rfl) sz41 ⟨rfl, rfl, rfl, rfl, rfl, trivial⟩) rfl rfl ?_
  rintro _ _ _ ⟨rfl, rfl⟩
  refine wl_nil ?_
  refine pn_then ?_
  refine wc_ret ?_
  replace h := Option.some.inj h
  subst h
  refine pn_ret (vs := [_]) rfl ⟨⟨_, _, [_, _, _, _, _], rfl, m0, ag41, sz41, rfl⟩, trivial⟩ ⟨rfl, rfl, rfl⟩ (fun _ h => h.to trivial trivial)
def Q_account_compare (r : Int) : Value → List Ent → List Fact → Prop := fun v θ κ => v = .int .i64 r ∧ θ = [] ∧ κ = []
theorem plains_account_compare {r : Int} : ∀ v θ κ, Q_account_compare r v θ κ → Plains θ := by
  rintro _ _ _ ⟨rfl, rfl, rfl⟩
  exact trivial
set_option maxHeartbeats 4000000 in
set_option maxRecDepth 100000 in
theorem W_account_compare (a0 : GEntry) (a1 : GEntry) (r : Int) (h : account_compare a0 a1 = some r) : Spec Try.prog 61 [.agg #[.int .i64 a0.Kind, .int .i64 a0.Treaty, .int .i64 a0.Party, .int .i64 a0.Loss, .int .i64 a0.Amount], .agg #[.int .i64 a1.Kind, .int .i64 a1.Treaty, .int .i64 a1.Party, .int .i64 a1.Loss, .int .i64 a1.Amount]] [] [] (Q_account_compare r) := by
  unfold account_compare at h
  refine spec_of (σ := [(0, _), (1, _)]) Try.func61 rfl rfl rfl rfl ?_
  intro C
  refine wc_seq ?_
  refine wc_region ?_   -- region 0
  refine wl_act (act_box (cs := [_, _, _, _, _]) rfl rfl) rfl rfl rfl ?_
  rintro _ _ _ ⟨b0_0, rfl, rfl, rfl⟩
  refine wl_act (act_box (cs := [_, _, _, _, _]) rfl rfl) rfl rfl rfl ?_
  rintro _ _ _ ⟨b0_1, rfl, rfl, rfl⟩
  refine wl_det rfl rfl (det_assign rfl) rfl ?_
  refine wl_nil ?_
  refine pn_then ?_
  refine wc_seq ?_
  refine dx_region 22 [[], [0], [], [2], [0, 1, 2, 3], [], [5], [], [7], [0, 1, 2, 3, 4, 5, 6, 7, 8], [], [10], [], [12], [0, 1, 2, 3, 4, 5, 6, 7, 8, 9, 10, 11, 12, 13], [], [15], [], [17], [0, 1, 2, 3, 4, 5, 6, 7, 8, 9, 10, 11, 12, 13, 14, 15, 16, 17, 18], [0, 1, 2, 3, 4, 5, 6, 7, 8, 9, 10, 11, 12, 13, 14, 15, 16, 17, 18, 19], [0, 1, 2, 3, 4, 5, 6, 7, 8, 9, 10, 11, 12, 13, 14, 15, 16, 17, 18, 19, 20], [0, 1, 2, 3, 4, 5, 6, 7, 8, 9, 10, 11, 12, 13, 14, 15, 16, 17, 18, 19, 20, 21]] mixed (ord := (.det 0 (.det 1 (.det 2 (.det 3 (.det 5 (.det 6 (.det 7 (.det 8 (.det 10 (.det 11 (.det 12 (.det 13 (.det 15 (.det 16 (.det 17 (.det 18 (.alt 4 (.alt 9 (.alt 14 (.alt 19 (.alt 20 (.alt 21 .done .dead) .dead) .dead) .dead) .dead) .dead)))))))))))))))))) (by kernel_rfl) ?_   -- region 1
  refine hx_det rfl rfl rfl nofun (det_field rfl fd41_0 rfl) rfl ?_
  refine hx_det rfl rfl rfl nofun (det_load rfl (ms m0) (by rfl) na3 us3) rfl ?_
  refine hx_det rfl rfl rfl nofun (det_field rfl fd41_0 rfl) rfl ?_
  refine hx_det rfl rfl rfl nofun (det_load rfl m0 (by rfl) na3 us3) rfl ?_
  refine hx_det rfl rfl rfl nofun (det_field rfl fd41_1 rfl) rfl ?_
  refine hx_det rfl rfl rfl nofun (det_load rfl (ms m0) (by rfl) na3 us3) rfl ?_
  refine hx_det rfl rfl rfl nofun (det_field rfl fd41_1 rfl) rfl ?_
  refine hx_det rfl rfl rfl nofun (det_load rfl m0 (by rfl) na3 us3) rfl ?_
  refine hx_det rfl rfl rfl nofun (det_field rfl fd41_2 rfl) rfl ?_
  refine hx_det rfl rfl rfl nofun (det_load rfl (ms m0) (by rfl) na3 us3) rfl ?_
  refine hx_det rfl rfl rfl nofun (det_field rfl fd41_2 rfl) rfl ?_
  refine hx_det rfl rfl rfl nofun (det_load rfl m0 (by rfl) na3 us3) rfl ?_
  refine hx_det rfl rfl rfl nofun (det_field rfl fd41_3 rfl) rfl ?_
  refine hx_det rfl rfl rfl nofun (det_load rfl (ms m0) (by rfl) na3 us3) rfl ?_
  refine hx_det rfl rfl rfl nofun (det_field rfl fd41_3 rfl) rfl ?_
  refine hx_det rfl rfl rfl nofun (det_load rfl m0 (by rfl) na3 us3) rfl ?_
  obtain ⟨r1_4, hr1_4, h⟩ := bind_some h
  refine hx_act rfl rfl rfl (act_callS (cap := []) (W_cmp_Compare_int a0.Kind a1.Kind r1_4 hr1_4) rfl rfl rfl bd70 rfl trivial) rfl (by rintro _ _ _ ⟨_, _, _, rfl, rfl⟩; first | exact ⟨_, _, rfl, rfl⟩ | exact ⟨_, [], rfl, rfl⟩) ?_
  rintro _ _ _ ⟨_, _, ⟨rfl, rfl, rfl⟩, rfl, rfl⟩
  dsimp only [List.nil_append, List.cons_append]
  obtain ⟨r1_9, hr1_9, h⟩ := bind_some h
  refine hx_act rfl rfl rfl (act_callS (cap := []) (W_cmp_Compare_int a0.Treaty a1.Treaty r1_9 hr1_9) rfl rfl rfl bd70 rfl trivial) rfl (by rintro _ _ _ ⟨_, _, _, rfl, rfl⟩; first | exact ⟨_, _, rfl, rfl⟩ | exact ⟨_, [], rfl, rfl⟩) ?_
  rintro _ _ _ ⟨_, _, ⟨rfl, rfl, rfl⟩, rfl, rfl⟩
  dsimp only [List.nil_append, List.cons_append]
  obtain ⟨r1_14, hr1_14, h⟩ := bind_some h
  refine hx_act rfl rfl rfl (act_callS (cap := []) (W_cmp_Compare_int a0.Party a1.Party r1_14 hr1_14) rfl rfl rfl bd70 rfl trivial) rfl (by rintro _ _ _ ⟨_, _, _, rfl, rfl⟩; first | exact ⟨_, _, rfl, rfl⟩ | exact ⟨_, [], rfl, rfl⟩) ?_
  rintro _ _ _ ⟨_, _, ⟨rfl, rfl, rfl⟩, rfl, rfl⟩
  dsimp only [List.nil_append, List.cons_append]
  obtain ⟨r1_19, hr1_19, h⟩ := bind_some h
  refine hx_act rfl rfl rfl (act_callS (cap := []) (W_cmp_Compare_int a0.Loss a1.Loss r1_19 hr1_19) rfl rfl rfl bd70 rfl trivial) rfl (by rintro _ _ _ ⟨_, _, _, rfl, rfl⟩; first | exact ⟨_, _, rfl, rfl⟩ | exact ⟨_, [], rfl, rfl⟩) ?_
  rintro _ _ _ ⟨_, _, ⟨rfl, rfl, rfl⟩, rfl, rfl⟩
  dsimp only [List.nil_append, List.cons_append]
  refine hx_act rfl rfl rfl (act_litS (lInt .i64) (vs := [_, _, _, _]) (cs := [_, _, _, _]) [r1_4, r1_9, r1_14, r1_19] un22 in3 rfl rfl rfl rfl rfl ⟨rfl, rfl, rfl, rfl, trivial⟩ (by rfl) rfl (litR_flat rfl)) rfl (by rintro _ _ _ ⟨A1_20, rfl, rfl, rfl⟩; first | exact ⟨_ :: [], [], rfl, rfl⟩ | exact ⟨[], [_], rfl, rfl⟩ | exact ⟨[], [], rfl, rfl⟩) ?_
  rintro _ _ _ ⟨A1_20, rfl, rfl, rfl⟩
  obtain ⟨r1_21, hr1_21, h⟩ := bind_some h
  refine hx_act rfl rfl rfl (act_callL (cap := []) [eS (lInt .i64) 3 A1_20 4 4 [r1_4, r1_9, r1_14, r1_19]] (W_cmp_Or_int [r1_4, r1_9, r1_14, r1_19] A1_20 4 4 r1_21 hr1_21) plains_cmp_Or_int rfl rfl rfl bd69 rfl ⟨m0, trivial⟩ ⟨.inr ⟨_, m0, lent_eS⟩, trivial⟩) rfl (by rintro _ _ _ ⟨_, _, _, rfl, rfl⟩; first | exact ⟨_, _, rfl, rfl⟩ | exact ⟨_, [], rfl, rfl⟩) ?_
  rintro _ _ _ ⟨_, _, ⟨rfl, rfl, rfl⟩, rfl, rfl⟩
  dsimp only [List.nil_append, List.cons_append]
  refine hx_end ?_
  refine wl_det rfl rfl (det_assign rfl) rfl ?_
  refine wl_nil ?_
  refine pn_then ?_
  refine wc_ret ?_
  replace h := Option.some.inj h
  subst h
  refine pn_ret (vs := [_]) rfl ⟨rfl, trivial⟩ ⟨rfl, rfl, rfl⟩ (fun _ h => h.to trivial trivial)
def Q_slices_SortFunc_s_api_Entry_api_Entry_o_account_compare (A0 : Option Addr) (n0 : Nat) (c0 : Nat) (r : (List GEntry)) : Value → List Ent → List Fact → Prop := fun v θ κ => v = .tuple #[] ∧ θ = [eS lGEntry 41 A0 n0 c0 r] ∧ κ = []
theorem plains_slices_SortFunc_s_api_Entry_api_Entry_o_account_compare {A0 : Option Addr} {n0 : Nat} {c0 : Nat} {r : (List GEntry)} : ∀ v θ κ, Q_slices_SortFunc_s_api_Entry_api_Entry_o_account_compare A0 n0 c0 r v θ κ → Plains θ := by
  rintro _ _ _ ⟨rfl, rfl, rfl⟩
  exact ⟨plain_eS, trivial⟩
theorem W_slices_SortFunc_s_api_Entry_api_Entry_o_account_compare (a0 : (List GEntry)) (A0 : Option Addr) (n0 : Nat) (c0 : Nat) (r : (List GEntry)) (h : slices_SortFunc_s_api_Entry_api_Entry_o_account_compare a0 = some r) : Spec Try.prog 54 [.slice A0 n0 c0, .func (.func 61) #[] #[]] [eS lGEntry 41 A0 n0 c0 a0] [] (Q_slices_SortFunc_s_api_Entry_api_Entry_o_account_compare A0 n0 c0 r) :=
  spec_sortK (ρ := Try.sort54_ren) Try.sort54 rfl (by kernel_rfl) (by kernel_rfl) (cap := []) (θ₀ := []) bd61 trivial (fun x y r h => W_account_compare x y  r h) h A0 n0 c0
def Q_account_Differences (r : (List GEntry) × Int) : Value → List Ent → List Fact → Prop := fun v θ κ => ∃ (pA0 : Option Addr), ∃ (pn0 : Nat), ∃ (pc0 : Nat), v = .tuple #[.slice pA0 pn0 pc0, .int .i64 r.2] ∧ θ = [eS lGEntry 41 pA0 pn0 pc0 r.1] ∧ κ = []
theorem plains_account_Differences {r : (List GEntry) × Int} : ∀ v θ κ, Q_account_Differences r v θ κ → Plains θ := by
  rintro _ _ _ ⟨_, _, _, rfl, rfl, rfl⟩
  exact ⟨plain_eS, trivial⟩
set_option maxHeartbeats 4000000 in
set_option maxRecDepth 100000 in
theorem W_account_Differences (a0 : GLedger) (a1 : GLedger) (A0 : Option Addr) (n0 : Nat) (c0 : Nat) (A3 : Option Addr) (n3 : Nat) (c3 : Nat) (r : (List GEntry) × Int) (h : account_Differences a0 a1 = some r) : Spec Try.prog 40 [.agg #[.int .i64 a0.Closed, .slice A0 n0 c0], .agg #[.int .i64 a1.Closed, .slice A3 n3 c3]] [] [fV (lSlice lGPosting) (.slice A0 n0 c0) a0.Postings, fV (lSlice lGPosting) (.slice A3 n3 c3) a1.Postings] (Q_account_Differences r) := by
  unfold account_Differences at h
  refine spec_of (σ := [(0, _), (1, _)]) Try.func40 rfl rfl rfl rfl ?_
  intro C
  refine wc_know (fun _ h => h.lenF m0) (fun e => ?_)
  subst e
  refine wc_know (fun _ h => h.lenF (ms m0)) (fun e => ?_)
  subst e
  refine wc_seq ?_
  refine wc_region ?_   -- region 0
  refine wl_act (act_box (cs := [_, _]) rfl rfl) rfl rfl rfl ?_
  rintro _ _ _ ⟨b0_0, rfl, rfl, rfl⟩
  refine wl_act (act_box (cs := [_, _]) rfl rfl) rfl rfl rfl ?_
  rintro _ _ _ ⟨b0_1, rfl, rfl, rfl⟩
  refine wl_det rfl rfl (det_assign rfl) rfl ?_
  refine wl_det rfl rfl (det_assign rfl) rfl ?_
  refine wl_nil ?_
  refine pn_then ?_
  refine wc_seq ?_
  refine wc_region ?_   -- region 1
  refine wl_det rfl rfl (det_loadN (cells := [_, _]) rfl (ms m0) (by rfl) ag25 sz25) rfl ?_
  refine wl_det rfl rfl (det_field rfl fd25_0 rfl) rfl ?_
  refine wl_det rfl rfl (det_load rfl (ms m0) (by rfl) na3 us3) rfl ?_
  refine wl_det rfl rfl (det_add rfl rfl) rfl ?_
  obtain ⟨r1_4, hr1_4, h⟩ := bind_some h
  refine wl_act (act_callS (cap := []) (W_ledger_Totals a0 (w64 (a0.Closed + 1)) A0 a0.Postings.length c0 r1_4 hr1_4) rfl rfl rfl bd18 rfl ⟨m0, trivial⟩) rfl rfl rfl ?_
  rintro _ _ _ ⟨_, _, ⟨y1_4A0, y1_4n0, y1_4c0, rfl, rfl, rfl⟩, rfl, rfl⟩
  dsimp only [List.nil_append, List.cons_append]
  refine wl_know (fun _ h => h.lenO m0) (fun e => ?_)
  subst e
  refine wl_det rfl rfl (det_move rfl) rfl ?_
  refine wl_det rfl rfl (det_extract rfl rfl) rfl ?_
  refine wl_det rfl rfl (det_extract rfl rfl) rfl ?_
  refine wl_det rfl rfl (det_assign rfl) rfl ?_
  refine wl_det rfl rfl (det_assign rfl) rfl ?_
  refine wl_nil ?_
  refine pn_then ?_
  refine wc_seq ?_
  refine wc_seq ?_
  refine wc_region ?_   -- region 2
  refine wl_det rfl rfl (det_move rfl) rfl ?_
  refine wl_det rfl rfl (det_neq rfl rfl) rfl ?_
  refine wl_nil ?_
  refine pn_then ?_
  refine wc_cond rfl (fun cd7 => ?_) (fun cd7 => ?_)
  · have h := ifT h cd7
    refine wc_seq ?_
    refine wc_region ?_   -- region 3
    refine wl_det rfl rfl (det_move rfl) rfl ?_
    refine wl_det rfl rfl (det_assign rfl) rfl ?_
    refine wl_det rfl rfl (det_assign rfl) rfl ?_
    refine wl_nil ?_
    refine pn_then ?_
    refine wc_ret ?_
    refine pr_then ?_
    refine pn_st (fun _ h => h.zeroS lGEntry 41 none) ?_
    replace h := Option.some.inj h
    subst h
    refine pn_ret (vs := [_, _]) rfl ⟨rfl, rfl, trivial⟩ ⟨none, 0, 0, rfl, rfl, rfl⟩ (fun _ h => h.to ⟨_, r0, trivial⟩ trivial)
  · have h := ifF h cd7
    refine wc_skip ?_
    refine pn_then ?_
    refine wc_seq ?_
    refine wc_region ?_   -- region 4
    refine wl_det rfl rfl (det_loadN (cells := [_, _]) rfl (ms m0) (by rfl) ag25 sz25) rfl ?_
    refine wl_det rfl rfl (det_field rfl fd25_0 rfl) rfl ?_
    refine wl_det rfl rfl (det_load rfl (ms m0) (by rfl) na3 us3) rfl ?_
    refine wl_det rfl rfl (det_add rfl rfl) rfl ?_
    obtain ⟨r4_4, hr4_4, h⟩ := bind_some h
    refine wl_act (act_callS (cap := []) (W_ledger_Totals a1 (w64 (a1.Closed + 1)) A3 a1.Postings.length c3 r4_4 hr4_4) rfl rfl rfl bd18 rfl ⟨(ms m0), trivial⟩) rfl rfl rfl ?_
    rintro _ _ _ ⟨_, _, ⟨y4_4A0, y4_4n0, y4_4c0, rfl, rfl, rfl⟩, rfl, rfl⟩
    dsimp only [List.nil_append, List.cons_append]
    refine wl_know (fun _ h => h.lenO m0) (fun e => ?_)
    subst e
    refine wl_det rfl rfl (det_move rfl) rfl ?_
    refine wl_det rfl rfl (det_extract rfl rfl) rfl ?_
    refine wl_det rfl rfl (det_extract rfl rfl) rfl ?_
    refine wl_det rfl rfl (det_assign rfl) rfl ?_
    refine wl_det rfl rfl (det_assign rfl) rfl ?_
    refine wl_nil ?_
    refine pn_then ?_
    refine wc_seq ?_
    refine wc_seq ?_
    refine wc_region ?_   -- region 5
    refine wl_det rfl rfl (det_move rfl) rfl ?_
    refine wl_det rfl rfl (det_neq rfl rfl) rfl ?_
    refine wl_nil ?_
    refine pn_then ?_
    refine wc_cond rfl (fun cd15 => ?_) (fun cd15 => ?_)
    · have h := ifT h cd15
      refine wc_seq ?_
      refine wc_region ?_   -- region 6
      refine wl_det rfl rfl (det_move rfl) rfl ?_
      refine wl_det rfl rfl (det_assign rfl) rfl ?_
      refine wl_det rfl rfl (det_assign rfl) rfl ?_
      refine wl_nil ?_
      refine pn_then ?_
      refine wc_ret ?_
      refine pr_then ?_
      refine pn_st (fun _ h => h.zeroS lGEntry 41 none) ?_
      replace h := Option.some.inj h
      subst h
      refine pn_ret (vs := [_, _]) rfl ⟨rfl, rfl, trivial⟩ ⟨none, 0, 0, rfl, rfl, rfl⟩ (fun _ h => h.to ⟨_, r0, trivial⟩ trivial)
    · have h := ifF h cd15
      refine wc_skip ?_
      refine pn_then ?_
      refine wc_seq ?_
      refine wc_region ?_   -- region 7
      refine wl_act (act_makeMap encKGEntry encKI) rfl rfl rfl ?_
      rintro _ _ _ ⟨b7_0, rfl, rfl, rfl⟩
      refine wl_det rfl rfl (det_assign rfl) rfl ?_
      refine wl_nil ?_
      refine pn_then ?_
      obtain ⟨q20, h, ho20⟩ := bind_some h
      refine wc_meetG (G := (List (GEntry × Int)) × Unit) (fun (s20, _) => s20 = q20) (fun (_, _) => [(8, .slice y4_4A0 r4_4.1.length y4_4c0), (9, .map (some b7_0))]) (fun (s20, _) => [eS lGEntry 41 y4_4A0 r4_4.1.length y4_4c0 r4_4.1, eM encKGEntry encKI b7_0 s20]) (fun (_, _) => []) ?_ ?_
      · refine wc_seq ?_
        refine wc_region ?_   -- region 8
        refine wl_det rfl rfl (det_move rfl) rfl ?_
        refine wl_det rfl rfl (det_len rfl un37) rfl ?_
        refine wl_det rfl rfl (det_move rfl) rfl ?_
        refine wl_nil ?_
        refine pn_then ?_
        refine wc_block ?_
        obtain ⟨k24, hk24⟩ := loopV_some.1 h
        refine wc_loop (G := Nat × ((List (GEntry × Int)) × Int) × Unit) (fun g => IterN (account_Differences_l24 r1_4) g.1 g.2.1 q20) (fun g => g.1) (fun (_, s24, _) => [(8, .slice y4_4A0 r4_4.1.length y4_4c0), (9, .map (some b7_0)), (40, .slice y1_4A0 r1_4.1.length y1_4c0), (41, .int .i64 (r1_4.1.length : Int)), (42, .int .i64 s24.2)]) (fun (_, s24, _) => [eS lGEntry 41 y4_4A0 r4_4.1.length y4_4c0 r4_4.1, eM encKGEntry encKI b7_0 s24.1, eS lGEntry 41 y1_4A0 r1_4.1.length y1_4c0 r1_4.1]) (fun (_, _, _) => []) (k24, ([], 0), ()) hk24 ⟨rfl, rfl, rfl, rfl, rfl, trivial⟩ (fun _ h => h.to ⟨_, (rs r0), ⟨_, r0, ⟨_, r0, trivial⟩⟩⟩ trivial) ?_
        rintro ⟨k24, s24, _⟩ hI
        obtain ⟨k24, rfl, q24, h, g24⟩ := IterN.pos hI
        dsimp only at h ⊢
        unfold account_Differences_l24 at h
        refine wc_seq ?_
        refine wc_region ?_   -- region 9
        refine wl_det rfl rfl (det_lss rfl rfl) rfl ?_
        refine wl_nil ?_
        refine pn_then ?_
        refine wc_seq ?_
        refine wc_cond rfl (fun cd28 => ?_) (fun cd28 => ?_)
        · have h := ifT h cd28
          refine wc_skip ?_
          refine pn_then ?_
          refine wc_seq ?_
          refine wc_block ?_
          refine wc_seq ?_
          refine wc_region ?_   -- region 10
          obtain ⟨k10_0, h⟩ := chk_some h
          refine wl_det rfl rfl (det_indexO rfl rfl (ms (ms m0)) k10_0 un37 sz41) rfl ?_
          refine wl_det rfl rfl (det_loadO (off := 0) rfl (ms (ms m0)) k10_0 (by rfl) (by rfl) (loaded_n (cells := [_, _, _, _, _]) ag41 sz41)) rfl ?_
          refine wl_act (act_alloc (cs := [_, _, _, _, _]) zr41 rfl) rfl rfl rfl ?_
          rintro _ _ _ ⟨b10_2, rfl, rfl, rfl⟩
          refine wl_act0 (act_store (cells := [_, _, _, _, _]) (cs' := [_, _, _, _, _]) rfl rfl rfl s0 (by rfl) (of_decide_eq_true rfl) sz41 ⟨rfl, rfl, rfl, rfl, rfl, trivial⟩) rfl rfl ?_
          rintro _ _ _ ⟨rfl, rfl⟩
          refine wl_nil ?_
          refine pn_then ?_
          refine dx_regionZ (Z := St C [_, _, _, _] []) 9 [[], [], [1], [0, 1, 2], [], [4], [0, 1, 2, 3, 4, 5], [0, 1, 2, 4, 5], [0, 1, 2, 4, 5, 7], [0, 1, 2, 3, 4, 5, 6, 7, 8]] mixed (ord := (.det 0 (.det 1 (.det 4 (.det 5 (.alt 2 (.det 3 (.det 6 (.alt 7 (.det 8 .done) .dead))) .dead)))))) (by kernel_rfl) (fun _ h => (h.weakM (0 : Int) (ss (ss s0))).to ⟨_, r0, ⟨_, r0, ⟨_, r0, ⟨_, r0, trivial⟩⟩⟩⟩ trivial) ?_   -- region 11
          refine hx_det rfl rfl rfl nofun (det_move rfl) rfl ?_
          refine hx_det rfl rfl rfl nofun (det_loadN (cells := [_, _, _, _, _]) rfl m0 (by rfl) ag41 sz41) rfl ?_
          refine hx_det rfl rfl rfl nofun (det_field rfl fd41_4 rfl) rfl ?_
          refine hx_det rfl rfl rfl nofun (det_load rfl m0 (by rfl) na3 us3) rfl ?_
          obtain ⟨r11_2, hr11_2, h⟩ := bind_some h
          refine hx_mut rfl rfl rfl (act_callS (cap := []) (W_account_heading (ix r1_4.1 s24.2) r11_2 hr11_2) rfl rfl rfl bd60 rfl trivial) rfl (by rintro _ _ _ ⟨_, _, ⟨rfl, rfl, rfl⟩, rfl, rfl⟩ w hs; exact (hs.weakM (0 : Int) (ss (ss s0))).to ⟨_, r0, ⟨_, r0, ⟨_, r0, ⟨_, r0, trivial⟩⟩⟩⟩ trivial) ?_
          rintro _ _ _ ⟨_, _, ⟨rfl, rfl, rfl⟩, rfl, rfl⟩
          dsimp only [List.nil_append, List.cons_append]
          refine hx_det rfl rfl rfl nofun (det_lookupW (k := r11_2) (z := (0 : Int)) (vr := .int .i64 (mget s24.1 r11_2 (0 : Int))) rfl rfl rfl (ms (ms m0)) ko41 um87 zr3 rfl) rfl ?_
          refine hx_det rfl rfl rfl nofun (det_add rfl rfl) rfl ?_
          refine hx_mut rfl rfl rfl (act_mapEntry (k := r11_2) (z := (0 : Int)) rfl rfl rfl (ss (ss s0)) ko41 um87 zr3) rfl (by rintro _ _ _ ⟨n11_7, rfl, rfl, rfl⟩ w hs; exact (hs.weakP (ss (ss s0))).to ⟨_, r0, ⟨_, r0, ⟨_, r0, ⟨_, r0, trivial⟩⟩⟩⟩ trivial) ?_
          rintro _ _ _ ⟨n11_7, rfl, rfl, rfl⟩
          refine hx_det rfl rfl rfl nofun (det_extract rfl rfl) rfl ?_
          refine hx_end ?_
          refine wl_act0 (act_entryStore (v := (w64 ((mget s24.1 r11_2 (0 : Int)) + (ix r1_4.1 s24.2).Amount))) rfl rfl rfl rfl (ss (ss s0))) rfl rfl ?_
          rintro _ _ _ ⟨rfl, rfl⟩
          refine wl_nil ?_
          refine pn_block ?_
          refine pn_then ?_
          refine wc_region ?_   -- region 12
          refine wl_det rfl rfl (det_add rfl rfl) rfl ?_
          refine wl_det rfl rfl (det_move rfl) rfl ?_
          refine wl_nil ?_
          replace h := Option.some.inj h
          subst h
          exact pn_some (k24, ((mset s24.1 r11_2 (w64 ((mget s24.1 r11_2 (0 : Int)) + (ix r1_4.1 s24.2).Amount))), (w64 (s24.2 + 1))), ()) ⟨nextL g24, Nat.lt_succ_self _⟩ ⟨rfl, rfl, rfl, rfl, rfl, trivial⟩ (fun _ h => h.to ⟨_, (rs r0), ⟨_, (rs r0), ⟨_, (rs r0), trivial⟩⟩⟩ trivial)
        · have h := ifF h cd28
          refine wc_exit ?_
          refine px_then ?_
          refine px_then ?_
          refine px_block ?_
          replace h := Option.some.inj h
          subst h
          replace g24 := nextR g24
          subst g24
          exact pn_meetG (s24.1, ()) rfl ⟨rfl, rfl, trivial⟩ (fun _ h => h.to ⟨_, r0, ⟨_, r0, trivial⟩⟩ trivial)
      rintro ⟨s20, _⟩ e20
      dsimp only at e20 ⊢
      subst e20
      have h := ho20
      obtain ⟨q36, h, ho36⟩ := bind_some h
      refine wc_meetG (G := (List (GEntry × Int)) × Unit) (fun (s36, _) => s36 = q36) (fun (_, _) => [(9, .map (some b7_0))]) (fun (s36, _) => [eM encKGEntry encKI b7_0 s36]) (fun (_, _) => []) ?_ ?_
      · refine wc_seq ?_
        refine wc_region ?_   -- region 13
        refine wl_det rfl rfl (det_move rfl) rfl ?_
        refine wl_det rfl rfl (det_len rfl un37) rfl ?_
        refine wl_det rfl rfl (det_move rfl) rfl ?_
        refine wl_nil ?_
        refine pn_then ?_
        refine wc_block ?_
        obtain ⟨k40, hk40⟩ := loopV_some.1 h
        refine wc_loop (G := Nat × ((List (GEntry × Int)) × Int) × Unit) (fun g => IterN (account_Differences_l40 r4_4) g.1 g.2.1 q36) (fun g => g.1) (fun (_, s40, _) => [(9, .map (some b7_0)), (56, .slice y4_4A0 r4_4.1.length y4_4c0), (57, .int .i64 (r4_4.1.length : Int)), (58, .int .i64 s40.2)]) (fun (_, s40, _) => [eM encKGEntry encKI b7_0 s40.1, eS lGEntry 41 y4_4A0 r4_4.1.length y4_4c0 r4_4.1]) (fun (_, _, _) => []) (k40, (s20, 0), ()) hk40 ⟨rfl, rfl, rfl, rfl, trivial⟩ (fun _ h => h.to ⟨_, (rs r0), ⟨_, r0, trivial⟩⟩ trivial) ?_
        rintro ⟨k40, s40, _⟩ hI
        obtain ⟨k40, rfl, q40, h, g40⟩ := IterN.pos hI
        dsimp only at h ⊢
        unfold account_Differences_l40 at h
        refine wc_seq ?_
        refine wc_region ?_   -- region 14
        refine wl_det rfl rfl (det_lss rfl rfl) rfl ?_
        refine wl_nil ?_
        refine pn_then ?_
        refine wc_seq ?_
        refine wc_cond rfl (fun cd44 => ?_) (fun cd44 => ?_)
        · have h := ifT h cd44
          refine wc_skip ?_
          refine pn_then ?_
          refine wc_seq ?_
          refine wc_block ?_
          refine wc_seq ?_
          refine wc_region ?_   -- region 15
          obtain ⟨k15_0, h⟩ := chk_some h
          refine wl_det rfl rfl (det_indexO rfl rfl (ms m0) k15_0 un37 sz41) rfl ?_
          refine wl_det rfl rfl (det_loadO (off := 0) rfl (ms m0) k15_0 (by rfl) (by rfl) (loaded_n (cells := [_, _, _, _, _]) ag41 sz41)) rfl ?_
          refine wl_act (act_alloc (cs := [_, _, _, _, _]) zr41 rfl) rfl rfl rfl ?_
          rintro _ _ _ ⟨b15_2, rfl, rfl, rfl⟩
          refine wl_act0 (act_store (cells := [_, _, _, _, _]) (cs' := [_, _, _, _, _]) rfl rfl rfl s0 (by rfl) (of_decide_eq_true rfl) sz41 ⟨rfl, rfl, rfl, rfl, rfl, trivial⟩) rfl rfl ?_
          rintro _ _ _ ⟨rfl, rfl⟩
          refine wl_nil ?_
          refine pn_then ?_
          refine dx_regionZ (Z := St C [_, _, _] []) 9 [[], [], [1], [0, 1, 2], [], [4], [0, 1, 2, 3, 4, 5], [0, 1, 2, 4, 5], [0, 1, 2, 4, 5, 7], [0, 1, 2, 3, 4, 5, 6, 7, 8]] mixed (ord := (.det 0 (.det 1 (.det 4 (.det 5 (.alt 2 (.det 3 (.det 6 (.alt 7 (.det 8 .done) .dead))) .dead)))))) (by kernel_rfl) (fun _ h => (h.weakM (0 : Int) (ss s0)).to ⟨_, r0, ⟨_, r0, ⟨_, r0, trivial⟩⟩⟩ trivial) ?_   -- region 16
          refine hx_det rfl rfl rfl nofun (det_move rfl) rfl ?_
          refine hx_det rfl rfl rfl nofun (det_loadN (cells := [_, _, _, _, _]) rfl m0 (by rfl) ag41 sz41) rfl ?_
          refine hx_det rfl rfl rfl nofun (det_field rfl fd41_4 rfl) rfl ?_
          refine hx_det rfl rfl rfl nofun (det_load rfl m0 (by rfl) na3 us3) rfl ?_
          obtain ⟨r16_2, hr16_2, h⟩ := bind_some h
          refine hx_mut rfl rfl rfl (act_callS (cap := []) (W_account_heading (ix r4_4.1 s40.2) r16_2 hr16_2) rfl rfl rfl bd60 rfl trivial) rfl (by rintro _ _ _ ⟨_, _, ⟨rfl, rfl, rfl⟩, rfl, rfl⟩ w hs; exact (hs.weakM (0 : Int) (ss s0)).to ⟨_, r0, ⟨_, r0, ⟨_, r0, trivial⟩⟩⟩ trivial) ?_
          rintro _ _ _ ⟨_, _, ⟨rfl, rfl, rfl⟩, rfl, rfl⟩
          dsimp only [List.nil_append, List.cons_append]
          refine hx_det rfl rfl rfl nofun (det_lookupW (k := r16_2) (z := (0 : Int)) (vr := .int .i64 (mget s40.1 r16_2 (0 : Int))) rfl rfl rfl (ms m0) ko41 um87 zr3 rfl) rfl ?_
          refine hx_det rfl rfl rfl nofun (det_sub rfl rfl) rfl ?_
          refine hx_mut rfl rfl rfl (act_mapEntry (k := r16_2) (z := (0 : Int)) rfl rfl rfl (ss s0) ko41 um87 zr3) rfl (by rintro _ _ _ ⟨n16_7, rfl, rfl, rfl⟩ w hs; exact (hs.weakP (ss s0)).to ⟨_, r0, ⟨_, r0, ⟨_, r0, trivial⟩⟩⟩ trivial) ?_
          rintro _ _ _ ⟨n16_7, rfl, rfl, rfl⟩
          refine hx_det rfl rfl rfl nofun (det_extract rfl rfl) rfl ?_
          refine hx_end ?_
          refine wl_act0 (act_entryStore (v := (w64 ((mget s40.1 r16_2 (0 : Int)) - (ix r4_4.1 s40.2).Amount))) rfl rfl rfl rfl (ss s0)) rfl rfl ?_
          rintro _ _ _ ⟨rfl, rfl⟩
          refine wl_nil ?_
          refine pn_block ?_
          refine pn_then ?_
          refine wc_region ?_   -- region 17
          refine wl_det rfl rfl (det_add rfl rfl) rfl ?_
          refine wl_det rfl rfl (det_move rfl) rfl ?_
          refine wl_nil ?_
          replace h := Option.some.inj h
          subst h
          exact pn_some (k40, ((mset s40.1 r16_2 (w64 ((mget s40.1 r16_2 (0 : Int)) - (ix r4_4.1 s40.2).Amount))), (w64 (s40.2 + 1))), ()) ⟨nextL g40, Nat.lt_succ_self _⟩ ⟨rfl, rfl, rfl, rfl, trivial⟩ (fun _ h => h.to ⟨_, (rs r0), ⟨_, (rs r0), trivial⟩⟩ trivial)
        · have h := ifF h cd44
          refine wc_exit ?_
          refine px_then ?_
          refine px_then ?_
          refine px_block ?_
          replace h := Option.some.inj h
          subst h
          replace g40 := nextR g40
          subst g40
          exact pn_meetG (s40.1, ()) rfl ⟨rfl, trivial⟩ (fun _ h => h.to ⟨_, r0, trivial⟩ trivial)
      rintro ⟨s36, _⟩ e36
      dsimp only at e36 ⊢
      subst e36
      have h := ho36
      refine wc_seq ?_
      refine wc_region ?_   -- region 18
      refine wl_det rfl rfl (det_move rfl) rfl ?_
      refine wl_det rfl rfl (det_lenM rfl m0 um87) rfl ?_
      obtain ⟨k18_2, h⟩ := chk_some h
      obtain ⟨k18_2a, h⟩ := chk_some h
      refine wl_act (act_makeS (L := lGEntry) (x0 := (GEntry.mk 0 0 0 0 0)) rfl rfl un37 in41 (by refine ⟨rfl, fun _ _ => ?_⟩; first | exact rfl | exact ⟨_, _, _, rfl, rfl, Nat.zero_le _, .inl rfl⟩) rfl rfl rfl k18_2 k18_2a) rfl rfl rfl ?_
      rintro _ _ _ ⟨A18_2, c18_2, rfl, rfl, rfl⟩
      refine wl_det rfl rfl (det_assign rfl) rfl ?_
      refine wl_nil ?_
      refine pn_then ?_
      refine wc_seq ?_
      refine wc_seq ?_
      refine wc_region ?_   -- region 19
      refine wl_det rfl rfl (det_move rfl) rfl ?_
      refine wl_st (fun _ h => h.shutM (rs r0)) ?_
      refine wl_act (act_range rfl m0 um87) rfl rfl rfl ?_
      rintro _ _ _ ⟨b19_1, rfl, rfl, rfl⟩
      refine wl_nil ?_
      refine pn_then ?_
      refine wc_block ?_
      have hR58 := rangeP_some.1 h
      refine wc_range (G := Option Addr × Nat × Nat × Option (GEntry × Int) × Unit) (fun (_, _, A58_0, n58_0, c58_0, _, _) => [(14, .slice A58_0 n58_0 c58_0), (76, .pointer (some ⟨b19_1, 0, none⟩))]) (fun (lf58, s58, A58_0, n58_0, c58_0, cu58_3, _) => [eS lGEntry 41 A58_0 n58_0 c58_0 s58, eIt encKGEntry encKI b19_1 cu58_3 lf58]) (fun (_, _, _, _, _, _, _) => []) (s36, (List.replicate (0 : Int).toNat (GEntry.mk 0 0 0 0 0)), A18_2, (List.replicate (0 : Int).toNat (GEntry.mk 0 0 0 0 0)).length, c18_2, none, ()) hR58 ⟨rfl, rfl, trivial⟩ (fun _ h => h.to ⟨_, (rs r0), ⟨_, r0, trivial⟩⟩ trivial) ?_
      rintro ⟨lf58, s58, A58_0, n58_0, c58_0, cu58_3, _⟩ hI58
      dsimp only at hI58 ⊢
      rcases Classical.em (lf58 = []) with hl58 | hl58
      · subst hl58
        have h := elimL hI58.nil
        refine wc_know (fun _ h => h.lenO m0) (fun e => ?_)
        subst e
        refine wc_seq ?_
        refine wc_region ?_   -- region 20
        refine wl_act (act_next0 rfl (ms m0)) rfl rfl rfl ?_
        rintro _ _ _ ⟨rfl, rfl, rfl⟩
        refine wl_det rfl rfl (det_extract rfl rfl) rfl ?_
        refine wl_nil ?_
        refine pn_then ?_
        refine wc_seq ?_
        refine wc_condF rfl ?_
        refine wc_exit ?_
        refine px_then ?_
        refine px_then ?_
        refine px_block ?_
        refine pn_then ?_
        refine wc_seq ?_
        refine wc_region ?_   -- region 27
        refine wl_det rfl rfl (det_move rfl) rfl ?_
        obtain ⟨r27_1, hr27_1, h⟩ := bind_some h
        refine wl_act (act_callS (cap := []) (W_slices_SortFunc_s_api_Entry_api_Entry_o_account_compare s58 A58_0 s58.length c58_0 r27_1 hr27_1) rfl rfl rfl bd54 ⟨_, r0, rfl⟩ trivial) rfl rfl rfl ?_
        rintro _ _ _ ⟨_, _, ⟨rfl, rfl, rfl⟩, rfl, rfl⟩
        dsimp only [List.nil_append, List.cons_append]
        refine wl_nil ?_
        refine pn_then ?_
        refine wc_seq ?_
        refine wc_region ?_   -- region 28
        refine wl_det rfl rfl (det_move rfl) rfl ?_
        refine wl_det rfl rfl (det_assign rfl) rfl ?_
        refine wl_det rfl rfl (det_assign rfl) rfl ?_
        refine wl_nil ?_
        refine pn_then ?_
        refine wc_ret ?_
        replace h := Option.some.inj h
        subst h
        refine pn_ret (vs := [_, _]) rfl ⟨rfl, rfl, trivial⟩ ⟨A58_0, s58.length, c58_0, rfl, rfl, rfl⟩ (fun _ h => h.to ⟨_, r0, trivial⟩ trivial)
      · refine wc_know (fun _ h => h.lenO m0) (fun e => ?_)
        subst e
        refine wc_seq ?_
        refine wc_region ?_   -- region 20
        refine wl_act (act_next1 rfl (ss s0) hl58) rfl rfl rfl ?_
        rintro _ _ _ ⟨p58, lg58, hp58, rfl, rfl, rfl⟩
        obtain ⟨q58, h, hN58⟩ := hI58.cons hp58
        unfold account_Differences_l58 at h
        refine wl_det rfl rfl (det_extract rfl rfl) rfl ?_
        refine wl_nil ?_
        refine pn_then ?_
        refine wc_seq ?_
        refine wc_condT rfl ?_
        refine wc_skip ?_
        refine pn_then ?_
        refine wc_block ?_
        refine wc_seq ?_
        refine wc_region ?_   -- region 21
        refine wl_det rfl rfl (det_entry (vk := .agg #[.int .i64 p58.1.Kind, .int .i64 p58.1.Treaty, .int .i64 p58.1.Party, .int .i64 p58.1.Loss, .int .i64 p58.1.Amount]) (vv := .int .i64 p58.2) rfl (ms m0) rfl rfl) rfl ?_
        refine wl_det rfl rfl (det_extract rfl rfl) rfl ?_
        refine wl_det rfl rfl (det_extract rfl rfl) rfl ?_
        refine wl_act (act_alloc (cs := [_, _, _, _, _]) zr41 rfl) rfl rfl rfl ?_
        rintro _ _ _ ⟨b21_3, rfl, rfl, rfl⟩
        refine wl_act0 (act_store (cells := [_, _, _, _, _]) (cs' := [_, _, _, _, _]) rfl rfl rfl s0 (by rfl) (of_decide_eq_true rfl) sz41 ⟨rfl, rfl, rfl, rfl, rfl, trivial⟩) rfl rfl ?_
        rintro _ _ _ ⟨rfl, rfl⟩
        refine wl_det rfl rfl (det_assign rfl) rfl ?_
        refine wl_nil ?_
        refine pn_then ?_
        refine wc_seq ?_
        refine wc_seq ?_
        refine wc_region ?_   -- region 22
        refine wl_det rfl rfl (det_move rfl) rfl ?_
        obtain ⟨r22_1, hr22_1, h⟩ := bind_some h
        refine wl_act (act_callS (cap := []) (W_amount_Valid p58.2 r22_1 hr22_1) rfl rfl rfl bd51 rfl trivial) rfl rfl rfl ?_
        rintro _ _ _ ⟨_, _, ⟨rfl, rfl, rfl⟩, rfl, rfl⟩
        dsimp only [List.nil_append, List.cons_append]
        refine wl_det rfl rfl (det_not rfl) rfl ?_
        refine wl_nil ?_
        refine pn_then ?_
        refine wc_cond rfl (fun cd70 => ?_) (fun cd70 => ?_)
        · have h := ifT h cd70
          refine wc_seq ?_
          refine wc_region ?_   -- region 23
          refine wl_det rfl rfl (det_assign rfl) rfl ?_
          refine wl_det rfl rfl (det_assign rfl) rfl ?_
          refine wl_nil ?_
          refine pn_then ?_
          refine wc_ret ?_
          refine pr_then ?_
          refine pr_block ?_
          refine pr_then ?_
          refine pr_block ?_
          refine pr_then ?_
          refine pn_st (fun _ h => h.zeroS lGEntry 41 none) ?_
          replace h := Option.some.inj h
          subst h
          have h := (elimR (rnextR hN58))
          replace h := Option.some.inj h
          subst h
          refine pn_ret (vs := [_, _]) rfl ⟨rfl, rfl, trivial⟩ ⟨none, 0, 0, rfl, rfl, rfl⟩ (fun _ h => h.to ⟨_, r0, trivial⟩ trivial)
        · have h := ifF h cd70
          refine wc_skip ?_
          refine pn_then ?_
          refine wc_seq ?_
          refine wc_region ?_   -- region 24
          refine wl_det rfl rfl (det_move rfl) rfl ?_
          refine wl_det rfl rfl (det_neq rfl rfl) rfl ?_
          refine wl_nil ?_
          refine pn_then ?_
          refine wc_cond rfl (fun cd75 => ?_) (fun cd75 => ?_)
          · have h := ifT h cd75
            refine wc_seq ?_
            refine wc_region ?_   -- region 25
            refine wl_det rfl rfl (det_move rfl) rfl ?_
            refine wl_det rfl rfl (det_field rfl fd41_4 rfl) rfl ?_
            refine wl_act0 (act_store (cells := [_]) (cs' := [_, _, _, _, _]) rfl rfl rfl s0 (by rfl) (of_decide_eq_true rfl) sz3 ⟨rfl, trivial⟩) rfl rfl ?_
            rintro _ _ _ ⟨rfl, rfl⟩
            refine wl_nil ?_
            refine pn_then ?_
            refine wc_region ?_   -- region 26
            refine wl_det rfl rfl (det_move rfl) rfl ?_
            refine wl_det rfl rfl (det_loadN (cells := [_, _, _, _, _]) rfl m0 (by rfl) ag41 sz41) rfl ?_
            refine wl_act (act_litS lGEntry (vs := [_]) (cs := [_, _, _, _, _]) [(GEntry.mk p58.1.Kind p58.1.Treaty p58.1.Party p58.1.Loss p58.2)] un37 in41 rfl rfl rfl rfl rfl ⟨rfl, trivial⟩ (by rfl) rfl (litR_flat rfl)) rfl rfl rfl ?_
            rintro _ _ _ ⟨A26_2, rfl, rfl, rfl⟩
            obtain ⟨k26_3, h⟩ := chk_some h
            refine wl_act (act_appendS (L := lGEntry) rfl rfl (ss (ss s0)) (src_O m0) un37 in41 rfl rfl rfl k26_3) rfl rfl rfl ?_
            rintro _ _ _ ⟨A26_3, c26_3, rfl, rfl, rfl⟩
            refine wl_det rfl rfl (det_assign rfl) rfl ?_
            refine wl_nil ?_
            refine pn_block ?_
            replace h := Option.some.inj h
            subst h
            exact pn_some (lg58, (s58 ++ [(GEntry.mk p58.1.Kind p58.1.Treaty p58.1.Party p58.1.Loss p58.2)]), A26_3, (s58 ++ [(GEntry.mk p58.1.Kind p58.1.Treaty p58.1.Party p58.1.Loss p58.2)]).length, c26_3, (some p58), ()) ⟨rnextL hN58, perm_lt hp58⟩ ⟨rfl, rfl, trivial⟩ (fun _ h => h.to ⟨_, (rs (rs r0)), ⟨_, (rs (rs r0)), trivial⟩⟩ trivial)
          · have h := ifF h cd75
            refine wc_skip ?_
            refine pn_block ?_
            replace h := Option.some.inj h
            subst h
            exact pn_some (lg58, s58, A58_0, s58.length, c58_0, (some p58), ()) ⟨rnextL hN58, perm_lt hp58⟩ ⟨rfl, rfl, trivial⟩ (fun _ h => h.to ⟨_, (rs r0), ⟨_, (rs r0), trivial⟩⟩ trivial)
def Q_treatyref33_Totals (r : (List GEntry) × Int) : Value → List Ent → List Fact → Prop := fun v θ κ => ∃ (pA0 : Option Addr), ∃ (pn0 : Nat), ∃ (pc0 : Nat), v = .tuple #[.slice pA0 pn0 pc0, .int .i64 r.2] ∧ θ = [eS lGEntry 41 pA0 pn0 pc0 r.1] ∧ κ = []
theorem plains_treatyref33_Totals {r : (List GEntry) × Int} : ∀ v θ κ, Q_treatyref33_Totals r v θ κ → Plains θ := by
  rintro _ _ _ ⟨_, _, _, rfl, rfl, rfl⟩
  exact ⟨plain_eS, trivial⟩
set_option maxHeartbeats 4000000 in
set_option maxRecDepth 100000 in
theorem W_treatyref33_Totals (a0 : GLedger) (a1 : Int) (A0 : Option Addr) (n0 : Nat) (c0 : Nat) (r : (List GEntry) × Int) (h : treatyref33_Totals a0 a1 = some r) : Spec Try.prog 29 [.agg #[.int .i64 a0.Closed, .slice A0 n0 c0], .int .i64 a1] [] [fV (lSlice lGPosting) (.slice A0 n0 c0) a0.Postings] (Q_treatyref33_Totals r) := by
  unfold treatyref33_Totals at h
  refine spec_of (σ := [(0, _), (1, _)]) Try.func29 rfl rfl rfl rfl ?_
  intro C
  refine wc_know (fun _ h => h.lenF m0) (fun e => ?_)
  subst e
  refine wc_seq ?_
  refine wc_region ?_   -- region 0
  refine wl_act (act_box (cs := [_, _]) rfl rfl) rfl rfl rfl ?_
  rintro _ _ _ ⟨b0_0, rfl, rfl, rfl⟩
  refine wl_det rfl rfl (det_assign rfl) rfl ?_
  refine wl_det rfl rfl (det_assign rfl) rfl ?_
  refine wl_nil ?_
  refine pn_then ?_
  refine wc_seq ?_
  refine wc_seq ?_
  refine wc_region ?_   -- region 1
  refine wl_det rfl rfl (det_loadN (cells := [_, _]) rfl m0 (by rfl) ag25 sz25) rfl ?_
  obtain ⟨r1_1, hr1_1, h⟩ := bind_some h
  refine wl_act (act_callS (cap := []) (W_treatyref33_Validate a0 A0 a0.Postings.length c0 r1_1 hr1_1) rfl rfl rfl bd22 rfl ⟨m0, trivial⟩) rfl rfl rfl ?_
  rintro _ _ _ ⟨_, _, ⟨rfl, rfl, rfl⟩, rfl, rfl⟩
  dsimp only [List.nil_append, List.cons_append]
  refine wl_det rfl rfl (det_assign rfl) rfl ?_
  refine wl_nil ?_
  refine pn_then ?_
  refine wc_seq ?_
  refine wc_region ?_   -- region 2
  refine wl_det rfl rfl (det_move rfl) rfl ?_
  refine wl_det rfl rfl (det_neq rfl rfl) rfl ?_
  refine wl_nil ?_
  refine pn_then ?_
  refine wc_cond rfl (fun cd7 => ?_) (fun cd7 => ?_)
  · have h := ifT h cd7
    refine wc_seq ?_
    refine wc_region ?_   -- region 3
    refine wl_det rfl rfl (det_move rfl) rfl ?_
    refine wl_det rfl rfl (det_assign rfl) rfl ?_
    refine wl_det rfl rfl (det_assign rfl) rfl ?_
    refine wl_nil ?_
    refine pn_then ?_
    refine wc_ret ?_
    refine pr_then ?_
    refine pn_st (fun _ h => h.zeroS lGEntry 41 none) ?_
    replace h := Option.some.inj h
    subst h
    refine pn_ret (vs := [_, _]) rfl ⟨rfl, rfl, trivial⟩ ⟨none, 0, 0, rfl, rfl, rfl⟩ (fun _ h => h.to ⟨_, r0, trivial⟩ trivial)
  · have h := ifF h cd7
    refine wc_skip ?_
    refine pn_then ?_
    refine wc_seq ?_
    refine wc_seq ?_
    refine wc_region ?_   -- region 4
    refine wl_det rfl rfl (det_move rfl) rfl ?_
    refine wl_det rfl rfl (det_lss rfl rfl) rfl ?_
    refine wl_det rfl rfl (det_move rfl) rfl ?_
    refine wl_way (decide (a1 < 0)) ((decide (a1 < 0)) || (decide ((w64 (a0.Closed + 1)) < a1))) 6 23 (fun hg => ?_) (fun hg => ?_) ?_
    · have hg4_8 := hg
      refine wl_off rfl rfl rfl rfl rfl hg4_8 rfl ?_
      refine wl_off rfl rfl rfl rfl rfl hg4_8 rfl ?_
      refine wl_off rfl rfl rfl rfl rfl hg4_8 rfl ?_
      refine wl_off rfl rfl rfl rfl rfl hg4_8 rfl ?_
      refine wl_off rfl rfl rfl rfl rfl hg4_8 rfl ?_
      refine wl_det rfl rfl (det_or_on (r := (decide ((w64 (a0.Closed + 1)) < a1))) rfl rfl rfl hg4_8) rfl ?_
      exact wl_nil (pn_qnE (ext_cons rfl (ext_skip rfl (ext_skip rfl (ext_skip rfl (ext_skip rfl (ext_skip rfl (ext_skip rfl ext_refl))))))) (fun _ h => h))
    · have hg4_8a := hg
      refine wl_on rfl rfl rfl rfl hg4_8a ?_
      refine wl_det rfl rfl (det_move rfl) rfl ?_
      refine wl_on rfl rfl rfl rfl hg4_8a ?_
      refine wl_det rfl rfl (det_field rfl fd25_0 rfl) rfl ?_
      refine wl_on rfl rfl rfl rfl hg4_8a ?_
      refine wl_det rfl rfl (det_load rfl m0 (by rfl) na3 us3) rfl ?_
      refine wl_on rfl rfl rfl rfl hg4_8a ?_
      refine wl_det rfl rfl (det_add rfl rfl) rfl ?_
      refine wl_on rfl rfl rfl rfl hg4_8a ?_
      refine wl_det rfl rfl (det_gtr rfl rfl) rfl ?_
      refine wl_det rfl rfl (det_or_off rfl rfl rfl hg4_8a) rfl ?_
      exact wl_nil (pn_qnE (ext_cons rfl (ext_skip rfl (ext_skip rfl (ext_skip rfl (ext_skip rfl (ext_skip rfl (ext_skip rfl ext_refl))))))) (fun _ h => h))
    refine wl_nil ?_
    refine pn_then ?_
    refine wc_cond rfl (fun cd13 => ?_) (fun cd13 => ?_)
    · have h := ifT h cd13
      refine wc_seq ?_
      refine wc_region ?_   -- region 5
      refine wl_det rfl rfl (det_assign rfl) rfl ?_
      refine wl_det rfl rfl (det_assign rfl) rfl ?_
      refine wl_nil ?_
      refine pn_then ?_
      refine wc_ret ?_
      refine pr_then ?_
      refine pn_st (fun _ h => h.zeroS lGEntry 41 none) ?_
      replace h := Option.some.inj h
      subst h
      refine pn_ret (vs := [_, _]) rfl ⟨rfl, rfl, trivial⟩ ⟨none, 0, 0, rfl, rfl, rfl⟩ (fun _ h => h.to ⟨_, r0, trivial⟩ trivial)
    · have h := ifF h cd13
      refine wc_skip ?_
      refine pn_then ?_
      refine wc_seq ?_
      refine wc_region ?_   -- region 6
      refine wl_det rfl rfl (det_assign rfl) rfl ?_
      refine wl_nil ?_
      refine pn_then ?_
      obtain ⟨q18, h, ho18⟩ := bind_some h
      refine wc_meetG (G := (List GEntry) × Option Addr × Nat × Nat × Unit) (fun (s18, _, _, _, _) => s18 = q18) (fun (_, A18_0, n18_0, c18_0, _) => [(7, .slice A18_0 n18_0 c18_0)]) (fun (s18, A18_0, n18_0, c18_0, _) => [eS lGEntry 41 A18_0 n18_0 c18_0 s18]) (fun (_, _, _, _, _) => []) ?_ ?_
      · refine wc_seq ?_
        refine wc_region ?_   -- region 7
        refine wl_det rfl rfl (det_field rfl fd25_1 rfl) rfl ?_
        refine wl_det rfl rfl (det_load rfl m0 (by rfl) na23 us23) rfl ?_
        refine wl_det rfl rfl (det_len rfl un23) rfl ?_
        refine wl_det rfl rfl (det_move rfl) rfl ?_
        refine wl_nil ?_
        refine pn_then ?_
        refine wc_block ?_
        refine wc_st (fun _ h => h.zeroS lGEntry 41 none) ?_
        obtain ⟨k22, hk22⟩ := loopV_some.1 h
        refine wc_loop (G := Nat × ((List GEntry) × Int) × Option Addr × Nat × Nat × Unit) (fun g => IterN (treatyref33_Totals_l22 a0 a1) g.1 g.2.1 q18) (fun g => g.1) (fun (_, s22, A22_0, n22_0, c22_0, _) => [(1, .int .i64 a1), (7, .slice A22_0 n22_0 c22_0), (25, .slice A0 a0.Postings.length c0), (26, .int .i64 (a0.Postings.length : Int)), (27, .int .i64 s22.2)]) (fun (_, s22, A22_0, n22_0, c22_0, _) => [eS lGEntry 41 A22_0 n22_0 c22_0 s22.1]) (fun (_, _, _, _, _, _) => [fV (lSlice lGPosting) (.slice A0 a0.Postings.length c0) a0.Postings]) (k22, ([], 0), none, 0, 0, ()) hk22 ⟨rfl, rfl, rfl, rfl, rfl, trivial⟩ (fun _ h => h.to ⟨_, r0, trivial⟩ ⟨m0, trivial⟩) ?_
        rintro ⟨k22, s22, A22_0, n22_0, c22_0, _⟩ hI
        obtain ⟨k22, rfl, q22, h, g22⟩ := IterN.pos hI
        dsimp only at h ⊢
        unfold treatyref33_Totals_l22 at h
        refine wc_know (fun _ h => h.lenO m0) (fun e => ?_)
        subst e
        refine wc_seq ?_
        refine wc_region ?_   -- region 8
        refine wl_det rfl rfl (det_lss rfl rfl) rfl ?_
        refine wl_nil ?_
        refine pn_then ?_
        refine wc_seq ?_
        refine wc_cond rfl (fun cd26 => ?_) (fun cd26 => ?_)
        · have h := ifT h cd26
          refine wc_skip ?_
          refine pn_then ?_
          obtain ⟨q28, h, ho28⟩ := bind_some h
          refine wc_meetG (G := (List GEntry) × Option Addr × Nat × Nat × Unit) (fun (s28, _, _, _, _) => s28 = q28) (fun (_, A28_0, n28_0, c28_0, _) => [(1, .int .i64 a1), (7, .slice A28_0 n28_0 c28_0), (25, .slice A0 a0.Postings.length c0), (26, .int .i64 (a0.Postings.length : Int)), (27, .int .i64 s22.2)]) (fun (s28, A28_0, n28_0, c28_0, _) => [eS lGEntry 41 A28_0 n28_0 c28_0 s28]) (fun (_, _, _, _, _) => [fV (lSlice lGPosting) (.slice A0 a0.Postings.length c0) a0.Postings]) ?_ ?_
          · refine wc_block ?_
            refine wc_seq ?_
            refine wc_region ?_   -- region 9
            obtain ⟨k9_0, h⟩ := chk_some h
            refine wl_st (fun _ h => h.openF m0 k9_0) ?_
            refine wl_det rfl rfl (det_indexP rfl rfl (ms m0) k9_0 m0 un23 sz73) rfl ?_
            refine wl_det rfl rfl (det_loadP (off := 0) rfl m0 (by rfl) (by rfl) (loaded_n (cells := [_, _, _, _, _, _, _]) ag73 sz73)) rfl ?_
            refine wl_act (act_alloc (cs := [_, _, _, _, _, _, _]) zr73 rfl) rfl rfl rfl ?_
            rintro _ _ _ ⟨b9_2, rfl, rfl, rfl⟩
            refine wl_act0 (act_store (cells := [_, _, _, _, _, _, _]) (cs' := [_, _, _, _, _, _, _]) rfl rfl rfl s0 (by rfl) (of_decide_eq_true rfl) sz73 ⟨rfl, rfl, rfl, rfl, rfl, rfl, rfl, trivial⟩) rfl rfl ?_
            rintro _ _ _ ⟨rfl, rfl⟩
            refine wl_nil ?_
            refine pn_then ?_
            refine wc_seq ?_
            refine wc_region ?_   -- region 10
            refine wl_det rfl rfl (det_field rfl fd73_1 rfl) rfl ?_
            refine wl_det rfl rfl (det_load rfl m0 (by rfl) na3 us3) rfl ?_
            refine wl_det rfl rfl (det_move rfl) rfl ?_
            refine wl_det rfl rfl (det_lss rfl rfl) rfl ?_
            refine wl_nil ?_
            refine pn_then ?_
            refine wc_cond rfl (fun cd34 => ?_) (fun cd34 => ?_)
            · have h := ifT h cd34
              refine wc_region ?_   -- region 11
              refine wl_det rfl rfl (det_move rfl) rfl ?_
              refine wl_det rfl rfl (det_field rfl fd73_2 rfl) rfl ?_
              refine wl_det rfl rfl (det_loadN (cells := [_, _, _, _, _]) rfl m0 (by rfl) ag41 sz41) rfl ?_
              refine wl_act (act_litS lGEntry (vs := [_]) (cs := [_, _, _, _, _]) [(ix a0.Postings s22.2).Entry] un37 in41 rfl rfl rfl rfl rfl ⟨rfl, trivial⟩ (by rfl) rfl (litR_flat rfl)) rfl rfl rfl ?_
              rintro _ _ _ ⟨A11_3, rfl, rfl, rfl⟩
              obtain ⟨k11_4, h⟩ := chk_some h
              refine wl_act (act_appendS (L := lGEntry) rfl rfl (ss (ss s0)) (src_O m0) un37 in41 rfl rfl rfl k11_4) rfl rfl rfl ?_
              rintro _ _ _ ⟨A11_4, c11_4, rfl, rfl, rfl⟩
              refine wl_det rfl rfl (det_assign rfl) rfl ?_
              refine wl_nil ?_
              refine pn_block ?_
              replace h := Option.some.inj h
              subst h
              exact pn_meetG ((s22.1 ++ [(ix a0.Postings s22.2).Entry]), A11_4, (s22.1 ++ [(ix a0.Postings s22.2).Entry]).length, c11_4, ()) rfl ⟨rfl, rfl, rfl, rfl, rfl, trivial⟩ (fun _ h => h.to ⟨_, (rs (rs r0)), trivial⟩ ⟨(ms m0), trivial⟩)
            · have h := ifF h cd34
              refine wc_skip ?_
              refine pn_block ?_
              replace h := Option.some.inj h
              subst h
              exact pn_meetG (s22.1, A22_0, s22.1.length, c22_0, ()) rfl ⟨rfl, rfl, rfl, rfl, rfl, trivial⟩ (fun _ h => h.to ⟨_, (rs r0), trivial⟩ ⟨(ms m0), trivial⟩)
          rintro ⟨s28, A28_0, n28_0, c28_0, _⟩ e28
          dsimp only at e28 ⊢
          subst e28
          have h := ho28
          refine wc_know (fun _ h => h.lenO m0) (fun e => ?_)
          subst e
          refine wc_region ?_   -- region 12
          refine wl_det rfl rfl (det_add rfl rfl) rfl ?_
          refine wl_det rfl rfl (det_move rfl) rfl ?_
          refine wl_nil ?_
          replace h := Option.some.inj h
          subst h
          exact pn_some (k22, (s28, (w64 (s22.2 + 1))), A28_0, s28.length, c28_0, ()) ⟨nextL g22, Nat.lt_succ_self _⟩ ⟨rfl, rfl, rfl, rfl, rfl, trivial⟩ (fun _ h => h.to ⟨_, r0, trivial⟩ ⟨m0, trivial⟩)
        · have h := ifF h cd26
          refine wc_exit ?_
          refine px_then ?_
          refine px_then ?_
          refine px_block ?_
          replace h := Option.some.inj h
          subst h
          replace g22 := nextR g22
          subst g22
          exact pn_meetG (s22.1, A22_0, s22.1.length, c22_0, ()) rfl ⟨rfl, trivial⟩ (fun _ h => h.to ⟨_, r0, trivial⟩ trivial)
      rintro ⟨s18, A18_0, n18_0, c18_0, _⟩ e18
      dsimp only at e18 ⊢
      subst e18
      have h := ho18
      refine wc_know (fun _ h => h.lenO m0) (fun e => ?_)
      subst e
      refine wc_seq ?_
      refine wc_region ?_   -- region 13
      refine wl_det rfl rfl (det_move rfl) rfl ?_
      obtain ⟨r13_1, hr13_1, h⟩ := bind_some h
      refine wl_act (act_callL (cap := []) [eS lGEntry 41 A18_0 s18.length c18_0 s18] (W_treatyref33_Collect s18 A18_0 s18.length c18_0 r13_1 hr13_1) plains_treatyref33_Collect rfl rfl rfl bd27 rfl ⟨m0, trivial⟩ ⟨.inr ⟨_, m0, lent_eS⟩, trivial⟩) rfl rfl rfl ?_
      rintro _ _ _ ⟨_, _, ⟨y13_1A0, y13_1n0, y13_1c0, rfl, rfl, rfl⟩, rfl, rfl⟩
      dsimp only [List.nil_append, List.cons_append]
      refine wl_know (fun _ h => h.lenO m0) (fun e => ?_)
      subst e
      refine wl_det rfl rfl (det_extract rfl rfl) rfl ?_
      refine wl_det rfl rfl (det_extract rfl rfl) rfl ?_
      refine wl_det rfl rfl (det_assign rfl) rfl ?_
      refine wl_det rfl rfl (det_assign rfl) rfl ?_
      refine wl_nil ?_
      refine pn_then ?_
      refine wc_ret ?_
      replace h := Option.some.inj h
      subst h
      refine pn_ret (vs := [_, _]) rfl ⟨rfl, rfl, trivial⟩ ⟨y13_1A0, r13_1.1.length, y13_1c0, rfl, rfl, rfl⟩ (fun _ h => h.to ⟨_, r0, trivial⟩ trivial)
def Q_treatyref33_Differences (r : (List GEntry) × Int) : Value → List Ent → List Fact → Prop := fun v θ κ => ∃ (pA0 : Option Addr), ∃ (pn0 : Nat), ∃ (pc0 : Nat), v = .tuple #[.slice pA0 pn0 pc0, .int .i64 r.2] ∧ θ = [eS lGEntry 41 pA0 pn0 pc0 r.1] ∧ κ = []
theorem plains_treatyref33_Differences {r : (List GEntry) × Int} : ∀ v θ κ, Q_treatyref33_Differences r v θ κ → Plains θ := by
  rintro _ _ _ ⟨_, _, _, rfl, rfl, rfl⟩
  exact ⟨plain_eS, trivial⟩
set_option maxHeartbeats 4000000 in
set_option maxRecDepth 100000 in
theorem W_treatyref33_Differences (a0 : GLedger) (a1 : GLedger) (A0 : Option Addr) (n0 : Nat) (c0 : Nat) (A3 : Option Addr) (n3 : Nat) (c3 : Nat) (r : (List GEntry) × Int) (h : treatyref33_Differences a0 a1 = some r) : Spec Try.prog 41 [.agg #[.int .i64 a0.Closed, .slice A0 n0 c0], .agg #[.int .i64 a1.Closed, .slice A3 n3 c3]] [] [fV (lSlice lGPosting) (.slice A0 n0 c0) a0.Postings, fV (lSlice lGPosting) (.slice A3 n3 c3) a1.Postings] (Q_treatyref33_Differences r) := by
  unfold treatyref33_Differences at h
  refine spec_of (σ := [(0, _), (1, _)]) Try.func41 rfl rfl rfl rfl ?_
  intro C
  refine wc_know (fun _ h => h.lenF m0) (fun e => ?_)
  subst e
  refine wc_know (fun _ h => h.lenF (ms m0)) (fun e => ?_)
  subst e
  refine wc_seq ?_
  refine wc_region ?_   -- region 0
  refine wl_act (act_box (cs := [_, _]) rfl rfl) rfl rfl rfl ?_
  rintro _ _ _ ⟨b0_0, rfl, rfl, rfl⟩
  refine wl_act (act_box (cs := [_, _]) rfl rfl) rfl rfl rfl ?_
  rintro _ _ _ ⟨b0_1, rfl, rfl, rfl⟩
  refine wl_det rfl rfl (det_assign rfl) rfl ?_
  refine wl_det rfl rfl (det_assign rfl) rfl ?_
  refine wl_nil ?_
  refine pn_then ?_
  refine wc_seq ?_
  refine wc_region ?_   -- region 1
  refine wl_det rfl rfl (det_loadN (cells := [_, _]) rfl (ms m0) (by rfl) ag25 sz25) rfl ?_
  refine wl_det rfl rfl (det_field rfl fd25_0 rfl) rfl ?_
  refine wl_det rfl rfl (det_load rfl (ms m0) (by rfl) na3 us3) rfl ?_
  refine wl_det rfl rfl (det_add rfl rfl) rfl ?_
  obtain ⟨r1_4, hr1_4, h⟩ := bind_some h
  refine wl_act (act_callS (cap := []) (W_treatyref33_Totals a0 (w64 (a0.Closed + 1)) A0 a0.Postings.length c0 r1_4 hr1_4) rfl rfl rfl bd29 rfl ⟨m0, trivial⟩) rfl rfl rfl ?_
  rintro _ _ _ ⟨_, _, ⟨y1_4A0, y1_4n0, y1_4c0, rfl, rfl, rfl⟩, rfl, rfl⟩
  dsimp only [List.nil_append, List.cons_append]
  refine wl_know (fun _ h => h.lenO m0) (fun e => ?_)
  subst e
  refine wl_det rfl rfl (det_move rfl) rfl ?_
  refine wl_det rfl rfl (det_extract rfl rfl) rfl ?_
  refine wl_det rfl rfl (det_extract rfl rfl) rfl ?_
  refine wl_det rfl rfl (det_assign rfl) rfl ?_
  refine wl_det rfl rfl (det_assign rfl) rfl ?_
  refine wl_nil ?_
  refine pn_then ?_
  refine wc_seq ?_
  refine wc_seq ?_
  refine wc_region ?_   -- region 2
  refine wl_det rfl rfl (det_move rfl) rfl ?_
  refine wl_det rfl rfl (det_neq rfl rfl) rfl ?_
  refine wl_nil ?_
  refine pn_then ?_
  refine wc_cond rfl (fun cd7 => ?_) (fun cd7 => ?_)
  · have h := ifT h cd7
    refine wc_seq ?_
    refine wc_region ?_   -- region 3
    refine wl_det rfl rfl (det_move rfl) rfl ?_
    refine wl_det rfl rfl (det_assign rfl) rfl ?_
    refine wl_det rfl rfl (det_assign rfl) rfl ?_
    refine wl_nil ?_
    refine pn_then ?_
    refine wc_ret ?_
    refine pr_then ?_
    refine pn_st (fun _ h => h.zeroS lGEntry 41 none) ?_
    replace h := Option.some.inj h
    subst h
    refine pn_ret (vs := [_, _]) rfl ⟨rfl, rfl, trivial⟩ ⟨none, 0, 0, rfl, rfl, rfl⟩ (fun _ h => h.to ⟨_, r0, trivial⟩ trivial)
  · have h := ifF h cd7
    refine wc_skip ?_
    refine pn_then ?_
    refine wc_seq ?_
    refine wc_region ?_   -- region 4
    refine wl_det rfl rfl (det_loadN (cells := [_, _]) rfl (ms m0) (by rfl) ag25 sz25) rfl ?_
    refine wl_det rfl rfl (det_field rfl fd25_0 rfl) rfl ?_
    refine wl_det rfl rfl (det_load rfl (ms m0) (by rfl) na3 us3) rfl ?_
    refine wl_det rfl rfl (det_add rfl rfl) rfl ?_
    obtain ⟨r4_4, hr4_4, h⟩ := bind_some h
    refine wl_act (act_callS (cap := []) (W_treatyref33_Totals a1 (w64 (a1.Closed + 1)) A3 a1.Postings.length c3 r4_4 hr4_4) rfl rfl rfl bd29 rfl ⟨(ms m0), trivial⟩) rfl rfl rfl ?_
    rintro _ _ _ ⟨_, _, ⟨y4_4A0, y4_4n0, y4_4c0, rfl, rfl, rfl⟩, rfl, rfl⟩
    dsimp only [List.nil_append, List.cons_append]
    refine wl_know (fun _ h => h.lenO m0) (fun e => ?_)
    subst e
    refine wl_det rfl rfl (det_move rfl) rfl ?_
    refine wl_det rfl rfl (det_extract rfl rfl) rfl ?_
    refine wl_det rfl rfl (det_extract rfl rfl) rfl ?_
    refine wl_det rfl rfl (det_assign rfl) rfl ?_
    refine wl_det rfl rfl (det_assign rfl) rfl ?_
    refine wl_nil ?_
    refine pn_then ?_
    refine wc_seq ?_
    refine wc_seq ?_
    refine wc_region ?_   -- region 5
    refine wl_det rfl rfl (det_move rfl) rfl ?_
    refine wl_det rfl rfl (det_neq rfl rfl) rfl ?_
    refine wl_nil ?_
    refine pn_then ?_
    refine wc_cond rfl (fun cd15 => ?_) (fun cd15 => ?_)
    · have h := ifT h cd15
      refine wc_seq ?_
      refine wc_region ?_   -- region 6
      refine wl_det rfl rfl (det_move rfl) rfl ?_
      refine wl_det rfl rfl (det_assign rfl) rfl ?_
      refine wl_det rfl rfl (det_assign rfl) rfl ?_
      refine wl_nil ?_
      refine pn_then ?_
      refine wc_ret ?_
      refine pr_then ?_
      refine pn_st (fun _ h => h.zeroS lGEntry 41 none) ?_
      replace h := Option.some.inj h
      subst h
      refine pn_ret (vs := [_, _]) rfl ⟨rfl, rfl, trivial⟩ ⟨none, 0, 0, rfl, rfl, rfl⟩ (fun _ h => h.to ⟨_, r0, trivial⟩ trivial)
    · have h := ifF h cd15
      refine wc_skip ?_
      refine pn_then ?_
      obtain ⟨q18, h, ho18⟩ := bind_some h
      refine wc_meetG (G := (List GEntry) × Option Addr × Nat × Nat × Unit) (fun (s18, _, _, _, _) => s18 = q18) (fun (_, A18_0, n18_0, c18_0, _) => [(6, .slice A18_0 n18_0 c18_0)]) (fun (s18, A18_0, n18_0, c18_0, _) => [eS lGEntry 41 A18_0 n18_0 c18_0 s18]) (fun (_, _, _, _, _) => []) ?_ ?_
      · refine wc_seq ?_
        refine wc_region ?_   -- region 7
        refine wl_det rfl rfl (det_move rfl) rfl ?_
        refine wl_det rfl rfl (det_len rfl un37) rfl ?_
        refine wl_det rfl rfl (det_move rfl) rfl ?_
        refine wl_nil ?_
        refine pn_then ?_
        refine wc_block ?_
        obtain ⟨k22, hk22⟩ := loopV_some.1 h
        refine wc_loop (G := Nat × ((List GEntry) × Int) × Option Addr × Nat × Nat × Unit) (fun g => IterN (treatyref33_Differences_l22 r4_4) g.1 g.2.1 q18) (fun g => g.1) (fun (_, s22, A22_0, n22_0, c22_0, _) => [(6, .slice A22_0 n22_0 c22_0), (35, .slice y4_4A0 r4_4.1.length y4_4c0), (36, .int .i64 (r4_4.1.length : Int)), (37, .int .i64 s22.2)]) (fun (_, s22, A22_0, n22_0, c22_0, _) => [eS lGEntry 41 A22_0 n22_0 c22_0 s22.1, eS lGEntry 41 y4_4A0 r4_4.1.length y4_4c0 r4_4.1]) (fun (_, _, _, _, _, _) => []) (k22, (r1_4.1, 0), y1_4A0, r1_4.1.length, y1_4c0, ()) hk22 ⟨rfl, rfl, rfl, rfl, trivial⟩ (fun _ h => h.to ⟨_, (rs r0), ⟨_, r0, trivial⟩⟩ trivial) ?_
        rintro ⟨k22, s22, A22_0, n22_0, c22_0, _⟩ hI
        obtain ⟨k22, rfl, q22, h, g22⟩ := IterN.pos hI
        dsimp only at h ⊢
        unfold treatyref33_Differences_l22 at h
        refine wc_know (fun _ h => h.lenO m0) (fun e => ?_)
        subst e
        refine wc_seq ?_
        refine wc_region ?_   -- region 8
        refine wl_det rfl rfl (det_lss rfl rfl) rfl ?_
        refine wl_nil ?_
        refine pn_then ?_
        refine wc_seq ?_
        refine wc_cond rfl (fun cd26 => ?_) (fun cd26 => ?_)
        · have h := ifT h cd26
          refine wc_skip ?_
          refine pn_then ?_
          refine wc_seq ?_
          refine wc_block ?_
          refine wc_seq ?_
          refine wc_region ?_   -- region 9
          obtain ⟨k9_0, h⟩ := chk_some h
          refine wl_det rfl rfl (det_indexO rfl rfl (ms m0) k9_0 un37 sz41) rfl ?_
          refine wl_det rfl rfl (det_loadO (off := 0) rfl (ms m0) k9_0 (by rfl) (by rfl) (loaded_n (cells := [_, _, _, _, _]) ag41 sz41)) rfl ?_
          refine wl_act (act_alloc (cs := [_, _, _, _, _]) zr41 rfl) rfl rfl rfl ?_
          rintro _ _ _ ⟨b9_2, rfl, rfl, rfl⟩
          refine wl_act0 (act_store (cells := [_, _, _, _, _]) (cs' := [_, _, _, _, _]) rfl rfl rfl s0 (by rfl) (of_decide_eq_true rfl) sz41 ⟨rfl, rfl, rfl, rfl, rfl, trivial⟩) rfl rfl ?_
          rintro _ _ _ ⟨rfl, rfl⟩
          refine wl_nil ?_
          refine pn_then ?_
          refine wc_seq ?_
          refine wc_region ?_   -- region 10
          refine wl_det rfl rfl (det_field rfl fd41_4 rfl) rfl ?_
          refine wl_det rfl rfl (det_load rfl m0 (by rfl) na3 us3) rfl ?_
          refine wl_det rfl rfl (det_neg rfl) rfl ?_
          refine wl_det rfl rfl (det_field rfl fd41_4 rfl) rfl ?_
          refine wl_act0 (act_store (cells := [_]) (cs' := [_, _, _, _, _]) rfl rfl rfl s0 (by rfl) (of_decide_eq_true rfl) sz3 ⟨rfl, trivial⟩) rfl rfl ?_
          rintro _ _ _ ⟨rfl, rfl⟩
          refine wl_nil ?_
          refine pn_then ?_
          refine wc_region ?_   -- region 11
          refine wl_det rfl rfl (det_move rfl) rfl ?_
          refine wl_det rfl rfl (det_loadN (cells := [_, _, _, _, _]) rfl m0 (by rfl) ag41 sz41) rfl ?_
          refine wl_act (act_litS lGEntry (vs := [_]) (cs := [_, _, _, _, _]) [(GEntry.mk (ix r4_4.1 s22.2).Kind (ix r4_4.1 s22.2).Treaty (ix r4_4.1 s22.2).Party (ix r4_4.1 s22.2).Loss (w64 (0 - (ix r4_4.1 s22.2).Amount)))] un37 in41 rfl rfl rfl rfl rfl ⟨rfl, trivial⟩ (by rfl) rfl (litR_flat rfl)) rfl rfl rfl ?_
          rintro _ _ _ ⟨A11_2, rfl, rfl, rfl⟩
          obtain ⟨k11_3, h⟩ := chk_some h
          refine wl_act (act_appendS (L := lGEntry) rfl rfl (ss (ss s0)) (src_O m0) un37 in41 rfl rfl rfl k11_3) rfl rfl rfl ?_
          rintro _ _ _ ⟨A11_3, c11_3, rfl, rfl, rfl⟩
          refine wl_det rfl rfl (det_assign rfl) rfl ?_
          refine wl_nil ?_
          refine pn_block ?_
          refine pn_then ?_
          refine wc_region ?_   -- region 12
          refine wl_det rfl rfl (det_add rfl rfl) rfl ?_
          refine wl_det rfl rfl (det_move rfl) rfl ?_
          refine wl_nil ?_
          replace h := Option.some.inj h
          subst h
          exact pn_some (k22, ((s22.1 ++ [(GEntry.mk (ix r4_4.1 s22.2).Kind (ix r4_4.1 s22.2).Treaty (ix r4_4.1 s22.2).Party (ix r4_4.1 s22.2).Loss (w64 (0 - (ix r4_4.1 s22.2).Amount)))]), (w64 (s22.2 + 1))), A11_3, (s22.1 ++ [(GEntry.mk (ix r4_4.1 s22.2).Kind (ix r4_4.1 s22.2).Treaty (ix r4_4.1 s22.2).Party (ix r4_4.1 s22.2).Loss (w64 (0 - (ix r4_4.1 s22.2).Amount)))]).length, c11_3, ()) ⟨nextL g22, Nat.lt_succ_self _⟩ ⟨rfl, rfl, rfl, rfl, trivial⟩ (fun _ h => h.to ⟨_, (rs (rs r0)), ⟨_, (rs (rs r0)), trivial⟩⟩ trivial)
        · have h := ifF h cd26
          refine wc_exit ?_
          refine px_then ?_
          refine px_then ?_
          refine px_block ?_
          replace h := Option.some.inj h
          subst h
          replace g22 := nextR g22
          subst g22
          exact pn_meetG (s22.1, A22_0, s22.1.length, c22_0, ()) rfl ⟨rfl, trivial⟩ (fun _ h => h.to ⟨_, r0, trivial⟩ trivial)
      rintro ⟨s18, A18_0, n18_0, c18_0, _⟩ e18
      dsimp only at e18 ⊢
      subst e18
      have h := ho18
      refine wc_know (fun _ h => h.lenO m0) (fun e => ?_)
      subst e
      refine wc_seq ?_
      refine wc_region ?_   -- region 13
      refine wl_det rfl rfl (det_move rfl) rfl ?_
      obtain ⟨r13_1, hr13_1, h⟩ := bind_some h
      refine wl_act (act_callL (cap := []) [eS lGEntry 41 A18_0 s18.length c18_0 s18] (W_treatyref33_sums s18 A18_0 s18.length c18_0 r13_1 hr13_1) plains_treatyref33_sums rfl rfl rfl bd56 rfl ⟨m0, trivial⟩ ⟨.inr ⟨_, m0, lent_eS⟩, trivial⟩) rfl rfl rfl ?_
      rintro _ _ _ ⟨_, _, ⟨y13_1A0, y13_1n0, y13_1c0, rfl, rfl, rfl⟩, rfl, rfl⟩
      dsimp only [List.nil_append, List.cons_append]
      refine wl_know (fun _ h => h.lenO m0) (fun e => ?_)
      subst e
      refine wl_det rfl rfl (det_move rfl) rfl ?_
      refine wl_det rfl rfl (det_extract rfl rfl) rfl ?_
      refine wl_det rfl rfl (det_extract rfl rfl) rfl ?_
      refine wl_det rfl rfl (det_assign rfl) rfl ?_
      refine wl_det rfl rfl (det_assign rfl) rfl ?_
      refine wl_nil ?_
      refine pn_then ?_
      refine wc_seq ?_
      refine wc_seq ?_
      refine wc_region ?_   -- region 14
      refine wl_det rfl rfl (det_move rfl) rfl ?_
      refine wl_det rfl rfl (det_not rfl) rfl ?_
      refine wl_nil ?_
      refine pn_then ?_
      refine wc_cond rfl (fun cd41 => ?_) (fun cd41 => ?_)
      · have h := ifT h cd41
        refine wc_seq ?_
        refine wc_region ?_   -- region 15
        refine wl_det rfl rfl (det_assign rfl) rfl ?_
        refine wl_det rfl rfl (det_assign rfl) rfl ?_
        refine wl_nil ?_
        refine pn_then ?_
        refine wc_ret ?_
        refine pr_then ?_
        refine pn_st (fun _ h => h.zeroS lGEntry 41 none) ?_
        replace h := Option.some.inj h
        subst h
        refine pn_ret (vs := [_, _]) rfl ⟨rfl, rfl, trivial⟩ ⟨none, 0, 0, rfl, rfl, rfl⟩ (fun _ h => h.to ⟨_, r0, trivial⟩ trivial)
      · have h := ifF h cd41
        refine wc_skip ?_
        refine pn_then ?_
        refine wc_seq ?_
        refine wc_region ?_   -- region 16
        refine wl_det rfl rfl (det_move rfl) rfl ?_
        refine wl_det rfl rfl (det_assign rfl) rfl ?_
        refine wl_det rfl rfl (det_assign rfl) rfl ?_
        refine wl_nil ?_
        refine pn_then ?_
        refine wc_ret ?_
        replace h := Option.some.inj h
        subst h
        refine pn_ret (vs := [_, _]) rfl ⟨rfl, rfl, trivial⟩ ⟨y13_1A0, r13_1.1.length, y13_1c0, rfl, rfl, rfl⟩ (fun _ h => h.to ⟨_, r0, trivial⟩ trivial)
end Go.Proofs.Ytadkcelipefpmaa
