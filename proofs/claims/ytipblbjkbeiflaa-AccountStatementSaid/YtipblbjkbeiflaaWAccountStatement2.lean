/- That functions of the program compute the plain programs of P. Written by a small program. -/
import Derived.Test.YtipblbjkbeiflaaWAccountStatement1
namespace Go.Proofs.Ytipblbjkbeiflaa
open Go.RowKit
def Q_treatylaw34_few (r : GLedger × GLedger) : Value → List Ent → List Fact → Prop := fun v θ κ => ∃ (pA0 : Option Addr), ∃ (pn0 : Nat), ∃ (pc0 : Nat), ∃ (pA1 : Option Addr), ∃ (pn1 : Nat), ∃ (pc1 : Nat), v = .tuple #[.agg #[.int .i64 r.1.Closed, .slice pA0 pn0 pc0], .agg #[.int .i64 r.2.Closed, .slice pA1 pn1 pc1]] ∧ θ = [eS lGPosting 48 pA1 pn1 pc1 r.2.Postings] ∧ κ = [fV (lSlice lGPosting) (.slice pA0 pn0 pc0) r.1.Postings]
set_option maxHeartbeats 4000000 in
set_option maxRecDepth 100000 in
theorem W_treatylaw34_few (a0 : (List Int)) (a1 : Int) (a2 : Int) (A0 : Option Addr) (n0 : Nat) (c0 : Nat) (r : GLedger × GLedger) (h : treatylaw34_few a0 a1 a2 = some r) : Spec Try.prog 9 [.slice A0 n0 c0, .int .i64 a1, .int .i64 a2] [] [fV (lSlice (lInt .i64)) (.slice A0 n0 c0) a0] (Q_treatylaw34_few r) := by
  unfold treatylaw34_few at h
  refine spec_of (σ := [(0, _), (1, _), (2, _)]) Try.func9 rfl rfl rfl rfl ?_
  intro C
  refine wc_know (fun _ h => h.lenF m0) (fun e => ?_)
  subst e
  refine wc_seq ?_
  refine wc_region ?_   -- region 0
  refine wl_act (act_alloc (cs := [_, _]) zr25 rfl) rfl rfl rfl ?_
  rintro _ _ _ ⟨b0_0, rfl, rfl, rfl⟩
  refine wl_act (act_alloc (cs := [_, _]) zr25 rfl) rfl rfl rfl ?_
  rintro _ _ _ ⟨b0_1, rfl, rfl, rfl⟩
  refine wl_nil ?_
  refine pn_then ?_
  refine wc_seq ?_
  refine wc_region ?_   -- region 1
  refine wl_det rfl rfl (det_move rfl) rfl ?_
  obtain ⟨r1_1, hr1_1, h⟩ := bind_some h
  refine wl_act (act_callS (cap := []) (W_treatymade2_New a0 A0 a0.length c0 r1_1 hr1_1) rfl rfl rfl bd17 rfl ⟨m0, trivial⟩) rfl rfl rfl ?_
  rintro _ _ _ ⟨_, _, ⟨y1_1b0, y1_1A1, y1_1n1, y1_1c1, rfl, rfl, rfl⟩, rfl, rfl⟩
  dsimp only [List.nil_append, List.cons_append]
  refine wl_know (fun _ h => h.lenF m0) (fun e => ?_)
  subst e
  obtain ⟨r1_2, hr1_2, h⟩ := bind_some h
  refine wl_act (act_callS (cap := []) (W_treatymade2_Ledger r1_1 8 y1_1b0 y1_1A1 r1_1.L.length y1_1c1 r1_2 hr1_2) rfl rfl rfl bd16 ⟨_, r0, rfl⟩ ⟨m0, trivial⟩) rfl rfl rfl ?_
  rintro _ _ _ ⟨_, _, ⟨y1_2A0, y1_2n0, y1_2c0, y1_2A1, y1_2n1, y1_2c1, rfl, rfl, rfl⟩, rfl, rfl⟩
  dsimp only [List.nil_append, List.cons_append]
  refine wl_know (fun _ h => h.lenF m0) (fun e => ?_)
  subst e
  refine wl_know (fun _ h => h.lenF (ms m0)) (fun e => ?_)
  subst e
  refine wl_act (act_alloc (cs := [_, _]) zr25 rfl) rfl rfl rfl ?_
  rintro _ _ _ ⟨b1_3, rfl, rfl, rfl⟩
  refine wl_act0 (act_store (cells := [_, _]) (cs' := [_, _]) rfl rfl rfl s0 (by rfl) (of_decide_eq_true rfl) sz25 ⟨rfl, rfl, trivial⟩) rfl rfl ?_
  rintro _ _ _ ⟨rfl, rfl⟩
  refine wl_nil ?_
  refine pn_then ?_
  obtain ⟨q4, h, ho4⟩ := bind_some h
  refine wc_meetG (G := Unit × Nat × Option Addr × Nat × Nat × Unit) (fun (s4, _, _, _, _, _) => s4 = q4) (fun (_, B4_0, _, _, _, _) => [(1, .int .i64 a1), (2, .int .i64 a2), (6, .pointer (some ⟨b0_0, 0, none⟩)), (7, .pointer (some ⟨b0_1, 0, none⟩)), (8, .pointer (some ⟨b1_3, 0, none⟩)), (9, .pointer (some ⟨B4_0, 0, none⟩))]) (fun (_, B4_0, A4_1, n4_1, c4_1, _) => [eBlk b0_0 25 [.int .i64 0, .slice none 0 0], eBlk b0_1 25 [.int .i64 0, .slice none 0 0], eBlk b1_3 25 [.int .i64 r1_2.1.Closed, .slice y1_2A0 r1_2.1.Postings.length y1_2c0], eBlk B4_0 25 [.int .i64 r1_2.1.Closed, .slice A4_1 n4_1 c4_1], eS lGPosting 48 A4_1 n4_1 c4_1 r1_2.1.Postings]) (fun (_, _, _, _, _, _) => [fV (lSlice lGPosting) (.slice y1_2A0 r1_2.1.Postings.length y1_2c0) r1_2.1.Postings]) ?_ ?_
  · obtain ⟨k2_p1, h⟩ := chk_some h
    refine dx_regionZ (Z := St C [_, _, _, _] [_, _, _, _]) 8 [[], [0], [], [], [3], [2, 3, 4], [0, 1, 2, 3, 4, 5], [], [0, 1, 2, 3, 4, 5, 6, 7]] mixed (ord := (.det 0 (.det 1 (.det 3 (.det 4 (.alt 2 (.alt 5 (.det 6 (.alt 7 .done .dead)) (.alt 7 (.alt 5 (.det 6 .done) .dead) .dead)) (.alt 7 (.alt 2 (.alt 5 (.det 6 .done) .dead) .dead) .dead))))))) (by kernel_rfl) (fun _ h => h.to ⟨_, r0, ⟨_, r0, ⟨_, r0, ⟨_, r0, trivial⟩⟩⟩⟩ ⟨m0, ⟨(ms m0), ⟨(ms (ms m0)), ⟨(ms (ms (ms m0))), trivial⟩⟩⟩⟩) ?_   -- region 2
    refine hx_det rfl rfl rfl nofun (det_field rfl fd25_0 rfl) rfl ?_
    refine hx_det rfl rfl rfl nofun (det_load rfl m0 (by rfl) na3 us3) rfl ?_
    refine hx_det rfl rfl rfl nofun (det_field rfl fd25_1 rfl) rfl ?_
    refine hx_det rfl rfl rfl nofun (det_load rfl m0 (by rfl) na23 us23) rfl ?_
    refine hx_or ?_ ?_
    · refine hx_mut rfl rfl rfl (act_lit0S lGPosting un23 (by kernel_rfl)) rfl (by rintro _ _ _ ⟨A2_2, rfl, rfl, rfl⟩ w hs; exact hs.to ⟨_, (rs r0), ⟨_, (rs r0), ⟨_, (rs r0), ⟨_, (rs r0), trivial⟩⟩⟩⟩ ⟨m0, ⟨(ms m0), ⟨(ms (ms m0)), ⟨(ms (ms (ms m0))), trivial⟩⟩⟩⟩) ?_
      rintro _ _ _ ⟨A2_2, rfl, rfl, rfl⟩
      refine hx_or ?_ ?_
      · refine hx_mut rfl rfl rfl (act_appendS0 (L := lGPosting) rfl rfl s0 (src_F m0) un23 in48 rfl rfl rfl k2_p1) rfl (by rintro _ _ _ ⟨A2_5, c2_5, rfl, rfl, rfl⟩ w hs; exact hs.to ⟨_, (rs r0), ⟨_, (rs r0), ⟨_, (rs r0), ⟨_, (rs r0), trivial⟩⟩⟩⟩ ⟨m0, ⟨(ms m0), ⟨(ms (ms m0)), ⟨(ms (ms (ms m0))), trivial⟩⟩⟩⟩) ?_
        rintro _ _ _ ⟨A2_5, c2_5, rfl, rfl, rfl⟩
        refine hx_det rfl rfl rfl nofun (det_build (cs := [_, _]) pl25 zr25 rfl rfl (by rfl)) rfl ?_
        refine hx_mut rfl rfl rfl (act_alloc (cs := [_, _]) zr25 rfl) rfl (by rintro _ _ _ ⟨b2_7, rfl, rfl, rfl⟩ w hs; exact hs.to ⟨_, (rs (rs r0)), ⟨_, (rs (rs r0)), ⟨_, (rs (rs r0)), ⟨_, (rs (rs r0)), trivial⟩⟩⟩⟩ ⟨m0, ⟨(ms m0), ⟨(ms (ms m0)), ⟨(ms (ms (ms m0))), trivial⟩⟩⟩⟩) ?_
        rintro _ _ _ ⟨b2_7, rfl, rfl, rfl⟩
        refine hx_end ?_
        refine wl_act0 (act_store (cells := [_, _]) (cs' := [_, _]) rfl rfl rfl s0 (by rfl) (of_decide_eq_true rfl) sz25 ⟨rfl, rfl, trivial⟩) rfl rfl ?_
        rintro _ _ _ ⟨rfl, rfl⟩
        refine wl_nil ?_
        replace h := Option.some.inj h
        subst h
        exact pn_meetG ((), b2_7, A2_5, r1_2.1.Postings.length, c2_5, ()) rfl ⟨rfl, rfl, rfl, rfl, rfl, rfl, trivial⟩ (fun _ h => h.to ⟨_, (rs (rs (rs (rs (rs r0))))), ⟨_, (rs (rs (rs (rs r0)))), ⟨_, (rs (rs r0)), ⟨_, r0, ⟨_, r0, trivial⟩⟩⟩⟩⟩ ⟨m0, trivial⟩)
      refine hx_or ?_ trivial
      refine hx_mut rfl rfl rfl (act_alloc (cs := [_, _]) zr25 rfl) rfl (by rintro _ _ _ ⟨b2_7, rfl, rfl, rfl⟩ w hs; exact hs.to ⟨_, (rs (rs r0)), ⟨_, (rs (rs r0)), ⟨_, (rs (rs r0)), ⟨_, (rs (rs r0)), trivial⟩⟩⟩⟩ ⟨m0, ⟨(ms m0), ⟨(ms (ms m0)), ⟨(ms (ms (ms m0))), trivial⟩⟩⟩⟩) ?_
      rintro _ _ _ ⟨b2_7, rfl, rfl, rfl⟩
      refine hx_mut rfl rfl rfl (act_appendS0 (L := lGPosting) rfl rfl (ss s0) (src_F m0) un23 in48 rfl rfl rfl k2_p1) rfl (by rintro _ _ _ ⟨A2_5, c2_5, rfl, rfl, rfl⟩ w hs; exact hs.to ⟨_, (rs (rs r0)), ⟨_, (rs (rs r0)), ⟨_, (rs (rs r0)), ⟨_, (rs (rs r0)), trivial⟩⟩⟩⟩ ⟨m0, ⟨(ms m0), ⟨(ms (ms m0)), ⟨(ms (ms (ms m0))), trivial⟩⟩⟩⟩) ?_
      rintro _ _ _ ⟨A2_5, c2_5, rfl, rfl, rfl⟩
      refine hx_det rfl rfl rfl nofun (det_build (cs := [_, _]) pl25 zr25 rfl rfl (by rfl)) rfl ?_
      refine hx_end ?_
      refine wl_act0 (act_store (cells := [_, _]) (cs' := [_, _]) rfl rfl rfl s0 (by rfl) (of_decide_eq_true rfl) sz25 ⟨rfl, rfl, trivial⟩) rfl rfl ?_
      rintro _ _ _ ⟨rfl, rfl⟩
      refine wl_nil ?_
      replace h := Option.some.inj h
      subst h
      exact pn_meetG ((), b2_7, A2_5, r1_2.1.Postings.length, c2_5, ()) rfl ⟨rfl, rfl, rfl, rfl, rfl, rfl, trivial⟩ (fun _ h => h.to ⟨_, (rs (rs (rs (rs (rs r0))))), ⟨_, (rs (rs (rs (rs r0)))), ⟨_, (rs (rs r0)), ⟨_, r0, ⟨_, r0, trivial⟩⟩⟩⟩⟩ ⟨m0, trivial⟩)
    refine hx_or ?_ trivial
    refine hx_mut rfl rfl rfl (act_alloc (cs := [_, _]) zr25 rfl) rfl (by rintro _ _ _ ⟨b2_7, rfl, rfl, rfl⟩ w hs; exact hs.to ⟨_, (rs r0), ⟨_, (rs r0), ⟨_, (rs r0), ⟨_, (rs r0), trivial⟩⟩⟩⟩ ⟨m0, ⟨(ms m0), ⟨(ms (ms m0)), ⟨(ms (ms (ms m0))), trivial⟩⟩⟩⟩) ?_
    rintro _ _ _ ⟨b2_7, rfl, rfl, rfl⟩
    refine hx_mut rfl rfl rfl (act_lit0S lGPosting un23 (by kernel_rfl)) rfl (by rintro _ _ _ ⟨A2_2, rfl, rfl, rfl⟩ w hs; exact hs.to ⟨_, (rs (rs r0)), ⟨_, (rs (rs r0)), ⟨_, (rs (rs r0)), ⟨_, (rs (rs r0)), trivial⟩⟩⟩⟩ ⟨m0, ⟨(ms m0), ⟨(ms (ms m0)), ⟨(ms (ms (ms m0))), trivial⟩⟩⟩⟩) ?_
    rintro _ _ _ ⟨A2_2, rfl, rfl, rfl⟩
    refine hx_mut rfl rfl rfl (act_appendS0 (L := lGPosting) rfl rfl s0 (src_F m0) un23 in48 rfl rfl rfl k2_p1) rfl (by rintro _ _ _ ⟨A2_5, c2_5, rfl, rfl, rfl⟩ w hs; exact hs.to ⟨_, (rs (rs r0)), ⟨_, (rs (rs r0)), ⟨_, (rs (rs r0)), ⟨_, (rs (rs r0)), trivial⟩⟩⟩⟩ ⟨m0, ⟨(ms m0), ⟨(ms (ms m0)), ⟨(ms (ms (ms m0))), trivial⟩⟩⟩⟩) ?_
    rintro _ _ _ ⟨A2_5, c2_5, rfl, rfl, rfl⟩
    refine hx_det rfl rfl rfl nofun (det_build (cs := [_, _]) pl25 zr25 rfl rfl (by rfl)) rfl ?_
    refine hx_end ?_
    refine wl_act0 (act_store (cells := [_, _]) (cs' := [_, _]) rfl rfl rfl (ss s0) (by rfl) (of_decide_eq_true rfl) sz25 ⟨rfl, rfl, trivial⟩) rfl rfl ?_
    rintro _ _ _ ⟨rfl, rfl⟩
    refine wl_nil ?_
    replace h := Option.some.inj h
    subst h
    exact pn_meetG ((), b2_7, A2_5, r1_2.1.Postings.length, c2_5, ()) rfl ⟨rfl, rfl, rfl, rfl, rfl, rfl, trivial⟩ (fun _ h => h.to ⟨_, (rs (rs (rs (rs (rs r0))))), ⟨_, (rs (rs (rs (rs r0)))), ⟨_, (rs (rs r0)), ⟨_, (rs r0), ⟨_, r0, trivial⟩⟩⟩⟩⟩ ⟨m0, trivial⟩)
  rintro ⟨s4, B4_0, A4_1, n4_1, c4_1, _⟩ e4
  dsimp only at e4 ⊢
  subst e4
  have h := ho4
  refine wc_know (fun _ h => h.lenO (ms (ms (ms (ms m0))))) (fun e => ?_)
  subst e
  obtain ⟨q6, h, ho6⟩ := bind_some h
  refine wc_meetG (G := (Int × (List GPosting)) × Unit) (fun (s6, _) => s6 = q6) (fun (_, _) => [(6, .pointer (some ⟨b0_0, 0, none⟩)), (7, .pointer (some ⟨b0_1, 0, none⟩)), (8, .pointer (some ⟨b1_3, 0, none⟩)), (9, .pointer (some ⟨B4_0, 0, none⟩))]) (fun (s6, _) => [eBlk b0_0 25 [.int .i64 0, .slice none 0 0], eBlk b0_1 25 [.int .i64 0, .slice none 0 0], eBlk b1_3 25 [.int .i64 r1_2.1.Closed, .slice y1_2A0 r1_2.1.Postings.length y1_2c0], eBlk B4_0 25 [.int .i64 s6.1, .slice A4_1 r1_2.1.Postings.length c4_1], eS lGPosting 48 A4_1 r1_2.1.Postings.length c4_1 s6.2]) (fun (_, _) => [fV (lSlice lGPosting) (.slice y1_2A0 r1_2.1.Postings.length y1_2c0) r1_2.1.Postings]) ?_ ?_
  · refine wc_seq ?_
    refine wc_region ?_   -- region 3
    refine wl_det rfl rfl (det_field rfl fd25_1 rfl) rfl ?_
    refine wl_det rfl rfl (det_load rfl (ms (ms (ms m0))) (by rfl) na23 us23) rfl ?_
    refine wl_det rfl rfl (det_len rfl un23) rfl ?_
    refine wl_det rfl rfl (det_gtr rfl rfl) rfl ?_
    refine wl_nil ?_
    refine pn_then ?_
    refine wc_cond rfl (fun c9 => ?_) (fun c9 => ?_)
    · have h := ifT h c9
      refine wc_seq ?_
      obtain ⟨k4_p1, h⟩ := chk_some h
      obtain ⟨k4_p2, h⟩ := chk_some h
      refine dx_region 10 [[], [0], [], [2], [2, 3], [], [5], [5, 6], [2, 3, 4, 5, 6, 7], [0, 1, 2, 3, 4, 5, 6, 7, 8], [0, 1, 2, 3, 4, 5, 6, 7, 8, 9]] mixed (ord := (.det 0 (.det 1 (.det 2 (.det 3 (.det 4 (.det 5 (.det 6 (.det 7 (.det 8 (.det 9 .done))))))))))) (by kernel_rfl) ?_   -- region 4
      refine hx_det rfl rfl rfl nofun (det_field rfl fd25_1 rfl) rfl ?_
      refine hx_det rfl rfl rfl nofun (det_load rfl (ms (ms (ms m0))) (by rfl) na23 us23) rfl ?_
      refine hx_det rfl rfl rfl nofun (det_move rfl) rfl ?_
      refine hx_det rfl rfl rfl nofun (det_shr rfl rfl rfl) rfl ?_
      refine hx_det rfl rfl rfl nofun (det_band rfl rfl) rfl ?_
      refine hx_det rfl rfl rfl nofun (det_field rfl fd25_1 rfl) rfl ?_
      refine hx_det rfl rfl rfl nofun (det_load rfl (ms (ms (ms m0))) (by rfl) na23 us23) rfl ?_
      refine hx_det rfl rfl rfl nofun (det_len rfl un23) rfl ?_
      refine hx_det rfl rfl rfl nofun (det_remB rfl rfl k4_p1) rfl ?_
      refine hx_det rfl rfl rfl nofun (det_indexO rfl rfl (ms (ms (ms (ms m0)))) k4_p2 un23 sz48) rfl ?_
      refine hx_end ?_
      refine wl_det rfl rfl (det_assign rfl) rfl ?_
      refine wl_nil ?_
      refine pn_then ?_
      refine wc_seq ?_
      refine dx_region 28 [[], [], [1], [1, 2], [], [4], [4, 5], [], [7], [7, 8], [7, 8, 9], [], [11], [11, 12], [11, 12, 13], [], [15], [15, 16], [15, 16, 17], [], [19], [19, 20], [19, 20, 21], [], [23], [23, 24], [23, 24, 25], [0, 1, 2, 3, 4, 5, 6, 7, 8, 9, 10, 11, 12, 13, 14, 15, 16, 17, 18, 19, 20, 21, 22, 23, 24, 25, 26], [0, 1, 2, 3, 4, 5, 6, 7, 8, 9, 10, 11, 12, 13, 14, 15, 16, 17, 18, 19, 20, 21, 22, 23, 24, 25, 26, 27]] mixed (ord := (.det 0 (.det 1 (.det 2 (.det 3 (.det 4 (.det 5 (.det 6 (.det 7 (.det 8 (.det 9 (.det 10 (.det 11 (.det 12 (.det 13 (.det 14 (.det 15 (.det 16 (.det 17 (.det 18 (.det 19 (.det 20 (.det 21 (.det 22 (.det 23 (.det 24 (.det 25 (.det 26 (.alt 27 .done .dead))))))))))))))))))))))))))))) (by kernel_rfl) ?_   -- region 5
      refine hx_det rfl rfl rfl nofun (det_field rfl fd25_0 rfl) rfl ?_
      refine hx_det rfl rfl rfl nofun (det_move rfl) rfl ?_
      refine hx_det rfl rfl rfl nofun (det_nilCheckO rfl (ms (ms (ms (ms m0)))) k4_p2) rfl ?_
      refine hx_det rfl rfl rfl nofun (det_fieldO rfl (ms (ms (ms (ms m0)))) k4_p2 fd48_0 rfl) rfl ?_
      refine hx_det rfl rfl rfl nofun (det_move rfl) rfl ?_
      refine hx_det rfl rfl rfl nofun (det_nilCheckO rfl (ms (ms (ms (ms m0)))) k4_p2) rfl ?_
      refine hx_det rfl rfl rfl nofun (det_fieldO rfl (ms (ms (ms (ms m0)))) k4_p2 fd48_1 rfl) rfl ?_
      refine hx_det rfl rfl rfl nofun (det_move rfl) rfl ?_
      refine hx_det rfl rfl rfl nofun (det_nilCheckO rfl (ms (ms (ms (ms m0)))) k4_p2) rfl ?_
      refine hx_det rfl rfl rfl nofun (det_fieldO rfl (ms (ms (ms (ms m0)))) k4_p2 fd48_2 rfl) rfl ?_
      refine hx_det rfl rfl rfl nofun (det_fieldO rfl (ms (ms (ms (ms m0)))) k4_p2 fd46_0 rfl) rfl ?_
      refine hx_det rfl rfl rfl nofun (det_move rfl) rfl ?_
      refine hx_det rfl rfl rfl nofun (det_nilCheckO rfl (ms (ms (ms (ms m0)))) k4_p2) rfl ?_
      refine hx_det rfl rfl rfl nofun (det_fieldO rfl (ms (ms (ms (ms m0)))) k4_p2 fd48_2 rfl) rfl ?_
      refine hx_det rfl rfl rfl nofun (det_fieldO rfl (ms (ms (ms (ms m0)))) k4_p2 fd46_1 rfl) rfl ?_
      refine hx_det rfl rfl rfl nofun (det_move rfl) rfl ?_
      refine hx_det rfl rfl rfl nofun (det_nilCheckO rfl (ms (ms (ms (ms m0)))) k4_p2) rfl ?_
      refine hx_det rfl rfl rfl nofun (det_fieldO rfl (ms (ms (ms (ms m0)))) k4_p2 fd48_2 rfl) rfl ?_
      refine hx_det rfl rfl rfl nofun (det_fieldO rfl (ms (ms (ms (ms m0)))) k4_p2 fd46_2 rfl) rfl ?_
      refine hx_det rfl rfl rfl nofun (det_move rfl) rfl ?_
      refine hx_det rfl rfl rfl nofun (det_nilCheckO rfl (ms (ms (ms (ms m0)))) k4_p2) rfl ?_
      refine hx_det rfl rfl rfl nofun (det_fieldO rfl (ms (ms (ms (ms m0)))) k4_p2 fd48_2 rfl) rfl ?_
      refine hx_det rfl rfl rfl nofun (det_fieldO rfl (ms (ms (ms (ms m0)))) k4_p2 fd46_3 rfl) rfl ?_
      refine hx_det rfl rfl rfl nofun (det_move rfl) rfl ?_
      refine hx_det rfl rfl rfl nofun (det_nilCheckO rfl (ms (ms (ms (ms m0)))) k4_p2) rfl ?_
      refine hx_det rfl rfl rfl nofun (det_fieldO rfl (ms (ms (ms (ms m0)))) k4_p2 fd48_2 rfl) rfl ?_
      refine hx_det rfl rfl rfl nofun (det_fieldO rfl (ms (ms (ms (ms m0)))) k4_p2 fd46_4 rfl) rfl ?_
      refine hx_act rfl rfl rfl (act_litB (vs := [_, _, _, _, _, _, _, _]) (cs := [_, _, _, _, _, _, _, _]) un66 in65 rfl rfl rfl rfl ⟨rfl, rfl, rfl, rfl, rfl, rfl, rfl, rfl, trivial⟩ (by rfl)) rfl (by rintro _ _ _ ⟨b5_27, rfl, rfl, rfl⟩; first | exact ⟨_ :: [], [], rfl, rfl⟩ | exact ⟨[], [_], rfl, rfl⟩ | exact ⟨[], [], rfl, rfl⟩) ?_
      rintro _ _ _ ⟨b5_27, rfl, rfl, rfl⟩
      refine hx_end ?_
      refine wl_det rfl rfl (det_assign rfl) rfl ?_
      refine wl_nil ?_
      refine pn_then ?_
      refine wc_seq ?_
      refine wc_region ?_   -- region 6
      refine wl_det rfl rfl (det_move rfl) rfl ?_
      refine wl_det rfl rfl (det_band rfl rfl) rfl ?_
      refine wl_det rfl rfl (det_assign rfl) rfl ?_
      refine wl_nil ?_
      refine pn_then ?_
      refine wc_seq ?_
      refine wc_region ?_   -- region 7
      refine wl_det rfl rfl (det_move rfl) rfl ?_
      refine wl_det rfl rfl (det_move rfl) rfl ?_
      refine wl_det rfl rfl (det_len rfl un66) rfl ?_
      refine wl_det rfl rfl (det_lss rfl rfl) rfl ?_
      refine wl_nil ?_
      refine pn_then ?_
      refine wc_cond rfl (fun c18 => ?_) (fun c18 => ?_)
      · have h := ifT h c18
        refine wc_region ?_   -- region 8
        refine wl_det rfl rfl (det_move rfl) rfl ?_
        refine wl_det rfl rfl (det_move rfl) rfl ?_
        obtain ⟨k8_2, h⟩ := chk_some h
        obtain ⟨k8_2a, h⟩ := chk_some h
        refine wl_det rfl rfl (det_indexV rfl rfl (ixT k8_2 k8_2a) un66 sz65) rfl ?_
        rcases Bool.eq_false_or_eq_true (decide ((bAnd .i64 a1 15) = 0)) with hg8_t0 | hg8_t0
        · have h := ifT h hg8_t0
          refine wl_det rfl rfl (det_loadT (k := 0) (i := (bAnd .i64 a1 15)) rfl m0 hg8_t0 rfl na65 us65) rfl ?_
          refine wl_det rfl rfl (det_move rfl) rfl ?_
          refine wl_det rfl rfl (det_nilCheckB rfl) rfl ?_
          refine wl_act0 (act_store (cells := [_]) (cs' := [_, _]) rfl rfl rfl (ss (ss (ss (ss s0)))) (by rfl) (of_decide_eq_true rfl) sz3 ⟨rfl, trivial⟩) rfl rfl ?_
          rintro _ _ _ ⟨rfl, rfl⟩
          refine wl_nil ?_
          replace h := Option.some.inj h
          subst h
          exact pn_meetG ((a2, r1_2.1.Postings), ()) rfl ⟨rfl, rfl, rfl, rfl, trivial⟩ (fun _ h => h.to ⟨_, (rs r0), ⟨_, (rs r0), ⟨_, (rs r0), ⟨_, (rs r0), ⟨_, (rs r0), trivial⟩⟩⟩⟩⟩ ⟨m0, trivial⟩)
        · have h := ifF h hg8_t0
          rcases Bool.eq_false_or_eq_true (decide ((bAnd .i64 a1 15) = 1)) with hg8_t1 | hg8_t1
          · have h := ifT h hg8_t1
            refine wl_det rfl rfl (det_loadT (k := 1) (i := (bAnd .i64 a1 15)) rfl m0 hg8_t1 rfl na65 us65) rfl ?_
            refine wl_det rfl rfl (det_move rfl) rfl ?_
            refine wl_det rfl rfl (det_nilCheckO rfl (ms (ms (ms (ms (ms m0))))) k4_p2) rfl ?_
            refine wl_act0 (act_storeO (cells := [_]) (off := 0) (GPosting.mk a2 (ix r1_2.1.Postings ((bAnd .i64 (bShr .i64 a1 4) 31).tmod (r1_2.1.Postings.length : Int))).Period (ix r1_2.1.Postings ((bAnd .i64 (bShr .i64 a1 4) 31).tmod (r1_2.1.Postings.length : Int))).Entry) rfl rfl rfl (ss (ss (ss (ss (ss s0))))) k4_p2 (by rfl) sz3 (by intro u hu; simp at hu; rcases hu with rfl <;> rfl) (stR_flat rfl rfl)) rfl rfl ?_
            rintro _ _ _ ⟨rfl, rfl⟩
            refine wl_nil ?_
            replace h := Option.some.inj h
            subst h
            exact pn_meetG ((r1_2.1.Closed, (upd r1_2.1.Postings ((bAnd .i64 (bShr .i64 a1 4) 31).tmod (r1_2.1.Postings.length : Int)) (GPosting.mk a2 (ix r1_2.1.Postings ((bAnd .i64 (bShr .i64 a1 4) 31).tmod (r1_2.1.Postings.length : Int))).Period (ix r1_2.1.Postings ((bAnd .i64 (bShr .i64 a1 4) 31).tmod (r1_2.1.Postings.length : Int))).Entry))), ()) rfl ⟨rfl, rfl, rfl, rfl, trivial⟩ (fun _ h => h.to ⟨_, (rs r0), ⟨_, (rs r0), ⟨_, (rs r0), ⟨_, (rs r0), ⟨_, (rs r0), trivial⟩⟩⟩⟩⟩ ⟨m0, trivial⟩)
          · have h := ifF h hg8_t1
            rcases Bool.eq_false_or_eq_true (decide ((bAnd .i64 a1 15) = 2)) with hg8_t2 | hg8_t2
            · have h := ifT h hg8_t2
              refine wl_det rfl rfl (det_loadT (k := 2) (i := (bAnd .i64 a1 15)) rfl m0 hg8_t2 rfl na65 us65) rfl ?_
              refine wl_det rfl rfl (det_move rfl) rfl ?_
              refine wl_det rfl rfl (det_nilCheckO rfl (ms (ms (ms (ms (ms m0))))) k4_p2) rfl ?_
              refine wl_act0 (act_storeO (cells := [_]) (off := 1) (GPosting.mk (ix r1_2.1.Postings ((bAnd .i64 (bShr .i64 a1 4) 31).tmod (r1_2.1.Postings.length : Int))).Number a2 (ix r1_2.1.Postings ((bAnd .i64 (bShr .i64 a1 4) 31).tmod (r1_2.1.Postings.length : Int))).Entry) rfl rfl rfl (ss (ss (ss (ss (ss s0))))) k4_p2 (by rfl) sz3 (by intro u hu; simp at hu; rcases hu with rfl <;> rfl) (stR_flat rfl rfl)) rfl rfl ?_
              rintro _ _ _ ⟨rfl, rfl⟩
              refine wl_nil ?_
              replace h := Option.some.inj h
              subst h
              exact pn_meetG ((r1_2.1.Closed, (upd r1_2.1.Postings ((bAnd .i64 (bShr .i64 a1 4) 31).tmod (r1_2.1.Postings.length : Int)) (GPosting.mk (ix r1_2.1.Postings ((bAnd .i64 (bShr .i64 a1 4) 31).tmod (r1_2.1.Postings.length : Int))).Number a2 (ix r1_2.1.Postings ((bAnd .i64 (bShr .i64 a1 4) 31).tmod (r1_2.1.Postings.length : Int))).Entry))), ()) rfl ⟨rfl, rfl, rfl, rfl, trivial⟩ (fun _ h => h.to ⟨_, (rs r0), ⟨_, (rs r0), ⟨_, (rs r0), ⟨_, (rs r0), ⟨_, (rs r0), trivial⟩⟩⟩⟩⟩ ⟨m0, trivial⟩)
            · have h := ifF h hg8_t2
              rcases Bool.eq_false_or_eq_true (decide ((bAnd .i64 a1 15) = 3)) with hg8_t3 | hg8_t3
              · have h := ifT h hg8_t3
                refine wl_det rfl rfl (det_loadT (k := 3) (i := (bAnd .i64 a1 15)) rfl m0 hg8_t3 rfl na65 us65) rfl ?_
                refine wl_det rfl rfl (det_move rfl) rfl ?_
                refine wl_det rfl rfl (det_nilCheckO rfl (ms (ms (ms (ms (ms m0))))) k4_p2) rfl ?_
                refine wl_act0 (act_storeO (cells := [_]) (off := 2) (GPosting.mk (ix r1_2.1.Postings ((bAnd .i64 (bShr .i64 a1 4) 31).tmod (r1_2.1.Postings.length : Int))).Number (ix r1_2.1.Postings ((bAnd .i64 (bShr .i64 a1 4) 31).tmod (r1_2.1.Postings.length : Int))).Period (GEntry.mk a2 (ix r1_2.1.Postings ((bAnd .i64 (bShr .i64 a1 4) 31).tmod (r1_2.1.Postings.length : Int))).Entry.Treaty (ix r1_2.1.Postings ((bAnd .i64 (bShr .i64 a1 4) 31).tmod (r1_2.1.Postings.length : Int))).Entry.Party (ix r1_2.1.Postings ((bAnd .i64 (bShr .i64 a1 4) 31).tmod (r1_2.1.Postings.length : Int))).Entry.Loss (ix r1_2.1.Postings ((bAnd .i64 (bShr .i64 a1 4) 31).tmod (r1_2.1.Postings.length : Int))).Entry.Amount)) rfl rfl rfl (ss (ss (ss (ss (ss s0))))) k4_p2 (by rfl) sz3 (by intro u hu; simp at hu; rcases hu with rfl <;> rfl) (stR_flat rfl rfl)) rfl rfl ?_
                rintro _ _ _ ⟨rfl, rfl⟩
                refine wl_nil ?_
                replace h := Option.some.inj h
                subst h
                exact pn_meetG ((r1_2.1.Closed, (upd r1_2.1.Postings ((bAnd .i64 (bShr .i64 a1 4) 31).tmod (r1_2.1.Postings.length : Int)) (GPosting.mk (ix r1_2.1.Postings ((bAnd .i64 (bShr .i64 a1 4) 31).tmod (r1_2.1.Postings.length : Int))).Number (ix r1_2.1.Postings ((bAnd .i64 (bShr .i64 a1 4) 31).tmod (r1_2.1.Postings.length : Int))).Period (GEntry.mk a2 (ix r1_2.1.Postings ((bAnd .i64 (bShr .i64 a1 4) 31).tmod (r1_2.1.Postings.length : Int))).Entry.Treaty (ix r1_2.1.Postings ((bAnd .i64 (bShr .i64 a1 4) 31).tmod (r1_2.1.Postings.length : Int))).Entry.Party (ix r1_2.1.Postings ((bAnd .i64 (bShr .i64 a1 4) 31).tmod (r1_2.1.Postings.length : Int))).Entry.Loss (ix r1_2.1.Postings ((bAnd .i64 (bShr .i64 a1 4) 31).tmod (r1_2.1.Postings.length : Int))).Entry.Amount)))), ()) rfl ⟨rfl, rfl, rfl, rfl, trivial⟩ (fun _ h => h.to ⟨_, (rs r0), ⟨_, (rs r0), ⟨_, (rs r0), ⟨_, (rs r0), ⟨_, (rs r0), trivial⟩⟩⟩⟩⟩ ⟨m0, trivial⟩)
              · have h := ifF h hg8_t3
                rcases Bool.eq_false_or_eq_true (decide ((bAnd .i64 a1 15) = 4)) with hg8_t4 | hg8_t4
                · have h := ifT h hg8_t4
                  refine wl_det rfl rfl (det_loadT (k := 4) (i := (bAnd .i64 a1 15)) rfl m0 hg8_t4 rfl na65 us65) rfl ?_
                  refine wl_det rfl rfl (det_move rfl) rfl ?_
                  refine wl_det rfl rfl (det_nilCheckO rfl (ms (ms (ms (ms (ms m0))))) k4_p2) rfl ?_
                  refine wl_act0 (act_storeO (cells := [_]) (off := 3) (GPosting.mk (ix r1_2.1.Postings ((bAnd .i64 (bShr .i64 a1 4) 31).tmod (r1_2.1.Postings.length : Int))).Number (ix r1_2.1.Postings ((bAnd .i64 (bShr .i64 a1 4) 31).tmod (r1_2.1.Postings.length : Int))).Period (GEntry.mk (ix r1_2.1.Postings ((bAnd .i64 (bShr .i64 a1 4) 31).tmod (r1_2.1.Postings.length : Int))).Entry.Kind a2 (ix r1_2.1.Postings ((bAnd .i64 (bShr .i64 a1 4) 31).tmod (r1_2.1.Postings.length : Int))).Entry.Party (ix r1_2.1.Postings ((bAnd .i64 (bShr .i64 a1 4) 31).tmod (r1_2.1.Postings.length : Int))).Entry.Loss (ix r1_2.1.Postings ((bAnd .i64 (bShr .i64 a1 4) 31).tmod (r1_2.1.Postings.length : Int))).Entry.Amount)) rfl rfl rfl (ss (ss (ss (ss (ss s0))))) k4_p2 (by rfl) sz3 (by intro u hu; simp at hu; rcases hu with rfl <;> rfl) (stR_flat rfl rfl)) rfl rfl ?_
                  rintro _ _ _ ⟨rfl, rfl⟩
                  refine wl_nil ?_
                  replace h := Option.some.inj h
                  subst h
                  exact pn_meetG ((r1_2.1.Closed, (upd r1_2.1.Postings ((bAnd .i64 (bShr .i64 a1 4) 31).tmod (r1_2.1.Postings.length : Int)) (GPosting.mk (ix r1_2.1.Postings ((bAnd .i64 (bShr .i64 a1 4) 31).tmod (r1_2.1.Postings.length : Int))).Number (ix r1_2.1.Postings ((bAnd .i64 (bShr .i64 a1 4) 31).tmod (r1_2.1.Postings.length : Int))).Period (GEntry.mk (ix r1_2.1.Postings ((bAnd .i64 (bShr .i64 a1 4) 31).tmod (r1_2.1.Postings.length : Int))).Entry.Kind a2 (ix r1_2.1.Postings ((bAnd .i64 (bShr .i64 a1 4) 31).tmod (r1_2.1.Postings.length : Int))).Entry.Party (ix r1_2.1.Postings ((bAnd .i64 (bShr .i64 a1 4) 31).tmod (r1_2.1.Postings.length : Int))).Entry.Loss (ix r1_2.1.Postings ((bAnd .i64 (bShr .i64 a1 4) 31).tmod (r1_2.1.Postings.length : Int))).Entry.Amount)))), ()) rfl ⟨rfl, rfl, rfl, rfl, trivial⟩ (fun _ h => h.to ⟨_, (rs r0), ⟨_, (rs r0), ⟨_, (rs r0), ⟨_, (rs r0), ⟨_, (rs r0), trivial⟩⟩⟩⟩⟩ ⟨m0, trivial⟩)
                · have h := ifF h hg8_t4
                  rcases Bool.eq_false_or_eq_true (decide ((bAnd .i64 a1 15) = 5)) with hg8_t5 | hg8_t5
                  · have h := ifT h hg8_t5
                    refine wl_det rfl rfl (det_loadT (k := 5) (i := (bAnd .i64 a1 15)) rfl m0 hg8_t5 rfl na65 us65) rfl ?_
                    refine wl_det rfl rfl (det_move rfl) rfl ?_
                    refine wl_det rfl rfl (det_nilCheckO rfl (ms (ms (ms (ms (ms m0))))) k4_p2) rfl ?_
                    refine wl_act0 (act_storeO (cells := [_]) (off := 4) (GPosting.mk (ix r1_2.1.Postings ((bAnd .i64 (bShr .i64 a1 4) 31).tmod (r1_2.1.Postings.length : Int))).Number (ix r1_2.1.Postings ((bAnd .i64 (bShr .i64 a1 4) 31).tmod (r1_2.1.Postings.length : Int))).Period (GEntry.mk (ix r1_2.1.Postings ((bAnd .i64 (bShr .i64 a1 4) 31).tmod (r1_2.1.Postings.length : Int))).Entry.Kind (ix r1_2.1.Postings ((bAnd .i64 (bShr .i64 a1 4) 31).tmod (r1_2.1.Postings.length : Int))).Entry.Treaty a2 (ix r1_2.1.Postings ((bAnd .i64 (bShr .i64 a1 4) 31).tmod (r1_2.1.Postings.length : Int))).Entry.Loss (ix r1_2.1.Postings ((bAnd .i64 (bShr .i64 a1 4) 31).tmod (r1_2.1.Postings.length : Int))).Entry.Amount)) rfl rfl rfl (ss (ss (ss (ss (ss s0))))) k4_p2 (by rfl) sz3 (by intro u hu; simp at hu; rcases hu with rfl <;> rfl) (stR_flat rfl rfl)) rfl rfl ?_
                    rintro _ _ _ ⟨rfl, rfl⟩
                    refine wl_nil ?_
                    replace h := Option.some.inj h
                    subst h
                    exact pn_meetG ((r1_2.1.Closed, (upd r1_2.1.Postings ((bAnd .i64 (bShr .i64 a1 4) 31).tmod (r1_2.1.Postings.length : Int)) (GPosting.mk (ix r1_2.1.Postings ((bAnd .i64 (bShr .i64 a1 4) 31).tmod (r1_2.1.Postings.length : Int))).Number (ix r1_2.1.Postings ((bAnd .i64 (bShr .i64 a1 4) 31).tmod (r1_2.1.Postings.length : Int))).Period (GEntry.mk (ix r1_2.1.Postings ((bAnd .i64 (bShr .i64 a1 4) 31).tmod (r1_2.1.Postings.length : Int))).Entry.Kind (ix r1_2.1.Postings ((bAnd .i64 (bShr .i64 a1 4) 31).tmod (r1_2.1.Postings.length : Int))).Entry.Treaty a2 (ix r1_2.1.Postings ((bAnd .i64 (bShr .i64 a1 4) 31).tmod (r1_2.1.Postings.length : Int))).Entry.Loss (ix r1_2.1.Postings ((bAnd .i64 (bShr .i64 a1 4) 31).tmod (r1_2.1.Postings.length : Int))).Entry.Amount)))), ()) rfl ⟨rfl, rfl, rfl, rfl, trivial⟩ (fun _ h => h.to ⟨_, (rs r0), ⟨_, (rs r0), ⟨_, (rs r0), ⟨_, (rs r0), ⟨_, (rs r0), trivial⟩⟩⟩⟩⟩ ⟨m0, trivial⟩)
                  · have h := ifF h hg8_t5
                    rcases Bool.eq_false_or_eq_true (decide ((bAnd .i64 a1 15) = 6)) with hg8_t6 | hg8_t6
                    · have h := ifT h hg8_t6
                      refine wl_det rfl rfl (det_loadT (k := 6) (i := (bAnd .i64 a1 15)) rfl m0 hg8_t6 rfl na65 us65) rfl ?_
                      refine wl_det rfl rfl (det_move rfl) rfl ?_
                      refine wl_det rfl rfl (det_nilCheckO rfl (ms (ms (ms (ms (ms m0))))) k4_p2) rfl ?_
                      refine wl_act0 (act_storeO (cells := [_]) (off := 5) (GPosting.mk (ix r1_2.1.Postings ((bAnd .i64 (bShr .i64 a1 4) 31).tmod (r1_2.1.Postings.length : Int))).Number (ix r1_2.1.Postings ((bAnd .i64 (bShr .i64 a1 4) 31).tmod (r1_2.1.Postings.length : Int))).Period (GEntry.mk (ix r1_2.1.Postings ((bAnd .i64 (bShr .i64 a1 4) 31).tmod (r1_2.1.Postings.length : Int))).Entry.Kind (ix r1_2.1.Postings ((bAnd .i64 (bShr .i64 a1 4) 31).tmod (r1_2.1.Postings.length : Int))).Entry.Treaty (ix r1_2.1.Postings ((bAnd .i64 (bShr .i64 a1 4) 31).tmod (r1_2.1.Postings.length : Int))).Entry.Party a2 (ix r1_2.1.Postings ((bAnd .i64 (bShr .i64 a1 4) 31).tmod (r1_2.1.Postings.length : Int))).Entry.Amount)) rfl rfl rfl (ss (ss (ss (ss (ss s0))))) k4_p2 (by rfl) sz3 (by intro u hu; simp at hu; rcases hu with rfl <;> rfl) (stR_flat rfl rfl)) rfl rfl ?_
                      rintro _ _ _ ⟨rfl, rfl⟩
                      refine wl_nil ?_
                      replace h := Option.some.inj h
                      subst h
                      exact pn_meetG ((r1_2.1.Closed, (upd r1_2.1.Postings ((bAnd .i64 (bShr .i64 a1 4) 31).tmod (r1_2.1.Postings.length : Int)) (GPosting.mk (ix r1_2.1.Postings ((bAnd .i64 (bShr .i64 a1 4) 31).tmod (r1_2.1.Postings.length : Int))).Number (ix r1_2.1.Postings ((bAnd .i64 (bShr .i64 a1 4) 31).tmod (r1_2.1.Postings.length : Int))).Period (GEntry.mk (ix r1_2.1.Postings ((bAnd .i64 (bShr .i64 a1 4) 31).tmod (r1_2.1.Postings.length : Int))).Entry.Kind (ix r1_2.1.Postings ((bAnd .i64 (bShr .i64 a1 4) 31).tmod (r1_2.1.Postings.length : Int))).Entry.Treaty (ix r1_2.1.Postings ((bAnd .i64 (bShr .i64 a1 4) 31).tmod (r1_2.1.Postings.length : Int))).Entry.Party a2 (ix r1_2.1.Postings ((bAnd .i64 (bShr .i64 a1 4) 31).tmod (r1_2.1.Postings.length : Int))).Entry.Amount)))), ()) rfl ⟨rfl, rfl, rfl, rfl, trivial⟩ (fun _ h => h.to ⟨_, (rs r0), ⟨_, (rs r0), ⟨_, (rs r0), ⟨_, (rs r0), ⟨_, (rs r0), trivial⟩⟩⟩⟩⟩ ⟨m0, trivial⟩)
                    · have h := ifF h hg8_t6
                      refine wl_det rfl rfl (det_loadT (k := 7) (i := (bAnd .i64 a1 15)) rfl m0 (by simp only [decide_eq_true_eq, decide_eq_false_iff_not] at k8_2 k8_2a hg8_t0 hg8_t1 hg8_t2 hg8_t3 hg8_t4 hg8_t5 hg8_t6 ⊢; omega) rfl na65 us65) rfl ?_
                      refine wl_det rfl rfl (det_move rfl) rfl ?_
                      refine wl_det rfl rfl (det_nilCheckO rfl (ms (ms (ms (ms (ms m0))))) k4_p2) rfl ?_
                      refine wl_act0 (act_storeO (cells := [_]) (off := 6) (GPosting.mk (ix r1_2.1.Postings ((bAnd .i64 (bShr .i64 a1 4) 31).tmod (r1_2.1.Postings.length : Int))).Number (ix r1_2.1.Postings ((bAnd .i64 (bShr .i64 a1 4) 31).tmod (r1_2.1.Postings.length : Int))).Period (GEntry.mk (ix r1_2.1.Postings ((bAnd .i64 (bShr .i64 a1 4) 31).tmod (r1_2.1.Postings.length : Int))).Entry.Kind (ix r1_2.1.Postings ((bAnd .i64 (bShr .i64 a1 4) 31).tmod (r1_2.1.Postings.length : Int))).Entry.Treaty (ix r1_2.1.Postings ((bAnd .i64 (bShr .i64 a1 4) 31).tmod (r1_2.1.Postings.length : Int))).Entry.Party (ix r1_2.1.Postings ((bAnd .i64 (bShr .i64 a1 4) 31).tmod (r1_2.1.Postings.length : Int))).Entry.Loss a2)) rfl rfl rfl (ss (ss (ss (ss (ss s0))))) k4_p2 (by rfl) sz3 (by intro u hu; simp at hu; rcases hu with rfl <;> rfl) (stR_flat rfl rfl)) rfl rfl ?_
                      rintro _ _ _ ⟨rfl, rfl⟩
                      refine wl_nil ?_
                      replace h := Option.some.inj h
                      subst h
                      exact pn_meetG ((r1_2.1.Closed, (upd r1_2.1.Postings ((bAnd .i64 (bShr .i64 a1 4) 31).tmod (r1_2.1.Postings.length : Int)) (GPosting.mk (ix r1_2.1.Postings ((bAnd .i64 (bShr .i64 a1 4) 31).tmod (r1_2.1.Postings.length : Int))).Number (ix r1_2.1.Postings ((bAnd .i64 (bShr .i64 a1 4) 31).tmod (r1_2.1.Postings.length : Int))).Period (GEntry.mk (ix r1_2.1.Postings ((bAnd .i64 (bShr .i64 a1 4) 31).tmod (r1_2.1.Postings.length : Int))).Entry.Kind (ix r1_2.1.Postings ((bAnd .i64 (bShr .i64 a1 4) 31).tmod (r1_2.1.Postings.length : Int))).Entry.Treaty (ix r1_2.1.Postings ((bAnd .i64 (bShr .i64 a1 4) 31).tmod (r1_2.1.Postings.length : Int))).Entry.Party (ix r1_2.1.Postings ((bAnd .i64 (bShr .i64 a1 4) 31).tmod (r1_2.1.Postings.length : Int))).Entry.Loss a2)))), ()) rfl ⟨rfl, rfl, rfl, rfl, trivial⟩ (fun _ h => h.to ⟨_, (rs r0), ⟨_, (rs r0), ⟨_, (rs r0), ⟨_, (rs r0), ⟨_, (rs r0), trivial⟩⟩⟩⟩⟩ ⟨m0, trivial⟩)
      · have h := ifF h c18
        refine wc_skip ?_
        replace h := Option.some.inj h
        subst h
        exact pn_meetG ((r1_2.1.Closed, r1_2.1.Postings), ()) rfl ⟨rfl, rfl, rfl, rfl, trivial⟩ (fun _ h => h.to ⟨_, (rs r0), ⟨_, (rs r0), ⟨_, (rs r0), ⟨_, (rs r0), ⟨_, (rs r0), trivial⟩⟩⟩⟩⟩ ⟨m0, trivial⟩)
    · have h := ifF h c9
      refine wc_skip ?_
      replace h := Option.some.inj h
      subst h
      exact pn_meetG ((r1_2.1.Closed, r1_2.1.Postings), ()) rfl ⟨rfl, rfl, rfl, rfl, trivial⟩ (fun _ h => h.to ⟨_, r0, ⟨_, r0, ⟨_, r0, ⟨_, r0, ⟨_, r0, trivial⟩⟩⟩⟩⟩ ⟨m0, trivial⟩)
  rintro ⟨s6, _⟩ e6
  dsimp only at e6 ⊢
  subst e6
  have h := ho6
  refine wc_seq ?_
  refine dx_regionZ (Z := St C [_, _, _, _] [_]) 3 [[], [], [0], [0, 1, 2]] mixed (ord := (.det 0 (.det 1 (.alt 2 .done .dead)))) (by kernel_rfl) (fun _ h => h.to ⟨_, (rs r0), ⟨_, (rs r0), ⟨_, (rs r0), ⟨_, (rs r0), trivial⟩⟩⟩⟩ ⟨m0, trivial⟩) ?_   -- region 9
  refine hx_det rfl rfl rfl nofun (det_loadN (cells := [_, _]) rfl (ms m0) (by rfl) ag25 sz25) rfl ?_
  refine hx_det rfl rfl rfl nofun (det_loadN (cells := [_, _]) rfl (ms (ms m0)) (by rfl) ag25 sz25) rfl ?_
  refine hx_mut0 rfl rfl rfl (act_store (cells := [_, _]) (cs' := [_, _]) rfl rfl rfl s0 (by rfl) (of_decide_eq_true rfl) sz25 ⟨rfl, rfl, trivial⟩) (by rintro _ _ _ ⟨rfl, rfl⟩ w hs; exact hs.to ⟨_, (rs r0), ⟨_, (rs r0), ⟨_, (rs r0), ⟨_, (rs r0), trivial⟩⟩⟩⟩ ⟨m0, trivial⟩) ?_
  rintro _ _ _ ⟨rfl, rfl⟩
  refine hx_end ?_
  refine wl_act0 (act_store (cells := [_, _]) (cs' := [_, _]) rfl rfl rfl (ss s0) (by rfl) (of_decide_eq_true rfl) sz25 ⟨rfl, rfl, trivial⟩) rfl rfl ?_
  rintro _ _ _ ⟨rfl, rfl⟩
  refine wl_nil ?_
  refine pn_then ?_
  refine wc_ret ?_
  replace h := Option.some.inj h
  subst h
  refine pn_ret (vs := [_, _]) rfl ⟨⟨_, _, [_, _], rfl, m0, ag25, sz25, rfl⟩, ⟨_, _, [_, _], rfl, (ms m0), ag25, sz25, rfl⟩, trivial⟩ ⟨y1_2A0, r1_2.1.Postings.length, y1_2c0, A4_1, r1_2.1.Postings.length, c4_1, rfl, rfl, rfl⟩ (fun _ h => h.to ⟨_, (rs (rs (rs (rs r0)))), trivial⟩ ⟨m0, trivial⟩)
def Q_amount_Valid (r : Bool) : Value → List Ent → List Fact → Prop := fun v θ κ => v = .bool r ∧ θ = [] ∧ κ = []
theorem plains_amount_Valid {r : Bool} : ∀ v θ κ, Q_amount_Valid r v θ κ → Plains θ := by
  rintro _ _ _ ⟨rfl, rfl, rfl⟩
  exact trivial
set_option maxHeartbeats 4000000 in
set_option maxRecDepth 100000 in
theorem W_amount_Valid (a0 : Int) (r : Bool) (h : amount_Valid a0 = some r) : Spec Try.prog 43 [.int .i64 a0] [] [] (Q_amount_Valid r) := by
  unfold amount_Valid at h
  refine spec_of (σ := [(0, _)]) Try.func43 rfl rfl rfl rfl ?_
  intro C
  refine wc_seq ?_
  refine wc_region ?_   -- region 0
  refine wl_det rfl rfl (det_assign rfl) rfl ?_
  refine wl_nil ?_
  refine pn_then ?_
  refine wc_seq ?_
  refine wc_region ?_   -- region 1
  refine wl_det rfl rfl (det_move rfl) rfl ?_
  refine wl_det rfl rfl (det_leq rfl rfl) rfl ?_
  refine wl_det rfl rfl (det_move rfl) rfl ?_
  refine wl_way (decide ((-17592186044416) ≤ a0)) ((decide ((-17592186044416) ≤ a0)) && (decide (a0 ≤ 17592186044416))) 3 8 (fun hg => ?_) (fun hg => ?_) ?_
  · have hg1_5 := hg
    refine wl_on rfl rfl rfl rfl hg1_5 ?_
    refine wl_det rfl rfl (det_move rfl) rfl ?_
    refine wl_on rfl rfl rfl rfl hg1_5 ?_
    refine wl_det rfl rfl (det_leq rfl rfl) rfl ?_
    refine wl_det rfl rfl (det_and_on rfl rfl rfl hg1_5) rfl ?_
    exact wl_nil (pn_qnE (ext_cons rfl (ext_skip rfl (ext_skip rfl (ext_skip rfl ext_refl)))) (fun _ h => h))
  · have hg1_5a := hg
    refine wl_off rfl rfl rfl rfl rfl hg1_5a rfl ?_
    refine wl_off rfl rfl rfl rfl rfl hg1_5a rfl ?_
    refine wl_det rfl rfl (det_and_off (q := (decide (a0 ≤ 17592186044416))) rfl rfl rfl hg1_5a) rfl ?_
    exact wl_nil (pn_qnE (ext_cons rfl (ext_skip rfl (ext_skip rfl (ext_skip rfl ext_refl)))) (fun _ h => h))
  refine wl_det rfl rfl (det_assign rfl) rfl ?_
  refine wl_nil ?_
  refine pn_then ?_
  refine wc_ret ?_
  replace h := Option.some.inj h
  subst h
  refine pn_ret (vs := [_]) rfl ⟨rfl, trivial⟩ ⟨rfl, rfl, rfl⟩ (fun _ h => h.to trivial trivial)
def Q_ledger_Valid (r : Bool) : Value → List Ent → List Fact → Prop := fun v θ κ => v = .bool r ∧ θ = [] ∧ κ = []
theorem plains_ledger_Valid {r : Bool} : ∀ v θ κ, Q_ledger_Valid r v θ κ → Plains θ := by
  rintro _ _ _ ⟨rfl, rfl, rfl⟩
  exact trivial
set_option maxHeartbeats 4000000 in
set_option maxRecDepth 100000 in
theorem W_ledger_Valid (a0 : GEntry) (r : Bool) (h : ledger_Valid a0 = some r) : Spec Try.prog 40 [.agg #[.int .i64 a0.Kind, .int .i64 a0.Treaty, .int .i64 a0.Party, .int .i64 a0.Loss, .int .i64 a0.Amount]] [] [] (Q_ledger_Valid r) := by
  unfold ledger_Valid at h
  refine spec_of (σ := [(0, _)]) Try.func40 rfl rfl rfl rfl ?_
  intro C
  refine wc_seq ?_
  refine wc_region ?_   -- region 0
  refine wl_act (act_box (cs := [_, _, _, _, _]) rfl rfl) rfl rfl rfl ?_
  rintro _ _ _ ⟨b0_0, rfl, rfl, rfl⟩
  refine wl_det rfl rfl (det_assign rfl) rfl ?_
  refine wl_nil ?_
  refine pn_then ?_
  refine wc_seq ?_
  refine wc_seq ?_
  refine wc_region ?_   -- region 1
  refine wl_det rfl rfl (det_field rfl fd46_0 rfl) rfl ?_
  refine wl_det rfl rfl (det_load rfl m0 (by rfl) na3 us3) rfl ?_
  refine wl_det rfl rfl (det_lss rfl rfl) rfl ?_
  refine wl_det rfl rfl (det_move rfl) rfl ?_
  refine wl_way (decide (a0.Kind < 1)) ((decide (a0.Kind < 1)) || (decide (5 < a0.Kind))) 4 10 (fun hg => ?_) (fun hg => ?_) ?_
  · have hg1_7 := hg
    refine wl_off rfl rfl rfl rfl rfl hg1_7 rfl ?_
    refine wl_off rfl rfl rfl rfl rfl hg1_7 rfl ?_
    refine wl_off rfl rfl rfl rfl rfl hg1_7 rfl ?_
    refine wl_det rfl rfl (det_or_on (r := (decide (5 < a0.Kind))) rfl rfl rfl hg1_7) rfl ?_
    exact wl_nil (pn_qnE (ext_cons rfl (ext_skip rfl (ext_skip rfl (ext_skip rfl (ext_skip rfl ext_refl))))) (fun _ h => h))
  · have hg1_7a := hg
    refine wl_on rfl rfl rfl rfl hg1_7a ?_
    refine wl_det rfl rfl (det_field rfl fd46_0 rfl) rfl ?_
    refine wl_on rfl rfl rfl rfl hg1_7a ?_
    refine wl_det rfl rfl (det_load rfl m0 (by rfl) na3 us3) rfl ?_
    refine wl_on rfl rfl rfl rfl hg1_7a ?_
    refine wl_det rfl rfl (det_gtr rfl rfl) rfl ?_
    refine wl_det rfl rfl (det_or_off rfl rfl rfl hg1_7a) rfl ?_
    exact wl_nil (pn_qnE (ext_cons rfl (ext_skip rfl (ext_skip rfl (ext_skip rfl (ext_skip rfl ext_refl))))) (fun _ h => h))
  refine wl_det rfl rfl (det_move rfl) rfl ?_
  refine wl_way ((decide (a0.Kind < 1)) || (decide (5 < a0.Kind))) (((decide (a0.Kind < 1)) || (decide (5 < a0.Kind))) || (decide (a0.Treaty < 0))) 4 15 (fun hg => ?_) (fun hg => ?_) ?_
  · have hg1_12 := hg
    refine wl_off rfl rfl rfl rfl rfl hg1_12 rfl ?_
    refine wl_off rfl rfl rfl rfl rfl hg1_12 rfl ?_
    refine wl_off rfl rfl rfl rfl rfl hg1_12 rfl ?_
    refine wl_det rfl rfl (det_or_on (r := (decide (a0.Treaty < 0))) rfl rfl rfl hg1_12) rfl ?_
    exact wl_nil (pn_qnE (ext_cons rfl (ext_skip rfl (ext_skip rfl (ext_skip rfl (ext_skip rfl ext_refl))))) (fun _ h => h))
  · have hg1_12a := hg
    refine wl_on rfl rfl rfl rfl hg1_12a ?_
    refine wl_det rfl rfl (det_field rfl fd46_1 rfl) rfl ?_
    refine wl_on rfl rfl rfl rfl hg1_12a ?_
    refine wl_det rfl rfl (det_load rfl m0 (by rfl) na3 us3) rfl ?_
    refine wl_on rfl rfl rfl rfl hg1_12a ?_
    refine wl_det rfl rfl (det_lss rfl rfl) rfl ?_
    refine wl_det rfl rfl (det_or_off rfl rfl rfl hg1_12a) rfl ?_
    exact wl_nil (pn_qnE (ext_cons rfl (ext_skip rfl (ext_skip rfl (ext_skip rfl (ext_skip rfl ext_refl))))) (fun _ h => h))
  refine wl_det rfl rfl (det_move rfl) rfl ?_
  refine wl_way (((decide (a0.Kind < 1)) || (decide (5 < a0.Kind))) || (decide (a0.Treaty < 0))) ((((decide (a0.Kind < 1)) || (decide (5 < a0.Kind))) || (decide (a0.Treaty < 0))) || (decide (1048576 < a0.Treaty))) 4 20 (fun hg => ?_) (fun hg => ?_) ?_
  · have hg1_17 := hg
    refine wl_off rfl rfl rfl rfl rfl hg1_17 rfl ?_
    refine wl_off rfl rfl rfl rfl rfl hg1_17 rfl ?_
    refine wl_off rfl rfl rfl rfl rfl hg1_17 rfl ?_
    refine wl_det rfl rfl (det_or_on (r := (decide (1048576 < a0.Treaty))) rfl rfl rfl hg1_17) rfl ?_
    exact wl_nil (pn_qnE (ext_cons rfl (ext_skip rfl (ext_skip rfl (ext_skip rfl (ext_skip rfl ext_refl))))) (fun _ h => h))
  · have hg1_17a := hg
    refine wl_on rfl rfl rfl rfl hg1_17a ?_
    refine wl_det rfl rfl (det_field rfl fd46_1 rfl) rfl ?_
    refine wl_on rfl rfl rfl rfl hg1_17a ?_
    refine wl_det rfl rfl (det_load rfl m0 (by rfl) na3 us3) rfl ?_
    refine wl_on rfl rfl rfl rfl hg1_17a ?_
    refine wl_det rfl rfl (det_gtr rfl rfl) rfl ?_
    refine wl_det rfl rfl (det_or_off rfl rfl rfl hg1_17a) rfl ?_
    exact wl_nil (pn_qnE (ext_cons rfl (ext_skip rfl (ext_skip rfl (ext_skip rfl (ext_skip rfl ext_refl))))) (fun _ h => h))
  refine wl_nil ?_
  refine pn_then ?_
  refine wc_cond rfl (fun c5 => ?_) (fun c5 => ?_)
  · have h := ifT h c5
    refine wc_seq ?_
    refine wc_region ?_   -- region 2
    refine wl_det rfl rfl (det_assign rfl) rfl ?_
    refine wl_nil ?_
    refine pn_then ?_
    refine wc_ret ?_
    refine pr_then ?_
    replace h := Option.some.inj h
    subst h
    refine pn_ret (vs := [_]) rfl ⟨rfl, trivial⟩ ⟨rfl, rfl, rfl⟩ (fun _ h => h.to trivial trivial)
  · have h := ifF h c5
    refine wc_skip ?_
    refine pn_then ?_
    refine wc_seq ?_
    refine wc_seq ?_
    refine wc_region ?_   -- region 3
    refine wl_det rfl rfl (det_field rfl fd46_2 rfl) rfl ?_
    refine wl_det rfl rfl (det_load rfl m0 (by rfl) na3 us3) rfl ?_
    refine wl_det rfl rfl (det_lss rfl rfl) rfl ?_
    refine wl_det rfl rfl (det_move rfl) rfl ?_
    refine wl_way (decide (a0.Party < 0)) ((decide (a0.Party < 0)) || (decide (15 < a0.Party))) 4 28 (fun hg => ?_) (fun hg => ?_) ?_
    · have hg3_7 := hg
      refine wl_off rfl rfl rfl rfl rfl hg3_7 rfl ?_
      refine wl_off rfl rfl rfl rfl rfl hg3_7 rfl ?_
      refine wl_off rfl rfl rfl rfl rfl hg3_7 rfl ?_
      refine wl_det rfl rfl (det_or_on (r := (decide (15 < a0.Party))) rfl rfl rfl hg3_7) rfl ?_
      exact wl_nil (pn_qnE (ext_cons rfl (ext_skip rfl (ext_skip rfl (ext_skip rfl (ext_skip rfl ext_refl))))) (fun _ h => h))
    · have hg3_7a := hg
      refine wl_on rfl rfl rfl rfl hg3_7a ?_
      refine wl_det rfl rfl (det_field rfl fd46_2 rfl) rfl ?_
      refine wl_on rfl rfl rfl rfl hg3_7a ?_
      refine wl_det rfl rfl (det_load rfl m0 (by rfl) na3 us3) rfl ?_
      refine wl_on rfl rfl rfl rfl hg3_7a ?_
      refine wl_det rfl rfl (det_gtr rfl rfl) rfl ?_
      refine wl_det rfl rfl (det_or_off rfl rfl rfl hg3_7a) rfl ?_
      exact wl_nil (pn_qnE (ext_cons rfl (ext_skip rfl (ext_skip rfl (ext_skip rfl (ext_skip rfl ext_refl))))) (fun _ h => h))
    refine wl_det rfl rfl (det_move rfl) rfl ?_
    obtain ⟨q3_13, hq3_13, h⟩ := bind_some h
    have ho3_13 := h
    refine wl_way ((decide (a0.Party < 0)) || (decide (15 < a0.Party))) q3_13 5 34 (fun hg => ?_) (fun hg => ?_) ?_
    · have hg3_13 := hg
      have h := ifT hq3_13 hg
      refine wl_off rfl rfl rfl rfl rfl hg3_13 rfl ?_
      refine wl_off rfl rfl rfl rfl rfl hg3_13 rfl ?_
      refine wl_off rfl rfl rfl rfl rfl hg3_13 rfl ?_
      refine wl_off rfl rfl rfl rfl rfl hg3_13 rfl ?_
      replace h := Option.some.inj h
      subst h
      refine wl_det rfl rfl (det_pick_on rfl hg3_13 rfl rfl) rfl ?_
      exact wl_nil (pn_qnE (ext_cons rfl (ext_skip rfl (ext_skip rfl (ext_skip rfl (ext_skip rfl (ext_skip rfl ext_refl)))))) (fun _ h => h))
    · have hg3_13a := hg
      have h := ifF hq3_13 hg
      refine wl_on rfl rfl rfl rfl hg3_13a ?_
      refine wl_det rfl rfl (det_field rfl fd46_4 rfl) rfl ?_
      refine wl_on rfl rfl rfl rfl hg3_13a ?_
      refine wl_det rfl rfl (det_load rfl m0 (by rfl) na3 us3) rfl ?_
      refine wl_on rfl rfl rfl rfl hg3_13a ?_
      obtain ⟨r3_11, hr3_11, h⟩ := bind_some h
      refine wl_act (act_callS (cap := []) (W_amount_Valid a0.Amount r3_11 hr3_11) rfl rfl rfl bd43 rfl trivial) rfl rfl rfl ?_
      rintro _ _ _ ⟨_, _, ⟨rfl, rfl, rfl⟩, rfl, rfl⟩
      dsimp only [List.nil_append, List.cons_append]
      refine wl_on rfl rfl rfl rfl hg3_13a ?_
      refine wl_det rfl rfl (det_not rfl) rfl ?_
      replace h := Option.some.inj h
      subst h
      refine wl_det rfl rfl (det_pick_off rfl hg3_13a rfl rfl) rfl ?_
      exact wl_nil (pn_qnE (ext_cons rfl (ext_skip rfl (ext_skip rfl (ext_skip rfl (ext_skip rfl (ext_skip rfl ext_refl)))))) (fun _ h => h))
    have h := ho3_13
    refine wl_nil ?_
    refine pn_then ?_
    refine wc_cond rfl (fun c11 => ?_) (fun c11 => ?_)
    · have h := ifT h c11
      refine wc_seq ?_
      refine wc_region ?_   -- region 4
      refine wl_det rfl rfl (det_assign rfl) rfl ?_
      refine wl_nil ?_
      refine pn_then ?_
      refine wc_ret ?_
      refine pr_then ?_
      replace h := Option.some.inj h
      subst h
      refine pn_ret (vs := [_]) rfl ⟨rfl, trivial⟩ ⟨rfl, rfl, rfl⟩ (fun _ h => h.to trivial trivial)
    · have h := ifF h c11
      refine wc_skip ?_
      refine pn_then ?_
      refine wc_seq ?_
      refine wc_seq ?_
      refine wc_region ?_   -- region 5
      refine wl_det rfl rfl (det_field rfl fd46_0 rfl) rfl ?_
      refine wl_det rfl rfl (det_load rfl m0 (by rfl) na3 us3) rfl ?_
      refine wl_det rfl rfl (det_eql rfl rfl) rfl ?_
      refine wl_det rfl rfl (det_move rfl) rfl ?_
      refine wl_way (decide (a0.Kind = 1)) ((decide (a0.Kind = 1)) || (decide (a0.Kind = 2))) 4 42 (fun hg => ?_) (fun hg => ?_) ?_
      · have hg5_7 := hg
        refine wl_off rfl rfl rfl rfl rfl hg5_7 rfl ?_
        refine wl_off rfl rfl rfl rfl rfl hg5_7 rfl ?_
        refine wl_off rfl rfl rfl rfl rfl hg5_7 rfl ?_
        refine wl_det rfl rfl (det_or_on (r := (decide (a0.Kind = 2))) rfl rfl rfl hg5_7) rfl ?_
        exact wl_nil (pn_qnE (ext_cons rfl (ext_skip rfl (ext_skip rfl (ext_skip rfl (ext_skip rfl ext_refl))))) (fun _ h => h))
      · have hg5_7a := hg
        refine wl_on rfl rfl rfl rfl hg5_7a ?_
        refine wl_det rfl rfl (det_field rfl fd46_0 rfl) rfl ?_
        refine wl_on rfl rfl rfl rfl hg5_7a ?_
        refine wl_det rfl rfl (det_load rfl m0 (by rfl) na3 us3) rfl ?_
        refine wl_on rfl rfl rfl rfl hg5_7a ?_
        refine wl_det rfl rfl (det_eql rfl rfl) rfl ?_
        refine wl_det rfl rfl (det_or_off rfl rfl rfl hg5_7a) rfl ?_
        exact wl_nil (pn_qnE (ext_cons rfl (ext_skip rfl (ext_skip rfl (ext_skip rfl (ext_skip rfl ext_refl))))) (fun _ h => h))
      refine wl_nil ?_
      refine pn_then ?_
      refine wc_cond rfl (fun c17 => ?_) (fun c17 => ?_)
      · have h := ifT h c17
        refine wc_seq ?_
        refine wc_region ?_   -- region 6
        refine wl_det rfl rfl (det_field rfl fd46_3 rfl) rfl ?_
        refine wl_det rfl rfl (det_load rfl m0 (by rfl) na3 us3) rfl ?_
        refine wl_det rfl rfl (det_leq rfl rfl) rfl ?_
        refine wl_det rfl rfl (det_move rfl) rfl ?_
        refine wl_way (decide (1 ≤ a0.Loss)) ((decide (1 ≤ a0.Loss)) && (decide (a0.Loss ≤ 1048576))) 4 50 (fun hg => ?_) (fun hg => ?_) ?_
        · have hg6_7 := hg
          refine wl_on rfl rfl rfl rfl hg6_7 ?_
          refine wl_det rfl rfl (det_field rfl fd46_3 rfl) rfl ?_
          refine wl_on rfl rfl rfl rfl hg6_7 ?_
          refine wl_det rfl rfl (det_load rfl m0 (by rfl) na3 us3) rfl ?_
          refine wl_on rfl rfl rfl rfl hg6_7 ?_
          refine wl_det rfl rfl (det_leq rfl rfl) rfl ?_
          refine wl_det rfl rfl (det_and_on rfl rfl rfl hg6_7) rfl ?_
          exact wl_nil (pn_qnE (ext_cons rfl (ext_skip rfl (ext_skip rfl (ext_skip rfl (ext_skip rfl ext_refl))))) (fun _ h => h))
        · have hg6_7a := hg
          refine wl_off rfl rfl rfl rfl rfl hg6_7a rfl ?_
          refine wl_off rfl rfl rfl rfl rfl hg6_7a rfl ?_
          refine wl_off rfl rfl rfl rfl rfl hg6_7a rfl ?_
          refine wl_det rfl rfl (det_and_off (q := (decide (a0.Loss ≤ 1048576))) rfl rfl rfl hg6_7a) rfl ?_
          exact wl_nil (pn_qnE (ext_cons rfl (ext_skip rfl (ext_skip rfl (ext_skip rfl (ext_skip rfl ext_refl))))) (fun _ h => h))
        refine wl_det rfl rfl (det_assign rfl) rfl ?_
        refine wl_nil ?_
        refine pn_then ?_
        refine wc_ret ?_
        refine pr_then ?_
        replace h := Option.some.inj h
        subst h
        refine pn_ret (vs := [_]) rfl ⟨rfl, trivial⟩ ⟨rfl, rfl, rfl⟩ (fun _ h => h.to trivial trivial)
      · have h := ifF h c17
        refine wc_skip ?_
        refine pn_then ?_
        refine wc_seq ?_
        refine wc_region ?_   -- region 7
        refine wl_det rfl rfl (det_field rfl fd46_3 rfl) rfl ?_
        refine wl_det rfl rfl (det_load rfl m0 (by rfl) na3 us3) rfl ?_
        refine wl_det rfl rfl (det_eql rfl rfl) rfl ?_
        refine wl_det rfl rfl (det_assign rfl) rfl ?_
        refine wl_nil ?_
        refine pn_then ?_
        refine wc_ret ?_
        replace h := Option.some.inj h
        subst h
        refine pn_ret (vs := [_]) rfl ⟨rfl, trivial⟩ ⟨rfl, rfl, rfl⟩ (fun _ h => h.to trivial trivial)
def Q_ledger_Validate (r : Int) : Value → List Ent → List Fact → Prop := fun v θ κ => v = .int .i64 r ∧ θ = [] ∧ κ = []
theorem plains_ledger_Validate {r : Int} : ∀ v θ κ, Q_ledger_Validate r v θ κ → Plains θ := by
  rintro _ _ _ ⟨rfl, rfl, rfl⟩
  exact trivial
set_option maxHeartbeats 4000000 in
set_option maxRecDepth 100000 in
theorem W_ledger_Validate (a0 : GLedger) (A0 : Option Addr) (n0 : Nat) (c0 : Nat) (r : Int) (h : ledger_Validate a0 = some r) : Spec Try.prog 19 [.agg #[.int .i64 a0.Closed, .slice A0 n0 c0]] [] [fV (lSlice lGPosting) (.slice A0 n0 c0) a0.Postings] (Q_ledger_Validate r) := by
  unfold ledger_Validate at h
  refine spec_of (σ := [(0, _)]) Try.func19 rfl rfl rfl rfl ?_
  intro C
  refine wc_know (fun _ h => h.lenF m0) (fun e => ?_)
  subst e
  refine wc_seq ?_
  refine wc_region ?_   -- region 0
  refine wl_act (act_box (cs := [_, _]) rfl rfl) rfl rfl rfl ?_
  rintro _ _ _ ⟨b0_0, rfl, rfl, rfl⟩
  refine wl_det rfl rfl (det_assign rfl) rfl ?_
  refine wl_nil ?_
  refine pn_then ?_
  refine wc_seq ?_
  refine wc_seq ?_
  refine wc_region ?_   -- region 1
  refine wl_det rfl rfl (det_field rfl fd25_0 rfl) rfl ?_
  refine wl_det rfl rfl (det_load rfl m0 (by rfl) na3 us3) rfl ?_
  refine wl_det rfl rfl (det_lss rfl rfl) rfl ?_
  refine wl_det rfl rfl (det_move rfl) rfl ?_
  refine wl_way (decide (a0.Closed < 0)) ((decide (a0.Closed < 0)) || (decide (100 < a0.Closed))) 4 12 (fun hg => ?_) (fun hg => ?_) ?_
  · have hg1_7 := hg
    refine wl_off rfl rfl rfl rfl rfl hg1_7 rfl ?_
    refine wl_off rfl rfl rfl rfl rfl hg1_7 rfl ?_
    refine wl_off rfl rfl rfl rfl rfl hg1_7 rfl ?_
    refine wl_det rfl rfl (det_or_on (r := (decide (100 < a0.Closed))) rfl rfl rfl hg1_7) rfl ?_
    exact wl_nil (pn_qnE (ext_cons rfl (ext_skip rfl (ext_skip rfl (ext_skip rfl (ext_skip rfl ext_refl))))) (fun _ h => h))
  · have hg1_7a := hg
    refine wl_on rfl rfl rfl rfl hg1_7a ?_
    refine wl_det rfl rfl (det_field rfl fd25_0 rfl) rfl ?_
    refine wl_on rfl rfl rfl rfl hg1_7a ?_
    refine wl_det rfl rfl (det_load rfl m0 (by rfl) na3 us3) rfl ?_
    refine wl_on rfl rfl rfl rfl hg1_7a ?_
    refine wl_det rfl rfl (det_gtr rfl rfl) rfl ?_
    refine wl_det rfl rfl (det_or_off rfl rfl rfl hg1_7a) rfl ?_
    exact wl_nil (pn_qnE (ext_cons rfl (ext_skip rfl (ext_skip rfl (ext_skip rfl (ext_skip rfl ext_refl))))) (fun _ h => h))
  refine wl_det rfl rfl (det_move rfl) rfl ?_
  refine wl_way ((decide (a0.Closed < 0)) || (decide (100 < a0.Closed))) (((decide (a0.Closed < 0)) || (decide (100 < a0.Closed))) || (decide (65536 < (a0.Postings.length : Int)))) 5 18 (fun hg => ?_) (fun hg => ?_) ?_
  · have hg1_13 := hg
    refine wl_off rfl rfl rfl rfl rfl hg1_13 rfl ?_
    refine wl_off rfl rfl rfl rfl rfl hg1_13 rfl ?_
    refine wl_off rfl rfl rfl rfl rfl hg1_13 rfl ?_
    refine wl_off rfl rfl rfl rfl rfl hg1_13 rfl ?_
    refine wl_det rfl rfl (det_or_on (r := (decide (65536 < (a0.Postings.length : Int)))) rfl rfl rfl hg1_13) rfl ?_
    exact wl_nil (pn_qnE (ext_cons rfl (ext_skip rfl (ext_skip rfl (ext_skip rfl (ext_skip rfl (ext_skip rfl ext_refl)))))) (fun _ h => h))
  · have hg1_13a := hg
    refine wl_on rfl rfl rfl rfl hg1_13a ?_
    refine wl_det rfl rfl (det_field rfl fd25_1 rfl) rfl ?_
    refine wl_on rfl rfl rfl rfl hg1_13a ?_
    refine wl_det rfl rfl (det_load rfl m0 (by rfl) na23 us23) rfl ?_
    refine wl_on rfl rfl rfl rfl hg1_13a ?_
    refine wl_det rfl rfl (det_len rfl un23) rfl ?_
    refine wl_on rfl rfl rfl rfl hg1_13a ?_
    refine wl_det rfl rfl (det_gtr rfl rfl) rfl ?_
    refine wl_det rfl rfl (det_or_off rfl rfl rfl hg1_13a) rfl ?_
    exact wl_nil (pn_qnE (ext_cons rfl (ext_skip rfl (ext_skip rfl (ext_skip rfl (ext_skip rfl (ext_skip rfl ext_refl)))))) (fun _ h => h))
  refine wl_nil ?_
  refine pn_then ?_
  refine wc_cond rfl (fun c5 => ?_) (fun c5 => ?_)
  · have h := ifT h c5
    refine wc_seq ?_
    refine wc_region ?_   -- region 2
    refine wl_det rfl rfl (det_assign rfl) rfl ?_
    refine wl_nil ?_
    refine pn_then ?_
    refine wc_ret ?_
    refine pr_then ?_
    replace h := Option.some.inj h
    subst h
    refine pn_ret (vs := [_]) rfl ⟨rfl, trivial⟩ ⟨rfl, rfl, rfl⟩ (fun _ h => h.to trivial trivial)
  · have h := ifF h c5
    refine wc_skip ?_
    refine pn_then ?_
    obtain ⟨q8, h, ho8⟩ := bind_some h
    refine wc_meetG (G := Unit × Unit) (fun (s8, _) => (.inl s8) = q8) (fun (_, _) => []) (fun (_, _) => []) (fun (_, _) => []) ?_ ?_
    · refine wc_seq ?_
      refine wc_region ?_   -- region 3
      refine wl_det rfl rfl (det_field rfl fd25_1 rfl) rfl ?_
      refine wl_det rfl rfl (det_load rfl m0 (by rfl) na23 us23) rfl ?_
      refine wl_det rfl rfl (det_len rfl un23) rfl ?_
      refine wl_det rfl rfl (det_move rfl) rfl ?_
      refine wl_nil ?_
      refine pn_then ?_
      refine wc_block ?_
      obtain ⟨o12, h, ho12⟩ := bind_some h
      obtain ⟨k12, hk12⟩ := loopV_some.1 h
      refine wc_loop (G := Nat × Int × Unit) (fun g => IterN (ledger_Validate_l12 a0) g.1 g.2.1 o12) (fun g => g.1) (fun (_, s12, _) => [(1, .pointer (some ⟨b0_0, 0, none⟩)), (20, .slice A0 a0.Postings.length c0), (21, .int .i64 (a0.Postings.length : Int)), (22, .int .i64 s12)]) (fun (_, _, _) => [eBlk b0_0 25 [.int .i64 a0.Closed, .slice A0 a0.Postings.length c0]]) (fun (_, _, _) => [fV (lSlice lGPosting) (.slice A0 a0.Postings.length c0) a0.Postings]) (k12, 0, ()) hk12 ⟨rfl, rfl, rfl, rfl, trivial⟩ (fun _ h => h.to ⟨_, r0, trivial⟩ ⟨m0, trivial⟩) ?_
      rintro ⟨k12, s12, _⟩ hI
      obtain ⟨k12, rfl, q12, h, g12⟩ := IterN.pos hI
      dsimp only at h ⊢
      unfold ledger_Validate_l12 at h
      refine wc_seq ?_
      refine wc_region ?_   -- region 4
      refine wl_det rfl rfl (det_lss rfl rfl) rfl ?_
      refine wl_nil ?_
      refine pn_then ?_
      refine wc_seq ?_
      refine wc_cond rfl (fun c16 => ?_) (fun c16 => ?_)
      · have h := ifT h c16
        refine wc_skip ?_
        refine pn_then ?_
        refine wc_seq ?_
        refine wc_block ?_
        refine wc_seq ?_
        refine wc_region ?_   -- region 5
        refine wl_det rfl rfl (det_move rfl) rfl ?_
        obtain ⟨k5_1, h⟩ := chk_some h
        refine wl_st (fun _ h => h.openF m0 k5_1) ?_
        refine wl_det rfl rfl (det_indexP rfl rfl (ms m0) k5_1 m0 un23 sz48) rfl ?_
        refine wl_det rfl rfl (det_loadP (off := 0) rfl m0 (by rfl) (by rfl) (loaded_n (cells := [_, _, _, _, _, _, _]) ag48 sz48)) rfl ?_
        refine wl_act (act_alloc (cs := [_, _, _, _, _, _, _]) zr48 rfl) rfl rfl rfl ?_
        rintro _ _ _ ⟨b5_3, rfl, rfl, rfl⟩
        refine wl_det rfl rfl (det_assign rfl) rfl ?_
        refine wl_act0 (act_store (cells := [_, _, _, _, _, _, _]) (cs' := [_, _, _, _, _, _, _]) rfl rfl rfl s0 (by rfl) (of_decide_eq_true rfl) sz48 ⟨rfl, rfl, rfl, rfl, rfl, rfl, rfl, trivial⟩) rfl rfl ?_
        rintro _ _ _ ⟨rfl, rfl⟩
        refine wl_nil ?_
        refine pn_then ?_
        refine wc_seq ?_
        refine wc_seq ?_
        refine wc_region ?_   -- region 6
        refine wl_det rfl rfl (det_field rfl fd48_2 rfl) rfl ?_
        refine wl_det rfl rfl (det_loadN (cells := [_, _, _, _, _]) rfl m0 (by rfl) ag46 sz46) rfl ?_
        obtain ⟨r6_2, hr6_2, h⟩ := bind_some h
        refine wl_act (act_callS (cap := []) (W_ledger_Valid (ix a0.Postings s12).Entry r6_2 hr6_2) rfl rfl rfl bd40 rfl trivial) rfl rfl rfl ?_
        rintro _ _ _ ⟨_, _, ⟨rfl, rfl, rfl⟩, rfl, rfl⟩
        dsimp only [List.nil_append, List.cons_append]
        refine wl_det rfl rfl (det_not rfl) rfl ?_
        refine wl_det rfl rfl (det_move rfl) rfl ?_
        refine wl_way (!r6_2) ((!r6_2) || (decide ((ix a0.Postings s12).Entry.Amount = 0))) 5 36 (fun hg => ?_) (fun hg => ?_) ?_
        · have hg6_9 := hg
          refine wl_off rfl rfl rfl rfl rfl hg6_9 rfl ?_
          refine wl_off rfl rfl rfl rfl rfl hg6_9 rfl ?_
          refine wl_off rfl rfl rfl rfl rfl hg6_9 rfl ?_
          refine wl_off rfl rfl rfl rfl rfl hg6_9 rfl ?_
          refine wl_det rfl rfl (det_or_on (r := (decide ((ix a0.Postings s12).Entry.Amount = 0))) rfl rfl rfl hg6_9) rfl ?_
          exact wl_nil (pn_qnE (ext_cons rfl (ext_skip rfl (ext_skip rfl (ext_skip rfl (ext_skip rfl (ext_skip rfl ext_refl)))))) (fun _ h => h))
        · have hg6_9a := hg
          refine wl_on rfl rfl rfl rfl hg6_9a ?_
          refine wl_det rfl rfl (det_field rfl fd48_2 rfl) rfl ?_
          refine wl_on rfl rfl rfl rfl hg6_9a ?_
          refine wl_det rfl rfl (det_field rfl fd46_4 rfl) rfl ?_
          refine wl_on rfl rfl rfl rfl hg6_9a ?_
          refine wl_det rfl rfl (det_load rfl m0 (by rfl) na3 us3) rfl ?_
          refine wl_on rfl rfl rfl rfl hg6_9a ?_
          refine wl_det rfl rfl (det_eql rfl rfl) rfl ?_
          refine wl_det rfl rfl (det_or_off rfl rfl rfl hg6_9a) rfl ?_
          exact wl_nil (pn_qnE (ext_cons rfl (ext_skip rfl (ext_skip rfl (ext_skip rfl (ext_skip rfl (ext_skip rfl ext_refl)))))) (fun _ h => h))
        refine wl_nil ?_
        refine pn_then ?_
        refine wc_cond rfl (fun c25 => ?_) (fun c25 => ?_)
        · have h := ifT h c25
          refine wc_seq ?_
          refine wc_region ?_   -- region 7
          refine wl_det rfl rfl (det_assign rfl) rfl ?_
          refine wl_nil ?_
          refine pn_then ?_
          refine wc_ret ?_
          refine pr_then ?_
          refine pr_block ?_
          refine pr_then ?_
          refine pr_then ?_
          refine pr_block ?_
          refine pr_then ?_
          replace h := Option.some.inj h
          subst h
          replace g12 := nextR g12
          subst g12
          have h := (elimL ho12)
          replace h := Option.some.inj h
          subst h
          have h := (elimR ho8)
          replace h := Option.some.inj h
          subst h
          refine pn_ret (vs := [_]) rfl ⟨rfl, trivial⟩ ⟨rfl, rfl, rfl⟩ (fun _ h => h.to trivial trivial)
        · have h := ifF h c25
          refine wc_skip ?_
          refine pn_then ?_
          refine wc_seq ?_
          refine wc_seq ?_
          refine wc_region ?_   -- region 8
          refine wl_det rfl rfl (det_field rfl fd48_0 rfl) rfl ?_
          refine wl_det rfl rfl (det_load rfl m0 (by rfl) na3 us3) rfl ?_
          refine wl_det rfl rfl (det_lss rfl rfl) rfl ?_
          refine wl_det rfl rfl (det_move rfl) rfl ?_
          refine wl_way (decide ((ix a0.Postings s12).Number < 1)) ((decide ((ix a0.Postings s12).Number < 1)) || (decide (65536 < (ix a0.Postings s12).Number))) 4 44 (fun hg => ?_) (fun hg => ?_) ?_
          · have hg8_7 := hg
            refine wl_off rfl rfl rfl rfl rfl hg8_7 rfl ?_
            refine wl_off rfl rfl rfl rfl rfl hg8_7 rfl ?_
            refine wl_off rfl rfl rfl rfl rfl hg8_7 rfl ?_
            refine wl_det rfl rfl (det_or_on (r := (decide (65536 < (ix a0.Postings s12).Number))) rfl rfl rfl hg8_7) rfl ?_
            exact wl_nil (pn_qnE (ext_cons rfl (ext_skip rfl (ext_skip rfl (ext_skip rfl (ext_skip rfl ext_refl))))) (fun _ h => h))
          · have hg8_7a := hg
            refine wl_on rfl rfl rfl rfl hg8_7a ?_
            refine wl_det rfl rfl (det_field rfl fd48_0 rfl) rfl ?_
            refine wl_on rfl rfl rfl rfl hg8_7a ?_
            refine wl_det rfl rfl (det_load rfl m0 (by rfl) na3 us3) rfl ?_
            refine wl_on rfl rfl rfl rfl hg8_7a ?_
            refine wl_det rfl rfl (det_gtr rfl rfl) rfl ?_
            refine wl_det rfl rfl (det_or_off rfl rfl rfl hg8_7a) rfl ?_
            exact wl_nil (pn_qnE (ext_cons rfl (ext_skip rfl (ext_skip rfl (ext_skip rfl (ext_skip rfl ext_refl))))) (fun _ h => h))
          refine wl_det rfl rfl (det_move rfl) rfl ?_
          refine wl_way ((decide ((ix a0.Postings s12).Number < 1)) || (decide (65536 < (ix a0.Postings s12).Number))) (((decide ((ix a0.Postings s12).Number < 1)) || (decide (65536 < (ix a0.Postings s12).Number))) || (decide ((ix a0.Postings s12).Period < 0))) 4 49 (fun hg => ?_) (fun hg => ?_) ?_
          · have hg8_12 := hg
            refine wl_off rfl rfl rfl rfl rfl hg8_12 rfl ?_
            refine wl_off rfl rfl rfl rfl rfl hg8_12 rfl ?_
            refine wl_off rfl rfl rfl rfl rfl hg8_12 rfl ?_
            refine wl_det rfl rfl (det_or_on (r := (decide ((ix a0.Postings s12).Period < 0))) rfl rfl rfl hg8_12) rfl ?_
            exact wl_nil (pn_qnE (ext_cons rfl (ext_skip rfl (ext_skip rfl (ext_skip rfl (ext_skip rfl ext_refl))))) (fun _ h => h))
          · have hg8_12a := hg
            refine wl_on rfl rfl rfl rfl hg8_12a ?_
            refine wl_det rfl rfl (det_field rfl fd48_1 rfl) rfl ?_
            refine wl_on rfl rfl rfl rfl hg8_12a ?_
            refine wl_det rfl rfl (det_load rfl m0 (by rfl) na3 us3) rfl ?_
            refine wl_on rfl rfl rfl rfl hg8_12a ?_
            refine wl_det rfl rfl (det_lss rfl rfl) rfl ?_
            refine wl_det rfl rfl (det_or_off rfl rfl rfl hg8_12a) rfl ?_
            exact wl_nil (pn_qnE (ext_cons rfl (ext_skip rfl (ext_skip rfl (ext_skip rfl (ext_skip rfl ext_refl))))) (fun _ h => h))
          refine wl_det rfl rfl (det_move rfl) rfl ?_
          refine wl_way (((decide ((ix a0.Postings s12).Number < 1)) || (decide (65536 < (ix a0.Postings s12).Number))) || (decide ((ix a0.Postings s12).Period < 0))) ((((decide ((ix a0.Postings s12).Number < 1)) || (decide (65536 < (ix a0.Postings s12).Number))) || (decide ((ix a0.Postings s12).Period < 0))) || (decide (a0.Closed < (ix a0.Postings s12).Period))) 6 56 (fun hg => ?_) (fun hg => ?_) ?_
          · have hg8_19 := hg
            refine wl_off rfl rfl rfl rfl rfl hg8_19 rfl ?_
            refine wl_off rfl rfl rfl rfl rfl hg8_19 rfl ?_
            refine wl_off rfl rfl rfl rfl rfl hg8_19 rfl ?_
            refine wl_off rfl rfl rfl rfl rfl hg8_19 rfl ?_
            refine wl_off rfl rfl rfl rfl rfl hg8_19 rfl ?_
            refine wl_det rfl rfl (det_or_on (r := (decide (a0.Closed < (ix a0.Postings s12).Period))) rfl rfl rfl hg8_19) rfl ?_
            exact wl_nil (pn_qnE (ext_cons rfl (ext_skip rfl (ext_skip rfl (ext_skip rfl (ext_skip rfl (ext_skip rfl (ext_skip rfl ext_refl))))))) (fun _ h => h))
          · have hg8_19a := hg
            refine wl_on rfl rfl rfl rfl hg8_19a ?_
            refine wl_det rfl rfl (det_field rfl fd48_1 rfl) rfl ?_
            refine wl_on rfl rfl rfl rfl hg8_19a ?_
            refine wl_det rfl rfl (det_load rfl m0 (by rfl) na3 us3) rfl ?_
            refine wl_on rfl rfl rfl rfl hg8_19a ?_
            refine wl_det rfl rfl (det_field rfl fd25_0 rfl) rfl ?_
            refine wl_on rfl rfl rfl rfl hg8_19a ?_
            refine wl_det rfl rfl (det_load rfl (ms m0) (by rfl) na3 us3) rfl ?_
            refine wl_on rfl rfl rfl rfl hg8_19a ?_
            refine wl_det rfl rfl (det_gtr rfl rfl) rfl ?_
            refine wl_det rfl rfl (det_or_off rfl rfl rfl hg8_19a) rfl ?_
            exact wl_nil (pn_qnE (ext_cons rfl (ext_skip rfl (ext_skip rfl (ext_skip rfl (ext_skip rfl (ext_skip rfl (ext_skip rfl ext_refl))))))) (fun _ h => h))
          refine wl_nil ?_
          refine pn_then ?_
          refine wc_cond rfl (fun c31 => ?_) (fun c31 => ?_)
          · have h := ifT h c31
            refine wc_seq ?_
            refine wc_region ?_   -- region 9
            refine wl_det rfl rfl (det_assign rfl) rfl ?_
            refine wl_nil ?_
            refine pn_then ?_
            refine wc_ret ?_
            refine pr_then ?_
            refine pr_block ?_
            refine pr_then ?_
            refine pr_then ?_
            refine pr_block ?_
            refine pr_then ?_
            replace h := Option.some.inj h
            subst h
            replace g12 := nextR g12
            subst g12
            have h := (elimL ho12)
            replace h := Option.some.inj h
            subst h
            have h := (elimR ho8)
            replace h := Option.some.inj h
            subst h
            refine pn_ret (vs := [_]) rfl ⟨rfl, trivial⟩ ⟨rfl, rfl, rfl⟩ (fun _ h => h.to trivial trivial)
          · have h := ifF h c31
            refine wc_skip ?_
            refine pn_then ?_
            obtain ⟨q34, h, ho34⟩ := bind_some h
            refine wc_meetG (G := Bool × Unit) (fun (s34, _) => s34 = q34) (fun (s34, _) => [(1, .pointer (some ⟨b0_0, 0, none⟩)), (20, .slice A0 a0.Postings.length c0), (21, .int .i64 (a0.Postings.length : Int)), (22, .int .i64 s12), (82, .bool s34)]) (fun (_, _) => [eBlk b0_0 25 [.int .i64 a0.Closed, .slice A0 a0.Postings.length c0]]) (fun (_, _) => [fV (lSlice lGPosting) (.slice A0 a0.Postings.length c0) a0.Postings]) ?_ ?_
            · rcases Bool.eq_false_or_eq_true (decide (0 < s12)) with hg10_g59 | hg10_g59
              · have h := ifT h hg10_g59
                rcases Bool.eq_false_or_eq_true (decide ((ix a0.Postings s12).Number ≤ (ix a0.Postings (w64 (s12 - 1))).Number)) with hg10_g70 | hg10_g70
                · have h := ifT h hg10_g70
                  obtain ⟨k10_p1, h⟩ := chk_some h
                  refine wc_st (fun _ h => h.openF (ms m0) k10_p1) ?_
                  refine dx_region 26 [[], [0], [0, 1], [0, 1, 2], [0, 1, 2, 3], [0, 1, 2], [0, 1, 2, 5], [0, 1, 2], [0, 1, 2, 7], [0, 1, 2, 5, 6, 7, 8], [0, 1, 2, 5, 6, 7, 8, 9], [0, 1, 2, 5, 6, 7, 8, 9, 10], [0, 1, 2, 3, 4, 5, 6, 7, 8, 9, 10, 11], [0, 1, 2, 3, 4, 5, 6, 7, 8, 9, 10, 11, 12], [0, 1, 2, 3, 4, 5, 6, 7, 8, 9, 10, 11, 12, 13], [0, 1, 2, 3, 4, 5, 6, 7, 8, 9, 10, 11, 12, 13, 14], [0, 1, 2, 3, 4, 5, 6, 7, 8, 9, 10, 11, 12, 13], [0, 1, 2, 3, 4, 5, 6, 7, 8, 9, 10, 11, 12, 13, 16], [0, 1, 2, 3, 4, 5, 6, 7, 8, 9, 10, 11, 12, 13], [0, 1, 2, 3, 4, 5, 6, 7, 8, 9, 10, 11, 12, 13, 18], [0, 1, 2, 3, 4, 5, 6, 7, 8, 9, 10, 11, 12, 13, 16, 17, 18, 19], [0, 1, 2, 3, 4, 5, 6, 7, 8, 9, 10, 11, 12, 13, 16, 17, 18, 19, 20], [0, 1, 2, 3, 4, 5, 6, 7, 8, 9, 10, 11, 12, 13, 16, 17, 18, 19, 20, 21], [0, 1, 2, 3, 4, 5, 6, 7, 8, 9, 10, 11, 12, 13, 14, 15, 16, 17, 18, 19, 20, 21, 22], [0, 1, 2, 3, 4, 5, 6, 7, 8, 9, 10, 11, 12, 13, 14, 15, 16, 17, 18, 19, 20, 21, 22, 23], [0, 1, 2, 3, 4, 5, 6, 7, 8, 9, 10, 11, 12, 13, 14, 15, 16, 17, 18, 19, 20, 21, 22, 23, 24]] mixed (ord := (.det 0 (.det 1 (.det 2 (.det 3 (.det 4 (.det 5 (.det 6 (.det 7 (.det 8 (.det 9 (.det 10 (.det 11 (.det 12 (.det 13 (.det 14 (.det 15 (.det 16 (.det 17 (.det 18 (.det 19 (.det 20 (.det 21 (.det 22 (.det 23 (.det 24 (.det 25 .done))))))))))))))))))))))))))) (by kernel_rfl) ?_   -- region 10
                  refine hx_det rfl rfl rfl nofun (det_move rfl) rfl ?_
                  refine hx_det rfl rfl rfl nofun (det_gtr rfl rfl) rfl ?_
                  refine hx_det rfl rfl rfl nofun (det_move rfl) rfl ?_
                  refine hx_on rfl rfl rfl rfl rfl hg10_g59 nofun (det_field rfl fd48_0 rfl) rfl ?_
                  refine hx_on rfl rfl rfl rfl rfl hg10_g59 nofun (det_load rfl m0 (by rfl) na3 us3) rfl ?_
                  refine hx_on rfl rfl rfl rfl rfl hg10_g59 nofun (det_field rfl fd25_1 rfl) rfl ?_
                  refine hx_on rfl rfl rfl rfl rfl hg10_g59 nofun (det_load rfl (ms m0) (by rfl) na23 us23) rfl ?_
                  refine hx_on rfl rfl rfl rfl rfl hg10_g59 nofun (det_move rfl) rfl ?_
                  refine hx_on rfl rfl rfl rfl rfl hg10_g59 nofun (det_sub rfl rfl) rfl ?_
                  refine hx_on rfl rfl rfl rfl rfl hg10_g59 nofun (det_indexP rfl rfl (ms (ms m0)) k10_p1 m0 un23 sz48) rfl ?_
                  refine hx_on rfl rfl rfl rfl rfl hg10_g59 nofun (det_fieldP rfl m0 fd48_0 rfl) rfl ?_
                  refine hx_on rfl rfl rfl rfl rfl hg10_g59 nofun (det_loadP (off := 0) rfl m0 (by rfl) (by rfl) (loaded_1 na3 us3)) rfl ?_
                  refine hx_on rfl rfl rfl rfl rfl hg10_g59 nofun (det_leq rfl rfl) rfl ?_
                  refine hx_on rfl rfl rfl rfl rfl hg10_g59 nofun (det_move rfl) rfl ?_
                  refine hx_off rfl rfl rfl rfl rfl hg10_g70 rfl ?_
                  refine hx_off rfl rfl rfl rfl rfl hg10_g70 rfl ?_
                  refine hx_off rfl rfl rfl rfl rfl hg10_g70 rfl ?_
                  refine hx_off rfl rfl rfl rfl rfl hg10_g70 rfl ?_
                  refine hx_off rfl rfl rfl rfl rfl hg10_g70 rfl ?_
                  refine hx_off rfl rfl rfl rfl rfl hg10_g70 rfl ?_
                  refine hx_off rfl rfl rfl rfl rfl hg10_g70 rfl ?_
                  refine hx_off rfl rfl rfl rfl rfl hg10_g70 rfl ?_
                  refine hx_off rfl rfl rfl rfl rfl hg10_g70 rfl ?_
                  refine hx_off rfl rfl rfl rfl rfl hg10_g70 rfl ?_
                  refine hx_on rfl rfl rfl rfl rfl hg10_g59 nofun (det_pick_on rfl hg10_g70 rfl rfl) rfl ?_
                  refine hx_det rfl rfl rfl nofun (det_pick_on rfl hg10_g59 rfl rfl) rfl ?_
                  refine hx_end ?_
                  refine wl_nil ?_
                  replace h := Option.some.inj h
                  subst h
                  exact pn_meetG (true, ()) rfl ⟨rfl, rfl, rfl, rfl, rfl, trivial⟩ (fun _ h => h.to ⟨_, (rs r0), trivial⟩ ⟨(ms (ms m0)), trivial⟩)
                · have h := ifF h hg10_g70
                  obtain ⟨k10_p3, h⟩ := chk_some h
                  refine wc_st (fun _ h => h.openF (ms m0) k10_p3) ?_
                  refine dx_region 26 [[], [0], [0, 1], [0, 1, 2], [0, 1, 2, 3], [0, 1, 2], [0, 1, 2, 5], [0, 1, 2], [0, 1, 2, 7], [0, 1, 2, 5, 6, 7, 8], [0, 1, 2, 5, 6, 7, 8, 9], [0, 1, 2, 5, 6, 7, 8, 9, 10], [0, 1, 2, 3, 4, 5, 6, 7, 8, 9, 10, 11], [0, 1, 2, 3, 4, 5, 6, 7, 8, 9, 10, 11, 12], [0, 1, 2, 3, 4, 5, 6, 7, 8, 9, 10, 11, 12, 13], [0, 1, 2, 3, 4, 5, 6, 7, 8, 9, 10, 11, 12, 13, 14], [0, 1, 2, 3, 4, 5, 6, 7, 8, 9, 10, 11, 12, 13], [0, 1, 2, 3, 4, 5, 6, 7, 8, 9, 10, 11, 12, 13, 16], [0, 1, 2, 3, 4, 5, 6, 7, 8, 9, 10, 11, 12, 13], [0, 1, 2, 3, 4, 5, 6, 7, 8, 9, 10, 11, 12, 13, 18], [0, 1, 2, 3, 4, 5, 6, 7, 8, 9, 10, 11, 12, 13, 16, 17, 18, 19], [0, 1, 2, 3, 4, 5, 6, 7, 8, 9, 10, 11, 12, 13, 16, 17, 18, 19, 20], [0, 1, 2, 3, 4, 5, 6, 7, 8, 9, 10, 11, 12, 13, 16, 17, 18, 19, 20, 21], [0, 1, 2, 3, 4, 5, 6, 7, 8, 9, 10, 11, 12, 13, 14, 15, 16, 17, 18, 19, 20, 21, 22], [0, 1, 2, 3, 4, 5, 6, 7, 8, 9, 10, 11, 12, 13, 14, 15, 16, 17, 18, 19, 20, 21, 22, 23], [0, 1, 2, 3, 4, 5, 6, 7, 8, 9, 10, 11, 12, 13, 14, 15, 16, 17, 18, 19, 20, 21, 22, 23, 24]] mixed (ord := (.det 0 (.det 1 (.det 2 (.det 3 (.det 4 (.det 5 (.det 6 (.det 7 (.det 8 (.det 9 (.det 10 (.det 11 (.det 12 (.det 13 (.det 14 (.det 15 (.det 16 (.det 17 (.det 18 (.det 19 (.det 20 (.det 21 (.det 22 (.det 23 (.det 24 (.det 25 .done))))))))))))))))))))))))))) (by kernel_rfl) ?_   -- region 10
                  refine hx_det rfl rfl rfl nofun (det_move rfl) rfl ?_
                  refine hx_det rfl rfl rfl nofun (det_gtr rfl rfl) rfl ?_
                  refine hx_det rfl rfl rfl nofun (det_move rfl) rfl ?_
                  refine hx_on rfl rfl rfl rfl rfl hg10_g59 nofun (det_field rfl fd48_0 rfl) rfl ?_
                  refine hx_on rfl rfl rfl rfl rfl hg10_g59 nofun (det_load rfl m0 (by rfl) na3 us3) rfl ?_
                  refine hx_on rfl rfl rfl rfl rfl hg10_g59 nofun (det_field rfl fd25_1 rfl) rfl ?_
                  refine hx_on rfl rfl rfl rfl rfl hg10_g59 nofun (det_load rfl (ms m0) (by rfl) na23 us23) rfl ?_
                  refine hx_on rfl rfl rfl rfl rfl hg10_g59 nofun (det_move rfl) rfl ?_
                  refine hx_on rfl rfl rfl rfl rfl hg10_g59 nofun (det_sub rfl rfl) rfl ?_
                  refine hx_on rfl rfl rfl rfl rfl hg10_g59 nofun (det_indexP rfl rfl (ms (ms m0)) k10_p3 m0 un23 sz48) rfl ?_
                  refine hx_on rfl rfl rfl rfl rfl hg10_g59 nofun (det_fieldP rfl m0 fd48_0 rfl) rfl ?_
                  refine hx_on rfl rfl rfl rfl rfl hg10_g59 nofun (det_loadP (off := 0) rfl m0 (by rfl) (by rfl) (loaded_1 na3 us3)) rfl ?_
                  refine hx_on rfl rfl rfl rfl rfl hg10_g59 nofun (det_leq rfl rfl) rfl ?_
                  refine hx_on rfl rfl rfl rfl rfl hg10_g59 nofun (det_move rfl) rfl ?_
                  refine hx_on rfl rfl rfl rfl rfl hg10_g70 nofun (det_field rfl fd48_1 rfl) rfl ?_
                  refine hx_on rfl rfl rfl rfl rfl hg10_g70 nofun (det_load rfl m0 (by rfl) na3 us3) rfl ?_
                  refine hx_on rfl rfl rfl rfl rfl hg10_g70 nofun (det_field rfl fd25_1 rfl) rfl ?_
                  refine hx_on rfl rfl rfl rfl rfl hg10_g70 nofun (det_load rfl (ms m0) (by rfl) na23 us23) rfl ?_
                  refine hx_on rfl rfl rfl rfl rfl hg10_g70 nofun (det_move rfl) rfl ?_
                  refine hx_on rfl rfl rfl rfl rfl hg10_g70 nofun (det_sub rfl rfl) rfl ?_
                  refine hx_on rfl rfl rfl rfl rfl hg10_g70 nofun (det_indexP rfl rfl (ms (ms m0)) k10_p3 m0 un23 sz48) rfl ?_
                  refine hx_on rfl rfl rfl rfl rfl hg10_g70 nofun (det_fieldP rfl m0 fd48_1 rfl) rfl ?_
                  refine hx_on rfl rfl rfl rfl rfl hg10_g70 nofun (det_loadP (off := 1) rfl m0 (by rfl) (by rfl) (loaded_1 na3 us3)) rfl ?_
                  refine hx_on rfl rfl rfl rfl rfl hg10_g70 nofun (det_lss rfl rfl) rfl ?_
                  refine hx_on rfl rfl rfl rfl rfl hg10_g59 nofun (det_pick_off rfl hg10_g70 rfl rfl) rfl ?_
                  refine hx_det rfl rfl rfl nofun (det_pick_on rfl hg10_g59 rfl rfl) rfl ?_
                  refine hx_end ?_
                  refine wl_nil ?_
                  replace h := Option.some.inj h
                  subst h
                  exact pn_meetG ((decide ((ix a0.Postings s12).Period < (ix a0.Postings (w64 (s12 - 1))).Period)), ()) rfl ⟨rfl, rfl, rfl, rfl, rfl, trivial⟩ (fun _ h => h.to ⟨_, (rs r0), trivial⟩ ⟨(ms (ms m0)), trivial⟩)
              · have h := ifF h hg10_g59
                refine dx_region 26 [[], [0], [0, 1], [0, 1, 2], [0, 1, 2, 3], [0, 1, 2], [0, 1, 2, 5], [0, 1, 2], [0, 1, 2, 7], [0, 1, 2, 5, 6, 7, 8], [0, 1, 2, 5, 6, 7, 8, 9], [0, 1, 2, 5, 6, 7, 8, 9, 10], [0, 1, 2, 3, 4, 5, 6, 7, 8, 9, 10, 11], [0, 1, 2, 3, 4, 5, 6, 7, 8, 9, 10, 11, 12], [0, 1, 2, 3, 4, 5, 6, 7, 8, 9, 10, 11, 12, 13], [0, 1, 2, 3, 4, 5, 6, 7, 8, 9, 10, 11, 12, 13, 14], [0, 1, 2, 3, 4, 5, 6, 7, 8, 9, 10, 11, 12, 13], [0, 1, 2, 3, 4, 5, 6, 7, 8, 9, 10, 11, 12, 13, 16], [0, 1, 2, 3, 4, 5, 6, 7, 8, 9, 10, 11, 12, 13], [0, 1, 2, 3, 4, 5, 6, 7, 8, 9, 10, 11, 12, 13, 18], [0, 1, 2, 3, 4, 5, 6, 7, 8, 9, 10, 11, 12, 13, 16, 17, 18, 19], [0, 1, 2, 3, 4, 5, 6, 7, 8, 9, 10, 11, 12, 13, 16, 17, 18, 19, 20], [0, 1, 2, 3, 4, 5, 6, 7, 8, 9, 10, 11, 12, 13, 16, 17, 18, 19, 20, 21], [0, 1, 2, 3, 4, 5, 6, 7, 8, 9, 10, 11, 12, 13, 14, 15, 16, 17, 18, 19, 20, 21, 22], [0, 1, 2, 3, 4, 5, 6, 7, 8, 9, 10, 11, 12, 13, 14, 15, 16, 17, 18, 19, 20, 21, 22, 23], [0, 1, 2, 3, 4, 5, 6, 7, 8, 9, 10, 11, 12, 13, 14, 15, 16, 17, 18, 19, 20, 21, 22, 23, 24]] mixed (ord := (.det 0 (.det 1 (.det 2 (.det 3 (.det 4 (.det 5 (.det 6 (.det 7 (.det 8 (.det 9 (.det 10 (.det 11 (.det 12 (.det 13 (.det 14 (.det 15 (.det 16 (.det 17 (.det 18 (.det 19 (.det 20 (.det 21 (.det 22 (.det 23 (.det 24 (.det 25 .done))))))))))))))))))))))))))) (by kernel_rfl) ?_   -- region 10
                refine hx_det rfl rfl rfl nofun (det_move rfl) rfl ?_
                refine hx_det rfl rfl rfl nofun (det_gtr rfl rfl) rfl ?_
                refine hx_det rfl rfl rfl nofun (det_move rfl) rfl ?_
                refine hx_off rfl rfl rfl rfl rfl hg10_g59 rfl ?_
                refine hx_off rfl rfl rfl rfl rfl hg10_g59 rfl ?_
                refine hx_off rfl rfl rfl rfl rfl hg10_g59 rfl ?_
                refine hx_off rfl rfl rfl rfl rfl hg10_g59 rfl ?_
                refine hx_off rfl rfl rfl rfl rfl hg10_g59 rfl ?_
                refine hx_off rfl rfl rfl rfl rfl hg10_g59 rfl ?_
                refine hx_off rfl rfl rfl rfl rfl hg10_g59 rfl ?_
                refine hx_off rfl rfl rfl rfl rfl hg10_g59 rfl ?_
                refine hx_off rfl rfl rfl rfl rfl hg10_g59 rfl ?_
                refine hx_off rfl rfl rfl rfl rfl hg10_g59 rfl ?_
                refine hx_off rfl rfl rfl rfl rfl hg10_g59 rfl ?_
                refine hx_none rfl rfl rfl rfl rfl rfl ?_
                refine hx_none rfl rfl rfl rfl rfl rfl ?_
                refine hx_none rfl rfl rfl rfl rfl rfl ?_
                refine hx_none rfl rfl rfl rfl rfl rfl ?_
                refine hx_none rfl rfl rfl rfl rfl rfl ?_
                refine hx_none rfl rfl rfl rfl rfl rfl ?_
                refine hx_none rfl rfl rfl rfl rfl rfl ?_
                refine hx_none rfl rfl rfl rfl rfl rfl ?_
                refine hx_none rfl rfl rfl rfl rfl rfl ?_
                refine hx_none rfl rfl rfl rfl rfl rfl ?_
                refine hx_off rfl rfl rfl rfl rfl hg10_g59 rfl ?_
                refine hx_det rfl rfl rfl nofun (det_pick_off rfl hg10_g59 rfl rfl) rfl ?_
                refine hx_end ?_
                refine wl_nil ?_
                replace h := Option.some.inj h
                subst h
                exact pn_meetG (false, ()) rfl ⟨rfl, rfl, rfl, rfl, rfl, trivial⟩ (fun _ h => h.to ⟨_, (rs r0), trivial⟩ ⟨(ms m0), trivial⟩)
            rintro ⟨s34, _⟩ e34
            dsimp only at e34 ⊢
            subst e34
            have h := ho34
            refine wc_cond rfl (fun c36 => ?_) (fun c36 => ?_)
            · have h := ifT h c36
              refine wc_seq ?_
              refine wc_region ?_   -- region 11
              refine wl_det rfl rfl (det_assign rfl) rfl ?_
              refine wl_nil ?_
              refine pn_then ?_
              refine wc_ret ?_
              refine pr_block ?_
              refine pr_then ?_
              refine pr_then ?_
              refine pr_block ?_
              refine pr_then ?_
              replace h := Option.some.inj h
              subst h
              replace g12 := nextR g12
              subst g12
              have h := (elimL ho12)
              replace h := Option.some.inj h
              subst h
              have h := (elimR ho8)
              replace h := Option.some.inj h
              subst h
              refine pn_ret (vs := [_]) rfl ⟨rfl, trivial⟩ ⟨rfl, rfl, rfl⟩ (fun _ h => h.to trivial trivial)
            · have h := ifF h c36
              refine wc_skip ?_
              refine pn_block ?_
              refine pn_then ?_
              refine wc_region ?_   -- region 12
              refine wl_det rfl rfl (det_add rfl rfl) rfl ?_
              refine wl_det rfl rfl (det_move rfl) rfl ?_
              refine wl_nil ?_
              replace h := Option.some.inj h
              subst h
              exact pn_some (k12, (w64 (s12 + 1)), ()) ⟨nextL g12, Nat.lt_succ_self _⟩ ⟨rfl, rfl, rfl, rfl, trivial⟩ (fun _ h => h.to ⟨_, r0, trivial⟩ ⟨m0, trivial⟩)
      · have h := ifF h c16
        refine wc_exit ?_
        refine px_then ?_
        refine px_then ?_
        refine px_block ?_
        replace h := Option.some.inj h
        subst h
        replace g12 := nextR g12
        subst g12
        have h := (elimR ho12)
        replace h := Option.some.inj h
        subst h
        exact pn_meetG ((), ()) rfl trivial (fun _ h => h.to trivial trivial)
    rintro ⟨s8, _⟩ e8
    dsimp only at e8 ⊢
    subst e8
    have h := (elimL ho8)
    refine wc_seq ?_
    refine wc_region ?_   -- region 13
    refine wl_det rfl rfl (det_assign rfl) rfl ?_
    refine wl_nil ?_
    refine pn_then ?_
    refine wc_ret ?_
    replace h := Option.some.inj h
    subst h
    refine pn_ret (vs := [_]) rfl ⟨rfl, trivial⟩ ⟨rfl, rfl, rfl⟩ (fun _ h => h.to trivial trivial)
def Q_account_Statement_c1_c1 (Ba1 : Nat) (Ba2 : Nat) (Ba3 : Nat) (a1 : Int) (a2 : Int) (a3 : Int) (r : Bool) : Value → List Ent → List Fact → Prop := fun v θ κ => v = .bool r ∧ θ = [eBlk Ba1 3 [.int .i64 a1], eBlk Ba2 3 [.int .i64 a2], eBlk Ba3 3 [.int .i64 a3]] ∧ κ = []
theorem plains_account_Statement_c1_c1 {Ba1 : Nat} {Ba2 : Nat} {Ba3 : Nat} {a1 : Int} {a2 : Int} {a3 : Int} {r : Bool} : ∀ v θ κ, Q_account_Statement_c1_c1 Ba1 Ba2 Ba3 a1 a2 a3 r v θ κ → Plains θ := by
  rintro _ _ _ ⟨rfl, rfl, rfl⟩
  exact ⟨plain_eBlk, plain_eBlk, plain_eBlk, trivial⟩
set_option maxHeartbeats 4000000 in
set_option maxRecDepth 100000 in
theorem W_account_Statement_c1_c1 (a0 : GPosting) (a1 : Int) (a2 : Int) (a3 : Int) (Ba1 : Nat) (Ba2 : Nat) (Ba3 : Nat) (r : Bool) (h : account_Statement_c1_c1 a0 a1 a2 a3 = some r) : Spec Try.prog 29 [.agg #[.int .i64 a0.Number, .int .i64 a0.Period, .int .i64 a0.Entry.Kind, .int .i64 a0.Entry.Treaty, .int .i64 a0.Entry.Party, .int .i64 a0.Entry.Loss, .int .i64 a0.Entry.Amount], .pointer (some ⟨Ba1, 0, none⟩), .pointer (some ⟨Ba2, 0, none⟩), .pointer (some ⟨Ba3, 0, none⟩)] [eBlk Ba1 3 [.int .i64 a1], eBlk Ba2 3 [.int .i64 a2], eBlk Ba3 3 [.int .i64 a3]] [] (Q_account_Statement_c1_c1 Ba1 Ba2 Ba3 a1 a2 a3 r) := by
  unfold account_Statement_c1_c1 at h
  refine spec_of (σ := [(0, _), (1, _), (2, _), (3, _)]) Try.func29 rfl rfl rfl rfl ?_
  intro C
  refine wc_seq ?_
  refine wc_region ?_   -- region 0
  refine wl_act (act_box (cs := [_, _, _, _, _, _, _]) rfl rfl) rfl rfl rfl ?_
  rintro _ _ _ ⟨b0_0, rfl, rfl, rfl⟩
  refine wl_det rfl rfl (det_assign rfl) rfl ?_
  refine wl_nil ?_
  refine pn_then ?_
  refine wc_seq ?_
  refine wc_region ?_   -- region 1
  refine wl_det rfl rfl (det_field rfl fd48_2 rfl) rfl ?_
  refine wl_det rfl rfl (det_field rfl fd46_1 rfl) rfl ?_
  refine wl_det rfl rfl (det_load rfl m0 (by rfl) na3 us3) rfl ?_
  refine wl_det rfl rfl (det_load rfl (ms m0) (by rfl) na3 us3) rfl ?_
  refine wl_det rfl rfl (det_eql rfl rfl) rfl ?_
  refine wl_det rfl rfl (det_move rfl) rfl ?_
  refine wl_way (decide (a0.Entry.Treaty = a1)) ((decide (a0.Entry.Treaty = a1)) && (decide (a0.Entry.Party = a2))) 6 17 (fun hg => ?_) (fun hg => ?_) ?_
  · have hg1_11 := hg
    refine wl_on rfl rfl rfl rfl hg1_11 ?_
    refine wl_det rfl rfl (det_field rfl fd48_2 rfl) rfl ?_
    refine wl_on rfl rfl rfl rfl hg1_11 ?_
    refine wl_det rfl rfl (det_field rfl fd46_2 rfl) rfl ?_
    refine wl_on rfl rfl rfl rfl hg1_11 ?_
    refine wl_det rfl rfl (det_load rfl m0 (by rfl) na3 us3) rfl ?_
    refine wl_on rfl rfl rfl rfl hg1_11 ?_
    refine wl_det rfl rfl (det_load rfl (ms (ms m0)) (by rfl) na3 us3) rfl ?_
    refine wl_on rfl rfl rfl rfl hg1_11 ?_
    refine wl_det rfl rfl (det_eql rfl rfl) rfl ?_
    refine wl_det rfl rfl (det_and_on rfl rfl rfl hg1_11) rfl ?_
    exact wl_nil (pn_qnE (ext_cons rfl (ext_skip rfl (ext_skip rfl (ext_skip rfl (ext_skip rfl (ext_skip rfl (ext_skip rfl ext_refl))))))) (fun _ h => h))
  · have hg1_11a := hg
    refine wl_off rfl rfl rfl rfl rfl hg1_11a rfl ?_
    refine wl_off rfl rfl rfl rfl rfl hg1_11a rfl ?_
    refine wl_off rfl rfl rfl rfl rfl hg1_11a rfl ?_
    refine wl_off rfl rfl rfl rfl rfl hg1_11a rfl ?_
    refine wl_off rfl rfl rfl rfl rfl hg1_11a rfl ?_
    refine wl_det rfl rfl (det_and_off (q := (decide (a0.Entry.Party = a2))) rfl rfl rfl hg1_11a) rfl ?_
    exact wl_nil (pn_qnE (ext_cons rfl (ext_skip rfl (ext_skip rfl (ext_skip rfl (ext_skip rfl (ext_skip rfl (ext_skip rfl ext_refl))))))) (fun _ h => h))
  refine wl_det rfl rfl (det_move rfl) rfl ?_
  refine wl_way ((decide (a0.Entry.Treaty = a1)) && (decide (a0.Entry.Party = a2))) (((decide (a0.Entry.Treaty = a1)) && (decide (a0.Entry.Party = a2))) && (decide (a0.Period < a3))) 5 23 (fun hg => ?_) (fun hg => ?_) ?_
  · have hg1_17 := hg
    refine wl_on rfl rfl rfl rfl hg1_17 ?_
    refine wl_det rfl rfl (det_field rfl fd48_1 rfl) rfl ?_
    refine wl_on rfl rfl rfl rfl hg1_17 ?_
    refine wl_det rfl rfl (det_load rfl m0 (by rfl) na3 us3) rfl ?_
    refine wl_on rfl rfl rfl rfl hg1_17 ?_
    refine wl_det rfl rfl (det_load rfl (ms (ms (ms m0))) (by rfl) na3 us3) rfl ?_
    refine wl_on rfl rfl rfl rfl hg1_17 ?_
    refine wl_det rfl rfl (det_lss rfl rfl) rfl ?_
    refine wl_det rfl rfl (det_and_on rfl rfl rfl hg1_17) rfl ?_
    exact wl_nil (pn_qnE (ext_cons rfl (ext_skip rfl (ext_skip rfl (ext_skip rfl (ext_skip rfl (ext_skip rfl ext_refl)))))) (fun _ h => h))
  · have hg1_17a := hg
    refine wl_off rfl rfl rfl rfl rfl hg1_17a rfl ?_
    refine wl_off rfl rfl rfl rfl rfl hg1_17a rfl ?_
    refine wl_off rfl rfl rfl rfl rfl hg1_17a rfl ?_
    refine wl_off rfl rfl rfl rfl rfl hg1_17a rfl ?_
    refine wl_det rfl rfl (det_and_off (q := (decide (a0.Period < a3))) rfl rfl rfl hg1_17a) rfl ?_
    exact wl_nil (pn_qnE (ext_cons rfl (ext_skip rfl (ext_skip rfl (ext_skip rfl (ext_skip rfl (ext_skip rfl ext_refl)))))) (fun _ h => h))
  refine wl_det rfl rfl (det_assign rfl) rfl ?_
  refine wl_nil ?_
  refine pn_then ?_
  refine wc_ret ?_
  replace h := Option.some.inj h
  subst h
  refine pn_ret (vs := [_]) rfl ⟨rfl, trivial⟩ ⟨rfl, rfl, rfl⟩ (fun _ h => h.to ⟨_, (rs r0), ⟨_, (rs r0), ⟨_, (rs r0), trivial⟩⟩⟩ trivial)
def Q_account_sum_account_Statement_c1_c1 (Ba1_0 : Nat) (Ba1_1 : Nat) (Ba1_2 : Nat) (a1_0 : Int) (a1_1 : Int) (a1_2 : Int) (r : GBalance × Int) : Value → List Ent → List Fact → Prop := fun v θ κ => v = .tuple #[.agg #[.int .i64 r.1.Due, .int .i64 r.1.Reserve], .int .i64 r.2] ∧ θ = [eBlk Ba1_0 3 [.int .i64 a1_0], eBlk Ba1_1 3 [.int .i64 a1_1], eBlk Ba1_2 3 [.int .i64 a1_2]] ∧ κ = []
theorem plains_account_sum_account_Statement_c1_c1 {Ba1_0 : Nat} {Ba1_1 : Nat} {Ba1_2 : Nat} {a1_0 : Int} {a1_1 : Int} {a1_2 : Int} {r : GBalance × Int} : ∀ v θ κ, Q_account_sum_account_Statement_c1_c1 Ba1_0 Ba1_1 Ba1_2 a1_0 a1_1 a1_2 r v θ κ → Plains θ := by
  rintro _ _ _ ⟨rfl, rfl, rfl⟩
  exact ⟨plain_eBlk, plain_eBlk, plain_eBlk, trivial⟩
set_option maxHeartbeats 4000000 in
set_option maxRecDepth 100000 in
theorem W_account_sum_account_Statement_c1_c1 (a0 : GLedger) (a1_0 : Int) (a1_1 : Int) (a1_2 : Int) (A0 : Option Addr) (n0 : Nat) (c0 : Nat) (Ba1_0 : Nat) (Ba1_1 : Nat) (Ba1_2 : Nat) (r : GBalance × Int) (h : account_sum_account_Statement_c1_c1 a0 a1_0 a1_1 a1_2 = some r) : Spec Try.prog 28 [.agg #[.int .i64 a0.Closed, .slice A0 n0 c0], .func (.func 29) #[] #[.pointer (some ⟨Ba1_0, 0, none⟩), .pointer (some ⟨Ba1_1, 0, none⟩), .pointer (some ⟨Ba1_2, 0, none⟩)]] [eBlk Ba1_0 3 [.int .i64 a1_0], eBlk Ba1_1 3 [.int .i64 a1_1], eBlk Ba1_2 3 [.int .i64 a1_2]] [fV (lSlice lGPosting) (.slice A0 n0 c0) a0.Postings] (Q_account_sum_account_Statement_c1_c1 Ba1_0 Ba1_1 Ba1_2 a1_0 a1_1 a1_2 r) := by
  unfold account_sum_account_Statement_c1_c1 at h
  refine spec_of (σ := [(0, _), (1, _)]) Try.func28 rfl rfl rfl rfl ?_
  intro C
  refine wc_know (fun _ h => h.lenF m0) (fun e => ?_)
  subst e
  refine wc_seq ?_
  refine wc_region ?_   -- region 0
  refine wl_act (act_box (cs := [_, _]) rfl rfl) rfl rfl rfl ?_
  rintro _ _ _ ⟨b0_0, rfl, rfl, rfl⟩
  refine wl_act (act_alloc (cs := [_, _]) zr30 rfl) rfl rfl rfl ?_
  rintro _ _ _ ⟨b0_1, rfl, rfl, rfl⟩
  refine wl_det rfl rfl (det_assign rfl) rfl ?_
  refine wl_nil ?_
  refine pn_then ?_
  refine wc_seq ?_
  refine wc_region ?_   -- region 1
  refine wl_act (act_alloc (cs := [_, _]) zr30 rfl) rfl rfl rfl ?_
  rintro _ _ _ ⟨b1_0, rfl, rfl, rfl⟩
  refine wl_nil ?_
  refine pn_then ?_
  obtain ⟨q4, h, ho4⟩ := bind_some h
  refine wc_meetG (G := (Int × Int) × Unit) (fun (s4, _) => s4 = q4) (fun (_, _) => [(4, .pointer (some ⟨b0_1, 0, none⟩)), (6, .pointer (some ⟨b1_0, 0, none⟩))]) (fun (s4, _) => [eBlk Ba1_2 3 [.int .i64 a1_2], eBlk Ba1_1 3 [.int .i64 a1_1], eBlk Ba1_0 3 [.int .i64 a1_0], eBlk b0_1 30 [.int .i64 0, .int .i64 0], eBlk b1_0 30 [.int .i64 s4.1, .int .i64 s4.2]]) (fun (_, _) => []) ?_ ?_
  · refine wc_seq ?_
    refine wc_region ?_   -- region 2
    refine wl_det rfl rfl (det_field rfl fd25_1 rfl) rfl ?_
    refine wl_det rfl rfl (det_load rfl (ms (ms m0)) (by rfl) na23 us23) rfl ?_
    refine wl_det rfl rfl (det_len rfl un23) rfl ?_
    refine wl_det rfl rfl (det_move rfl) rfl ?_
    refine wl_nil ?_
    refine pn_then ?_
    refine wc_block ?_
    obtain ⟨k8, hk8⟩ := loopV_some.1 h
    refine wc_loop (G := Nat × (Int × Int × Int) × Unit) (fun g => IterN (account_sum_account_Statement_c1_c1_l8 a0 a1_0 a1_1 a1_2) g.1 g.2.1 q4) (fun g => g.1) (fun (_, s8, _) => [(1, .func (.func 29) #[] #[.pointer (some ⟨Ba1_0, 0, none⟩), .pointer (some ⟨Ba1_1, 0, none⟩), .pointer (some ⟨Ba1_2, 0, none⟩)]), (4, .pointer (some ⟨b0_1, 0, none⟩)), (6, .pointer (some ⟨b1_0, 0, none⟩)), (10, .slice A0 a0.Postings.length c0), (11, .int .i64 (a0.Postings.length : Int)), (12, .int .i64 s8.2.2)]) (fun (_, s8, _) => [eBlk Ba1_2 3 [.int .i64 a1_2], eBlk Ba1_1 3 [.int .i64 a1_1], eBlk Ba1_0 3 [.int .i64 a1_0], eBlk b0_1 30 [.int .i64 0, .int .i64 0], eBlk b1_0 30 [.int .i64 s8.1, .int .i64 s8.2.1]]) (fun (_, _, _) => [fV (lSlice lGPosting) (.slice A0 a0.Postings.length c0) a0.Postings]) (k8, (0, 0, 0), ()) hk8 ⟨rfl, rfl, rfl, rfl, rfl, rfl, trivial⟩ (fun _ h => h.to ⟨_, (rs (rs (rs (rs (rs r0))))), ⟨_, (rs (rs (rs (rs r0)))), ⟨_, (rs (rs (rs r0))), ⟨_, (rs r0), ⟨_, r0, trivial⟩⟩⟩⟩⟩ ⟨m0, trivial⟩) ?_
    rintro ⟨k8, s8, _⟩ hI
    obtain ⟨k8, rfl, q8, h, g8⟩ := IterN.pos hI
    dsimp only at h ⊢
    unfold account_sum_account_Statement_c1_c1_l8 at h
    refine wc_seq ?_
    refine wc_region ?_   -- region 3
    refine wl_det rfl rfl (det_lss rfl rfl) rfl ?_
    refine wl_nil ?_
    refine pn_then ?_
    refine wc_seq ?_
    refine wc_cond rfl (fun c12 => ?_) (fun c12 => ?_)
    · have h := ifT h c12
      refine wc_skip ?_
      refine pn_then ?_
      obtain ⟨q14, h, ho14⟩ := bind_some h
      refine wc_meetG (G := (Int × Int) × Unit) (fun (s14, _) => s14 = q14) (fun (_, _) => [(1, .func (.func 29) #[] #[.pointer (some ⟨Ba1_0, 0, none⟩), .pointer (some ⟨Ba1_1, 0, none⟩), .pointer (some ⟨Ba1_2, 0, none⟩)]), (4, .pointer (some ⟨b0_1, 0, none⟩)), (6, .pointer (some ⟨b1_0, 0, none⟩)), (10, .slice A0 a0.Postings.length c0), (11, .int .i64 (a0.Postings.length : Int)), (12, .int .i64 s8.2.2)]) (fun (s14, _) => [eBlk Ba1_2 3 [.int .i64 a1_2], eBlk Ba1_1 3 [.int .i64 a1_1], eBlk Ba1_0 3 [.int .i64 a1_0], eBlk b0_1 30 [.int .i64 0, .int .i64 0], eBlk b1_0 30 [.int .i64 s14.1, .int .i64 s14.2]]) (fun (_, _) => [fV (lSlice lGPosting) (.slice A0 a0.Postings.length c0) a0.Postings]) ?_ ?_
      · refine wc_block ?_
        refine wc_seq ?_
        refine wc_region ?_   -- region 4
        obtain ⟨k4_0, h⟩ := chk_some h
        refine wl_st (fun _ h => h.openF m0 k4_0) ?_
        refine wl_det rfl rfl (det_indexP rfl rfl (ms m0) k4_0 m0 un23 sz48) rfl ?_
        refine wl_det rfl rfl (det_loadP (off := 0) rfl m0 (by rfl) (by rfl) (loaded_n (cells := [_, _, _, _, _, _, _]) ag48 sz48)) rfl ?_
        refine wl_act (act_alloc (cs := [_, _, _, _, _, _, _]) zr48 rfl) rfl rfl rfl ?_
        rintro _ _ _ ⟨b4_2, rfl, rfl, rfl⟩
        refine wl_act0 (act_store (cells := [_, _, _, _, _, _, _]) (cs' := [_, _, _, _, _, _, _]) rfl rfl rfl s0 (by rfl) (of_decide_eq_true rfl) sz48 ⟨rfl, rfl, rfl, rfl, rfl, rfl, rfl, trivial⟩) rfl rfl ?_
        rintro _ _ _ ⟨rfl, rfl⟩
        refine wl_nil ?_
        refine pn_then ?_
        refine wc_block ?_
        refine wc_seq ?_
        refine wc_region ?_   -- region 6
        refine wl_det rfl rfl (det_move rfl) rfl ?_
        refine wl_det rfl rfl (det_loadN (cells := [_, _, _, _, _, _, _]) rfl m0 (by rfl) ag48 sz48) rfl ?_
        obtain ⟨r6_2, hr6_2, h⟩ := bind_some h
        refine wl_act (act_callS (cap := [_, _, _]) (W_account_Statement_c1_c1 (ix a0.Postings s8.2.2) a1_0 a1_1 a1_2 Ba1_0 Ba1_1 Ba1_2 r6_2 hr6_2) rfl rfl rfl bd29 ⟨_, (rs (rs (rs r0))), ⟨_, (rs (rs r0)), ⟨_, (rs r0), rfl⟩⟩⟩ trivial) rfl rfl rfl ?_
        rintro _ _ _ ⟨_, _, ⟨rfl, rfl, rfl⟩, rfl, rfl⟩
        dsimp only [List.nil_append, List.cons_append]
        refine wl_det rfl rfl (det_not rfl) rfl ?_
        refine wl_det rfl rfl (det_assign rfl) rfl ?_
        refine wl_nil ?_
        refine pn_then ?_
        refine wc_cond rfl (fun c21 => ?_) (fun c21 => ?_)
        · have h := ifT h c21
          refine wc_skip ?_
          refine pn_block ?_
          refine pn_block ?_
          replace h := Option.some.inj h
          subst h
          exact pn_meetG ((s8.1, s8.2.1), ()) rfl ⟨rfl, rfl, rfl, rfl, rfl, rfl, trivial⟩ (fun _ h => h.to ⟨_, (rs (rs r0)), ⟨_, (rs r0), ⟨_, r0, ⟨_, (rs r0), ⟨_, (rs r0), trivial⟩⟩⟩⟩⟩ ⟨(ms m0), trivial⟩)
        · have h := ifF h c21
          refine wc_seq ?_
          refine wc_region ?_   -- region 7
          refine wl_det rfl rfl (det_field rfl fd48_2 rfl) rfl ?_
          refine wl_det rfl rfl (det_field rfl fd46_0 rfl) rfl ?_
          refine wl_det rfl rfl (det_load rfl (ms (ms (ms m0))) (by rfl) na3 us3) rfl ?_
          refine wl_det rfl rfl (det_eql rfl rfl) rfl ?_
          refine wl_det rfl rfl (det_assign rfl) rfl ?_
          refine wl_nil ?_
          refine pn_then ?_
          refine wc_cond rfl (fun c24 => ?_) (fun c24 => ?_)
          · have h := ifT h c24
            refine wc_region ?_   -- region 8
            refine wl_det rfl rfl (det_field rfl fd30_1 rfl) rfl ?_
            refine wl_det rfl rfl (det_load rfl (ms (ms (ms (ms (ms m0))))) (by rfl) na3 us3) rfl ?_
            refine wl_det rfl rfl (det_field rfl fd48_2 rfl) rfl ?_
            refine wl_det rfl rfl (det_field rfl fd46_4 rfl) rfl ?_
            refine wl_det rfl rfl (det_load rfl (ms (ms (ms m0))) (by rfl) na3 us3) rfl ?_
            refine wl_det rfl rfl (det_add rfl rfl) rfl ?_
            refine wl_det rfl rfl (det_field rfl fd30_1 rfl) rfl ?_
            refine wl_act0 (act_store (cells := [_]) (cs' := [_, _]) rfl rfl rfl (ss (ss (ss (ss (ss s0))))) (by rfl) (of_decide_eq_true rfl) sz3 ⟨rfl, trivial⟩) rfl rfl ?_
            rintro _ _ _ ⟨rfl, rfl⟩
            refine wl_nil ?_
            refine pn_block ?_
            refine pn_block ?_
            replace h := Option.some.inj h
            subst h
            exact pn_meetG ((s8.1, (w64 (s8.2.1 + (ix a0.Postings s8.2.2).Entry.Amount))), ()) rfl ⟨rfl, rfl, rfl, rfl, rfl, rfl, trivial⟩ (fun _ h => h.to ⟨_, (rs (rs r0)), ⟨_, (rs r0), ⟨_, r0, ⟨_, (rs r0), ⟨_, (rs r0), trivial⟩⟩⟩⟩⟩ ⟨(ms m0), trivial⟩)
          · have h := ifF h c24
            refine wc_region ?_   -- region 5
            refine wl_det rfl rfl (det_field rfl fd30_0 rfl) rfl ?_
            refine wl_det rfl rfl (det_load rfl (ms (ms (ms (ms (ms m0))))) (by rfl) na3 us3) rfl ?_
            refine wl_det rfl rfl (det_field rfl fd48_2 rfl) rfl ?_
            refine wl_det rfl rfl (det_field rfl fd46_4 rfl) rfl ?_
            refine wl_det rfl rfl (det_load rfl (ms (ms (ms m0))) (by rfl) na3 us3) rfl ?_
            refine wl_det rfl rfl (det_add rfl rfl) rfl ?_
            refine wl_det rfl rfl (det_field rfl fd30_0 rfl) rfl ?_
            refine wl_act0 (act_store (cells := [_]) (cs' := [_, _]) rfl rfl rfl (ss (ss (ss (ss (ss s0))))) (by rfl) (of_decide_eq_true rfl) sz3 ⟨rfl, trivial⟩) rfl rfl ?_
            rintro _ _ _ ⟨rfl, rfl⟩
            refine wl_nil ?_
            refine pn_block ?_
            refine pn_block ?_
            replace h := Option.some.inj h
            subst h
            exact pn_meetG (((w64 (s8.1 + (ix a0.Postings s8.2.2).Entry.Amount)), s8.2.1), ()) rfl ⟨rfl, rfl, rfl, rfl, rfl, rfl, trivial⟩ (fun _ h => h.to ⟨_, (rs (rs r0)), ⟨_, (rs r0), ⟨_, r0, ⟨_, (rs r0), ⟨_, (rs r0), trivial⟩⟩⟩⟩⟩ ⟨(ms m0), trivial⟩)
      rintro ⟨s14, _⟩ e14
      dsimp only at e14 ⊢
      subst e14
      have h := ho14
      refine wc_region ?_   -- region 9
      refine wl_det rfl rfl (det_add rfl rfl) rfl ?_
      refine wl_det rfl rfl (det_move rfl) rfl ?_
      refine wl_nil ?_
      replace h := Option.some.inj h
      subst h
      exact pn_some (k8, (s14.1, s14.2, (w64 (s8.2.2 + 1))), ()) ⟨nextL g8, Nat.lt_succ_self _⟩ ⟨rfl, rfl, rfl, rfl, rfl, rfl, trivial⟩ (fun _ h => h.to ⟨_, r0, ⟨_, r0, ⟨_, r0, ⟨_, r0, ⟨_, r0, trivial⟩⟩⟩⟩⟩ ⟨m0, trivial⟩)
    · have h := ifF h c12
      refine wc_exit ?_
      refine px_then ?_
      refine px_then ?_
      refine px_block ?_
      replace h := Option.some.inj h
      subst h
      replace g8 := nextR g8
      subst g8
      exact pn_meetG ((s8.1, s8.2.1), ()) rfl ⟨rfl, rfl, trivial⟩ (fun _ h => h.to ⟨_, r0, ⟨_, r0, ⟨_, r0, ⟨_, r0, ⟨_, r0, trivial⟩⟩⟩⟩⟩ trivial)
  rintro ⟨s4, _⟩ e4
  dsimp only at e4 ⊢
  subst e4
  have h := ho4
  refine wc_seq ?_
  refine wc_seq ?_
  refine wc_region ?_   -- region 10
  refine wl_det rfl rfl (det_field rfl fd30_0 rfl) rfl ?_
  refine wl_det rfl rfl (det_load rfl (ms (ms (ms (ms m0)))) (by rfl) na3 us3) rfl ?_
  obtain ⟨r10_2, hr10_2, h⟩ := bind_some h
  refine wl_act (act_callS (cap := []) (W_amount_Valid s4.1 r10_2 hr10_2) rfl rfl rfl bd43 rfl trivial) rfl rfl rfl ?_
  rintro _ _ _ ⟨_, _, ⟨rfl, rfl, rfl⟩, rfl, rfl⟩
  dsimp only [List.nil_append, List.cons_append]
  refine wl_det rfl rfl (det_not rfl) rfl ?_
  refine wl_det rfl rfl (det_move rfl) rfl ?_
  obtain ⟨q10_9, hq10_9, h⟩ := bind_some h
  have ho10_9 := h
  refine wl_way (!r10_2) q10_9 5 50 (fun hg => ?_) (fun hg => ?_) ?_
  · have hg10_9 := hg
    have h := ifT hq10_9 hg
    refine wl_off rfl rfl rfl rfl rfl hg10_9 rfl ?_
    refine wl_off rfl rfl rfl rfl rfl hg10_9 rfl ?_
    refine wl_off rfl rfl rfl rfl rfl hg10_9 rfl ?_
    refine wl_off rfl rfl rfl rfl rfl hg10_9 rfl ?_
    replace h := Option.some.inj h
    subst h
    refine wl_det rfl rfl (det_pick_on rfl hg10_9 rfl rfl) rfl ?_
    exact wl_nil (pn_qnE (ext_cons rfl (ext_skip rfl (ext_skip rfl (ext_skip rfl (ext_skip rfl (ext_skip rfl ext_refl)))))) (fun _ h => h))
  · have hg10_9a := hg
    have h := ifF hq10_9 hg
    refine wl_on rfl rfl rfl rfl hg10_9a ?_
    refine wl_det rfl rfl (det_field rfl fd30_1 rfl) rfl ?_
    refine wl_on rfl rfl rfl rfl hg10_9a ?_
    refine wl_det rfl rfl (det_load rfl (ms (ms (ms (ms m0)))) (by rfl) na3 us3) rfl ?_
    refine wl_on rfl rfl rfl rfl hg10_9a ?_
    obtain ⟨r10_7, hr10_7, h⟩ := bind_some h
    refine wl_act (act_callS (cap := []) (W_amount_Valid s4.2 r10_7 hr10_7) rfl rfl rfl bd43 rfl trivial) rfl rfl rfl ?_
    rintro _ _ _ ⟨_, _, ⟨rfl, rfl, rfl⟩, rfl, rfl⟩
    dsimp only [List.nil_append, List.cons_append]
    refine wl_on rfl rfl rfl rfl hg10_9a ?_
    refine wl_det rfl rfl (det_not rfl) rfl ?_
    replace h := Option.some.inj h
    subst h
    refine wl_det rfl rfl (det_pick_off rfl hg10_9a rfl rfl) rfl ?_
    exact wl_nil (pn_qnE (ext_cons rfl (ext_skip rfl (ext_skip rfl (ext_skip rfl (ext_skip rfl (ext_skip rfl ext_refl)))))) (fun _ h => h))
  have h := ho10_9
  refine wl_nil ?_
  refine pn_then ?_
  refine wc_cond rfl (fun c31 => ?_) (fun c31 => ?_)
  · have h := ifT h c31
    refine wc_seq ?_
    refine wc_region ?_   -- region 11
    refine wl_det rfl rfl (det_build (cs := [_, _]) pl30 zr30 rfl rfl (by rfl)) rfl ?_
    refine wl_act0 (act_store (cells := [_, _]) (cs' := [_, _]) rfl rfl rfl (ss (ss (ss s0))) (by rfl) (of_decide_eq_true rfl) sz30 ⟨rfl, rfl, trivial⟩) rfl rfl ?_
    rintro _ _ _ ⟨rfl, rfl⟩
    refine wl_det rfl rfl (det_assign rfl) rfl ?_
    refine wl_nil ?_
    refine pn_then ?_
    refine wc_ret ?_
    refine pr_then ?_
    replace h := Option.some.inj h
    subst h
    refine pn_ret (vs := [_, _]) rfl ⟨⟨_, _, [_, _], rfl, (ms (ms (ms m0))), ag30, sz30, rfl⟩, rfl, trivial⟩ ⟨rfl, rfl, rfl⟩ (fun _ h => h.to ⟨_, (rs (rs r0)), ⟨_, (rs r0), ⟨_, r0, trivial⟩⟩⟩ trivial)
  · have h := ifF h c31
    refine wc_skip ?_
    refine pn_then ?_
    refine wc_seq ?_
    refine wc_region ?_   -- region 12
    refine wl_det rfl rfl (det_loadN (cells := [_, _]) rfl (ms (ms (ms (ms m0)))) (by rfl) ag30 sz30) rfl ?_
    refine wl_act0 (act_store (cells := [_, _]) (cs' := [_, _]) rfl rfl rfl (ss (ss (ss s0))) (by rfl) (of_decide_eq_true rfl) sz30 ⟨rfl, rfl, trivial⟩) rfl rfl ?_
    rintro _ _ _ ⟨rfl, rfl⟩
    refine wl_det rfl rfl (det_assign rfl) rfl ?_
    refine wl_nil ?_
    refine pn_then ?_
    refine wc_ret ?_
    replace h := Option.some.inj h
    subst h
    refine pn_ret (vs := [_, _]) rfl ⟨⟨_, _, [_, _], rfl, (ms (ms (ms m0))), ag30, sz30, rfl⟩, rfl, trivial⟩ ⟨rfl, rfl, rfl⟩ (fun _ h => h.to ⟨_, (rs (rs r0)), ⟨_, (rs r0), ⟨_, r0, trivial⟩⟩⟩ trivial)
def Q_account_Statement_c1 (Ba1 : Nat) (Ba2 : Nat) (Ba3 : Nat) (a1 : GLedger) (a2 : Int) (a3 : Int) (A1 : Option Addr) (n1 : Nat) (c1 : Nat) (r : GBalance × Int) : Value → List Ent → List Fact → Prop := fun v θ κ => v = .tuple #[.agg #[.int .i64 r.1.Due, .int .i64 r.1.Reserve], .int .i64 r.2] ∧ θ = [eBlk Ba1 25 [.int .i64 a1.Closed, .slice A1 n1 c1], eBlk Ba2 3 [.int .i64 a2], eBlk Ba3 3 [.int .i64 a3]] ∧ κ = []
theorem plains_account_Statement_c1 {Ba1 : Nat} {Ba2 : Nat} {Ba3 : Nat} {a1 : GLedger} {a2 : Int} {a3 : Int} {A1 : Option Addr} {n1 : Nat} {c1 : Nat} {r : GBalance × Int} : ∀ v θ κ, Q_account_Statement_c1 Ba1 Ba2 Ba3 a1 a2 a3 A1 n1 c1 r v θ κ → Plains θ := by
  rintro _ _ _ ⟨rfl, rfl, rfl⟩
  exact ⟨plain_eBlk, plain_eBlk, plain_eBlk, trivial⟩
set_option maxHeartbeats 4000000 in
set_option maxRecDepth 100000 in
theorem W_account_Statement_c1 (a0 : Int) (a1 : GLedger) (a2 : Int) (a3 : Int) (Ba1 : Nat) (A1 : Option Addr) (n1 : Nat) (c1 : Nat) (Ba2 : Nat) (Ba3 : Nat) (r : GBalance × Int) (h : account_Statement_c1 a0 a1 a2 a3 = some r) : Spec Try.prog 27 [.int .i64 a0, .pointer (some ⟨Ba1, 0, none⟩), .pointer (some ⟨Ba2, 0, none⟩), .pointer (some ⟨Ba3, 0, none⟩)] [eBlk Ba1 25 [.int .i64 a1.Closed, .slice A1 n1 c1], eBlk Ba2 3 [.int .i64 a2], eBlk Ba3 3 [.int .i64 a3]] [fV (lSlice lGPosting) (.slice A1 n1 c1) a1.Postings] (Q_account_Statement_c1 Ba1 Ba2 Ba3 a1 a2 a3 A1 n1 c1 r) := by
  unfold account_Statement_c1 at h
  refine spec_of (σ := [(0, _), (1, _), (2, _), (3, _)]) Try.func27 rfl rfl rfl rfl ?_
  intro C
  refine wc_know (fun _ h => h.lenF m0) (fun e => ?_)
  subst e
  refine wc_seq ?_
  refine wc_region ?_   -- region 0
  refine wl_act (act_box (cs := [_]) rfl rfl) rfl rfl rfl ?_
  rintro _ _ _ ⟨b0_0, rfl, rfl, rfl⟩
  refine wl_act (act_alloc (cs := [_, _]) zr30 rfl) rfl rfl rfl ?_
  rintro _ _ _ ⟨b0_1, rfl, rfl, rfl⟩
  refine wl_det rfl rfl (det_assign rfl) rfl ?_
  refine wl_nil ?_
  refine pn_then ?_
  refine wc_seq ?_
  refine wc_region ?_   -- region 1
  refine wl_det rfl rfl (det_loadN (cells := [_, _]) rfl (ms (ms m0)) (by rfl) ag25 sz25) rfl ?_
  refine wl_det rfl rfl (det_makeFunc rfl) rfl ?_
  obtain ⟨r1_2, hr1_2, h⟩ := bind_some h
  refine wl_act (act_callS (cap := []) (W_account_sum_account_Statement_c1_c1 a1 a2 a3 a0 A1 a1.Postings.length c1 Ba2 Ba3 b0_0 r1_2 hr1_2) rfl rfl rfl bd28 ⟨_, (rs (rs (rs r0))), ⟨_, (rs (rs (rs r0))), ⟨_, (rs r0), rfl⟩⟩⟩ ⟨m0, trivial⟩) rfl rfl rfl ?_
  rintro _ _ _ ⟨_, _, ⟨rfl, rfl, rfl⟩, rfl, rfl⟩
  dsimp only [List.nil_append, List.cons_append]
  refine wl_det rfl rfl (det_extract rfl rfl) rfl ?_
  refine wl_det rfl rfl (det_extract rfl rfl) rfl ?_
  refine wl_act0 (act_store (cells := [_, _]) (cs' := [_, _]) rfl rfl rfl (ss (ss (ss s0))) (by rfl) (of_decide_eq_true rfl) sz30 ⟨rfl, rfl, trivial⟩) rfl rfl ?_
  rintro _ _ _ ⟨rfl, rfl⟩
  refine wl_det rfl rfl (det_assign rfl) rfl ?_
  refine wl_nil ?_
  refine pn_then ?_
  refine wc_ret ?_
  replace h := Option.some.inj h
  subst h
  refine pn_ret (vs := [_, _]) rfl ⟨⟨_, _, [_, _], rfl, (ms (ms (ms m0))), ag30, sz30, rfl⟩, rfl, trivial⟩ ⟨rfl, rfl, rfl⟩ (fun _ h => h.to ⟨_, (rs (rs (rs (rs r0)))), ⟨_, r0, ⟨_, r0, trivial⟩⟩⟩ trivial)
def Q_account_Statement (r : GStatement × Int) : Value → List Ent → List Fact → Prop := fun v θ κ => ∃ (pA0 : Option Addr), ∃ (pn0 : Nat), ∃ (pc0 : Nat), v = .tuple #[.agg #[.int .i64 r.1.Treaty, .int .i64 r.1.Party, .int .i64 r.1.Period, .int .i64 r.1.Opening.Due, .int .i64 r.1.Opening.Reserve, .slice pA0 pn0 pc0, .int .i64 r.1.Closing.Due, .int .i64 r.1.Closing.Reserve], .int .i64 r.2] ∧ θ = [eS lGPosting 48 pA0 pn0 pc0 r.1.Postings] ∧ κ = []
theorem plains_account_Statement {r : GStatement × Int} : ∀ v θ κ, Q_account_Statement r v θ κ → Plains θ := by
  rintro _ _ _ ⟨_, _, _, rfl, rfl, rfl⟩
  exact ⟨plain_eS, trivial⟩
set_option maxHeartbeats 4000000 in
set_option maxRecDepth 100000 in
theorem W_account_Statement (a0 : GLedger) (a1 : Int) (a2 : Int) (a3 : Int) (A0 : Option Addr) (n0 : Nat) (c0 : Nat) (r : GStatement × Int) (h : account_Statement a0 a1 a2 a3 = some r) : Spec Try.prog 10 [.agg #[.int .i64 a0.Closed, .slice A0 n0 c0], .int .i64 a1, .int .i64 a2, .int .i64 a3] [] [fV (lSlice lGPosting) (.slice A0 n0 c0) a0.Postings] (Q_account_Statement r) := by
  unfold account_Statement at h
  refine spec_of (σ := [(0, _), (1, _), (2, _), (3, _)]) Try.func10 rfl rfl rfl rfl ?_
  intro C
  refine wc_know (fun _ h => h.lenF m0) (fun e => ?_)
  subst e
  refine wc_seq ?_
  refine wc_region ?_   -- region 0
  refine wl_act (act_box (cs := [_, _]) rfl rfl) rfl rfl rfl ?_
  rintro _ _ _ ⟨b0_0, rfl, rfl, rfl⟩
  refine wl_act (act_box (cs := [_]) rfl rfl) rfl rfl rfl ?_
  rintro _ _ _ ⟨b0_1, rfl, rfl, rfl⟩
  refine wl_act (act_box (cs := [_]) rfl rfl) rfl rfl rfl ?_
  rintro _ _ _ ⟨b0_2, rfl, rfl, rfl⟩
  refine wl_act (act_alloc (cs := [_, _, _, _, _, _, _, _]) zr32 rfl) rfl rfl rfl ?_
  rintro _ _ _ ⟨b0_3, rfl, rfl, rfl⟩
  refine wl_det rfl rfl (det_assign rfl) rfl ?_
  refine wl_nil ?_
  refine pn_then ?_
  refine wc_seq ?_
  refine wc_seq ?_
  refine wc_region ?_   -- region 1
  refine wl_det rfl rfl (det_loadN (cells := [_, _]) rfl (ms (ms (ms m0))) (by rfl) ag25 sz25) rfl ?_
  obtain ⟨r1_1, hr1_1, h⟩ := bind_some h
  refine wl_act (act_callS (cap := []) (W_ledger_Validate a0 A0 a0.Postings.length c0 r1_1 hr1_1) rfl rfl rfl bd19 rfl ⟨m0, trivial⟩) rfl rfl rfl ?_
  rintro _ _ _ ⟨_, _, ⟨rfl, rfl, rfl⟩, rfl, rfl⟩
  dsimp only [List.nil_append, List.cons_append]
  refine wl_det rfl rfl (det_assign rfl) rfl ?_
  refine wl_nil ?_
  refine pn_then ?_
  refine wc_seq ?_
  refine wc_region ?_   -- region 2
  refine wl_det rfl rfl (det_move rfl) rfl ?_
  refine wl_det rfl rfl (det_neq rfl rfl) rfl ?_
  refine wl_nil ?_
  refine pn_then ?_
  refine wc_cond rfl (fun c7 => ?_) (fun c7 => ?_)
  · have h := ifT h c7
    refine wc_seq ?_
    refine wc_region ?_   -- region 3
    refine wl_det rfl rfl (det_build (cs := [_, _, _, _, _, _, _, _]) pl32 zr32 rfl rfl (by rfl)) rfl ?_
    refine wl_det rfl rfl (det_move rfl) rfl ?_
    refine wl_act0 (act_store (cells := [_, _, _, _, _, _, _, _]) (cs' := [_, _, _, _, _, _, _, _]) rfl rfl rfl s0 (by rfl) (of_decide_eq_true rfl) sz32 ⟨rfl, rfl, rfl, rfl, rfl, rfl, rfl, rfl, trivial⟩) rfl rfl ?_
    rintro _ _ _ ⟨rfl, rfl⟩
    refine wl_det rfl rfl (det_assign rfl) rfl ?_
    refine wl_nil ?_
    refine pn_then ?_
    refine wc_ret ?_
    refine pr_then ?_
    refine pn_st (fun _ h => h.zeroS lGPosting 48 none) ?_
    replace h := Option.some.inj h
    subst h
    refine pn_ret (vs := [_, _]) rfl ⟨⟨_, _, [_, _, _, _, _, _, _, _], rfl, (ms m0), ag32, sz32, rfl⟩, rfl, trivial⟩ ⟨none, 0, 0, rfl, rfl, rfl⟩ (fun _ h => h.to ⟨_, r0, trivial⟩ trivial)
  · have h := ifF h c7
    refine wc_skip ?_
    refine pn_then ?_
    refine wc_seq ?_
    refine wc_seq ?_
    refine wc_region ?_   -- region 4
    refine wl_det rfl rfl (det_move rfl) rfl ?_
    refine wl_det rfl rfl (det_lss rfl rfl) rfl ?_
    refine wl_det rfl rfl (det_move rfl) rfl ?_
    refine wl_way (decide (a3 < 0)) ((decide (a3 < 0)) || (decide (a0.Closed < a3))) 5 29 (fun hg => ?_) (fun hg => ?_) ?_
    · have hg4_7 := hg
      refine wl_off rfl rfl rfl rfl rfl hg4_7 rfl ?_
      refine wl_off rfl rfl rfl rfl rfl hg4_7 rfl ?_
      refine wl_off rfl rfl rfl rfl rfl hg4_7 rfl ?_
      refine wl_off rfl rfl rfl rfl rfl hg4_7 rfl ?_
      refine wl_det rfl rfl (det_or_on (r := (decide (a0.Closed < a3))) rfl rfl rfl hg4_7) rfl ?_
      exact wl_nil (pn_qnE (ext_cons rfl (ext_skip rfl (ext_skip rfl (ext_skip rfl (ext_skip rfl (ext_skip rfl ext_refl)))))) (fun _ h => h))
    · have hg4_7a := hg
      refine wl_on rfl rfl rfl rfl hg4_7a ?_
      refine wl_det rfl rfl (det_move rfl) rfl ?_
      refine wl_on rfl rfl rfl rfl hg4_7a ?_
      refine wl_det rfl rfl (det_field rfl fd25_0 rfl) rfl ?_
      refine wl_on rfl rfl rfl rfl hg4_7a ?_
      refine wl_det rfl rfl (det_load rfl (ms (ms (ms m0))) (by rfl) na3 us3) rfl ?_
      refine wl_on rfl rfl rfl rfl hg4_7a ?_
      refine wl_det rfl rfl (det_gtr rfl rfl) rfl ?_
      refine wl_det rfl rfl (det_or_off rfl rfl rfl hg4_7a) rfl ?_
      exact wl_nil (pn_qnE (ext_cons rfl (ext_skip rfl (ext_skip rfl (ext_skip rfl (ext_skip rfl (ext_skip rfl ext_refl)))))) (fun _ h => h))
    refine wl_nil ?_
    refine pn_then ?_
    refine wc_cond rfl (fun c13 => ?_) (fun c13 => ?_)
    · have h := ifT h c13
      refine wc_seq ?_
      refine wc_region ?_   -- region 5
      refine wl_det rfl rfl (det_build (cs := [_, _, _, _, _, _, _, _]) pl32 zr32 rfl rfl (by rfl)) rfl ?_
      refine wl_act0 (act_store (cells := [_, _, _, _, _, _, _, _]) (cs' := [_, _, _, _, _, _, _, _]) rfl rfl rfl s0 (by rfl) (of_decide_eq_true rfl) sz32 ⟨rfl, rfl, rfl, rfl, rfl, rfl, rfl, rfl, trivial⟩) rfl rfl ?_
      rintro _ _ _ ⟨rfl, rfl⟩
      refine wl_det rfl rfl (det_assign rfl) rfl ?_
      refine wl_nil ?_
      refine pn_then ?_
      refine wc_ret ?_
      refine pr_then ?_
      refine pn_st (fun _ h => h.zeroS lGPosting 48 none) ?_
      replace h := Option.some.inj h
      subst h
      refine pn_ret (vs := [_, _]) rfl ⟨⟨_, _, [_, _, _, _, _, _, _, _], rfl, (ms m0), ag32, sz32, rfl⟩, rfl, trivial⟩ ⟨none, 0, 0, rfl, rfl, rfl⟩ (fun _ h => h.to ⟨_, r0, trivial⟩ trivial)
    · have h := ifF h c13
      refine wc_skip ?_
      refine pn_then ?_
      refine wc_seq ?_
      refine wc_region ?_   -- region 6
      refine wl_det rfl rfl (det_makeFunc rfl) rfl ?_
      refine wl_det rfl rfl (det_assign rfl) rfl ?_
      refine wl_nil ?_
      refine pn_then ?_
      refine wc_seq ?_
      refine wc_region ?_   -- region 7
      refine wl_det rfl rfl (det_load rfl (ms (ms m0)) (by rfl) na3 us3) rfl ?_
      refine wl_det rfl rfl (det_load rfl (ms m0) (by rfl) na3 us3) rfl ?_
      refine wl_det rfl rfl (det_move rfl) rfl ?_
      refine wl_det rfl rfl (det_build (cs := [_, _, _, _, _, _, _, _]) pl32 zr32 rfl rfl (by rfl)) rfl ?_
      refine wl_act (act_alloc (cs := [_, _, _, _, _, _, _, _]) zr32 rfl) rfl rfl rfl ?_
      rintro _ _ _ ⟨b7_4, rfl, rfl, rfl⟩
      refine wl_act0 (act_store (cells := [_, _, _, _, _, _, _, _]) (cs' := [_, _, _, _, _, _, _, _]) rfl rfl rfl s0 (by rfl) (of_decide_eq_true rfl) sz32 ⟨rfl, rfl, rfl, rfl, rfl, rfl, rfl, rfl, trivial⟩) rfl rfl ?_
      rintro _ _ _ ⟨rfl, rfl⟩
      refine wl_nil ?_
      refine pn_then ?_
      refine wc_seq ?_
      refine wc_region ?_   -- region 8
      refine wl_det rfl rfl (det_assign rfl) rfl ?_
      refine wl_nil ?_
      refine pn_then ?_
      refine wc_seq ?_
      refine wc_seq ?_
      refine wc_region ?_   -- region 9
      refine wl_det rfl rfl (det_move rfl) rfl ?_
      refine wl_det rfl rfl (det_move rfl) rfl ?_
      obtain ⟨r9_2, hr9_2, h⟩ := bind_some h
      refine wl_act (act_callS (cap := [_, _, _]) (W_account_Statement_c1 a3 a0 a1 a2 b0_0 A0 a0.Postings.length c0 b0_1 b0_2 r9_2 hr9_2) rfl rfl rfl bd27 ⟨_, (rs (rs (rs (rs r0)))), ⟨_, (rs (rs (rs r0))), ⟨_, (rs (rs r0)), rfl⟩⟩⟩ ⟨m0, trivial⟩) rfl rfl rfl ?_
      rintro _ _ _ ⟨_, _, ⟨rfl, rfl, rfl⟩, rfl, rfl⟩
      dsimp only [List.nil_append, List.cons_append]
      refine wl_det rfl rfl (det_move rfl) rfl ?_
      refine wl_det rfl rfl (det_extract rfl rfl) rfl ?_
      refine wl_det rfl rfl (det_extract rfl rfl) rfl ?_
      refine wl_det rfl rfl (det_field rfl fd32_3 rfl) rfl ?_
      refine wl_act0 (act_store (cells := [_, _]) (cs' := [_, _, _, _, _, _, _, _]) rfl rfl rfl (ss (ss (ss s0))) (by rfl) (of_decide_eq_true rfl) sz30 ⟨rfl, rfl, trivial⟩) rfl rfl ?_
      rintro _ _ _ ⟨rfl, rfl⟩
      refine wl_det rfl rfl (det_assign rfl) rfl ?_
      refine wl_nil ?_
      refine pn_then ?_
      refine wc_seq ?_
      refine wc_region ?_   -- region 10
      refine wl_det rfl rfl (det_move rfl) rfl ?_
      refine wl_det rfl rfl (det_neq rfl rfl) rfl ?_
      refine wl_nil ?_
      refine pn_then ?_
      refine wc_cond rfl (fun c27 => ?_) (fun c27 => ?_)
      · have h := ifT h c27
        refine wc_seq ?_
        refine wc_region ?_   -- region 11
        refine wl_det rfl rfl (det_build (cs := [_, _, _, _, _, _, _, _]) pl32 zr32 rfl rfl (by rfl)) rfl ?_
        refine wl_det rfl rfl (det_move rfl) rfl ?_
        refine wl_act0 (act_store (cells := [_, _, _, _, _, _, _, _]) (cs' := [_, _, _, _, _, _, _, _]) rfl rfl rfl (ss (ss (ss (ss s0)))) (by rfl) (of_decide_eq_true rfl) sz32 ⟨rfl, rfl, rfl, rfl, rfl, rfl, rfl, rfl, trivial⟩) rfl rfl ?_
        rintro _ _ _ ⟨rfl, rfl⟩
        refine wl_det rfl rfl (det_assign rfl) rfl ?_
        refine wl_nil ?_
        refine pn_then ?_
        refine wc_ret ?_
        refine pr_then ?_
        refine pn_st (fun _ h => h.zeroS lGPosting 48 none) ?_
        replace h := Option.some.inj h
        subst h
        refine pn_ret (vs := [_, _]) rfl ⟨⟨_, _, [_, _, _, _, _, _, _, _], rfl, (ms (ms (ms (ms (ms m0))))), ag32, sz32, rfl⟩, rfl, trivial⟩ ⟨none, 0, 0, rfl, rfl, rfl⟩ (fun _ h => h.to ⟨_, r0, trivial⟩ trivial)
      · have h := ifF h c27
        refine wc_skip ?_
        refine pn_then ?_
        refine wc_seq ?_
        refine wc_seq ?_
        refine wc_region ?_   -- region 12
        refine wl_det rfl rfl (det_move rfl) rfl ?_
        refine wl_det rfl rfl (det_move rfl) rfl ?_
        refine wl_det rfl rfl (det_add rfl rfl) rfl ?_
        obtain ⟨r12_3, hr12_3, h⟩ := bind_some h
        refine wl_act (act_callS (cap := [_, _, _]) (W_account_Statement_c1 (w64 (a3 + 1)) a0 a1 a2 b0_0 A0 a0.Postings.length c0 b0_1 b0_2 r12_3 hr12_3) rfl rfl rfl bd27 ⟨_, r0, ⟨_, r0, ⟨_, r0, rfl⟩⟩⟩ ⟨m0, trivial⟩) rfl rfl rfl ?_
        rintro _ _ _ ⟨_, _, ⟨rfl, rfl, rfl⟩, rfl, rfl⟩
        dsimp only [List.nil_append, List.cons_append]
        refine wl_det rfl rfl (det_move rfl) rfl ?_
        refine wl_det rfl rfl (det_extract rfl rfl) rfl ?_
        refine wl_det rfl rfl (det_extract rfl rfl) rfl ?_
        refine wl_det rfl rfl (det_field rfl fd32_5 rfl) rfl ?_
        refine wl_act0 (act_store (cells := [_, _]) (cs' := [_, _, _, _, _, _, _, _]) rfl rfl rfl (ss (ss (ss s0))) (by rfl) (of_decide_eq_true rfl) sz30 ⟨rfl, rfl, trivial⟩) rfl rfl ?_
        rintro _ _ _ ⟨rfl, rfl⟩
        refine wl_det rfl rfl (det_assign rfl) rfl ?_
        refine wl_nil ?_
        refine pn_then ?_
        refine wc_seq ?_
        refine wc_region ?_   -- region 13
        refine wl_det rfl rfl (det_move rfl) rfl ?_
        refine wl_det rfl rfl (det_neq rfl rfl) rfl ?_
        refine wl_nil ?_
        refine pn_then ?_
        refine wc_cond rfl (fun c35 => ?_) (fun c35 => ?_)
        · have h := ifT h c35
          refine wc_seq ?_
          refine wc_region ?_   -- region 14
          refine wl_det rfl rfl (det_build (cs := [_, _, _, _, _, _, _, _]) pl32 zr32 rfl rfl (by rfl)) rfl ?_
          refine wl_det rfl rfl (det_move rfl) rfl ?_
          refine wl_act0 (act_store (cells := [_, _, _, _, _, _, _, _]) (cs' := [_, _, _, _, _, _, _, _]) rfl rfl rfl (ss (ss (ss (ss s0)))) (by rfl) (of_decide_eq_true rfl) sz32 ⟨rfl, rfl, rfl, rfl, rfl, rfl, rfl, rfl, trivial⟩) rfl rfl ?_
          rintro _ _ _ ⟨rfl, rfl⟩
          refine wl_det rfl rfl (det_assign rfl) rfl ?_
          refine wl_nil ?_
          refine pn_then ?_
          refine wc_ret ?_
          refine pr_then ?_
          refine pn_st (fun _ h => h.zeroS lGPosting 48 none) ?_
          replace h := Option.some.inj h
          subst h
          refine pn_ret (vs := [_, _]) rfl ⟨⟨_, _, [_, _, _, _, _, _, _, _], rfl, (ms (ms (ms (ms (ms m0))))), ag32, sz32, rfl⟩, rfl, trivial⟩ ⟨none, 0, 0, rfl, rfl, rfl⟩ (fun _ h => h.to ⟨_, r0, trivial⟩ trivial)
        · have h := ifF h c35
          refine wc_skip ?_
          refine pn_then ?_
          obtain ⟨q38, h, ho38⟩ := bind_some h
          refine wc_meetG (G := (List GPosting) × Option Addr × Nat × Nat × Unit) (fun (s38, _, _, _, _) => s38 = q38) (fun (_, _, _, _, _) => [(8, .pointer (some ⟨b0_3, 0, none⟩)), (12, .pointer (some ⟨b7_4, 0, none⟩))]) (fun (s38, A38_0, n38_0, c38_0, _) => [eBlk b0_3 32 [.int .i64 0, .int .i64 0, .int .i64 0, .int .i64 0, .int .i64 0, .slice none 0 0, .int .i64 0, .int .i64 0], eBlk b7_4 32 [.int .i64 a1, .int .i64 a2, .int .i64 a3, .int .i64 r9_2.1.Due, .int .i64 r9_2.1.Reserve, .slice A38_0 n38_0 c38_0, .int .i64 r12_3.1.Due, .int .i64 r12_3.1.Reserve], eS lGPosting 48 A38_0 n38_0 c38_0 s38]) (fun (_, _, _, _, _) => []) ?_ ?_
          · refine wc_seq ?_
            refine wc_region ?_   -- region 15
            refine wl_det rfl rfl (det_field rfl fd25_1 rfl) rfl ?_
            refine wl_det rfl rfl (det_load rfl m0 (by rfl) na23 us23) rfl ?_
            refine wl_det rfl rfl (det_len rfl un23) rfl ?_
            refine wl_det rfl rfl (det_move rfl) rfl ?_
            refine wl_nil ?_
            refine pn_then ?_
            refine wc_block ?_
            refine wc_st (fun _ h => h.zeroS lGPosting 48 none) ?_
            obtain ⟨k42, hk42⟩ := loopV_some.1 h
            refine wc_loop (G := Nat × ((List GPosting) × Int) × Option Addr × Nat × Nat × Unit) (fun g => IterN (account_Statement_l42 a0 a1 a2 a3) g.1 g.2.1 q38) (fun g => g.1) (fun (_, s42, _, _, _, _) => [(3, .int .i64 a3), (5, .pointer (some ⟨b0_1, 0, none⟩)), (6, .pointer (some ⟨b0_2, 0, none⟩)), (8, .pointer (some ⟨b0_3, 0, none⟩)), (12, .pointer (some ⟨b7_4, 0, none⟩)), (60, .slice A0 a0.Postings.length c0), (61, .int .i64 (a0.Postings.length : Int)), (62, .int .i64 s42.2)]) (fun (_, s42, A42_0, n42_0, c42_0, _) => [eBlk b0_1 3 [.int .i64 a1], eBlk b0_2 3 [.int .i64 a2], eBlk b0_3 32 [.int .i64 0, .int .i64 0, .int .i64 0, .int .i64 0, .int .i64 0, .slice none 0 0, .int .i64 0, .int .i64 0], eBlk b7_4 32 [.int .i64 a1, .int .i64 a2, .int .i64 a3, .int .i64 r9_2.1.Due, .int .i64 r9_2.1.Reserve, .slice A42_0 n42_0 c42_0, .int .i64 r12_3.1.Due, .int .i64 r12_3.1.Reserve], eS lGPosting 48 A42_0 n42_0 c42_0 s42.1]) (fun (_, _, _, _, _, _) => [fV (lSlice lGPosting) (.slice A0 a0.Postings.length c0) a0.Postings]) (k42, ([], 0), none, 0, 0, ()) hk42 ⟨rfl, rfl, rfl, rfl, rfl, rfl, rfl, rfl, trivial⟩ (fun _ h => h.to ⟨_, (rs (rs r0)), ⟨_, (rs (rs r0)), ⟨_, (rs (rs (rs r0))), ⟨_, (rs (rs r0)), ⟨_, r0, trivial⟩⟩⟩⟩⟩ ⟨m0, trivial⟩) ?_
            rintro ⟨k42, s42, A42_0, n42_0, c42_0, _⟩ hI
            obtain ⟨k42, rfl, q42, h, g42⟩ := IterN.pos hI
            dsimp only at h ⊢
            unfold account_Statement_l42 at h
            refine wc_know (fun _ h => h.lenO (ms (ms (ms (ms m0))))) (fun e => ?_)
            subst e
            refine wc_seq ?_
            refine wc_region ?_   -- region 16
            refine wl_det rfl rfl (det_lss rfl rfl) rfl ?_
            refine wl_nil ?_
            refine pn_then ?_
            refine wc_seq ?_
            refine wc_cond rfl (fun c46 => ?_) (fun c46 => ?_)
            · have h := ifT h c46
              refine wc_skip ?_
              refine pn_then ?_
              obtain ⟨q48, h, ho48⟩ := bind_some h
              refine wc_meetG (G := (List GPosting) × Option Addr × Nat × Nat × Unit) (fun (s48, _, _, _, _) => s48 = q48) (fun (_, _, _, _, _) => [(3, .int .i64 a3), (5, .pointer (some ⟨b0_1, 0, none⟩)), (6, .pointer (some ⟨b0_2, 0, none⟩)), (8, .pointer (some ⟨b0_3, 0, none⟩)), (12, .pointer (some ⟨b7_4, 0, none⟩)), (60, .slice A0 a0.Postings.length c0), (61, .int .i64 (a0.Postings.length : Int)), (62, .int .i64 s42.2)]) (fun (s48, A48_0, n48_0, c48_0, _) => [eBlk b0_1 3 [.int .i64 a1], eBlk b0_2 3 [.int .i64 a2], eBlk b0_3 32 [.int .i64 0, .int .i64 0, .int .i64 0, .int .i64 0, .int .i64 0, .slice none 0 0, .int .i64 0, .int .i64 0], eBlk b7_4 32 [.int .i64 a1, .int .i64 a2, .int .i64 a3, .int .i64 r9_2.1.Due, .int .i64 r9_2.1.Reserve, .slice A48_0 n48_0 c48_0, .int .i64 r12_3.1.Due, .int .i64 r12_3.1.Reserve], eS lGPosting 48 A48_0 n48_0 c48_0 s48]) (fun (_, _, _, _, _) => [fV (lSlice lGPosting) (.slice A0 a0.Postings.length c0) a0.Postings]) ?_ ?_
              · refine wc_block ?_
                refine wc_seq ?_
                refine wc_region ?_   -- region 17
                obtain ⟨k17_0, h⟩ := chk_some h
                refine wl_st (fun _ h => h.openF m0 k17_0) ?_
                refine wl_det rfl rfl (det_indexP rfl rfl (ms m0) k17_0 m0 un23 sz48) rfl ?_
                refine wl_det rfl rfl (det_loadP (off := 0) rfl m0 (by rfl) (by rfl) (loaded_n (cells := [_, _, _, _, _, _, _]) ag48 sz48)) rfl ?_
                refine wl_act (act_alloc (cs := [_, _, _, _, _, _, _]) zr48 rfl) rfl rfl rfl ?_
                rintro _ _ _ ⟨b17_2, rfl, rfl, rfl⟩
                refine wl_act0 (act_store (cells := [_, _, _, _, _, _, _]) (cs' := [_, _, _, _, _, _, _]) rfl rfl rfl s0 (by rfl) (of_decide_eq_true rfl) sz48 ⟨rfl, rfl, rfl, rfl, rfl, rfl, rfl, trivial⟩) rfl rfl ?_
                rintro _ _ _ ⟨rfl, rfl⟩
                refine wl_nil ?_
                refine pn_then ?_
                refine wc_seq ?_
                refine wc_region ?_   -- region 18
                refine wl_det rfl rfl (det_field rfl fd48_2 rfl) rfl ?_
                refine wl_det rfl rfl (det_field rfl fd46_1 rfl) rfl ?_
                refine wl_det rfl rfl (det_load rfl m0 (by rfl) na3 us3) rfl ?_
                refine wl_det rfl rfl (det_load rfl (ms m0) (by rfl) na3 us3) rfl ?_
                refine wl_det rfl rfl (det_eql rfl rfl) rfl ?_
                refine wl_det rfl rfl (det_move rfl) rfl ?_
                refine wl_way (decide ((ix a0.Postings s42.2).Entry.Treaty = a1)) ((decide ((ix a0.Postings s42.2).Entry.Treaty = a1)) && (decide ((ix a0.Postings s42.2).Entry.Party = a2))) 6 77 (fun hg => ?_) (fun hg => ?_) ?_
                · have hg18_11 := hg
                  refine wl_on rfl rfl rfl rfl hg18_11 ?_
                  refine wl_det rfl rfl (det_field rfl fd48_2 rfl) rfl ?_
                  refine wl_on rfl rfl rfl rfl hg18_11 ?_
                  refine wl_det rfl rfl (det_field rfl fd46_2 rfl) rfl ?_
                  refine wl_on rfl rfl rfl rfl hg18_11 ?_
                  refine wl_det rfl rfl (det_load rfl m0 (by rfl) na3 us3) rfl ?_
                  refine wl_on rfl rfl rfl rfl hg18_11 ?_
                  refine wl_det rfl rfl (det_load rfl (ms (ms m0)) (by rfl) na3 us3) rfl ?_
                  refine wl_on rfl rfl rfl rfl hg18_11 ?_
                  refine wl_det rfl rfl (det_eql rfl rfl) rfl ?_
                  refine wl_det rfl rfl (det_and_on rfl rfl rfl hg18_11) rfl ?_
                  exact wl_nil (pn_qnE (ext_cons rfl (ext_skip rfl (ext_skip rfl (ext_skip rfl (ext_skip rfl (ext_skip rfl (ext_skip rfl ext_refl))))))) (fun _ h => h))
                · have hg18_11a := hg
                  refine wl_off rfl rfl rfl rfl rfl hg18_11a rfl ?_
                  refine wl_off rfl rfl rfl rfl rfl hg18_11a rfl ?_
                  refine wl_off rfl rfl rfl rfl rfl hg18_11a rfl ?_
                  refine wl_off rfl rfl rfl rfl rfl hg18_11a rfl ?_
                  refine wl_off rfl rfl rfl rfl rfl hg18_11a rfl ?_
                  refine wl_det rfl rfl (det_and_off (q := (decide ((ix a0.Postings s42.2).Entry.Party = a2))) rfl rfl rfl hg18_11a) rfl ?_
                  exact wl_nil (pn_qnE (ext_cons rfl (ext_skip rfl (ext_skip rfl (ext_skip rfl (ext_skip rfl (ext_skip rfl (ext_skip rfl ext_refl))))))) (fun _ h => h))
                refine wl_det rfl rfl (det_move rfl) rfl ?_
                refine wl_way ((decide ((ix a0.Postings s42.2).Entry.Treaty = a1)) && (decide ((ix a0.Postings s42.2).Entry.Party = a2))) (((decide ((ix a0.Postings s42.2).Entry.Treaty = a1)) && (decide ((ix a0.Postings s42.2).Entry.Party = a2))) && (decide ((ix a0.Postings s42.2).Period = a3))) 5 83 (fun hg => ?_) (fun hg => ?_) ?_
                · have hg18_17 := hg
                  refine wl_on rfl rfl rfl rfl hg18_17 ?_
                  refine wl_det rfl rfl (det_field rfl fd48_1 rfl) rfl ?_
                  refine wl_on rfl rfl rfl rfl hg18_17 ?_
                  refine wl_det rfl rfl (det_load rfl m0 (by rfl) na3 us3) rfl ?_
                  refine wl_on rfl rfl rfl rfl hg18_17 ?_
                  refine wl_det rfl rfl (det_move rfl) rfl ?_
                  refine wl_on rfl rfl rfl rfl hg18_17 ?_
                  refine wl_det rfl rfl (det_eql rfl rfl) rfl ?_
                  refine wl_det rfl rfl (det_and_on rfl rfl rfl hg18_17) rfl ?_
                  exact wl_nil (pn_qnE (ext_cons rfl (ext_skip rfl (ext_skip rfl (ext_skip rfl (ext_skip rfl (ext_skip rfl ext_refl)))))) (fun _ h => h))
                · have hg18_17a := hg
                  refine wl_off rfl rfl rfl rfl rfl hg18_17a rfl ?_
                  refine wl_off rfl rfl rfl rfl rfl hg18_17a rfl ?_
                  refine wl_off rfl rfl rfl rfl rfl hg18_17a rfl ?_
                  refine wl_off rfl rfl rfl rfl rfl hg18_17a rfl ?_
                  refine wl_det rfl rfl (det_and_off (q := (decide ((ix a0.Postings s42.2).Period = a3))) rfl rfl rfl hg18_17a) rfl ?_
                  exact wl_nil (pn_qnE (ext_cons rfl (ext_skip rfl (ext_skip rfl (ext_skip rfl (ext_skip rfl (ext_skip rfl ext_refl)))))) (fun _ h => h))
                refine wl_nil ?_
                refine pn_then ?_
                refine wc_cond rfl (fun c54 => ?_) (fun c54 => ?_)
                · have h := ifT h c54
                  refine wc_region ?_   -- region 19
                  refine wl_det rfl rfl (det_field rfl fd32_4 rfl) rfl ?_
                  refine wl_det rfl rfl (det_load rfl (ms (ms (ms (ms m0)))) (by rfl) na23 us23) rfl ?_
                  refine wl_det rfl rfl (det_loadN (cells := [_, _, _, _, _, _, _]) rfl m0 (by rfl) ag48 sz48) rfl ?_
                  refine wl_act (act_litS lGPosting (vs := [_]) (cs := [_, _, _, _, _, _, _]) [(ix a0.Postings s42.2)] un23 in48 rfl rfl rfl rfl rfl ⟨rfl, trivial⟩ (by rfl) rfl (litR_flat rfl)) rfl rfl rfl ?_
                  rintro _ _ _ ⟨A19_3, rfl, rfl, rfl⟩
                  obtain ⟨k19_4, h⟩ := chk_some h
                  refine wl_act (act_appendS (L := lGPosting) rfl rfl (ss (ss (ss (ss (ss (ss s0)))))) (src_O m0) un23 in48 rfl rfl rfl k19_4) rfl rfl rfl ?_
                  rintro _ _ _ ⟨A19_4, c19_4, rfl, rfl, rfl⟩
                  refine wl_det rfl rfl (det_field rfl fd32_4 rfl) rfl ?_
                  refine wl_act0 (act_store (cells := [_]) (cs' := [_, _, _, _, _, _, _, _]) rfl rfl rfl (ss (ss (ss (ss (ss s0))))) (by rfl) (of_decide_eq_true rfl) sz23 ⟨rfl, trivial⟩) rfl rfl ?_
                  rintro _ _ _ ⟨rfl, rfl⟩
                  refine wl_nil ?_
                  refine pn_block ?_
                  replace h := Option.some.inj h
                  subst h
                  exact pn_meetG ((s42.1 ++ [(ix a0.Postings s42.2)]), A19_4, (s42.1 ++ [(ix a0.Postings s42.2)]).length, c19_4, ()) rfl ⟨rfl, rfl, rfl, rfl, rfl, rfl, rfl, rfl, trivial⟩ (fun _ h => h.to ⟨_, (rs (rs r0)), ⟨_, (rs (rs r0)), ⟨_, (rs (rs r0)), ⟨_, (rs (rs r0)), ⟨_, (rs (rs r0)), trivial⟩⟩⟩⟩⟩ ⟨(ms m0), trivial⟩)
                · have h := ifF h c54
                  refine wc_skip ?_
                  refine pn_block ?_
                  replace h := Option.some.inj h
                  subst h
                  exact pn_meetG (s42.1, A42_0, s42.1.length, c42_0, ()) rfl ⟨rfl, rfl, rfl, rfl, rfl, rfl, rfl, rfl, trivial⟩ (fun _ h => h.to ⟨_, (rs r0), ⟨_, (rs r0), ⟨_, (rs r0), ⟨_, (rs r0), ⟨_, (rs r0), trivial⟩⟩⟩⟩⟩ ⟨(ms m0), trivial⟩)
              rintro ⟨s48, A48_0, n48_0, c48_0, _⟩ e48
              dsimp only at e48 ⊢
              subst e48
              have h := ho48
              refine wc_know (fun _ h => h.lenO (ms (ms (ms (ms m0))))) (fun e => ?_)
              subst e
              refine wc_region ?_   -- region 20
              refine wl_det rfl rfl (det_add rfl rfl) rfl ?_
              refine wl_det rfl rfl (det_move rfl) rfl ?_
              refine wl_nil ?_
              replace h := Option.some.inj h
              subst h
              exact pn_some (k42, (s48, (w64 (s42.2 + 1))), A48_0, s48.length, c48_0, ()) ⟨nextL g42, Nat.lt_succ_self _⟩ ⟨rfl, rfl, rfl, rfl, rfl, rfl, rfl, rfl, trivial⟩ (fun _ h => h.to ⟨_, r0, ⟨_, r0, ⟨_, r0, ⟨_, r0, ⟨_, r0, trivial⟩⟩⟩⟩⟩ ⟨m0, trivial⟩)
            · have h := ifF h c46
              refine wc_exit ?_
              refine px_then ?_
              refine px_then ?_
              refine px_block ?_
              replace h := Option.some.inj h
              subst h
              replace g42 := nextR g42
              subst g42
              exact pn_meetG (s42.1, A42_0, s42.1.length, c42_0, ()) rfl ⟨rfl, rfl, trivial⟩ (fun _ h => h.to ⟨_, (rs (rs r0)), ⟨_, (rs (rs r0)), ⟨_, (rs (rs r0)), trivial⟩⟩⟩ trivial)
          rintro ⟨s38, A38_0, n38_0, c38_0, _⟩ e38
          dsimp only at e38 ⊢
          subst e38
          have h := ho38
          refine wc_know (fun _ h => h.lenO (ms (ms m0))) (fun e => ?_)
          subst e
          refine wc_seq ?_
          refine wc_region ?_   -- region 21
          refine wl_det rfl rfl (det_loadN (cells := [_, _, _, _, _, _, _, _]) rfl (ms m0) (by rfl) ag32 sz32) rfl ?_
          refine wl_act0 (act_store (cells := [_, _, _, _, _, _, _, _]) (cs' := [_, _, _, _, _, _, _, _]) rfl rfl rfl s0 (by rfl) (of_decide_eq_true rfl) sz32 ⟨rfl, rfl, rfl, rfl, rfl, rfl, rfl, rfl, trivial⟩) rfl rfl ?_
          rintro _ _ _ ⟨rfl, rfl⟩
          refine wl_det rfl rfl (det_assign rfl) rfl ?_
          refine wl_nil ?_
          refine pn_then ?_
          refine wc_ret ?_
          replace h := Option.some.inj h
          subst h
          refine pn_ret (vs := [_, _]) rfl ⟨⟨_, _, [_, _, _, _, _, _, _, _], rfl, m0, ag32, sz32, rfl⟩, rfl, trivial⟩ ⟨A38_0, s38.length, c38_0, rfl, rfl, rfl⟩ (fun _ h => h.to ⟨_, (rs (rs r0)), trivial⟩ trivial)
def Q_treatyref33_some (r : (List GPosting)) : Value → List Ent → List Fact → Prop := fun v θ κ => ∃ (pA0 : Option Addr), ∃ (pn0 : Nat), ∃ (pc0 : Nat), v = .slice pA0 pn0 pc0 ∧ θ = [eS lGPosting 48 pA0 pn0 pc0 r] ∧ κ = []
theorem plains_treatyref33_some {r : (List GPosting)} : ∀ v θ κ, Q_treatyref33_some r v θ κ → Plains θ := by
  rintro _ _ _ ⟨_, _, _, rfl, rfl, rfl⟩
  exact ⟨plain_eS, trivial⟩
set_option maxHeartbeats 4000000 in
set_option maxRecDepth 100000 in
theorem W_treatyref33_some (a0 : GLedger) (a1 : Int) (a2 : Int) (a3 : Int) (a4 : Int) (A0 : Option Addr) (n0 : Nat) (c0 : Nat) (r : (List GPosting)) (h : treatyref33_some a0 a1 a2 a3 a4 = some r) : Spec Try.prog 32 [.agg #[.int .i64 a0.Closed, .slice A0 n0 c0], .int .i64 a1, .int .i64 a2, .int .i64 a3, .int .i64 a4] [] [fV (lSlice lGPosting) (.slice A0 n0 c0) a0.Postings] (Q_treatyref33_some r) := by
  unfold treatyref33_some at h
  refine spec_of (σ := [(0, _), (1, _), (2, _), (3, _), (4, _)]) Try.func32 rfl rfl rfl rfl ?_
  intro C
  refine wc_know (fun _ h => h.lenF m0) (fun e => ?_)
  subst e
  refine wc_seq ?_
  refine wc_region ?_   -- region 0
  refine wl_act (act_box (cs := [_, _]) rfl rfl) rfl rfl rfl ?_
  rintro _ _ _ ⟨b0_0, rfl, rfl, rfl⟩
  refine wl_det rfl rfl (det_assign rfl) rfl ?_
  refine wl_nil ?_
  refine pn_then ?_
  refine wc_seq ?_
  refine wc_region ?_   -- region 1
  refine wl_det rfl rfl (det_assign rfl) rfl ?_
  refine wl_nil ?_
  refine pn_then ?_
  obtain ⟨q4, h, ho4⟩ := bind_some h
  refine wc_meetG (G := (List GPosting) × Option Addr × Nat × Nat × Unit) (fun (s4, _, _, _, _) => s4 = q4) (fun (_, A4_0, n4_0, c4_0, _) => [(11, .slice A4_0 n4_0 c4_0)]) (fun (s4, A4_0, n4_0, c4_0, _) => [eS lGPosting 48 A4_0 n4_0 c4_0 s4]) (fun (_, _, _, _, _) => []) ?_ ?_
  · refine wc_seq ?_
    refine wc_region ?_   -- region 2
    refine wl_det rfl rfl (det_field rfl fd25_1 rfl) rfl ?_
    refine wl_det rfl rfl (det_load rfl m0 (by rfl) na23 us23) rfl ?_
    refine wl_det rfl rfl (det_len rfl un23) rfl ?_
    refine wl_det rfl rfl (det_move rfl) rfl ?_
    refine wl_nil ?_
    refine pn_then ?_
    refine wc_block ?_
    refine wc_st (fun _ h => h.zeroS lGPosting 48 none) ?_
    obtain ⟨k8, hk8⟩ := loopV_some.1 h
    refine wc_loop (G := Nat × ((List GPosting) × Int) × Option Addr × Nat × Nat × Unit) (fun g => IterN (treatyref33_some_l8 a0 a1 a2 a3 a4) g.1 g.2.1 q4) (fun g => g.1) (fun (_, s8, A8_0, n8_0, c8_0, _) => [(1, .int .i64 a1), (2, .int .i64 a2), (3, .int .i64 a3), (4, .int .i64 a4), (11, .slice A8_0 n8_0 c8_0), (15, .slice A0 a0.Postings.length c0), (16, .int .i64 (a0.Postings.length : Int)), (17, .int .i64 s8.2)]) (fun (_, s8, A8_0, n8_0, c8_0, _) => [eS lGPosting 48 A8_0 n8_0 c8_0 s8.1]) (fun (_, _, _, _, _, _) => [fV (lSlice lGPosting) (.slice A0 a0.Postings.length c0) a0.Postings]) (k8, ([], 0), none, 0, 0, ()) hk8 ⟨rfl, rfl, rfl, rfl, rfl, rfl, rfl, rfl, trivial⟩ (fun _ h => h.to ⟨_, r0, trivial⟩ ⟨m0, trivial⟩) ?_
    rintro ⟨k8, s8, A8_0, n8_0, c8_0, _⟩ hI
    obtain ⟨k8, rfl, q8, h, g8⟩ := IterN.pos hI
    dsimp only at h ⊢
    unfold treatyref33_some_l8 at h
    refine wc_know (fun _ h => h.lenO m0) (fun e => ?_)
    subst e
    refine wc_seq ?_
    refine wc_region ?_   -- region 3
    refine wl_det rfl rfl (det_lss rfl rfl) rfl ?_
    refine wl_nil ?_
    refine pn_then ?_
    refine wc_seq ?_
    refine wc_cond rfl (fun c12 => ?_) (fun c12 => ?_)
    · have h := ifT h c12
      refine wc_skip ?_
      refine pn_then ?_
      obtain ⟨q14, h, ho14⟩ := bind_some h
      refine wc_meetG (G := (List GPosting) × Option Addr × Nat × Nat × Unit) (fun (s14, _, _, _, _) => s14 = q14) (fun (_, A14_0, n14_0, c14_0, _) => [(1, .int .i64 a1), (2, .int .i64 a2), (3, .int .i64 a3), (4, .int .i64 a4), (11, .slice A14_0 n14_0 c14_0), (15, .slice A0 a0.Postings.length c0), (16, .int .i64 (a0.Postings.length : Int)), (17, .int .i64 s8.2)]) (fun (s14, A14_0, n14_0, c14_0, _) => [eS lGPosting 48 A14_0 n14_0 c14_0 s14]) (fun (_, _, _, _, _) => [fV (lSlice lGPosting) (.slice A0 a0.Postings.length c0) a0.Postings]) ?_ ?_
      · refine wc_block ?_
        refine wc_seq ?_
        refine wc_region ?_   -- region 4
        obtain ⟨k4_0, h⟩ := chk_some h
        refine wl_st (fun _ h => h.openF m0 k4_0) ?_
        refine wl_det rfl rfl (det_indexP rfl rfl (ms m0) k4_0 m0 un23 sz48) rfl ?_
        refine wl_det rfl rfl (det_loadP (off := 0) rfl m0 (by rfl) (by rfl) (loaded_n (cells := [_, _, _, _, _, _, _]) ag48 sz48)) rfl ?_
        refine wl_act (act_alloc (cs := [_, _, _, _, _, _, _]) zr48 rfl) rfl rfl rfl ?_
        rintro _ _ _ ⟨b4_2, rfl, rfl, rfl⟩
        refine wl_act0 (act_store (cells := [_, _, _, _, _, _, _]) (cs' := [_, _, _, _, _, _, _]) rfl rfl rfl s0 (by rfl) (of_decide_eq_true rfl) sz48 ⟨rfl, rfl, rfl, rfl, rfl, rfl, rfl, trivial⟩) rfl rfl ?_
        rintro _ _ _ ⟨rfl, rfl⟩
        refine wl_nil ?_
        refine pn_then ?_
        refine wc_seq ?_
        refine wc_region ?_   -- region 5
        refine wl_det rfl rfl (det_field rfl fd48_2 rfl) rfl ?_
        refine wl_det rfl rfl (det_field rfl fd46_1 rfl) rfl ?_
        refine wl_det rfl rfl (det_load rfl m0 (by rfl) na3 us3) rfl ?_
        refine wl_det rfl rfl (det_move rfl) rfl ?_
        refine wl_det rfl rfl (det_eql rfl rfl) rfl ?_
        refine wl_det rfl rfl (det_move rfl) rfl ?_
        refine wl_way (decide ((ix a0.Postings s8.2).Entry.Treaty = a1)) ((decide ((ix a0.Postings s8.2).Entry.Treaty = a1)) && (decide ((ix a0.Postings s8.2).Entry.Party = a2))) 6 32 (fun hg => ?_) (fun hg => ?_) ?_
        · have hg5_11 := hg
          refine wl_on rfl rfl rfl rfl hg5_11 ?_
          refine wl_det rfl rfl (det_field rfl fd48_2 rfl) rfl ?_
          refine wl_on rfl rfl rfl rfl hg5_11 ?_
          refine wl_det rfl rfl (det_field rfl fd46_2 rfl) rfl ?_
          refine wl_on rfl rfl rfl rfl hg5_11 ?_
          refine wl_det rfl rfl (det_load rfl m0 (by rfl) na3 us3) rfl ?_
          refine wl_on rfl rfl rfl rfl hg5_11 ?_
          refine wl_det rfl rfl (det_move rfl) rfl ?_
          refine wl_on rfl rfl rfl rfl hg5_11 ?_
          refine wl_det rfl rfl (det_eql rfl rfl) rfl ?_
          refine wl_det rfl rfl (det_and_on rfl rfl rfl hg5_11) rfl ?_
          exact wl_nil (pn_qnE (ext_cons rfl (ext_skip rfl (ext_skip rfl (ext_skip rfl (ext_skip rfl (ext_skip rfl (ext_skip rfl ext_refl))))))) (fun _ h => h))
        · have hg5_11a := hg
          refine wl_off rfl rfl rfl rfl rfl hg5_11a rfl ?_
          refine wl_off rfl rfl rfl rfl rfl hg5_11a rfl ?_
          refine wl_off rfl rfl rfl rfl rfl hg5_11a rfl ?_
          refine wl_off rfl rfl rfl rfl rfl hg5_11a rfl ?_
          refine wl_off rfl rfl rfl rfl rfl hg5_11a rfl ?_
          refine wl_det rfl rfl (det_and_off (q := (decide ((ix a0.Postings s8.2).Entry.Party = a2))) rfl rfl rfl hg5_11a) rfl ?_
          exact wl_nil (pn_qnE (ext_cons rfl (ext_skip rfl (ext_skip rfl (ext_skip rfl (ext_skip rfl (ext_skip rfl (ext_skip rfl ext_refl))))))) (fun _ h => h))
        refine wl_det rfl rfl (det_move rfl) rfl ?_
        refine wl_way ((decide ((ix a0.Postings s8.2).Entry.Treaty = a1)) && (decide ((ix a0.Postings s8.2).Entry.Party = a2))) (((decide ((ix a0.Postings s8.2).Entry.Treaty = a1)) && (decide ((ix a0.Postings s8.2).Entry.Party = a2))) && (decide (a3 ≤ (ix a0.Postings s8.2).Period))) 5 38 (fun hg => ?_) (fun hg => ?_) ?_
        · have hg5_17 := hg
          refine wl_on rfl rfl rfl rfl hg5_17 ?_
          refine wl_det rfl rfl (det_field rfl fd48_1 rfl) rfl ?_
          refine wl_on rfl rfl rfl rfl hg5_17 ?_
          refine wl_det rfl rfl (det_load rfl m0 (by rfl) na3 us3) rfl ?_
          refine wl_on rfl rfl rfl rfl hg5_17 ?_
          refine wl_det rfl rfl (det_move rfl) rfl ?_
          refine wl_on rfl rfl rfl rfl hg5_17 ?_
          refine wl_det rfl rfl (det_geq rfl rfl) rfl ?_
          refine wl_det rfl rfl (det_and_on rfl rfl rfl hg5_17) rfl ?_
          exact wl_nil (pn_qnE (ext_cons rfl (ext_skip rfl (ext_skip rfl (ext_skip rfl (ext_skip rfl (ext_skip rfl ext_refl)))))) (fun _ h => h))
        · have hg5_17a := hg
          refine wl_off rfl rfl rfl rfl rfl hg5_17a rfl ?_
          refine wl_off rfl rfl rfl rfl rfl hg5_17a rfl ?_
          refine wl_off rfl rfl rfl rfl rfl hg5_17a rfl ?_
          refine wl_off rfl rfl rfl rfl rfl hg5_17a rfl ?_
          refine wl_det rfl rfl (det_and_off (q := (decide (a3 ≤ (ix a0.Postings s8.2).Period))) rfl rfl rfl hg5_17a) rfl ?_
          exact wl_nil (pn_qnE (ext_cons rfl (ext_skip rfl (ext_skip rfl (ext_skip rfl (ext_skip rfl (ext_skip rfl ext_refl)))))) (fun _ h => h))
        refine wl_det rfl rfl (det_move rfl) rfl ?_
        refine wl_way (((decide ((ix a0.Postings s8.2).Entry.Treaty = a1)) && (decide ((ix a0.Postings s8.2).Entry.Party = a2))) && (decide (a3 ≤ (ix a0.Postings s8.2).Period))) ((((decide ((ix a0.Postings s8.2).Entry.Treaty = a1)) && (decide ((ix a0.Postings s8.2).Entry.Party = a2))) && (decide (a3 ≤ (ix a0.Postings s8.2).Period))) && (decide ((ix a0.Postings s8.2).Period ≤ a4))) 5 44 (fun hg => ?_) (fun hg => ?_) ?_
        · have hg5_23 := hg
          refine wl_on rfl rfl rfl rfl hg5_23 ?_
          refine wl_det rfl rfl (det_field rfl fd48_1 rfl) rfl ?_
          refine wl_on rfl rfl rfl rfl hg5_23 ?_
          refine wl_det rfl rfl (det_load rfl m0 (by rfl) na3 us3) rfl ?_
          refine wl_on rfl rfl rfl rfl hg5_23 ?_
          refine wl_det rfl rfl (det_move rfl) rfl ?_
          refine wl_on rfl rfl rfl rfl hg5_23 ?_
          refine wl_det rfl rfl (det_leq rfl rfl) rfl ?_
          refine wl_det rfl rfl (det_and_on rfl rfl rfl hg5_23) rfl ?_
          exact wl_nil (pn_qnE (ext_cons rfl (ext_skip rfl (ext_skip rfl (ext_skip rfl (ext_skip rfl (ext_skip rfl ext_refl)))))) (fun _ h => h))
        · have hg5_23a := hg
          refine wl_off rfl rfl rfl rfl rfl hg5_23a rfl ?_
          refine wl_off rfl rfl rfl rfl rfl hg5_23a rfl ?_
          refine wl_off rfl rfl rfl rfl rfl hg5_23a rfl ?_
          refine wl_off rfl rfl rfl rfl rfl hg5_23a rfl ?_
          refine wl_det rfl rfl (det_and_off (q := (decide ((ix a0.Postings s8.2).Period ≤ a4))) rfl rfl rfl hg5_23a) rfl ?_
          exact wl_nil (pn_qnE (ext_cons rfl (ext_skip rfl (ext_skip rfl (ext_skip rfl (ext_skip rfl (ext_skip rfl ext_refl)))))) (fun _ h => h))
        refine wl_nil ?_
        refine pn_then ?_
        refine wc_cond rfl (fun c20 => ?_) (fun c20 => ?_)
        · have h := ifT h c20
          refine wc_region ?_   -- region 6
          refine wl_det rfl rfl (det_move rfl) rfl ?_
          refine wl_det rfl rfl (det_loadN (cells := [_, _, _, _, _, _, _]) rfl m0 (by rfl) ag48 sz48) rfl ?_
          refine wl_act (act_litS lGPosting (vs := [_]) (cs := [_, _, _, _, _, _, _]) [(ix a0.Postings s8.2)] un23 in48 rfl rfl rfl rfl rfl ⟨rfl, trivial⟩ (by rfl) rfl (litR_flat rfl)) rfl rfl rfl ?_
          rintro _ _ _ ⟨A6_2, rfl, rfl, rfl⟩
          obtain ⟨k6_3, h⟩ := chk_some h
          refine wl_act (act_appendS (L := lGPosting) rfl rfl (ss (ss s0)) (src_O m0) un23 in48 rfl rfl rfl k6_3) rfl rfl rfl ?_
          rintro _ _ _ ⟨A6_3, c6_3, rfl, rfl, rfl⟩
          refine wl_det rfl rfl (det_assign rfl) rfl ?_
          refine wl_nil ?_
          refine pn_block ?_
          replace h := Option.some.inj h
          subst h
          exact pn_meetG ((s8.1 ++ [(ix a0.Postings s8.2)]), A6_3, (s8.1 ++ [(ix a0.Postings s8.2)]).length, c6_3, ()) rfl ⟨rfl, rfl, rfl, rfl, rfl, rfl, rfl, rfl, trivial⟩ (fun _ h => h.to ⟨_, (rs (rs r0)), trivial⟩ ⟨(ms m0), trivial⟩)
        · have h := ifF h c20
          refine wc_skip ?_
          refine pn_block ?_
          replace h := Option.some.inj h
          subst h
          exact pn_meetG (s8.1, A8_0, s8.1.length, c8_0, ()) rfl ⟨rfl, rfl, rfl, rfl, rfl, rfl, rfl, rfl, trivial⟩ (fun _ h => h.to ⟨_, (rs r0), trivial⟩ ⟨(ms m0), trivial⟩)
      rintro ⟨s14, A14_0, n14_0, c14_0, _⟩ e14
      dsimp only at e14 ⊢
      subst e14
      have h := ho14
      refine wc_know (fun _ h => h.lenO m0) (fun e => ?_)
      subst e
      refine wc_region ?_   -- region 7
      refine wl_det rfl rfl (det_add rfl rfl) rfl ?_
      refine wl_det rfl rfl (det_move rfl) rfl ?_
      refine wl_nil ?_
      replace h := Option.some.inj h
      subst h
      exact pn_some (k8, (s14, (w64 (s8.2 + 1))), A14_0, s14.length, c14_0, ()) ⟨nextL g8, Nat.lt_succ_self _⟩ ⟨rfl, rfl, rfl, rfl, rfl, rfl, rfl, rfl, trivial⟩ (fun _ h => h.to ⟨_, r0, trivial⟩ ⟨m0, trivial⟩)
    · have h := ifF h c12
      refine wc_exit ?_
      refine px_then ?_
      refine px_then ?_
      refine px_block ?_
      replace h := Option.some.inj h
      subst h
      replace g8 := nextR g8
      subst g8
      exact pn_meetG (s8.1, A8_0, s8.1.length, c8_0, ()) rfl ⟨rfl, trivial⟩ (fun _ h => h.to ⟨_, r0, trivial⟩ trivial)
  rintro ⟨s4, A4_0, n4_0, c4_0, _⟩ e4
  dsimp only at e4 ⊢
  subst e4
  have h := ho4
  refine wc_know (fun _ h => h.lenO m0) (fun e => ?_)
  subst e
  refine wc_seq ?_
  refine wc_region ?_   -- region 8
  refine wl_det rfl rfl (det_move rfl) rfl ?_
  refine wl_det rfl rfl (det_assign rfl) rfl ?_
  refine wl_nil ?_
  refine pn_then ?_
  refine wc_ret ?_
  replace h := Option.some.inj h
  subst h
  refine pn_ret (vs := [_]) rfl ⟨rfl, trivial⟩ ⟨A4_0, s4.length, c4_0, rfl, rfl, rfl⟩ (fun _ h => h.to ⟨_, r0, trivial⟩ trivial)
def Q_treatyref33_balance (r : GBalance × Bool) : Value → List Ent → List Fact → Prop := fun v θ κ => v = .tuple #[.agg #[.int .i64 r.1.Due, .int .i64 r.1.Reserve], .bool r.2] ∧ θ = [] ∧ κ = []
theorem plains_treatyref33_balance {r : GBalance × Bool} : ∀ v θ κ, Q_treatyref33_balance r v θ κ → Plains θ := by
  rintro _ _ _ ⟨rfl, rfl, rfl⟩
  exact trivial
set_option maxHeartbeats 4000000 in
set_option maxRecDepth 100000 in
theorem W_treatyref33_balance (a0 : (List GPosting)) (A0 : Option Addr) (n0 : Nat) (c0 : Nat) (r : GBalance × Bool) (h : treatyref33_balance a0 = some r) : Spec Try.prog 31 [.slice A0 n0 c0] [] [fV (lSlice lGPosting) (.slice A0 n0 c0) a0] (Q_treatyref33_balance r) := by
  unfold treatyref33_balance at h
  refine spec_of (σ := [(0, _)]) Try.func31 rfl rfl rfl rfl ?_
  intro C
  refine wc_know (fun _ h => h.lenF m0) (fun e => ?_)
  subst e
  refine wc_seq ?_
  refine wc_region ?_   -- region 0
  refine wl_act (act_alloc (cs := [_, _]) zr30 rfl) rfl rfl rfl ?_
  rintro _ _ _ ⟨b0_0, rfl, rfl, rfl⟩
  refine wl_det rfl rfl (det_assign rfl) rfl ?_
  refine wl_nil ?_
  refine pn_then ?_
  refine wc_seq ?_
  refine wc_region ?_   -- region 1
  refine wl_act (act_alloc (cs := [_, _]) zr30 rfl) rfl rfl rfl ?_
  rintro _ _ _ ⟨b1_0, rfl, rfl, rfl⟩
  refine wl_nil ?_
  refine pn_then ?_
  obtain ⟨q4, h, ho4⟩ := bind_some h
  refine wc_meetG (G := (Int × Int) × Unit) (fun (s4, _) => s4 = q4) (fun (_, _) => [(2, .pointer (some ⟨b0_0, 0, none⟩)), (4, .pointer (some ⟨b1_0, 0, none⟩))]) (fun (s4, _) => [eBlk b0_0 30 [.int .i64 0, .int .i64 0], eBlk b1_0 30 [.int .i64 s4.1, .int .i64 s4.2]]) (fun (_, _) => []) ?_ ?_
  · refine wc_seq ?_
    refine wc_region ?_   -- region 2
    refine wl_det rfl rfl (det_move rfl) rfl ?_
    refine wl_det rfl rfl (det_len rfl un23) rfl ?_
    refine wl_det rfl rfl (det_move rfl) rfl ?_
    refine wl_nil ?_
    refine pn_then ?_
    refine wc_block ?_
    obtain ⟨k8, hk8⟩ := loopV_some.1 h
    refine wc_loop (G := Nat × (Int × Int × Int) × Unit) (fun g => IterN (treatyref33_balance_l8 a0) g.1 g.2.1 q4) (fun g => g.1) (fun (_, s8, _) => [(2, .pointer (some ⟨b0_0, 0, none⟩)), (4, .pointer (some ⟨b1_0, 0, none⟩)), (7, .slice A0 a0.length c0), (8, .int .i64 (a0.length : Int)), (9, .int .i64 s8.2.2)]) (fun (_, s8, _) => [eBlk b0_0 30 [.int .i64 0, .int .i64 0], eBlk b1_0 30 [.int .i64 s8.1, .int .i64 s8.2.1]]) (fun (_, _, _) => [fV (lSlice lGPosting) (.slice A0 a0.length c0) a0]) (k8, (0, 0, 0), ()) hk8 ⟨rfl, rfl, rfl, rfl, rfl, trivial⟩ (fun _ h => h.to ⟨_, (rs r0), ⟨_, r0, trivial⟩⟩ ⟨m0, trivial⟩) ?_
    rintro ⟨k8, s8, _⟩ hI
    obtain ⟨k8, rfl, q8, h, g8⟩ := IterN.pos hI
    dsimp only at h ⊢
    unfold treatyref33_balance_l8 at h
    refine wc_seq ?_
    refine wc_region ?_   -- region 3
    refine wl_det rfl rfl (det_lss rfl rfl) rfl ?_
    refine wl_nil ?_
    refine pn_then ?_
    refine wc_seq ?_
    refine wc_cond rfl (fun c12 => ?_) (fun c12 => ?_)
    · have h := ifT h c12
      refine wc_skip ?_
      refine pn_then ?_
      obtain ⟨q14, h, ho14⟩ := bind_some h
      refine wc_meetG (G := (Int × Int) × Unit) (fun (s14, _) => s14 = q14) (fun (_, _) => [(2, .pointer (some ⟨b0_0, 0, none⟩)), (4, .pointer (some ⟨b1_0, 0, none⟩)), (7, .slice A0 a0.length c0), (8, .int .i64 (a0.length : Int)), (9, .int .i64 s8.2.2)]) (fun (s14, _) => [eBlk b0_0 30 [.int .i64 0, .int .i64 0], eBlk b1_0 30 [.int .i64 s14.1, .int .i64 s14.2]]) (fun (_, _) => [fV (lSlice lGPosting) (.slice A0 a0.length c0) a0]) ?_ ?_
      · refine wc_block ?_
        refine wc_seq ?_
        refine wc_region ?_   -- region 4
        obtain ⟨k4_0, h⟩ := chk_some h
        refine wl_st (fun _ h => h.openF m0 k4_0) ?_
        refine wl_det rfl rfl (det_indexP rfl rfl (ms m0) k4_0 m0 un23 sz48) rfl ?_
        refine wl_det rfl rfl (det_loadP (off := 0) rfl m0 (by rfl) (by rfl) (loaded_n (cells := [_, _, _, _, _, _, _]) ag48 sz48)) rfl ?_
        refine wl_act (act_alloc (cs := [_, _, _, _, _, _, _]) zr48 rfl) rfl rfl rfl ?_
        rintro _ _ _ ⟨b4_2, rfl, rfl, rfl⟩
        refine wl_act0 (act_store (cells := [_, _, _, _, _, _, _]) (cs' := [_, _, _, _, _, _, _]) rfl rfl rfl s0 (by rfl) (of_decide_eq_true rfl) sz48 ⟨rfl, rfl, rfl, rfl, rfl, rfl, rfl, trivial⟩) rfl rfl ?_
        rintro _ _ _ ⟨rfl, rfl⟩
        refine wl_nil ?_
        refine pn_then ?_
        refine wc_seq ?_
        refine wc_region ?_   -- region 5
        refine wl_det rfl rfl (det_field rfl fd48_2 rfl) rfl ?_
        refine wl_det rfl rfl (det_field rfl fd46_0 rfl) rfl ?_
        refine wl_det rfl rfl (det_load rfl m0 (by rfl) na3 us3) rfl ?_
        refine wl_det rfl rfl (det_eql rfl rfl) rfl ?_
        refine wl_nil ?_
        refine pn_then ?_
        refine wc_cond rfl (fun c20 => ?_) (fun c20 => ?_)
        · have h := ifT h c20
          refine wc_region ?_   -- region 6
          refine wl_det rfl rfl (det_field rfl fd30_1 rfl) rfl ?_
          refine wl_det rfl rfl (det_load rfl (ms (ms m0)) (by rfl) na3 us3) rfl ?_
          refine wl_det rfl rfl (det_field rfl fd48_2 rfl) rfl ?_
          refine wl_det rfl rfl (det_field rfl fd46_4 rfl) rfl ?_
          refine wl_det rfl rfl (det_load rfl m0 (by rfl) na3 us3) rfl ?_
          refine wl_det rfl rfl (det_add rfl rfl) rfl ?_
          refine wl_det rfl rfl (det_field rfl fd30_1 rfl) rfl ?_
          refine wl_act0 (act_store (cells := [_]) (cs' := [_, _]) rfl rfl rfl (ss (ss s0)) (by rfl) (of_decide_eq_true rfl) sz3 ⟨rfl, trivial⟩) rfl rfl ?_
          rintro _ _ _ ⟨rfl, rfl⟩
          refine wl_nil ?_
          refine pn_block ?_
          replace h := Option.some.inj h
          subst h
          exact pn_meetG ((s8.1, (w64 (s8.2.1 + (ix a0 s8.2.2).Entry.Amount))), ()) rfl ⟨rfl, rfl, rfl, rfl, rfl, trivial⟩ (fun _ h => h.to ⟨_, (rs r0), ⟨_, (rs r0), trivial⟩⟩ ⟨(ms m0), trivial⟩)
        · have h := ifF h c20
          refine wc_region ?_   -- region 7
          refine wl_det rfl rfl (det_field rfl fd30_0 rfl) rfl ?_
          refine wl_det rfl rfl (det_load rfl (ms (ms m0)) (by rfl) na3 us3) rfl ?_
          refine wl_det rfl rfl (det_field rfl fd48_2 rfl) rfl ?_
          refine wl_det rfl rfl (det_field rfl fd46_4 rfl) rfl ?_
          refine wl_det rfl rfl (det_load rfl m0 (by rfl) na3 us3) rfl ?_
          refine wl_det rfl rfl (det_add rfl rfl) rfl ?_
          refine wl_det rfl rfl (det_field rfl fd30_0 rfl) rfl ?_
          refine wl_act0 (act_store (cells := [_]) (cs' := [_, _]) rfl rfl rfl (ss (ss s0)) (by rfl) (of_decide_eq_true rfl) sz3 ⟨rfl, trivial⟩) rfl rfl ?_
          rintro _ _ _ ⟨rfl, rfl⟩
          refine wl_nil ?_
          refine pn_block ?_
          replace h := Option.some.inj h
          subst h
          exact pn_meetG (((w64 (s8.1 + (ix a0 s8.2.2).Entry.Amount)), s8.2.1), ()) rfl ⟨rfl, rfl, rfl, rfl, rfl, trivial⟩ (fun _ h => h.to ⟨_, (rs r0), ⟨_, (rs r0), trivial⟩⟩ ⟨(ms m0), trivial⟩)
      rintro ⟨s14, _⟩ e14
      dsimp only at e14 ⊢
      subst e14
      have h := ho14
      refine wc_region ?_   -- region 8
      refine wl_det rfl rfl (det_add rfl rfl) rfl ?_
      refine wl_det rfl rfl (det_move rfl) rfl ?_
      refine wl_nil ?_
      replace h := Option.some.inj h
      subst h
      exact pn_some (k8, (s14.1, s14.2, (w64 (s8.2.2 + 1))), ()) ⟨nextL g8, Nat.lt_succ_self _⟩ ⟨rfl, rfl, rfl, rfl, rfl, trivial⟩ (fun _ h => h.to ⟨_, r0, ⟨_, r0, trivial⟩⟩ ⟨m0, trivial⟩)
    · have h := ifF h c12
      refine wc_exit ?_
      refine px_then ?_
      refine px_then ?_
      refine px_block ?_
      replace h := Option.some.inj h
      subst h
      replace g8 := nextR g8
      subst g8
      exact pn_meetG ((s8.1, s8.2.1), ()) rfl ⟨rfl, rfl, trivial⟩ (fun _ h => h.to ⟨_, r0, ⟨_, r0, trivial⟩⟩ trivial)
  rintro ⟨s4, _⟩ e4
  dsimp only at e4 ⊢
  subst e4
  have h := ho4
  refine wc_seq ?_
  refine wc_seq ?_
  refine wc_region ?_   -- region 9
  refine wl_det rfl rfl (det_field rfl fd30_0 rfl) rfl ?_
  refine wl_det rfl rfl (det_load rfl (ms m0) (by rfl) na3 us3) rfl ?_
  obtain ⟨r9_2, hr9_2, h⟩ := bind_some h
  refine wl_act (act_callS (cap := []) (W_treatyref01_Valid s4.1 r9_2 hr9_2) rfl rfl rfl bd50 rfl trivial) rfl rfl rfl ?_
  rintro _ _ _ ⟨_, _, ⟨rfl, rfl, rfl⟩, rfl, rfl⟩
  dsimp only [List.nil_append, List.cons_append]
  refine wl_det rfl rfl (det_not rfl) rfl ?_
  refine wl_det rfl rfl (det_move rfl) rfl ?_
  obtain ⟨q9_9, hq9_9, h⟩ := bind_some h
  have ho9_9 := h
  refine wl_way (!r9_2) q9_9 5 41 (fun hg => ?_) (fun hg => ?_) ?_
  · have hg9_9 := hg
    have h := ifT hq9_9 hg
    refine wl_off rfl rfl rfl rfl rfl hg9_9 rfl ?_
    refine wl_off rfl rfl rfl rfl rfl hg9_9 rfl ?_
    refine wl_off rfl rfl rfl rfl rfl hg9_9 rfl ?_
    refine wl_off rfl rfl rfl rfl rfl hg9_9 rfl ?_
    replace h := Option.some.inj h
    subst h
    refine wl_det rfl rfl (det_pick_on rfl hg9_9 rfl rfl) rfl ?_
    exact wl_nil (pn_qnE (ext_cons rfl (ext_skip rfl (ext_skip rfl (ext_skip rfl (ext_skip rfl (ext_skip rfl ext_refl)))))) (fun _ h => h))
  · have hg9_9a := hg
    have h := ifF hq9_9 hg
    refine wl_on rfl rfl rfl rfl hg9_9a ?_
    refine wl_det rfl rfl (det_field rfl fd30_1 rfl) rfl ?_
    refine wl_on rfl rfl rfl rfl hg9_9a ?_
    refine wl_det rfl rfl (det_load rfl (ms m0) (by rfl) na3 us3) rfl ?_
    refine wl_on rfl rfl rfl rfl hg9_9a ?_
    obtain ⟨r9_7, hr9_7, h⟩ := bind_some h
    refine wl_act (act_callS (cap := []) (W_treatyref01_Valid s4.2 r9_7 hr9_7) rfl rfl rfl bd50 rfl trivial) rfl rfl rfl ?_
    rintro _ _ _ ⟨_, _, ⟨rfl, rfl, rfl⟩, rfl, rfl⟩
    dsimp only [List.nil_append, List.cons_append]
    refine wl_on rfl rfl rfl rfl hg9_9a ?_
    refine wl_det rfl rfl (det_not rfl) rfl ?_
    replace h := Option.some.inj h
    subst h
    refine wl_det rfl rfl (det_pick_off rfl hg9_9a rfl rfl) rfl ?_
    exact wl_nil (pn_qnE (ext_cons rfl (ext_skip rfl (ext_skip rfl (ext_skip rfl (ext_skip rfl (ext_skip rfl ext_refl)))))) (fun _ h => h))
  have h := ho9_9
  refine wl_nil ?_
  refine pn_then ?_
  refine wc_cond rfl (fun c27 => ?_) (fun c27 => ?_)
  · have h := ifT h c27
    refine wc_seq ?_
    refine wc_region ?_   -- region 10
    refine wl_det rfl rfl (det_build (cs := [_, _]) pl30 zr30 rfl rfl (by rfl)) rfl ?_
    refine wl_act0 (act_store (cells := [_, _]) (cs' := [_, _]) rfl rfl rfl s0 (by rfl) (of_decide_eq_true rfl) sz30 ⟨rfl, rfl, trivial⟩) rfl rfl ?_
    rintro _ _ _ ⟨rfl, rfl⟩
    refine wl_det rfl rfl (det_assign rfl) rfl ?_
    refine wl_nil ?_
    refine pn_then ?_
    refine wc_ret ?_
    refine pr_then ?_
    replace h := Option.some.inj h
    subst h
    refine pn_ret (vs := [_, _]) rfl ⟨⟨_, _, [_, _], rfl, m0, ag30, sz30, rfl⟩, rfl, trivial⟩ ⟨rfl, rfl, rfl⟩ (fun _ h => h.to trivial trivial)
  · have h := ifF h c27
    refine wc_skip ?_
    refine pn_then ?_
    refine wc_seq ?_
    refine wc_region ?_   -- region 11
    refine wl_det rfl rfl (det_loadN (cells := [_, _]) rfl (ms m0) (by rfl) ag30 sz30) rfl ?_
    refine wl_act0 (act_store (cells := [_, _]) (cs' := [_, _]) rfl rfl rfl s0 (by rfl) (of_decide_eq_true rfl) sz30 ⟨rfl, rfl, trivial⟩) rfl rfl ?_
    rintro _ _ _ ⟨rfl, rfl⟩
    refine wl_det rfl rfl (det_assign rfl) rfl ?_
    refine wl_nil ?_
    refine pn_then ?_
    refine wc_ret ?_
    replace h := Option.some.inj h
    subst h
    refine pn_ret (vs := [_, _]) rfl ⟨⟨_, _, [_, _], rfl, m0, ag30, sz30, rfl⟩, rfl, trivial⟩ ⟨rfl, rfl, rfl⟩ (fun _ h => h.to trivial trivial)
def Q_treatyref33_Statement (r : GStatement × Int) : Value → List Ent → List Fact → Prop := fun v θ κ => ∃ (pA0 : Option Addr), ∃ (pn0 : Nat), ∃ (pc0 : Nat), v = .tuple #[.agg #[.int .i64 r.1.Treaty, .int .i64 r.1.Party, .int .i64 r.1.Period, .int .i64 r.1.Opening.Due, .int .i64 r.1.Opening.Reserve, .slice pA0 pn0 pc0, .int .i64 r.1.Closing.Due, .int .i64 r.1.Closing.Reserve], .int .i64 r.2] ∧ θ = [eS lGPosting 48 pA0 pn0 pc0 r.1.Postings] ∧ κ = []
theorem plains_treatyref33_Statement {r : GStatement × Int} : ∀ v θ κ, Q_treatyref33_Statement r v θ κ → Plains θ := by
  rintro _ _ _ ⟨_, _, _, rfl, rfl, rfl⟩
  exact ⟨plain_eS, trivial⟩
set_option maxHeartbeats 4000000 in
set_option maxRecDepth 100000 in
theorem W_treatyref33_Statement (a0 : GLedger) (a1 : Int) (a2 : Int) (a3 : Int) (A0 : Option Addr) (n0 : Nat) (c0 : Nat) (r : GStatement × Int) (h : treatyref33_Statement a0 a1 a2 a3 = some r) : Spec Try.prog 11 [.agg #[.int .i64 a0.Closed, .slice A0 n0 c0], .int .i64 a1, .int .i64 a2, .int .i64 a3] [] [fV (lSlice lGPosting) (.slice A0 n0 c0) a0.Postings] (Q_treatyref33_Statement r) := by
  unfold treatyref33_Statement at h
  refine spec_of (σ := [(0, _), (1, _), (2, _), (3, _)]) Try.func11 rfl rfl rfl rfl ?_
  intro C
  refine wc_know (fun _ h => h.lenF m0) (fun e => ?_)
  subst e
  refine wc_seq ?_
  refine wc_region ?_   -- region 0
  refine wl_act (act_box (cs := [_, _]) rfl rfl) rfl rfl rfl ?_
  rintro _ _ _ ⟨b0_0, rfl, rfl, rfl⟩
  refine wl_act (act_alloc (cs := [_, _, _, _, _, _, _, _]) zr32 rfl) rfl rfl rfl ?_
  rintro _ _ _ ⟨b0_1, rfl, rfl, rfl⟩
  refine wl_det rfl rfl (det_assign rfl) rfl ?_
  refine wl_nil ?_
  refine pn_then ?_
  refine wc_seq ?_
  refine wc_seq ?_
  refine wc_region ?_   -- region 1
  refine wl_det rfl rfl (det_loadN (cells := [_, _]) rfl (ms m0) (by rfl) ag25 sz25) rfl ?_
  obtain ⟨r1_1, hr1_1, h⟩ := bind_some h
  refine wl_act (act_callS (cap := []) (W_treatyref33_Validate a0 A0 a0.Postings.length c0 r1_1 hr1_1) rfl rfl rfl bd30 rfl ⟨m0, trivial⟩) rfl rfl rfl ?_
  rintro _ _ _ ⟨_, _, ⟨rfl, rfl, rfl⟩, rfl, rfl⟩
  dsimp only [List.nil_append, List.cons_append]
  refine wl_det rfl rfl (det_assign rfl) rfl ?_
  refine wl_nil ?_
  refine pn_then ?_
  refine wc_seq ?_
  refine wc_region ?_   -- region 2
  refine wl_det rfl rfl (det_move rfl) rfl ?_
  refine wl_det rfl rfl (det_neq rfl rfl) rfl ?_
  refine wl_nil ?_
  refine pn_then ?_
  refine wc_cond rfl (fun c7 => ?_) (fun c7 => ?_)
  · have h := ifT h c7
    refine wc_seq ?_
    refine wc_region ?_   -- region 3
    refine wl_det rfl rfl (det_build (cs := [_, _, _, _, _, _, _, _]) pl32 zr32 rfl rfl (by rfl)) rfl ?_
    refine wl_det rfl rfl (det_move rfl) rfl ?_
    refine wl_act0 (act_store (cells := [_, _, _, _, _, _, _, _]) (cs' := [_, _, _, _, _, _, _, _]) rfl rfl rfl s0 (by rfl) (of_decide_eq_true rfl) sz32 ⟨rfl, rfl, rfl, rfl, rfl, rfl, rfl, rfl, trivial⟩) rfl rfl ?_
    rintro _ _ _ ⟨rfl, rfl⟩
    refine wl_det rfl rfl (det_assign rfl) rfl ?_
    refine wl_nil ?_
    refine pn_then ?_
    refine wc_ret ?_
    refine pr_then ?_
    refine pn_st (fun _ h => h.zeroS lGPosting 48 none) ?_
    replace h := Option.some.inj h
    subst h
    refine pn_ret (vs := [_, _]) rfl ⟨⟨_, _, [_, _, _, _, _, _, _, _], rfl, (ms m0), ag32, sz32, rfl⟩, rfl, trivial⟩ ⟨none, 0, 0, rfl, rfl, rfl⟩ (fun _ h => h.to ⟨_, r0, trivial⟩ trivial)
  · have h := ifF h c7
    refine wc_skip ?_
    refine pn_then ?_
    refine wc_seq ?_
    refine wc_seq ?_
    refine wc_region ?_   -- region 4
    refine wl_det rfl rfl (det_move rfl) rfl ?_
    refine wl_det rfl rfl (det_lss rfl rfl) rfl ?_
    refine wl_det rfl rfl (det_move rfl) rfl ?_
    refine wl_way (decide (a3 < 0)) ((decide (a3 < 0)) || (decide (a0.Closed < a3))) 5 28 (fun hg => ?_) (fun hg => ?_) ?_
    · have hg4_7 := hg
      refine wl_off rfl rfl rfl rfl rfl hg4_7 rfl ?_
      refine wl_off rfl rfl rfl rfl rfl hg4_7 rfl ?_
      refine wl_off rfl rfl rfl rfl rfl hg4_7 rfl ?_
      refine wl_off rfl rfl rfl rfl rfl hg4_7 rfl ?_
      refine wl_det rfl rfl (det_or_on (r := (decide (a0.Closed < a3))) rfl rfl rfl hg4_7) rfl ?_
      exact wl_nil (pn_qnE (ext_cons rfl (ext_skip rfl (ext_skip rfl (ext_skip rfl (ext_skip rfl (ext_skip rfl ext_refl)))))) (fun _ h => h))
    · have hg4_7a := hg
      refine wl_on rfl rfl rfl rfl hg4_7a ?_
      refine wl_det rfl rfl (det_move rfl) rfl ?_
      refine wl_on rfl rfl rfl rfl hg4_7a ?_
      refine wl_det rfl rfl (det_field rfl fd25_0 rfl) rfl ?_
      refine wl_on rfl rfl rfl rfl hg4_7a ?_
      refine wl_det rfl rfl (det_load rfl (ms m0) (by rfl) na3 us3) rfl ?_
      refine wl_on rfl rfl rfl rfl hg4_7a ?_
      refine wl_det rfl rfl (det_gtr rfl rfl) rfl ?_
      refine wl_det rfl rfl (det_or_off rfl rfl rfl hg4_7a) rfl ?_
      exact wl_nil (pn_qnE (ext_cons rfl (ext_skip rfl (ext_skip rfl (ext_skip rfl (ext_skip rfl (ext_skip rfl ext_refl)))))) (fun _ h => h))
    refine wl_nil ?_
    refine pn_then ?_
    refine wc_cond rfl (fun c13 => ?_) (fun c13 => ?_)
    · have h := ifT h c13
      refine wc_seq ?_
      refine wc_region ?_   -- region 5
      refine wl_det rfl rfl (det_build (cs := [_, _, _, _, _, _, _, _]) pl32 zr32 rfl rfl (by rfl)) rfl ?_
      refine wl_act0 (act_store (cells := [_, _, _, _, _, _, _, _]) (cs' := [_, _, _, _, _, _, _, _]) rfl rfl rfl s0 (by rfl) (of_decide_eq_true rfl) sz32 ⟨rfl, rfl, rfl, rfl, rfl, rfl, rfl, rfl, trivial⟩) rfl rfl ?_
      rintro _ _ _ ⟨rfl, rfl⟩
      refine wl_det rfl rfl (det_assign rfl) rfl ?_
      refine wl_nil ?_
      refine pn_then ?_
      refine wc_ret ?_
      refine pr_then ?_
      refine pn_st (fun _ h => h.zeroS lGPosting 48 none) ?_
      replace h := Option.some.inj h
      subst h
      refine pn_ret (vs := [_, _]) rfl ⟨⟨_, _, [_, _, _, _, _, _, _, _], rfl, (ms m0), ag32, sz32, rfl⟩, rfl, trivial⟩ ⟨none, 0, 0, rfl, rfl, rfl⟩ (fun _ h => h.to ⟨_, r0, trivial⟩ trivial)
    · have h := ifF h c13
      refine wc_skip ?_
      refine pn_then ?_
      refine wc_seq ?_
      refine wc_region ?_   -- region 6
      refine wl_det rfl rfl (det_loadN (cells := [_, _]) rfl (ms m0) (by rfl) ag25 sz25) rfl ?_
      refine wl_det rfl rfl (det_move rfl) rfl ?_
      refine wl_det rfl rfl (det_move rfl) rfl ?_
      refine wl_det rfl rfl (det_move rfl) rfl ?_
      refine wl_det rfl rfl (det_sub rfl rfl) rfl ?_
      obtain ⟨r6_5, hr6_5, h⟩ := bind_some h
      refine wl_act (act_callS (cap := []) (W_treatyref33_some a0 a1 a2 0 (w64 (a3 - 1)) A0 a0.Postings.length c0 r6_5 hr6_5) rfl rfl rfl bd32 rfl ⟨m0, trivial⟩) rfl rfl rfl ?_
      rintro _ _ _ ⟨_, _, ⟨y6_5A0, y6_5n0, y6_5c0, rfl, rfl, rfl⟩, rfl, rfl⟩
      dsimp only [List.nil_append, List.cons_append]
      refine wl_know (fun _ h => h.lenO m0) (fun e => ?_)
      subst e
      obtain ⟨r6_6, hr6_6, h⟩ := bind_some h
      refine wl_act (act_callL (cap := []) [eS lGPosting 48 y6_5A0 r6_5.length y6_5c0 r6_5] (W_treatyref33_balance r6_5 y6_5A0 r6_5.length y6_5c0 r6_6 hr6_6) plains_treatyref33_balance rfl rfl rfl bd31 rfl ⟨m0, trivial⟩ ⟨.inr ⟨_, m0, lent_eS⟩, trivial⟩) rfl rfl rfl ?_
      rintro _ _ _ ⟨_, _, ⟨rfl, rfl, rfl⟩, rfl, rfl⟩
      dsimp only [List.nil_append, List.cons_append]
      refine wl_det rfl rfl (det_move rfl) rfl ?_
      refine wl_det rfl rfl (det_extract rfl rfl) rfl ?_
      refine wl_det rfl rfl (det_extract rfl rfl) rfl ?_
      refine wl_act (act_alloc (cs := [_, _]) zr30 rfl) rfl rfl rfl ?_
      rintro _ _ _ ⟨b6_10, rfl, rfl, rfl⟩
      refine wl_act0 (act_store (cells := [_, _]) (cs' := [_, _]) rfl rfl rfl s0 (by rfl) (of_decide_eq_true rfl) sz30 ⟨rfl, rfl, trivial⟩) rfl rfl ?_
      rintro _ _ _ ⟨rfl, rfl⟩
      refine wl_det rfl rfl (det_assign rfl) rfl ?_
      refine wl_nil ?_
      refine pn_then ?_
      refine wc_seq ?_
      refine wc_region ?_   -- region 7
      refine wl_det rfl rfl (det_loadN (cells := [_, _]) rfl (ms (ms (ms m0))) (by rfl) ag25 sz25) rfl ?_
      refine wl_det rfl rfl (det_move rfl) rfl ?_
      refine wl_det rfl rfl (det_move rfl) rfl ?_
      refine wl_det rfl rfl (det_move rfl) rfl ?_
      obtain ⟨r7_4, hr7_4, h⟩ := bind_some h
      refine wl_act (act_callS (cap := []) (W_treatyref33_some a0 a1 a2 0 a3 A0 a0.Postings.length c0 r7_4 hr7_4) rfl rfl rfl bd32 rfl ⟨m0, trivial⟩) rfl rfl rfl ?_
      rintro _ _ _ ⟨_, _, ⟨y7_4A0, y7_4n0, y7_4c0, rfl, rfl, rfl⟩, rfl, rfl⟩
      dsimp only [List.nil_append, List.cons_append]
      refine wl_know (fun _ h => h.lenO m0) (fun e => ?_)
      subst e
      obtain ⟨r7_5, hr7_5, h⟩ := bind_some h
      refine wl_act (act_callL (cap := []) [eS lGPosting 48 y7_4A0 r7_4.length y7_4c0 r7_4] (W_treatyref33_balance r7_4 y7_4A0 r7_4.length y7_4c0 r7_5 hr7_5) plains_treatyref33_balance rfl rfl rfl bd31 rfl ⟨m0, trivial⟩ ⟨.inr ⟨_, m0, lent_eS⟩, trivial⟩) rfl rfl rfl ?_
      rintro _ _ _ ⟨_, _, ⟨rfl, rfl, rfl⟩, rfl, rfl⟩
      dsimp only [List.nil_append, List.cons_append]
      refine wl_det rfl rfl (det_move rfl) rfl ?_
      refine wl_det rfl rfl (det_extract rfl rfl) rfl ?_
      refine wl_det rfl rfl (det_extract rfl rfl) rfl ?_
      refine wl_act (act_alloc (cs := [_, _]) zr30 rfl) rfl rfl rfl ?_
      rintro _ _ _ ⟨b7_9, rfl, rfl, rfl⟩
      refine wl_act0 (act_store (cells := [_, _]) (cs' := [_, _]) rfl rfl rfl s0 (by rfl) (of_decide_eq_true rfl) sz30 ⟨rfl, rfl, trivial⟩) rfl rfl ?_
      rintro _ _ _ ⟨rfl, rfl⟩
      refine wl_det rfl rfl (det_assign rfl) rfl ?_
      refine wl_nil ?_
      refine pn_then ?_
      refine wc_seq ?_
      refine wc_seq ?_
      refine wc_region ?_   -- region 8
      refine wl_det rfl rfl (det_move rfl) rfl ?_
      refine wl_det rfl rfl (det_not rfl) rfl ?_
      refine wl_det rfl rfl (det_move rfl) rfl ?_
      refine wl_way (!r6_6.2) ((!r6_6.2) || (!r7_5.2)) 3 54 (fun hg => ?_) (fun hg => ?_) ?_
      · have hg8_5 := hg
        refine wl_off rfl rfl rfl rfl rfl hg8_5 rfl ?_
        refine wl_off rfl rfl rfl rfl rfl hg8_5 rfl ?_
        refine wl_det rfl rfl (det_or_on (r := (!r7_5.2)) rfl rfl rfl hg8_5) rfl ?_
        exact wl_nil (pn_qnE (ext_cons rfl (ext_skip rfl (ext_skip rfl (ext_skip rfl ext_refl)))) (fun _ h => h))
      · have hg8_5a := hg
        refine wl_on rfl rfl rfl rfl hg8_5a ?_
        refine wl_det rfl rfl (det_move rfl) rfl ?_
        refine wl_on rfl rfl rfl rfl hg8_5a ?_
        refine wl_det rfl rfl (det_not rfl) rfl ?_
        refine wl_det rfl rfl (det_or_off rfl rfl rfl hg8_5a) rfl ?_
        exact wl_nil (pn_qnE (ext_cons rfl (ext_skip rfl (ext_skip rfl (ext_skip rfl ext_refl)))) (fun _ h => h))
      refine wl_nil ?_
      refine pn_then ?_
      refine wc_cond rfl (fun c23 => ?_) (fun c23 => ?_)
      · have h := ifT h c23
        refine wc_seq ?_
        refine wc_region ?_   -- region 9
        refine wl_det rfl rfl (det_build (cs := [_, _, _, _, _, _, _, _]) pl32 zr32 rfl rfl (by rfl)) rfl ?_
        refine wl_act0 (act_store (cells := [_, _, _, _, _, _, _, _]) (cs' := [_, _, _, _, _, _, _, _]) rfl rfl rfl (ss (ss (ss (ss s0)))) (by rfl) (of_decide_eq_true rfl) sz32 ⟨rfl, rfl, rfl, rfl, rfl, rfl, rfl, rfl, trivial⟩) rfl rfl ?_
        rintro _ _ _ ⟨rfl, rfl⟩
        refine wl_det rfl rfl (det_assign rfl) rfl ?_
        refine wl_nil ?_
        refine pn_then ?_
        refine wc_ret ?_
        refine pr_then ?_
        refine pn_st (fun _ h => h.zeroS lGPosting 48 none) ?_
        replace h := Option.some.inj h
        subst h
        refine pn_ret (vs := [_, _]) rfl ⟨⟨_, _, [_, _, _, _, _, _, _, _], rfl, (ms (ms (ms (ms (ms m0))))), ag32, sz32, rfl⟩, rfl, trivial⟩ ⟨none, 0, 0, rfl, rfl, rfl⟩ (fun _ h => h.to ⟨_, r0, trivial⟩ trivial)
      · have h := ifF h c23
        refine wc_skip ?_
        refine pn_then ?_
        refine wc_seq ?_
        refine dx_region 12 [[], [], [], [], [], [], [], [], [], [4, 5, 6, 7, 8], [], [0, 1, 2, 3, 4, 5, 6, 7, 8, 9, 10], [0, 1, 2, 3, 4, 5, 6, 7, 8, 9, 10, 11], [0, 1, 2, 3, 4, 5, 6, 7, 8, 9, 10, 11, 12]] mixed (ord := (.det 0 (.det 1 (.det 2 (.det 3 (.det 4 (.det 5 (.det 6 (.det 7 (.det 8 (.det 10 (.alt 9 (.det 11 .done) .dead)))))))))))) (by kernel_rfl) ?_   -- region 10
        refine hx_det rfl rfl rfl nofun (det_move rfl) rfl ?_
        refine hx_det rfl rfl rfl nofun (det_move rfl) rfl ?_
        refine hx_det rfl rfl rfl nofun (det_move rfl) rfl ?_
        refine hx_det rfl rfl rfl nofun (det_loadN (cells := [_, _]) rfl (ms (ms m0)) (by rfl) ag30 sz30) rfl ?_
        refine hx_det rfl rfl rfl nofun (det_loadN (cells := [_, _]) rfl (ms (ms (ms (ms (ms m0))))) (by rfl) ag25 sz25) rfl ?_
        refine hx_det rfl rfl rfl nofun (det_move rfl) rfl ?_
        refine hx_det rfl rfl rfl nofun (det_move rfl) rfl ?_
        refine hx_det rfl rfl rfl nofun (det_move rfl) rfl ?_
        refine hx_det rfl rfl rfl nofun (det_move rfl) rfl ?_
        refine hx_det rfl rfl rfl nofun (det_loadN (cells := [_, _]) rfl m0 (by rfl) ag30 sz30) rfl ?_
        obtain ⟨r10_9, hr10_9, h⟩ := bind_some h
        refine hx_act rfl rfl rfl (act_callS (cap := []) (W_treatyref33_some a0 a1 a2 a3 a3 A0 a0.Postings.length c0 r10_9 hr10_9) rfl rfl rfl bd32 rfl ⟨m0, trivial⟩) rfl (by rintro _ _ _ ⟨_, _, _, rfl, rfl⟩; first | exact ⟨_, _, rfl, rfl⟩ | exact ⟨_, [], rfl, rfl⟩) ?_
        rintro _ _ _ ⟨_, _, ⟨y10_9A0, y10_9n0, y10_9c0, rfl, rfl, rfl⟩, rfl, rfl⟩
        dsimp only [List.nil_append, List.cons_append]
        refine hx_det rfl rfl rfl nofun (det_build (cs := [_, _, _, _, _, _, _, _]) pl32 zr32 rfl rfl (by rfl)) rfl ?_
        refine hx_end ?_
        refine wl_know (fun _ h => h.lenO m0) (fun e => ?_)
        subst e
        refine wl_act0 (act_store (cells := [_, _, _, _, _, _, _, _]) (cs' := [_, _, _, _, _, _, _, _]) rfl rfl rfl (ss (ss (ss (ss (ss s0))))) (by rfl) (of_decide_eq_true rfl) sz32 ⟨rfl, rfl, rfl, rfl, rfl, rfl, rfl, rfl, trivial⟩) rfl rfl ?_
        rintro _ _ _ ⟨rfl, rfl⟩
        refine wl_det rfl rfl (det_assign rfl) rfl ?_
        refine wl_nil ?_
        refine pn_then ?_
        refine wc_ret ?_
        replace h := Option.some.inj h
        subst h
        refine pn_ret (vs := [_, _]) rfl ⟨⟨_, _, [_, _, _, _, _, _, _, _], rfl, (ms (ms (ms (ms (ms m0))))), ag32, sz32, rfl⟩, rfl, trivial⟩ ⟨y10_9A0, r10_9.length, y10_9c0, rfl, rfl, rfl⟩ (fun _ h => h.to ⟨_, r0, trivial⟩ trivial)
def Q_treatyref33_SamePostings (r : Bool) : Value → List Ent → List Fact → Prop := fun v θ κ => v = .bool r ∧ θ = [] ∧ κ = []
theorem plains_treatyref33_SamePostings {r : Bool} : ∀ v θ κ, Q_treatyref33_SamePostings r v θ κ → Plains θ := by
  rintro _ _ _ ⟨rfl, rfl, rfl⟩
  exact trivial
set_option maxHeartbeats 4000000 in
set_option maxRecDepth 100000 in
theorem W_treatyref33_SamePostings (a0 : (List GPosting)) (a1 : (List GPosting)) (A0 : Option Addr) (n0 : Nat) (c0 : Nat) (A3 : Option Addr) (n3 : Nat) (c3 : Nat) (r : Bool) (h : treatyref33_SamePostings a0 a1 = some r) : Spec Try.prog 33 [.slice A0 n0 c0, .slice A3 n3 c3] [] [fV (lSlice lGPosting) (.slice A0 n0 c0) a0, fV (lSlice lGPosting) (.slice A3 n3 c3) a1] (Q_treatyref33_SamePostings r) := by
  unfold treatyref33_SamePostings at h
  refine spec_of (σ := [(0, _), (1, _)]) Try.func33 rfl rfl rfl rfl ?_
  intro C
  refine wc_know (fun _ h => h.lenF m0) (fun e => ?_)
  subst e
  refine wc_know (fun _ h => h.lenF (ms m0)) (fun e => ?_)
  subst e
  refine wc_seq ?_
  refine wc_region ?_   -- region 0
  refine wl_det rfl rfl (det_assign rfl) rfl ?_
  refine wl_nil ?_
  refine pn_then ?_
  refine wc_seq ?_
  refine wc_seq ?_
  refine wc_region ?_   -- region 1
  refine wl_det rfl rfl (det_move rfl) rfl ?_
  refine wl_det rfl rfl (det_len rfl un23) rfl ?_
  refine wl_det rfl rfl (det_move rfl) rfl ?_
  refine wl_det rfl rfl (det_len rfl un23) rfl ?_
  refine wl_det rfl rfl (det_neq rfl rfl) rfl ?_
  refine wl_nil ?_
  refine pn_then ?_
  refine wc_cond rfl (fun c5 => ?_) (fun c5 => ?_)
  · have h := ifT h c5
    refine wc_seq ?_
    refine wc_region ?_   -- region 2
    refine wl_det rfl rfl (det_assign rfl) rfl ?_
    refine wl_nil ?_
    refine pn_then ?_
    refine wc_ret ?_
    refine pr_then ?_
    replace h := Option.some.inj h
    subst h
    refine pn_ret (vs := [_]) rfl ⟨rfl, trivial⟩ ⟨rfl, rfl, rfl⟩ (fun _ h => h.to trivial trivial)
  · have h := ifF h c5
    refine wc_skip ?_
    refine pn_then ?_
    obtain ⟨q8, h, ho8⟩ := bind_some h
    refine wc_meetG (G := Unit × Unit) (fun (s8, _) => (.inl s8) = q8) (fun (_, _) => []) (fun (_, _) => []) (fun (_, _) => []) ?_ ?_
    · refine wc_seq ?_
      refine wc_region ?_   -- region 3
      refine wl_det rfl rfl (det_move rfl) rfl ?_
      refine wl_det rfl rfl (det_len rfl un23) rfl ?_
      refine wl_det rfl rfl (det_move rfl) rfl ?_
      refine wl_nil ?_
      refine pn_then ?_
      refine wc_block ?_
      obtain ⟨o12, h, ho12⟩ := bind_some h
      obtain ⟨k12, hk12⟩ := loopV_some.1 h
      refine wc_loop (G := Nat × Int × Unit) (fun g => IterN (treatyref33_SamePostings_l12 a0 a1) g.1 g.2.1 o12) (fun g => g.1) (fun (_, s12, _) => [(0, .slice A0 a0.length c0), (1, .slice A3 a1.length c3), (12, .int .i64 (a0.length : Int)), (13, .int .i64 s12)]) (fun (_, _, _) => []) (fun (_, _, _) => [fV (lSlice lGPosting) (.slice A0 a0.length c0) a0, fV (lSlice lGPosting) (.slice A3 a1.length c3) a1]) (k12, 0, ()) hk12 ⟨rfl, rfl, rfl, rfl, trivial⟩ (fun _ h => h.to trivial ⟨m0, ⟨(ms m0), trivial⟩⟩) ?_
      rintro ⟨k12, s12, _⟩ hI
      obtain ⟨k12, rfl, q12, h, g12⟩ := IterN.pos hI
      dsimp only at h ⊢
      unfold treatyref33_SamePostings_l12 at h
      refine wc_seq ?_
      refine wc_region ?_   -- region 4
      refine wl_det rfl rfl (det_lss rfl rfl) rfl ?_
      refine wl_nil ?_
      refine pn_then ?_
      refine wc_seq ?_
      refine wc_cond rfl (fun c16 => ?_) (fun c16 => ?_)
      · have h := ifT h c16
        refine wc_skip ?_
        refine pn_then ?_
        refine wc_seq ?_
        refine wc_block ?_
        refine wc_seq ?_
        refine wc_region ?_   -- region 5
        refine wl_det rfl rfl (det_move rfl) rfl ?_
        refine wl_det rfl rfl (det_assign rfl) rfl ?_
        refine wl_nil ?_
        refine pn_then ?_
        refine wc_seq ?_
        obtain ⟨k6_p1, h⟩ := chk_some h
        refine wc_st (fun _ h => h.openF m0 k6_p1) ?_
        obtain ⟨k6_p3, h⟩ := chk_some h
        refine wc_st (fun _ h => h.openF (ms (ms m0)) k6_p3) ?_
        refine dx_region 9 [[], [], [0, 1], [0, 1, 2], [], [], [4, 5], [4, 5, 6], [0, 1, 2, 3, 4, 5, 6, 7]] mixed (ord := (.det 0 (.det 1 (.det 2 (.det 3 (.det 4 (.det 5 (.det 6 (.det 7 (.det 8 .done)))))))))) (by kernel_rfl) ?_   -- region 6
        refine hx_det rfl rfl rfl nofun (det_move rfl) rfl ?_
        refine hx_det rfl rfl rfl nofun (det_move rfl) rfl ?_
        refine hx_det rfl rfl rfl nofun (det_indexP rfl rfl (ms (ms m0)) k6_p1 (ms m0) un23 sz48) rfl ?_
        refine hx_det rfl rfl rfl nofun (det_loadP (off := 0) rfl (ms m0) (by rfl) (by rfl) (loaded_n (cells := [_, _, _, _, _, _, _]) ag48 sz48)) rfl ?_
        refine hx_det rfl rfl rfl nofun (det_move rfl) rfl ?_
        refine hx_det rfl rfl rfl nofun (det_move rfl) rfl ?_
        refine hx_det rfl rfl rfl nofun (det_indexP rfl rfl (ms (ms (ms m0))) k6_p3 m0 un23 sz48) rfl ?_
        refine hx_det rfl rfl rfl nofun (det_loadP (off := 0) rfl m0 (by rfl) (by rfl) (loaded_n (cells := [_, _, _, _, _, _, _]) ag48 sz48)) rfl ?_
        refine hx_det rfl rfl rfl nofun (det_neqS [_, _, _, _, _, _, _] [_, _, _, _, _, _, _] eq48 rfl rfl rfl rfl) rfl ?_
        refine hx_end ?_
        refine wl_nil ?_
        refine pn_then ?_
        refine wc_cond rfl (fun c24 => ?_) (fun c24 => ?_)
        · have h := ifT h c24
          refine wc_seq ?_
          refine wc_region ?_   -- region 7
          refine wl_det rfl rfl (det_assign rfl) rfl ?_
          refine wl_nil ?_
          refine pn_then ?_
          refine wc_ret ?_
          refine pr_block ?_
          refine pr_then ?_
          refine pr_then ?_
          refine pr_block ?_
          refine pr_then ?_
          replace h := Option.some.inj h
          subst h
          replace g12 := nextR g12
          subst g12
          have h := (elimL ho12)
          replace h := Option.some.inj h
          subst h
          have h := (elimR ho8)
          replace h := Option.some.inj h
          subst h
          refine pn_ret (vs := [_]) rfl ⟨rfl, trivial⟩ ⟨rfl, rfl, rfl⟩ (fun _ h => h.to trivial trivial)
        · have h := ifF h c24
          refine wc_skip ?_
          refine pn_block ?_
          refine pn_then ?_
          refine wc_region ?_   -- region 8
          refine wl_det rfl rfl (det_add rfl rfl) rfl ?_
          refine wl_det rfl rfl (det_move rfl) rfl ?_
          refine wl_nil ?_
          replace h := Option.some.inj h
          subst h
          exact pn_some (k12, (w64 (s12 + 1)), ()) ⟨nextL g12, Nat.lt_succ_self _⟩ ⟨rfl, rfl, rfl, rfl, trivial⟩ (fun _ h => h.to trivial ⟨(ms (ms m0)), ⟨(ms (ms (ms m0))), trivial⟩⟩)
      · have h := ifF h c16
        refine wc_exit ?_
        refine px_then ?_
        refine px_then ?_
        refine px_block ?_
        replace h := Option.some.inj h
        subst h
        replace g12 := nextR g12
        subst g12
        have h := (elimR ho12)
        replace h := Option.some.inj h
        subst h
        exact pn_meetG ((), ()) rfl trivial (fun _ h => h.to trivial trivial)
    rintro ⟨s8, _⟩ e8
    dsimp only at e8 ⊢
    subst e8
    have h := (elimL ho8)
    refine wc_seq ?_
    refine wc_region ?_   -- region 9
    refine wl_det rfl rfl (det_assign rfl) rfl ?_
    refine wl_nil ?_
    refine pn_then ?_
    refine wc_ret ?_
    replace h := Option.some.inj h
    subst h
    refine pn_ret (vs := [_]) rfl ⟨rfl, trivial⟩ ⟨rfl, rfl, rfl⟩ (fun _ h => h.to trivial trivial)
def Q_treatyref33_SameStatement (r : Bool) : Value → List Ent → List Fact → Prop := fun v θ κ => v = .bool r ∧ θ = [] ∧ κ = []
theorem plains_treatyref33_SameStatement {r : Bool} : ∀ v θ κ, Q_treatyref33_SameStatement r v θ κ → Plains θ := by
  rintro _ _ _ ⟨rfl, rfl, rfl⟩
  exact trivial
set_option maxHeartbeats 4000000 in
set_option maxRecDepth 100000 in
theorem W_treatyref33_SameStatement (a0 : GStatement) (a1 : GStatement) (A0 : Option Addr) (n0 : Nat) (c0 : Nat) (A3 : Option Addr) (n3 : Nat) (c3 : Nat) (r : Bool) (h : treatyref33_SameStatement a0 a1 = some r) : Spec Try.prog 12 [.agg #[.int .i64 a0.Treaty, .int .i64 a0.Party, .int .i64 a0.Period, .int .i64 a0.Opening.Due, .int .i64 a0.Opening.Reserve, .slice A0 n0 c0, .int .i64 a0.Closing.Due, .int .i64 a0.Closing.Reserve], .agg #[.int .i64 a1.Treaty, .int .i64 a1.Party, .int .i64 a1.Period, .int .i64 a1.Opening.Due, .int .i64 a1.Opening.Reserve, .slice A3 n3 c3, .int .i64 a1.Closing.Due, .int .i64 a1.Closing.Reserve]] [] [fV (lSlice lGPosting) (.slice A0 n0 c0) a0.Postings, fV (lSlice lGPosting) (.slice A3 n3 c3) a1.Postings] (Q_treatyref33_SameStatement r) := by
  unfold treatyref33_SameStatement at h
  refine spec_of (σ := [(0, _), (1, _)]) Try.func12 rfl rfl rfl rfl ?_
  intro C
  refine wc_know (fun _ h => h.lenF m0) (fun e => ?_)
  subst e
  refine wc_know (fun _ h => h.lenF (ms m0)) (fun e => ?_)
  subst e
  refine wc_seq ?_
  refine wc_region ?_   -- region 0
  refine wl_act (act_box (cs := [_, _, _, _, _, _, _, _]) rfl rfl) rfl rfl rfl ?_
  rintro _ _ _ ⟨b0_0, rfl, rfl, rfl⟩
  refine wl_act (act_box (cs := [_, _, _, _, _, _, _, _]) rfl rfl) rfl rfl rfl ?_
  rintro _ _ _ ⟨b0_1, rfl, rfl, rfl⟩
  refine wl_det rfl rfl (det_assign rfl) rfl ?_
  refine wl_nil ?_
  refine pn_then ?_
  refine wc_seq ?_
  refine wc_region ?_   -- region 1
  refine wl_det rfl rfl (det_field rfl fd32_0 rfl) rfl ?_
  refine wl_det rfl rfl (det_load rfl (ms m0) (by rfl) na3 us3) rfl ?_
  refine wl_det rfl rfl (det_field rfl fd32_0 rfl) rfl ?_
  refine wl_det rfl rfl (det_load rfl m0 (by rfl) na3 us3) rfl ?_
  refine wl_det rfl rfl (det_eql rfl rfl) rfl ?_
  refine wl_det rfl rfl (det_move rfl) rfl ?_
  refine wl_way (decide (a0.Treaty = a1.Treaty)) ((decide (a0.Treaty = a1.Treaty)) && (decide (a0.Party = a1.Party))) 6 16 (fun hg => ?_) (fun hg => ?_) ?_
  · have hg1_11 := hg
    refine wl_on rfl rfl rfl rfl hg1_11 ?_
    refine wl_det rfl rfl (det_field rfl fd32_1 rfl) rfl ?_
    refine wl_on rfl rfl rfl rfl hg1_11 ?_
    refine wl_det rfl rfl (det_load rfl (ms m0) (by rfl) na3 us3) rfl ?_
    refine wl_on rfl rfl rfl rfl hg1_11 ?_
    refine wl_det rfl rfl (det_field rfl fd32_1 rfl) rfl ?_
    refine wl_on rfl rfl rfl rfl hg1_11 ?_
    refine wl_det rfl rfl (det_load rfl m0 (by rfl) na3 us3) rfl ?_
    refine wl_on rfl rfl rfl rfl hg1_11 ?_
    refine wl_det rfl rfl (det_eql rfl rfl) rfl ?_
    refine wl_det rfl rfl (det_and_on rfl rfl rfl hg1_11) rfl ?_
    exact wl_nil (pn_qnE (ext_cons rfl (ext_skip rfl (ext_skip rfl (ext_skip rfl (ext_skip rfl (ext_skip rfl (ext_skip rfl ext_refl))))))) (fun _ h => h))
  · have hg1_11a := hg
    refine wl_off rfl rfl rfl rfl rfl hg1_11a rfl ?_
    refine wl_off rfl rfl rfl rfl rfl hg1_11a rfl ?_
    refine wl_off rfl rfl rfl rfl rfl hg1_11a rfl ?_
    refine wl_off rfl rfl rfl rfl rfl hg1_11a rfl ?_
    refine wl_off rfl rfl rfl rfl rfl hg1_11a rfl ?_
    refine wl_det rfl rfl (det_and_off (q := (decide (a0.Party = a1.Party))) rfl rfl rfl hg1_11a) rfl ?_
    exact wl_nil (pn_qnE (ext_cons rfl (ext_skip rfl (ext_skip rfl (ext_skip rfl (ext_skip rfl (ext_skip rfl (ext_skip rfl ext_refl))))))) (fun _ h => h))
  refine wl_det rfl rfl (det_move rfl) rfl ?_
  refine wl_way ((decide (a0.Treaty = a1.Treaty)) && (decide (a0.Party = a1.Party))) (((decide (a0.Treaty = a1.Treaty)) && (decide (a0.Party = a1.Party))) && (decide (a0.Period = a1.Period))) 6 23 (fun hg => ?_) (fun hg => ?_) ?_
  · have hg1_18 := hg
    refine wl_on rfl rfl rfl rfl hg1_18 ?_
    refine wl_det rfl rfl (det_field rfl fd32_2 rfl) rfl ?_
    refine wl_on rfl rfl rfl rfl hg1_18 ?_
    refine wl_det rfl rfl (det_load rfl (ms m0) (by rfl) na3 us3) rfl ?_
    refine wl_on rfl rfl rfl rfl hg1_18 ?_
    refine wl_det rfl rfl (det_field rfl fd32_2 rfl) rfl ?_
    refine wl_on rfl rfl rfl rfl hg1_18 ?_
    refine wl_det rfl rfl (det_load rfl m0 (by rfl) na3 us3) rfl ?_
    refine wl_on rfl rfl rfl rfl hg1_18 ?_
    refine wl_det rfl rfl (det_eql rfl rfl) rfl ?_
    refine wl_det rfl rfl (det_and_on rfl rfl rfl hg1_18) rfl ?_
    exact wl_nil (pn_qnE (ext_cons rfl (ext_skip rfl (ext_skip rfl (ext_skip rfl (ext_skip rfl (ext_skip rfl (ext_skip rfl ext_refl))))))) (fun _ h => h))
  · have hg1_18a := hg
    refine wl_off rfl rfl rfl rfl rfl hg1_18a rfl ?_
    refine wl_off rfl rfl rfl rfl rfl hg1_18a rfl ?_
    refine wl_off rfl rfl rfl rfl rfl hg1_18a rfl ?_
    refine wl_off rfl rfl rfl rfl rfl hg1_18a rfl ?_
    refine wl_off rfl rfl rfl rfl rfl hg1_18a rfl ?_
    refine wl_det rfl rfl (det_and_off (q := (decide (a0.Period = a1.Period))) rfl rfl rfl hg1_18a) rfl ?_
    exact wl_nil (pn_qnE (ext_cons rfl (ext_skip rfl (ext_skip rfl (ext_skip rfl (ext_skip rfl (ext_skip rfl (ext_skip rfl ext_refl))))))) (fun _ h => h))
  refine wl_det rfl rfl (det_move rfl) rfl ?_
  refine wl_way (((decide (a0.Treaty = a1.Treaty)) && (decide (a0.Party = a1.Party))) && (decide (a0.Period = a1.Period))) ((((decide (a0.Treaty = a1.Treaty)) && (decide (a0.Party = a1.Party))) && (decide (a0.Period = a1.Period))) && (decide ([a0.Opening.Due, a0.Opening.Reserve] = [a1.Opening.Due, a1.Opening.Reserve]))) 6 30 (fun hg => ?_) (fun hg => ?_) ?_
  · have hg1_25 := hg
    refine wl_on rfl rfl rfl rfl hg1_25 ?_
    refine wl_det rfl rfl (det_field rfl fd32_3 rfl) rfl ?_
    refine wl_on rfl rfl rfl rfl hg1_25 ?_
    refine wl_det rfl rfl (det_loadN (cells := [_, _]) rfl (ms m0) (by rfl) ag30 sz30) rfl ?_
    refine wl_on rfl rfl rfl rfl hg1_25 ?_
    refine wl_det rfl rfl (det_field rfl fd32_3 rfl) rfl ?_
    refine wl_on rfl rfl rfl rfl hg1_25 ?_
    refine wl_det rfl rfl (det_loadN (cells := [_, _]) rfl m0 (by rfl) ag30 sz30) rfl ?_
    refine wl_on rfl rfl rfl rfl hg1_25 ?_
    refine wl_det rfl rfl (det_eqlS [_, _] [_, _] eq30 rfl rfl rfl rfl) rfl ?_
    refine wl_det rfl rfl (det_and_on rfl rfl rfl hg1_25) rfl ?_
    exact wl_nil (pn_qnE (ext_cons rfl (ext_skip rfl (ext_skip rfl (ext_skip rfl (ext_skip rfl (ext_skip rfl (ext_skip rfl ext_refl))))))) (fun _ h => h))
  · have hg1_25a := hg
    refine wl_off rfl rfl rfl rfl rfl hg1_25a rfl ?_
    refine wl_off rfl rfl rfl rfl rfl hg1_25a rfl ?_
    refine wl_off rfl rfl rfl rfl rfl hg1_25a rfl ?_
    refine wl_off rfl rfl rfl rfl rfl hg1_25a rfl ?_
    refine wl_off rfl rfl rfl rfl rfl hg1_25a rfl ?_
    refine wl_det rfl rfl (det_and_off (q := (decide ([a0.Opening.Due, a0.Opening.Reserve] = [a1.Opening.Due, a1.Opening.Reserve]))) rfl rfl rfl hg1_25a) rfl ?_
    exact wl_nil (pn_qnE (ext_cons rfl (ext_skip rfl (ext_skip rfl (ext_skip rfl (ext_skip rfl (ext_skip rfl (ext_skip rfl ext_refl))))))) (fun _ h => h))
  refine wl_det rfl rfl (det_move rfl) rfl ?_
  refine wl_way ((((decide (a0.Treaty = a1.Treaty)) && (decide (a0.Party = a1.Party))) && (decide (a0.Period = a1.Period))) && (decide ([a0.Opening.Due, a0.Opening.Reserve] = [a1.Opening.Due, a1.Opening.Reserve]))) (((((decide (a0.Treaty = a1.Treaty)) && (decide (a0.Party = a1.Party))) && (decide (a0.Period = a1.Period))) && (decide ([a0.Opening.Due, a0.Opening.Reserve] = [a1.Opening.Due, a1.Opening.Reserve]))) && (decide ([a0.Closing.Due, a0.Closing.Reserve] = [a1.Closing.Due, a1.Closing.Reserve]))) 6 37 (fun hg => ?_) (fun hg => ?_) ?_
  · have hg1_32 := hg
    refine wl_on rfl rfl rfl rfl hg1_32 ?_
    refine wl_det rfl rfl (det_field rfl fd32_5 rfl) rfl ?_
    refine wl_on rfl rfl rfl rfl hg1_32 ?_
    refine wl_det rfl rfl (det_loadN (cells := [_, _]) rfl (ms m0) (by rfl) ag30 sz30) rfl ?_
    refine wl_on rfl rfl rfl rfl hg1_32 ?_
    refine wl_det rfl rfl (det_field rfl fd32_5 rfl) rfl ?_
    refine wl_on rfl rfl rfl rfl hg1_32 ?_
    refine wl_det rfl rfl (det_loadN (cells := [_, _]) rfl m0 (by rfl) ag30 sz30) rfl ?_
    refine wl_on rfl rfl rfl rfl hg1_32 ?_
    refine wl_det rfl rfl (det_eqlS [_, _] [_, _] eq30 rfl rfl rfl rfl) rfl ?_
    refine wl_det rfl rfl (det_and_on rfl rfl rfl hg1_32) rfl ?_
    exact wl_nil (pn_qnE (ext_cons rfl (ext_skip rfl (ext_skip rfl (ext_skip rfl (ext_skip rfl (ext_skip rfl (ext_skip rfl ext_refl))))))) (fun _ h => h))
  · have hg1_32a := hg
    refine wl_off rfl rfl rfl rfl rfl hg1_32a rfl ?_
    refine wl_off rfl rfl rfl rfl rfl hg1_32a rfl ?_
    refine wl_off rfl rfl rfl rfl rfl hg1_32a rfl ?_
    refine wl_off rfl rfl rfl rfl rfl hg1_32a rfl ?_
    refine wl_off rfl rfl rfl rfl rfl hg1_32a rfl ?_
    refine wl_det rfl rfl (det_and_off (q := (decide ([a0.Closing.Due, a0.Closing.Reserve] = [a1.Closing.Due, a1.Closing.Reserve]))) rfl rfl rfl hg1_32a) rfl ?_
    exact wl_nil (pn_qnE (ext_cons rfl (ext_skip rfl (ext_skip rfl (ext_skip rfl (ext_skip rfl (ext_skip rfl (ext_skip rfl ext_refl))))))) (fun _ h => h))
  refine wl_det rfl rfl (det_move rfl) rfl ?_
  obtain ⟨q1_39, hq1_39, h⟩ := bind_some h
  have ho1_39 := h
  refine wl_way (((((decide (a0.Treaty = a1.Treaty)) && (decide (a0.Party = a1.Party))) && (decide (a0.Period = a1.Period))) && (decide ([a0.Opening.Due, a0.Opening.Reserve] = [a1.Opening.Due, a1.Opening.Reserve]))) && (decide ([a0.Closing.Due, a0.Closing.Reserve] = [a1.Closing.Due, a1.Closing.Reserve]))) q1_39 6 44 (fun hg => ?_) (fun hg => ?_) ?_
  · have hg1_39 := hg
    have h := ifT hq1_39 hg
    refine wl_on rfl rfl rfl rfl hg1_39 ?_
    refine wl_det rfl rfl (det_field rfl fd32_4 rfl) rfl ?_
    refine wl_on rfl rfl rfl rfl hg1_39 ?_
    refine wl_det rfl rfl (det_load rfl (ms m0) (by rfl) na23 us23) rfl ?_
    refine wl_on rfl rfl rfl rfl hg1_39 ?_
    refine wl_det rfl rfl (det_field rfl fd32_4 rfl) rfl ?_
    refine wl_on rfl rfl rfl rfl hg1_39 ?_
    refine wl_det rfl rfl (det_load rfl m0 (by rfl) na23 us23) rfl ?_
    refine wl_on rfl rfl rfl rfl hg1_39 ?_
    obtain ⟨r1_38, hr1_38, h⟩ := bind_some h
    refine wl_act (act_callS (cap := []) (W_treatyref33_SamePostings a0.Postings a1.Postings A0 a0.Postings.length c0 A3 a1.Postings.length c3 r1_38 hr1_38) rfl rfl rfl bd33 rfl ⟨m0, ⟨(ms m0), trivial⟩⟩) rfl rfl rfl ?_
    rintro _ _ _ ⟨_, _, ⟨rfl, rfl, rfl⟩, rfl, rfl⟩
    dsimp only [List.nil_append, List.cons_append]
    replace h := Option.some.inj h
    subst h
    refine wl_det rfl rfl (det_pick_on rfl hg1_39 rfl rfl) rfl ?_
    exact wl_nil (pn_qnE (ext_cons rfl (ext_skip rfl (ext_skip rfl (ext_skip rfl (ext_skip rfl (ext_skip rfl (ext_skip rfl ext_refl))))))) (fun _ h => h))
  · have hg1_39a := hg
    have h := ifF hq1_39 hg
    refine wl_off rfl rfl rfl rfl rfl hg1_39a rfl ?_
    refine wl_off rfl rfl rfl rfl rfl hg1_39a rfl ?_
    refine wl_off rfl rfl rfl rfl rfl hg1_39a rfl ?_
    refine wl_off rfl rfl rfl rfl rfl hg1_39a rfl ?_
    refine wl_off rfl rfl rfl rfl rfl hg1_39a rfl ?_
    replace h := Option.some.inj h
    subst h
    refine wl_det rfl rfl (det_pick_off rfl hg1_39a rfl rfl) rfl ?_
    exact wl_nil (pn_qnE (ext_cons rfl (ext_skip rfl (ext_skip rfl (ext_skip rfl (ext_skip rfl (ext_skip rfl (ext_skip rfl ext_refl))))))) (fun _ h => h))
  have h := ho1_39
  refine wl_det rfl rfl (det_assign rfl) rfl ?_
  refine wl_nil ?_
  refine pn_then ?_
  refine wc_ret ?_
  replace h := Option.some.inj h
  subst h
  refine pn_ret (vs := [_]) rfl ⟨rfl, trivial⟩ ⟨rfl, rfl, rfl⟩ (fun _ h => h.to trivial trivial)
def Q_treatylaw34_awake (r : Bool) : Value → List Ent → List Fact → Prop := fun v θ κ => v = .bool r ∧ θ = [] ∧ κ = []
theorem plains_treatylaw34_awake {r : Bool} : ∀ v θ κ, Q_treatylaw34_awake r v θ κ → Plains θ := by
  rintro _ _ _ ⟨rfl, rfl, rfl⟩
  exact trivial
set_option maxHeartbeats 4000000 in
set_option maxRecDepth 100000 in
theorem W_treatylaw34_awake (r : Bool) (h : treatylaw34_awake = some r) : Spec Try.prog 13 [] [] [] (Q_treatylaw34_awake r) := by
  unfold treatylaw34_awake at h
  refine spec_of (σ := []) Try.func13 rfl rfl rfl rfl ?_
  intro C
  refine wc_seq ?_
  refine wc_region ?_   -- region 0
  refine wl_det rfl rfl (det_assign rfl) rfl ?_
  refine wl_nil ?_
  refine pn_then ?_
  refine wc_seq ?_
  refine wc_region ?_   -- region 1
  refine wl_det rfl rfl (det_build (cs := [_, _, _, _, _]) pl46 zr46 rfl rfl (by rfl)) rfl ?_
  refine wl_det rfl rfl (det_build (cs := [_, _, _, _, _]) pl46 zr46 rfl rfl (by rfl)) rfl ?_
  refine wl_act (act_alloc (cs := [_, _, _, _, _]) zr46 rfl) rfl rfl rfl ?_
  rintro _ _ _ ⟨b1_2, rfl, rfl, rfl⟩
  refine wl_act (act_alloc (cs := [_, _, _, _, _]) zr46 rfl) rfl rfl rfl ?_
  rintro _ _ _ ⟨b1_3, rfl, rfl, rfl⟩
  refine wl_act0 (act_store (cells := [_, _, _, _, _]) (cs' := [_, _, _, _, _]) rfl rfl rfl (ss s0) (by rfl) (of_decide_eq_true rfl) sz46 ⟨rfl, rfl, rfl, rfl, rfl, trivial⟩) rfl rfl ?_
  rintro _ _ _ ⟨rfl, rfl⟩
  refine wl_act0 (act_store (cells := [_, _, _, _, _]) (cs' := [_, _, _, _, _]) rfl rfl rfl s0 (by rfl) (of_decide_eq_true rfl) sz46 ⟨rfl, rfl, rfl, rfl, rfl, trivial⟩) rfl rfl ?_
  rintro _ _ _ ⟨rfl, rfl⟩
  refine wl_nil ?_
  refine pn_then ?_
  refine wc_seq ?_
  refine wc_region ?_   -- region 2
  refine wl_det rfl rfl (det_loadN (cells := [_, _, _, _, _]) rfl (ms m0) (by rfl) ag46 sz46) rfl ?_
  refine wl_det rfl rfl (det_build (cs := [_, _, _, _, _, _, _]) pl48 zr48 rfl rfl (by rfl)) rfl ?_
  refine wl_det rfl rfl (det_loadN (cells := [_, _, _, _, _]) rfl m0 (by rfl) ag46 sz46) rfl ?_
  refine wl_det rfl rfl (det_build (cs := [_, _, _, _, _, _, _]) pl48 zr48 rfl rfl (by rfl)) rfl ?_
  refine wl_act (act_litS lGPosting (vs := [_, _]) (cs := [_, _, _, _, _, _, _, _, _, _, _, _, _, _]) [(GPosting.mk 1 0 (GEntry.mk 1 5 2 7 100)), (GPosting.mk 2 1 (GEntry.mk 1 5 2 7 (-20)))] un23 in48 rfl rfl rfl rfl rfl ⟨rfl, rfl, trivial⟩ (by rfl) rfl (litR_flat rfl)) rfl rfl rfl ?_
  rintro _ _ _ ⟨A2_4, rfl, rfl, rfl⟩
  refine wl_det rfl rfl (det_build (cs := [_, _]) pl25 zr25 rfl rfl (by rfl)) rfl ?_
  refine wl_act (act_alloc (cs := [_, _]) zr25 rfl) rfl rfl rfl ?_
  rintro _ _ _ ⟨b2_6, rfl, rfl, rfl⟩
  refine wl_act0 (act_store (cells := [_, _]) (cs' := [_, _]) rfl rfl rfl s0 (by rfl) (of_decide_eq_true rfl) sz25 ⟨rfl, rfl, trivial⟩) rfl rfl ?_
  rintro _ _ _ ⟨rfl, rfl⟩
  refine wl_nil ?_
  refine pn_then ?_
  refine wc_seq ?_
  refine wc_region ?_   -- region 3
  refine wl_det rfl rfl (det_loadN (cells := [_, _]) rfl m0 (by rfl) ag25 sz25) rfl ?_
  obtain ⟨r3_1, hr3_1, h⟩ := bind_some h
  refine wl_act (act_callL (cap := []) [eS lGPosting 48 A2_4 2 2 [(GPosting.mk 1 0 (GEntry.mk 1 5 2 7 100)), (GPosting.mk 2 1 (GEntry.mk 1 5 2 7 (-20)))]] (W_account_Statement (GLedger.mk 1 [(GPosting.mk 1 0 (GEntry.mk 1 5 2 7 100)), (GPosting.mk 2 1 (GEntry.mk 1 5 2 7 (-20)))]) 5 2 1 A2_4 2 2 r3_1 hr3_1) plains_account_Statement rfl rfl rfl bd10 rfl ⟨(ms m0), trivial⟩ ⟨.inr ⟨_, m0, lent_eS⟩, trivial⟩) rfl rfl rfl ?_
  rintro _ _ _ ⟨_, _, ⟨y3_1A0, y3_1n0, y3_1c0, rfl, rfl, rfl⟩, rfl, rfl⟩
  dsimp only [List.nil_append, List.cons_append]
  refine wl_know (fun _ h => h.lenO m0) (fun e => ?_)
  subst e
  refine wl_det rfl rfl (det_move rfl) rfl ?_
  refine wl_det rfl rfl (det_extract rfl rfl) rfl ?_
  refine wl_det rfl rfl (det_extract rfl rfl) rfl ?_
  refine wl_act (act_alloc (cs := [_, _, _, _, _, _, _, _]) zr32 rfl) rfl rfl rfl ?_
  rintro _ _ _ ⟨b3_5, rfl, rfl, rfl⟩
  refine wl_act0 (act_store (cells := [_, _, _, _, _, _, _, _]) (cs' := [_, _, _, _, _, _, _, _]) rfl rfl rfl s0 (by rfl) (of_decide_eq_true rfl) sz32 ⟨rfl, rfl, rfl, rfl, rfl, rfl, rfl, rfl, trivial⟩) rfl rfl ?_
  rintro _ _ _ ⟨rfl, rfl⟩
  refine wl_det rfl rfl (det_assign rfl) rfl ?_
  refine wl_nil ?_
  refine pn_then ?_
  obtain ⟨q8, h, ho8⟩ := bind_some h
  refine wc_meetG (G := Bool × Unit) (fun (s8, _) => s8 = q8) (fun (s8, _) => [(0, .bool s8)]) (fun (_, _) => []) (fun (_, _) => []) ?_ ?_
  · rcases Bool.eq_false_or_eq_true (decide (r3_1.2 = 0)) with hg4_g21 | hg4_g21
    · have h := ifT h hg4_g21
      refine wc_st (fun _ h => h.shutS (rs (rs (rs r0)))) ?_
      obtain ⟨k4_p1, h⟩ := chk_some h
      refine dx_region 12 [[], [0], [0, 1], [0, 1, 2], [0, 1, 2], [0, 1, 2], [0, 1, 2, 5], [0, 1, 2, 5, 6], [0, 1, 2], [0, 1, 2, 4, 5, 6, 7, 8], [0, 1, 2, 3, 4, 5, 6, 7, 8, 9], [0, 1, 2, 3, 4, 5, 6, 7, 8, 9, 10], [0, 1, 2, 3, 4, 5, 6, 7, 8, 9, 10, 11]] mixed (ord := (.det 0 (.det 1 (.det 2 (.det 3 (.det 4 (.det 5 (.det 6 (.det 8 (.alt 7 (.det 9 (.alt 10 (.det 11 .done) .dead)) .dead)))))))))) (by kernel_rfl) ?_   -- region 4
      refine hx_det rfl rfl rfl nofun (det_move rfl) rfl ?_
      refine hx_det rfl rfl rfl nofun (det_eql rfl rfl) rfl ?_
      refine hx_det rfl rfl rfl nofun (det_move rfl) rfl ?_
      refine hx_on rfl rfl rfl rfl rfl hg4_g21 nofun (det_loadN (cells := [_, _, _, _, _, _, _, _]) rfl m0 (by rfl) ag32 sz32) rfl ?_
      refine hx_on rfl rfl rfl rfl rfl hg4_g21 nofun (det_build (cs := [_, _]) pl30 zr30 rfl rfl (by rfl)) rfl ?_
      refine hx_on rfl rfl rfl rfl rfl hg4_g21 nofun (det_field rfl fd25_1 rfl) rfl ?_
      refine hx_on rfl rfl rfl rfl rfl hg4_g21 nofun (det_load rfl (ms (ms m0)) (by rfl) na23 us23) rfl ?_
      refine hx_on rfl rfl rfl rfl rfl hg4_g21 nofun (det_build (cs := [_, _]) pl30 zr30 rfl rfl (by rfl)) rfl ?_
      refine hx_actG rfl rfl rfl rfl rfl hg4_g21 (act_sliceL rfl rfl m0 un23 sz48 rfl rfl k4_p1) rfl (by rintro _ _ _ ⟨A4_7, c4_7, rfl, rfl, rfl⟩; first | exact ⟨_ :: [], [], rfl, rfl⟩ | exact ⟨[], [_], rfl, rfl⟩ | exact ⟨[], [], rfl, rfl⟩) ?_
      rintro _ _ _ ⟨A4_7, c4_7, rfl, rfl, rfl⟩
      refine hx_on rfl rfl rfl rfl rfl hg4_g21 nofun (det_build (cs := [_, _, _, _, _, _, _, _]) pl32 zr32 rfl rfl (by rfl)) rfl ?_
      obtain ⟨r4_10, hr4_10, h⟩ := bind_some h
      refine hx_actG rfl rfl rfl rfl rfl hg4_g21 (act_callL (cap := []) [eS lGPosting 48 y3_1A0 r3_1.1.Postings.length y3_1c0 r3_1.1.Postings] (W_treatyref33_SameStatement r3_1.1 (GStatement.mk 5 2 1 (GBalance.mk 100 0) ([(GPosting.mk 1 0 (GEntry.mk 1 5 2 7 100)), (GPosting.mk 2 1 (GEntry.mk 1 5 2 7 (-20)))].drop (1 : Int).toNat) (GBalance.mk 80 0)) y3_1A0 r3_1.1.Postings.length y3_1c0 A4_7 ([(GPosting.mk 1 0 (GEntry.mk 1 5 2 7 100)), (GPosting.mk 2 1 (GEntry.mk 1 5 2 7 (-20)))].drop (1 : Int).toNat).length c4_7 r4_10 hr4_10) plains_treatyref33_SameStatement rfl rfl rfl bd12 rfl ⟨(ms m0), trivial⟩ ⟨.inr ⟨_, m0, lent_eS⟩, ⟨.inl m0, trivial⟩⟩) rfl (by rintro _ _ _ ⟨_, _, _, rfl, rfl⟩; first | exact ⟨_, _, rfl, rfl⟩ | exact ⟨_, [], rfl, rfl⟩) ?_
      rintro _ _ _ ⟨_, _, ⟨rfl, rfl, rfl⟩, rfl, rfl⟩
      dsimp only [List.nil_append, List.cons_append]
      refine hx_det rfl rfl rfl nofun (det_pick_on rfl hg4_g21 rfl rfl) rfl ?_
      refine hx_end ?_
      refine wl_det rfl rfl (det_assign rfl) rfl ?_
      refine wl_nil ?_
      replace h := Option.some.inj h
      subst h
      exact pn_meetG (r4_10, ()) rfl ⟨rfl, trivial⟩ (fun _ h => h.to trivial trivial)
    · have h := ifF h hg4_g21
      refine dx_region 12 [[], [0], [0, 1], [0, 1, 2], [0, 1, 2], [0, 1, 2], [0, 1, 2, 5], [0, 1, 2, 5, 6], [0, 1, 2], [0, 1, 2, 4, 5, 6, 7, 8], [0, 1, 2, 3, 4, 5, 6, 7, 8, 9], [0, 1, 2, 3, 4, 5, 6, 7, 8, 9, 10], [0, 1, 2, 3, 4, 5, 6, 7, 8, 9, 10, 11]] mixed (ord := (.det 0 (.det 1 (.det 2 (.det 3 (.det 4 (.det 5 (.det 6 (.det 7 (.det 8 (.det 9 (.det 10 (.det 11 .done))))))))))))) (by kernel_rfl) ?_   -- region 4
      refine hx_det rfl rfl rfl nofun (det_move rfl) rfl ?_
      refine hx_det rfl rfl rfl nofun (det_eql rfl rfl) rfl ?_
      refine hx_det rfl rfl rfl nofun (det_move rfl) rfl ?_
      refine hx_off rfl rfl rfl rfl rfl hg4_g21 rfl ?_
      refine hx_off rfl rfl rfl rfl rfl hg4_g21 rfl ?_
      refine hx_off rfl rfl rfl rfl rfl hg4_g21 rfl ?_
      refine hx_off rfl rfl rfl rfl rfl hg4_g21 rfl ?_
      refine hx_off rfl rfl rfl rfl rfl hg4_g21 rfl ?_
      refine hx_off rfl rfl rfl rfl rfl hg4_g21 rfl ?_
      refine hx_off rfl rfl rfl rfl rfl hg4_g21 rfl ?_
      refine hx_off rfl rfl rfl rfl rfl hg4_g21 rfl ?_
      refine hx_det rfl rfl rfl nofun (det_pick_off rfl hg4_g21 rfl rfl) rfl ?_
      refine hx_end ?_
      refine wl_det rfl rfl (det_assign rfl) rfl ?_
      refine wl_nil ?_
      replace h := Option.some.inj h
      subst h
      exact pn_meetG (false, ()) rfl ⟨rfl, trivial⟩ (fun _ h => h.to trivial trivial)
  rintro ⟨s8, _⟩ e8
  dsimp only at e8 ⊢
  subst e8
  have h := ho8
  refine wc_ret ?_
  replace h := Option.some.inj h
  subst h
  refine pn_ret (vs := [_]) rfl ⟨rfl, trivial⟩ ⟨rfl, rfl, rfl⟩ (fun _ h => h.to trivial trivial)
def Q_treatylaw34_AccountStatement (r : Bool) : Value → List Ent → List Fact → Prop := fun v θ κ => v = .bool r ∧ θ = [] ∧ κ = []
theorem plains_treatylaw34_AccountStatement {r : Bool} : ∀ v θ κ, Q_treatylaw34_AccountStatement r v θ κ → Plains θ := by
  rintro _ _ _ ⟨rfl, rfl, rfl⟩
  exact trivial
set_option maxHeartbeats 4000000 in
set_option maxRecDepth 100000 in
theorem W_treatylaw34_AccountStatement (a0 : (List Int)) (a1 : Int) (a2 : Int) (a3 : Int) (a4 : Int) (a5 : Int) (A0 : Option Addr) (n0 : Nat) (c0 : Nat) (r : Bool) (h : treatylaw34_AccountStatement a0 a1 a2 a3 a4 a5 = some r) : Spec Try.prog 3 [.slice A0 n0 c0, .int .i64 a1, .int .i64 a2, .int .i64 a3, .int .i64 a4, .int .i64 a5] [] [fV (lSlice (lInt .i64)) (.slice A0 n0 c0) a0] (Q_treatylaw34_AccountStatement r) := by
  unfold treatylaw34_AccountStatement at h
  refine spec_of (σ := [(0, _), (1, _), (2, _), (3, _), (4, _), (5, _)]) Try.func3 rfl rfl rfl rfl ?_
  intro C
  refine wc_know (fun _ h => h.lenF m0) (fun e => ?_)
  subst e
  refine wc_seq ?_
  refine wc_region ?_   -- region 0
  refine wl_det rfl rfl (det_assign rfl) rfl ?_
  refine wl_nil ?_
  refine pn_then ?_
  refine wc_seq ?_
  refine wc_region ?_   -- region 1
  refine wl_det rfl rfl (det_move rfl) rfl ?_
  refine wl_det rfl rfl (det_move rfl) rfl ?_
  refine wl_det rfl rfl (det_move rfl) rfl ?_
  obtain ⟨r1_3, hr1_3, h⟩ := bind_some h
  refine wl_act (act_callS (cap := []) (W_treatylaw34_few a0 a1 a2 A0 a0.length c0 r1_3 hr1_3) rfl rfl rfl bd9 rfl ⟨m0, trivial⟩) rfl rfl rfl ?_
  rintro _ _ _ ⟨_, _, ⟨y1_3A0, y1_3n0, y1_3c0, y1_3A1, y1_3n1, y1_3c1, rfl, rfl, rfl⟩, rfl, rfl⟩
  dsimp only [List.nil_append, List.cons_append]
  refine wl_know (fun _ h => h.lenF m0) (fun e => ?_)
  subst e
  refine wl_know (fun _ h => h.lenO m0) (fun e => ?_)
  subst e
  refine wl_det rfl rfl (det_move rfl) rfl ?_
  refine wl_det rfl rfl (det_extract rfl rfl) rfl ?_
  refine wl_det rfl rfl (det_extract rfl rfl) rfl ?_
  refine wl_act (act_alloc (cs := [_, _]) zr25 rfl) rfl rfl rfl ?_
  rintro _ _ _ ⟨b1_7, rfl, rfl, rfl⟩
  refine wl_act (act_alloc (cs := [_, _]) zr25 rfl) rfl rfl rfl ?_
  rintro _ _ _ ⟨b1_8, rfl, rfl, rfl⟩
  refine wl_act0 (act_store (cells := [_, _]) (cs' := [_, _]) rfl rfl rfl (ss s0) (by rfl) (of_decide_eq_true rfl) sz25 ⟨rfl, rfl, trivial⟩) rfl rfl ?_
  rintro _ _ _ ⟨rfl, rfl⟩
  refine wl_act0 (act_store (cells := [_, _]) (cs' := [_, _]) rfl rfl rfl s0 (by rfl) (of_decide_eq_true rfl) sz25 ⟨rfl, rfl, trivial⟩) rfl rfl ?_
  rintro _ _ _ ⟨rfl, rfl⟩
  refine wl_nil ?_
  refine pn_then ?_
  obtain ⟨q4, h, ho4⟩ := bind_some h
  refine wc_meetG (G := Unit × Unit) (fun (s4, _) => (.inl s4) = q4) (fun (_, _) => []) (fun (_, _) => []) (fun (_, _) => []) ?_ ?_
  · refine wc_seq ?_
    refine wc_region ?_   -- region 2
    refine wl_det rfl rfl (det_loadN (cells := [_, _]) rfl (ms m0) (by rfl) ag25 sz25) rfl ?_
    refine wl_det rfl rfl (det_loadN (cells := [_, _]) rfl m0 (by rfl) ag25 sz25) rfl ?_
    refine wl_st (fun _ h => h.fact (f := fC lGLedger [.int .i64 r1_3.1.Closed, .slice y1_3A0 r1_3.1.Postings.length y1_3c0] r1_3.1) (mkGLedger ⟨h.facts _ m0, trivial⟩)) ?_
    refine wl_st (fun _ h => h.shutS (rs (rs r0))) ?_
    refine wl_st (fun _ h => h.fact (f := fC lGLedger [.int .i64 r1_3.2.Closed, .slice y1_3A1 r1_3.2.Postings.length y1_3c1] r1_3.2) (mkGLedger ⟨h.facts _ m0, trivial⟩)) ?_
    refine wl_act (act_litS lGLedger (vs := [_, _]) (cs := [_, _, _, _]) [r1_3.1, r1_3.2] un28 in25 rfl rfl rfl rfl rfl ⟨rfl, rfl, trivial⟩ (by rfl) rfl (fun _ h => by have q := (oneF h (ms (ms m0))).cat (oneF h m0); exact q)) rfl rfl rfl ?_
    rintro _ _ _ ⟨A2_2, rfl, rfl, rfl⟩
    refine wl_det rfl rfl (det_len rfl un28) rfl ?_
    refine wl_det rfl rfl (det_move rfl) rfl ?_
    refine wl_nil ?_
    refine pn_then ?_
    refine wc_block ?_
    refine wc_st (fun _ h => h.shutS r0) ?_
    obtain ⟨o8, h, ho8⟩ := bind_some h
    obtain ⟨k8, hk8⟩ := loopV_some.1 h
    refine wc_loop (G := Nat × Int × Unit) (fun g => IterN (treatylaw34_AccountStatement_l8 a3 a4 a5 r1_3) g.1 g.2.1 o8) (fun g => g.1) (fun (_, s8, _) => [(3, .int .i64 a3), (4, .int .i64 a4), (5, .int .i64 a5), (36, .slice A2_2 2 2), (37, .int .i64 (2 : Int)), (38, .int .i64 s8)]) (fun (_, _, _) => []) (fun (_, _, _) => [fV (lSlice lGLedger) (.slice A2_2 2 2) [r1_3.1, r1_3.2]]) (k8, 0, ()) hk8 ⟨rfl, rfl, rfl, rfl, rfl, rfl, trivial⟩ (fun _ h => h.to trivial ⟨m0, trivial⟩) ?_
    rintro ⟨k8, s8, _⟩ hI
    obtain ⟨k8, rfl, q8, h, g8⟩ := IterN.pos hI
    dsimp only at h ⊢
    unfold treatylaw34_AccountStatement_l8 at h
    refine wc_seq ?_
    refine wc_region ?_   -- region 3
    refine wl_det rfl rfl (det_lss rfl rfl) rfl ?_
    refine wl_nil ?_
    refine pn_then ?_
    refine wc_seq ?_
    refine wc_cond rfl (fun c12 => ?_) (fun c12 => ?_)
    · have h := ifT h c12
      refine wc_skip ?_
      refine pn_then ?_
      obtain ⟨q14, h, ho14⟩ := bind_some h
      refine wc_meetG (G := Unit × Unit) (fun (s14, _) => (.inl s14) = q14) (fun (_, _) => [(3, .int .i64 a3), (4, .int .i64 a4), (5, .int .i64 a5), (36, .slice A2_2 2 2), (37, .int .i64 (2 : Int)), (38, .int .i64 s8)]) (fun (_, _) => []) (fun (_, _) => [fV (lSlice lGLedger) (.slice A2_2 2 2) [r1_3.1, r1_3.2]]) ?_ ?_
      · refine wc_block ?_
        refine wc_seq ?_
        refine wc_region ?_   -- region 4
        obtain ⟨k4_0, h⟩ := chk_some h
        refine wl_ex (G := Option Addr × Nat) _ _ (fun _ => True) (fun _ h => openGLedger h m0 k4_0) ?_
        rintro ⟨A4_0, c4_0⟩ -
        dsimp only
        refine wl_det rfl rfl (det_indexP rfl rfl (ms (ms m0)) k4_0 m0 un28 sz25) rfl ?_
        refine wl_det rfl rfl (det_loadP (off := 0) rfl m0 (by rfl) (by rfl) (loaded_n (cells := [_, _]) ag25 sz25)) rfl ?_
        refine wl_act (act_alloc (cs := [_, _]) zr25 rfl) rfl rfl rfl ?_
        rintro _ _ _ ⟨b4_2, rfl, rfl, rfl⟩
        refine wl_act0 (act_store (cells := [_, _]) (cs' := [_, _]) rfl rfl rfl s0 (by rfl) (of_decide_eq_true rfl) sz25 ⟨rfl, rfl, trivial⟩) rfl rfl ?_
        rintro _ _ _ ⟨rfl, rfl⟩
        refine wl_nil ?_
        refine pn_then ?_
        refine wc_seq ?_
        refine wc_region ?_   -- region 5
        refine wl_det rfl rfl (det_move rfl) rfl ?_
        refine wl_det rfl rfl (det_move rfl) rfl ?_
        refine wl_det rfl rfl (det_band rfl rfl) rfl ?_
        refine wl_act (act_litS (lInt .i64) (vs := [_, _]) (cs := [_, _]) [a5, (bAnd .i64 a5 3)] un22 in3 rfl rfl rfl rfl rfl ⟨rfl, rfl, trivial⟩ (by rfl) rfl (litR_flat rfl)) rfl rfl rfl ?_
        rintro _ _ _ ⟨A5_3, rfl, rfl, rfl⟩
        refine wl_det rfl rfl (det_len rfl un22) rfl ?_
        refine wl_det rfl rfl (det_move rfl) rfl ?_
        refine wl_nil ?_
        refine pn_then ?_
        refine wc_block ?_
        obtain ⟨o21, h, ho21⟩ := bind_some h
        obtain ⟨k21, hk21⟩ := loopV_some.1 h
        refine wc_loop (G := Nat × Int × Unit) (fun g => IterN (treatylaw34_AccountStatement_l21 a3 a4 a5 r1_3 s8) g.1 g.2.1 o21) (fun g => g.1) (fun (_, s21, _) => [(3, .int .i64 a3), (4, .int .i64 a4), (5, .int .i64 a5), (16, .pointer (some ⟨b4_2, 0, none⟩)), (36, .slice A2_2 2 2), (37, .int .i64 (2 : Int)), (38, .int .i64 s8), (45, .slice A5_3 2 2), (46, .int .i64 (2 : Int)), (47, .int .i64 s21)]) (fun (_, _, _) => [eBlk b4_2 25 [.int .i64 (ix [r1_3.1, r1_3.2] s8).Closed, .slice A4_0 (ix [r1_3.1, r1_3.2] s8).Postings.length c4_0], eS (lInt .i64) 3 A5_3 2 2 [a5, (bAnd .i64 a5 3)]]) (fun (_, _, _) => [fV (lSlice lGPosting) (.slice A4_0 (ix [r1_3.1, r1_3.2] s8).Postings.length c4_0) (ix [r1_3.1, r1_3.2] s8).Postings, fV (lSlice lGLedger) (.slice A2_2 2 2) [r1_3.1, r1_3.2]]) (k21, 0, ()) hk21 ⟨rfl, rfl, rfl, rfl, rfl, rfl, rfl, rfl, rfl, rfl, trivial⟩ (fun _ h => h.to ⟨_, (rs r0), ⟨_, r0, trivial⟩⟩ ⟨(ms m0), ⟨(ms (ms m0)), trivial⟩⟩) ?_
        rintro ⟨k21, s21, _⟩ hI
        obtain ⟨k21, rfl, q21, h, g21⟩ := IterN.pos hI
        dsimp only at h ⊢
        unfold treatylaw34_AccountStatement_l21 at h
        refine wc_seq ?_
        refine wc_region ?_   -- region 6
        refine wl_det rfl rfl (det_lss rfl rfl) rfl ?_
        refine wl_nil ?_
        refine pn_then ?_
        refine wc_seq ?_
        refine wc_cond rfl (fun c25 => ?_) (fun c25 => ?_)
        · have h := ifT h c25
          refine wc_skip ?_
          refine pn_then ?_
          refine wc_seq ?_
          refine wc_block ?_
          refine wc_seq ?_
          refine wc_region ?_   -- region 7
          obtain ⟨k7_0, h⟩ := chk_some h
          refine wl_det rfl rfl (det_indexO rfl rfl (ms m0) k7_0 un22 sz3) rfl ?_
          refine wl_det rfl rfl (det_loadO (off := 0) rfl (ms m0) k7_0 (by rfl) (by rfl) (loaded_1 na3 us3)) rfl ?_
          refine wl_det rfl rfl (det_assign rfl) rfl ?_
          refine wl_nil ?_
          refine pn_then ?_
          refine wc_seq ?_
          refine wc_region ?_   -- region 8
          refine wl_det rfl rfl (det_loadN (cells := [_, _]) rfl m0 (by rfl) ag25 sz25) rfl ?_
          refine wl_det rfl rfl (det_move rfl) rfl ?_
          refine wl_det rfl rfl (det_band rfl rfl) rfl ?_
          refine wl_det rfl rfl (det_move rfl) rfl ?_
          refine wl_det rfl rfl (det_band rfl rfl) rfl ?_
          refine wl_det rfl rfl (det_move rfl) rfl ?_
          obtain ⟨r8_6, hr8_6, h⟩ := bind_some h
          refine wl_act (act_callS (cap := []) (W_account_Statement (ix [r1_3.1, r1_3.2] s8) (bAnd .i64 a3 3) (bAnd .i64 a4 3) (ix [a5, (bAnd .i64 a5 3)] s21) A4_0 (ix [r1_3.1, r1_3.2] s8).Postings.length c4_0 r8_6 hr8_6) rfl rfl rfl bd10 rfl ⟨m0, trivial⟩) rfl rfl rfl ?_
          rintro _ _ _ ⟨_, _, ⟨y8_6A0, y8_6n0, y8_6c0, rfl, rfl, rfl⟩, rfl, rfl⟩
          dsimp only [List.nil_append, List.cons_append]
          refine wl_know (fun _ h => h.lenO m0) (fun e => ?_)
          subst e
          refine wl_det rfl rfl (det_move rfl) rfl ?_
          refine wl_det rfl rfl (det_extract rfl rfl) rfl ?_
          refine wl_det rfl rfl (det_extract rfl rfl) rfl ?_
          refine wl_act (act_alloc (cs := [_, _, _, _, _, _, _, _]) zr32 rfl) rfl rfl rfl ?_
          rintro _ _ _ ⟨b8_10, rfl, rfl, rfl⟩
          refine wl_act0 (act_store (cells := [_, _, _, _, _, _, _, _]) (cs' := [_, _, _, _, _, _, _, _]) rfl rfl rfl s0 (by rfl) (of_decide_eq_true rfl) sz32 ⟨rfl, rfl, rfl, rfl, rfl, rfl, rfl, rfl, trivial⟩) rfl rfl ?_
          rintro _ _ _ ⟨rfl, rfl⟩
          refine wl_det rfl rfl (det_assign rfl) rfl ?_
          refine wl_nil ?_
          refine pn_then ?_
          refine wc_seq ?_
          refine wc_region ?_   -- region 9
          refine wl_det rfl rfl (det_loadN (cells := [_, _]) rfl (ms (ms m0)) (by rfl) ag25 sz25) rfl ?_
          refine wl_det rfl rfl (det_move rfl) rfl ?_
          refine wl_det rfl rfl (det_band rfl rfl) rfl ?_
          refine wl_det rfl rfl (det_move rfl) rfl ?_
          refine wl_det rfl rfl (det_band rfl rfl) rfl ?_
          refine wl_det rfl rfl (det_move rfl) rfl ?_
          obtain ⟨r9_6, hr9_6, h⟩ := bind_some h
          refine wl_act (act_callS (cap := []) (W_treatyref33_Statement (ix [r1_3.1, r1_3.2] s8) (bAnd .i64 a3 3) (bAnd .i64 a4 3) (ix [a5, (bAnd .i64 a5 3)] s21) A4_0 (ix [r1_3.1, r1_3.2] s8).Postings.length c4_0 r9_6 hr9_6) rfl rfl rfl bd11 rfl ⟨m0, trivial⟩) rfl rfl rfl ?_
          rintro _ _ _ ⟨_, _, ⟨y9_6A0, y9_6n0, y9_6c0, rfl, rfl, rfl⟩, rfl, rfl⟩
          dsimp only [List.nil_append, List.cons_append]
          refine wl_know (fun _ h => h.lenO m0) (fun e => ?_)
          subst e
          refine wl_det rfl rfl (det_move rfl) rfl ?_
          refine wl_det rfl rfl (det_extract rfl rfl) rfl ?_
          refine wl_det rfl rfl (det_extract rfl rfl) rfl ?_
          refine wl_act (act_alloc (cs := [_, _, _, _, _, _, _, _]) zr32 rfl) rfl rfl rfl ?_
          rintro _ _ _ ⟨b9_10, rfl, rfl, rfl⟩
          refine wl_act0 (act_store (cells := [_, _, _, _, _, _, _, _]) (cs' := [_, _, _, _, _, _, _, _]) rfl rfl rfl s0 (by rfl) (of_decide_eq_true rfl) sz32 ⟨rfl, rfl, rfl, rfl, rfl, rfl, rfl, rfl, trivial⟩) rfl rfl ?_
          rintro _ _ _ ⟨rfl, rfl⟩
          refine wl_det rfl rfl (det_assign rfl) rfl ?_
          refine wl_nil ?_
          refine pn_then ?_
          refine wc_seq ?_
          refine wc_region ?_   -- region 10
          refine wl_det rfl rfl (det_loadN (cells := [_, _]) rfl (ms (ms (ms (ms m0)))) (by rfl) ag25 sz25) rfl ?_
          refine wl_det rfl rfl (det_move rfl) rfl ?_
          refine wl_det rfl rfl (det_move rfl) rfl ?_
          refine wl_det rfl rfl (det_move rfl) rfl ?_
          obtain ⟨r10_4, hr10_4, h⟩ := bind_some h
          refine wl_act (act_callS (cap := []) (W_account_Statement (ix [r1_3.1, r1_3.2] s8) a3 a4 (ix [a5, (bAnd .i64 a5 3)] s21) A4_0 (ix [r1_3.1, r1_3.2] s8).Postings.length c4_0 r10_4 hr10_4) rfl rfl rfl bd10 rfl ⟨m0, trivial⟩) rfl rfl rfl ?_
          rintro _ _ _ ⟨_, _, ⟨y10_4A0, y10_4n0, y10_4c0, rfl, rfl, rfl⟩, rfl, rfl⟩
          dsimp only [List.nil_append, List.cons_append]
          refine wl_know (fun _ h => h.lenO m0) (fun e => ?_)
          subst e
          refine wl_det rfl rfl (det_move rfl) rfl ?_
          refine wl_det rfl rfl (det_extract rfl rfl) rfl ?_
          refine wl_det rfl rfl (det_extract rfl rfl) rfl ?_
          refine wl_act (act_alloc (cs := [_, _, _, _, _, _, _, _]) zr32 rfl) rfl rfl rfl ?_
          rintro _ _ _ ⟨b10_8, rfl, rfl, rfl⟩
          refine wl_act0 (act_store (cells := [_, _, _, _, _, _, _, _]) (cs' := [_, _, _, _, _, _, _, _]) rfl rfl rfl s0 (by rfl) (of_decide_eq_true rfl) sz32 ⟨rfl, rfl, rfl, rfl, rfl, rfl, rfl, rfl, trivial⟩) rfl rfl ?_
          rintro _ _ _ ⟨rfl, rfl⟩
          refine wl_det rfl rfl (det_assign rfl) rfl ?_
          refine wl_nil ?_
          refine pn_then ?_
          refine wc_seq ?_
          refine wc_region ?_   -- region 11
          refine wl_det rfl rfl (det_loadN (cells := [_, _]) rfl (ms (ms (ms (ms (ms (ms m0)))))) (by rfl) ag25 sz25) rfl ?_
          refine wl_det rfl rfl (det_move rfl) rfl ?_
          refine wl_det rfl rfl (det_move rfl) rfl ?_
          refine wl_det rfl rfl (det_move rfl) rfl ?_
          obtain ⟨r11_4, hr11_4, h⟩ := bind_some h
          refine wl_act (act_callS (cap := []) (W_treatyref33_Statement (ix [r1_3.1, r1_3.2] s8) a3 a4 (ix [a5, (bAnd .i64 a5 3)] s21) A4_0 (ix [r1_3.1, r1_3.2] s8).Postings.length c4_0 r11_4 hr11_4) rfl rfl rfl bd11 rfl ⟨m0, trivial⟩) rfl rfl rfl ?_
          rintro _ _ _ ⟨_, _, ⟨y11_4A0, y11_4n0, y11_4c0, rfl, rfl, rfl⟩, rfl, rfl⟩
          dsimp only [List.nil_append, List.cons_append]
          refine wl_know (fun _ h => h.lenO m0) (fun e => ?_)
          subst e
          refine wl_det rfl rfl (det_move rfl) rfl ?_
          refine wl_det rfl rfl (det_extract rfl rfl) rfl ?_
          refine wl_det rfl rfl (det_extract rfl rfl) rfl ?_
          refine wl_act (act_alloc (cs := [_, _, _, _, _, _, _, _]) zr32 rfl) rfl rfl rfl ?_
          rintro _ _ _ ⟨b11_8, rfl, rfl, rfl⟩
          refine wl_act0 (act_store (cells := [_, _, _, _, _, _, _, _]) (cs' := [_, _, _, _, _, _, _, _]) rfl rfl rfl s0 (by rfl) (of_decide_eq_true rfl) sz32 ⟨rfl, rfl, rfl, rfl, rfl, rfl, rfl, rfl, trivial⟩) rfl rfl ?_
          rintro _ _ _ ⟨rfl, rfl⟩
          refine wl_det rfl rfl (det_assign rfl) rfl ?_
          refine wl_nil ?_
          refine pn_then ?_
          refine wc_seq ?_
          refine wc_region ?_   -- region 12
          refine wl_det rfl rfl (det_loadN (cells := [_, _, _, _, _, _, _, _]) rfl (ms (ms (ms (ms (ms (ms m0)))))) (by rfl) ag32 sz32) rfl ?_
          refine wl_det rfl rfl (det_loadN (cells := [_, _, _, _, _, _, _, _]) rfl (ms (ms (ms (ms m0)))) (by rfl) ag32 sz32) rfl ?_
          obtain ⟨r12_2, hr12_2, h⟩ := bind_some h
          refine wl_act (act_callL (cap := []) [eS lGPosting 48 y8_6A0 r8_6.1.Postings.length y8_6c0 r8_6.1.Postings, eS lGPosting 48 y9_6A0 r9_6.1.Postings.length y9_6c0 r9_6.1.Postings] (W_treatyref33_SameStatement r8_6.1 r9_6.1 y8_6A0 r8_6.1.Postings.length y8_6c0 y9_6A0 r9_6.1.Postings.length y9_6c0 r12_2 hr12_2) plains_treatyref33_SameStatement rfl rfl rfl bd12 rfl ⟨(ms (ms (ms (ms (ms (ms (ms m0))))))), ⟨(ms (ms (ms (ms (ms m0))))), trivial⟩⟩ ⟨.inr ⟨_, m0, lent_eS⟩, ⟨.inr ⟨_, (ms m0), lent_eS⟩, trivial⟩⟩) rfl rfl rfl ?_
          rintro _ _ _ ⟨_, _, ⟨rfl, rfl, rfl⟩, rfl, rfl⟩
          dsimp only [List.nil_append, List.cons_append]
          refine wl_det rfl rfl (det_not rfl) rfl ?_
          refine wl_det rfl rfl (det_move rfl) rfl ?_
          refine wl_way (!r12_2) ((!r12_2) || (!decide (r8_6.2 = r9_6.2))) 4 95 (fun hg => ?_) (fun hg => ?_) ?_
          · have hg12_8 := hg
            refine wl_off rfl rfl rfl rfl rfl hg12_8 rfl ?_
            refine wl_off rfl rfl rfl rfl rfl hg12_8 rfl ?_
            refine wl_off rfl rfl rfl rfl rfl hg12_8 rfl ?_
            refine wl_det rfl rfl (det_or_on (r := (!decide (r8_6.2 = r9_6.2))) rfl rfl rfl hg12_8) rfl ?_
            exact wl_nil (pn_qnE (ext_cons rfl (ext_skip rfl (ext_skip rfl (ext_skip rfl (ext_skip rfl ext_refl))))) (fun _ h => h))
          · have hg12_8a := hg
            refine wl_on rfl rfl rfl rfl hg12_8a ?_
            refine wl_det rfl rfl (det_move rfl) rfl ?_
            refine wl_on rfl rfl rfl rfl hg12_8a ?_
            refine wl_det rfl rfl (det_move rfl) rfl ?_
            refine wl_on rfl rfl rfl rfl hg12_8a ?_
            refine wl_det rfl rfl (det_neq rfl rfl) rfl ?_
            refine wl_det rfl rfl (det_or_off rfl rfl rfl hg12_8a) rfl ?_
            exact wl_nil (pn_qnE (ext_cons rfl (ext_skip rfl (ext_skip rfl (ext_skip rfl (ext_skip rfl ext_refl))))) (fun _ h => h))
          refine wl_det rfl rfl (det_move rfl) rfl ?_
          obtain ⟨q12_14, hq12_14, h⟩ := bind_some h
          have ho12_14 := h
          refine wl_way ((!r12_2) || (!decide (r8_6.2 = r9_6.2))) q12_14 5 101 (fun hg => ?_) (fun hg => ?_) ?_
          · have hg12_14 := hg
            have h := ifT hq12_14 hg
            refine wl_off rfl rfl rfl rfl rfl hg12_14 rfl ?_
            refine wl_off rfl rfl rfl rfl rfl hg12_14 rfl ?_
            refine wl_off rfl rfl rfl rfl rfl hg12_14 rfl ?_
            refine wl_off rfl rfl rfl rfl rfl hg12_14 rfl ?_
            replace h := Option.some.inj h
            subst h
            refine wl_det rfl rfl (det_pick_on rfl hg12_14 rfl rfl) rfl ?_
            exact wl_nil (pn_qnE (ext_cons rfl (ext_skip rfl (ext_skip rfl (ext_skip rfl (ext_skip rfl (ext_skip rfl ext_refl)))))) (fun _ h => h))
          · have hg12_14a := hg
            have h := ifF hq12_14 hg
            refine wl_on rfl rfl rfl rfl hg12_14a ?_
            refine wl_det rfl rfl (det_loadN (cells := [_, _, _, _, _, _, _, _]) rfl (ms (ms m0)) (by rfl) ag32 sz32) rfl ?_
            refine wl_on rfl rfl rfl rfl hg12_14a ?_
            refine wl_det rfl rfl (det_loadN (cells := [_, _, _, _, _, _, _, _]) rfl m0 (by rfl) ag32 sz32) rfl ?_
            refine wl_on rfl rfl rfl rfl hg12_14a ?_
            obtain ⟨r12_12, hr12_12, h⟩ := bind_some h
            refine wl_act (act_callL (cap := []) [eS lGPosting 48 y10_4A0 r10_4.1.Postings.length y10_4c0 r10_4.1.Postings, eS lGPosting 48 y11_4A0 r11_4.1.Postings.length y11_4c0 r11_4.1.Postings] (W_treatyref33_SameStatement r10_4.1 r11_4.1 y10_4A0 r10_4.1.Postings.length y10_4c0 y11_4A0 r11_4.1.Postings.length y11_4c0 r12_12 hr12_12) plains_treatyref33_SameStatement rfl rfl rfl bd12 rfl ⟨(ms (ms (ms m0))), ⟨(ms m0), trivial⟩⟩ ⟨.inr ⟨_, m0, lent_eS⟩, ⟨.inr ⟨_, (ms m0), lent_eS⟩, trivial⟩⟩) rfl rfl rfl ?_
            rintro _ _ _ ⟨_, _, ⟨rfl, rfl, rfl⟩, rfl, rfl⟩
            dsimp only [List.nil_append, List.cons_append]
            refine wl_on rfl rfl rfl rfl hg12_14a ?_
            refine wl_det rfl rfl (det_not rfl) rfl ?_
            replace h := Option.some.inj h
            subst h
            refine wl_det rfl rfl (det_pick_off rfl hg12_14a rfl rfl) rfl ?_
            exact wl_nil (pn_qnE (ext_cons rfl (ext_skip rfl (ext_skip rfl (ext_skip rfl (ext_skip rfl (ext_skip rfl ext_refl)))))) (fun _ h => h))
          have h := ho12_14
          refine wl_det rfl rfl (det_move rfl) rfl ?_
          refine wl_way q12_14 (q12_14 || (!decide (r10_4.2 = r11_4.2))) 4 106 (fun hg => ?_) (fun hg => ?_) ?_
          · have hg12_19 := hg
            refine wl_off rfl rfl rfl rfl rfl hg12_19 rfl ?_
            refine wl_off rfl rfl rfl rfl rfl hg12_19 rfl ?_
            refine wl_off rfl rfl rfl rfl rfl hg12_19 rfl ?_
            refine wl_det rfl rfl (det_or_on (r := (!decide (r10_4.2 = r11_4.2))) rfl rfl rfl hg12_19) rfl ?_
            exact wl_nil (pn_qnE (ext_cons rfl (ext_skip rfl (ext_skip rfl (ext_skip rfl (ext_skip rfl ext_refl))))) (fun _ h => h))
          · have hg12_19a := hg
            refine wl_on rfl rfl rfl rfl hg12_19a ?_
            refine wl_det rfl rfl (det_move rfl) rfl ?_
            refine wl_on rfl rfl rfl rfl hg12_19a ?_
            refine wl_det rfl rfl (det_move rfl) rfl ?_
            refine wl_on rfl rfl rfl rfl hg12_19a ?_
            refine wl_det rfl rfl (det_neq rfl rfl) rfl ?_
            refine wl_det rfl rfl (det_or_off rfl rfl rfl hg12_19a) rfl ?_
            exact wl_nil (pn_qnE (ext_cons rfl (ext_skip rfl (ext_skip rfl (ext_skip rfl (ext_skip rfl ext_refl))))) (fun _ h => h))
          refine wl_nil ?_
          refine pn_then ?_
          refine wc_cond rfl (fun c41 => ?_) (fun c41 => ?_)
          · have h := ifT h c41
            refine wc_seq ?_
            refine wc_region ?_   -- region 13
            refine wl_det rfl rfl (det_assign rfl) rfl ?_
            refine wl_nil ?_
            refine pn_then ?_
            refine wc_ret ?_
            refine pr_block ?_
            refine pr_then ?_
            refine pr_then ?_
            refine pr_block ?_
            refine pr_block ?_
            refine pr_then ?_
            refine pr_then ?_
            refine pr_block ?_
            refine pr_then ?_
            replace h := Option.some.inj h
            subst h
            replace g21 := nextR g21
            subst g21
            have h := (elimL ho21)
            replace h := Option.some.inj h
            subst h
            have h := (elimR ho14)
            replace h := Option.some.inj h
            subst h
            replace g8 := nextR g8
            subst g8
            have h := (elimL ho8)
            replace h := Option.some.inj h
            subst h
            have h := (elimR ho4)
            replace h := Option.some.inj h
            subst h
            refine pn_ret (vs := [_]) rfl ⟨rfl, trivial⟩ ⟨rfl, rfl, rfl⟩ (fun _ h => h.to trivial trivial)
          · have h := ifF h c41
            refine wc_skip ?_
            refine pn_block ?_
            refine pn_then ?_
            refine wc_region ?_   -- region 14
            refine wl_det rfl rfl (det_add rfl rfl) rfl ?_
            refine wl_det rfl rfl (det_move rfl) rfl ?_
            refine wl_nil ?_
            replace h := Option.some.inj h
            subst h
            exact pn_some (k21, (w64 (s21 + 1)), ()) ⟨nextL g21, Nat.lt_succ_self _⟩ ⟨rfl, rfl, rfl, rfl, rfl, rfl, rfl, rfl, rfl, rfl, trivial⟩ (fun _ h => h.to ⟨_, (rs (rs (rs (rs (rs (rs (rs (rs r0)))))))), ⟨_, (rs (rs (rs (rs (rs (rs (rs (rs r0)))))))), trivial⟩⟩ ⟨m0, ⟨(ms m0), trivial⟩⟩)
        · have h := ifF h c25
          refine wc_exit ?_
          refine px_then ?_
          refine px_then ?_
          refine px_block ?_
          refine pn_block ?_
          replace h := Option.some.inj h
          subst h
          replace g21 := nextR g21
          subst g21
          have h := (elimR ho21)
          replace h := Option.some.inj h
          subst h
          exact pn_meetG ((), ()) rfl ⟨rfl, rfl, rfl, rfl, rfl, rfl, trivial⟩ (fun _ h => h.to trivial ⟨(ms m0), trivial⟩)
      rintro ⟨s14, _⟩ e14
      dsimp only at e14 ⊢
      subst e14
      have h := (elimL ho14)
      refine wc_region ?_   -- region 15
      refine wl_det rfl rfl (det_add rfl rfl) rfl ?_
      refine wl_det rfl rfl (det_move rfl) rfl ?_
      refine wl_nil ?_
      replace h := Option.some.inj h
      subst h
      exact pn_some (k8, (w64 (s8 + 1)), ()) ⟨nextL g8, Nat.lt_succ_self _⟩ ⟨rfl, rfl, rfl, rfl, rfl, rfl, trivial⟩ (fun _ h => h.to trivial ⟨m0, trivial⟩)
    · have h := ifF h c12
      refine wc_exit ?_
      refine px_then ?_
      refine px_then ?_
      refine px_block ?_
      replace h := Option.some.inj h
      subst h
      replace g8 := nextR g8
      subst g8
      have h := (elimR ho8)
      replace h := Option.some.inj h
      subst h
      exact pn_meetG ((), ()) rfl trivial (fun _ h => h.to trivial trivial)
  rintro ⟨s4, _⟩ e4
  dsimp only at e4 ⊢
  subst e4
  have h := (elimL ho4)
  refine wc_seq ?_
  refine wc_region ?_   -- region 16
  obtain ⟨r16_0, hr16_0, h⟩ := bind_some h
  refine wl_act (act_callS (cap := []) (W_treatylaw34_awake r16_0 hr16_0) rfl rfl rfl bd13 rfl trivial) rfl rfl rfl ?_
  rintro _ _ _ ⟨_, _, ⟨rfl, rfl, rfl⟩, rfl, rfl⟩
  dsimp only [List.nil_append, List.cons_append]
  refine wl_det rfl rfl (det_assign rfl) rfl ?_
  refine wl_nil ?_
  refine pn_then ?_
  refine wc_ret ?_
  replace h := Option.some.inj h
  subst h
  refine pn_ret (vs := [_]) rfl ⟨rfl, trivial⟩ ⟨rfl, rfl, rfl⟩ (fun _ h => h.to trivial trivial)
end Go.Proofs.Ytipblbjkbeiflaa
