/- That functions of the program compute the plain programs of P. Written by a small program. -/
import Derived.Test.YtdenliplkmjmjaaWCommuteLater2
namespace Go.Proofs.Ytdenliplkmjmjaa
open Go.RowKit
def Q_ledger_Restate (r : GLedger × (List GPosting) × Int) : Value → List Ent → List Fact → Prop := fun v θ κ => ∃ (pA0 : Option Addr), ∃ (pn0 : Nat), ∃ (pc0 : Nat), ∃ (pA1 : Option Addr), ∃ (pn1 : Nat), ∃ (pc1 : Nat), v = .tuple #[.agg #[.int .i64 r.1.Closed, .slice pA0 pn0 pc0], .slice pA1 pn1 pc1, .int .i64 r.2.2] ∧ θ = [eS lGPosting 61 pA1 pn1 pc1 r.2.1] ∧ κ = [fV (lSlice lGPosting) (.slice pA0 pn0 pc0) r.1.Postings]
set_option maxHeartbeats 4000000 in
set_option maxRecDepth 100000 in
theorem W_ledger_Restate (a0 : GLedger) (a1 : (List GEntry)) (A0 : Option Addr) (n0 : Nat) (c0 : Nat) (A3 : Option Addr) (n3 : Nat) (c3 : Nat) (r : GLedger × (List GPosting) × Int) (h : ledger_Restate a0 a1 = some r) : Spec Try.prog 15 [.agg #[.int .i64 a0.Closed, .slice A0 n0 c0], .slice A3 n3 c3] [] [fV (lSlice lGPosting) (.slice A0 n0 c0) a0.Postings, fV (lSlice lGEntry) (.slice A3 n3 c3) a1] (Q_ledger_Restate r) := by
  unfold ledger_Restate at h
  refine spec_of (σ := [(0, _), (1, _)]) Try.func15 rfl rfl rfl rfl ?_
  intro C
  refine wc_know (fun _ h => h.lenF m0) (fun e => ?_)
  subst e
  refine wc_know (fun _ h => h.lenF (ms m0)) (fun e => ?_)
  subst e
  refine wc_seq ?_
  refine wc_region ?_   -- region 0
  refine wl_act (act_box (cs := [_, _]) rfl rfl) rfl rfl rfl ?_
  rintro _ _ _ ⟨b0_0, rfl, rfl, rfl⟩
  refine wl_act (act_alloc (cs := [_, _]) zr25 rfl) rfl rfl rfl ?_
  rintro _ _ _ ⟨b0_1, rfl, rfl, rfl⟩
  refine wl_det rfl rfl (det_assign rfl) rfl ?_
  refine wl_det rfl rfl (det_assign rfl) rfl ?_
  refine wl_nil ?_
  refine pn_then ?_
  refine wc_seq ?_
  refine wc_seq ?_
  refine wc_region ?_   -- region 1
  refine wl_det rfl rfl (det_loadN (cells := [_, _]) rfl (ms m0) (by rfl) ag25 sz25) rfl ?_
  obtain ⟨r1_1, hr1_1, h⟩ := bind_some h
  refine wl_act (act_callS (cap := []) (W_ledger_Validate a0 A0 a0.Postings.length c0 r1_1 hr1_1) rfl rfl rfl bd21 rfl ⟨m0, trivial⟩) rfl rfl rfl ?_
  rintro _ _ _ ⟨_, _, ⟨rfl, rfl, rfl⟩, rfl, rfl⟩
  dsimp only [List.nil_append, List.cons_append]
  refine wl_det rfl rfl (det_assign rfl) rfl ?_
  refine wl_nil ?_
  refine pn_then ?_
  refine wc_seq ?_
  refine wc_region ?_   -- region 2
  refine wl_det rfl rfl (det_move rfl) rfl ?_
  refine wl_det rfl rfl (det_neq rfl rfl) rfl ?_
  refine wl_nil ?_
  refine pn_then ?_
  refine wc_cond rfl (fun cd7 => ?_) (fun cd7 => ?_)
  · have h := ifT h cd7
    refine wc_seq ?_
    refine wc_region ?_   -- region 3
    refine wl_det rfl rfl (det_build (cs := [_, _]) pl25 zr25 rfl rfl (by rfl)) rfl ?_
    refine wl_det rfl rfl (det_move rfl) rfl ?_
    refine wl_act0 (act_store (cells := [_, _]) (cs' := [_, _]) rfl rfl rfl s0 (by rfl) (of_decide_eq_true rfl) sz25 ⟨rfl, rfl, trivial⟩) rfl rfl ?_
    rintro _ _ _ ⟨rfl, rfl⟩
    refine wl_det rfl rfl (det_assign rfl) rfl ?_
    refine wl_det rfl rfl (det_assign rfl) rfl ?_
    refine wl_nil ?_
    refine pn_then ?_
    refine wc_ret ?_
    refine pr_then ?_
    refine pn_st (fun _ h => h.zeroF lGPosting none 0) ?_
    refine pn_st (fun _ h => h.zeroS lGPosting 61 none) ?_
    replace h := Option.some.inj h
    subst h
    refine pn_ret (vs := [_, _, _]) rfl ⟨⟨_, _, [_, _], rfl, (ms m0), .inl ⟨ag25, sz25, rfl⟩⟩, rfl, rfl, trivial⟩ ⟨none, 0, 0, none, 0, 0, rfl, rfl, rfl⟩ (fun _ h => h.to ⟨_, r0, trivial⟩ ⟨m0, trivial⟩)
  · have h := ifF h cd7
    refine wc_skip ?_
    refine pn_then ?_
    refine wc_seq ?_
    refine wc_region ?_   -- region 4
    refine wl_det rfl rfl (det_move rfl) rfl ?_
    obtain ⟨r4_1, hr4_1, h⟩ := bind_some h
    refine wl_act (act_callS (cap := []) (W_ledger_Collect a1 A3 a1.length c3 r4_1 hr4_1) rfl rfl rfl bd22 rfl ⟨(ms m0), trivial⟩) rfl rfl rfl ?_
    rintro _ _ _ ⟨_, _, ⟨y4_1A0, y4_1n0, y4_1c0, rfl, rfl, rfl⟩, rfl, rfl⟩
    dsimp only [List.nil_append, List.cons_append]
    refine wl_know (fun _ h => h.lenO m0) (fun e => ?_)
    subst e
    refine wl_det rfl rfl (det_move rfl) rfl ?_
    refine wl_det rfl rfl (det_extract rfl rfl) rfl ?_
    refine wl_det rfl rfl (det_extract rfl rfl) rfl ?_
    refine wl_det rfl rfl (det_assign rfl) rfl ?_
    refine wl_det rfl rfl (det_assign rfl) rfl ?_
    refine wl_nil ?_
    refine pn_then ?_
    refine wc_seq ?_
    refine wc_seq ?_
    refine wc_region ?_   -- region 5
    refine wl_det rfl rfl (det_move rfl) rfl ?_
    refine wl_det rfl rfl (det_neq rfl rfl) rfl ?_
    refine wl_nil ?_
    refine pn_then ?_
    refine wc_cond rfl (fun cd15 => ?_) (fun cd15 => ?_)
    · have h := ifT h cd15
      refine wc_seq ?_
      refine wc_region ?_   -- region 6
      refine wl_det rfl rfl (det_build (cs := [_, _]) pl25 zr25 rfl rfl (by rfl)) rfl ?_
      refine wl_det rfl rfl (det_move rfl) rfl ?_
      refine wl_act0 (act_store (cells := [_, _]) (cs' := [_, _]) rfl rfl rfl (ss s0) (by rfl) (of_decide_eq_true rfl) sz25 ⟨rfl, rfl, trivial⟩) rfl rfl ?_
      rintro _ _ _ ⟨rfl, rfl⟩
      refine wl_det rfl rfl (det_assign rfl) rfl ?_
      refine wl_det rfl rfl (det_assign rfl) rfl ?_
      refine wl_nil ?_
      refine pn_then ?_
      refine wc_ret ?_
      refine pr_then ?_
      refine pn_st (fun _ h => h.zeroF lGPosting none 0) ?_
      refine pn_st (fun _ h => h.zeroS lGPosting 61 none) ?_
      replace h := Option.some.inj h
      subst h
      refine pn_ret (vs := [_, _, _]) rfl ⟨⟨_, _, [_, _], rfl, (ms (ms m0)), .inl ⟨ag25, sz25, rfl⟩⟩, rfl, rfl, trivial⟩ ⟨none, 0, 0, none, 0, 0, rfl, rfl, rfl⟩ (fun _ h => h.to ⟨_, r0, trivial⟩ ⟨m0, trivial⟩)
    · have h := ifF h cd15
      refine wc_skip ?_
      refine pn_then ?_
      obtain ⟨q18, h, ho18⟩ := bind_some h
      refine wc_meetG (G := Unit × Unit) (fun (s18, _) => (.inl s18) = q18) (fun (_, _) => [(2, .pointer (some ⟨b0_0, 0, none⟩)), (4, .pointer (some ⟨b0_1, 0, none⟩)), (8, .slice y4_1A0 r4_1.1.length y4_1c0)]) (fun (_, _) => [eBlk b0_0 25 [.int .i64 a0.Closed, .slice A0 a0.Postings.length c0], eBlk b0_1 25 [.int .i64 0, .slice none 0 0], eS lGEntry 43 y4_1A0 r4_1.1.length y4_1c0 r4_1.1]) (fun (_, _) => [fV (lSlice lGPosting) (.slice A0 a0.Postings.length c0) a0.Postings]) ?_ ?_
      · refine wc_seq ?_
        refine wc_region ?_   -- region 7
        refine wl_det rfl rfl (det_move rfl) rfl ?_
        refine wl_det rfl rfl (det_len rfl un29) rfl ?_
        refine wl_det rfl rfl (det_move rfl) rfl ?_
        refine wl_nil ?_
        refine pn_then ?_
        refine wc_block ?_
        obtain ⟨o22, h, ho22⟩ := bind_some h
        obtain ⟨k22, hk22⟩ := loopV_some.1 h
        refine wc_loop (G := Nat × Int × Unit) (fun g => IterN (ledger_Restate_l22 a1) g.1 g.2.1 o22) (fun g => g.1) (fun (_, s22, _) => [(2, .pointer (some ⟨b0_0, 0, none⟩)), (4, .pointer (some ⟨b0_1, 0, none⟩)), (8, .slice y4_1A0 r4_1.1.length y4_1c0), (31, .slice A3 a1.length c3), (32, .int .i64 (a1.length : Int)), (33, .int .i64 s22)]) (fun (_, _, _) => [eBlk b0_0 25 [.int .i64 a0.Closed, .slice A0 a0.Postings.length c0], eBlk b0_1 25 [.int .i64 0, .slice none 0 0], eS lGEntry 43 y4_1A0 r4_1.1.length y4_1c0 r4_1.1]) (fun (_, _, _) => [fV (lSlice lGPosting) (.slice A0 a0.Postings.length c0) a0.Postings, fV (lSlice lGEntry) (.slice A3 a1.length c3) a1]) (k22, 0, ()) hk22 ⟨rfl, rfl, rfl, rfl, rfl, rfl, trivial⟩ (fun _ h => h.to ⟨_, (rs (rs r0)), ⟨_, (rs r0), ⟨_, r0, trivial⟩⟩⟩ ⟨m0, ⟨(ms m0), trivial⟩⟩) ?_
        rintro ⟨k22, s22, _⟩ hI
        obtain ⟨k22, rfl, q22, h, g22⟩ := IterN.pos hI
        dsimp only at h ⊢
        unfold ledger_Restate_l22 at h
        refine wc_seq ?_
        refine wc_region ?_   -- region 8
        refine wl_det rfl rfl (det_lss rfl rfl) rfl ?_
        refine wl_nil ?_
        refine pn_then ?_
        refine wc_seq ?_
        refine wc_cond rfl (fun cd26 => ?_) (fun cd26 => ?_)
        · have h := ifT h cd26
          refine wc_skip ?_
          refine pn_then ?_
          refine wc_seq ?_
          refine wc_block ?_
          refine wc_seq ?_
          refine wc_region ?_   -- region 9
          obtain ⟨k9_0, h⟩ := chk_some h
          refine wl_st (fun _ h => h.openF (ms m0) k9_0) ?_
          refine wl_det rfl rfl (det_indexP rfl rfl (ms (ms m0)) k9_0 m0 un29 sz43) rfl ?_
          refine wl_det rfl rfl (det_loadP (off := 0) rfl m0 (by rfl) (by rfl) (loaded_n (cells := [_, _, _, _, _]) ag43 sz43)) rfl ?_
          refine wl_act (act_alloc (cs := [_, _, _, _, _]) zr43 rfl) rfl rfl rfl ?_
          rintro _ _ _ ⟨b9_2, rfl, rfl, rfl⟩
          refine wl_act0 (act_store (cells := [_, _, _, _, _]) (cs' := [_, _, _, _, _]) rfl rfl rfl s0 (by rfl) (of_decide_eq_true rfl) sz43 ⟨rfl, rfl, rfl, rfl, rfl, trivial⟩) rfl rfl ?_
          rintro _ _ _ ⟨rfl, rfl⟩
          refine wl_nil ?_
          refine pn_then ?_
          refine wc_seq ?_
          refine wc_region ?_   -- region 10
          refine wl_det rfl rfl (det_loadN (cells := [_, _, _, _, _]) rfl m0 (by rfl) ag43 sz43) rfl ?_
          obtain ⟨r10_1, hr10_1, h⟩ := bind_some h
          refine wl_act (act_callS (cap := []) (W_ledger_restated (ix a1 s22) r10_1 hr10_1) rfl rfl rfl bd33 rfl trivial) rfl rfl rfl ?_
          rintro _ _ _ ⟨_, _, ⟨rfl, rfl, rfl⟩, rfl, rfl⟩
          dsimp only [List.nil_append, List.cons_append]
          refine wl_det rfl rfl (det_not rfl) rfl ?_
          refine wl_nil ?_
          refine pn_then ?_
          refine wc_cond rfl (fun cd34 => ?_) (fun cd34 => ?_)
          · have h := ifT h cd34
            refine wc_seq ?_
            refine wc_region ?_   -- region 11
            refine wl_det rfl rfl (det_build (cs := [_, _]) pl25 zr25 rfl rfl (by rfl)) rfl ?_
            refine wl_act0 (act_store (cells := [_, _]) (cs' := [_, _]) rfl rfl rfl (ss (ss s0)) (by rfl) (of_decide_eq_true rfl) sz25 ⟨rfl, rfl, trivial⟩) rfl rfl ?_
            rintro _ _ _ ⟨rfl, rfl⟩
            refine wl_det rfl rfl (det_assign rfl) rfl ?_
            refine wl_det rfl rfl (det_assign rfl) rfl ?_
            refine wl_nil ?_
            refine pn_then ?_
            refine wc_ret ?_
            refine pr_block ?_
            refine pr_then ?_
            refine pr_then ?_
            refine pr_block ?_
            refine pr_then ?_
            refine pn_st (fun _ h => h.zeroF lGPosting none 0) ?_
            refine pn_st (fun _ h => h.zeroS lGPosting 61 none) ?_
            replace h := Option.some.inj h
            subst h
            replace g22 := nextR g22
            subst g22
            have h := (elimL ho22)
            replace h := Option.some.inj h
            subst h
            have h := (elimR ho18)
            replace h := Option.some.inj h
            subst h
            refine pn_ret (vs := [_, _, _]) rfl ⟨⟨_, _, [_, _], rfl, (ms (ms (ms m0))), .inl ⟨ag25, sz25, rfl⟩⟩, rfl, rfl, trivial⟩ ⟨none, 0, 0, none, 0, 0, rfl, rfl, rfl⟩ (fun _ h => h.to ⟨_, r0, trivial⟩ ⟨m0, trivial⟩)
          · have h := ifF h cd34
            refine wc_skip ?_
            refine pn_block ?_
            refine pn_then ?_
            refine wc_region ?_   -- region 12
            refine wl_det rfl rfl (det_add rfl rfl) rfl ?_
            refine wl_det rfl rfl (det_move rfl) rfl ?_
            refine wl_nil ?_
            replace h := Option.some.inj h
            subst h
            exact pn_some (k22, (w64 (s22 + 1)), ()) ⟨nextL g22, Nat.lt_succ_self _⟩ ⟨rfl, rfl, rfl, rfl, rfl, rfl, trivial⟩ (fun _ h => h.to ⟨_, (rs r0), ⟨_, (rs r0), ⟨_, (rs r0), trivial⟩⟩⟩ ⟨(ms m0), ⟨(ms (ms m0)), trivial⟩⟩)
        · have h := ifF h cd26
          refine wc_exit ?_
          refine px_then ?_
          refine px_then ?_
          refine px_block ?_
          replace h := Option.some.inj h
          subst h
          replace g22 := nextR g22
          subst g22
          have h := (elimR ho22)
          replace h := Option.some.inj h
          subst h
          exact pn_meetG ((), ()) rfl ⟨rfl, rfl, rfl, trivial⟩ (fun _ h => h.to ⟨_, r0, ⟨_, r0, ⟨_, r0, trivial⟩⟩⟩ ⟨m0, trivial⟩)
      rintro ⟨s18, _⟩ e18
      dsimp only at e18 ⊢
      subst e18
      have h := (elimL ho18)
      refine wc_seq ?_
      refine wc_region ?_   -- region 13
      refine wl_det rfl rfl (det_loadN (cells := [_, _]) rfl m0 (by rfl) ag25 sz25) rfl ?_
      refine wl_det rfl rfl (det_field rfl fd25_0 rfl) rfl ?_
      refine wl_det rfl rfl (det_load rfl m0 (by rfl) na3 us3) rfl ?_
      refine wl_det rfl rfl (det_add rfl rfl) rfl ?_
      obtain ⟨r13_4, hr13_4, h⟩ := bind_some h
      refine wl_act (act_callS (cap := []) (W_ledger_Totals a0 (w64 (a0.Closed + 1)) A0 a0.Postings.length c0 r13_4 hr13_4) rfl rfl rfl bd14 rfl ⟨m0, trivial⟩) rfl rfl rfl ?_
      rintro _ _ _ ⟨_, _, ⟨y13_4A0, y13_4n0, y13_4c0, rfl, rfl, rfl⟩, rfl, rfl⟩
      dsimp only [List.nil_append, List.cons_append]
      refine wl_know (fun _ h => h.lenO m0) (fun e => ?_)
      subst e
      refine wl_det rfl rfl (det_move rfl) rfl ?_
      refine wl_det rfl rfl (det_extract rfl rfl) rfl ?_
      refine wl_det rfl rfl (det_extract rfl rfl) rfl ?_
      refine wl_det rfl rfl (det_assign rfl) rfl ?_
      refine wl_det rfl rfl (det_assign rfl) rfl ?_
      refine wl_nil ?_
      refine pn_then ?_
      refine wc_seq ?_
      refine wc_seq ?_
      refine wc_region ?_   -- region 14
      refine wl_det rfl rfl (det_move rfl) rfl ?_
      refine wl_det rfl rfl (det_neq rfl rfl) rfl ?_
      refine wl_nil ?_
      refine pn_then ?_
      refine wc_cond rfl (fun cd43 => ?_) (fun cd43 => ?_)
      · have h := ifT h cd43
        refine wc_seq ?_
        refine wc_region ?_   -- region 15
        refine wl_det rfl rfl (det_build (cs := [_, _]) pl25 zr25 rfl rfl (by rfl)) rfl ?_
        refine wl_det rfl rfl (det_move rfl) rfl ?_
        refine wl_act0 (act_store (cells := [_, _]) (cs' := [_, _]) rfl rfl rfl (ss (ss s0)) (by rfl) (of_decide_eq_true rfl) sz25 ⟨rfl, rfl, trivial⟩) rfl rfl ?_
        rintro _ _ _ ⟨rfl, rfl⟩
        refine wl_det rfl rfl (det_assign rfl) rfl ?_
        refine wl_det rfl rfl (det_assign rfl) rfl ?_
        refine wl_nil ?_
        refine pn_then ?_
        refine wc_ret ?_
        refine pr_then ?_
        refine pn_st (fun _ h => h.zeroF lGPosting none 0) ?_
        refine pn_st (fun _ h => h.zeroS lGPosting 61 none) ?_
        replace h := Option.some.inj h
        subst h
        refine pn_ret (vs := [_, _, _]) rfl ⟨⟨_, _, [_, _], rfl, (ms (ms (ms m0))), .inl ⟨ag25, sz25, rfl⟩⟩, rfl, rfl, trivial⟩ ⟨none, 0, 0, none, 0, 0, rfl, rfl, rfl⟩ (fun _ h => h.to ⟨_, r0, trivial⟩ ⟨m0, trivial⟩)
      · have h := ifF h cd43
        refine wc_skip ?_
        refine pn_then ?_
        obtain ⟨q46, h, ho46⟩ := bind_some h
        refine wc_meetG (G := (List GEntry) × Option Addr × Nat × Nat × Unit) (fun (s46, _, _, _, _) => s46 = q46) (fun (_, A46_0, n46_0, c46_0, _) => [(2, .pointer (some ⟨b0_0, 0, none⟩)), (4, .pointer (some ⟨b0_1, 0, none⟩)), (8, .slice A46_0 n46_0 c46_0)]) (fun (s46, A46_0, n46_0, c46_0, _) => [eBlk b0_0 25 [.int .i64 a0.Closed, .slice A0 a0.Postings.length c0], eBlk b0_1 25 [.int .i64 0, .slice none 0 0], eS lGEntry 43 A46_0 n46_0 c46_0 s46]) (fun (_, _, _, _, _) => [fV (lSlice lGPosting) (.slice A0 a0.Postings.length c0) a0.Postings]) ?_ ?_
        · refine wc_seq ?_
          refine wc_region ?_   -- region 16
          refine wl_det rfl rfl (det_move rfl) rfl ?_
          refine wl_det rfl rfl (det_len rfl un29) rfl ?_
          refine wl_det rfl rfl (det_move rfl) rfl ?_
          refine wl_nil ?_
          refine pn_then ?_
          refine wc_block ?_
          obtain ⟨k50, hk50⟩ := loopV_some.1 h
          refine wc_loop (G := Nat × ((List GEntry) × Int) × Option Addr × Nat × Nat × Unit) (fun g => IterN (ledger_Restate_l50 r13_4) g.1 g.2.1 q46) (fun g => g.1) (fun (_, s50, A50_0, n50_0, c50_0, _) => [(2, .pointer (some ⟨b0_0, 0, none⟩)), (4, .pointer (some ⟨b0_1, 0, none⟩)), (8, .slice A50_0 n50_0 c50_0), (54, .slice y13_4A0 r13_4.1.length y13_4c0), (55, .int .i64 (r13_4.1.length : Int)), (56, .int .i64 s50.2)]) (fun (_, s50, A50_0, n50_0, c50_0, _) => [eBlk b0_0 25 [.int .i64 a0.Closed, .slice A0 a0.Postings.length c0], eBlk b0_1 25 [.int .i64 0, .slice none 0 0], eS lGEntry 43 A50_0 n50_0 c50_0 s50.1, eS lGEntry 43 y13_4A0 r13_4.1.length y13_4c0 r13_4.1]) (fun (_, _, _, _, _, _) => [fV (lSlice lGPosting) (.slice A0 a0.Postings.length c0) a0.Postings]) (k50, (r4_1.1, 0), y4_1A0, r4_1.1.length, y4_1c0, ()) hk50 ⟨rfl, rfl, rfl, rfl, rfl, rfl, trivial⟩ (fun _ h => h.to ⟨_, (rs r0), ⟨_, (rs r0), ⟨_, (rs r0), ⟨_, r0, trivial⟩⟩⟩⟩ ⟨m0, trivial⟩) ?_
          rintro ⟨k50, s50, A50_0, n50_0, c50_0, _⟩ hI
          obtain ⟨k50, rfl, q50, h, g50⟩ := IterN.pos hI
          dsimp only at h ⊢
          unfold ledger_Restate_l50 at h
          refine wc_know (fun _ h => h.lenO (ms (ms m0))) (fun e => ?_)
          subst e
          refine wc_seq ?_
          refine wc_region ?_   -- region 17
          refine wl_det rfl rfl (det_lss rfl rfl) rfl ?_
          refine wl_nil ?_
          refine pn_then ?_
          refine wc_seq ?_
          refine wc_cond rfl (fun cd54 => ?_) (fun cd54 => ?_)
          · have h := ifT h cd54
            refine wc_skip ?_
            refine pn_then ?_
            obtain ⟨q56, h, ho56⟩ := bind_some h
            refine wc_meetG (G := (List GEntry) × Option Addr × Nat × Nat × Unit) (fun (s56, _, _, _, _) => s56 = q56) (fun (_, A56_0, n56_0, c56_0, _) => [(2, .pointer (some ⟨b0_0, 0, none⟩)), (4, .pointer (some ⟨b0_1, 0, none⟩)), (8, .slice A56_0 n56_0 c56_0), (54, .slice y13_4A0 r13_4.1.length y13_4c0), (55, .int .i64 (r13_4.1.length : Int)), (56, .int .i64 s50.2)]) (fun (s56, A56_0, n56_0, c56_0, _) => [eBlk b0_0 25 [.int .i64 a0.Closed, .slice A0 a0.Postings.length c0], eBlk b0_1 25 [.int .i64 0, .slice none 0 0], eS lGEntry 43 A56_0 n56_0 c56_0 s56, eS lGEntry 43 y13_4A0 r13_4.1.length y13_4c0 r13_4.1]) (fun (_, _, _, _, _) => [fV (lSlice lGPosting) (.slice A0 a0.Postings.length c0) a0.Postings]) ?_ ?_
            · refine wc_block ?_
              refine wc_seq ?_
              refine wc_region ?_   -- region 18
              obtain ⟨k18_0, h⟩ := chk_some h
              refine wl_det rfl rfl (det_indexO rfl rfl (ms (ms (ms m0))) k18_0 un29 sz43) rfl ?_
              refine wl_det rfl rfl (det_loadO (off := 0) rfl (ms (ms (ms m0))) k18_0 (by rfl) (by rfl) (loaded_n (cells := [_, _, _, _, _]) ag43 sz43)) rfl ?_
              refine wl_act (act_alloc (cs := [_, _, _, _, _]) zr43 rfl) rfl rfl rfl ?_
              rintro _ _ _ ⟨b18_2, rfl, rfl, rfl⟩
              refine wl_act0 (act_store (cells := [_, _, _, _, _]) (cs' := [_, _, _, _, _]) rfl rfl rfl s0 (by rfl) (of_decide_eq_true rfl) sz43 ⟨rfl, rfl, rfl, rfl, rfl, trivial⟩) rfl rfl ?_
              rintro _ _ _ ⟨rfl, rfl⟩
              refine wl_nil ?_
              refine pn_then ?_
              refine wc_seq ?_
              refine wc_region ?_   -- region 19
              refine wl_det rfl rfl (det_loadN (cells := [_, _, _, _, _]) rfl m0 (by rfl) ag43 sz43) rfl ?_
              obtain ⟨r19_1, hr19_1, h⟩ := bind_some h
              refine wl_act (act_callS (cap := []) (W_ledger_restated (ix r13_4.1 s50.2) r19_1 hr19_1) rfl rfl rfl bd33 rfl trivial) rfl rfl rfl ?_
              rintro _ _ _ ⟨_, _, ⟨rfl, rfl, rfl⟩, rfl, rfl⟩
              dsimp only [List.nil_append, List.cons_append]
              refine wl_nil ?_
              refine pn_then ?_
              refine wc_cond rfl (fun cd62 => ?_) (fun cd62 => ?_)
              · have h := ifT h cd62
                refine wc_seq ?_
                refine wc_region ?_   -- region 20
                refine wl_det rfl rfl (det_field rfl fd43_4 rfl) rfl ?_
                refine wl_det rfl rfl (det_load rfl m0 (by rfl) na3 us3) rfl ?_
                refine wl_det rfl rfl (det_neg rfl) rfl ?_
                refine wl_det rfl rfl (det_field rfl fd43_4 rfl) rfl ?_
                refine wl_act0 (act_store (cells := [_]) (cs' := [_, _, _, _, _]) rfl rfl rfl s0 (by rfl) (of_decide_eq_true rfl) sz3 ⟨rfl, trivial⟩) rfl rfl ?_
                rintro _ _ _ ⟨rfl, rfl⟩
                refine wl_nil ?_
                refine pn_then ?_
                refine wc_region ?_   -- region 21
                refine wl_det rfl rfl (det_move rfl) rfl ?_
                refine wl_det rfl rfl (det_loadN (cells := [_, _, _, _, _]) rfl m0 (by rfl) ag43 sz43) rfl ?_
                refine wl_act (act_litS lGEntry (vs := [_]) (cs := [_, _, _, _, _]) [(GEntry.mk (ix r13_4.1 s50.2).Kind (ix r13_4.1 s50.2).Treaty (ix r13_4.1 s50.2).Party (ix r13_4.1 s50.2).Loss (w64 (0 - (ix r13_4.1 s50.2).Amount)))] un29 in43 rfl rfl rfl rfl rfl ⟨rfl, trivial⟩ (by rfl) rfl (litR_flat rfl)) rfl rfl rfl ?_
                rintro _ _ _ ⟨A21_2, rfl, rfl, rfl⟩
                obtain ⟨k21_3, h⟩ := chk_some h
                refine wl_act (act_appendS (L := lGEntry) rfl rfl (ss (ss (ss (ss s0)))) (src_O m0) un29 in43 rfl rfl rfl k21_3) rfl rfl rfl ?_
                rintro _ _ _ ⟨A21_3, c21_3, rfl, rfl, rfl⟩
                refine wl_det rfl rfl (det_assign rfl) rfl ?_
                refine wl_nil ?_
                refine pn_block ?_
                replace h := Option.some.inj h
                subst h
                exact pn_meetG ((s50.1 ++ [(GEntry.mk (ix r13_4.1 s50.2).Kind (ix r13_4.1 s50.2).Treaty (ix r13_4.1 s50.2).Party (ix r13_4.1 s50.2).Loss (w64 (0 - (ix r13_4.1 s50.2).Amount)))]), A21_3, (s50.1 ++ [(GEntry.mk (ix r13_4.1 s50.2).Kind (ix r13_4.1 s50.2).Treaty (ix r13_4.1 s50.2).Party (ix r13_4.1 s50.2).Loss (w64 (0 - (ix r13_4.1 s50.2).Amount)))]).length, c21_3, ()) rfl ⟨rfl, rfl, rfl, rfl, rfl, rfl, trivial⟩ (fun _ h => h.to ⟨_, (rs (rs r0)), ⟨_, (rs (rs r0)), ⟨_, (rs (rs r0)), ⟨_, (rs (rs r0)), trivial⟩⟩⟩⟩ ⟨m0, trivial⟩)
              · have h := ifF h cd62
                refine wc_skip ?_
                refine pn_block ?_
                replace h := Option.some.inj h
                subst h
                exact pn_meetG (s50.1, A50_0, s50.1.length, c50_0, ()) rfl ⟨rfl, rfl, rfl, rfl, rfl, rfl, trivial⟩ (fun _ h => h.to ⟨_, (rs r0), ⟨_, (rs r0), ⟨_, (rs r0), ⟨_, (rs r0), trivial⟩⟩⟩⟩ ⟨m0, trivial⟩)
            rintro ⟨s56, A56_0, n56_0, c56_0, _⟩ e56
            dsimp only at e56 ⊢
            subst e56
            have h := ho56
            refine wc_know (fun _ h => h.lenO (ms (ms m0))) (fun e => ?_)
            subst e
            refine wc_region ?_   -- region 22
            refine wl_det rfl rfl (det_add rfl rfl) rfl ?_
            refine wl_det rfl rfl (det_move rfl) rfl ?_
            refine wl_nil ?_
            replace h := Option.some.inj h
            subst h
            exact pn_some (k50, (s56, (w64 (s50.2 + 1))), A56_0, s56.length, c56_0, ()) ⟨nextL g50, Nat.lt_succ_self _⟩ ⟨rfl, rfl, rfl, rfl, rfl, rfl, trivial⟩ (fun _ h => h.to ⟨_, r0, ⟨_, r0, ⟨_, r0, ⟨_, r0, trivial⟩⟩⟩⟩ ⟨m0, trivial⟩)
          · have h := ifF h cd54
            refine wc_exit ?_
            refine px_then ?_
            refine px_then ?_
            refine px_block ?_
            replace h := Option.some.inj h
            subst h
            replace g50 := nextR g50
            subst g50
            exact pn_meetG (s50.1, A50_0, s50.1.length, c50_0, ()) rfl ⟨rfl, rfl, rfl, trivial⟩ (fun _ h => h.to ⟨_, r0, ⟨_, r0, ⟨_, r0, trivial⟩⟩⟩ ⟨m0, trivial⟩)
        rintro ⟨s46, A46_0, n46_0, c46_0, _⟩ e46
        dsimp only at e46 ⊢
        subst e46
        have h := ho46
        refine wc_know (fun _ h => h.lenO (ms (ms m0))) (fun e => ?_)
        subst e
        refine wc_seq ?_
        refine wc_region ?_   -- region 23
        refine wl_det rfl rfl (det_loadN (cells := [_, _]) rfl m0 (by rfl) ag25 sz25) rfl ?_
        refine wl_det rfl rfl (det_move rfl) rfl ?_
        obtain ⟨r23_2, hr23_2, h⟩ := bind_some h
        refine wl_act (act_callL (cap := []) [eS lGEntry 43 A46_0 s46.length c46_0 s46] (W_ledger_Post a0 s46 A0 a0.Postings.length c0 A46_0 s46.length c46_0 r23_2 hr23_2) plains_ledger_Post rfl rfl rfl bd28 rfl ⟨(ms (ms m0)), trivial⟩ ⟨.inl m0, ⟨.inr ⟨_, m0, lent_eS⟩, trivial⟩⟩) rfl rfl rfl ?_
        rintro _ _ _ ⟨_, _, ⟨y23_2A0, y23_2n0, y23_2c0, rfl, rfl, rfl⟩, rfl, rfl⟩
        dsimp only [List.nil_append, List.cons_append]
        refine wl_know (fun _ h => h.lenO m0) (fun e => ?_)
        subst e
        refine wl_det rfl rfl (det_move rfl) rfl ?_
        refine wl_det rfl rfl (det_extract rfl rfl) rfl ?_
        refine wl_det rfl rfl (det_extract rfl rfl) rfl ?_
        refine wl_act (act_alloc (cs := [_, _]) zr25 rfl) rfl rfl rfl ?_
        rintro _ _ _ ⟨b23_6, rfl, rfl, rfl⟩
        refine wl_act0 (act_store (cells := [_, _]) (cs' := [_, _]) rfl rfl rfl s0 (by rfl) (of_decide_eq_true rfl) sz25 ⟨rfl, rfl, trivial⟩) rfl rfl ?_
        rintro _ _ _ ⟨rfl, rfl⟩
        refine wl_det rfl rfl (det_assign rfl) rfl ?_
        refine wl_nil ?_
        refine pn_then ?_
        refine wc_seq ?_
        refine wc_seq ?_
        refine wc_region ?_   -- region 24
        refine wl_det rfl rfl (det_move rfl) rfl ?_
        refine wl_det rfl rfl (det_neq rfl rfl) rfl ?_
        refine wl_nil ?_
        refine pn_then ?_
        refine wc_cond rfl (fun cd72 => ?_) (fun cd72 => ?_)
        · have h := ifT h cd72
          refine wc_seq ?_
          refine wc_region ?_   -- region 25
          refine wl_det rfl rfl (det_build (cs := [_, _]) pl25 zr25 rfl rfl (by rfl)) rfl ?_
          refine wl_det rfl rfl (det_move rfl) rfl ?_
          refine wl_act0 (act_store (cells := [_, _]) (cs' := [_, _]) rfl rfl rfl (ss (ss (ss s0))) (by rfl) (of_decide_eq_true rfl) sz25 ⟨rfl, rfl, trivial⟩) rfl rfl ?_
          rintro _ _ _ ⟨rfl, rfl⟩
          refine wl_det rfl rfl (det_assign rfl) rfl ?_
          refine wl_det rfl rfl (det_assign rfl) rfl ?_
          refine wl_nil ?_
          refine pn_then ?_
          refine wc_ret ?_
          refine pr_then ?_
          refine pn_st (fun _ h => h.zeroF lGPosting none 0) ?_
          refine pn_st (fun _ h => h.zeroS lGPosting 61 none) ?_
          replace h := Option.some.inj h
          subst h
          refine pn_ret (vs := [_, _, _]) rfl ⟨⟨_, _, [_, _], rfl, (ms (ms (ms (ms m0)))), .inl ⟨ag25, sz25, rfl⟩⟩, rfl, rfl, trivial⟩ ⟨none, 0, 0, none, 0, 0, rfl, rfl, rfl⟩ (fun _ h => h.to ⟨_, r0, trivial⟩ ⟨m0, trivial⟩)
        · have h := ifF h cd72
          refine wc_skip ?_
          refine pn_then ?_
          refine wc_seq ?_
          refine wc_st (fun _ h => h.shutS (rs r0)) ?_
          obtain ⟨k26_p1, h⟩ := chk_some h
          obtain ⟨k26_p2, h⟩ := chk_some h
          refine dx_region 8 [[], [], [1], [], [3], [3, 4], [1, 2, 3, 4, 5], [1, 2, 3, 4, 5, 6], [0, 1, 2, 3, 4, 5, 6, 7], [0, 1, 2, 3, 4, 5, 6, 7, 8], [0, 1, 2, 3, 4, 5, 6, 7, 8, 9]] mixed (ord := (.det 0 (.det 1 (.det 2 (.det 3 (.det 4 (.det 5 (.alt 6 (.alt 7 .done .dead) .dead)))))))) (by kernel_rfl) ?_   -- region 26
          refine hx_det rfl rfl rfl nofun (det_loadN (cells := [_, _]) rfl m0 (by rfl) ag25 sz25) rfl ?_
          refine hx_det rfl rfl rfl nofun (det_field rfl fd25_1 rfl) rfl ?_
          refine hx_det rfl rfl rfl nofun (det_load rfl m0 (by rfl) na23 us23) rfl ?_
          refine hx_det rfl rfl rfl nofun (det_field rfl fd25_1 rfl) rfl ?_
          refine hx_det rfl rfl rfl nofun (det_load rfl (ms m0) (by rfl) na23 us23) rfl ?_
          refine hx_det rfl rfl rfl nofun (det_len rfl un23) rfl ?_
          refine hx_act rfl rfl rfl (act_sliceL rfl rfl m0 un23 sz61 rfl k26_p1 k26_p2) rfl (by rintro _ _ _ ⟨A26_6, c26_6, rfl, rfl, rfl⟩; first | exact ⟨_ :: [], [], rfl, rfl⟩ | exact ⟨[], [_], rfl, rfl⟩ | exact ⟨[], [], rfl, rfl⟩) ?_
          rintro _ _ _ ⟨A26_6, c26_6, rfl, rfl, rfl⟩
          obtain ⟨r26_7, hr26_7, h⟩ := bind_some h
          refine hx_act rfl rfl rfl (act_callS (cap := []) (W_slices_Clone_s_api_Posting_api_Posting (r23_2.1.Postings.drop (a0.Postings.length : Int).toNat) A26_6 (r23_2.1.Postings.drop (a0.Postings.length : Int).toNat).length c26_6 r26_7 hr26_7) rfl rfl rfl bd32 rfl ⟨m0, trivial⟩) rfl (by rintro _ _ _ ⟨_, _, _, rfl, rfl⟩; first | exact ⟨_, _, rfl, rfl⟩ | exact ⟨_, [], rfl, rfl⟩) ?_
          rintro _ _ _ ⟨_, _, ⟨y26_7A0, y26_7n0, y26_7c0, rfl, rfl, rfl⟩, rfl, rfl⟩
          dsimp only [List.nil_append, List.cons_append]
          refine hx_end ?_
          refine wl_know (fun _ h => h.lenO m0) (fun e => ?_)
          subst e
          refine wl_act0 (act_store (cells := [_, _]) (cs' := [_, _]) rfl rfl rfl (ss (ss (ss s0))) (by rfl) (of_decide_eq_true rfl) sz25 ⟨rfl, rfl, trivial⟩) rfl rfl ?_
          rintro _ _ _ ⟨rfl, rfl⟩
          refine wl_det rfl rfl (det_assign rfl) rfl ?_
          refine wl_det rfl rfl (det_assign rfl) rfl ?_
          refine wl_nil ?_
          refine pn_then ?_
          refine wc_ret ?_
          replace h := Option.some.inj h
          subst h
          refine pn_ret (vs := [_, _, _]) rfl ⟨⟨_, _, [_, _], rfl, (ms (ms (ms m0))), .inl ⟨ag25, sz25, rfl⟩⟩, rfl, rfl, trivial⟩ ⟨y23_2A0, r23_2.1.Postings.length, y23_2c0, y26_7A0, r26_7.length, y26_7c0, rfl, rfl, rfl⟩ (fun _ h => h.to ⟨_, r0, trivial⟩ ⟨(ms m0), trivial⟩)
def Q_commute_Commute (r : GLedger × (List GPosting) × Int) : Value → List Ent → List Fact → Prop := fun v θ κ => ∃ (pA0 : Option Addr), ∃ (pn0 : Nat), ∃ (pc0 : Nat), ∃ (pA1 : Option Addr), ∃ (pn1 : Nat), ∃ (pc1 : Nat), v = .tuple #[.agg #[.int .i64 r.1.Closed, .slice pA0 pn0 pc0], .slice pA1 pn1 pc1, .int .i64 r.2.2] ∧ θ = [eS lGPosting 61 pA1 pn1 pc1 r.2.1] ∧ κ = [fV (lSlice lGPosting) (.slice pA0 pn0 pc0) r.1.Postings]
set_option maxHeartbeats 4000000 in
set_option maxRecDepth 100000 in
theorem W_commute_Commute (a0 : GLedger) (a1 : Int) (a2 : Int) (a3 : Int) (A0 : Option Addr) (n0 : Nat) (c0 : Nat) (r : GLedger × (List GPosting) × Int) (h : commute_Commute a0 a1 a2 a3 = some r) : Spec Try.prog 13 [.agg #[.int .i64 a0.Closed, .slice A0 n0 c0], .int .i64 a1, .int .i64 a2, .int .i64 a3] [] [fV (lSlice lGPosting) (.slice A0 n0 c0) a0.Postings] (Q_commute_Commute r) := by
  unfold commute_Commute at h
  refine spec_of (σ := [(0, _), (1, _), (2, _), (3, _)]) Try.func13 rfl rfl rfl rfl ?_
  intro C
  refine wc_know (fun _ h => h.lenF m0) (fun e => ?_)
  subst e
  refine wc_seq ?_
  refine wc_region ?_   -- region 0
  refine wl_act (act_box (cs := [_, _]) rfl rfl) rfl rfl rfl ?_
  rintro _ _ _ ⟨b0_0, rfl, rfl, rfl⟩
  refine wl_act (act_alloc (cs := [_, _]) zr25 rfl) rfl rfl rfl ?_
  rintro _ _ _ ⟨b0_1, rfl, rfl, rfl⟩
  refine wl_det rfl rfl (det_assign rfl) rfl ?_
  refine wl_det rfl rfl (det_assign rfl) rfl ?_
  refine wl_nil ?_
  refine pn_then ?_
  refine wc_seq ?_
  refine wc_seq ?_
  refine wc_region ?_   -- region 1
  refine wl_det rfl rfl (det_loadN (cells := [_, _]) rfl (ms m0) (by rfl) ag25 sz25) rfl ?_
  obtain ⟨r1_1, hr1_1, h⟩ := bind_some h
  refine wl_act (act_callS (cap := []) (W_ledger_Validate a0 A0 a0.Postings.length c0 r1_1 hr1_1) rfl rfl rfl bd21 rfl ⟨m0, trivial⟩) rfl rfl rfl ?_
  rintro _ _ _ ⟨_, _, ⟨rfl, rfl, rfl⟩, rfl, rfl⟩
  dsimp only [List.nil_append, List.cons_append]
  refine wl_det rfl rfl (det_assign rfl) rfl ?_
  refine wl_nil ?_
  refine pn_then ?_
  refine wc_seq ?_
  refine wc_region ?_   -- region 2
  refine wl_det rfl rfl (det_move rfl) rfl ?_
  refine wl_det rfl rfl (det_neq rfl rfl) rfl ?_
  refine wl_nil ?_
  refine pn_then ?_
  refine wc_cond rfl (fun cd7 => ?_) (fun cd7 => ?_)
  · have h := ifT h cd7
    refine wc_seq ?_
    refine wc_region ?_   -- region 3
    refine wl_det rfl rfl (det_build (cs := [_, _]) pl25 zr25 rfl rfl (by rfl)) rfl ?_
    refine wl_det rfl rfl (det_move rfl) rfl ?_
    refine wl_act0 (act_store (cells := [_, _]) (cs' := [_, _]) rfl rfl rfl s0 (by rfl) (of_decide_eq_true rfl) sz25 ⟨rfl, rfl, trivial⟩) rfl rfl ?_
    rintro _ _ _ ⟨rfl, rfl⟩
    refine wl_det rfl rfl (det_assign rfl) rfl ?_
    refine wl_det rfl rfl (det_assign rfl) rfl ?_
    refine wl_nil ?_
    refine pn_then ?_
    refine wc_ret ?_
    refine pr_then ?_
    refine pn_st (fun _ h => h.zeroF lGPosting none 0) ?_
    refine pn_st (fun _ h => h.zeroS lGPosting 61 none) ?_
    replace h := Option.some.inj h
    subst h
    refine pn_ret (vs := [_, _, _]) rfl ⟨⟨_, _, [_, _], rfl, (ms m0), .inl ⟨ag25, sz25, rfl⟩⟩, rfl, rfl, trivial⟩ ⟨none, 0, 0, none, 0, 0, rfl, rfl, rfl⟩ (fun _ h => h.to ⟨_, r0, trivial⟩ ⟨m0, trivial⟩)
  · have h := ifF h cd7
    refine wc_skip ?_
    refine pn_then ?_
    refine wc_seq ?_
    refine wc_seq ?_
    refine wc_region ?_   -- region 4
    refine wl_det rfl rfl (det_move rfl) rfl ?_
    refine wl_det rfl rfl (det_lss rfl rfl) rfl ?_
    refine wl_det rfl rfl (det_move rfl) rfl ?_
    refine wl_way (decide (a1 < 1)) ((decide (a1 < 1)) || (decide (1048576 < a1))) 3 28 (fun hg => ?_) (fun hg => ?_) ?_
    · have hg4_5 := hg
      refine wl_off rfl rfl rfl rfl rfl hg4_5 rfl ?_
      refine wl_off rfl rfl rfl rfl rfl hg4_5 rfl ?_
      refine wl_det rfl rfl (det_or_on (r := (decide (1048576 < a1))) rfl rfl rfl hg4_5) rfl ?_
      exact wl_nil (pn_qnE (ext_cons rfl (ext_skip rfl (ext_skip rfl (ext_skip rfl ext_refl)))) (fun _ h => h))
    · have hg4_5a := hg
      refine wl_on rfl rfl rfl rfl hg4_5a ?_
      refine wl_det rfl rfl (det_move rfl) rfl ?_
      refine wl_on rfl rfl rfl rfl hg4_5a ?_
      refine wl_det rfl rfl (det_gtr rfl rfl) rfl ?_
      refine wl_det rfl rfl (det_or_off rfl rfl rfl hg4_5a) rfl ?_
      exact wl_nil (pn_qnE (ext_cons rfl (ext_skip rfl (ext_skip rfl (ext_skip rfl ext_refl)))) (fun _ h => h))
    refine wl_det rfl rfl (det_move rfl) rfl ?_
    refine wl_way ((decide (a1 < 1)) || (decide (1048576 < a1))) (((decide (a1 < 1)) || (decide (1048576 < a1))) || (decide (a2 < 1))) 3 32 (fun hg => ?_) (fun hg => ?_) ?_
    · have hg4_9 := hg
      refine wl_off rfl rfl rfl rfl rfl hg4_9 rfl ?_
      refine wl_off rfl rfl rfl rfl rfl hg4_9 rfl ?_
      refine wl_det rfl rfl (det_or_on (r := (decide (a2 < 1))) rfl rfl rfl hg4_9) rfl ?_
      exact wl_nil (pn_qnE (ext_cons rfl (ext_skip rfl (ext_skip rfl (ext_skip rfl ext_refl)))) (fun _ h => h))
    · have hg4_9a := hg
      refine wl_on rfl rfl rfl rfl hg4_9a ?_
      refine wl_det rfl rfl (det_move rfl) rfl ?_
      refine wl_on rfl rfl rfl rfl hg4_9a ?_
      refine wl_det rfl rfl (det_lss rfl rfl) rfl ?_
      refine wl_det rfl rfl (det_or_off rfl rfl rfl hg4_9a) rfl ?_
      exact wl_nil (pn_qnE (ext_cons rfl (ext_skip rfl (ext_skip rfl (ext_skip rfl ext_refl)))) (fun _ h => h))
    refine wl_det rfl rfl (det_move rfl) rfl ?_
    refine wl_way (((decide (a1 < 1)) || (decide (1048576 < a1))) || (decide (a2 < 1))) ((((decide (a1 < 1)) || (decide (1048576 < a1))) || (decide (a2 < 1))) || (decide (15 < a2))) 3 36 (fun hg => ?_) (fun hg => ?_) ?_
    · have hg4_13 := hg
      refine wl_off rfl rfl rfl rfl rfl hg4_13 rfl ?_
      refine wl_off rfl rfl rfl rfl rfl hg4_13 rfl ?_
      refine wl_det rfl rfl (det_or_on (r := (decide (15 < a2))) rfl rfl rfl hg4_13) rfl ?_
      exact wl_nil (pn_qnE (ext_cons rfl (ext_skip rfl (ext_skip rfl (ext_skip rfl ext_refl)))) (fun _ h => h))
    · have hg4_13a := hg
      refine wl_on rfl rfl rfl rfl hg4_13a ?_
      refine wl_det rfl rfl (det_move rfl) rfl ?_
      refine wl_on rfl rfl rfl rfl hg4_13a ?_
      refine wl_det rfl rfl (det_gtr rfl rfl) rfl ?_
      refine wl_det rfl rfl (det_or_off rfl rfl rfl hg4_13a) rfl ?_
      exact wl_nil (pn_qnE (ext_cons rfl (ext_skip rfl (ext_skip rfl (ext_skip rfl ext_refl)))) (fun _ h => h))
    refine wl_det rfl rfl (det_move rfl) rfl ?_
    refine wl_way ((((decide (a1 < 1)) || (decide (1048576 < a1))) || (decide (a2 < 1))) || (decide (15 < a2))) (((((decide (a1 < 1)) || (decide (1048576 < a1))) || (decide (a2 < 1))) || (decide (15 < a2))) || (decide (a3 < 0))) 3 40 (fun hg => ?_) (fun hg => ?_) ?_
    · have hg4_17 := hg
      refine wl_off rfl rfl rfl rfl rfl hg4_17 rfl ?_
      refine wl_off rfl rfl rfl rfl rfl hg4_17 rfl ?_
      refine wl_det rfl rfl (det_or_on (r := (decide (a3 < 0))) rfl rfl rfl hg4_17) rfl ?_
      exact wl_nil (pn_qnE (ext_cons rfl (ext_skip rfl (ext_skip rfl (ext_skip rfl ext_refl)))) (fun _ h => h))
    · have hg4_17a := hg
      refine wl_on rfl rfl rfl rfl hg4_17a ?_
      refine wl_det rfl rfl (det_move rfl) rfl ?_
      refine wl_on rfl rfl rfl rfl hg4_17a ?_
      refine wl_det rfl rfl (det_lss rfl rfl) rfl ?_
      refine wl_det rfl rfl (det_or_off rfl rfl rfl hg4_17a) rfl ?_
      exact wl_nil (pn_qnE (ext_cons rfl (ext_skip rfl (ext_skip rfl (ext_skip rfl ext_refl)))) (fun _ h => h))
    refine wl_det rfl rfl (det_move rfl) rfl ?_
    refine wl_way (((((decide (a1 < 1)) || (decide (1048576 < a1))) || (decide (a2 < 1))) || (decide (15 < a2))) || (decide (a3 < 0))) ((((((decide (a1 < 1)) || (decide (1048576 < a1))) || (decide (a2 < 1))) || (decide (15 < a2))) || (decide (a3 < 0))) || (decide (17592186044416 < a3))) 3 44 (fun hg => ?_) (fun hg => ?_) ?_
    · have hg4_21 := hg
      refine wl_off rfl rfl rfl rfl rfl hg4_21 rfl ?_
      refine wl_off rfl rfl rfl rfl rfl hg4_21 rfl ?_
      refine wl_det rfl rfl (det_or_on (r := (decide (17592186044416 < a3))) rfl rfl rfl hg4_21) rfl ?_
      exact wl_nil (pn_qnE (ext_cons rfl (ext_skip rfl (ext_skip rfl (ext_skip rfl ext_refl)))) (fun _ h => h))
    · have hg4_21a := hg
      refine wl_on rfl rfl rfl rfl hg4_21a ?_
      refine wl_det rfl rfl (det_move rfl) rfl ?_
      refine wl_on rfl rfl rfl rfl hg4_21a ?_
      refine wl_det rfl rfl (det_gtr rfl rfl) rfl ?_
      refine wl_det rfl rfl (det_or_off rfl rfl rfl hg4_21a) rfl ?_
      exact wl_nil (pn_qnE (ext_cons rfl (ext_skip rfl (ext_skip rfl (ext_skip rfl ext_refl)))) (fun _ h => h))
    refine wl_nil ?_
    refine pn_then ?_
    refine wc_cond rfl (fun cd13 => ?_) (fun cd13 => ?_)
    · have h := ifT h cd13
      refine wc_seq ?_
      refine wc_region ?_   -- region 5
      refine wl_det rfl rfl (det_build (cs := [_, _]) pl25 zr25 rfl rfl (by rfl)) rfl ?_
      refine wl_act0 (act_store (cells := [_, _]) (cs' := [_, _]) rfl rfl rfl s0 (by rfl) (of_decide_eq_true rfl) sz25 ⟨rfl, rfl, trivial⟩) rfl rfl ?_
      rintro _ _ _ ⟨rfl, rfl⟩
      refine wl_det rfl rfl (det_assign rfl) rfl ?_
      refine wl_det rfl rfl (det_assign rfl) rfl ?_
      refine wl_nil ?_
      refine pn_then ?_
      refine wc_ret ?_
      refine pr_then ?_
      refine pn_st (fun _ h => h.zeroF lGPosting none 0) ?_
      refine pn_st (fun _ h => h.zeroS lGPosting 61 none) ?_
      replace h := Option.some.inj h
      subst h
      refine pn_ret (vs := [_, _, _]) rfl ⟨⟨_, _, [_, _], rfl, (ms m0), .inl ⟨ag25, sz25, rfl⟩⟩, rfl, rfl, trivial⟩ ⟨none, 0, 0, none, 0, 0, rfl, rfl, rfl⟩ (fun _ h => h.to ⟨_, r0, trivial⟩ ⟨m0, trivial⟩)
    · have h := ifF h cd13
      refine wc_skip ?_
      refine pn_then ?_
      refine wc_seq ?_
      refine wc_region ?_   -- region 6
      refine wl_det rfl rfl (det_loadN (cells := [_, _]) rfl (ms m0) (by rfl) ag25 sz25) rfl ?_
      refine wl_det rfl rfl (det_field rfl fd25_0 rfl) rfl ?_
      refine wl_det rfl rfl (det_load rfl (ms m0) (by rfl) na3 us3) rfl ?_
      refine wl_det rfl rfl (det_add rfl rfl) rfl ?_
      obtain ⟨r6_4, hr6_4, h⟩ := bind_some h
      refine wl_act (act_callS (cap := []) (W_ledger_Totals a0 (w64 (a0.Closed + 1)) A0 a0.Postings.length c0 r6_4 hr6_4) rfl rfl rfl bd14 rfl ⟨m0, trivial⟩) rfl rfl rfl ?_
      rintro _ _ _ ⟨_, _, ⟨y6_4A0, y6_4n0, y6_4c0, rfl, rfl, rfl⟩, rfl, rfl⟩
      dsimp only [List.nil_append, List.cons_append]
      refine wl_know (fun _ h => h.lenO m0) (fun e => ?_)
      subst e
      refine wl_det rfl rfl (det_move rfl) rfl ?_
      refine wl_det rfl rfl (det_extract rfl rfl) rfl ?_
      refine wl_det rfl rfl (det_extract rfl rfl) rfl ?_
      refine wl_det rfl rfl (det_assign rfl) rfl ?_
      refine wl_det rfl rfl (det_assign rfl) rfl ?_
      refine wl_nil ?_
      refine pn_then ?_
      refine wc_seq ?_
      refine wc_seq ?_
      refine wc_region ?_   -- region 7
      refine wl_det rfl rfl (det_move rfl) rfl ?_
      refine wl_det rfl rfl (det_neq rfl rfl) rfl ?_
      refine wl_nil ?_
      refine pn_then ?_
      refine wc_cond rfl (fun cd21 => ?_) (fun cd21 => ?_)
      · have h := ifT h cd21
        refine wc_seq ?_
        refine wc_region ?_   -- region 8
        refine wl_det rfl rfl (det_build (cs := [_, _]) pl25 zr25 rfl rfl (by rfl)) rfl ?_
        refine wl_det rfl rfl (det_move rfl) rfl ?_
        refine wl_act0 (act_store (cells := [_, _]) (cs' := [_, _]) rfl rfl rfl (ss s0) (by rfl) (of_decide_eq_true rfl) sz25 ⟨rfl, rfl, trivial⟩) rfl rfl ?_
        rintro _ _ _ ⟨rfl, rfl⟩
        refine wl_det rfl rfl (det_assign rfl) rfl ?_
        refine wl_det rfl rfl (det_assign rfl) rfl ?_
        refine wl_nil ?_
        refine pn_then ?_
        refine wc_ret ?_
        refine pr_then ?_
        refine pn_st (fun _ h => h.zeroF lGPosting none 0) ?_
        refine pn_st (fun _ h => h.zeroS lGPosting 61 none) ?_
        replace h := Option.some.inj h
        subst h
        refine pn_ret (vs := [_, _, _]) rfl ⟨⟨_, _, [_, _], rfl, (ms (ms m0)), .inl ⟨ag25, sz25, rfl⟩⟩, rfl, rfl, trivial⟩ ⟨none, 0, 0, none, 0, 0, rfl, rfl, rfl⟩ (fun _ h => h.to ⟨_, r0, trivial⟩ ⟨m0, trivial⟩)
      · have h := ifF h cd21
        refine wc_skip ?_
        refine pn_then ?_
        refine wc_seq ?_
        refine wc_region ?_   -- region 9
        refine wl_det rfl rfl (det_move rfl) rfl ?_
        obtain ⟨r9_1, hr9_1, h⟩ := bind_some h
        refine wl_act (act_callS (cap := []) (W_slices_DeleteFunc_s_api_Entry_api_Entry_o_commute_Commute_c1 r6_4.1 y6_4A0 r6_4.1.length y6_4c0 r9_1 hr9_1) rfl rfl rfl bd29 ⟨_, r0, rfl⟩ trivial) rfl rfl rfl ?_
        rintro _ _ _ ⟨_, _, ⟨y9_1A0, y9_1n0, y9_1c0, rfl, rfl, rfl⟩, rfl, rfl⟩
        dsimp only [List.nil_append, List.cons_append]
        refine wl_know (fun _ h => h.lenO m0) (fun e => ?_)
        subst e
        refine wl_det rfl rfl (det_assign rfl) rfl ?_
        refine wl_nil ?_
        refine pn_then ?_
        refine wc_seq ?_
        refine wc_seq ?_
        refine wc_region ?_   -- region 10
        refine wl_det rfl rfl (det_loadN (cells := [_, _]) rfl (ms (ms m0)) (by rfl) ag25 sz25) rfl ?_
        refine wl_det rfl rfl (det_move rfl) rfl ?_
        refine wl_det rfl rfl (det_move rfl) rfl ?_
        refine wl_det rfl rfl (det_move rfl) rfl ?_
        obtain ⟨r10_4, hr10_4, h⟩ := bind_some h
        refine wl_act (act_callL (cap := []) [eS lGEntry 43 y9_1A0 r9_1.length y9_1c0 r9_1] (W_commute_Redirect a0 r9_1 a1 a2 A0 a0.Postings.length c0 y9_1A0 r9_1.length y9_1c0 r10_4 hr10_4) plains_commute_Redirect rfl rfl rfl bd9 rfl ⟨m0, trivial⟩ ⟨.inl m0, ⟨.inr ⟨_, m0, lent_eS⟩, trivial⟩⟩) rfl rfl rfl ?_
        rintro _ _ _ ⟨_, _, ⟨y10_4A0, y10_4n0, y10_4c0, rfl, rfl, rfl⟩, rfl, rfl⟩
        dsimp only [List.nil_append, List.cons_append]
        refine wl_know (fun _ h => h.lenO m0) (fun e => ?_)
        subst e
        refine wl_det rfl rfl (det_move rfl) rfl ?_
        refine wl_det rfl rfl (det_extract rfl rfl) rfl ?_
        refine wl_det rfl rfl (det_extract rfl rfl) rfl ?_
        refine wl_det rfl rfl (det_assign rfl) rfl ?_
        refine wl_det rfl rfl (det_assign rfl) rfl ?_
        refine wl_nil ?_
        refine pn_then ?_
        refine wc_seq ?_
        refine wc_region ?_   -- region 11
        refine wl_det rfl rfl (det_move rfl) rfl ?_
        refine wl_det rfl rfl (det_neq rfl rfl) rfl ?_
        refine wl_nil ?_
        refine pn_then ?_
        refine wc_cond rfl (fun cd31 => ?_) (fun cd31 => ?_)
        · have h := ifT h cd31
          refine wc_seq ?_
          refine wc_region ?_   -- region 12
          refine wl_det rfl rfl (det_build (cs := [_, _]) pl25 zr25 rfl rfl (by rfl)) rfl ?_
          refine wl_det rfl rfl (det_move rfl) rfl ?_
          refine wl_act0 (act_store (cells := [_, _]) (cs' := [_, _]) rfl rfl rfl (ss (ss s0)) (by rfl) (of_decide_eq_true rfl) sz25 ⟨rfl, rfl, trivial⟩) rfl rfl ?_
          rintro _ _ _ ⟨rfl, rfl⟩
          refine wl_det rfl rfl (det_assign rfl) rfl ?_
          refine wl_det rfl rfl (det_assign rfl) rfl ?_
          refine wl_nil ?_
          refine pn_then ?_
          refine wc_ret ?_
          refine pr_then ?_
          refine pn_st (fun _ h => h.zeroF lGPosting none 0) ?_
          refine pn_st (fun _ h => h.zeroS lGPosting 61 none) ?_
          replace h := Option.some.inj h
          subst h
          refine pn_ret (vs := [_, _, _]) rfl ⟨⟨_, _, [_, _], rfl, (ms (ms (ms m0))), .inl ⟨ag25, sz25, rfl⟩⟩, rfl, rfl, trivial⟩ ⟨none, 0, 0, none, 0, 0, rfl, rfl, rfl⟩ (fun _ h => h.to ⟨_, r0, trivial⟩ ⟨m0, trivial⟩)
        · have h := ifF h cd31
          refine wc_skip ?_
          refine pn_then ?_
          refine wc_seq ?_
          refine wc_region ?_   -- region 13
          refine wl_det rfl rfl (det_loadN (cells := [_, _]) rfl (ms (ms (ms m0))) (by rfl) ag25 sz25) rfl ?_
          refine wl_det rfl rfl (det_move rfl) rfl ?_
          refine wl_st (fun _ h => h.shutS r0) ?_
          obtain ⟨r13_2, hr13_2, h⟩ := bind_some h
          refine wl_act (act_callS (cap := []) (W_ledger_Restate a0 r10_4.1 A0 a0.Postings.length c0 y10_4A0 r10_4.1.length y10_4c0 r13_2 hr13_2) rfl rfl rfl bd15 rfl ⟨(ms m0), ⟨m0, trivial⟩⟩) rfl rfl rfl ?_
          rintro _ _ _ ⟨_, _, ⟨y13_2A0, y13_2n0, y13_2c0, y13_2A1, y13_2n1, y13_2c1, rfl, rfl, rfl⟩, rfl, rfl⟩
          dsimp only [List.nil_append, List.cons_append]
          refine wl_know (fun _ h => h.lenF m0) (fun e => ?_)
          subst e
          refine wl_know (fun _ h => h.lenO m0) (fun e => ?_)
          subst e
          refine wl_det rfl rfl (det_move rfl) rfl ?_
          refine wl_det rfl rfl (det_extract rfl rfl) rfl ?_
          refine wl_det rfl rfl (det_extract rfl rfl) rfl ?_
          refine wl_det rfl rfl (det_extract rfl rfl) rfl ?_
          refine wl_act (act_alloc (cs := [_, _]) zr25 rfl) rfl rfl rfl ?_
          rintro _ _ _ ⟨b13_7, rfl, rfl, rfl⟩
          refine wl_act0 (act_store (cells := [_, _]) (cs' := [_, _]) rfl rfl rfl s0 (by rfl) (of_decide_eq_true rfl) sz25 ⟨rfl, rfl, trivial⟩) rfl rfl ?_
          rintro _ _ _ ⟨rfl, rfl⟩
          refine wl_det rfl rfl (det_assign rfl) rfl ?_
          refine wl_det rfl rfl (det_assign rfl) rfl ?_
          refine wl_nil ?_
          refine pn_then ?_
          refine wc_seq ?_
          refine wc_seq ?_
          refine wc_region ?_   -- region 14
          refine wl_det rfl rfl (det_move rfl) rfl ?_
          refine wl_det rfl rfl (det_neq rfl rfl) rfl ?_
          refine wl_nil ?_
          refine pn_then ?_
          refine wc_cond rfl (fun cd39 => ?_) (fun cd39 => ?_)
          · have h := ifT h cd39
            refine wc_seq ?_
            refine wc_region ?_   -- region 15
            refine wl_det rfl rfl (det_build (cs := [_, _]) pl25 zr25 rfl rfl (by rfl)) rfl ?_
            refine wl_det rfl rfl (det_move rfl) rfl ?_
            refine wl_act0 (act_store (cells := [_, _]) (cs' := [_, _]) rfl rfl rfl (ss (ss (ss s0))) (by rfl) (of_decide_eq_true rfl) sz25 ⟨rfl, rfl, trivial⟩) rfl rfl ?_
            rintro _ _ _ ⟨rfl, rfl⟩
            refine wl_det rfl rfl (det_assign rfl) rfl ?_
            refine wl_det rfl rfl (det_assign rfl) rfl ?_
            refine wl_nil ?_
            refine pn_then ?_
            refine wc_ret ?_
            refine pr_then ?_
            refine pn_st (fun _ h => h.zeroF lGPosting none 0) ?_
            refine pn_st (fun _ h => h.zeroS lGPosting 61 none) ?_
            replace h := Option.some.inj h
            subst h
            refine pn_ret (vs := [_, _, _]) rfl ⟨⟨_, _, [_, _], rfl, (ms (ms (ms (ms m0)))), .inl ⟨ag25, sz25, rfl⟩⟩, rfl, rfl, trivial⟩ ⟨none, 0, 0, none, 0, 0, rfl, rfl, rfl⟩ (fun _ h => h.to ⟨_, r0, trivial⟩ ⟨m0, trivial⟩)
          · have h := ifF h cd39
            refine wc_skip ?_
            refine pn_then ?_
            refine wc_seq ?_
            refine wc_region ?_   -- region 16
            refine wl_det rfl rfl (det_loadN (cells := [_, _]) rfl m0 (by rfl) ag25 sz25) rfl ?_
            refine wl_det rfl rfl (det_move rfl) rfl ?_
            refine wl_det rfl rfl (det_move rfl) rfl ?_
            refine wl_det rfl rfl (det_move rfl) rfl ?_
            refine wl_det rfl rfl (det_build (cs := [_, _, _, _, _]) pl43 zr43 rfl rfl (by rfl)) rfl ?_
            refine wl_act (act_litS lGEntry (vs := [_]) (cs := [_, _, _, _, _]) [(GEntry.mk 5 a1 a2 0 a3)] un29 in43 rfl rfl rfl rfl rfl ⟨rfl, trivial⟩ (by rfl) rfl (litR_flat rfl)) rfl rfl rfl ?_
            rintro _ _ _ ⟨A16_5, rfl, rfl, rfl⟩
            obtain ⟨r16_6, hr16_6, h⟩ := bind_some h
            refine wl_act (act_callL (cap := []) [eS lGEntry 43 A16_5 1 1 [(GEntry.mk 5 a1 a2 0 a3)]] (W_ledger_Post r13_2.1 [(GEntry.mk 5 a1 a2 0 a3)] y13_2A0 r13_2.1.Postings.length y13_2c0 A16_5 1 1 r16_6 hr16_6) plains_ledger_Post rfl rfl rfl bd28 rfl ⟨m0, trivial⟩ ⟨.inl m0, ⟨.inr ⟨_, m0, lent_eS⟩, trivial⟩⟩) rfl rfl rfl ?_
            rintro _ _ _ ⟨_, _, ⟨y16_6A0, y16_6n0, y16_6c0, rfl, rfl, rfl⟩, rfl, rfl⟩
            dsimp only [List.nil_append, List.cons_append]
            refine wl_know (fun _ h => h.lenO m0) (fun e => ?_)
            subst e
            refine wl_det rfl rfl (det_move rfl) rfl ?_
            refine wl_det rfl rfl (det_extract rfl rfl) rfl ?_
            refine wl_det rfl rfl (det_extract rfl rfl) rfl ?_
            refine wl_act0 (act_store (cells := [_, _]) (cs' := [_, _]) rfl rfl rfl (ss (ss s0)) (by rfl) (of_decide_eq_true rfl) sz25 ⟨rfl, rfl, trivial⟩) rfl rfl ?_
            rintro _ _ _ ⟨rfl, rfl⟩
            refine wl_det rfl rfl (det_assign rfl) rfl ?_
            refine wl_nil ?_
            refine pn_then ?_
            refine wc_seq ?_
            refine wc_seq ?_
            refine wc_region ?_   -- region 17
            refine wl_det rfl rfl (det_move rfl) rfl ?_
            refine wl_det rfl rfl (det_neq rfl rfl) rfl ?_
            refine wl_nil ?_
            refine pn_then ?_
            refine wc_cond rfl (fun cd47 => ?_) (fun cd47 => ?_)
            · have h := ifT h cd47
              refine wc_seq ?_
              refine wc_region ?_   -- region 18
              refine wl_det rfl rfl (det_build (cs := [_, _]) pl25 zr25 rfl rfl (by rfl)) rfl ?_
              refine wl_det rfl rfl (det_move rfl) rfl ?_
              refine wl_act0 (act_store (cells := [_, _]) (cs' := [_, _]) rfl rfl rfl (ss (ss (ss (ss (ss s0))))) (by rfl) (of_decide_eq_true rfl) sz25 ⟨rfl, rfl, trivial⟩) rfl rfl ?_
              rintro _ _ _ ⟨rfl, rfl⟩
              refine wl_det rfl rfl (det_assign rfl) rfl ?_
              refine wl_det rfl rfl (det_assign rfl) rfl ?_
              refine wl_nil ?_
              refine pn_then ?_
              refine wc_ret ?_
              refine pr_then ?_
              refine pn_st (fun _ h => h.zeroF lGPosting none 0) ?_
              refine pn_st (fun _ h => h.zeroS lGPosting 61 none) ?_
              replace h := Option.some.inj h
              subst h
              refine pn_ret (vs := [_, _, _]) rfl ⟨⟨_, _, [_, _], rfl, (ms (ms (ms (ms (ms (ms m0)))))), .inl ⟨ag25, sz25, rfl⟩⟩, rfl, rfl, trivial⟩ ⟨none, 0, 0, none, 0, 0, rfl, rfl, rfl⟩ (fun _ h => h.to ⟨_, r0, trivial⟩ ⟨m0, trivial⟩)
            · have h := ifF h cd47
              refine wc_skip ?_
              refine pn_then ?_
              refine wc_seq ?_
              refine wc_st (fun _ h => h.shutS r0) ?_
              obtain ⟨k19_p1, h⟩ := chk_some h
              obtain ⟨k19_p2, h⟩ := chk_some h
              refine dx_region 8 [[], [], [1], [], [3], [3, 4], [1, 2, 3, 4, 5], [1, 2, 3, 4, 5, 6], [0, 1, 2, 3, 4, 5, 6, 7], [0, 1, 2, 3, 4, 5, 6, 7, 8], [0, 1, 2, 3, 4, 5, 6, 7, 8, 9]] mixed (ord := (.det 0 (.det 1 (.det 2 (.det 3 (.det 4 (.det 5 (.alt 6 (.alt 7 .done .dead) .dead)))))))) (by kernel_rfl) ?_   -- region 19
              refine hx_det rfl rfl rfl nofun (det_loadN (cells := [_, _]) rfl (ms m0) (by rfl) ag25 sz25) rfl ?_
              refine hx_det rfl rfl rfl nofun (det_field rfl fd25_1 rfl) rfl ?_
              refine hx_det rfl rfl rfl nofun (det_load rfl (ms m0) (by rfl) na23 us23) rfl ?_
              refine hx_det rfl rfl rfl nofun (det_field rfl fd25_1 rfl) rfl ?_
              refine hx_det rfl rfl rfl nofun (det_load rfl (ms (ms (ms (ms (ms m0))))) (by rfl) na23 us23) rfl ?_
              refine hx_det rfl rfl rfl nofun (det_len rfl un23) rfl ?_
              refine hx_act rfl rfl rfl (act_sliceL rfl rfl m0 un23 sz61 rfl k19_p1 k19_p2) rfl (by rintro _ _ _ ⟨A19_6, c19_6, rfl, rfl, rfl⟩; first | exact ⟨_ :: [], [], rfl, rfl⟩ | exact ⟨[], [_], rfl, rfl⟩ | exact ⟨[], [], rfl, rfl⟩) ?_
              rintro _ _ _ ⟨A19_6, c19_6, rfl, rfl, rfl⟩
              obtain ⟨r19_7, hr19_7, h⟩ := bind_some h
              refine hx_act rfl rfl rfl (act_callS (cap := []) (W_slices_Clone_s_api_Posting_api_Posting (r16_6.1.Postings.drop (a0.Postings.length : Int).toNat) A19_6 (r16_6.1.Postings.drop (a0.Postings.length : Int).toNat).length c19_6 r19_7 hr19_7) rfl rfl rfl bd32 rfl ⟨m0, trivial⟩) rfl (by rintro _ _ _ ⟨_, _, _, rfl, rfl⟩; first | exact ⟨_, _, rfl, rfl⟩ | exact ⟨_, [], rfl, rfl⟩) ?_
              rintro _ _ _ ⟨_, _, ⟨y19_7A0, y19_7n0, y19_7c0, rfl, rfl, rfl⟩, rfl, rfl⟩
              dsimp only [List.nil_append, List.cons_append]
              refine hx_end ?_
              refine wl_know (fun _ h => h.lenO m0) (fun e => ?_)
              subst e
              refine wl_act0 (act_store (cells := [_, _]) (cs' := [_, _]) rfl rfl rfl (ss (ss (ss (ss (ss s0))))) (by rfl) (of_decide_eq_true rfl) sz25 ⟨rfl, rfl, trivial⟩) rfl rfl ?_
              rintro _ _ _ ⟨rfl, rfl⟩
              refine wl_det rfl rfl (det_assign rfl) rfl ?_
              refine wl_det rfl rfl (det_assign rfl) rfl ?_
              refine wl_nil ?_
              refine pn_then ?_
              refine wc_ret ?_
              replace h := Option.some.inj h
              subst h
              refine pn_ret (vs := [_, _, _]) rfl ⟨⟨_, _, [_, _], rfl, (ms (ms (ms (ms (ms m0))))), .inl ⟨ag25, sz25, rfl⟩⟩, rfl, rfl, trivial⟩ ⟨y16_6A0, r16_6.1.Postings.length, y16_6c0, y19_7A0, r19_7.length, y19_7c0, rfl, rfl, rfl⟩ (fun _ h => h.to ⟨_, r0, trivial⟩ ⟨(ms m0), trivial⟩)
def Q_treatymade2_Target (Ba0 : Nat) (r : (List GEntry) × GDeck) : Value → List Ent → List Fact → Prop := fun v θ κ => ∃ (pA0 : Option Addr), ∃ (pn0 : Nat), ∃ (pc0 : Nat), ∃ (pA1 : Option Addr), ∃ (pn1 : Nat), ∃ (pc1 : Nat), v = .slice pA0 pn0 pc0 ∧ θ = [eS lGEntry 43 pA0 pn0 pc0 r.1, eBlk Ba0 67 [.slice pA1 pn1 pc1, .int .i64 r.2.At]] ∧ κ = [fV (lSlice (lInt .i64)) (.slice pA1 pn1 pc1) r.2.L]
set_option maxHeartbeats 4000000 in
set_option maxRecDepth 100000 in
theorem W_treatymade2_Target (a0 : GDeck) (a1 : Int) (Ba0 : Nat) (A1 : Option Addr) (n1 : Nat) (c1 : Nat) (r : (List GEntry) × GDeck) (h : treatymade2_Target a0 a1 = some r) : Spec Try.prog 8 [.pointer (some ⟨Ba0, 0, none⟩), .int .i64 a1] [eBlk Ba0 67 [.slice A1 n1 c1, .int .i64 a0.At]] [fV (lSlice (lInt .i64)) (.slice A1 n1 c1) a0.L] (Q_treatymade2_Target Ba0 r) := by
  unfold treatymade2_Target at h
  refine spec_of (σ := [(0, _), (1, _)]) Try.func8 rfl rfl rfl rfl ?_
  intro C
  refine wc_know (fun _ h => h.lenF m0) (fun e => ?_)
  subst e
  refine wc_seq ?_
  refine wc_region ?_   -- region 0
  refine wl_det rfl rfl (det_assign rfl) rfl ?_
  refine wl_nil ?_
  refine pn_then ?_
  refine wc_seq ?_
  refine wc_region ?_   -- region 1
  refine wl_det rfl rfl (det_assign rfl) rfl ?_
  refine wl_nil ?_
  refine pn_then ?_
  obtain ⟨q4, h, ho4⟩ := bind_some h
  refine wc_meetG (G := ((List Int) × Int × (List GEntry)) × Option Addr × Nat × Nat × Option Addr × Nat × Nat × Unit) (fun (s4, _, _, _, _, _, _, _) => s4 = q4) (fun (_, _, _, _, A4_3, n4_3, c4_3, _) => [(5, .slice A4_3 n4_3 c4_3)]) (fun (s4, A4_0, n4_0, c4_0, A4_3, n4_3, c4_3, _) => [eBlk Ba0 67 [.slice A4_0 n4_0 c4_0, .int .i64 s4.2.1], eS lGEntry 43 A4_3 n4_3 c4_3 s4.2.2]) (fun (s4, A4_0, n4_0, c4_0, _, _, _, _) => [fV (lSlice (lInt .i64)) (.slice A4_0 n4_0 c4_0) s4.1]) ?_ ?_
  · refine wc_seq ?_
    refine wc_region ?_   -- region 2
    refine wl_det rfl rfl (det_move rfl) rfl ?_
    refine wl_det rfl rfl (det_move rfl) rfl ?_
    obtain ⟨r2_2, hr2_2, h⟩ := bind_some h
    refine wl_act (act_callS (cap := []) (W_treatymade2_Entries a0 a1 Ba0 A1 a0.L.length c1 r2_2 hr2_2) rfl rfl rfl bd19 ⟨_, r0, rfl⟩ ⟨m0, trivial⟩) rfl rfl rfl ?_
    rintro _ _ _ ⟨_, _, ⟨y2_2A0, y2_2n0, y2_2c0, y2_2A1, y2_2n1, y2_2c1, rfl, rfl, rfl⟩, rfl, rfl⟩
    dsimp only [List.nil_append, List.cons_append]
    refine wl_know (fun _ h => h.lenO m0) (fun e => ?_)
    subst e
    refine wl_know (fun _ h => h.lenF m0) (fun e => ?_)
    subst e
    refine wl_det rfl rfl (det_len rfl un29) rfl ?_
    refine wl_det rfl rfl (det_move rfl) rfl ?_
    refine wl_nil ?_
    refine pn_then ?_
    refine wc_block ?_
    refine wc_st (fun _ h => h.zeroS lGEntry 43 none) ?_
    obtain ⟨k8, hk8⟩ := loopV_some.1 h
    refine wc_loop (G := Nat × ((List GEntry) × Int) × Option Addr × Nat × Nat × Unit) (fun g => IterN (treatymade2_Target_l8 r2_2) g.1 g.2.1 q4) (fun g => g.1) (fun (_, s8, A8_0, n8_0, c8_0, _) => [(5, .slice A8_0 n8_0 c8_0), (10, .slice y2_2A0 r2_2.1.length y2_2c0), (11, .int .i64 (r2_2.1.length : Int)), (12, .int .i64 s8.2)]) (fun (_, s8, A8_0, n8_0, c8_0, _) => [eBlk Ba0 67 [.slice y2_2A1 r2_2.2.L.length y2_2c1, .int .i64 r2_2.2.At], eS lGEntry 43 A8_0 n8_0 c8_0 s8.1, eS lGEntry 43 y2_2A0 r2_2.1.length y2_2c0 r2_2.1]) (fun (_, _, _, _, _, _) => [fV (lSlice (lInt .i64)) (.slice y2_2A1 r2_2.2.L.length y2_2c1) r2_2.2.L]) (k8, ([], 0), none, 0, 0, ()) hk8 ⟨rfl, rfl, rfl, rfl, trivial⟩ (fun _ h => h.to ⟨_, (rs (rs r0)), ⟨_, r0, ⟨_, r0, trivial⟩⟩⟩ ⟨m0, trivial⟩) ?_
    rintro ⟨k8, s8, A8_0, n8_0, c8_0, _⟩ hI
    obtain ⟨k8, rfl, q8, h, g8⟩ := IterN.pos hI
    dsimp only at h ⊢
    unfold treatymade2_Target_l8 at h
    refine wc_know (fun _ h => h.lenO (ms m0)) (fun e => ?_)
    subst e
    refine wc_seq ?_
    refine wc_region ?_   -- region 3
    refine wl_det rfl rfl (det_lss rfl rfl) rfl ?_
    refine wl_nil ?_
    refine pn_then ?_
    refine wc_seq ?_
    refine wc_cond rfl (fun cd12 => ?_) (fun cd12 => ?_)
    · have h := ifT h cd12
      refine wc_skip ?_
      refine pn_then ?_
      obtain ⟨q14, h, ho14⟩ := bind_some h
      refine wc_meetG (G := (List GEntry) × Option Addr × Nat × Nat × Unit) (fun (s14, _, _, _, _) => s14 = q14) (fun (_, A14_0, n14_0, c14_0, _) => [(5, .slice A14_0 n14_0 c14_0), (10, .slice y2_2A0 r2_2.1.length y2_2c0), (11, .int .i64 (r2_2.1.length : Int)), (12, .int .i64 s8.2)]) (fun (s14, A14_0, n14_0, c14_0, _) => [eBlk Ba0 67 [.slice y2_2A1 r2_2.2.L.length y2_2c1, .int .i64 r2_2.2.At], eS lGEntry 43 A14_0 n14_0 c14_0 s14, eS lGEntry 43 y2_2A0 r2_2.1.length y2_2c0 r2_2.1]) (fun (_, _, _, _, _) => [fV (lSlice (lInt .i64)) (.slice y2_2A1 r2_2.2.L.length y2_2c1) r2_2.2.L]) ?_ ?_
      · refine wc_block ?_
        refine wc_seq ?_
        refine wc_region ?_   -- region 4
        obtain ⟨k4_0, h⟩ := chk_some h
        refine wl_det rfl rfl (det_indexO rfl rfl (ms (ms m0)) k4_0 un29 sz43) rfl ?_
        refine wl_det rfl rfl (det_loadO (off := 0) rfl (ms (ms m0)) k4_0 (by rfl) (by rfl) (loaded_n (cells := [_, _, _, _, _]) ag43 sz43)) rfl ?_
        refine wl_act (act_alloc (cs := [_, _, _, _, _]) zr43 rfl) rfl rfl rfl ?_
        rintro _ _ _ ⟨b4_2, rfl, rfl, rfl⟩
        refine wl_act0 (act_store (cells := [_, _, _, _, _]) (cs' := [_, _, _, _, _]) rfl rfl rfl s0 (by rfl) (of_decide_eq_true rfl) sz43 ⟨rfl, rfl, rfl, rfl, rfl, trivial⟩) rfl rfl ?_
        rintro _ _ _ ⟨rfl, rfl⟩
        refine wl_nil ?_
        refine pn_then ?_
        refine wc_seq ?_
        refine wc_region ?_   -- region 5
        refine wl_det rfl rfl (det_field rfl fd43_0 rfl) rfl ?_
        refine wl_det rfl rfl (det_load rfl m0 (by rfl) na3 us3) rfl ?_
        refine wl_det rfl rfl (det_leq rfl rfl) rfl ?_
        refine wl_nil ?_
        refine pn_then ?_
        refine wc_cond rfl (fun cd20 => ?_) (fun cd20 => ?_)
        · have h := ifT h cd20
          refine wc_region ?_   -- region 6
          refine wl_det rfl rfl (det_move rfl) rfl ?_
          refine wl_det rfl rfl (det_loadN (cells := [_, _, _, _, _]) rfl m0 (by rfl) ag43 sz43) rfl ?_
          refine wl_act (act_litS lGEntry (vs := [_]) (cs := [_, _, _, _, _]) [(ix r2_2.1 s8.2)] un29 in43 rfl rfl rfl rfl rfl ⟨rfl, trivial⟩ (by rfl) rfl (litR_flat rfl)) rfl rfl rfl ?_
          rintro _ _ _ ⟨A6_2, rfl, rfl, rfl⟩
          obtain ⟨k6_3, h⟩ := chk_some h
          refine wl_act (act_appendS (L := lGEntry) rfl rfl (ss (ss (ss s0))) (src_O m0) un29 in43 rfl rfl rfl k6_3) rfl rfl rfl ?_
          rintro _ _ _ ⟨A6_3, c6_3, rfl, rfl, rfl⟩
          refine wl_det rfl rfl (det_assign rfl) rfl ?_
          refine wl_nil ?_
          refine pn_block ?_
          replace h := Option.some.inj h
          subst h
          exact pn_meetG ((s8.1 ++ [(ix r2_2.1 s8.2)]), A6_3, (s8.1 ++ [(ix r2_2.1 s8.2)]).length, c6_3, ()) rfl ⟨rfl, rfl, rfl, rfl, trivial⟩ (fun _ h => h.to ⟨_, (rs (rs r0)), ⟨_, (rs (rs r0)), ⟨_, (rs (rs r0)), trivial⟩⟩⟩ ⟨m0, trivial⟩)
        · have h := ifF h cd20
          refine wc_skip ?_
          refine pn_block ?_
          replace h := Option.some.inj h
          subst h
          exact pn_meetG (s8.1, A8_0, s8.1.length, c8_0, ()) rfl ⟨rfl, rfl, rfl, rfl, trivial⟩ (fun _ h => h.to ⟨_, (rs r0), ⟨_, (rs r0), ⟨_, (rs r0), trivial⟩⟩⟩ ⟨m0, trivial⟩)
      rintro ⟨s14, A14_0, n14_0, c14_0, _⟩ e14
      dsimp only at e14 ⊢
      subst e14
      have h := ho14
      refine wc_know (fun _ h => h.lenO (ms m0)) (fun e => ?_)
      subst e
      refine wc_region ?_   -- region 7
      refine wl_det rfl rfl (det_add rfl rfl) rfl ?_
      refine wl_det rfl rfl (det_move rfl) rfl ?_
      refine wl_nil ?_
      replace h := Option.some.inj h
      subst h
      exact pn_some (k8, (s14, (w64 (s8.2 + 1))), A14_0, s14.length, c14_0, ()) ⟨nextL g8, Nat.lt_succ_self _⟩ ⟨rfl, rfl, rfl, rfl, trivial⟩ (fun _ h => h.to ⟨_, r0, ⟨_, r0, ⟨_, r0, trivial⟩⟩⟩ ⟨m0, trivial⟩)
    · have h := ifF h cd12
      refine wc_exit ?_
      refine px_then ?_
      refine px_then ?_
      refine px_block ?_
      replace h := Option.some.inj h
      subst h
      replace g8 := nextR g8
      subst g8
      exact pn_meetG ((r2_2.2.L, r2_2.2.At, s8.1), y2_2A1, r2_2.2.L.length, y2_2c1, A8_0, s8.1.length, c8_0, ()) rfl ⟨rfl, trivial⟩ (fun _ h => h.to ⟨_, r0, ⟨_, r0, trivial⟩⟩ ⟨m0, trivial⟩)
  rintro ⟨s4, A4_0, n4_0, c4_0, A4_3, n4_3, c4_3, _⟩ e4
  dsimp only at e4 ⊢
  subst e4
  have h := ho4
  refine wc_know (fun _ h => h.lenF m0) (fun e => ?_)
  subst e
  refine wc_know (fun _ h => h.lenO (ms m0)) (fun e => ?_)
  subst e
  refine wc_seq ?_
  refine wc_region ?_   -- region 8
  refine wl_det rfl rfl (det_move rfl) rfl ?_
  refine wl_det rfl rfl (det_assign rfl) rfl ?_
  refine wl_nil ?_
  refine pn_then ?_
  refine wc_ret ?_
  replace h := Option.some.inj h
  subst h
  refine pn_ret (vs := [_]) rfl ⟨rfl, trivial⟩ ⟨A4_3, s4.2.2.length, c4_3, A4_0, s4.1.length, c4_0, rfl, rfl, rfl⟩ (fun _ h => h.to ⟨_, (rs r0), ⟨_, r0, trivial⟩⟩ ⟨m0, trivial⟩)
def Q_treatyref33_SameEntries (r : Bool) : Value → List Ent → List Fact → Prop := fun v θ κ => v = .bool r ∧ θ = [] ∧ κ = []
theorem plains_treatyref33_SameEntries {r : Bool} : ∀ v θ κ, Q_treatyref33_SameEntries r v θ κ → Plains θ := by
  rintro _ _ _ ⟨rfl, rfl, rfl⟩
  exact trivial
set_option maxHeartbeats 4000000 in
set_option maxRecDepth 100000 in
theorem W_treatyref33_SameEntries (a0 : (List GEntry)) (a1 : (List GEntry)) (A0 : Option Addr) (n0 : Nat) (c0 : Nat) (A3 : Option Addr) (n3 : Nat) (c3 : Nat) (r : Bool) (h : treatyref33_SameEntries a0 a1 = some r) : Spec Try.prog 11 [.slice A0 n0 c0, .slice A3 n3 c3] [] [fV (lSlice lGEntry) (.slice A0 n0 c0) a0, fV (lSlice lGEntry) (.slice A3 n3 c3) a1] (Q_treatyref33_SameEntries r) := by
  unfold treatyref33_SameEntries at h
  refine spec_of (σ := [(0, _), (1, _)]) Try.func11 rfl rfl rfl rfl ?_
  intro C
  refine wc_know (fun _ h => h.lenF m0) (fun e => ?_)
  subst e
  refine wc_know (fun _ h => h.lenF (ms m0)) (fun e => ?_)
  subst e
  refine wc_seq ?_
  refine wc_region ?_   -- region 0
  refine wl_det rfl rfl (det_assign rfl) rfl ?_
  refine wl_nil ?_
  refine pn_then ?_
  refine wc_seq ?_
  refine wc_seq ?_
  refine wc_region ?_   -- region 1
  refine wl_det rfl rfl (det_move rfl) rfl ?_
  refine wl_det rfl rfl (det_len rfl un29) rfl ?_
  refine wl_det rfl rfl (det_move rfl) rfl ?_
  refine wl_det rfl rfl (det_len rfl un29) rfl ?_
  refine wl_det rfl rfl (det_neq rfl rfl) rfl ?_
  refine wl_nil ?_
  refine pn_then ?_
  refine wc_cond rfl (fun cd5 => ?_) (fun cd5 => ?_)
  · have h := ifT h cd5
    refine wc_seq ?_
    refine wc_region ?_   -- region 2
    refine wl_det rfl rfl (det_assign rfl) rfl ?_
    refine wl_nil ?_
    refine pn_then ?_
    refine wc_ret ?_
    refine pr_then ?_
    replace h := Option.some.inj h
    subst h
    refine pn_ret (vs := [_]) rfl ⟨rfl, trivial⟩ ⟨rfl, rfl, rfl⟩ (fun _ h => h.to trivial trivial)
  · have h := ifF h cd5
    refine wc_skip ?_
    refine pn_then ?_
    obtain ⟨q8, h, ho8⟩ := bind_some h
    refine wc_meetG (G := Unit × Unit) (fun (s8, _) => (.inl s8) = q8) (fun (_, _) => []) (fun (_, _) => []) (fun (_, _) => []) ?_ ?_
    · refine wc_seq ?_
      refine wc_region ?_   -- region 3
      refine wl_det rfl rfl (det_move rfl) rfl ?_
      refine wl_det rfl rfl (det_len rfl un29) rfl ?_
      refine wl_det rfl rfl (det_move rfl) rfl ?_
      refine wl_nil ?_
      refine pn_then ?_
      refine wc_block ?_
      obtain ⟨o12, h, ho12⟩ := bind_some h
      obtain ⟨k12, hk12⟩ := loopV_some.1 h
      refine wc_loop (G := Nat × Int × Unit) (fun g => IterN (treatyref33_SameEntries_l12 a0 a1) g.1 g.2.1 o12) (fun g => g.1) (fun (_, s12, _) => [(0, .slice A0 a0.length c0), (1, .slice A3 a1.length c3), (12, .int .i64 (a0.length : Int)), (13, .int .i64 s12)]) (fun (_, _, _) => []) (fun (_, _, _) => [fV (lSlice lGEntry) (.slice A0 a0.length c0) a0, fV (lSlice lGEntry) (.slice A3 a1.length c3) a1]) (k12, 0, ()) hk12 ⟨rfl, rfl, rfl, rfl, trivial⟩ (fun _ h => h.to trivial ⟨m0, ⟨(ms m0), trivial⟩⟩) ?_
      rintro ⟨k12, s12, _⟩ hI
      obtain ⟨k12, rfl, q12, h, g12⟩ := IterN.pos hI
      dsimp only at h ⊢
      unfold treatyref33_SameEntries_l12 at h
      refine wc_seq ?_
      refine wc_region ?_   -- region 4
      refine wl_det rfl rfl (det_lss rfl rfl) rfl ?_
      refine wl_nil ?_
      refine pn_then ?_
      refine wc_seq ?_
      refine wc_cond rfl (fun cd16 => ?_) (fun cd16 => ?_)
      · have h := ifT h cd16
        refine wc_skip ?_
        refine pn_then ?_
        refine wc_seq ?_
        refine wc_block ?_
        refine wc_seq ?_
        refine wc_region ?_   -- region 5
        refine wl_det rfl rfl (det_move rfl) rfl ?_
        refine wl_det rfl rfl (det_assign rfl) rfl ?_
        refine wl_nil ?_
        refine pn_then ?_
        refine wc_seq ?_
        obtain ⟨k6_p1, h⟩ := chk_some h
        refine wc_st (fun _ h => h.openF m0 k6_p1) ?_
        obtain ⟨k6_p3, h⟩ := chk_some h
        refine wc_st (fun _ h => h.openF (ms (ms m0)) k6_p3) ?_
        refine dx_region 9 [[], [], [0, 1], [0, 1, 2], [], [], [4, 5], [4, 5, 6], [0, 1, 2, 3, 4, 5, 6, 7]] mixed (ord := (.det 0 (.det 1 (.det 2 (.det 3 (.det 4 (.det 5 (.det 6 (.det 7 (.det 8 .done)))))))))) (by kernel_rfl) ?_   -- region 6
        refine hx_det rfl rfl rfl nofun (det_move rfl) rfl ?_
        refine hx_det rfl rfl rfl nofun (det_move rfl) rfl ?_
        refine hx_det rfl rfl rfl nofun (det_indexP rfl rfl (ms (ms m0)) k6_p1 (ms m0) un29 sz43) rfl ?_
        refine hx_det rfl rfl rfl nofun (det_loadP (off := 0) rfl (ms m0) (by rfl) (by rfl) (loaded_n (cells := [_, _, _, _, _]) ag43 sz43)) rfl ?_
        refine hx_det rfl rfl rfl nofun (det_move rfl) rfl ?_
        refine hx_det rfl rfl rfl nofun (det_move rfl) rfl ?_
        refine hx_det rfl rfl rfl nofun (det_indexP rfl rfl (ms (ms (ms m0))) k6_p3 m0 un29 sz43) rfl ?_
        refine hx_det rfl rfl rfl nofun (det_loadP (off := 0) rfl m0 (by rfl) (by rfl) (loaded_n (cells := [_, _, _, _, _]) ag43 sz43)) rfl ?_
        refine hx_det rfl rfl rfl nofun (det_neqS [_, _, _, _, _] [_, _, _, _, _] eq43 rfl rfl rfl rfl) rfl ?_
        refine hx_end ?_
        refine wl_nil ?_
        refine pn_then ?_
        refine wc_cond rfl (fun cd24 => ?_) (fun cd24 => ?_)
        · have h := ifT h cd24
          refine wc_seq ?_
          refine wc_region ?_   -- region 7
          refine wl_det rfl rfl (det_assign rfl) rfl ?_
          refine wl_nil ?_
          refine pn_then ?_
          refine wc_ret ?_
          refine pr_block ?_
          refine pr_then ?_
          refine pr_then ?_
          refine pr_block ?_
          refine pr_then ?_
          replace h := Option.some.inj h
          subst h
          replace g12 := nextR g12
          subst g12
          have h := (elimL ho12)
          replace h := Option.some.inj h
          subst h
          have h := (elimR ho8)
          replace h := Option.some.inj h
          subst h
          refine pn_ret (vs := [_]) rfl ⟨rfl, trivial⟩ ⟨rfl, rfl, rfl⟩ (fun _ h => h.to trivial trivial)
        · have h := ifF h cd24
          refine wc_skip ?_
          refine pn_block ?_
          refine pn_then ?_
          refine wc_region ?_   -- region 8
          refine wl_det rfl rfl (det_add rfl rfl) rfl ?_
          refine wl_det rfl rfl (det_move rfl) rfl ?_
          refine wl_nil ?_
          replace h := Option.some.inj h
          subst h
          exact pn_some (k12, (w64 (s12 + 1)), ()) ⟨nextL g12, Nat.lt_succ_self _⟩ ⟨rfl, rfl, rfl, rfl, trivial⟩ (fun _ h => h.to trivial ⟨(ms (ms m0)), ⟨(ms (ms (ms m0))), trivial⟩⟩)
      · have h := ifF h cd16
        refine wc_exit ?_
        refine px_then ?_
        refine px_then ?_
        refine px_block ?_
        replace h := Option.some.inj h
        subst h
        replace g12 := nextR g12
        subst g12
        have h := (elimR ho12)
        replace h := Option.some.inj h
        subst h
        exact pn_meetG ((), ()) rfl trivial (fun _ h => h.to trivial trivial)
    rintro ⟨s8, _⟩ e8
    dsimp only at e8 ⊢
    subst e8
    have h := (elimL ho8)
    refine wc_seq ?_
    refine wc_region ?_   -- region 9
    refine wl_det rfl rfl (det_assign rfl) rfl ?_
    refine wl_nil ?_
    refine pn_then ?_
    refine wc_ret ?_
    replace h := Option.some.inj h
    subst h
    refine pn_ret (vs := [_]) rfl ⟨rfl, trivial⟩ ⟨rfl, rfl, rfl⟩ (fun _ h => h.to trivial trivial)
def Q_treatylaw36_awake (r : Bool) : Value → List Ent → List Fact → Prop := fun v θ κ => v = .bool r ∧ θ = [] ∧ κ = []
theorem plains_treatylaw36_awake {r : Bool} : ∀ v θ κ, Q_treatylaw36_awake r v θ κ → Plains θ := by
  rintro _ _ _ ⟨rfl, rfl, rfl⟩
  exact trivial
set_option maxHeartbeats 4000000 in
set_option maxRecDepth 100000 in
theorem W_treatylaw36_awake (r : Bool) (h : treatylaw36_awake = some r) : Spec Try.prog 12 [] [] [] (Q_treatylaw36_awake r) := by
  unfold treatylaw36_awake at h
  refine spec_of (σ := []) Try.func12 rfl rfl rfl rfl ?_
  intro C
  refine wc_seq ?_
  refine wc_region ?_   -- region 0
  refine wl_det rfl rfl (det_assign rfl) rfl ?_
  refine wl_nil ?_
  refine pn_then ?_
  refine wc_seq ?_
  refine wc_region ?_   -- region 1
  refine wl_det rfl rfl (det_build (cs := [_, _, _, _, _]) pl43 zr43 rfl rfl (by rfl)) rfl ?_
  refine wl_act (act_alloc (cs := [_, _, _, _, _]) zr43 rfl) rfl rfl rfl ?_
  rintro _ _ _ ⟨b1_1, rfl, rfl, rfl⟩
  refine wl_act0 (act_store (cells := [_, _, _, _, _]) (cs' := [_, _, _, _, _]) rfl rfl rfl s0 (by rfl) (of_decide_eq_true rfl) sz43 ⟨rfl, rfl, rfl, rfl, rfl, trivial⟩) rfl rfl ?_
  rintro _ _ _ ⟨rfl, rfl⟩
  refine wl_nil ?_
  refine pn_then ?_
  refine wc_seq ?_
  refine wc_region ?_   -- region 2
  refine wl_det rfl rfl (det_build (cs := [_, _, _, _, _]) pl43 zr43 rfl rfl (by rfl)) rfl ?_
  refine wl_act (act_alloc (cs := [_, _, _, _, _]) zr43 rfl) rfl rfl rfl ?_
  rintro _ _ _ ⟨b2_1, rfl, rfl, rfl⟩
  refine wl_act0 (act_store (cells := [_, _, _, _, _]) (cs' := [_, _, _, _, _]) rfl rfl rfl s0 (by rfl) (of_decide_eq_true rfl) sz43 ⟨rfl, rfl, rfl, rfl, rfl, trivial⟩) rfl rfl ?_
  rintro _ _ _ ⟨rfl, rfl⟩
  refine wl_nil ?_
  refine pn_then ?_
  refine wc_seq ?_
  refine wc_region ?_   -- region 3
  refine wl_det rfl rfl (det_build (cs := [_, _]) pl25 zr25 rfl rfl (by rfl)) rfl ?_
  refine wl_det rfl rfl (det_loadN (cells := [_, _, _, _, _]) rfl (ms m0) (by rfl) ag43 sz43) rfl ?_
  refine wl_det rfl rfl (det_loadN (cells := [_, _, _, _, _]) rfl m0 (by rfl) ag43 sz43) rfl ?_
  refine wl_act (act_litS lGEntry (vs := [_, _]) (cs := [_, _, _, _, _, _, _, _, _, _]) [(GEntry.mk 1 5 2 7 30), (GEntry.mk 2 5 2 7 20)] un29 in43 rfl rfl rfl rfl rfl ⟨rfl, rfl, trivial⟩ (by rfl) rfl (litR_flat rfl)) rfl rfl rfl ?_
  rintro _ _ _ ⟨A3_3, rfl, rfl, rfl⟩
  refine wl_st (fun _ h => h.zeroF lGPosting none 0) ?_
  obtain ⟨r3_4, hr3_4, h⟩ := bind_some h
  refine wl_act (act_callL (cap := []) [eS lGEntry 43 A3_3 2 2 [(GEntry.mk 1 5 2 7 30), (GEntry.mk 2 5 2 7 20)]] (W_ledger_Post (GLedger.mk 0 []) [(GEntry.mk 1 5 2 7 30), (GEntry.mk 2 5 2 7 20)] none 0 0 A3_3 2 2 r3_4 hr3_4) plains_ledger_Post rfl rfl rfl bd28 rfl ⟨m0, trivial⟩ ⟨.inl m0, ⟨.inr ⟨_, m0, lent_eS⟩, trivial⟩⟩) rfl rfl rfl ?_
  rintro _ _ _ ⟨_, _, ⟨y3_4A0, y3_4n0, y3_4c0, rfl, rfl, rfl⟩, rfl, rfl⟩
  dsimp only [List.nil_append, List.cons_append]
  refine wl_know (fun _ h => h.lenO m0) (fun e => ?_)
  subst e
  refine wl_det rfl rfl (det_move rfl) rfl ?_
  refine wl_det rfl rfl (det_extract rfl rfl) rfl ?_
  refine wl_det rfl rfl (det_extract rfl rfl) rfl ?_
  refine wl_act (act_alloc (cs := [_, _]) zr25 rfl) rfl rfl rfl ?_
  rintro _ _ _ ⟨b3_8, rfl, rfl, rfl⟩
  refine wl_act0 (act_store (cells := [_, _]) (cs' := [_, _]) rfl rfl rfl s0 (by rfl) (of_decide_eq_true rfl) sz25 ⟨rfl, rfl, trivial⟩) rfl rfl ?_
  rintro _ _ _ ⟨rfl, rfl⟩
  refine wl_det rfl rfl (det_assign rfl) rfl ?_
  refine wl_nil ?_
  refine pn_then ?_
  refine wc_seq ?_
  refine wc_region ?_   -- region 4
  refine wl_det rfl rfl (det_loadN (cells := [_, _]) rfl m0 (by rfl) ag25 sz25) rfl ?_
  refine wl_st (fun _ h => h.shutS (rs r0)) ?_
  obtain ⟨r4_1, hr4_1, h⟩ := bind_some h
  refine wl_act (act_callS (cap := []) (W_commute_Commute r3_4.1 5 2 18 y3_4A0 r3_4.1.Postings.length y3_4c0 r4_1 hr4_1) rfl rfl rfl bd13 rfl ⟨m0, trivial⟩) rfl rfl rfl ?_
  rintro _ _ _ ⟨_, _, ⟨y4_1A0, y4_1n0, y4_1c0, y4_1A1, y4_1n1, y4_1c1, rfl, rfl, rfl⟩, rfl, rfl⟩
  dsimp only [List.nil_append, List.cons_append]
  refine wl_know (fun _ h => h.lenF m0) (fun e => ?_)
  subst e
  refine wl_know (fun _ h => h.lenO m0) (fun e => ?_)
  subst e
  refine wl_det rfl rfl (det_move rfl) rfl ?_
  refine wl_det rfl rfl (det_extract rfl rfl) rfl ?_
  refine wl_det rfl rfl (det_extract rfl rfl) rfl ?_
  refine wl_det rfl rfl (det_extract rfl rfl) rfl ?_
  refine wl_act (act_alloc (cs := [_, _]) zr25 rfl) rfl rfl rfl ?_
  rintro _ _ _ ⟨b4_6, rfl, rfl, rfl⟩
  refine wl_act0 (act_store (cells := [_, _]) (cs' := [_, _]) rfl rfl rfl s0 (by rfl) (of_decide_eq_true rfl) sz25 ⟨rfl, rfl, trivial⟩) rfl rfl ?_
  rintro _ _ _ ⟨rfl, rfl⟩
  refine wl_det rfl rfl (det_assign rfl) rfl ?_
  refine wl_det rfl rfl (det_assign rfl) rfl ?_
  refine wl_nil ?_
  refine pn_then ?_
  refine wc_seq ?_
  refine wc_region ?_   -- region 5
  refine wl_det rfl rfl (det_field rfl fd43_4 rfl) rfl ?_
  refine wl_act0 (act_store (cells := [_]) (cs' := [_, _, _, _, _]) rfl rfl rfl (ss (ss (ss (ss s0)))) (by rfl) (of_decide_eq_true rfl) sz3 ⟨rfl, trivial⟩) rfl rfl ?_
  rintro _ _ _ ⟨rfl, rfl⟩
  refine wl_nil ?_
  refine pn_then ?_
  refine wc_seq ?_
  refine wc_region ?_   -- region 6
  refine wl_det rfl rfl (det_loadN (cells := [_, _]) rfl m0 (by rfl) ag25 sz25) rfl ?_
  refine wl_det rfl rfl (det_loadN (cells := [_, _, _, _, _]) rfl (ms (ms (ms (ms (ms m0))))) (by rfl) ag43 sz43) rfl ?_
  refine wl_det rfl rfl (det_loadN (cells := [_, _, _, _, _]) rfl (ms (ms (ms (ms m0)))) (by rfl) ag43 sz43) rfl ?_
  refine wl_act (act_litS lGEntry (vs := [_, _]) (cs := [_, _, _, _, _, _, _, _, _, _]) [(GEntry.mk 1 5 2 7 30), (GEntry.mk 2 5 2 7 30)] un29 in43 rfl rfl rfl rfl rfl ⟨rfl, rfl, trivial⟩ (by rfl) rfl (litR_flat rfl)) rfl rfl rfl ?_
  rintro _ _ _ ⟨A6_3, rfl, rfl, rfl⟩
  obtain ⟨r6_4, hr6_4, h⟩ := bind_some h
  refine wl_act (act_callL (cap := []) [eS lGEntry 43 A6_3 2 2 [(GEntry.mk 1 5 2 7 30), (GEntry.mk 2 5 2 7 30)]] (W_commute_Redirect r4_1.1 [(GEntry.mk 1 5 2 7 30), (GEntry.mk 2 5 2 7 30)] 5 2 y4_1A0 r4_1.1.Postings.length y4_1c0 A6_3 2 2 r6_4 hr6_4) plains_commute_Redirect rfl rfl rfl bd9 rfl ⟨m0, trivial⟩ ⟨.inl m0, ⟨.inr ⟨_, m0, lent_eS⟩, trivial⟩⟩) rfl rfl rfl ?_
  rintro _ _ _ ⟨_, _, ⟨y6_4A0, y6_4n0, y6_4c0, rfl, rfl, rfl⟩, rfl, rfl⟩
  dsimp only [List.nil_append, List.cons_append]
  refine wl_know (fun _ h => h.lenO m0) (fun e => ?_)
  subst e
  refine wl_det rfl rfl (det_move rfl) rfl ?_
  refine wl_det rfl rfl (det_extract rfl rfl) rfl ?_
  refine wl_det rfl rfl (det_extract rfl rfl) rfl ?_
  refine wl_det rfl rfl (det_assign rfl) rfl ?_
  refine wl_det rfl rfl (det_assign rfl) rfl ?_
  refine wl_nil ?_
  refine pn_then ?_
  refine wc_seq ?_
  refine wc_region ?_   -- region 7
  refine wl_det rfl rfl (det_move rfl) rfl ?_
  refine wl_det rfl rfl (det_eql rfl rfl) rfl ?_
  refine wl_det rfl rfl (det_move rfl) rfl ?_
  refine wl_way (decide (r3_4.2 = 0)) ((decide (r3_4.2 = 0)) && (decide (r4_1.2.2 = 0))) 3 40 (fun hg => ?_) (fun hg => ?_) ?_
  · have hg7_5 := hg
    refine wl_on rfl rfl rfl rfl hg7_5 ?_
    refine wl_det rfl rfl (det_move rfl) rfl ?_
    refine wl_on rfl rfl rfl rfl hg7_5 ?_
    refine wl_det rfl rfl (det_eql rfl rfl) rfl ?_
    refine wl_det rfl rfl (det_and_on rfl rfl rfl hg7_5) rfl ?_
    exact wl_nil (pn_qnE (ext_cons rfl (ext_skip rfl (ext_skip rfl (ext_skip rfl ext_refl)))) (fun _ h => h))
  · have hg7_5a := hg
    refine wl_off rfl rfl rfl rfl rfl hg7_5a rfl ?_
    refine wl_off rfl rfl rfl rfl rfl hg7_5a rfl ?_
    refine wl_det rfl rfl (det_and_off (q := (decide (r4_1.2.2 = 0))) rfl rfl rfl hg7_5a) rfl ?_
    exact wl_nil (pn_qnE (ext_cons rfl (ext_skip rfl (ext_skip rfl (ext_skip rfl ext_refl)))) (fun _ h => h))
  refine wl_det rfl rfl (det_move rfl) rfl ?_
  refine wl_way ((decide (r3_4.2 = 0)) && (decide (r4_1.2.2 = 0))) (((decide (r3_4.2 = 0)) && (decide (r4_1.2.2 = 0))) && (decide (r6_4.2 = 0))) 3 44 (fun hg => ?_) (fun hg => ?_) ?_
  · have hg7_9 := hg
    refine wl_on rfl rfl rfl rfl hg7_9 ?_
    refine wl_det rfl rfl (det_move rfl) rfl ?_
    refine wl_on rfl rfl rfl rfl hg7_9 ?_
    refine wl_det rfl rfl (det_eql rfl rfl) rfl ?_
    refine wl_det rfl rfl (det_and_on rfl rfl rfl hg7_9) rfl ?_
    exact wl_nil (pn_qnE (ext_cons rfl (ext_skip rfl (ext_skip rfl (ext_skip rfl ext_refl)))) (fun _ h => h))
  · have hg7_9a := hg
    refine wl_off rfl rfl rfl rfl rfl hg7_9a rfl ?_
    refine wl_off rfl rfl rfl rfl rfl hg7_9a rfl ?_
    refine wl_det rfl rfl (det_and_off (q := (decide (r6_4.2 = 0))) rfl rfl rfl hg7_9a) rfl ?_
    exact wl_nil (pn_qnE (ext_cons rfl (ext_skip rfl (ext_skip rfl (ext_skip rfl ext_refl)))) (fun _ h => h))
  refine wl_det rfl rfl (det_move rfl) rfl ?_
  refine wl_way (((decide (r3_4.2 = 0)) && (decide (r4_1.2.2 = 0))) && (decide (r6_4.2 = 0))) ((((decide (r3_4.2 = 0)) && (decide (r4_1.2.2 = 0))) && (decide (r6_4.2 = 0))) && (decide ((r4_1.2.1.length : Int) = 3))) 4 49 (fun hg => ?_) (fun hg => ?_) ?_
  · have hg7_14 := hg
    refine wl_on rfl rfl rfl rfl hg7_14 ?_
    refine wl_det rfl rfl (det_move rfl) rfl ?_
    refine wl_on rfl rfl rfl rfl hg7_14 ?_
    refine wl_det rfl rfl (det_len rfl un23) rfl ?_
    refine wl_on rfl rfl rfl rfl hg7_14 ?_
    refine wl_det rfl rfl (det_eql rfl rfl) rfl ?_
    refine wl_det rfl rfl (det_and_on rfl rfl rfl hg7_14) rfl ?_
    exact wl_nil (pn_qnE (ext_cons rfl (ext_skip rfl (ext_skip rfl (ext_skip rfl (ext_skip rfl ext_refl))))) (fun _ h => h))
  · have hg7_14a := hg
    refine wl_off rfl rfl rfl rfl rfl hg7_14a rfl ?_
    refine wl_off rfl rfl rfl rfl rfl hg7_14a rfl ?_
    refine wl_off rfl rfl rfl rfl rfl hg7_14a rfl ?_
    refine wl_det rfl rfl (det_and_off (q := (decide ((r4_1.2.1.length : Int) = 3))) rfl rfl rfl hg7_14a) rfl ?_
    exact wl_nil (pn_qnE (ext_cons rfl (ext_skip rfl (ext_skip rfl (ext_skip rfl (ext_skip rfl ext_refl))))) (fun _ h => h))
  refine wl_det rfl rfl (det_move rfl) rfl ?_
  obtain ⟨q7_22, hq7_22, h⟩ := bind_some h
  have ho7_22 := h
  refine wl_way ((((decide (r3_4.2 = 0)) && (decide (r4_1.2.2 = 0))) && (decide (r6_4.2 = 0))) && (decide ((r4_1.2.1.length : Int) = 3))) q7_22 7 57 (fun hg => ?_) (fun hg => ?_) ?_
  · have hg7_22 := hg
    have h := ifT hq7_22 hg
    refine wl_on rfl rfl rfl rfl hg7_22 ?_
    refine wl_det rfl rfl (det_move rfl) rfl ?_
    refine wl_on rfl rfl rfl rfl hg7_22 ?_
    obtain ⟨k7_17, h⟩ := chk_some h
    refine wl_det rfl rfl (det_indexO rfl rfl (ms (ms (ms m0))) k7_17 un23 sz61) rfl ?_
    refine wl_on rfl rfl rfl rfl hg7_22 ?_
    refine wl_det rfl rfl (det_fieldO rfl (ms (ms (ms m0))) k7_17 fd61_2 rfl) rfl ?_
    refine wl_on rfl rfl rfl rfl hg7_22 ?_
    refine wl_det rfl rfl (det_loadO (off := 2) rfl (ms (ms (ms m0))) k7_17 (by rfl) (by rfl) (loaded_n (cells := [_, _, _, _, _]) ag43 sz43)) rfl ?_
    refine wl_on rfl rfl rfl rfl hg7_22 ?_
    refine wl_det rfl rfl (det_build (cs := [_, _, _, _, _]) pl43 zr43 rfl rfl (by rfl)) rfl ?_
    refine wl_on rfl rfl rfl rfl hg7_22 ?_
    refine wl_det rfl rfl (det_eqlS [_, _, _, _, _] [_, _, _, _, _] eq43 rfl rfl rfl rfl) rfl ?_
    replace h := Option.some.inj h
    subst h
    refine wl_det rfl rfl (det_pick_on rfl hg7_22 rfl rfl) rfl ?_
    exact wl_nil (pn_qnE (ext_cons rfl (ext_skip rfl (ext_skip rfl (ext_skip rfl (ext_skip rfl (ext_skip rfl (ext_skip rfl (ext_skip rfl ext_refl)))))))) (fun _ h => h))
  · have hg7_22a := hg
    have h := ifF hq7_22 hg
    refine wl_off rfl rfl rfl rfl rfl hg7_22a rfl ?_
    refine wl_off rfl rfl rfl rfl rfl hg7_22a rfl ?_
    refine wl_off rfl rfl rfl rfl rfl hg7_22a rfl ?_
    refine wl_off rfl rfl rfl rfl rfl hg7_22a rfl ?_
    refine wl_off rfl rfl rfl rfl rfl hg7_22a rfl ?_
    refine wl_off rfl rfl rfl rfl rfl hg7_22a rfl ?_
    replace h := Option.some.inj h
    subst h
    refine wl_det rfl rfl (det_pick_off rfl hg7_22a rfl rfl) rfl ?_
    exact wl_nil (pn_qnE (ext_cons rfl (ext_skip rfl (ext_skip rfl (ext_skip rfl (ext_skip rfl (ext_skip rfl (ext_skip rfl (ext_skip rfl ext_refl)))))))) (fun _ h => h))
  have h := ho7_22
  refine wl_det rfl rfl (det_move rfl) rfl ?_
  obtain ⟨q7_29, hq7_29, h⟩ := bind_some h
  have ho7_29 := h
  refine wl_way q7_22 q7_29 6 64 (fun hg => ?_) (fun hg => ?_) ?_
  · have hg7_29 := hg
    have h := ifT hq7_29 hg
    refine wl_on rfl rfl rfl rfl hg7_29 ?_
    refine wl_det rfl rfl (det_move rfl) rfl ?_
    refine wl_on rfl rfl rfl rfl hg7_29 ?_
    refine wl_det rfl rfl (det_loadN (cells := [_, _, _, _, _]) rfl (ms (ms (ms (ms (ms (ms (ms m0))))))) (by rfl) ag43 sz43) rfl ?_
    refine wl_on rfl rfl rfl rfl hg7_29 ?_
    refine wl_det rfl rfl (det_build (cs := [_, _, _, _, _]) pl43 zr43 rfl rfl (by rfl)) rfl ?_
    refine wl_on rfl rfl rfl rfl hg7_29 ?_
    refine wl_act (act_litS lGEntry (vs := [_, _]) (cs := [_, _, _, _, _, _, _, _, _, _]) [(GEntry.mk 1 5 2 7 30), (GEntry.mk 2 5 0 7 30)] un29 in43 rfl rfl rfl rfl rfl ⟨rfl, rfl, trivial⟩ (by rfl) rfl (litR_flat rfl)) rfl rfl rfl ?_
    rintro _ _ _ ⟨A7_27, rfl, rfl, rfl⟩
    refine wl_on rfl rfl rfl rfl hg7_29 ?_
    obtain ⟨r7_28, hr7_28, h⟩ := bind_some h
    refine wl_act (act_callL (cap := []) [eS lGEntry 43 y6_4A0 r6_4.1.length y6_4c0 r6_4.1, eS lGEntry 43 A7_27 2 2 [(GEntry.mk 1 5 2 7 30), (GEntry.mk 2 5 0 7 30)]] (W_treatyref33_SameEntries r6_4.1 [(GEntry.mk 1 5 2 7 30), (GEntry.mk 2 5 0 7 30)] y6_4A0 r6_4.1.length y6_4c0 A7_27 2 2 r7_28 hr7_28) plains_treatyref33_SameEntries rfl rfl rfl bd11 rfl ⟨(ms m0), ⟨m0, trivial⟩⟩ ⟨.inr ⟨_, m0, lent_eS⟩, ⟨.inr ⟨_, (ms m0), lent_eS⟩, trivial⟩⟩) rfl rfl rfl ?_
    rintro _ _ _ ⟨_, _, ⟨rfl, rfl, rfl⟩, rfl, rfl⟩
    dsimp only [List.nil_append, List.cons_append]
    replace h := Option.some.inj h
    subst h
    refine wl_det rfl rfl (det_pick_on rfl hg7_29 rfl rfl) rfl ?_
    exact wl_nil (pn_qnE (ext_cons rfl (ext_skip rfl (ext_skip rfl (ext_skip rfl (ext_skip rfl (ext_skip rfl (ext_skip rfl ext_refl))))))) (fun _ h => h.to ⟨_, (rs r0), ⟨_, (rs r0), ⟨_, (rs r0), ⟨_, (rs r0), ⟨_, (rs r0), ⟨_, (rs r0), ⟨_, (rs r0), ⟨_, (rs r0), trivial⟩⟩⟩⟩⟩⟩⟩⟩ ⟨m0, ⟨(ms m0), ⟨(ms (ms m0)), trivial⟩⟩⟩))
  · have hg7_29a := hg
    have h := ifF hq7_29 hg
    refine wl_off rfl rfl rfl rfl rfl hg7_29a rfl ?_
    refine wl_off rfl rfl rfl rfl rfl hg7_29a rfl ?_
    refine wl_off rfl rfl rfl rfl rfl hg7_29a rfl ?_
    refine wl_off rfl rfl rfl rfl rfl hg7_29a rfl ?_
    refine wl_off rfl rfl rfl rfl rfl hg7_29a rfl ?_
    replace h := Option.some.inj h
    subst h
    refine wl_det rfl rfl (det_pick_off rfl hg7_29a rfl rfl) rfl ?_
    exact wl_nil (pn_qnE (ext_cons rfl (ext_skip rfl (ext_skip rfl (ext_skip rfl (ext_skip rfl (ext_skip rfl (ext_skip rfl ext_refl))))))) (fun _ h => h))
  have h := ho7_29
  refine wl_det rfl rfl (det_assign rfl) rfl ?_
  refine wl_nil ?_
  refine pn_then ?_
  refine wc_ret ?_
  replace h := Option.some.inj h
  subst h
  refine pn_ret (vs := [_]) rfl ⟨rfl, trivial⟩ ⟨rfl, rfl, rfl⟩ (fun _ h => h.to trivial trivial)
def Q_treatylaw36_CommuteLater (r : Bool) : Value → List Ent → List Fact → Prop := fun v θ κ => v = .bool r ∧ θ = [] ∧ κ = []
theorem plains_treatylaw36_CommuteLater {r : Bool} : ∀ v θ κ, Q_treatylaw36_CommuteLater r v θ κ → Plains θ := by
  rintro _ _ _ ⟨rfl, rfl, rfl⟩
  exact trivial
set_option maxHeartbeats 4000000 in
set_option maxRecDepth 100000 in
theorem W_treatylaw36_CommuteLater (a0 : (List Int)) (a1 : (List Int)) (a2 : Int) (a3 : Int) (A0 : Option Addr) (n0 : Nat) (c0 : Nat) (A3 : Option Addr) (n3 : Nat) (c3 : Nat) (r : Bool) (h : treatylaw36_CommuteLater a0 a1 a2 a3 = some r) : Spec Try.prog 5 [.slice A0 n0 c0, .slice A3 n3 c3, .int .u8 a2, .int .u8 a3] [] [fV (lSlice (lInt .i64)) (.slice A0 n0 c0) a0, fV (lSlice (lInt .i64)) (.slice A3 n3 c3) a1] (Q_treatylaw36_CommuteLater r) := by
  unfold treatylaw36_CommuteLater at h
  refine spec_of (σ := [(0, _), (1, _), (2, _), (3, _)]) Try.func5 rfl rfl rfl rfl ?_
  intro C
  refine wc_know (fun _ h => h.lenF m0) (fun e => ?_)
  subst e
  refine wc_know (fun _ h => h.lenF (ms m0)) (fun e => ?_)
  subst e
  refine wc_seq ?_
  refine wc_region ?_   -- region 0
  refine wl_det rfl rfl (det_assign rfl) rfl ?_
  refine wl_nil ?_
  refine pn_then ?_
  refine wc_seq ?_
  refine wc_region ?_   -- region 1
  refine wl_det rfl rfl (det_move rfl) rfl ?_
  obtain ⟨r1_1, hr1_1, h⟩ := bind_some h
  refine wl_act (act_callS (cap := []) (W_treatymade2_New a0 A0 a0.length c0 r1_1 hr1_1) rfl rfl rfl bd7 rfl ⟨m0, trivial⟩) rfl rfl rfl ?_
  rintro _ _ _ ⟨_, _, ⟨y1_1b0, y1_1A1, y1_1n1, y1_1c1, rfl, rfl, rfl⟩, rfl, rfl⟩
  dsimp only [List.nil_append, List.cons_append]
  refine wl_know (fun _ h => h.lenF m0) (fun e => ?_)
  subst e
  obtain ⟨r1_2, hr1_2, h⟩ := bind_some h
  refine wl_act (act_callS (cap := []) (W_treatymade2_Ledger r1_1 6 y1_1b0 y1_1A1 r1_1.L.length y1_1c1 r1_2 hr1_2) rfl rfl rfl bd6 ⟨_, r0, rfl⟩ ⟨m0, trivial⟩) rfl rfl rfl ?_
  rintro _ _ _ ⟨_, _, ⟨y1_2A0, y1_2n0, y1_2c0, y1_2A1, y1_2n1, y1_2c1, rfl, rfl, rfl⟩, rfl, rfl⟩
  dsimp only [List.nil_append, List.cons_append]
  refine wl_know (fun _ h => h.lenO m0) (fun e => ?_)
  subst e
  refine wl_know (fun _ h => h.lenF m0) (fun e => ?_)
  subst e
  refine wl_act (act_alloc (cs := [_, _]) zr25 rfl) rfl rfl rfl ?_
  rintro _ _ _ ⟨b1_3, rfl, rfl, rfl⟩
  refine wl_act0 (act_store (cells := [_, _]) (cs' := [_, _]) rfl rfl rfl s0 (by rfl) (of_decide_eq_true rfl) sz25 ⟨rfl, rfl, trivial⟩) rfl rfl ?_
  rintro _ _ _ ⟨rfl, rfl⟩
  refine wl_nil ?_
  refine pn_then ?_
  refine wc_seq ?_
  refine wc_region ?_   -- region 2
  refine wl_det rfl rfl (det_move rfl) rfl ?_
  refine wl_det rfl rfl (det_conv rfl us5 un3) rfl ?_
  refine wl_det rfl rfl (det_band rfl rfl) rfl ?_
  refine wl_det rfl rfl (det_add rfl rfl) rfl ?_
  refine wl_det rfl rfl (det_move rfl) rfl ?_
  refine wl_det rfl rfl (det_conv rfl us5 un3) rfl ?_
  refine wl_det rfl rfl (det_band rfl rfl) rfl ?_
  refine wl_det rfl rfl (det_add rfl rfl) rfl ?_
  refine wl_det rfl rfl (det_assign rfl) rfl ?_
  refine wl_det rfl rfl (det_assign rfl) rfl ?_
  refine wl_nil ?_
  refine pn_then ?_
  refine wc_seq ?_
  refine wc_region ?_   -- region 3
  refine wl_det rfl rfl (det_loadN (cells := [_, _]) rfl m0 (by rfl) ag25 sz25) rfl ?_
  refine wl_det rfl rfl (det_move rfl) rfl ?_
  refine wl_det rfl rfl (det_move rfl) rfl ?_
  refine wl_st (fun _ h => h.shutS (rs r0)) ?_
  obtain ⟨r3_3, hr3_3, h⟩ := bind_some h
  refine wl_act (act_callS (cap := []) (W_commute_Commute r1_2.1 (w64 ((bAnd .i64 (w64 a2) 3) + 1)) (w64 ((bAnd .i64 (w64 a3) 3) + 1)) 0 y1_2A0 r1_2.1.Postings.length y1_2c0 r3_3 hr3_3) rfl rfl rfl bd13 rfl ⟨m0, trivial⟩) rfl rfl rfl ?_
  rintro _ _ _ ⟨_, _, ⟨y3_3A0, y3_3n0, y3_3c0, y3_3A1, y3_3n1, y3_3c1, rfl, rfl, rfl⟩, rfl, rfl⟩
  dsimp only [List.nil_append, List.cons_append]
  refine wl_know (fun _ h => h.lenF m0) (fun e => ?_)
  subst e
  refine wl_know (fun _ h => h.lenO m0) (fun e => ?_)
  subst e
  refine wl_det rfl rfl (det_move rfl) rfl ?_
  refine wl_det rfl rfl (det_extract rfl rfl) rfl ?_
  refine wl_det rfl rfl (det_extract rfl rfl) rfl ?_
  refine wl_det rfl rfl (det_extract rfl rfl) rfl ?_
  refine wl_act0 (act_store (cells := [_, _]) (cs' := [_, _]) rfl rfl rfl (ss s0) (by rfl) (of_decide_eq_true rfl) sz25 ⟨rfl, rfl, trivial⟩) rfl rfl ?_
  rintro _ _ _ ⟨rfl, rfl⟩
  refine wl_det rfl rfl (det_assign rfl) rfl ?_
  refine wl_det rfl rfl (det_assign rfl) rfl ?_
  refine wl_nil ?_
  refine pn_then ?_
  refine wc_seq ?_
  refine wc_region ?_   -- region 4
  refine wl_det rfl rfl (det_move rfl) rfl ?_
  obtain ⟨r4_1, hr4_1, h⟩ := bind_some h
  refine wl_act (act_callS (cap := []) (W_treatymade2_New a1 A3 a1.length c3 r4_1 hr4_1) rfl rfl rfl bd7 rfl ⟨(ms (ms (ms (ms (ms m0))))), trivial⟩) rfl rfl rfl ?_
  rintro _ _ _ ⟨_, _, ⟨y4_1b0, y4_1A1, y4_1n1, y4_1c1, rfl, rfl, rfl⟩, rfl, rfl⟩
  dsimp only [List.nil_append, List.cons_append]
  refine wl_know (fun _ h => h.lenF m0) (fun e => ?_)
  subst e
  obtain ⟨r4_2, hr4_2, h⟩ := bind_some h
  refine wl_act (act_callS (cap := []) (W_treatymade2_Target r4_1 12 y4_1b0 y4_1A1 r4_1.L.length y4_1c1 r4_2 hr4_2) rfl rfl rfl bd8 ⟨_, r0, rfl⟩ ⟨m0, trivial⟩) rfl rfl rfl ?_
  rintro _ _ _ ⟨_, _, ⟨y4_2A0, y4_2n0, y4_2c0, y4_2A1, y4_2n1, y4_2c1, rfl, rfl, rfl⟩, rfl, rfl⟩
  dsimp only [List.nil_append, List.cons_append]
  refine wl_know (fun _ h => h.lenO m0) (fun e => ?_)
  subst e
  refine wl_know (fun _ h => h.lenF m0) (fun e => ?_)
  subst e
  refine wl_det rfl rfl (det_assign rfl) rfl ?_
  refine wl_nil ?_
  refine pn_then ?_
  refine wc_seq ?_
  refine wc_region ?_   -- region 5
  refine wl_det rfl rfl (det_loadN (cells := [_, _]) rfl (ms (ms (ms m0))) (by rfl) ag25 sz25) rfl ?_
  refine wl_det rfl rfl (det_move rfl) rfl ?_
  refine wl_det rfl rfl (det_move rfl) rfl ?_
  refine wl_det rfl rfl (det_move rfl) rfl ?_
  obtain ⟨r5_4, hr5_4, h⟩ := bind_some h
  refine wl_act (act_callL (cap := []) [eS lGEntry 43 y4_2A0 r4_2.1.length y4_2c0 r4_2.1] (W_commute_Redirect r3_3.1 r4_2.1 (w64 ((bAnd .i64 (w64 a2) 3) + 1)) (w64 ((bAnd .i64 (w64 a3) 3) + 1)) y3_3A0 r3_3.1.Postings.length y3_3c0 y4_2A0 r4_2.1.length y4_2c0 r5_4 hr5_4) plains_commute_Redirect rfl rfl rfl bd9 rfl ⟨m0, trivial⟩ ⟨.inl (ms (ms m0)), ⟨.inr ⟨_, m0, lent_eS⟩, trivial⟩⟩) rfl rfl rfl ?_
  rintro _ _ _ ⟨_, _, ⟨y5_4A0, y5_4n0, y5_4c0, rfl, rfl, rfl⟩, rfl, rfl⟩
  dsimp only [List.nil_append, List.cons_append]
  refine wl_know (fun _ h => h.lenO m0) (fun e => ?_)
  subst e
  refine wl_det rfl rfl (det_move rfl) rfl ?_
  refine wl_det rfl rfl (det_extract rfl rfl) rfl ?_
  refine wl_det rfl rfl (det_extract rfl rfl) rfl ?_
  refine wl_det rfl rfl (det_assign rfl) rfl ?_
  refine wl_det rfl rfl (det_assign rfl) rfl ?_
  refine wl_nil ?_
  refine pn_then ?_
  refine wc_seq ?_
  refine wc_region ?_   -- region 6
  refine wl_det rfl rfl (det_loadN (cells := [_, _]) rfl (ms (ms (ms (ms m0)))) (by rfl) ag25 sz25) rfl ?_
  refine wl_det rfl rfl (det_move rfl) rfl ?_
  refine wl_det rfl rfl (det_move rfl) rfl ?_
  refine wl_det rfl rfl (det_move rfl) rfl ?_
  obtain ⟨r6_4, hr6_4, h⟩ := bind_some h
  refine wl_act (act_callL (cap := []) [eS lGEntry 43 y5_4A0 r5_4.1.length y5_4c0 r5_4.1] (W_commute_Redirect r3_3.1 r5_4.1 (w64 ((bAnd .i64 (w64 a2) 3) + 1)) (w64 ((bAnd .i64 (w64 a3) 3) + 1)) y3_3A0 r3_3.1.Postings.length y3_3c0 y5_4A0 r5_4.1.length y5_4c0 r6_4 hr6_4) plains_commute_Redirect rfl rfl rfl bd9 rfl ⟨m0, trivial⟩ ⟨.inl (ms (ms m0)), ⟨.inr ⟨_, m0, lent_eS⟩, trivial⟩⟩) rfl rfl rfl ?_
  rintro _ _ _ ⟨_, _, ⟨y6_4A0, y6_4n0, y6_4c0, rfl, rfl, rfl⟩, rfl, rfl⟩
  dsimp only [List.nil_append, List.cons_append]
  refine wl_know (fun _ h => h.lenO m0) (fun e => ?_)
  subst e
  refine wl_det rfl rfl (det_move rfl) rfl ?_
  refine wl_det rfl rfl (det_extract rfl rfl) rfl ?_
  refine wl_det rfl rfl (det_extract rfl rfl) rfl ?_
  refine wl_det rfl rfl (det_assign rfl) rfl ?_
  refine wl_det rfl rfl (det_assign rfl) rfl ?_
  refine wl_nil ?_
  refine pn_then ?_
  refine wc_seq ?_
  refine wc_region ?_   -- region 7
  refine wl_det rfl rfl (det_loadN (cells := [_, _]) rfl (ms (ms (ms (ms (ms m0))))) (by rfl) ag25 sz25) rfl ?_
  refine wl_det rfl rfl (det_move rfl) rfl ?_
  refine wl_st (fun _ h => h.shutS (rs r0)) ?_
  obtain ⟨r7_2, hr7_2, h⟩ := bind_some h
  refine wl_act (act_callS (cap := []) (W_ledger_Restate r3_3.1 r5_4.1 y3_3A0 r3_3.1.Postings.length y3_3c0 y5_4A0 r5_4.1.length y5_4c0 r7_2 hr7_2) rfl rfl rfl bd15 rfl ⟨(ms (ms (ms m0))), ⟨m0, trivial⟩⟩) rfl rfl rfl ?_
  rintro _ _ _ ⟨_, _, ⟨y7_2A0, y7_2n0, y7_2c0, y7_2A1, y7_2n1, y7_2c1, rfl, rfl, rfl⟩, rfl, rfl⟩
  dsimp only [List.nil_append, List.cons_append]
  refine wl_know (fun _ h => h.lenF m0) (fun e => ?_)
  subst e
  refine wl_know (fun _ h => h.lenO m0) (fun e => ?_)
  subst e
  refine wl_det rfl rfl (det_move rfl) rfl ?_
  refine wl_det rfl rfl (det_extract rfl rfl) rfl ?_
  refine wl_det rfl rfl (det_extract rfl rfl) rfl ?_
  refine wl_det rfl rfl (det_extract rfl rfl) rfl ?_
  refine wl_act (act_alloc (cs := [_, _]) zr25 rfl) rfl rfl rfl ?_
  rintro _ _ _ ⟨b7_7, rfl, rfl, rfl⟩
  refine wl_act0 (act_store (cells := [_, _]) (cs' := [_, _]) rfl rfl rfl s0 (by rfl) (of_decide_eq_true rfl) sz25 ⟨rfl, rfl, trivial⟩) rfl rfl ?_
  rintro _ _ _ ⟨rfl, rfl⟩
  refine wl_det rfl rfl (det_assign rfl) rfl ?_
  refine wl_det rfl rfl (det_assign rfl) rfl ?_
  refine wl_nil ?_
  refine pn_then ?_
  refine wc_seq ?_
  refine wc_region ?_   -- region 8
  refine wl_det rfl rfl (det_loadN (cells := [_, _]) rfl m0 (by rfl) ag25 sz25) rfl ?_
  refine wl_det rfl rfl (det_move rfl) rfl ?_
  refine wl_det rfl rfl (det_move rfl) rfl ?_
  refine wl_det rfl rfl (det_move rfl) rfl ?_
  obtain ⟨r8_4, hr8_4, h⟩ := bind_some h
  refine wl_act (act_callL (cap := []) [eS lGEntry 43 y4_2A0 r4_2.1.length y4_2c0 r4_2.1] (W_commute_Redirect r7_2.1 r4_2.1 (w64 ((bAnd .i64 (w64 a2) 3) + 1)) (w64 ((bAnd .i64 (w64 a3) 3) + 1)) y7_2A0 r7_2.1.Postings.length y7_2c0 y4_2A0 r4_2.1.length y4_2c0 r8_4 hr8_4) plains_commute_Redirect rfl rfl rfl bd9 rfl ⟨(ms (ms (ms m0))), trivial⟩ ⟨.inl m0, ⟨.inr ⟨_, m0, lent_eS⟩, trivial⟩⟩) rfl rfl rfl ?_
  rintro _ _ _ ⟨_, _, ⟨y8_4A0, y8_4n0, y8_4c0, rfl, rfl, rfl⟩, rfl, rfl⟩
  dsimp only [List.nil_append, List.cons_append]
  refine wl_know (fun _ h => h.lenO m0) (fun e => ?_)
  subst e
  refine wl_det rfl rfl (det_move rfl) rfl ?_
  refine wl_det rfl rfl (det_extract rfl rfl) rfl ?_
  refine wl_det rfl rfl (det_extract rfl rfl) rfl ?_
  refine wl_det rfl rfl (det_assign rfl) rfl ?_
  refine wl_det rfl rfl (det_assign rfl) rfl ?_
  refine wl_nil ?_
  refine pn_then ?_
  refine wc_seq ?_
  refine wc_region ?_   -- region 9
  refine wl_det rfl rfl (det_loadN (cells := [_, _]) rfl (ms (ms (ms (ms (ms (ms (ms m0))))))) (by rfl) ag25 sz25) rfl ?_
  refine wl_det rfl rfl (det_field rfl fd25_0 rfl) rfl ?_
  refine wl_det rfl rfl (det_load rfl (ms (ms (ms (ms (ms (ms (ms m0))))))) (by rfl) na3 us3) rfl ?_
  refine wl_det rfl rfl (det_add rfl rfl) rfl ?_
  obtain ⟨r9_4, hr9_4, h⟩ := bind_some h
  refine wl_act (act_callS (cap := []) (W_ledger_Totals r3_3.1 (w64 (r3_3.1.Closed + 1)) y3_3A0 r3_3.1.Postings.length y3_3c0 r9_4 hr9_4) rfl rfl rfl bd14 rfl ⟨(ms (ms (ms (ms m0)))), trivial⟩) rfl rfl rfl ?_
  rintro _ _ _ ⟨_, _, ⟨y9_4A0, y9_4n0, y9_4c0, rfl, rfl, rfl⟩, rfl, rfl⟩
  dsimp only [List.nil_append, List.cons_append]
  refine wl_know (fun _ h => h.lenO m0) (fun e => ?_)
  subst e
  refine wl_det rfl rfl (det_move rfl) rfl ?_
  refine wl_det rfl rfl (det_extract rfl rfl) rfl ?_
  refine wl_det rfl rfl (det_extract rfl rfl) rfl ?_
  refine wl_det rfl rfl (det_assign rfl) rfl ?_
  refine wl_det rfl rfl (det_assign rfl) rfl ?_
  refine wl_nil ?_
  refine pn_then ?_
  refine wc_seq ?_
  refine wc_seq ?_
  refine wc_region ?_   -- region 10
  refine wl_det rfl rfl (det_move rfl) rfl ?_
  refine wl_det rfl rfl (det_neq rfl rfl) rfl ?_
  refine wl_det rfl rfl (det_move rfl) rfl ?_
  refine wl_way (!decide (r3_3.2.2 = 0)) ((!decide (r3_3.2.2 = 0)) || (!decide (r5_4.2 = 0))) 3 98 (fun hg => ?_) (fun hg => ?_) ?_
  · have hg10_5 := hg
    refine wl_off rfl rfl rfl rfl rfl hg10_5 rfl ?_
    refine wl_off rfl rfl rfl rfl rfl hg10_5 rfl ?_
    refine wl_det rfl rfl (det_or_on (r := (!decide (r5_4.2 = 0))) rfl rfl rfl hg10_5) rfl ?_
    exact wl_nil (pn_qnE (ext_cons rfl (ext_skip rfl (ext_skip rfl (ext_skip rfl ext_refl)))) (fun _ h => h))
  · have hg10_5a := hg
    refine wl_on rfl rfl rfl rfl hg10_5a ?_
    refine wl_det rfl rfl (det_move rfl) rfl ?_
    refine wl_on rfl rfl rfl rfl hg10_5a ?_
    refine wl_det rfl rfl (det_neq rfl rfl) rfl ?_
    refine wl_det rfl rfl (det_or_off rfl rfl rfl hg10_5a) rfl ?_
    exact wl_nil (pn_qnE (ext_cons rfl (ext_skip rfl (ext_skip rfl (ext_skip rfl ext_refl)))) (fun _ h => h))
  refine wl_det rfl rfl (det_move rfl) rfl ?_
  refine wl_way ((!decide (r3_3.2.2 = 0)) || (!decide (r5_4.2 = 0))) (((!decide (r3_3.2.2 = 0)) || (!decide (r5_4.2 = 0))) || (!decide (r6_4.2 = 0))) 3 102 (fun hg => ?_) (fun hg => ?_) ?_
  · have hg10_9 := hg
    refine wl_off rfl rfl rfl rfl rfl hg10_9 rfl ?_
    refine wl_off rfl rfl rfl rfl rfl hg10_9 rfl ?_
    refine wl_det rfl rfl (det_or_on (r := (!decide (r6_4.2 = 0))) rfl rfl rfl hg10_9) rfl ?_
    exact wl_nil (pn_qnE (ext_cons rfl (ext_skip rfl (ext_skip rfl (ext_skip rfl ext_refl)))) (fun _ h => h))
  · have hg10_9a := hg
    refine wl_on rfl rfl rfl rfl hg10_9a ?_
    refine wl_det rfl rfl (det_move rfl) rfl ?_
    refine wl_on rfl rfl rfl rfl hg10_9a ?_
    refine wl_det rfl rfl (det_neq rfl rfl) rfl ?_
    refine wl_det rfl rfl (det_or_off rfl rfl rfl hg10_9a) rfl ?_
    exact wl_nil (pn_qnE (ext_cons rfl (ext_skip rfl (ext_skip rfl (ext_skip rfl ext_refl)))) (fun _ h => h))
  refine wl_det rfl rfl (det_move rfl) rfl ?_
  refine wl_way (((!decide (r3_3.2.2 = 0)) || (!decide (r5_4.2 = 0))) || (!decide (r6_4.2 = 0))) ((((!decide (r3_3.2.2 = 0)) || (!decide (r5_4.2 = 0))) || (!decide (r6_4.2 = 0))) || (!decide (r7_2.2.2 = 0))) 3 106 (fun hg => ?_) (fun hg => ?_) ?_
  · have hg10_13 := hg
    refine wl_off rfl rfl rfl rfl rfl hg10_13 rfl ?_
    refine wl_off rfl rfl rfl rfl rfl hg10_13 rfl ?_
    refine wl_det rfl rfl (det_or_on (r := (!decide (r7_2.2.2 = 0))) rfl rfl rfl hg10_13) rfl ?_
    exact wl_nil (pn_qnE (ext_cons rfl (ext_skip rfl (ext_skip rfl (ext_skip rfl ext_refl)))) (fun _ h => h))
  · have hg10_13a := hg
    refine wl_on rfl rfl rfl rfl hg10_13a ?_
    refine wl_det rfl rfl (det_move rfl) rfl ?_
    refine wl_on rfl rfl rfl rfl hg10_13a ?_
    refine wl_det rfl rfl (det_neq rfl rfl) rfl ?_
    refine wl_det rfl rfl (det_or_off rfl rfl rfl hg10_13a) rfl ?_
    exact wl_nil (pn_qnE (ext_cons rfl (ext_skip rfl (ext_skip rfl (ext_skip rfl ext_refl)))) (fun _ h => h))
  refine wl_det rfl rfl (det_move rfl) rfl ?_
  refine wl_way ((((!decide (r3_3.2.2 = 0)) || (!decide (r5_4.2 = 0))) || (!decide (r6_4.2 = 0))) || (!decide (r7_2.2.2 = 0))) (((((!decide (r3_3.2.2 = 0)) || (!decide (r5_4.2 = 0))) || (!decide (r6_4.2 = 0))) || (!decide (r7_2.2.2 = 0))) || (!decide (r8_4.2 = 0))) 3 110 (fun hg => ?_) (fun hg => ?_) ?_
  · have hg10_17 := hg
    refine wl_off rfl rfl rfl rfl rfl hg10_17 rfl ?_
    refine wl_off rfl rfl rfl rfl rfl hg10_17 rfl ?_
    refine wl_det rfl rfl (det_or_on (r := (!decide (r8_4.2 = 0))) rfl rfl rfl hg10_17) rfl ?_
    exact wl_nil (pn_qnE (ext_cons rfl (ext_skip rfl (ext_skip rfl (ext_skip rfl ext_refl)))) (fun _ h => h))
  · have hg10_17a := hg
    refine wl_on rfl rfl rfl rfl hg10_17a ?_
    refine wl_det rfl rfl (det_move rfl) rfl ?_
    refine wl_on rfl rfl rfl rfl hg10_17a ?_
    refine wl_det rfl rfl (det_neq rfl rfl) rfl ?_
    refine wl_det rfl rfl (det_or_off rfl rfl rfl hg10_17a) rfl ?_
    exact wl_nil (pn_qnE (ext_cons rfl (ext_skip rfl (ext_skip rfl (ext_skip rfl ext_refl)))) (fun _ h => h))
  refine wl_det rfl rfl (det_move rfl) rfl ?_
  refine wl_way (((((!decide (r3_3.2.2 = 0)) || (!decide (r5_4.2 = 0))) || (!decide (r6_4.2 = 0))) || (!decide (r7_2.2.2 = 0))) || (!decide (r8_4.2 = 0))) ((((((!decide (r3_3.2.2 = 0)) || (!decide (r5_4.2 = 0))) || (!decide (r6_4.2 = 0))) || (!decide (r7_2.2.2 = 0))) || (!decide (r8_4.2 = 0))) || (!decide (r9_4.2 = 0))) 3 114 (fun hg => ?_) (fun hg => ?_) ?_
  · have hg10_21 := hg
    refine wl_off rfl rfl rfl rfl rfl hg10_21 rfl ?_
    refine wl_off rfl rfl rfl rfl rfl hg10_21 rfl ?_
    refine wl_det rfl rfl (det_or_on (r := (!decide (r9_4.2 = 0))) rfl rfl rfl hg10_21) rfl ?_
    exact wl_nil (pn_qnE (ext_cons rfl (ext_skip rfl (ext_skip rfl (ext_skip rfl ext_refl)))) (fun _ h => h))
  · have hg10_21a := hg
    refine wl_on rfl rfl rfl rfl hg10_21a ?_
    refine wl_det rfl rfl (det_move rfl) rfl ?_
    refine wl_on rfl rfl rfl rfl hg10_21a ?_
    refine wl_det rfl rfl (det_neq rfl rfl) rfl ?_
    refine wl_det rfl rfl (det_or_off rfl rfl rfl hg10_21a) rfl ?_
    exact wl_nil (pn_qnE (ext_cons rfl (ext_skip rfl (ext_skip rfl (ext_skip rfl ext_refl)))) (fun _ h => h))
  refine wl_det rfl rfl (det_move rfl) rfl ?_
  obtain ⟨q10_27, hq10_27, h⟩ := bind_some h
  have ho10_27 := h
  refine wl_way ((((((!decide (r3_3.2.2 = 0)) || (!decide (r5_4.2 = 0))) || (!decide (r6_4.2 = 0))) || (!decide (r7_2.2.2 = 0))) || (!decide (r8_4.2 = 0))) || (!decide (r9_4.2 = 0))) q10_27 5 120 (fun hg => ?_) (fun hg => ?_) ?_
  · have hg10_27 := hg
    have h := ifT hq10_27 hg
    refine wl_off rfl rfl rfl rfl rfl hg10_27 rfl ?_
    refine wl_off rfl rfl rfl rfl rfl hg10_27 rfl ?_
    refine wl_off rfl rfl rfl rfl rfl hg10_27 rfl ?_
    refine wl_off rfl rfl rfl rfl rfl hg10_27 rfl ?_
    replace h := Option.some.inj h
    subst h
    refine wl_det rfl rfl (det_pick_on rfl hg10_27 rfl rfl) rfl ?_
    exact wl_nil (pn_qnE (ext_cons rfl (ext_skip rfl (ext_skip rfl (ext_skip rfl (ext_skip rfl (ext_skip rfl ext_refl)))))) (fun _ h => h))
  · have hg10_27a := hg
    have h := ifF hq10_27 hg
    refine wl_on rfl rfl rfl rfl hg10_27a ?_
    refine wl_det rfl rfl (det_move rfl) rfl ?_
    refine wl_on rfl rfl rfl rfl hg10_27a ?_
    refine wl_det rfl rfl (det_move rfl) rfl ?_
    refine wl_on rfl rfl rfl rfl hg10_27a ?_
    obtain ⟨r10_25, hr10_25, h⟩ := bind_some h
    refine wl_act (act_callL (cap := []) [eS lGEntry 43 y6_4A0 r6_4.1.length y6_4c0 r6_4.1] (W_treatyref33_SameEntries r5_4.1 r6_4.1 y5_4A0 r5_4.1.length y5_4c0 y6_4A0 r6_4.1.length y6_4c0 r10_25 hr10_25) plains_treatyref33_SameEntries rfl rfl rfl bd11 rfl ⟨(ms (ms (ms (ms m0)))), trivial⟩ ⟨.inl (ms m0), ⟨.inr ⟨_, m0, lent_eS⟩, trivial⟩⟩) rfl rfl rfl ?_
    rintro _ _ _ ⟨_, _, ⟨rfl, rfl, rfl⟩, rfl, rfl⟩
    dsimp only [List.nil_append, List.cons_append]
    refine wl_on rfl rfl rfl rfl hg10_27a ?_
    refine wl_det rfl rfl (det_not rfl) rfl ?_
    replace h := Option.some.inj h
    subst h
    refine wl_det rfl rfl (det_pick_off rfl hg10_27a rfl rfl) rfl ?_
    exact wl_nil (pn_qnE (ext_cons rfl (ext_skip rfl (ext_skip rfl (ext_skip rfl (ext_skip rfl (ext_skip rfl ext_refl)))))) (fun _ h => h))
  have h := ho10_27
  refine wl_det rfl rfl (det_move rfl) rfl ?_
  obtain ⟨q10_33, hq10_33, h⟩ := bind_some h
  have ho10_33 := h
  refine wl_way q10_27 q10_33 5 126 (fun hg => ?_) (fun hg => ?_) ?_
  · have hg10_33 := hg
    have h := ifT hq10_33 hg
    refine wl_off rfl rfl rfl rfl rfl hg10_33 rfl ?_
    refine wl_off rfl rfl rfl rfl rfl hg10_33 rfl ?_
    refine wl_off rfl rfl rfl rfl rfl hg10_33 rfl ?_
    refine wl_off rfl rfl rfl rfl rfl hg10_33 rfl ?_
    replace h := Option.some.inj h
    subst h
    refine wl_det rfl rfl (det_pick_on rfl hg10_33 rfl rfl) rfl ?_
    exact wl_nil (pn_qnE (ext_cons rfl (ext_skip rfl (ext_skip rfl (ext_skip rfl (ext_skip rfl (ext_skip rfl ext_refl)))))) (fun _ h => h))
  · have hg10_33a := hg
    have h := ifF hq10_33 hg
    refine wl_on rfl rfl rfl rfl hg10_33a ?_
    refine wl_det rfl rfl (det_move rfl) rfl ?_
    refine wl_on rfl rfl rfl rfl hg10_33a ?_
    refine wl_det rfl rfl (det_move rfl) rfl ?_
    refine wl_on rfl rfl rfl rfl hg10_33a ?_
    obtain ⟨r10_31, hr10_31, h⟩ := bind_some h
    refine wl_act (act_callL (cap := []) [eS lGEntry 43 y8_4A0 r8_4.1.length y8_4c0 r8_4.1] (W_treatyref33_SameEntries r5_4.1 r8_4.1 y5_4A0 r5_4.1.length y5_4c0 y8_4A0 r8_4.1.length y8_4c0 r10_31 hr10_31) plains_treatyref33_SameEntries rfl rfl rfl bd11 rfl ⟨(ms m0), trivial⟩ ⟨.inl (ms m0), ⟨.inr ⟨_, m0, lent_eS⟩, trivial⟩⟩) rfl rfl rfl ?_
    rintro _ _ _ ⟨_, _, ⟨rfl, rfl, rfl⟩, rfl, rfl⟩
    dsimp only [List.nil_append, List.cons_append]
    refine wl_on rfl rfl rfl rfl hg10_33a ?_
    refine wl_det rfl rfl (det_not rfl) rfl ?_
    replace h := Option.some.inj h
    subst h
    refine wl_det rfl rfl (det_pick_off rfl hg10_33a rfl rfl) rfl ?_
    exact wl_nil (pn_qnE (ext_cons rfl (ext_skip rfl (ext_skip rfl (ext_skip rfl (ext_skip rfl (ext_skip rfl ext_refl)))))) (fun _ h => h))
  have h := ho10_33
  refine wl_nil ?_
  refine pn_then ?_
  refine wc_cond rfl (fun cd23 => ?_) (fun cd23 => ?_)
  · have h := ifT h cd23
    refine wc_seq ?_
    refine wc_region ?_   -- region 11
    refine wl_det rfl rfl (det_assign rfl) rfl ?_
    refine wl_nil ?_
    refine pn_then ?_
    refine wc_ret ?_
    refine pr_then ?_
    replace h := Option.some.inj h
    subst h
    refine pn_ret (vs := [_]) rfl ⟨rfl, trivial⟩ ⟨rfl, rfl, rfl⟩ (fun _ h => h.to trivial trivial)
  · have h := ifF h cd23
    refine wc_skip ?_
    refine pn_then ?_
    refine wc_seq ?_
    refine wc_region ?_   -- region 12
    refine wl_det rfl rfl (det_assign rfl) rfl ?_
    refine wl_det rfl rfl (det_assign rfl) rfl ?_
    refine wl_nil ?_
    refine pn_then ?_
    obtain ⟨q28, h, ho28⟩ := bind_some h
    refine wc_meetG (G := (List GEntry) × Option Addr × Nat × Nat × Unit) (fun (s28, _, _, _, _) => s28 = q28) (fun (_, A28_0, n28_0, c28_0, _) => [(10, .int .i64 (w64 ((bAnd .i64 (w64 a2) 3) + 1))), (11, .int .i64 (w64 ((bAnd .i64 (w64 a3) 3) + 1))), (15, .slice y5_4A0 r5_4.1.length y5_4c0), (26, .slice A28_0 n28_0 c28_0), (27, .slice none 0 0)]) (fun (s28, A28_0, n28_0, c28_0, _) => [eS lGEntry 43 A28_0 n28_0 c28_0 s28]) (fun (_, _, _, _, _) => [fV (lSlice lGEntry) (.slice y5_4A0 r5_4.1.length y5_4c0) r5_4.1]) ?_ ?_
    · refine wc_seq ?_
      refine wc_region ?_   -- region 13
      refine wl_det rfl rfl (det_move rfl) rfl ?_
      refine wl_det rfl rfl (det_len rfl un29) rfl ?_
      refine wl_det rfl rfl (det_move rfl) rfl ?_
      refine wl_nil ?_
      refine pn_then ?_
      refine wc_block ?_
      refine wc_st (fun _ h => h.zeroS lGEntry 43 none) ?_
      obtain ⟨k32, hk32⟩ := loopV_some.1 h
      refine wc_loop (G := Nat × ((List GEntry) × Int) × Option Addr × Nat × Nat × Unit) (fun g => IterN (treatylaw36_CommuteLater_l32 a2 a3 r9_4) g.1 g.2.1 q28) (fun g => g.1) (fun (_, s32, A32_0, n32_0, c32_0, _) => [(10, .int .i64 (w64 ((bAnd .i64 (w64 a2) 3) + 1))), (11, .int .i64 (w64 ((bAnd .i64 (w64 a3) 3) + 1))), (15, .slice y5_4A0 r5_4.1.length y5_4c0), (26, .slice A32_0 n32_0 c32_0), (27, .slice none 0 0), (127, .slice y9_4A0 r9_4.1.length y9_4c0), (128, .int .i64 (r9_4.1.length : Int)), (129, .int .i64 s32.2)]) (fun (_, s32, A32_0, n32_0, c32_0, _) => [eS lGEntry 43 A32_0 n32_0 c32_0 s32.1, eS lGEntry 43 y9_4A0 r9_4.1.length y9_4c0 r9_4.1]) (fun (_, _, _, _, _, _) => [fV (lSlice lGEntry) (.slice y5_4A0 r5_4.1.length y5_4c0) r5_4.1]) (k32, ([], 0), none, 0, 0, ()) hk32 ⟨rfl, rfl, rfl, rfl, rfl, rfl, rfl, rfl, trivial⟩ (fun _ h => h.to ⟨_, r0, ⟨_, r0, trivial⟩⟩ ⟨(ms m0), trivial⟩) ?_
      rintro ⟨k32, s32, A32_0, n32_0, c32_0, _⟩ hI
      obtain ⟨k32, rfl, q32, h, g32⟩ := IterN.pos hI
      dsimp only at h ⊢
      unfold treatylaw36_CommuteLater_l32 at h
      refine wc_know (fun _ h => h.lenO m0) (fun e => ?_)
      subst e
      refine wc_seq ?_
      refine wc_region ?_   -- region 14
      refine wl_det rfl rfl (det_lss rfl rfl) rfl ?_
      refine wl_nil ?_
      refine pn_then ?_
      refine wc_seq ?_
      refine wc_cond rfl (fun cd36 => ?_) (fun cd36 => ?_)
      · have h := ifT h cd36
        refine wc_skip ?_
        refine pn_then ?_
        obtain ⟨q38, h, ho38⟩ := bind_some h
        refine wc_meetG (G := (List GEntry) × Option Addr × Nat × Nat × Unit) (fun (s38, _, _, _, _) => s38 = q38) (fun (_, A38_0, n38_0, c38_0, _) => [(10, .int .i64 (w64 ((bAnd .i64 (w64 a2) 3) + 1))), (11, .int .i64 (w64 ((bAnd .i64 (w64 a3) 3) + 1))), (15, .slice y5_4A0 r5_4.1.length y5_4c0), (26, .slice A38_0 n38_0 c38_0), (27, .slice none 0 0), (127, .slice y9_4A0 r9_4.1.length y9_4c0), (128, .int .i64 (r9_4.1.length : Int)), (129, .int .i64 s32.2)]) (fun (s38, A38_0, n38_0, c38_0, _) => [eS lGEntry 43 A38_0 n38_0 c38_0 s38, eS lGEntry 43 y9_4A0 r9_4.1.length y9_4c0 r9_4.1]) (fun (_, _, _, _, _) => [fV (lSlice lGEntry) (.slice y5_4A0 r5_4.1.length y5_4c0) r5_4.1]) ?_ ?_
        · refine wc_block ?_
          refine wc_seq ?_
          refine wc_region ?_   -- region 15
          obtain ⟨k15_0, h⟩ := chk_some h
          refine wl_det rfl rfl (det_indexO rfl rfl (ms m0) k15_0 un29 sz43) rfl ?_
          refine wl_det rfl rfl (det_loadO (off := 0) rfl (ms m0) k15_0 (by rfl) (by rfl) (loaded_n (cells := [_, _, _, _, _]) ag43 sz43)) rfl ?_
          refine wl_act (act_alloc (cs := [_, _, _, _, _]) zr43 rfl) rfl rfl rfl ?_
          rintro _ _ _ ⟨b15_2, rfl, rfl, rfl⟩
          refine wl_act0 (act_store (cells := [_, _, _, _, _]) (cs' := [_, _, _, _, _]) rfl rfl rfl s0 (by rfl) (of_decide_eq_true rfl) sz43 ⟨rfl, rfl, rfl, rfl, rfl, trivial⟩) rfl rfl ?_
          rintro _ _ _ ⟨rfl, rfl⟩
          refine wl_nil ?_
          refine pn_then ?_
          refine wc_seq ?_
          refine wc_region ?_   -- region 16
          refine wl_det rfl rfl (det_field rfl fd43_1 rfl) rfl ?_
          refine wl_det rfl rfl (det_load rfl m0 (by rfl) na3 us3) rfl ?_
          refine wl_det rfl rfl (det_move rfl) rfl ?_
          refine wl_det rfl rfl (det_eql rfl rfl) rfl ?_
          refine wl_det rfl rfl (det_move rfl) rfl ?_
          refine wl_way (decide ((ix r9_4.1 s32.2).Treaty = (w64 ((bAnd .i64 (w64 a2) 3) + 1)))) ((decide ((ix r9_4.1 s32.2).Treaty = (w64 ((bAnd .i64 (w64 a2) 3) + 1)))) && (decide ((ix r9_4.1 s32.2).Party = (w64 ((bAnd .i64 (w64 a3) 3) + 1))))) 5 142 (fun hg => ?_) (fun hg => ?_) ?_
          · have hg16_9 := hg
            refine wl_on rfl rfl rfl rfl hg16_9 ?_
            refine wl_det rfl rfl (det_field rfl fd43_2 rfl) rfl ?_
            refine wl_on rfl rfl rfl rfl hg16_9 ?_
            refine wl_det rfl rfl (det_load rfl m0 (by rfl) na3 us3) rfl ?_
            refine wl_on rfl rfl rfl rfl hg16_9 ?_
            refine wl_det rfl rfl (det_move rfl) rfl ?_
            refine wl_on rfl rfl rfl rfl hg16_9 ?_
            refine wl_det rfl rfl (det_eql rfl rfl) rfl ?_
            refine wl_det rfl rfl (det_and_on rfl rfl rfl hg16_9) rfl ?_
            exact wl_nil (pn_qnE (ext_cons rfl (ext_skip rfl (ext_skip rfl (ext_skip rfl (ext_skip rfl (ext_skip rfl ext_refl)))))) (fun _ h => h))
          · have hg16_9a := hg
            refine wl_off rfl rfl rfl rfl rfl hg16_9a rfl ?_
            refine wl_off rfl rfl rfl rfl rfl hg16_9a rfl ?_
            refine wl_off rfl rfl rfl rfl rfl hg16_9a rfl ?_
            refine wl_off rfl rfl rfl rfl rfl hg16_9a rfl ?_
            refine wl_det rfl rfl (det_and_off (q := (decide ((ix r9_4.1 s32.2).Party = (w64 ((bAnd .i64 (w64 a3) 3) + 1))))) rfl rfl rfl hg16_9a) rfl ?_
            exact wl_nil (pn_qnE (ext_cons rfl (ext_skip rfl (ext_skip rfl (ext_skip rfl (ext_skip rfl (ext_skip rfl ext_refl)))))) (fun _ h => h))
          refine wl_det rfl rfl (det_move rfl) rfl ?_
          refine wl_way ((decide ((ix r9_4.1 s32.2).Treaty = (w64 ((bAnd .i64 (w64 a2) 3) + 1)))) && (decide ((ix r9_4.1 s32.2).Party = (w64 ((bAnd .i64 (w64 a3) 3) + 1))))) (((decide ((ix r9_4.1 s32.2).Treaty = (w64 ((bAnd .i64 (w64 a2) 3) + 1)))) && (decide ((ix r9_4.1 s32.2).Party = (w64 ((bAnd .i64 (w64 a3) 3) + 1))))) && (decide ((ix r9_4.1 s32.2).Kind ≤ 3))) 4 147 (fun hg => ?_) (fun hg => ?_) ?_
          · have hg16_14 := hg
            refine wl_on rfl rfl rfl rfl hg16_14 ?_
            refine wl_det rfl rfl (det_field rfl fd43_0 rfl) rfl ?_
            refine wl_on rfl rfl rfl rfl hg16_14 ?_
            refine wl_det rfl rfl (det_load rfl m0 (by rfl) na3 us3) rfl ?_
            refine wl_on rfl rfl rfl rfl hg16_14 ?_
            refine wl_det rfl rfl (det_leq rfl rfl) rfl ?_
            refine wl_det rfl rfl (det_and_on rfl rfl rfl hg16_14) rfl ?_
            exact wl_nil (pn_qnE (ext_cons rfl (ext_skip rfl (ext_skip rfl (ext_skip rfl (ext_skip rfl ext_refl))))) (fun _ h => h))
          · have hg16_14a := hg
            refine wl_off rfl rfl rfl rfl rfl hg16_14a rfl ?_
            refine wl_off rfl rfl rfl rfl rfl hg16_14a rfl ?_
            refine wl_off rfl rfl rfl rfl rfl hg16_14a rfl ?_
            refine wl_det rfl rfl (det_and_off (q := (decide ((ix r9_4.1 s32.2).Kind ≤ 3))) rfl rfl rfl hg16_14a) rfl ?_
            exact wl_nil (pn_qnE (ext_cons rfl (ext_skip rfl (ext_skip rfl (ext_skip rfl (ext_skip rfl ext_refl))))) (fun _ h => h))
          refine wl_nil ?_
          refine pn_then ?_
          refine wc_cond rfl (fun cd44 => ?_) (fun cd44 => ?_)
          · have h := ifT h cd44
            refine wc_region ?_   -- region 17
            refine wl_det rfl rfl (det_move rfl) rfl ?_
            refine wl_det rfl rfl (det_loadN (cells := [_, _, _, _, _]) rfl m0 (by rfl) ag43 sz43) rfl ?_
            refine wl_act (act_litS lGEntry (vs := [_]) (cs := [_, _, _, _, _]) [(ix r9_4.1 s32.2)] un29 in43 rfl rfl rfl rfl rfl ⟨rfl, trivial⟩ (by rfl) rfl (litR_flat rfl)) rfl rfl rfl ?_
            rintro _ _ _ ⟨A17_2, rfl, rfl, rfl⟩
            obtain ⟨k17_3, h⟩ := chk_some h
            refine wl_act (act_appendS (L := lGEntry) rfl rfl (ss (ss s0)) (src_O m0) un29 in43 rfl rfl rfl k17_3) rfl rfl rfl ?_
            rintro _ _ _ ⟨A17_3, c17_3, rfl, rfl, rfl⟩
            refine wl_det rfl rfl (det_assign rfl) rfl ?_
            refine wl_nil ?_
            refine pn_block ?_
            replace h := Option.some.inj h
            subst h
            exact pn_meetG ((s32.1 ++ [(ix r9_4.1 s32.2)]), A17_3, (s32.1 ++ [(ix r9_4.1 s32.2)]).length, c17_3, ()) rfl ⟨rfl, rfl, rfl, rfl, rfl, rfl, rfl, rfl, trivial⟩ (fun _ h => h.to ⟨_, (rs (rs r0)), ⟨_, (rs (rs r0)), trivial⟩⟩ ⟨m0, trivial⟩)
          · have h := ifF h cd44
            refine wc_skip ?_
            refine pn_block ?_
            replace h := Option.some.inj h
            subst h
            exact pn_meetG (s32.1, A32_0, s32.1.length, c32_0, ()) rfl ⟨rfl, rfl, rfl, rfl, rfl, rfl, rfl, rfl, trivial⟩ (fun _ h => h.to ⟨_, (rs r0), ⟨_, (rs r0), trivial⟩⟩ ⟨m0, trivial⟩)
        rintro ⟨s38, A38_0, n38_0, c38_0, _⟩ e38
        dsimp only at e38 ⊢
        subst e38
        have h := ho38
        refine wc_know (fun _ h => h.lenO m0) (fun e => ?_)
        subst e
        refine wc_region ?_   -- region 18
        refine wl_det rfl rfl (det_add rfl rfl) rfl ?_
        refine wl_det rfl rfl (det_move rfl) rfl ?_
        refine wl_nil ?_
        replace h := Option.some.inj h
        subst h
        exact pn_some (k32, (s38, (w64 (s32.2 + 1))), A38_0, s38.length, c38_0, ()) ⟨nextL g32, Nat.lt_succ_self _⟩ ⟨rfl, rfl, rfl, rfl, rfl, rfl, rfl, rfl, trivial⟩ (fun _ h => h.to ⟨_, r0, ⟨_, r0, trivial⟩⟩ ⟨m0, trivial⟩)
      · have h := ifF h cd36
        refine wc_exit ?_
        refine px_then ?_
        refine px_then ?_
        refine px_block ?_
        replace h := Option.some.inj h
        subst h
        replace g32 := nextR g32
        subst g32
        exact pn_meetG (s32.1, A32_0, s32.1.length, c32_0, ()) rfl ⟨rfl, rfl, rfl, rfl, rfl, trivial⟩ (fun _ h => h.to ⟨_, r0, trivial⟩ ⟨m0, trivial⟩)
    rintro ⟨s28, A28_0, n28_0, c28_0, _⟩ e28
    dsimp only at e28 ⊢
    subst e28
    have h := ho28
    refine wc_know (fun _ h => h.lenO m0) (fun e => ?_)
    subst e
    obtain ⟨q47, h, ho47⟩ := bind_some h
    refine wc_meetG (G := (List GEntry) × Option Addr × Nat × Nat × Unit) (fun (s47, _, _, _, _) => s47 = q47) (fun (_, A47_0, n47_0, c47_0, _) => [(26, .slice A28_0 s28.length c28_0), (27, .slice A47_0 n47_0 c47_0)]) (fun (s47, A47_0, n47_0, c47_0, _) => [eS lGEntry 43 A28_0 s28.length c28_0 s28, eS lGEntry 43 A47_0 n47_0 c47_0 s47]) (fun (_, _, _, _, _) => []) ?_ ?_
    · refine wc_seq ?_
      refine wc_region ?_   -- region 19
      refine wl_det rfl rfl (det_move rfl) rfl ?_
      refine wl_det rfl rfl (det_len rfl un29) rfl ?_
      refine wl_det rfl rfl (det_move rfl) rfl ?_
      refine wl_nil ?_
      refine pn_then ?_
      refine wc_block ?_
      refine wc_st (fun _ h => h.zeroS lGEntry 43 none) ?_
      obtain ⟨k51, hk51⟩ := loopV_some.1 h
      refine wc_loop (G := Nat × ((List GEntry) × Int) × Option Addr × Nat × Nat × Unit) (fun g => IterN (treatylaw36_CommuteLater_l51 a2 a3 r5_4) g.1 g.2.1 q47) (fun g => g.1) (fun (_, s51, A51_0, n51_0, c51_0, _) => [(10, .int .i64 (w64 ((bAnd .i64 (w64 a2) 3) + 1))), (11, .int .i64 (w64 ((bAnd .i64 (w64 a3) 3) + 1))), (26, .slice A28_0 s28.length c28_0), (27, .slice A51_0 n51_0 c51_0), (153, .slice y5_4A0 r5_4.1.length y5_4c0), (154, .int .i64 (r5_4.1.length : Int)), (155, .int .i64 s51.2)]) (fun (_, s51, A51_0, n51_0, c51_0, _) => [eS lGEntry 43 A28_0 s28.length c28_0 s28, eS lGEntry 43 A51_0 n51_0 c51_0 s51.1]) (fun (_, _, _, _, _, _) => [fV (lSlice lGEntry) (.slice y5_4A0 r5_4.1.length y5_4c0) r5_4.1]) (k51, ([], 0), none, 0, 0, ()) hk51 ⟨rfl, rfl, rfl, rfl, rfl, rfl, rfl, trivial⟩ (fun _ h => h.to ⟨_, (rs r0), ⟨_, r0, trivial⟩⟩ ⟨m0, trivial⟩) ?_
      rintro ⟨k51, s51, A51_0, n51_0, c51_0, _⟩ hI
      obtain ⟨k51, rfl, q51, h, g51⟩ := IterN.pos hI
      dsimp only at h ⊢
      unfold treatylaw36_CommuteLater_l51 at h
      refine wc_know (fun _ h => h.lenO (ms m0)) (fun e => ?_)
      subst e
      refine wc_seq ?_
      refine wc_region ?_   -- region 20
      refine wl_det rfl rfl (det_lss rfl rfl) rfl ?_
      refine wl_nil ?_
      refine pn_then ?_
      refine wc_seq ?_
      refine wc_cond rfl (fun cd55 => ?_) (fun cd55 => ?_)
      · have h := ifT h cd55
        refine wc_skip ?_
        refine pn_then ?_
        obtain ⟨q57, h, ho57⟩ := bind_some h
        refine wc_meetG (G := (List GEntry) × Option Addr × Nat × Nat × Unit) (fun (s57, _, _, _, _) => s57 = q57) (fun (_, A57_0, n57_0, c57_0, _) => [(10, .int .i64 (w64 ((bAnd .i64 (w64 a2) 3) + 1))), (11, .int .i64 (w64 ((bAnd .i64 (w64 a3) 3) + 1))), (26, .slice A28_0 s28.length c28_0), (27, .slice A57_0 n57_0 c57_0), (153, .slice y5_4A0 r5_4.1.length y5_4c0), (154, .int .i64 (r5_4.1.length : Int)), (155, .int .i64 s51.2)]) (fun (s57, A57_0, n57_0, c57_0, _) => [eS lGEntry 43 A28_0 s28.length c28_0 s28, eS lGEntry 43 A57_0 n57_0 c57_0 s57]) (fun (_, _, _, _, _) => [fV (lSlice lGEntry) (.slice y5_4A0 r5_4.1.length y5_4c0) r5_4.1]) ?_ ?_
        · refine wc_block ?_
          refine wc_seq ?_
          refine wc_region ?_   -- region 21
          obtain ⟨k21_0, h⟩ := chk_some h
          refine wl_st (fun _ h => h.openF m0 k21_0) ?_
          refine wl_det rfl rfl (det_indexP rfl rfl (ms m0) k21_0 m0 un29 sz43) rfl ?_
          refine wl_det rfl rfl (det_loadP (off := 0) rfl m0 (by rfl) (by rfl) (loaded_n (cells := [_, _, _, _, _]) ag43 sz43)) rfl ?_
          refine wl_act (act_alloc (cs := [_, _, _, _, _]) zr43 rfl) rfl rfl rfl ?_
          rintro _ _ _ ⟨b21_2, rfl, rfl, rfl⟩
          refine wl_act0 (act_store (cells := [_, _, _, _, _]) (cs' := [_, _, _, _, _]) rfl rfl rfl s0 (by rfl) (of_decide_eq_true rfl) sz43 ⟨rfl, rfl, rfl, rfl, rfl, trivial⟩) rfl rfl ?_
          rintro _ _ _ ⟨rfl, rfl⟩
          refine wl_nil ?_
          refine pn_then ?_
          refine wc_seq ?_
          refine wc_region ?_   -- region 22
          refine wl_det rfl rfl (det_field rfl fd43_1 rfl) rfl ?_
          refine wl_det rfl rfl (det_load rfl m0 (by rfl) na3 us3) rfl ?_
          refine wl_det rfl rfl (det_move rfl) rfl ?_
          refine wl_det rfl rfl (det_eql rfl rfl) rfl ?_
          refine wl_det rfl rfl (det_move rfl) rfl ?_
          refine wl_way (decide ((ix r5_4.1 s51.2).Treaty = (w64 ((bAnd .i64 (w64 a2) 3) + 1)))) ((decide ((ix r5_4.1 s51.2).Treaty = (w64 ((bAnd .i64 (w64 a2) 3) + 1)))) && (decide ((ix r5_4.1 s51.2).Party = (w64 ((bAnd .i64 (w64 a3) 3) + 1))))) 5 168 (fun hg => ?_) (fun hg => ?_) ?_
          · have hg22_9 := hg
            refine wl_on rfl rfl rfl rfl hg22_9 ?_
            refine wl_det rfl rfl (det_field rfl fd43_2 rfl) rfl ?_
            refine wl_on rfl rfl rfl rfl hg22_9 ?_
            refine wl_det rfl rfl (det_load rfl m0 (by rfl) na3 us3) rfl ?_
            refine wl_on rfl rfl rfl rfl hg22_9 ?_
            refine wl_det rfl rfl (det_move rfl) rfl ?_
            refine wl_on rfl rfl rfl rfl hg22_9 ?_
            refine wl_det rfl rfl (det_eql rfl rfl) rfl ?_
            refine wl_det rfl rfl (det_and_on rfl rfl rfl hg22_9) rfl ?_
            exact wl_nil (pn_qnE (ext_cons rfl (ext_skip rfl (ext_skip rfl (ext_skip rfl (ext_skip rfl (ext_skip rfl ext_refl)))))) (fun _ h => h))
          · have hg22_9a := hg
            refine wl_off rfl rfl rfl rfl rfl hg22_9a rfl ?_
            refine wl_off rfl rfl rfl rfl rfl hg22_9a rfl ?_
            refine wl_off rfl rfl rfl rfl rfl hg22_9a rfl ?_
            refine wl_off rfl rfl rfl rfl rfl hg22_9a rfl ?_
            refine wl_det rfl rfl (det_and_off (q := (decide ((ix r5_4.1 s51.2).Party = (w64 ((bAnd .i64 (w64 a3) 3) + 1))))) rfl rfl rfl hg22_9a) rfl ?_
            exact wl_nil (pn_qnE (ext_cons rfl (ext_skip rfl (ext_skip rfl (ext_skip rfl (ext_skip rfl (ext_skip rfl ext_refl)))))) (fun _ h => h))
          refine wl_nil ?_
          refine pn_then ?_
          refine wc_cond rfl (fun cd63 => ?_) (fun cd63 => ?_)
          · have h := ifT h cd63
            refine wc_region ?_   -- region 23
            refine wl_det rfl rfl (det_move rfl) rfl ?_
            refine wl_det rfl rfl (det_loadN (cells := [_, _, _, _, _]) rfl m0 (by rfl) ag43 sz43) rfl ?_
            refine wl_act (act_litS lGEntry (vs := [_]) (cs := [_, _, _, _, _]) [(ix r5_4.1 s51.2)] un29 in43 rfl rfl rfl rfl rfl ⟨rfl, trivial⟩ (by rfl) rfl (litR_flat rfl)) rfl rfl rfl ?_
            rintro _ _ _ ⟨A23_2, rfl, rfl, rfl⟩
            obtain ⟨k23_3, h⟩ := chk_some h
            refine wl_act (act_appendS (L := lGEntry) rfl rfl (ss (ss (ss s0))) (src_O m0) un29 in43 rfl rfl rfl k23_3) rfl rfl rfl ?_
            rintro _ _ _ ⟨A23_3, c23_3, rfl, rfl, rfl⟩
            refine wl_det rfl rfl (det_assign rfl) rfl ?_
            refine wl_nil ?_
            refine pn_block ?_
            replace h := Option.some.inj h
            subst h
            exact pn_meetG ((s51.1 ++ [(ix r5_4.1 s51.2)]), A23_3, (s51.1 ++ [(ix r5_4.1 s51.2)]).length, c23_3, ()) rfl ⟨rfl, rfl, rfl, rfl, rfl, rfl, rfl, trivial⟩ (fun _ h => h.to ⟨_, (rs (rs r0)), ⟨_, (rs (rs r0)), trivial⟩⟩ ⟨(ms m0), trivial⟩)
          · have h := ifF h cd63
            refine wc_skip ?_
            refine pn_block ?_
            replace h := Option.some.inj h
            subst h
            exact pn_meetG (s51.1, A51_0, s51.1.length, c51_0, ()) rfl ⟨rfl, rfl, rfl, rfl, rfl, rfl, rfl, trivial⟩ (fun _ h => h.to ⟨_, (rs r0), ⟨_, (rs r0), trivial⟩⟩ ⟨(ms m0), trivial⟩)
        rintro ⟨s57, A57_0, n57_0, c57_0, _⟩ e57
        dsimp only at e57 ⊢
        subst e57
        have h := ho57
        refine wc_know (fun _ h => h.lenO (ms m0)) (fun e => ?_)
        subst e
        refine wc_region ?_   -- region 24
        refine wl_det rfl rfl (det_add rfl rfl) rfl ?_
        refine wl_det rfl rfl (det_move rfl) rfl ?_
        refine wl_nil ?_
        replace h := Option.some.inj h
        subst h
        exact pn_some (k51, (s57, (w64 (s51.2 + 1))), A57_0, s57.length, c57_0, ()) ⟨nextL g51, Nat.lt_succ_self _⟩ ⟨rfl, rfl, rfl, rfl, rfl, rfl, rfl, trivial⟩ (fun _ h => h.to ⟨_, r0, ⟨_, r0, trivial⟩⟩ ⟨m0, trivial⟩)
      · have h := ifF h cd55
        refine wc_exit ?_
        refine px_then ?_
        refine px_then ?_
        refine px_block ?_
        replace h := Option.some.inj h
        subst h
        replace g51 := nextR g51
        subst g51
        exact pn_meetG (s51.1, A51_0, s51.1.length, c51_0, ()) rfl ⟨rfl, rfl, trivial⟩ (fun _ h => h.to ⟨_, r0, ⟨_, r0, trivial⟩⟩ trivial)
    rintro ⟨s47, A47_0, n47_0, c47_0, _⟩ e47
    dsimp only at e47 ⊢
    subst e47
    have h := ho47
    refine wc_know (fun _ h => h.lenO (ms m0)) (fun e => ?_)
    subst e
    refine wc_seq ?_
    refine wc_region ?_   -- region 25
    refine wl_det rfl rfl (det_move rfl) rfl ?_
    refine wl_det rfl rfl (det_move rfl) rfl ?_
    obtain ⟨r25_2, hr25_2, h⟩ := bind_some h
    refine wl_act (act_callL (cap := []) [eS lGEntry 43 A28_0 s28.length c28_0 s28, eS lGEntry 43 A47_0 s47.length c47_0 s47] (W_treatyref33_SameEntries s28 s47 A28_0 s28.length c28_0 A47_0 s47.length c47_0 r25_2 hr25_2) plains_treatyref33_SameEntries rfl rfl rfl bd11 rfl ⟨m0, ⟨(ms m0), trivial⟩⟩ ⟨.inr ⟨_, m0, lent_eS⟩, ⟨.inr ⟨_, (ms m0), lent_eS⟩, trivial⟩⟩) rfl rfl rfl ?_
    rintro _ _ _ ⟨_, _, ⟨rfl, rfl, rfl⟩, rfl, rfl⟩
    dsimp only [List.nil_append, List.cons_append]
    refine wl_det rfl rfl (det_move rfl) rfl ?_
    obtain ⟨q25_5, hq25_5, h⟩ := bind_some h
    have ho25_5 := h
    refine wl_way r25_2 q25_5 2 179 (fun hg => ?_) (fun hg => ?_) ?_
    · have hg25_5 := hg
      have h := ifT hq25_5 hg
      refine wl_on rfl rfl rfl rfl hg25_5 ?_
      obtain ⟨r25_4, hr25_4, h⟩ := bind_some h
      refine wl_act (act_callS (cap := []) (W_treatylaw36_awake r25_4 hr25_4) rfl rfl rfl bd12 rfl trivial) rfl rfl rfl ?_
      rintro _ _ _ ⟨_, _, ⟨rfl, rfl, rfl⟩, rfl, rfl⟩
      dsimp only [List.nil_append, List.cons_append]
      replace h := Option.some.inj h
      subst h
      refine wl_det rfl rfl (det_pick_on rfl hg25_5 rfl rfl) rfl ?_
      exact wl_nil (pn_qnE (ext_cons rfl (ext_skip rfl (ext_skip rfl ext_refl))) (fun _ h => h))
    · have hg25_5a := hg
      have h := ifF hq25_5 hg
      refine wl_off rfl rfl rfl rfl rfl hg25_5a rfl ?_
      replace h := Option.some.inj h
      subst h
      refine wl_det rfl rfl (det_pick_off rfl hg25_5a rfl rfl) rfl ?_
      exact wl_nil (pn_qnE (ext_cons rfl (ext_skip rfl (ext_skip rfl ext_refl))) (fun _ h => h))
    have h := ho25_5
    refine wl_det rfl rfl (det_assign rfl) rfl ?_
    refine wl_nil ?_
    refine pn_then ?_
    refine wc_ret ?_
    replace h := Option.some.inj h
    subst h
    refine pn_ret (vs := [_]) rfl ⟨rfl, trivial⟩ ⟨rfl, rfl, rfl⟩ (fun _ h => h.to trivial trivial)
end Go.Proofs.Ytdenliplkmjmjaa
