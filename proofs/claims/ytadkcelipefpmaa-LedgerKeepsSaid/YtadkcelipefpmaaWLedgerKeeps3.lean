/- That functions of the program compute the plain programs of P. Written by a small program. -/
import Derived.Test.YtadkcelipefpmaaWLedgerKeeps2
namespace Go.Proofs.Ytadkcelipefpmaa
open Go.RowKit
def Q_treatylaw33_LedgerKeeps (r : Bool) : Value → List Ent → List Fact → Prop := fun v θ κ => v = .bool r ∧ θ = [] ∧ κ = []
theorem plains_treatylaw33_LedgerKeeps {r : Bool} : ∀ v θ κ, Q_treatylaw33_LedgerKeeps r v θ κ → Plains θ := by
  rintro _ _ _ ⟨rfl, rfl, rfl⟩
  exact trivial
set_option maxHeartbeats 4000000 in
set_option maxRecDepth 100000 in
theorem W_treatylaw33_LedgerKeeps (a0 : (List Int)) (a1 : (List Int)) (A0 : Option Addr) (n0 : Nat) (c0 : Nat) (A3 : Option Addr) (n3 : Nat) (c3 : Nat) (r : Bool) (h : treatylaw33_LedgerKeeps a0 a1 = some r) : Spec Try.prog 8 [.slice A0 n0 c0, .slice A3 n3 c3] [] [fV (lSlice (lInt .i64)) (.slice A0 n0 c0) a0, fV (lSlice (lInt .i64)) (.slice A3 n3 c3) a1] (Q_treatylaw33_LedgerKeeps r) := by
  unfold treatylaw33_LedgerKeeps at h
  refine spec_of (σ := [(0, _), (1, _)]) Try.func8 rfl rfl rfl rfl ?_
  intro C
  refine wc_know (fun _ h => h.lenF m0) (fun e => ?_)
  subst e
  refine wc_know (fun _ h => h.lenF (ms m0)) (fun e => ?_)
  subst e
  refine wc_seq ?_
  refine wc_region ?_   -- region 0
  refine wl_det rfl rfl (det_assign rfl) rfl ?_
  refine wl_nil ?_
  refine pn_then ?_
  refine wc_seq ?_
  refine wc_region ?_   -- region 1
  refine wl_det rfl rfl (det_move rfl) rfl ?_
  obtain ⟨r1_1, hr1_1, h⟩ := bind_some h
  refine wl_act (act_callS (cap := []) (W_treatymade2_New a0 A0 a0.length c0 r1_1 hr1_1) rfl rfl rfl bd14 rfl ⟨m0, trivial⟩) rfl rfl rfl ?_
  rintro _ _ _ ⟨_, _, ⟨y1_1b0, y1_1A1, y1_1n1, y1_1c1, rfl, rfl, rfl⟩, rfl, rfl⟩
  dsimp only [List.nil_append, List.cons_append]
  refine wl_know (fun _ h => h.lenF m0) (fun e => ?_)
  subst e
  obtain ⟨r1_2, hr1_2, h⟩ := bind_some h
  refine wl_act (act_callS (cap := []) (W_treatymade2_Ledger r1_1 6 y1_1b0 y1_1A1 r1_1.L.length y1_1c1 r1_2 hr1_2) rfl rfl rfl bd13 ⟨_, r0, rfl⟩ ⟨m0, trivial⟩) rfl rfl rfl ?_
  rintro _ _ _ ⟨_, _, ⟨y1_2A0, y1_2n0, y1_2c0, y1_2A1, y1_2n1, y1_2c1, rfl, rfl, rfl⟩, rfl, rfl⟩
  dsimp only [List.nil_append, List.cons_append]
  refine wl_know (fun _ h => h.lenF m0) (fun e => ?_)
  subst e
  refine wl_know (fun _ h => h.lenF (ms m0)) (fun e => ?_)
  subst e
  refine wl_act (act_alloc (cs := [_, _]) zr25 rfl) rfl rfl rfl ?_
  rintro _ _ _ ⟨b1_3, rfl, rfl, rfl⟩
  refine wl_act0 (act_store (cells := [_, _]) (cs' := [_, _]) rfl rfl rfl s0 (by rfl) (of_decide_eq_true rfl) sz25 ⟨rfl, rfl, trivial⟩) rfl rfl ?_
  rintro _ _ _ ⟨rfl, rfl⟩
  refine wl_nil ?_
  refine pn_then ?_
  refine wc_seq ?_
  refine wc_region ?_   -- region 2
  refine wl_det rfl rfl (det_move rfl) rfl ?_
  obtain ⟨r2_1, hr2_1, h⟩ := bind_some h
  refine wl_act (act_callS (cap := []) (W_treatymade2_New a1 A3 a1.length c3 r2_1 hr2_1) rfl rfl rfl bd14 rfl ⟨(ms (ms (ms (ms m0)))), trivial⟩) rfl rfl rfl ?_
  rintro _ _ _ ⟨_, _, ⟨y2_1b0, y2_1A1, y2_1n1, y2_1c1, rfl, rfl, rfl⟩, rfl, rfl⟩
  dsimp only [List.nil_append, List.cons_append]
  refine wl_know (fun _ h => h.lenF m0) (fun e => ?_)
  subst e
  refine wl_det rfl rfl (det_assign rfl) rfl ?_
  refine wl_nil ?_
  refine pn_then ?_
  refine wc_seq ?_
  refine wc_region ?_   -- region 3
  refine wl_det rfl rfl (det_loadN (cells := [_, _]) rfl (ms m0) (by rfl) ag25 sz25) rfl ?_
  refine wl_act (act_alloc (cs := [_, _]) zr25 rfl) rfl rfl rfl ?_
  rintro _ _ _ ⟨b3_1, rfl, rfl, rfl⟩
  refine wl_act0 (act_store (cells := [_, _]) (cs' := [_, _]) rfl rfl rfl s0 (by rfl) (of_decide_eq_true rfl) sz25 ⟨rfl, rfl, trivial⟩) rfl rfl ?_
  rintro _ _ _ ⟨rfl, rfl⟩
  refine wl_nil ?_
  refine pn_then ?_
  obtain ⟨q8, h, ho8⟩ := bind_some h
  refine wc_meetG (G := (Int × (List GPosting)) × Option Addr × Nat × Nat × Unit) (fun (s8, _, _, _, _) => (.inl s8) = q8) (fun (_, _, _, _, _) => [(5, .pointer (some ⟨b1_3, 0, none⟩)), (7, .pointer (some ⟨b3_1, 0, none⟩))]) (fun (s8, A8_0, n8_0, c8_0, _) => [eBlk b1_3 25 [.int .i64 r1_2.1.Closed, .slice y1_2A0 r1_2.1.Postings.length y1_2c0], eBlk b3_1 25 [.int .i64 s8.1, .slice A8_0 n8_0 c8_0]]) (fun (s8, A8_0, n8_0, c8_0, _) => [fV (lSlice lGPosting) (.slice y1_2A0 r1_2.1.Postings.length y1_2c0) r1_2.1.Postings, fV (lSlice lGPosting) (.slice A8_0 n8_0 c8_0) s8.2]) ?_ ?_
  · refine wc_seq ?_
    refine wc_region ?_   -- region 4
    refine wl_det rfl rfl (det_move rfl) rfl ?_
    obtain ⟨r4_1, hr4_1, h⟩ := bind_some h
    refine wl_act (act_callS (cap := []) (W_treatymade_Deck_Next r2_1 6 y2_1b0 y2_1A1 r2_1.L.length y2_1c1 r4_1 hr4_1) rfl rfl rfl bd34 ⟨_, (rs r0), rfl⟩ ⟨m0, trivial⟩) rfl rfl rfl ?_
    rintro _ _ _ ⟨_, _, ⟨y4_1A0, y4_1n0, y4_1c0, rfl, rfl, rfl⟩, rfl, rfl⟩
    dsimp only [List.nil_append, List.cons_append]
    refine wl_know (fun _ h => h.lenF m0) (fun e => ?_)
    subst e
    refine wl_det rfl rfl (det_assign rfl) rfl ?_
    refine wl_nil ?_
    refine pn_then ?_
    refine wc_block ?_
    obtain ⟨o12, h, ho12⟩ := bind_some h
    obtain ⟨k12, hk12⟩ := loopV_some.1 h
    refine wc_loop (G := Nat × ((List Int) × Int × Int × (List GPosting) × Int) × Option Addr × Nat × Nat × Option Addr × Nat × Nat × Unit) (fun g => IterN treatylaw33_LedgerKeeps_l12 g.1 g.2.1 o12) (fun g => g.1) (fun (_, s12, _, _, _, _, _, _, _) => [(5, .pointer (some ⟨b1_3, 0, none⟩)), (6, .pointer (some ⟨y2_1b0, 0, none⟩)), (7, .pointer (some ⟨b3_1, 0, none⟩)), (8, .int .i64 s12.2.2.2.2)]) (fun (_, s12, A12_0, n12_0, c12_0, A12_3, n12_3, c12_3, _) => [eBlk b1_3 25 [.int .i64 r1_2.1.Closed, .slice y1_2A0 r1_2.1.Postings.length y1_2c0], eBlk y2_1b0 94 [.slice A12_0 n12_0 c12_0, .int .i64 s12.2.1], eBlk b3_1 25 [.int .i64 s12.2.2.1, .slice A12_3 n12_3 c12_3]]) (fun (_, s12, A12_0, n12_0, c12_0, A12_3, n12_3, c12_3, _) => [fV (lSlice lGPosting) (.slice y1_2A0 r1_2.1.Postings.length y1_2c0) r1_2.1.Postings, fV (lSlice (lInt .i64)) (.slice A12_0 n12_0 c12_0) s12.1, fV (lSlice lGPosting) (.slice A12_3 n12_3 c12_3) s12.2.2.2.1]) (k12, (r4_1.2.L, r4_1.2.At, r1_2.1.Closed, r1_2.1.Postings, r4_1.1), y4_1A0, r4_1.2.L.length, y4_1c0, y1_2A0, r1_2.1.Postings.length, y1_2c0, ()) hk12 ⟨rfl, rfl, rfl, rfl, trivial⟩ (fun _ h => h.to ⟨_, (rs (rs r0)), ⟨_, r0, ⟨_, r0, trivial⟩⟩⟩ ⟨(ms (ms m0)), ⟨m0, ⟨(ms (ms m0)), trivial⟩⟩⟩) ?_
    rintro ⟨k12, s12, A12_0, n12_0, c12_0, A12_3, n12_3, c12_3, _⟩ hI
    obtain ⟨k12, rfl, q12, h, g12⟩ := IterN.pos hI
    dsimp only at h ⊢
    unfold treatylaw33_LedgerKeeps_l12 at h
    refine wc_know (fun _ h => h.lenF (ms m0)) (fun e => ?_)
    subst e
    refine wc_know (fun _ h => h.lenF (ms (ms m0))) (fun e => ?_)
    subst e
    refine wc_seq ?_
    refine wc_seq ?_
    refine wc_region ?_   -- region 5
    refine wl_det rfl rfl (det_move rfl) rfl ?_
    refine wl_det rfl rfl (det_gtr rfl rfl) rfl ?_
    refine wl_nil ?_
    refine pn_then ?_
    refine wc_cond rfl (fun cd16 => ?_) (fun cd16 => ?_)
    · have h := ifT h cd16
      refine wc_skip ?_
      refine pn_then ?_
      refine wc_seq ?_
      refine wc_block ?_
      refine wc_seq ?_
      refine wc_region ?_   -- region 7
      refine wl_det rfl rfl (det_assign rfl) rfl ?_
      refine wl_nil ?_
      refine pn_then ?_
      refine wc_seq ?_
      refine wc_region ?_   -- region 8
      refine wl_act (act_alloc (cs := [_, _]) zr25 rfl) rfl rfl rfl ?_
      rintro _ _ _ ⟨b8_0, rfl, rfl, rfl⟩
      refine wl_nil ?_
      refine pn_then ?_
      obtain ⟨q24, h, ho24⟩ := bind_some h
      refine wc_meetG (G := ((List Int) × Int × Int × Int × (List GPosting)) × Option Addr × Nat × Nat × Option Addr × Nat × Nat × Unit) (fun (s24, _, _, _, _, _, _, _) => s24 = q24) (fun (s24, _, _, _, _, _, _, _) => [(5, .pointer (some ⟨b1_3, 0, none⟩)), (6, .pointer (some ⟨y2_1b0, 0, none⟩)), (7, .pointer (some ⟨b3_1, 0, none⟩)), (8, .int .i64 s12.2.2.2.2), (9, .int .i64 s24.2.2.1), (10, .pointer (some ⟨b8_0, 0, none⟩))]) (fun (s24, A24_0, n24_0, c24_0, A24_3, n24_3, c24_3, _) => [eBlk b1_3 25 [.int .i64 r1_2.1.Closed, .slice y1_2A0 r1_2.1.Postings.length y1_2c0], eBlk y2_1b0 94 [.slice A24_0 n24_0 c24_0, .int .i64 s24.2.1], eBlk b3_1 25 [.int .i64 s12.2.2.1, .slice A12_3 s12.2.2.2.1.length c12_3], eBlk b8_0 25 [.int .i64 s24.2.2.2.1, .slice A24_3 n24_3 c24_3]]) (fun (s24, A24_0, n24_0, c24_0, A24_3, n24_3, c24_3, _) => [fV (lSlice lGPosting) (.slice y1_2A0 r1_2.1.Postings.length y1_2c0) r1_2.1.Postings, fV (lSlice (lInt .i64)) (.slice A24_0 n24_0 c24_0) s24.1, fV (lSlice lGPosting) (.slice A12_3 s12.2.2.2.1.length c12_3) s12.2.2.2.1, fV (lSlice lGPosting) (.slice A24_3 n24_3 c24_3) s24.2.2.2.2]) ?_ ?_
      · refine wc_seq ?_
        refine wc_region ?_   -- region 9
        refine wl_det rfl rfl (det_move rfl) rfl ?_
        obtain ⟨r9_1, hr9_1, h⟩ := bind_some h
        refine wl_act (act_callS (cap := []) (W_treatymade_Deck_Next (GDeck.mk s12.1 s12.2.1) 3 y2_1b0 A12_0 s12.1.length c12_0 r9_1 hr9_1) rfl rfl rfl bd34 ⟨_, (rs (rs r0)), rfl⟩ ⟨(ms m0), trivial⟩) rfl rfl rfl ?_
        rintro _ _ _ ⟨_, _, ⟨y9_1A0, y9_1n0, y9_1c0, rfl, rfl, rfl⟩, rfl, rfl⟩
        dsimp only [List.nil_append, List.cons_append]
        refine wl_know (fun _ h => h.lenF m0) (fun e => ?_)
        subst e
        refine wl_nil ?_
        refine pn_then ?_
        refine wc_block ?_
        refine wc_seq ?_
        refine wc_region ?_   -- region 11
        refine wl_det rfl rfl (det_eql rfl rfl) rfl ?_
        refine wl_det rfl rfl (det_assign rfl) rfl ?_
        refine wl_nil ?_
        refine pn_then ?_
        refine wc_cond rfl (fun cd30 => ?_) (fun cd30 => ?_)
        · have h := ifT h cd30
          refine wc_region ?_   -- region 12
          refine wl_det rfl rfl (det_loadN (cells := [_, _]) rfl (ms (ms (ms m0))) (by rfl) ag25 sz25) rfl ?_
          obtain ⟨r12_1, hr12_1, h⟩ := bind_some h
          refine wl_act (act_callS (cap := []) (W_ledger_Close (GLedger.mk s12.2.2.1 s12.2.2.2.1) A12_3 s12.2.2.2.1.length c12_3 r12_1 hr12_1) rfl rfl rfl bd30 rfl ⟨(ms (ms (ms m0))), trivial⟩) rfl rfl rfl ?_
          rintro _ _ _ ⟨_, _, ⟨y12_1A0, y12_1n0, y12_1c0, rfl, rfl, rfl⟩, rfl, rfl⟩
          dsimp only [List.nil_append, List.cons_append]
          refine wl_know (fun _ h => h.lenO m0) (fun e => ?_)
          subst e
          refine wl_det rfl rfl (det_move rfl) rfl ?_
          refine wl_det rfl rfl (det_extract rfl rfl) rfl ?_
          refine wl_det rfl rfl (det_extract rfl rfl) rfl ?_
          refine wl_act0 (act_store (cells := [_, _]) (cs' := [_, _]) rfl rfl rfl (ss (ss s0)) (by rfl) (of_decide_eq_true rfl) sz25 ⟨rfl, rfl, trivial⟩) rfl rfl ?_
          rintro _ _ _ ⟨rfl, rfl⟩
          refine wl_det rfl rfl (det_assign rfl) rfl ?_
          refine wl_nil ?_
          refine pn_block ?_
          refine pn_st (fun _ h => h.shutS r0) ?_
          replace h := Option.some.inj h
          subst h
          exact pn_meetG ((r9_1.2.L, r9_1.2.At, r12_1.2, r12_1.1.Closed, r12_1.1.Postings), y9_1A0, r9_1.2.L.length, y9_1c0, y12_1A0, r12_1.1.Postings.length, y12_1c0, ()) rfl ⟨rfl, rfl, rfl, rfl, rfl, rfl, trivial⟩ (fun _ h => h.to ⟨_, (rs (rs r0)), ⟨_, r0, ⟨_, (rs r0), ⟨_, r0, trivial⟩⟩⟩⟩ ⟨(ms (ms m0)), ⟨(ms m0), ⟨(ms (ms (ms (ms m0)))), ⟨m0, trivial⟩⟩⟩⟩)
        · have h := ifF h cd30
          refine wc_seq ?_
          refine wc_region ?_   -- region 13
          refine wl_det rfl rfl (det_eql rfl rfl) rfl ?_
          refine wl_det rfl rfl (det_assign rfl) rfl ?_
          refine wl_nil ?_
          refine pn_then ?_
          refine wc_cond rfl (fun cd34 => ?_) (fun cd34 => ?_)
          · have h := ifT h cd34
            refine dx_regionZ (Z := St C [_, _] [_, _, _, _]) 8 [[], [], [1], [0, 1, 2], [0, 1, 2, 3], [0, 1, 2, 3, 4], [0, 1, 2, 3, 4], [0, 1, 2, 3, 4, 5], [0, 1, 2, 3, 4, 5, 6, 7]] mixed (ord := (.det 0 (.det 1 (.alt 2 (.alt 3 (.det 4 (.det 5 (.det 6 (.alt 7 .done .dead)))) .dead) .dead)))) (by kernel_rfl) (fun _ h => h.to ⟨_, (rs (rs r0)), ⟨_, (rs (rs r0)), trivial⟩⟩ ⟨m0, ⟨(ms m0), ⟨(ms (ms m0)), ⟨(ms (ms (ms m0))), trivial⟩⟩⟩⟩) ?_   -- region 14
            refine hx_det rfl rfl rfl nofun (det_loadN (cells := [_, _]) rfl (ms m0) (by rfl) ag25 sz25) rfl ?_
            refine hx_det rfl rfl rfl nofun (det_move rfl) rfl ?_
            obtain ⟨r14_2, hr14_2, h⟩ := bind_some h
            refine hx_mut rfl rfl rfl (act_callS (cap := []) (W_treatymade2_Entries r9_1.2 4 y2_1b0 y9_1A0 r9_1.2.L.length y9_1c0 r14_2 hr14_2) rfl rfl rfl bd25 ⟨_, r0, rfl⟩ ⟨m0, trivial⟩) rfl (by rintro _ _ _ ⟨_, _, ⟨y14_2A0, y14_2n0, y14_2c0, y14_2A1, y14_2n1, y14_2c1, rfl, rfl, rfl⟩, rfl, rfl⟩ w hs; exact hs.to ⟨_, (rs (rs (rs r0))), ⟨_, (rs (rs (rs r0))), trivial⟩⟩ ⟨(ms m0), ⟨(ms (ms m0)), ⟨(ms (ms (ms m0))), ⟨(ms (ms (ms (ms m0)))), trivial⟩⟩⟩⟩) ?_
            rintro _ _ _ ⟨_, _, ⟨y14_2A0, y14_2n0, y14_2c0, y14_2A1, y14_2n1, y14_2c1, rfl, rfl, rfl⟩, rfl, rfl⟩
            dsimp only [List.nil_append, List.cons_append]
            obtain ⟨r14_3, hr14_3, h⟩ := bind_some h
            refine hx_mut rfl rfl rfl (act_callL (cap := []) [eS lGEntry 41 y14_2A0 y14_2n0 y14_2c0 r14_2.1] (W_ledger_Post (GLedger.mk s12.2.2.1 s12.2.2.2.1) r14_2.1 A12_3 s12.2.2.2.1.length c12_3 y14_2A0 y14_2n0 y14_2c0 r14_3 hr14_3) plains_ledger_Post rfl rfl rfl bd32 rfl ⟨m0, trivial⟩ ⟨.inl (ms (ms (ms (ms m0)))), ⟨.inr ⟨_, m0, lent_eS⟩, trivial⟩⟩) rfl (by rintro _ _ _ ⟨_, _, ⟨y14_3A0, y14_3n0, y14_3c0, rfl, rfl, rfl⟩, rfl, rfl⟩ w hs; exact hs.to ⟨_, (rs (rs (rs (rs r0)))), ⟨_, (rs (rs (rs (rs r0)))), trivial⟩⟩ ⟨(ms m0), ⟨(ms (ms m0)), ⟨(ms (ms (ms m0))), ⟨(ms (ms (ms (ms m0)))), trivial⟩⟩⟩⟩) ?_
            rintro _ _ _ ⟨_, _, ⟨y14_3A0, y14_3n0, y14_3c0, rfl, rfl, rfl⟩, rfl, rfl⟩
            dsimp only [List.nil_append, List.cons_append]
            refine hx_det rfl rfl rfl nofun (det_move rfl) rfl ?_
            refine hx_det rfl rfl rfl nofun (det_extract rfl rfl) rfl ?_
            refine hx_det rfl rfl rfl nofun (det_extract rfl rfl) rfl ?_
            refine hx_mut0 rfl rfl rfl (act_store (cells := [_, _]) (cs' := [_, _]) rfl rfl rfl (ss (ss (ss s0))) (by rfl) (of_decide_eq_true rfl) sz25 ⟨rfl, rfl, trivial⟩) (by rintro _ _ _ ⟨rfl, rfl⟩ w hs; exact hs.to ⟨_, (rs (rs (rs (rs r0)))), ⟨_, (rs (rs (rs (rs r0)))), trivial⟩⟩ ⟨(ms m0), ⟨(ms (ms m0)), ⟨(ms (ms (ms m0))), ⟨(ms (ms (ms (ms m0)))), trivial⟩⟩⟩⟩) ?_
            rintro _ _ _ ⟨rfl, rfl⟩
            refine hx_end ?_
            refine wl_know (fun _ h => h.lenO (ms m0)) (fun e => ?_)
            subst e
            refine wl_know (fun _ h => h.lenF m0) (fun e => ?_)
            subst e
            refine wl_know (fun _ h => h.lenO m0) (fun e => ?_)
            subst e
            refine wl_det rfl rfl (det_assign rfl) rfl ?_
            refine wl_nil ?_
            refine pn_block ?_
            refine pn_st (fun _ h => h.shutS r0) ?_
            replace h := Option.some.inj h
            subst h
            exact pn_meetG ((r14_2.2.L, r14_2.2.At, r14_3.2, r14_3.1.Closed, r14_3.1.Postings), y14_2A1, r14_2.2.L.length, y14_2c1, y14_3A0, r14_3.1.Postings.length, y14_3c0, ()) rfl ⟨rfl, rfl, rfl, rfl, rfl, rfl, trivial⟩ (fun _ h => h.to ⟨_, (rs (rs (rs r0))), ⟨_, (rs r0), ⟨_, (rs (rs r0)), ⟨_, (rs r0), trivial⟩⟩⟩⟩ ⟨(ms (ms (ms m0))), ⟨(ms m0), ⟨(ms (ms (ms (ms (ms m0))))), ⟨m0, trivial⟩⟩⟩⟩)
          · have h := ifF h cd34
            refine dx_regionZ (Z := St C [_, _] [_, _, _, _]) 9 [[], [], [1], [0, 1, 2], [0, 1, 2, 3], [0, 1, 2, 3, 4], [0, 1, 2, 3, 4], [0, 1, 2, 3, 4], [0, 1, 2, 3, 4, 5], [0, 1, 2, 3, 4, 5, 6, 7, 8]] mixed (ord := (.det 0 (.det 1 (.alt 2 (.alt 3 (.det 4 (.det 5 (.det 6 (.det 7 (.alt 8 .done .dead))))) .dead) .dead)))) (by kernel_rfl) (fun _ h => h.to ⟨_, (rs (rs r0)), ⟨_, (rs (rs r0)), trivial⟩⟩ ⟨m0, ⟨(ms m0), ⟨(ms (ms m0)), ⟨(ms (ms (ms m0))), trivial⟩⟩⟩⟩) ?_   -- region 10
            refine hx_det rfl rfl rfl nofun (det_loadN (cells := [_, _]) rfl (ms m0) (by rfl) ag25 sz25) rfl ?_
            refine hx_det rfl rfl rfl nofun (det_move rfl) rfl ?_
            obtain ⟨r10_2, hr10_2, h⟩ := bind_some h
            refine hx_mut rfl rfl rfl (act_callS (cap := []) (W_treatymade2_Target r9_1.2 6 y2_1b0 y9_1A0 r9_1.2.L.length y9_1c0 r10_2 hr10_2) rfl rfl rfl bd36 ⟨_, r0, rfl⟩ ⟨m0, trivial⟩) rfl (by rintro _ _ _ ⟨_, _, ⟨y10_2A0, y10_2n0, y10_2c0, y10_2A1, y10_2n1, y10_2c1, rfl, rfl, rfl⟩, rfl, rfl⟩ w hs; exact hs.to ⟨_, (rs (rs (rs r0))), ⟨_, (rs (rs (rs r0))), trivial⟩⟩ ⟨(ms m0), ⟨(ms (ms m0)), ⟨(ms (ms (ms m0))), ⟨(ms (ms (ms (ms m0)))), trivial⟩⟩⟩⟩) ?_
            rintro _ _ _ ⟨_, _, ⟨y10_2A0, y10_2n0, y10_2c0, y10_2A1, y10_2n1, y10_2c1, rfl, rfl, rfl⟩, rfl, rfl⟩
            dsimp only [List.nil_append, List.cons_append]
            refine hx_st (fun _ h => h.shutS r0) ?_
            obtain ⟨r10_3, hr10_3, h⟩ := bind_some h
            refine hx_mut rfl rfl rfl (act_callS (cap := []) (W_ledger_Restate (GLedger.mk s12.2.2.1 s12.2.2.2.1) r10_2.1 A12_3 s12.2.2.2.1.length c12_3 y10_2A0 y10_2n0 y10_2c0 r10_3 hr10_3) rfl rfl rfl bd35 rfl ⟨(ms (ms (ms (ms (ms m0))))), ⟨m0, trivial⟩⟩) rfl (by rintro _ _ _ ⟨_, _, ⟨y10_3A0, y10_3n0, y10_3c0, y10_3A1, y10_3n1, y10_3c1, rfl, rfl, rfl⟩, rfl, rfl⟩ w hs; exact hs.to ⟨_, (rs (rs (rs r0))), ⟨_, (rs (rs (rs r0))), trivial⟩⟩ ⟨(ms (ms (ms m0))), ⟨(ms (ms (ms (ms m0)))), ⟨(ms (ms (ms (ms (ms m0))))), ⟨(ms (ms (ms (ms (ms (ms m0)))))), trivial⟩⟩⟩⟩) ?_
            rintro _ _ _ ⟨_, _, ⟨y10_3A0, y10_3n0, y10_3c0, y10_3A1, y10_3n1, y10_3c1, rfl, rfl, rfl⟩, rfl, rfl⟩
            dsimp only [List.nil_append, List.cons_append]
            refine hx_det rfl rfl rfl nofun (det_move rfl) rfl ?_
            refine hx_det rfl rfl rfl nofun (det_extract rfl rfl) rfl ?_
            refine hx_det rfl rfl rfl nofun (det_extract rfl rfl) rfl ?_
            refine hx_det rfl rfl rfl nofun (det_extract rfl rfl) rfl ?_
            refine hx_mut0 rfl rfl rfl (act_store (cells := [_, _]) (cs' := [_, _]) rfl rfl rfl (ss (ss s0)) (by rfl) (of_decide_eq_true rfl) sz25 ⟨rfl, rfl, trivial⟩) (by rintro _ _ _ ⟨rfl, rfl⟩ w hs; exact hs.to ⟨_, (rs (rs (rs r0))), ⟨_, (rs (rs (rs r0))), trivial⟩⟩ ⟨(ms (ms (ms m0))), ⟨(ms (ms (ms (ms m0)))), ⟨(ms (ms (ms (ms (ms m0))))), ⟨(ms (ms (ms (ms (ms (ms m0)))))), trivial⟩⟩⟩⟩) ?_
            rintro _ _ _ ⟨rfl, rfl⟩
            refine hx_end ?_
            refine wl_know (fun _ h => h.lenF (ms m0)) (fun e => ?_)
            subst e
            refine wl_know (fun _ h => h.lenF (ms (ms m0))) (fun e => ?_)
            subst e
            refine wl_know (fun _ h => h.lenF m0) (fun e => ?_)
            subst e
            refine wl_know (fun _ h => h.lenO m0) (fun e => ?_)
            subst e
            refine wl_det rfl rfl (det_assign rfl) rfl ?_
            refine wl_nil ?_
            refine pn_block ?_
            replace h := Option.some.inj h
            subst h
            exact pn_meetG ((r10_2.2.L, r10_2.2.At, r10_3.2.2, r10_3.1.Closed, r10_3.1.Postings), y10_2A1, r10_2.2.L.length, y10_2c1, y10_3A0, r10_3.1.Postings.length, y10_3c0, ()) rfl ⟨rfl, rfl, rfl, rfl, rfl, rfl, trivial⟩ (fun _ h => h.to ⟨_, (rs (rs (rs r0))), ⟨_, (rs r0), ⟨_, (rs (rs r0)), ⟨_, (rs r0), trivial⟩⟩⟩⟩ ⟨(ms (ms (ms (ms m0)))), ⟨(ms (ms m0)), ⟨(ms (ms (ms (ms (ms (ms m0)))))), ⟨m0, trivial⟩⟩⟩⟩)
      rintro ⟨s24, A24_0, n24_0, c24_0, A24_3, n24_3, c24_3, _⟩ e24
      dsimp only at e24 ⊢
      subst e24
      have h := ho24
      refine wc_know (fun _ h => h.lenF (ms m0)) (fun e => ?_)
      subst e
      refine wc_know (fun _ h => h.lenF (ms (ms (ms m0)))) (fun e => ?_)
      subst e
      refine wc_seq ?_
      refine wc_seq ?_
      refine wc_region ?_   -- region 15
      refine wl_det rfl rfl (det_move rfl) rfl ?_
      refine wl_det rfl rfl (det_neq rfl rfl) rfl ?_
      refine wl_nil ?_
      refine pn_then ?_
      refine wc_cond rfl (fun cd40 => ?_) (fun cd40 => ?_)
      · have h := ifT h cd40
        refine wc_seq ?_
        refine wc_region ?_   -- region 16
        refine wl_det rfl rfl (det_assign rfl) rfl ?_
        refine wl_nil ?_
        refine pn_then ?_
        refine wc_ret ?_
        refine pr_then ?_
        refine pr_block ?_
        refine pr_then ?_
        refine pr_then ?_
        refine pr_block ?_
        refine pr_then ?_
        replace h := Option.some.inj h
        subst h
        replace g12 := nextR g12
        subst g12
        have h := (elimL ho12)
        replace h := Option.some.inj h
        subst h
        have h := (elimR ho8)
        replace h := Option.some.inj h
        subst h
        refine pn_ret (vs := [_]) rfl ⟨rfl, trivial⟩ ⟨rfl, rfl, rfl⟩ (fun _ h => h.to trivial trivial)
      · have h := ifF h cd40
        refine wc_skip ?_
        refine pn_then ?_
        refine wc_region ?_   -- region 17
        refine wl_det rfl rfl (det_loadN (cells := [_, _]) rfl (ms (ms (ms m0))) (by rfl) ag25 sz25) rfl ?_
        refine wl_act0 (act_store (cells := [_, _]) (cs' := [_, _]) rfl rfl rfl (ss (ss s0)) (by rfl) (of_decide_eq_true rfl) sz25 ⟨rfl, rfl, trivial⟩) rfl rfl ?_
        rintro _ _ _ ⟨rfl, rfl⟩
        refine wl_nil ?_
        refine pn_block ?_
        refine pn_then ?_
        refine wc_region ?_   -- region 6
        refine wl_det rfl rfl (det_move rfl) rfl ?_
        refine wl_det rfl rfl (det_sub rfl rfl) rfl ?_
        refine wl_det rfl rfl (det_assign rfl) rfl ?_
        refine wl_nil ?_
        replace h := Option.some.inj h
        subst h
        exact pn_some (k12, (s24.1, s24.2.1, s24.2.2.2.1, s24.2.2.2.2, (w64 (s12.2.2.2.2 - 1))), A24_0, s24.1.length, c24_0, A24_3, s24.2.2.2.2.length, c24_3, ()) ⟨nextL g12, Nat.lt_succ_self _⟩ ⟨rfl, rfl, rfl, rfl, trivial⟩ (fun _ h => h.to ⟨_, r0, ⟨_, r0, ⟨_, r0, trivial⟩⟩⟩ ⟨m0, ⟨(ms m0), ⟨(ms (ms (ms m0))), trivial⟩⟩⟩)
    · have h := ifF h cd16
      refine wc_exit ?_
      refine px_then ?_
      refine px_then ?_
      refine px_block ?_
      replace h := Option.some.inj h
      subst h
      replace g12 := nextR g12
      subst g12
      have h := (elimR ho12)
      replace h := Option.some.inj h
      subst h
      exact pn_meetG ((s12.2.2.1, s12.2.2.2.1), A12_3, s12.2.2.2.1.length, c12_3, ()) rfl ⟨rfl, rfl, trivial⟩ (fun _ h => h.to ⟨_, r0, ⟨_, (rs r0), trivial⟩⟩ ⟨m0, ⟨(ms (ms m0)), trivial⟩⟩)
  rintro ⟨s8, A8_0, n8_0, c8_0, _⟩ e8
  dsimp only at e8 ⊢
  subst e8
  have h := (elimL ho8)
  refine wc_know (fun _ h => h.lenF (ms m0)) (fun e => ?_)
  subst e
  refine wc_seq ?_
  obtain ⟨q46, h, ho46⟩ := bind_some h
  refine wc_meetG (G := Bool × Unit) (fun (s46, _) => s46 = q46) (fun (s46, _) => [(5, .pointer (some ⟨b1_3, 0, none⟩)), (7, .pointer (some ⟨b3_1, 0, none⟩)), (82, .bool s46)]) (fun (_, _) => [eBlk b1_3 25 [.int .i64 r1_2.1.Closed, .slice y1_2A0 r1_2.1.Postings.length y1_2c0], eBlk b3_1 25 [.int .i64 s8.1, .slice A8_0 s8.2.length c8_0]]) (fun (_, _) => [fV (lSlice lGPosting) (.slice y1_2A0 r1_2.1.Postings.length y1_2c0) r1_2.1.Postings, fV (lSlice lGPosting) (.slice A8_0 s8.2.length c8_0) s8.2]) ?_ ?_
  · rcases Bool.eq_false_or_eq_true (decide ((s8.2.length : Int) < (r1_2.1.Postings.length : Int))) with hg18_g64 | hg18_g64
    · have h := ifT h hg18_g64
      refine dx_region 26 [[], [0], [0, 1], [], [3], [3, 4], [0, 1, 2, 3, 4, 5], [0, 1, 2, 3, 4, 5, 6], [0, 1, 2, 3, 4, 5, 6, 7], [0, 1, 2, 3, 4, 5, 6, 7, 8], [0, 1, 2, 3, 4, 5, 6, 7], [0, 1, 2, 3, 4, 5, 6, 7, 10], [0, 1, 2, 3, 4, 5, 6, 7, 10, 11], [0, 1, 2, 3, 4, 5, 6, 7, 8, 9, 10, 11, 12], [0, 1, 2, 3, 4, 5, 6, 7], [0, 1, 2, 3, 4, 5, 6, 7, 14], [0, 1, 2, 3, 4, 5, 6, 7, 8, 9, 10, 11, 12, 13, 14, 15], [0, 1, 2, 3, 4, 5, 6, 7, 8, 9, 10, 11, 12, 13, 14, 15, 16], [0, 1, 2, 3, 4, 5, 6, 7, 8, 9, 10, 11, 12, 13, 14, 15, 16, 17], [0, 1, 2, 3, 4, 5, 6, 7, 8, 9, 10, 11, 12, 13, 14, 15, 16, 17, 18], [0, 1, 2, 3, 4, 5, 6, 7, 8, 9, 10, 11, 12, 13, 14, 15, 16, 17, 18, 19], [0, 1, 2, 3, 4, 5, 6, 7, 8, 9, 10, 11, 12, 13, 14, 15, 16, 17, 18, 19, 20], [0, 1, 2, 3, 4, 5, 6, 7, 8, 9, 10, 11, 12, 13, 14, 15, 16, 17, 18, 19], [0, 1, 2, 3, 4, 5, 6, 7, 8, 9, 10, 11, 12, 13, 14, 15, 16, 17, 18, 19, 22], [0, 1, 2, 3, 4, 5, 6, 7, 8, 9, 10, 11, 12, 13, 14, 15, 16, 17, 18, 19, 20, 21, 22, 23], [0, 1, 2, 3, 4, 5, 6, 7, 8, 9, 10, 11, 12, 13, 14, 15, 16, 17, 18, 19, 20, 21, 22, 23, 24]] mixed (ord := (.det 0 (.det 1 (.det 2 (.det 3 (.det 4 (.det 5 (.det 6 (.det 7 (.det 8 (.det 9 (.det 10 (.det 11 (.det 12 (.det 13 (.det 14 (.det 15 (.det 16 (.det 17 (.det 18 (.det 19 (.det 20 (.det 21 (.det 22 (.det 23 (.det 24 (.det 25 .done))))))))))))))))))))))))))) (by kernel_rfl) ?_   -- region 18
      refine hx_det rfl rfl rfl nofun (det_field rfl fd25_1 rfl) rfl ?_
      refine hx_det rfl rfl rfl nofun (det_load rfl (ms m0) (by rfl) na23 us23) rfl ?_
      refine hx_det rfl rfl rfl nofun (det_len rfl un23) rfl ?_
      refine hx_det rfl rfl rfl nofun (det_field rfl fd25_1 rfl) rfl ?_
      refine hx_det rfl rfl rfl nofun (det_load rfl m0 (by rfl) na23 us23) rfl ?_
      refine hx_det rfl rfl rfl nofun (det_len rfl un23) rfl ?_
      refine hx_det rfl rfl rfl nofun (det_lss rfl rfl) rfl ?_
      refine hx_det rfl rfl rfl nofun (det_move rfl) rfl ?_
      refine hx_off rfl rfl rfl rfl rfl hg18_g64 rfl ?_
      refine hx_off rfl rfl rfl rfl rfl hg18_g64 rfl ?_
      refine hx_off rfl rfl rfl rfl rfl hg18_g64 rfl ?_
      refine hx_off rfl rfl rfl rfl rfl hg18_g64 rfl ?_
      refine hx_off rfl rfl rfl rfl rfl hg18_g64 rfl ?_
      refine hx_off rfl rfl rfl rfl rfl hg18_g64 rfl ?_
      refine hx_off rfl rfl rfl rfl rfl hg18_g64 rfl ?_
      refine hx_off rfl rfl rfl rfl rfl hg18_g64 rfl ?_
      refine hx_off rfl rfl rfl rfl rfl hg18_g64 rfl ?_
      refine hx_off rfl rfl rfl rfl rfl hg18_g64 rfl ?_
      refine hx_det rfl rfl rfl nofun (det_pick_on rfl hg18_g64 rfl rfl) rfl ?_
      refine hx_det rfl rfl rfl nofun (det_move rfl) rfl ?_
      refine hx_off rfl rfl rfl rfl rfl rfl rfl ?_
      refine hx_off rfl rfl rfl rfl rfl rfl rfl ?_
      refine hx_off rfl rfl rfl rfl rfl rfl rfl ?_
      refine hx_off rfl rfl rfl rfl rfl rfl rfl ?_
      refine hx_off rfl rfl rfl rfl rfl rfl rfl ?_
      refine hx_det rfl rfl rfl nofun (det_pick_on rfl rfl rfl rfl) rfl ?_
      refine hx_end ?_
      refine wl_nil ?_
      replace h := Option.some.inj h
      subst h
      exact pn_meetG (true, ()) rfl ⟨rfl, rfl, rfl, trivial⟩ (fun _ h => h.to ⟨_, r0, ⟨_, r0, trivial⟩⟩ ⟨m0, ⟨(ms m0), trivial⟩⟩)
    · have h := ifF h hg18_g64
      obtain ⟨r18_16, hr18_16, h⟩ := bind_some h
      rcases Bool.eq_false_or_eq_true (!r18_16) with hg18_g76 | hg18_g76
      · have h := ifT h hg18_g76
        obtain ⟨k18_p1, h⟩ := chk_some h
        obtain ⟨k18_p2, h⟩ := chk_some h
        refine dx_region 26 [[], [0], [0, 1], [], [3], [3, 4], [0, 1, 2, 3, 4, 5], [0, 1, 2, 3, 4, 5, 6], [0, 1, 2, 3, 4, 5, 6, 7], [0, 1, 2, 3, 4, 5, 6, 7, 8], [0, 1, 2, 3, 4, 5, 6, 7], [0, 1, 2, 3, 4, 5, 6, 7, 10], [0, 1, 2, 3, 4, 5, 6, 7, 10, 11], [0, 1, 2, 3, 4, 5, 6, 7, 8, 9, 10, 11, 12], [0, 1, 2, 3, 4, 5, 6, 7], [0, 1, 2, 3, 4, 5, 6, 7, 14], [0, 1, 2, 3, 4, 5, 6, 7, 8, 9, 10, 11, 12, 13, 14, 15], [0, 1, 2, 3, 4, 5, 6, 7, 8, 9, 10, 11, 12, 13, 14, 15, 16], [0, 1, 2, 3, 4, 5, 6, 7, 8, 9, 10, 11, 12, 13, 14, 15, 16, 17], [0, 1, 2, 3, 4, 5, 6, 7, 8, 9, 10, 11, 12, 13, 14, 15, 16, 17, 18], [0, 1, 2, 3, 4, 5, 6, 7, 8, 9, 10, 11, 12, 13, 14, 15, 16, 17, 18, 19], [0, 1, 2, 3, 4, 5, 6, 7, 8, 9, 10, 11, 12, 13, 14, 15, 16, 17, 18, 19, 20], [0, 1, 2, 3, 4, 5, 6, 7, 8, 9, 10, 11, 12, 13, 14, 15, 16, 17, 18, 19], [0, 1, 2, 3, 4, 5, 6, 7, 8, 9, 10, 11, 12, 13, 14, 15, 16, 17, 18, 19, 22], [0, 1, 2, 3, 4, 5, 6, 7, 8, 9, 10, 11, 12, 13, 14, 15, 16, 17, 18, 19, 20, 21, 22, 23], [0, 1, 2, 3, 4, 5, 6, 7, 8, 9, 10, 11, 12, 13, 14, 15, 16, 17, 18, 19, 20, 21, 22, 23, 24]] mixed (ord := (.det 0 (.det 1 (.det 2 (.det 3 (.det 4 (.det 5 (.det 6 (.det 7 (.det 8 (.det 9 (.det 10 (.det 11 (.det 12 (.det 14 (.det 15 (.alt 13 (.alt 16 (.det 17 (.det 18 (.det 19 (.det 20 (.det 21 (.det 22 (.det 23 (.det 24 (.det 25 .done))))))))) .dead) .dead))))))))))))))))) (by kernel_rfl) ?_   -- region 18
        refine hx_det rfl rfl rfl nofun (det_field rfl fd25_1 rfl) rfl ?_
        refine hx_det rfl rfl rfl nofun (det_load rfl (ms m0) (by rfl) na23 us23) rfl ?_
        refine hx_det rfl rfl rfl nofun (det_len rfl un23) rfl ?_
        refine hx_det rfl rfl rfl nofun (det_field rfl fd25_1 rfl) rfl ?_
        refine hx_det rfl rfl rfl nofun (det_load rfl m0 (by rfl) na23 us23) rfl ?_
        refine hx_det rfl rfl rfl nofun (det_len rfl un23) rfl ?_
        refine hx_det rfl rfl rfl nofun (det_lss rfl rfl) rfl ?_
        refine hx_det rfl rfl rfl nofun (det_move rfl) rfl ?_
        refine hx_on rfl rfl rfl rfl rfl hg18_g64 nofun (det_field rfl fd25_1 rfl) rfl ?_
        refine hx_on rfl rfl rfl rfl rfl hg18_g64 nofun (det_load rfl (ms m0) (by rfl) na23 us23) rfl ?_
        refine hx_on rfl rfl rfl rfl rfl hg18_g64 nofun (det_field rfl fd25_1 rfl) rfl ?_
        refine hx_on rfl rfl rfl rfl rfl hg18_g64 nofun (det_load rfl m0 (by rfl) na23 us23) rfl ?_
        refine hx_on rfl rfl rfl rfl rfl hg18_g64 nofun (det_len rfl un23) rfl ?_
        refine hx_on rfl rfl rfl rfl rfl hg18_g64 nofun (det_field rfl fd25_1 rfl) rfl ?_
        refine hx_on rfl rfl rfl rfl rfl hg18_g64 nofun (det_load rfl m0 (by rfl) na23 us23) rfl ?_
        refine hx_actG rfl rfl rfl rfl rfl hg18_g64 (act_sliceH rfl rfl (ms m0) un23 sz73 rfl k18_p1 k18_p2) rfl (by rintro _ _ _ ⟨A18_13, c18_13, rfl, rfl, rfl⟩; first | exact ⟨_ :: [], [], rfl, rfl⟩ | exact ⟨[], [_], rfl, rfl⟩ | exact ⟨[], [], rfl, rfl⟩) ?_
        rintro _ _ _ ⟨A18_13, c18_13, rfl, rfl, rfl⟩
        refine hx_actG rfl rfl rfl rfl rfl hg18_g64 (act_callS (cap := []) (W_treatyref33_SamePostings (s8.2.take (r1_2.1.Postings.length : Int).toNat) r1_2.1.Postings A18_13 (s8.2.take (r1_2.1.Postings.length : Int).toNat).length c18_13 y1_2A0 r1_2.1.Postings.length y1_2c0 r18_16 hr18_16) rfl rfl rfl bd37 rfl ⟨m0, ⟨(ms m0), trivial⟩⟩) rfl (by rintro _ _ _ ⟨_, _, _, rfl, rfl⟩; first | exact ⟨_, _, rfl, rfl⟩ | exact ⟨_, [], rfl, rfl⟩) ?_
        rintro _ _ _ ⟨_, _, ⟨rfl, rfl, rfl⟩, rfl, rfl⟩
        dsimp only [List.nil_append, List.cons_append]
        refine hx_on rfl rfl rfl rfl rfl hg18_g64 nofun (det_not rfl) rfl ?_
        refine hx_det rfl rfl rfl nofun (det_pick_off rfl hg18_g64 rfl rfl) rfl ?_
        refine hx_det rfl rfl rfl nofun (det_move rfl) rfl ?_
        refine hx_off rfl rfl rfl rfl rfl hg18_g76 rfl ?_
        refine hx_off rfl rfl rfl rfl rfl hg18_g76 rfl ?_
        refine hx_off rfl rfl rfl rfl rfl hg18_g76 rfl ?_
        refine hx_off rfl rfl rfl rfl rfl hg18_g76 rfl ?_
        refine hx_off rfl rfl rfl rfl rfl hg18_g76 rfl ?_
        refine hx_det rfl rfl rfl nofun (det_pick_on rfl hg18_g76 rfl rfl) rfl ?_
        refine hx_end ?_
        refine wl_nil ?_
        replace h := Option.some.inj h
        subst h
        exact pn_meetG (true, ()) rfl ⟨rfl, rfl, rfl, trivial⟩ (fun _ h => h.to ⟨_, r0, ⟨_, r0, trivial⟩⟩ ⟨(ms m0), ⟨(ms (ms m0)), trivial⟩⟩)
      · have h := ifF h hg18_g76
        obtain ⟨k18_p3, h⟩ := chk_some h
        obtain ⟨k18_p4, h⟩ := chk_some h
        refine dx_region 26 [[], [0], [0, 1], [], [3], [3, 4], [0, 1, 2, 3, 4, 5], [0, 1, 2, 3, 4, 5, 6], [0, 1, 2, 3, 4, 5, 6, 7], [0, 1, 2, 3, 4, 5, 6, 7, 8], [0, 1, 2, 3, 4, 5, 6, 7], [0, 1, 2, 3, 4, 5, 6, 7, 10], [0, 1, 2, 3, 4, 5, 6, 7, 10, 11], [0, 1, 2, 3, 4, 5, 6, 7, 8, 9, 10, 11, 12], [0, 1, 2, 3, 4, 5, 6, 7], [0, 1, 2, 3, 4, 5, 6, 7, 14], [0, 1, 2, 3, 4, 5, 6, 7, 8, 9, 10, 11, 12, 13, 14, 15], [0, 1, 2, 3, 4, 5, 6, 7, 8, 9, 10, 11, 12, 13, 14, 15, 16], [0, 1, 2, 3, 4, 5, 6, 7, 8, 9, 10, 11, 12, 13, 14, 15, 16, 17], [0, 1, 2, 3, 4, 5, 6, 7, 8, 9, 10, 11, 12, 13, 14, 15, 16, 17, 18], [0, 1, 2, 3, 4, 5, 6, 7, 8, 9, 10, 11, 12, 13, 14, 15, 16, 17, 18, 19], [0, 1, 2, 3, 4, 5, 6, 7, 8, 9, 10, 11, 12, 13, 14, 15, 16, 17, 18, 19, 20], [0, 1, 2, 3, 4, 5, 6, 7, 8, 9, 10, 11, 12, 13, 14, 15, 16, 17, 18, 19], [0, 1, 2, 3, 4, 5, 6, 7, 8, 9, 10, 11, 12, 13, 14, 15, 16, 17, 18, 19, 22], [0, 1, 2, 3, 4, 5, 6, 7, 8, 9, 10, 11, 12, 13, 14, 15, 16, 17, 18, 19, 20, 21, 22, 23], [0, 1, 2, 3, 4, 5, 6, 7, 8, 9, 10, 11, 12, 13, 14, 15, 16, 17, 18, 19, 20, 21, 22, 23, 24]] mixed (ord := (.det 0 (.det 1 (.det 2 (.det 3 (.det 4 (.det 5 (.det 6 (.det 7 (.det 8 (.det 9 (.det 10 (.det 11 (.det 12 (.det 14 (.det 15 (.alt 13 (.alt 16 (.det 17 (.det 18 (.det 19 (.det 20 (.det 21 (.det 22 (.det 23 (.det 24 (.det 25 .done))))))))) .dead) .dead))))))))))))))))) (by kernel_rfl) ?_   -- region 18
        refine hx_det rfl rfl rfl nofun (det_field rfl fd25_1 rfl) rfl ?_
        refine hx_det rfl rfl rfl nofun (det_load rfl (ms m0) (by rfl) na23 us23) rfl ?_
        refine hx_det rfl rfl rfl nofun (det_len rfl un23) rfl ?_
        refine hx_det rfl rfl rfl nofun (det_field rfl fd25_1 rfl) rfl ?_
        refine hx_det rfl rfl rfl nofun (det_load rfl m0 (by rfl) na23 us23) rfl ?_
        refine hx_det rfl rfl rfl nofun (det_len rfl un23) rfl ?_
        refine hx_det rfl rfl rfl nofun (det_lss rfl rfl) rfl ?_
        refine hx_det rfl rfl rfl nofun (det_move rfl) rfl ?_
        refine hx_on rfl rfl rfl rfl rfl hg18_g64 nofun (det_field rfl fd25_1 rfl) rfl ?_
        refine hx_on rfl rfl rfl rfl rfl hg18_g64 nofun (det_load rfl (ms m0) (by rfl) na23 us23) rfl ?_
        refine hx_on rfl rfl rfl rfl rfl hg18_g64 nofun (det_field rfl fd25_1 rfl) rfl ?_
        refine hx_on rfl rfl rfl rfl rfl hg18_g64 nofun (det_load rfl m0 (by rfl) na23 us23) rfl ?_
        refine hx_on rfl rfl rfl rfl rfl hg18_g64 nofun (det_len rfl un23) rfl ?_
        refine hx_on rfl rfl rfl rfl rfl hg18_g64 nofun (det_field rfl fd25_1 rfl) rfl ?_
        refine hx_on rfl rfl rfl rfl rfl hg18_g64 nofun (det_load rfl m0 (by rfl) na23 us23) rfl ?_
        refine hx_actG rfl rfl rfl rfl rfl hg18_g64 (act_sliceH rfl rfl (ms m0) un23 sz73 rfl k18_p3 k18_p4) rfl (by rintro _ _ _ ⟨A18_13, c18_13, rfl, rfl, rfl⟩; first | exact ⟨_ :: [], [], rfl, rfl⟩ | exact ⟨[], [_], rfl, rfl⟩ | exact ⟨[], [], rfl, rfl⟩) ?_
        rintro _ _ _ ⟨A18_13, c18_13, rfl, rfl, rfl⟩
        refine hx_actG rfl rfl rfl rfl rfl hg18_g64 (act_callS (cap := []) (W_treatyref33_SamePostings (s8.2.take (r1_2.1.Postings.length : Int).toNat) r1_2.1.Postings A18_13 (s8.2.take (r1_2.1.Postings.length : Int).toNat).length c18_13 y1_2A0 r1_2.1.Postings.length y1_2c0 r18_16 hr18_16) rfl rfl rfl bd37 rfl ⟨m0, ⟨(ms m0), trivial⟩⟩) rfl (by rintro _ _ _ ⟨_, _, _, rfl, rfl⟩; first | exact ⟨_, _, rfl, rfl⟩ | exact ⟨_, [], rfl, rfl⟩) ?_
        rintro _ _ _ ⟨_, _, ⟨rfl, rfl, rfl⟩, rfl, rfl⟩
        dsimp only [List.nil_append, List.cons_append]
        refine hx_on rfl rfl rfl rfl rfl hg18_g64 nofun (det_not rfl) rfl ?_
        refine hx_det rfl rfl rfl nofun (det_pick_off rfl hg18_g64 rfl rfl) rfl ?_
        refine hx_det rfl rfl rfl nofun (det_move rfl) rfl ?_
        refine hx_on rfl rfl rfl rfl rfl hg18_g76 nofun (det_field rfl fd25_0 rfl) rfl ?_
        refine hx_on rfl rfl rfl rfl rfl hg18_g76 nofun (det_load rfl (ms m0) (by rfl) na3 us3) rfl ?_
        refine hx_on rfl rfl rfl rfl rfl hg18_g76 nofun (det_field rfl fd25_0 rfl) rfl ?_
        refine hx_on rfl rfl rfl rfl rfl hg18_g76 nofun (det_load rfl m0 (by rfl) na3 us3) rfl ?_
        refine hx_on rfl rfl rfl rfl rfl hg18_g76 nofun (det_lss rfl rfl) rfl ?_
        refine hx_det rfl rfl rfl nofun (det_pick_off rfl hg18_g76 rfl rfl) rfl ?_
        refine hx_end ?_
        refine wl_nil ?_
        replace h := Option.some.inj h
        subst h
        exact pn_meetG ((decide (s8.1 < r1_2.1.Closed)), ()) rfl ⟨rfl, rfl, rfl, trivial⟩ (fun _ h => h.to ⟨_, r0, ⟨_, r0, trivial⟩⟩ ⟨(ms m0), ⟨(ms (ms m0)), trivial⟩⟩)
  rintro ⟨s46, _⟩ e46
  dsimp only at e46 ⊢
  subst e46
  have h := ho46
  refine wc_cond rfl (fun cd48 => ?_) (fun cd48 => ?_)
  · have h := ifT h cd48
    refine wc_seq ?_
    refine wc_region ?_   -- region 19
    refine wl_det rfl rfl (det_assign rfl) rfl ?_
    refine wl_nil ?_
    refine pn_then ?_
    refine wc_ret ?_
    refine pr_then ?_
    replace h := Option.some.inj h
    subst h
    refine pn_ret (vs := [_]) rfl ⟨rfl, trivial⟩ ⟨rfl, rfl, rfl⟩ (fun _ h => h.to trivial trivial)
  · have h := ifF h cd48
    refine wc_skip ?_
    refine pn_then ?_
    obtain ⟨q51, h, ho51⟩ := bind_some h
    refine wc_meetG (G := Unit × Unit) (fun (s51, _) => (.inl s51) = q51) (fun (_, _) => [(7, .pointer (some ⟨b3_1, 0, none⟩))]) (fun (_, _) => [eBlk b3_1 25 [.int .i64 s8.1, .slice A8_0 s8.2.length c8_0]]) (fun (_, _) => [fV (lSlice lGPosting) (.slice A8_0 s8.2.length c8_0) s8.2]) ?_ ?_
    · refine wc_seq ?_
      refine wc_region ?_   -- region 20
      refine wl_det rfl rfl (det_assign rfl) rfl ?_
      refine wl_nil ?_
      refine pn_then ?_
      refine wc_block ?_
      obtain ⟨o55, h, ho55⟩ := bind_some h
      obtain ⟨k55, hk55⟩ := loopV_some.1 h
      refine wc_loop (G := Nat × Int × Unit) (fun g => IterN (treatylaw33_LedgerKeeps_l55 r1_2 s8) g.1 g.2.1 o55) (fun g => g.1) (fun (_, s55, _) => [(5, .pointer (some ⟨b1_3, 0, none⟩)), (7, .pointer (some ⟨b3_1, 0, none⟩)), (11, .int .i64 s55)]) (fun (_, _, _) => [eBlk b1_3 25 [.int .i64 r1_2.1.Closed, .slice y1_2A0 r1_2.1.Postings.length y1_2c0], eBlk b3_1 25 [.int .i64 s8.1, .slice A8_0 s8.2.length c8_0]]) (fun (_, _, _) => [fV (lSlice lGPosting) (.slice y1_2A0 r1_2.1.Postings.length y1_2c0) r1_2.1.Postings, fV (lSlice lGPosting) (.slice A8_0 s8.2.length c8_0) s8.2]) (k55, 0, ()) hk55 ⟨rfl, rfl, rfl, trivial⟩ (fun _ h => h.to ⟨_, r0, ⟨_, r0, trivial⟩⟩ ⟨m0, ⟨(ms m0), trivial⟩⟩) ?_
      rintro ⟨k55, s55, _⟩ hI
      obtain ⟨k55, rfl, q55, h, g55⟩ := IterN.pos hI
      dsimp only at h ⊢
      unfold treatylaw33_LedgerKeeps_l55 at h
      refine wc_seq ?_
      refine wc_seq ?_
      refine wc_region ?_   -- region 21
      refine wl_det rfl rfl (det_move rfl) rfl ?_
      refine wl_det rfl rfl (det_field rfl fd25_0 rfl) rfl ?_
      refine wl_det rfl rfl (det_load rfl m0 (by rfl) na3 us3) rfl ?_
      refine wl_det rfl rfl (det_leq rfl rfl) rfl ?_
      refine wl_nil ?_
      refine pn_then ?_
      refine wc_cond rfl (fun cd59 => ?_) (fun cd59 => ?_)
      · have h := ifT h cd59
        refine wc_skip ?_
        refine pn_then ?_
        refine wc_seq ?_
        refine wc_block ?_
        refine wc_seq ?_
        refine wc_region ?_   -- region 23
        refine wl_det rfl rfl (det_loadN (cells := [_, _]) rfl m0 (by rfl) ag25 sz25) rfl ?_
        refine wl_det rfl rfl (det_move rfl) rfl ?_
        obtain ⟨r23_2, hr23_2, h⟩ := bind_some h
        refine wl_act (act_callS (cap := []) (W_ledger_Totals r1_2.1 s55 y1_2A0 r1_2.1.Postings.length y1_2c0 r23_2 hr23_2) rfl rfl rfl bd18 rfl ⟨m0, trivial⟩) rfl rfl rfl ?_
        rintro _ _ _ ⟨_, _, ⟨y23_2A0, y23_2n0, y23_2c0, rfl, rfl, rfl⟩, rfl, rfl⟩
        dsimp only [List.nil_append, List.cons_append]
        refine wl_know (fun _ h => h.lenO m0) (fun e => ?_)
        subst e
        refine wl_det rfl rfl (det_move rfl) rfl ?_
        refine wl_det rfl rfl (det_extract rfl rfl) rfl ?_
        refine wl_det rfl rfl (det_extract rfl rfl) rfl ?_
        refine wl_det rfl rfl (det_assign rfl) rfl ?_
        refine wl_det rfl rfl (det_assign rfl) rfl ?_
        refine wl_nil ?_
        refine pn_then ?_
        refine wc_seq ?_
        refine wc_region ?_   -- region 24
        refine wl_det rfl rfl (det_loadN (cells := [_, _]) rfl (ms (ms m0)) (by rfl) ag25 sz25) rfl ?_
        refine wl_det rfl rfl (det_move rfl) rfl ?_
        obtain ⟨r24_2, hr24_2, h⟩ := bind_some h
        refine wl_act (act_callS (cap := []) (W_ledger_Totals (GLedger.mk s8.1 s8.2) s55 A8_0 s8.2.length c8_0 r24_2 hr24_2) rfl rfl rfl bd18 rfl ⟨(ms m0), trivial⟩) rfl rfl rfl ?_
        rintro _ _ _ ⟨_, _, ⟨y24_2A0, y24_2n0, y24_2c0, rfl, rfl, rfl⟩, rfl, rfl⟩
        dsimp only [List.nil_append, List.cons_append]
        refine wl_know (fun _ h => h.lenO m0) (fun e => ?_)
        subst e
        refine wl_det rfl rfl (det_move rfl) rfl ?_
        refine wl_det rfl rfl (det_extract rfl rfl) rfl ?_
        refine wl_det rfl rfl (det_extract rfl rfl) rfl ?_
        refine wl_det rfl rfl (det_assign rfl) rfl ?_
        refine wl_det rfl rfl (det_assign rfl) rfl ?_
        refine wl_nil ?_
        refine pn_then ?_
        refine wc_seq ?_
        refine wc_region ?_   -- region 25
        refine wl_det rfl rfl (det_move rfl) rfl ?_
        refine wl_det rfl rfl (det_neq rfl rfl) rfl ?_
        refine wl_det rfl rfl (det_move rfl) rfl ?_
        refine wl_way (!decide (r23_2.2 = 0)) ((!decide (r23_2.2 = 0)) || (!decide (r24_2.2 = 0))) 3 106 (fun hg => ?_) (fun hg => ?_) ?_
        · have hg25_5 := hg
          refine wl_off rfl rfl rfl rfl rfl hg25_5 rfl ?_
          refine wl_off rfl rfl rfl rfl rfl hg25_5 rfl ?_
          refine wl_det rfl rfl (det_or_on (r := (!decide (r24_2.2 = 0))) rfl rfl rfl hg25_5) rfl ?_
          exact wl_nil (pn_qnE (ext_cons rfl (ext_skip rfl (ext_skip rfl (ext_skip rfl ext_refl)))) (fun _ h => h))
        · have hg25_5a := hg
          refine wl_on rfl rfl rfl rfl hg25_5a ?_
          refine wl_det rfl rfl (det_move rfl) rfl ?_
          refine wl_on rfl rfl rfl rfl hg25_5a ?_
          refine wl_det rfl rfl (det_neq rfl rfl) rfl ?_
          refine wl_det rfl rfl (det_or_off rfl rfl rfl hg25_5a) rfl ?_
          exact wl_nil (pn_qnE (ext_cons rfl (ext_skip rfl (ext_skip rfl (ext_skip rfl ext_refl)))) (fun _ h => h))
        refine wl_det rfl rfl (det_move rfl) rfl ?_
        obtain ⟨q25_11, hq25_11, h⟩ := bind_some h
        have ho25_11 := h
        refine wl_way ((!decide (r23_2.2 = 0)) || (!decide (r24_2.2 = 0))) q25_11 5 112 (fun hg => ?_) (fun hg => ?_) ?_
        · have hg25_11 := hg
          have h := ifT hq25_11 hg
          refine wl_off rfl rfl rfl rfl rfl hg25_11 rfl ?_
          refine wl_off rfl rfl rfl rfl rfl hg25_11 rfl ?_
          refine wl_off rfl rfl rfl rfl rfl hg25_11 rfl ?_
          refine wl_off rfl rfl rfl rfl rfl hg25_11 rfl ?_
          replace h := Option.some.inj h
          subst h
          refine wl_det rfl rfl (det_pick_on rfl hg25_11 rfl rfl) rfl ?_
          exact wl_nil (pn_qnE (ext_cons rfl (ext_skip rfl (ext_skip rfl (ext_skip rfl (ext_skip rfl (ext_skip rfl ext_refl)))))) (fun _ h => h))
        · have hg25_11a := hg
          have h := ifF hq25_11 hg
          refine wl_on rfl rfl rfl rfl hg25_11a ?_
          refine wl_det rfl rfl (det_move rfl) rfl ?_
          refine wl_on rfl rfl rfl rfl hg25_11a ?_
          refine wl_det rfl rfl (det_move rfl) rfl ?_
          refine wl_on rfl rfl rfl rfl hg25_11a ?_
          obtain ⟨r25_9, hr25_9, h⟩ := bind_some h
          refine wl_act (act_callL (cap := []) [eS lGEntry 41 y23_2A0 r23_2.1.length y23_2c0 r23_2.1, eS lGEntry 41 y24_2A0 r24_2.1.length y24_2c0 r24_2.1] (W_treatyref33_SameEntries r23_2.1 r24_2.1 y23_2A0 r23_2.1.length y23_2c0 y24_2A0 r24_2.1.length y24_2c0 r25_9 hr25_9) plains_treatyref33_SameEntries rfl rfl rfl bd28 rfl ⟨(ms m0), ⟨m0, trivial⟩⟩ ⟨.inr ⟨_, m0, lent_eS⟩, ⟨.inr ⟨_, (ms m0), lent_eS⟩, trivial⟩⟩) rfl rfl rfl ?_
          rintro _ _ _ ⟨_, _, ⟨rfl, rfl, rfl⟩, rfl, rfl⟩
          dsimp only [List.nil_append, List.cons_append]
          refine wl_on rfl rfl rfl rfl hg25_11a ?_
          refine wl_det rfl rfl (det_not rfl) rfl ?_
          replace h := Option.some.inj h
          subst h
          refine wl_det rfl rfl (det_pick_off rfl hg25_11a rfl rfl) rfl ?_
          exact wl_nil (pn_qnE (ext_cons rfl (ext_skip rfl (ext_skip rfl (ext_skip rfl (ext_skip rfl (ext_skip rfl ext_refl)))))) (fun _ h => h))
        have h := ho25_11
        refine wl_nil ?_
        refine pn_then ?_
        refine wc_cond rfl (fun cd69 => ?_) (fun cd69 => ?_)
        · have h := ifT h cd69
          refine wc_seq ?_
          refine wc_region ?_   -- region 26
          refine wl_det rfl rfl (det_assign rfl) rfl ?_
          refine wl_nil ?_
          refine pn_then ?_
          refine wc_ret ?_
          refine pr_block ?_
          refine pr_then ?_
          refine pr_then ?_
          refine pr_block ?_
          refine pr_then ?_
          replace h := Option.some.inj h
          subst h
          replace g55 := nextR g55
          subst g55
          have h := (elimL ho55)
          replace h := Option.some.inj h
          subst h
          have h := (elimR ho51)
          replace h := Option.some.inj h
          subst h
          refine pn_ret (vs := [_]) rfl ⟨rfl, trivial⟩ ⟨rfl, rfl, rfl⟩ (fun _ h => h.to trivial trivial)
        · have h := ifF h cd69
          refine wc_skip ?_
          refine pn_block ?_
          refine pn_then ?_
          refine wc_region ?_   -- region 22
          refine wl_det rfl rfl (det_move rfl) rfl ?_
          refine wl_det rfl rfl (det_add rfl rfl) rfl ?_
          refine wl_det rfl rfl (det_assign rfl) rfl ?_
          refine wl_nil ?_
          replace h := Option.some.inj h
          subst h
          exact pn_some (k55, (w64 (s55 + 1)), ()) ⟨nextL g55, Nat.lt_succ_self _⟩ ⟨rfl, rfl, rfl, trivial⟩ (fun _ h => h.to ⟨_, (rs (rs r0)), ⟨_, (rs (rs r0)), trivial⟩⟩ ⟨m0, ⟨(ms m0), trivial⟩⟩)
      · have h := ifF h cd59
        refine wc_exit ?_
        refine px_then ?_
        refine px_then ?_
        refine px_block ?_
        replace h := Option.some.inj h
        subst h
        replace g55 := nextR g55
        subst g55
        have h := (elimR ho55)
        replace h := Option.some.inj h
        subst h
        exact pn_meetG ((), ()) rfl ⟨rfl, trivial⟩ (fun _ h => h.to ⟨_, (rs r0), trivial⟩ ⟨(ms m0), trivial⟩)
    rintro ⟨s51, _⟩ e51
    dsimp only at e51 ⊢
    subst e51
    have h := (elimL ho51)
    refine wc_seq ?_
    refine wc_region ?_   -- region 27
    refine wl_det rfl rfl (det_loadN (cells := [_, _]) rfl m0 (by rfl) ag25 sz25) rfl ?_
    obtain ⟨r27_1, hr27_1, h⟩ := bind_some h
    refine wl_act (act_callS (cap := []) (W_ledger_Validate (GLedger.mk s8.1 s8.2) A8_0 s8.2.length c8_0 r27_1 hr27_1) rfl rfl rfl bd16 rfl ⟨m0, trivial⟩) rfl rfl rfl ?_
    rintro _ _ _ ⟨_, _, ⟨rfl, rfl, rfl⟩, rfl, rfl⟩
    dsimp only [List.nil_append, List.cons_append]
    refine wl_det rfl rfl (det_eql rfl rfl) rfl ?_
    refine wl_det rfl rfl (det_move rfl) rfl ?_
    obtain ⟨q27_5, hq27_5, h⟩ := bind_some h
    have ho27_5 := h
    refine wl_way (decide (r27_1 = 0)) q27_5 2 118 (fun hg => ?_) (fun hg => ?_) ?_
    · have hg27_5 := hg
      have h := ifT hq27_5 hg
      refine wl_on rfl rfl rfl rfl hg27_5 ?_
      obtain ⟨r27_4, hr27_4, h⟩ := bind_some h
      refine wl_act (act_callS (cap := []) (W_treatylaw33_awake r27_4 hr27_4) rfl rfl rfl bd20 rfl trivial) rfl rfl rfl ?_
      rintro _ _ _ ⟨_, _, ⟨rfl, rfl, rfl⟩, rfl, rfl⟩
      dsimp only [List.nil_append, List.cons_append]
      replace h := Option.some.inj h
      subst h
      refine wl_det rfl rfl (det_pick_on rfl hg27_5 rfl rfl) rfl ?_
      exact wl_nil (pn_qnE (ext_cons rfl (ext_skip rfl (ext_skip rfl ext_refl))) (fun _ h => h))
    · have hg27_5a := hg
      have h := ifF hq27_5 hg
      refine wl_off rfl rfl rfl rfl rfl hg27_5a rfl ?_
      replace h := Option.some.inj h
      subst h
      refine wl_det rfl rfl (det_pick_off rfl hg27_5a rfl rfl) rfl ?_
      exact wl_nil (pn_qnE (ext_cons rfl (ext_skip rfl (ext_skip rfl ext_refl))) (fun _ h => h))
    have h := ho27_5
    refine wl_det rfl rfl (det_assign rfl) rfl ?_
    refine wl_nil ?_
    refine pn_then ?_
    refine wc_ret ?_
    replace h := Option.some.inj h
    subst h
    refine pn_ret (vs := [_]) rfl ⟨rfl, trivial⟩ ⟨rfl, rfl, rfl⟩ (fun _ h => h.to trivial trivial)
end Go.Proofs.Ytadkcelipefpmaa
