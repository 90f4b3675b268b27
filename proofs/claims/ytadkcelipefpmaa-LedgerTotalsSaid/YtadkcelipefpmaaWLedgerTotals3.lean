/- That functions of the program compute the plain programs of P. Written by a small program. -/
import Derived.Test.YtadkcelipefpmaaWLedgerTotals2
namespace Go.Proofs.Ytadkcelipefpmaa
open Go.RowKit
def Q_treatylaw33_LedgerTotals (r : Bool) : Value → List Ent → List Fact → Prop := fun v θ κ => v = .bool r ∧ θ = [] ∧ κ = []
theorem plains_treatylaw33_LedgerTotals {r : Bool} : ∀ v θ κ, Q_treatylaw33_LedgerTotals r v θ κ → Plains θ := by
  rintro _ _ _ ⟨rfl, rfl, rfl⟩
  exact trivial
set_option maxHeartbeats 4000000 in
set_option maxRecDepth 100000 in
theorem W_treatylaw33_LedgerTotals (a0 : (List Int)) (a1 : Int) (a2 : Int) (a3 : Int) (A0 : Option Addr) (n0 : Nat) (c0 : Nat) (r : Bool) (h : treatylaw33_LedgerTotals a0 a1 a2 a3 = some r) : Spec Try.prog 6 [.slice A0 n0 c0, .int .i64 a1, .int .i64 a2, .int .i64 a3] [] [fV (lSlice (lInt .i64)) (.slice A0 n0 c0) a0] (Q_treatylaw33_LedgerTotals r) := by
  unfold treatylaw33_LedgerTotals at h
  refine spec_of (σ := [(0, _), (1, _), (2, _), (3, _)]) Try.func6 rfl rfl rfl rfl ?_
  intro C
  refine wc_know (fun _ h => h.lenF m0) (fun e => ?_)
  subst e
  refine wc_seq ?_
  refine wc_region ?_   -- region 0
  refine wl_det rfl rfl (det_assign rfl) rfl ?_
  refine wl_nil ?_
  refine pn_then ?_
  refine wc_seq ?_
  refine wc_region ?_   -- region 1
  refine wl_det rfl rfl (det_move rfl) rfl ?_
  refine wl_det rfl rfl (det_move rfl) rfl ?_
  refine wl_det rfl rfl (det_move rfl) rfl ?_
  obtain ⟨r1_3, hr1_3, h⟩ := bind_some h
  refine wl_act (act_callS (cap := []) (W_treatylaw33_few a0 a1 a2 A0 a0.length c0 r1_3 hr1_3) rfl rfl rfl bd21 rfl ⟨m0, trivial⟩) rfl rfl rfl ?_
  rintro _ _ _ ⟨_, _, ⟨y1_3A0, y1_3n0, y1_3c0, y1_3A1, y1_3n1, y1_3c1, rfl, rfl, rfl⟩, rfl, rfl⟩
  dsimp only [List.nil_append, List.cons_append]
  refine wl_know (fun _ h => h.lenF m0) (fun e => ?_)
  subst e
  refine wl_know (fun _ h => h.lenO m0) (fun e => ?_)
  subst e
  refine wl_det rfl rfl (det_move rfl) rfl ?_
  refine wl_det rfl rfl (det_extract rfl rfl) rfl ?_
  refine wl_det rfl rfl (det_extract rfl rfl) rfl ?_
  refine wl_act (act_alloc (cs := [_, _]) zr25 rfl) rfl rfl rfl ?_
  rintro _ _ _ ⟨b1_7, rfl, rfl, rfl⟩
  refine wl_act (act_alloc (cs := [_, _]) zr25 rfl) rfl rfl rfl ?_
  rintro _ _ _ ⟨b1_8, rfl, rfl, rfl⟩
  refine wl_act0 (act_store (cells := [_, _]) (cs' := [_, _]) rfl rfl rfl (ss s0) (by rfl) (of_decide_eq_true rfl) sz25 ⟨rfl, rfl, trivial⟩) rfl rfl ?_
  rintro _ _ _ ⟨rfl, rfl⟩
  refine wl_act0 (act_store (cells := [_, _]) (cs' := [_, _]) rfl rfl rfl s0 (by rfl) (of_decide_eq_true rfl) sz25 ⟨rfl, rfl, trivial⟩) rfl rfl ?_
  rintro _ _ _ ⟨rfl, rfl⟩
  refine wl_nil ?_
  refine pn_then ?_
  obtain ⟨q4, h, ho4⟩ := bind_some h
  refine wc_meetG (G := Unit × Unit) (fun (s4, _) => (.inl s4) = q4) (fun (_, _) => []) (fun (_, _) => []) (fun (_, _) => []) ?_ ?_
  · refine wc_seq ?_
    refine wc_region ?_   -- region 2
    refine wl_det rfl rfl (det_loadN (cells := [_, _]) rfl (ms m0) (by rfl) ag25 sz25) rfl ?_
    refine wl_det rfl rfl (det_loadN (cells := [_, _]) rfl m0 (by rfl) ag25 sz25) rfl ?_
    refine wl_st (fun _ h => h.fact (f := fC lGLedger [.int .i64 r1_3.1.Closed, .slice y1_3A0 r1_3.1.Postings.length y1_3c0] r1_3.1) (mkGLedger ⟨h.facts _ m0, trivial⟩)) ?_
    refine wl_st (fun _ h => h.shutS (rs (rs r0))) ?_
    refine wl_st (fun _ h => h.fact (f := fC lGLedger [.int .i64 r1_3.2.Closed, .slice y1_3A1 r1_3.2.Postings.length y1_3c1] r1_3.2) (mkGLedger ⟨h.facts _ m0, trivial⟩)) ?_
    refine wl_act (act_litS lGLedger (vs := [_, _]) (cs := [_, _, _, _]) [r1_3.1, r1_3.2] un52 in25 rfl rfl rfl rfl rfl ⟨rfl, rfl, trivial⟩ (by rfl) rfl (fun _ h => by have q := (oneF h (ms (ms m0))).cat (oneF h m0); exact q)) rfl rfl rfl ?_
    rintro _ _ _ ⟨A2_2, rfl, rfl, rfl⟩
    refine wl_det rfl rfl (det_len rfl un52) rfl ?_
    refine wl_det rfl rfl (det_move rfl) rfl ?_
    refine wl_nil ?_
    refine pn_then ?_
    refine wc_block ?_
    refine wc_st (fun _ h => h.shutS r0) ?_
    obtain ⟨o8, h, ho8⟩ := bind_some h
    obtain ⟨k8, hk8⟩ := loopV_some.1 h
    refine wc_loop (G := Nat × Int × Unit) (fun g => IterN (treatylaw33_LedgerTotals_l8 a3 r1_3) g.1 g.2.1 o8) (fun g => g.1) (fun (_, s8, _) => [(3, .int .i64 a3), (28, .slice A2_2 2 2), (29, .int .i64 (2 : Int)), (30, .int .i64 s8)]) (fun (_, _, _) => []) (fun (_, _, _) => [fV (lSlice lGLedger) (.slice A2_2 2 2) [r1_3.1, r1_3.2]]) (k8, 0, ()) hk8 ⟨rfl, rfl, rfl, rfl, trivial⟩ (fun _ h => h.to trivial ⟨m0, trivial⟩) ?_
    rintro ⟨k8, s8, _⟩ hI
    obtain ⟨k8, rfl, q8, h, g8⟩ := IterN.pos hI
    dsimp only at h ⊢
    unfold treatylaw33_LedgerTotals_l8 at h
    refine wc_seq ?_
    refine wc_region ?_   -- region 3
    refine wl_det rfl rfl (det_lss rfl rfl) rfl ?_
    refine wl_nil ?_
    refine pn_then ?_
    refine wc_seq ?_
    refine wc_cond rfl (fun cd12 => ?_) (fun cd12 => ?_)
    · have h := ifT h cd12
      refine wc_skip ?_
      refine pn_then ?_
      obtain ⟨q14, h, ho14⟩ := bind_some h
      refine wc_meetG (G := Unit × Unit) (fun (s14, _) => (.inl s14) = q14) (fun (_, _) => [(3, .int .i64 a3), (28, .slice A2_2 2 2), (29, .int .i64 (2 : Int)), (30, .int .i64 s8)]) (fun (_, _) => []) (fun (_, _) => [fV (lSlice lGLedger) (.slice A2_2 2 2) [r1_3.1, r1_3.2]]) ?_ ?_
      · refine wc_block ?_
        refine wc_seq ?_
        refine wc_region ?_   -- region 4
        obtain ⟨k4_0, h⟩ := chk_some h
        refine wl_ex (G := Option Addr × Nat) _ _ (fun _ => True) (fun _ h => openGLedger h m0 k4_0) ?_
        rintro ⟨A4_0, c4_0⟩ -
        dsimp only
        refine wl_det rfl rfl (det_indexP rfl rfl (ms (ms m0)) k4_0 m0 un52 sz25) rfl ?_
        refine wl_det rfl rfl (det_loadP (off := 0) rfl m0 (by rfl) (by rfl) (loaded_n (cells := [_, _]) ag25 sz25)) rfl ?_
        refine wl_act (act_alloc (cs := [_, _]) zr25 rfl) rfl rfl rfl ?_
        rintro _ _ _ ⟨b4_2, rfl, rfl, rfl⟩
        refine wl_act0 (act_store (cells := [_, _]) (cs' := [_, _]) rfl rfl rfl s0 (by rfl) (of_decide_eq_true rfl) sz25 ⟨rfl, rfl, trivial⟩) rfl rfl ?_
        rintro _ _ _ ⟨rfl, rfl⟩
        refine wl_nil ?_
        refine pn_then ?_
        refine wc_seq ?_
        refine wc_region ?_   -- region 5
        refine wl_det rfl rfl (det_move rfl) rfl ?_
        refine wl_det rfl rfl (det_move rfl) rfl ?_
        refine wl_det rfl rfl (det_band rfl rfl) rfl ?_
        refine wl_act (act_litS (lInt .i64) (vs := [_, _, _]) (cs := [_, _, _]) [a3, (bAnd .i64 a3 7), 0] un22 in3 rfl rfl rfl rfl rfl ⟨rfl, rfl, rfl, trivial⟩ (by rfl) rfl (litR_flat rfl)) rfl rfl rfl ?_
        rintro _ _ _ ⟨A5_3, rfl, rfl, rfl⟩
        refine wl_det rfl rfl (det_len rfl un22) rfl ?_
        refine wl_det rfl rfl (det_move rfl) rfl ?_
        refine wl_nil ?_
        refine pn_then ?_
        refine wc_block ?_
        obtain ⟨o21, h, ho21⟩ := bind_some h
        obtain ⟨k21, hk21⟩ := loopV_some.1 h
        refine wc_loop (G := Nat × Int × Unit) (fun g => IterN (treatylaw33_LedgerTotals_l21 a3 r1_3 s8) g.1 g.2.1 o21) (fun g => g.1) (fun (_, s21, _) => [(3, .int .i64 a3), (12, .pointer (some ⟨b4_2, 0, none⟩)), (28, .slice A2_2 2 2), (29, .int .i64 (2 : Int)), (30, .int .i64 s8), (37, .slice A5_3 3 3), (38, .int .i64 (3 : Int)), (39, .int .i64 s21)]) (fun (_, _, _) => [eBlk b4_2 25 [.int .i64 (ix [r1_3.1, r1_3.2] s8).Closed, .slice A4_0 (ix [r1_3.1, r1_3.2] s8).Postings.length c4_0], eS (lInt .i64) 3 A5_3 3 3 [a3, (bAnd .i64 a3 7), 0]]) (fun (_, _, _) => [fV (lSlice lGPosting) (.slice A4_0 (ix [r1_3.1, r1_3.2] s8).Postings.length c4_0) (ix [r1_3.1, r1_3.2] s8).Postings, fV (lSlice lGLedger) (.slice A2_2 2 2) [r1_3.1, r1_3.2]]) (k21, 0, ()) hk21 ⟨rfl, rfl, rfl, rfl, rfl, rfl, rfl, rfl, trivial⟩ (fun _ h => h.to ⟨_, (rs r0), ⟨_, r0, trivial⟩⟩ ⟨(ms m0), ⟨(ms (ms m0)), trivial⟩⟩) ?_
        rintro ⟨k21, s21, _⟩ hI
        obtain ⟨k21, rfl, q21, h, g21⟩ := IterN.pos hI
        dsimp only at h ⊢
        unfold treatylaw33_LedgerTotals_l21 at h
        refine wc_seq ?_
        refine wc_region ?_   -- region 6
        refine wl_det rfl rfl (det_lss rfl rfl) rfl ?_
        refine wl_nil ?_
        refine pn_then ?_
        refine wc_seq ?_
        refine wc_cond rfl (fun cd25 => ?_) (fun cd25 => ?_)
        · have h := ifT h cd25
          refine wc_skip ?_
          refine pn_then ?_
          refine wc_seq ?_
          refine wc_block ?_
          refine wc_seq ?_
          refine wc_region ?_   -- region 7
          obtain ⟨k7_0, h⟩ := chk_some h
          refine wl_det rfl rfl (det_indexO rfl rfl (ms m0) k7_0 un22 sz3) rfl ?_
          refine wl_det rfl rfl (det_loadO (off := 0) rfl (ms m0) k7_0 (by rfl) (by rfl) (loaded_1 na3 us3)) rfl ?_
          refine wl_det rfl rfl (det_assign rfl) rfl ?_
          refine wl_nil ?_
          refine pn_then ?_
          refine wc_seq ?_
          refine wc_region ?_   -- region 8
          refine wl_det rfl rfl (det_loadN (cells := [_, _]) rfl m0 (by rfl) ag25 sz25) rfl ?_
          refine wl_det rfl rfl (det_move rfl) rfl ?_
          obtain ⟨r8_2, hr8_2, h⟩ := bind_some h
          refine wl_act (act_callS (cap := []) (W_ledger_Totals (ix [r1_3.1, r1_3.2] s8) (ix [a3, (bAnd .i64 a3 7), 0] s21) A4_0 (ix [r1_3.1, r1_3.2] s8).Postings.length c4_0 r8_2 hr8_2) rfl rfl rfl bd18 rfl ⟨m0, trivial⟩) rfl rfl rfl ?_
          rintro _ _ _ ⟨_, _, ⟨y8_2A0, y8_2n0, y8_2c0, rfl, rfl, rfl⟩, rfl, rfl⟩
          dsimp only [List.nil_append, List.cons_append]
          refine wl_know (fun _ h => h.lenO m0) (fun e => ?_)
          subst e
          refine wl_det rfl rfl (det_move rfl) rfl ?_
          refine wl_det rfl rfl (det_extract rfl rfl) rfl ?_
          refine wl_det rfl rfl (det_extract rfl rfl) rfl ?_
          refine wl_det rfl rfl (det_assign rfl) rfl ?_
          refine wl_det rfl rfl (det_assign rfl) rfl ?_
          refine wl_nil ?_
          refine pn_then ?_
          refine wc_seq ?_
          refine wc_region ?_   -- region 9
          refine wl_det rfl rfl (det_loadN (cells := [_, _]) rfl (ms m0) (by rfl) ag25 sz25) rfl ?_
          refine wl_det rfl rfl (det_move rfl) rfl ?_
          obtain ⟨r9_2, hr9_2, h⟩ := bind_some h
          refine wl_act (act_callS (cap := []) (W_treatyref33_Totals (ix [r1_3.1, r1_3.2] s8) (ix [a3, (bAnd .i64 a3 7), 0] s21) A4_0 (ix [r1_3.1, r1_3.2] s8).Postings.length c4_0 r9_2 hr9_2) rfl rfl rfl bd29 rfl ⟨m0, trivial⟩) rfl rfl rfl ?_
          rintro _ _ _ ⟨_, _, ⟨y9_2A0, y9_2n0, y9_2c0, rfl, rfl, rfl⟩, rfl, rfl⟩
          dsimp only [List.nil_append, List.cons_append]
          refine wl_know (fun _ h => h.lenO m0) (fun e => ?_)
          subst e
          refine wl_det rfl rfl (det_move rfl) rfl ?_
          refine wl_det rfl rfl (det_extract rfl rfl) rfl ?_
          refine wl_det rfl rfl (det_extract rfl rfl) rfl ?_
          refine wl_det rfl rfl (det_assign rfl) rfl ?_
          refine wl_det rfl rfl (det_assign rfl) rfl ?_
          refine wl_nil ?_
          refine pn_then ?_
          refine wc_seq ?_
          refine wc_region ?_   -- region 10
          refine wl_det rfl rfl (det_move rfl) rfl ?_
          refine wl_det rfl rfl (det_move rfl) rfl ?_
          obtain ⟨r10_2, hr10_2, h⟩ := bind_some h
          refine wl_act (act_callL (cap := []) [eS lGEntry 41 y8_2A0 r8_2.1.length y8_2c0 r8_2.1, eS lGEntry 41 y9_2A0 r9_2.1.length y9_2c0 r9_2.1] (W_treatyref33_SameEntries r8_2.1 r9_2.1 y8_2A0 r8_2.1.length y8_2c0 y9_2A0 r9_2.1.length y9_2c0 r10_2 hr10_2) plains_treatyref33_SameEntries rfl rfl rfl bd28 rfl ⟨(ms m0), ⟨m0, trivial⟩⟩ ⟨.inr ⟨_, m0, lent_eS⟩, ⟨.inr ⟨_, (ms m0), lent_eS⟩, trivial⟩⟩) rfl rfl rfl ?_
          rintro _ _ _ ⟨_, _, ⟨rfl, rfl, rfl⟩, rfl, rfl⟩
          dsimp only [List.nil_append, List.cons_append]
          refine wl_det rfl rfl (det_not rfl) rfl ?_
          refine wl_det rfl rfl (det_move rfl) rfl ?_
          refine wl_way (!r10_2) ((!r10_2) || (!decide (r8_2.2 = r9_2.2))) 4 63 (fun hg => ?_) (fun hg => ?_) ?_
          · have hg10_8 := hg
            refine wl_off rfl rfl rfl rfl rfl hg10_8 rfl ?_
            refine wl_off rfl rfl rfl rfl rfl hg10_8 rfl ?_
            refine wl_off rfl rfl rfl rfl rfl hg10_8 rfl ?_
            refine wl_det rfl rfl (det_or_on (r := (!decide (r8_2.2 = r9_2.2))) rfl rfl rfl hg10_8) rfl ?_
            exact wl_nil (pn_qnE (ext_cons rfl (ext_skip rfl (ext_skip rfl (ext_skip rfl (ext_skip rfl ext_refl))))) (fun _ h => h))
          · have hg10_8a := hg
            refine wl_on rfl rfl rfl rfl hg10_8a ?_
            refine wl_det rfl rfl (det_move rfl) rfl ?_
            refine wl_on rfl rfl rfl rfl hg10_8a ?_
            refine wl_det rfl rfl (det_move rfl) rfl ?_
            refine wl_on rfl rfl rfl rfl hg10_8a ?_
            refine wl_det rfl rfl (det_neq rfl rfl) rfl ?_
            refine wl_det rfl rfl (det_or_off rfl rfl rfl hg10_8a) rfl ?_
            exact wl_nil (pn_qnE (ext_cons rfl (ext_skip rfl (ext_skip rfl (ext_skip rfl (ext_skip rfl ext_refl))))) (fun _ h => h))
          refine wl_nil ?_
          refine pn_then ?_
          refine wc_cond rfl (fun cd37 => ?_) (fun cd37 => ?_)
          · have h := ifT h cd37
            refine wc_seq ?_
            refine wc_region ?_   -- region 11
            refine wl_det rfl rfl (det_assign rfl) rfl ?_
            refine wl_nil ?_
            refine pn_then ?_
            refine wc_ret ?_
            refine pr_block ?_
            refine pr_then ?_
            refine pr_then ?_
            refine pr_block ?_
            refine pr_block ?_
            refine pr_then ?_
            refine pr_then ?_
            refine pr_block ?_
            refine pr_then ?_
            replace h := Option.some.inj h
            subst h
            replace g21 := nextR g21
            subst g21
            have h := (elimL ho21)
            replace h := Option.some.inj h
            subst h
            have h := (elimR ho14)
            replace h := Option.some.inj h
            subst h
            replace g8 := nextR g8
            subst g8
            have h := (elimL ho8)
            replace h := Option.some.inj h
            subst h
            have h := (elimR ho4)
            replace h := Option.some.inj h
            subst h
            refine pn_ret (vs := [_]) rfl ⟨rfl, trivial⟩ ⟨rfl, rfl, rfl⟩ (fun _ h => h.to trivial trivial)
          · have h := ifF h cd37
            refine wc_skip ?_
            refine pn_block ?_
            refine pn_then ?_
            refine wc_region ?_   -- region 12
            refine wl_det rfl rfl (det_add rfl rfl) rfl ?_
            refine wl_det rfl rfl (det_move rfl) rfl ?_
            refine wl_nil ?_
            replace h := Option.some.inj h
            subst h
            exact pn_some (k21, (w64 (s21 + 1)), ()) ⟨nextL g21, Nat.lt_succ_self _⟩ ⟨rfl, rfl, rfl, rfl, rfl, rfl, rfl, rfl, trivial⟩ (fun _ h => h.to ⟨_, (rs (rs r0)), ⟨_, (rs (rs r0)), trivial⟩⟩ ⟨m0, ⟨(ms m0), trivial⟩⟩)
        · have h := ifF h cd25
          refine wc_exit ?_
          refine px_then ?_
          refine px_then ?_
          refine px_block ?_
          refine pn_block ?_
          replace h := Option.some.inj h
          subst h
          replace g21 := nextR g21
          subst g21
          have h := (elimR ho21)
          replace h := Option.some.inj h
          subst h
          exact pn_meetG ((), ()) rfl ⟨rfl, rfl, rfl, rfl, trivial⟩ (fun _ h => h.to trivial ⟨(ms m0), trivial⟩)
      rintro ⟨s14, _⟩ e14
      dsimp only at e14 ⊢
      subst e14
      have h := (elimL ho14)
      refine wc_region ?_   -- region 13
      refine wl_det rfl rfl (det_add rfl rfl) rfl ?_
      refine wl_det rfl rfl (det_move rfl) rfl ?_
      refine wl_nil ?_
      replace h := Option.some.inj h
      subst h
      exact pn_some (k8, (w64 (s8 + 1)), ()) ⟨nextL g8, Nat.lt_succ_self _⟩ ⟨rfl, rfl, rfl, rfl, trivial⟩ (fun _ h => h.to trivial ⟨m0, trivial⟩)
    · have h := ifF h cd12
      refine wc_exit ?_
      refine px_then ?_
      refine px_then ?_
      refine px_block ?_
      replace h := Option.some.inj h
      subst h
      replace g8 := nextR g8
      subst g8
      have h := (elimR ho8)
      replace h := Option.some.inj h
      subst h
      exact pn_meetG ((), ()) rfl trivial (fun _ h => h.to trivial trivial)
  rintro ⟨s4, _⟩ e4
  dsimp only at e4 ⊢
  subst e4
  have h := (elimL ho4)
  refine wc_seq ?_
  refine wc_region ?_   -- region 14
  obtain ⟨r14_0, hr14_0, h⟩ := bind_some h
  refine wl_act (act_callS (cap := []) (W_treatylaw33_awake r14_0 hr14_0) rfl rfl rfl bd20 rfl trivial) rfl rfl rfl ?_
  rintro _ _ _ ⟨_, _, ⟨rfl, rfl, rfl⟩, rfl, rfl⟩
  dsimp only [List.nil_append, List.cons_append]
  refine wl_det rfl rfl (det_assign rfl) rfl ?_
  refine wl_nil ?_
  refine pn_then ?_
  refine wc_ret ?_
  replace h := Option.some.inj h
  subst h
  refine pn_ret (vs := [_]) rfl ⟨rfl, trivial⟩ ⟨rfl, rfl, rfl⟩ (fun _ h => h.to trivial trivial)
end Go.Proofs.Ytadkcelipefpmaa
