/- That functions of the program compute the plain programs of P. Written by a small program. -/
import Derived.Test.YtadkcelipefpmaaWAccountParties1
namespace Go.Proofs.Ytadkcelipefpmaa
open Go.RowKit
def Q_ledger_Validate (r : Int) : Value → List Ent → List Fact → Prop := fun v θ κ => v = .int .i64 r ∧ θ = [] ∧ κ = []
theorem plains_ledger_Validate {r : Int} : ∀ v θ κ, Q_ledger_Validate r v θ κ → Plains θ := by
  rintro _ _ _ ⟨rfl, rfl, rfl⟩
  exact trivial
set_option maxHeartbeats 4000000 in
set_option maxRecDepth 100000 in
theorem W_ledger_Validate (a0 : GLedger) (A0 : Option Addr) (n0 : Nat) (c0 : Nat) (r : Int) (h : ledger_Validate a0 = some r) : Spec Try.prog 16 [.agg #[.int .i64 a0.Closed, .slice A0 n0 c0]] [] [fV (lSlice lGPosting) (.slice A0 n0 c0) a0.Postings] (Q_ledger_Validate r) := by
  unfold ledger_Validate at h
  refine spec_of (σ := [(0, _)]) Try.func16 rfl rfl rfl rfl ?_
  intro C
  refine wc_know (fun _ h => h.lenF m0) (fun e => ?_)
  subst e
  refine wc_seq ?_
  refine wc_region ?_   -- region 0
  refine wl_act (act_box (cs := [_, _]) rfl rfl) rfl rfl rfl ?_
  rintro _ _ _ ⟨b0_0, rfl, rfl, rfl⟩
  refine wl_det rfl rfl (det_assign rfl) rfl ?_
  refine wl_nil ?_
  refine pn_then ?_
  refine wc_seq ?_
  refine wc_seq ?_
  refine wc_region ?_   -- region 1
  refine wl_det rfl rfl (det_field rfl fd25_0 rfl) rfl ?_
  refine wl_det rfl rfl (det_load rfl m0 (by rfl) na3 us3) rfl ?_
  refine wl_det rfl rfl (det_lss rfl rfl) rfl ?_
  refine wl_det rfl rfl (det_move rfl) rfl ?_
  refine wl_way (decide (a0.Closed < 0)) ((decide (a0.Closed < 0)) || (decide (100 < a0.Closed))) 4 12 (fun hg => ?_) (fun hg => ?_) ?_
  · have hg1_7 := hg
    refine wl_off rfl rfl rfl rfl rfl hg1_7 rfl ?_
    refine wl_off rfl rfl rfl rfl rfl hg1_7 rfl ?_
    refine wl_off rfl rfl rfl rfl rfl hg1_7 rfl ?_
    refine wl_det rfl rfl (det_or_on (r := (decide (100 < a0.Closed))) rfl rfl rfl hg1_7) rfl ?_
    exact wl_nil (pn_qnE (ext_cons rfl (ext_skip rfl (ext_skip rfl (ext_skip rfl (ext_skip rfl ext_refl))))) (fun _ h => h))
  · have hg1_7a := hg
    refine wl_on rfl rfl rfl rfl hg1_7a ?_
    refine wl_det rfl rfl (det_field rfl fd25_0 rfl) rfl ?_
    refine wl_on rfl rfl rfl rfl hg1_7a ?_
    refine wl_det rfl rfl (det_load rfl m0 (by rfl) na3 us3) rfl ?_
    refine wl_on rfl rfl rfl rfl hg1_7a ?_
    refine wl_det rfl rfl (det_gtr rfl rfl) rfl ?_
    refine wl_det rfl rfl (det_or_off rfl rfl rfl hg1_7a) rfl ?_
    exact wl_nil (pn_qnE (ext_cons rfl (ext_skip rfl (ext_skip rfl (ext_skip rfl (ext_skip rfl ext_refl))))) (fun _ h => h))
  refine wl_det rfl rfl (det_move rfl) rfl ?_
  refine wl_way ((decide (a0.Closed < 0)) || (decide (100 < a0.Closed))) (((decide (a0.Closed < 0)) || (decide (100 < a0.Closed))) || (decide (65536 < (a0.Postings.length : Int)))) 5 18 (fun hg => ?_) (fun hg => ?_) ?_
  · have hg1_13 := hg
    refine wl_off rfl rfl rfl rfl rfl hg1_13 rfl ?_
    refine wl_off rfl rfl rfl rfl rfl hg1_13 rfl ?_
    refine wl_off rfl rfl rfl rfl rfl hg1_13 rfl ?_
    refine wl_off rfl rfl rfl rfl rfl hg1_13 rfl ?_
    refine wl_det rfl rfl (det_or_on (r := (decide (65536 < (a0.Postings.length : Int)))) rfl rfl rfl hg1_13) rfl ?_
    exact wl_nil (pn_qnE (ext_cons rfl (ext_skip rfl (ext_skip rfl (ext_skip rfl (ext_skip rfl (ext_skip rfl ext_refl)))))) (fun _ h => h))
  · have hg1_13a := hg
    refine wl_on rfl rfl rfl rfl hg1_13a ?_
    refine wl_det rfl rfl (det_field rfl fd25_1 rfl) rfl ?_
    refine wl_on rfl rfl rfl rfl hg1_13a ?_
    refine wl_det rfl rfl (det_load rfl m0 (by rfl) na23 us23) rfl ?_
    refine wl_on rfl rfl rfl rfl hg1_13a ?_
    refine wl_det rfl rfl (det_len rfl un23) rfl ?_
    refine wl_on rfl rfl rfl rfl hg1_13a ?_
    refine wl_det rfl rfl (det_gtr rfl rfl) rfl ?_
    refine wl_det rfl rfl (det_or_off rfl rfl rfl hg1_13a) rfl ?_
    exact wl_nil (pn_qnE (ext_cons rfl (ext_skip rfl (ext_skip rfl (ext_skip rfl (ext_skip rfl (ext_skip rfl ext_refl)))))) (fun _ h => h))
  refine wl_nil ?_
  refine pn_then ?_
  refine wc_cond rfl (fun cd5 => ?_) (fun cd5 => ?_)
  · have h := ifT h cd5
    refine wc_seq ?_
    refine wc_region ?_   -- region 2
    refine wl_det rfl rfl (det_assign rfl) rfl ?_
    refine wl_nil ?_
    refine pn_then ?_
    refine wc_ret ?_
    refine pr_then ?_
    replace h := Option.some.inj h
    subst h
    refine pn_ret (vs := [_]) rfl ⟨rfl, trivial⟩ ⟨rfl, rfl, rfl⟩ (fun _ h => h.to trivial trivial)
  · have h := ifF h cd5
    refine wc_skip ?_
    refine pn_then ?_
    obtain ⟨q8, h, ho8⟩ := bind_some h
    refine wc_meetG (G := Unit × Unit) (fun (s8, _) => (.inl s8) = q8) (fun (_, _) => []) (fun (_, _) => []) (fun (_, _) => []) ?_ ?_
    · refine wc_seq ?_
      refine wc_region ?_   -- region 3
      refine wl_det rfl rfl (det_field rfl fd25_1 rfl) rfl ?_
      refine wl_det rfl rfl (det_load rfl m0 (by rfl) na23 us23) rfl ?_
      refine wl_det rfl rfl (det_len rfl un23) rfl ?_
      refine wl_det rfl rfl (det_move rfl) rfl ?_
      refine wl_nil ?_
      refine pn_then ?_
      refine wc_block ?_
      obtain ⟨o12, h, ho12⟩ := bind_some h
      obtain ⟨k12, hk12⟩ := loopV_some.1 h
      refine wc_loop (G := Nat × Int × Unit) (fun g => IterN (ledger_Validate_l12 a0) g.1 g.2.1 o12) (fun g => g.1) (fun (_, s12, _) => [(1, .pointer (some ⟨b0_0, 0, none⟩)), (20, .slice A0 a0.Postings.length c0), (21, .int .i64 (a0.Postings.length : Int)), (22, .int .i64 s12)]) (fun (_, _, _) => [eBlk b0_0 25 [.int .i64 a0.Closed, .slice A0 a0.Postings.length c0]]) (fun (_, _, _) => [fV (lSlice lGPosting) (.slice A0 a0.Postings.length c0) a0.Postings]) (k12, 0, ()) hk12 ⟨rfl, rfl, rfl, rfl, trivial⟩ (fun _ h => h.to ⟨_, r0, trivial⟩ ⟨m0, trivial⟩) ?_
      rintro ⟨k12, s12, _⟩ hI
      obtain ⟨k12, rfl, q12, h, g12⟩ := IterN.pos hI
      dsimp only at h ⊢
      unfold ledger_Validate_l12 at h
      refine wc_seq ?_
      refine wc_region ?_   -- region 4
      refine wl_det rfl rfl (det_lss rfl rfl) rfl ?_
      refine wl_nil ?_
      refine pn_then ?_
      refine wc_seq ?_
      refine wc_cond rfl (fun cd16 => ?_) (fun cd16 => ?_)
      · have h := ifT h cd16
        refine wc_skip ?_
        refine pn_then ?_
        refine wc_seq ?_
        refine wc_block ?_
        refine wc_seq ?_
        refine wc_region ?_   -- region 5
        refine wl_det rfl rfl (det_move rfl) rfl ?_
        obtain ⟨k5_1, h⟩ := chk_some h
        refine wl_st (fun _ h => h.openF m0 k5_1) ?_
        refine wl_det rfl rfl (det_indexP rfl rfl (ms m0) k5_1 m0 un23 sz73) rfl ?_
        refine wl_det rfl rfl (det_loadP (off := 0) rfl m0 (by rfl) (by rfl) (loaded_n (cells := [_, _, _, _, _, _, _]) ag73 sz73)) rfl ?_
        refine wl_act (act_alloc (cs := [_, _, _, _, _, _, _]) zr73 rfl) rfl rfl rfl ?_
        rintro _ _ _ ⟨b5_3, rfl, rfl, rfl⟩
        refine wl_det rfl rfl (det_assign rfl) rfl ?_
        refine wl_act0 (act_store (cells := [_, _, _, _, _, _, _]) (cs' := [_, _, _, _, _, _, _]) rfl rfl rfl s0 (by rfl) (of_decide_eq_true rfl) sz73 ⟨rfl, rfl, rfl, rfl, rfl, rfl, rfl, trivial⟩) rfl rfl ?_
        rintro _ _ _ ⟨rfl, rfl⟩
        refine wl_nil ?_
        refine pn_then ?_
        refine wc_seq ?_
        refine wc_seq ?_
        refine wc_region ?_   -- region 6
        refine wl_det rfl rfl (det_field rfl fd73_2 rfl) rfl ?_
        refine wl_det rfl rfl (det_loadN (cells := [_, _, _, _, _]) rfl m0 (by rfl) ag41 sz41) rfl ?_
        obtain ⟨r6_2, hr6_2, h⟩ := bind_some h
        refine wl_act (act_callS (cap := []) (W_ledger_Valid (ix a0.Postings s12).Entry r6_2 hr6_2) rfl rfl rfl bd23 rfl trivial) rfl rfl rfl ?_
        rintro _ _ _ ⟨_, _, ⟨rfl, rfl, rfl⟩, rfl, rfl⟩
        dsimp only [List.nil_append, List.cons_append]
        refine wl_det rfl rfl (det_not rfl) rfl ?_
        refine wl_det rfl rfl (det_move rfl) rfl ?_
        refine wl_way (!r6_2) ((!r6_2) || (decide ((ix a0.Postings s12).Entry.Amount = 0))) 5 36 (fun hg => ?_) (fun hg => ?_) ?_
        · have hg6_9 := hg
          refine wl_off rfl rfl rfl rfl rfl hg6_9 rfl ?_
          refine wl_off rfl rfl rfl rfl rfl hg6_9 rfl ?_
          refine wl_off rfl rfl rfl rfl rfl hg6_9 rfl ?_
          refine wl_off rfl rfl rfl rfl rfl hg6_9 rfl ?_
          refine wl_det rfl rfl (det_or_on (r := (decide ((ix a0.Postings s12).Entry.Amount = 0))) rfl rfl rfl hg6_9) rfl ?_
          exact wl_nil (pn_qnE (ext_cons rfl (ext_skip rfl (ext_skip rfl (ext_skip rfl (ext_skip rfl (ext_skip rfl ext_refl)))))) (fun _ h => h))
        · have hg6_9a := hg
          refine wl_on rfl rfl rfl rfl hg6_9a ?_
          refine wl_det rfl rfl (det_field rfl fd73_2 rfl) rfl ?_
          refine wl_on rfl rfl rfl rfl hg6_9a ?_
          refine wl_det rfl rfl (det_field rfl fd41_4 rfl) rfl ?_
          refine wl_on rfl rfl rfl rfl hg6_9a ?_
          refine wl_det rfl rfl (det_load rfl m0 (by rfl) na3 us3) rfl ?_
          refine wl_on rfl rfl rfl rfl hg6_9a ?_
          refine wl_det rfl rfl (det_eql rfl rfl) rfl ?_
          refine wl_det rfl rfl (det_or_off rfl rfl rfl hg6_9a) rfl ?_
          exact wl_nil (pn_qnE (ext_cons rfl (ext_skip rfl (ext_skip rfl (ext_skip rfl (ext_skip rfl (ext_skip rfl ext_refl)))))) (fun _ h => h))
        refine wl_nil ?_
        refine pn_then ?_
        refine wc_cond rfl (fun cd25 => ?_) (fun cd25 => ?_)
        · have h := ifT h cd25
          refine wc_seq ?_
          refine wc_region ?_   -- region 7
          refine wl_det rfl rfl (det_assign rfl) rfl ?_
          refine wl_nil ?_
          refine pn_then ?_
          refine wc_ret ?_
          refine pr_then ?_
          refine pr_block ?_
          refine pr_then ?_
          refine pr_then ?_
          refine pr_block ?_
          refine pr_then ?_
          replace h := Option.some.inj h
          subst h
          replace g12 := nextR g12
          subst g12
          have h := (elimL ho12)
          replace h := Option.some.inj h
          subst h
          have h := (elimR ho8)
          replace h := Option.some.inj h
          subst h
          refine pn_ret (vs := [_]) rfl ⟨rfl, trivial⟩ ⟨rfl, rfl, rfl⟩ (fun _ h => h.to trivial trivial)
        · have h := ifF h cd25
          refine wc_skip ?_
          refine pn_then ?_
          refine wc_seq ?_
          refine wc_seq ?_
          refine wc_region ?_   -- region 8
          refine wl_det rfl rfl (det_field rfl fd73_0 rfl) rfl ?_
          refine wl_det rfl rfl (det_load rfl m0 (by rfl) na3 us3) rfl ?_
          refine wl_det rfl rfl (det_lss rfl rfl) rfl ?_
          refine wl_det rfl rfl (det_move rfl) rfl ?_
          refine wl_way (decide ((ix a0.Postings s12).Number < 1)) ((decide ((ix a0.Postings s12).Number < 1)) || (decide (65536 < (ix a0.Postings s12).Number))) 4 44 (fun hg => ?_) (fun hg => ?_) ?_
          · have hg8_7 := hg
            refine wl_off rfl rfl rfl rfl rfl hg8_7 rfl ?_
            refine wl_off rfl rfl rfl rfl rfl hg8_7 rfl ?_
            refine wl_off rfl rfl rfl rfl rfl hg8_7 rfl ?_
            refine wl_det rfl rfl (det_or_on (r := (decide (65536 < (ix a0.Postings s12).Number))) rfl rfl rfl hg8_7) rfl ?_
            exact wl_nil (pn_qnE (ext_cons rfl (ext_skip rfl (ext_skip rfl (ext_skip rfl (ext_skip rfl ext_refl))))) (fun _ h => h))
          · have hg8_7a := hg
            refine wl_on rfl rfl rfl rfl hg8_7a ?_
            refine wl_det rfl rfl (det_field rfl fd73_0 rfl) rfl ?_
            refine wl_on rfl rfl rfl rfl hg8_7a ?_
            refine wl_det rfl rfl (det_load rfl m0 (by rfl) na3 us3) rfl ?_
            refine wl_on rfl rfl rfl rfl hg8_7a ?_
            refine wl_det rfl rfl (det_gtr rfl rfl) rfl ?_
            refine wl_det rfl rfl (det_or_off rfl rfl rfl hg8_7a) rfl ?_
            exact wl_nil (pn_qnE (ext_cons rfl (ext_skip rfl (ext_skip rfl (ext_skip rfl (ext_skip rfl ext_refl))))) (fun _ h => h))
          refine wl_det rfl rfl (det_move rfl) rfl ?_
          refine wl_way ((decide ((ix a0.Postings s12).Number < 1)) || (decide (65536 < (ix a0.Postings s12).Number))) (((decide ((ix a0.Postings s12).Number < 1)) || (decide (65536 < (ix a0.Postings s12).Number))) || (decide ((ix a0.Postings s12).Period < 0))) 4 49 (fun hg => ?_) (fun hg => ?_) ?_
          · have hg8_12 := hg
            refine wl_off rfl rfl rfl rfl rfl hg8_12 rfl ?_
            refine wl_off rfl rfl rfl rfl rfl hg8_12 rfl ?_
            refine wl_off rfl rfl rfl rfl rfl hg8_12 rfl ?_
            refine wl_det rfl rfl (det_or_on (r := (decide ((ix a0.Postings s12).Period < 0))) rfl rfl rfl hg8_12) rfl ?_
            exact wl_nil (pn_qnE (ext_cons rfl (ext_skip rfl (ext_skip rfl (ext_skip rfl (ext_skip rfl ext_refl))))) (fun _ h => h))
          · have hg8_12a := hg
            refine wl_on rfl rfl rfl rfl hg8_12a ?_
            refine wl_det rfl rfl (det_field rfl fd73_1 rfl) rfl ?_
            refine wl_on rfl rfl rfl rfl hg8_12a ?_
            refine wl_det rfl rfl (det_load rfl m0 (by rfl) na3 us3) rfl ?_
            refine wl_on rfl rfl rfl rfl hg8_12a ?_
            refine wl_det rfl rfl (det_lss rfl rfl) rfl ?_
            refine wl_det rfl rfl (det_or_off rfl rfl rfl hg8_12a) rfl ?_
            exact wl_nil (pn_qnE (ext_cons rfl (ext_skip rfl (ext_skip rfl (ext_skip rfl (ext_skip rfl ext_refl))))) (fun _ h => h))
          refine wl_det rfl rfl (det_move rfl) rfl ?_
          refine wl_way (((decide ((ix a0.Postings s12).Number < 1)) || (decide (65536 < (ix a0.Postings s12).Number))) || (decide ((ix a0.Postings s12).Period < 0))) ((((decide ((ix a0.Postings s12).Number < 1)) || (decide (65536 < (ix a0.Postings s12).Number))) || (decide ((ix a0.Postings s12).Period < 0))) || (decide (a0.Closed < (ix a0.Postings s12).Period))) 6 56 (fun hg => ?_) (fun hg => ?_) ?_
          · have hg8_19 := hg
            refine wl_off rfl rfl rfl rfl rfl hg8_19 rfl ?_
            refine wl_off rfl rfl rfl rfl rfl hg8_19 rfl ?_
            refine wl_off rfl rfl rfl rfl rfl hg8_19 rfl ?_
            refine wl_off rfl rfl rfl rfl rfl hg8_19 rfl ?_
            refine wl_off rfl rfl rfl rfl rfl hg8_19 rfl ?_
            refine wl_det rfl rfl (det_or_on (r := (decide (a0.Closed < (ix a0.Postings s12).Period))) rfl rfl rfl hg8_19) rfl ?_
            exact wl_nil (pn_qnE (ext_cons rfl (ext_skip rfl (ext_skip rfl (ext_skip rfl (ext_skip rfl (ext_skip rfl (ext_skip rfl ext_refl))))))) (fun _ h => h))
          · have hg8_19a := hg
            refine wl_on rfl rfl rfl rfl hg8_19a ?_
            refine wl_det rfl rfl (det_field rfl fd73_1 rfl) rfl ?_
            refine wl_on rfl rfl rfl rfl hg8_19a ?_
            refine wl_det rfl rfl (det_load rfl m0 (by rfl) na3 us3) rfl ?_
            refine wl_on rfl rfl rfl rfl hg8_19a ?_
            refine wl_det rfl rfl (det_field rfl fd25_0 rfl) rfl ?_
            refine wl_on rfl rfl rfl rfl hg8_19a ?_
            refine wl_det rfl rfl (det_load rfl (ms m0) (by rfl) na3 us3) rfl ?_
            refine wl_on rfl rfl rfl rfl hg8_19a ?_
            refine wl_det rfl rfl (det_gtr rfl rfl) rfl ?_
            refine wl_det rfl rfl (det_or_off rfl rfl rfl hg8_19a) rfl ?_
            exact wl_nil (pn_qnE (ext_cons rfl (ext_skip rfl (ext_skip rfl (ext_skip rfl (ext_skip rfl (ext_skip rfl (ext_skip rfl ext_refl))))))) (fun _ h => h))
          refine wl_nil ?_
          refine pn_then ?_
          refine wc_cond rfl (fun cd31 => ?_) (fun cd31 => ?_)
          · have h := ifT h cd31
            refine wc_seq ?_
            refine wc_region ?_   -- region 9
            refine wl_det rfl rfl (det_assign rfl) rfl ?_
            refine wl_nil ?_
            refine pn_then ?_
            refine wc_ret ?_
            refine pr_then ?_
            refine pr_block ?_
            refine pr_then ?_
            refine pr_then ?_
            refine pr_block ?_
            refine pr_then ?_
            replace h := Option.some.inj h
            subst h
            replace g12 := nextR g12
            subst g12
            have h := (elimL ho12)
            replace h := Option.some.inj h
            subst h
            have h := (elimR ho8)
            replace h := Option.some.inj h
            subst h
            refine pn_ret (vs := [_]) rfl ⟨rfl, trivial⟩ ⟨rfl, rfl, rfl⟩ (fun _ h => h.to trivial trivial)
          · have h := ifF h cd31
            refine wc_skip ?_
            refine pn_then ?_
            obtain ⟨q34, h, ho34⟩ := bind_some h
            refine wc_meetG (G := Bool × Unit) (fun (s34, _) => s34 = q34) (fun (s34, _) => [(1, .pointer (some ⟨b0_0, 0, none⟩)), (20, .slice A0 a0.Postings.length c0), (21, .int .i64 (a0.Postings.length : Int)), (22, .int .i64 s12), (82, .bool s34)]) (fun (_, _) => [eBlk b0_0 25 [.int .i64 a0.Closed, .slice A0 a0.Postings.length c0]]) (fun (_, _) => [fV (lSlice lGPosting) (.slice A0 a0.Postings.length c0) a0.Postings]) ?_ ?_
            · rcases Bool.eq_false_or_eq_true (decide (0 < s12)) with hg10_g59 | hg10_g59
              · have h := ifT h hg10_g59
                rcases Bool.eq_false_or_eq_true (decide ((ix a0.Postings s12).Number ≤ (ix a0.Postings (w64 (s12 - 1))).Number)) with hg10_g70 | hg10_g70
                · have h := ifT h hg10_g70
                  obtain ⟨k10_p1, h⟩ := chk_some h
                  refine wc_st (fun _ h => h.openF (ms m0) k10_p1) ?_
                  refine dx_region 26 [[], [0], [0, 1], [0, 1, 2], [0, 1, 2, 3], [0, 1, 2], [0, 1, 2, 5], [0, 1, 2], [0, 1, 2, 7], [0, 1, 2, 5, 6, 7, 8], [0, 1, 2, 5, 6, 7, 8, 9], [0, 1, 2, 5, 6, 7, 8, 9, 10], [0, 1, 2, 3, 4, 5, 6, 7, 8, 9, 10, 11], [0, 1, 2, 3, 4, 5, 6, 7, 8, 9, 10, 11, 12], [0, 1, 2, 3, 4, 5, 6, 7, 8, 9, 10, 11, 12, 13], [0, 1, 2, 3, 4, 5, 6, 7, 8, 9, 10, 11, 12, 13, 14], [0, 1, 2, 3, 4, 5, 6, 7, 8, 9, 10, 11, 12, 13], [0, 1, 2, 3, 4, 5, 6, 7, 8, 9, 10, 11, 12, 13, 16], [0, 1, 2, 3, 4, 5, 6, 7, 8, 9, 10, 11, 12, 13], [0, 1, 2, 3, 4, 5, 6, 7, 8, 9, 10, 11, 12, 13, 18], [0, 1, 2, 3, 4, 5, 6, 7, 8, 9, 10, 11, 12, 13, 16, 17, 18, 19], [0, 1, 2, 3, 4, 5, 6, 7, 8, 9, 10, 11, 12, 13, 16, 17, 18, 19, 20], [0, 1, 2, 3, 4, 5, 6, 7, 8, 9, 10, 11, 12, 13, 16, 17, 18, 19, 20, 21], [0, 1, 2, 3, 4, 5, 6, 7, 8, 9, 10, 11, 12, 13, 14, 15, 16, 17, 18, 19, 20, 21, 22], [0, 1, 2, 3, 4, 5, 6, 7, 8, 9, 10, 11, 12, 13, 14, 15, 16, 17, 18, 19, 20, 21, 22, 23], [0, 1, 2, 3, 4, 5, 6, 7, 8, 9, 10, 11, 12, 13, 14, 15, 16, 17, 18, 19, 20, 21, 22, 23, 24]] mixed (ord := (.det 0 (.det 1 (.det 2 (.det 3 (.det 4 (.det 5 (.det 6 (.det 7 (.det 8 (.det 9 (.det 10 (.det 11 (.det 12 (.det 13 (.det 14 (.det 15 (.det 16 (.det 17 (.det 18 (.det 19 (.det 20 (.det 21 (.det 22 (.det 23 (.det 24 (.det 25 .done))))))))))))))))))))))))))) (by kernel_rfl) ?_   -- region 10
                  refine hx_det rfl rfl rfl nofun (det_move rfl) rfl ?_
                  refine hx_det rfl rfl rfl nofun (det_gtr rfl rfl) rfl ?_
                  refine hx_det rfl rfl rfl nofun (det_move rfl) rfl ?_
                  refine hx_on rfl rfl rfl rfl rfl hg10_g59 nofun (det_field rfl fd73_0 rfl) rfl ?_
                  refine hx_on rfl rfl rfl rfl rfl hg10_g59 nofun (det_load rfl m0 (by rfl) na3 us3) rfl ?_
                  refine hx_on rfl rfl rfl rfl rfl hg10_g59 nofun (det_field rfl fd25_1 rfl) rfl ?_
                  refine hx_on rfl rfl rfl rfl rfl hg10_g59 nofun (det_load rfl (ms m0) (by rfl) na23 us23) rfl ?_
                  refine hx_on rfl rfl rfl rfl rfl hg10_g59 nofun (det_move rfl) rfl ?_
                  refine hx_on rfl rfl rfl rfl rfl hg10_g59 nofun (det_sub rfl rfl) rfl ?_
                  refine hx_on rfl rfl rfl rfl rfl hg10_g59 nofun (det_indexP rfl rfl (ms (ms m0)) k10_p1 m0 un23 sz73) rfl ?_
                  refine hx_on rfl rfl rfl rfl rfl hg10_g59 nofun (det_fieldP rfl m0 fd73_0 rfl) rfl ?_
                  refine hx_on rfl rfl rfl rfl rfl hg10_g59 nofun (det_loadP (off := 0) rfl m0 (by rfl) (by rfl) (loaded_1 na3 us3)) rfl ?_
                  refine hx_on rfl rfl rfl rfl rfl hg10_g59 nofun (det_leq rfl rfl) rfl ?_
                  refine hx_on rfl rfl rfl rfl rfl hg10_g59 nofun (det_move rfl) rfl ?_
                  refine hx_off rfl rfl rfl rfl rfl hg10_g70 rfl ?_
                  refine hx_off rfl rfl rfl rfl rfl hg10_g70 rfl ?_
                  refine hx_off rfl rfl rfl rfl rfl hg10_g70 rfl ?_
                  refine hx_off rfl rfl rfl rfl rfl hg10_g70 rfl ?_
                  refine hx_off rfl rfl rfl rfl rfl hg10_g70 rfl ?_
                  refine hx_off rfl rfl rfl rfl rfl hg10_g70 rfl ?_
                  refine hx_off rfl rfl rfl rfl rfl hg10_g70 rfl ?_
                  refine hx_off rfl rfl rfl rfl rfl hg10_g70 rfl ?_
                  refine hx_off rfl rfl rfl rfl rfl hg10_g70 rfl ?_
                  refine hx_off rfl rfl rfl rfl rfl hg10_g70 rfl ?_
                  refine hx_on rfl rfl rfl rfl rfl hg10_g59 nofun (det_pick_on rfl hg10_g70 rfl rfl) rfl ?_
                  refine hx_det rfl rfl rfl nofun (det_pick_on rfl hg10_g59 rfl rfl) rfl ?_
                  refine hx_end ?_
                  refine wl_nil ?_
                  replace h := Option.some.inj h
                  subst h
                  exact pn_meetG (true, ()) rfl ⟨rfl, rfl, rfl, rfl, rfl, trivial⟩ (fun _ h => h.to ⟨_, (rs r0), trivial⟩ ⟨(ms (ms m0)), trivial⟩)
                · have h := ifF h hg10_g70
                  obtain ⟨k10_p3, h⟩ := chk_some h
                  refine wc_st (fun _ h => h.openF (ms m0) k10_p3) ?_
                  refine dx_region 26 [[], [0], [0, 1], [0, 1, 2], [0, 1, 2, 3], [0, 1, 2], [0, 1, 2, 5], [0, 1, 2], [0, 1, 2, 7], [0, 1, 2, 5, 6, 7, 8], [0, 1, 2, 5, 6, 7, 8, 9], [0, 1, 2, 5, 6, 7, 8, 9, 10], [0, 1, 2, 3, 4, 5, 6, 7, 8, 9, 10, 11], [0, 1, 2, 3, 4, 5, 6, 7, 8, 9, 10, 11, 12], [0, 1, 2, 3, 4, 5, 6, 7, 8, 9, 10, 11, 12, 13], [0, 1, 2, 3, 4, 5, 6, 7, 8, 9, 10, 11, 12, 13, 14], [0, 1, 2, 3, 4, 5, 6, 7, 8, 9, 10, 11, 12, 13], [0, 1, 2, 3, 4, 5, 6, 7, 8, 9, 10, 11, 12, 13, 16], [0, 1, 2, 3, 4, 5, 6, 7, 8, 9, 10, 11, 12, 13], [0, 1, 2, 3, 4, 5, 6, 7, 8, 9, 10, 11, 12, 13, 18], [0, 1, 2, 3, 4, 5, 6, 7, 8, 9, 10, 11, 12, 13, 16, 17, 18, 19], [0, 1, 2, 3, 4, 5, 6, 7, 8, 9, 10, 11, 12, 13, 16, 17, 18, 19, 20], [0, 1, 2, 3, 4, 5, 6, 7, 8, 9, 10, 11, 12, 13, 16, 17, 18, 19, 20, 21], [0, 1, 2, 3, 4, 5, 6, 7, 8, 9, 10, 11, 12, 13, 14, 15, 16, 17, 18, 19, 20, 21, 22], [0, 1, 2, 3, 4, 5, 6, 7, 8, 9, 10, 11, 12, 13, 14, 15, 16, 17, 18, 19, 20, 21, 22, 23], [0, 1, 2, 3, 4, 5, 6, 7, 8, 9, 10, 11, 12, 13, 14, 15, 16, 17, 18, 19, 20, 21, 22, 23, 24]] mixed (ord := (.det 0 (.det 1 (.det 2 (.det 3 (.det 4 (.det 5 (.det 6 (.det 7 (.det 8 (.det 9 (.det 10 (.det 11 (.det 12 (.det 13 (.det 14 (.det 15 (.det 16 (.det 17 (.det 18 (.det 19 (.det 20 (.det 21 (.det 22 (.det 23 (.det 24 (.det 25 .done))))))))))))))))))))))))))) (by kernel_rfl) ?_   -- region 10
                  refine hx_det rfl rfl rfl nofun (det_move rfl) rfl ?_
                  refine hx_det rfl rfl rfl nofun (det_gtr rfl rfl) rfl ?_
                  refine hx_det rfl rfl rfl nofun (det_move rfl) rfl ?_
                  refine hx_on rfl rfl rfl rfl rfl hg10_g59 nofun (det_field rfl fd73_0 rfl) rfl ?_
                  refine hx_on rfl rfl rfl rfl rfl hg10_g59 nofun (det_load rfl m0 (by rfl) na3 us3) rfl ?_
                  refine hx_on rfl rfl rfl rfl rfl hg10_g59 nofun (det_field rfl fd25_1 rfl) rfl ?_
                  refine hx_on rfl rfl rfl rfl rfl hg10_g59 nofun (det_load rfl (ms m0) (by rfl) na23 us23) rfl ?_
                  refine hx_on rfl rfl rfl rfl rfl hg10_g59 nofun (det_move rfl) rfl ?_
                  refine hx_on rfl rfl rfl rfl rfl hg10_g59 nofun (det_sub rfl rfl) rfl ?_
                  refine hx_on rfl rfl rfl rfl rfl hg10_g59 nofun (det_indexP rfl rfl (ms (ms m0)) k10_p3 m0 un23 sz73) rfl ?_
                  refine hx_on rfl rfl rfl rfl rfl hg10_g59 nofun (det_fieldP rfl m0 fd73_0 rfl) rfl ?_
                  refine hx_on rfl rfl rfl rfl rfl hg10_g59 nofun (det_loadP (off := 0) rfl m0 (by rfl) (by rfl) (loaded_1 na3 us3)) rfl ?_
                  refine hx_on rfl rfl rfl rfl rfl hg10_g59 nofun (det_leq rfl rfl) rfl ?_
                  refine hx_on rfl rfl rfl rfl rfl hg10_g59 nofun (det_move rfl) rfl ?_
                  refine hx_on rfl rfl rfl rfl rfl hg10_g70 nofun (det_field rfl fd73_1 rfl) rfl ?_
                  refine hx_on rfl rfl rfl rfl rfl hg10_g70 nofun (det_load rfl m0 (by rfl) na3 us3) rfl ?_
                  refine hx_on rfl rfl rfl rfl rfl hg10_g70 nofun (det_field rfl fd25_1 rfl) rfl ?_
                  refine hx_on rfl rfl rfl rfl rfl hg10_g70 nofun (det_load rfl (ms m0) (by rfl) na23 us23) rfl ?_
                  refine hx_on rfl rfl rfl rfl rfl hg10_g70 nofun (det_move rfl) rfl ?_
                  refine hx_on rfl rfl rfl rfl rfl hg10_g70 nofun (det_sub rfl rfl) rfl ?_
                  refine hx_on rfl rfl rfl rfl rfl hg10_g70 nofun (det_indexP rfl rfl (ms (ms m0)) k10_p3 m0 un23 sz73) rfl ?_
                  refine hx_on rfl rfl rfl rfl rfl hg10_g70 nofun (det_fieldP rfl m0 fd73_1 rfl) rfl ?_
                  refine hx_on rfl rfl rfl rfl rfl hg10_g70 nofun (det_loadP (off := 1) rfl m0 (by rfl) (by rfl) (loaded_1 na3 us3)) rfl ?_
                  refine hx_on rfl rfl rfl rfl rfl hg10_g70 nofun (det_lss rfl rfl) rfl ?_
                  refine hx_on rfl rfl rfl rfl rfl hg10_g59 nofun (det_pick_off rfl hg10_g70 rfl rfl) rfl ?_
                  refine hx_det rfl rfl rfl nofun (det_pick_on rfl hg10_g59 rfl rfl) rfl ?_
                  refine hx_end ?_
                  refine wl_nil ?_
                  replace h := Option.some.inj h
                  subst h
                  exact pn_meetG ((decide ((ix a0.Postings s12).Period < (ix a0.Postings (w64 (s12 - 1))).Period)), ()) rfl ⟨rfl, rfl, rfl, rfl, rfl, trivial⟩ (fun _ h => h.to ⟨_, (rs r0), trivial⟩ ⟨(ms (ms m0)), trivial⟩)
              · have h := ifF h hg10_g59
                refine dx_region 26 [[], [0], [0, 1], [0, 1, 2], [0, 1, 2, 3], [0, 1, 2], [0, 1, 2, 5], [0, 1, 2], [0, 1, 2, 7], [0, 1, 2, 5, 6, 7, 8], [0, 1, 2, 5, 6, 7, 8, 9], [0, 1, 2, 5, 6, 7, 8, 9, 10], [0, 1, 2, 3, 4, 5, 6, 7, 8, 9, 10, 11], [0, 1, 2, 3, 4, 5, 6, 7, 8, 9, 10, 11, 12], [0, 1, 2, 3, 4, 5, 6, 7, 8, 9, 10, 11, 12, 13], [0, 1, 2, 3, 4, 5, 6, 7, 8, 9, 10, 11, 12, 13, 14], [0, 1, 2, 3, 4, 5, 6, 7, 8, 9, 10, 11, 12, 13], [0, 1, 2, 3, 4, 5, 6, 7, 8, 9, 10, 11, 12, 13, 16], [0, 1, 2, 3, 4, 5, 6, 7, 8, 9, 10, 11, 12, 13], [0, 1, 2, 3, 4, 5, 6, 7, 8, 9, 10, 11, 12, 13, 18], [0, 1, 2, 3, 4, 5, 6, 7, 8, 9, 10, 11, 12, 13, 16, 17, 18, 19], [0, 1, 2, 3, 4, 5, 6, 7, 8, 9, 10, 11, 12, 13, 16, 17, 18, 19, 20], [0, 1, 2, 3, 4, 5, 6, 7, 8, 9, 10, 11, 12, 13, 16, 17, 18, 19, 20, 21], [0, 1, 2, 3, 4, 5, 6, 7, 8, 9, 10, 11, 12, 13, 14, 15, 16, 17, 18, 19, 20, 21, 22], [0, 1, 2, 3, 4, 5, 6, 7, 8, 9, 10, 11, 12, 13, 14, 15, 16, 17, 18, 19, 20, 21, 22, 23], [0, 1, 2, 3, 4, 5, 6, 7, 8, 9, 10, 11, 12, 13, 14, 15, 16, 17, 18, 19, 20, 21, 22, 23, 24]] mixed (ord := (.det 0 (.det 1 (.det 2 (.det 3 (.det 4 (.det 5 (.det 6 (.det 7 (.det 8 (.det 9 (.det 10 (.det 11 (.det 12 (.det 13 (.det 14 (.det 15 (.det 16 (.det 17 (.det 18 (.det 19 (.det 20 (.det 21 (.det 22 (.det 23 (.det 24 (.det 25 .done))))))))))))))))))))))))))) (by kernel_rfl) ?_   -- region 10
                refine hx_det rfl rfl rfl nofun (det_move rfl) rfl ?_
                refine hx_det rfl rfl rfl nofun (det_gtr rfl rfl) rfl ?_
                refine hx_det rfl rfl rfl nofun (det_move rfl) rfl ?_
                refine hx_off rfl rfl rfl rfl rfl hg10_g59 rfl ?_
                refine hx_off rfl rfl rfl rfl rfl hg10_g59 rfl ?_
                refine hx_off rfl rfl rfl rfl rfl hg10_g59 rfl ?_
                refine hx_off rfl rfl rfl rfl rfl hg10_g59 rfl ?_
                refine hx_off rfl rfl rfl rfl rfl hg10_g59 rfl ?_
                refine hx_off rfl rfl rfl rfl rfl hg10_g59 rfl ?_
                refine hx_off rfl rfl rfl rfl rfl hg10_g59 rfl ?_
                refine hx_off rfl rfl rfl rfl rfl hg10_g59 rfl ?_
                refine hx_off rfl rfl rfl rfl rfl hg10_g59 rfl ?_
                refine hx_off rfl rfl rfl rfl rfl hg10_g59 rfl ?_
                refine hx_off rfl rfl rfl rfl rfl hg10_g59 rfl ?_
                refine hx_none rfl rfl rfl rfl rfl rfl ?_
                refine hx_none rfl rfl rfl rfl rfl rfl ?_
                refine hx_none rfl rfl rfl rfl rfl rfl ?_
                refine hx_none rfl rfl rfl rfl rfl rfl ?_
                refine hx_none rfl rfl rfl rfl rfl rfl ?_
                refine hx_none rfl rfl rfl rfl rfl rfl ?_
                refine hx_none rfl rfl rfl rfl rfl rfl ?_
                refine hx_none rfl rfl rfl rfl rfl rfl ?_
                refine hx_none rfl rfl rfl rfl rfl rfl ?_
                refine hx_none rfl rfl rfl rfl rfl rfl ?_
                refine hx_off rfl rfl rfl rfl rfl hg10_g59 rfl ?_
                refine hx_det rfl rfl rfl nofun (det_pick_off rfl hg10_g59 rfl rfl) rfl ?_
                refine hx_end ?_
                refine wl_nil ?_
                replace h := Option.some.inj h
                subst h
                exact pn_meetG (false, ()) rfl ⟨rfl, rfl, rfl, rfl, rfl, trivial⟩ (fun _ h => h.to ⟨_, (rs r0), trivial⟩ ⟨(ms m0), trivial⟩)
            rintro ⟨s34, _⟩ e34
            dsimp only at e34 ⊢
            subst e34
            have h := ho34
            refine wc_cond rfl (fun cd36 => ?_) (fun cd36 => ?_)
            · have h := ifT h cd36
              refine wc_seq ?_
              refine wc_region ?_   -- region 11
              refine wl_det rfl rfl (det_assign rfl) rfl ?_
              refine wl_nil ?_
              refine pn_then ?_
              refine wc_ret ?_
              refine pr_block ?_
              refine pr_then ?_
              refine pr_then ?_
              refine pr_block ?_
              refine pr_then ?_
              replace h := Option.some.inj h
              subst h
              replace g12 := nextR g12
              subst g12
              have h := (elimL ho12)
              replace h := Option.some.inj h
              subst h
              have h := (elimR ho8)
              replace h := Option.some.inj h
              subst h
              refine pn_ret (vs := [_]) rfl ⟨rfl, trivial⟩ ⟨rfl, rfl, rfl⟩ (fun _ h => h.to trivial trivial)
            · have h := ifF h cd36
              refine wc_skip ?_
              refine pn_block ?_
              refine pn_then ?_
              refine wc_region ?_   -- region 12
              refine wl_det rfl rfl (det_add rfl rfl) rfl ?_
              refine wl_det rfl rfl (det_move rfl) rfl ?_
              refine wl_nil ?_
              replace h := Option.some.inj h
              subst h
              exact pn_some (k12, (w64 (s12 + 1)), ()) ⟨nextL g12, Nat.lt_succ_self _⟩ ⟨rfl, rfl, rfl, rfl, trivial⟩ (fun _ h => h.to ⟨_, r0, trivial⟩ ⟨m0, trivial⟩)
      · have h := ifF h cd16
        refine wc_exit ?_
        refine px_then ?_
        refine px_then ?_
        refine px_block ?_
        replace h := Option.some.inj h
        subst h
        replace g12 := nextR g12
        subst g12
        have h := (elimR ho12)
        replace h := Option.some.inj h
        subst h
        exact pn_meetG ((), ()) rfl trivial (fun _ h => h.to trivial trivial)
    rintro ⟨s8, _⟩ e8
    dsimp only at e8 ⊢
    subst e8
    have h := (elimL ho8)
    refine wc_seq ?_
    refine wc_region ?_   -- region 13
    refine wl_det rfl rfl (det_assign rfl) rfl ?_
    refine wl_nil ?_
    refine pn_then ?_
    refine wc_ret ?_
    replace h := Option.some.inj h
    subst h
    refine pn_ret (vs := [_]) rfl ⟨rfl, trivial⟩ ⟨rfl, rfl, rfl⟩ (fun _ h => h.to trivial trivial)
def Q_account_Extract (r : GLedger × Int) : Value → List Ent → List Fact → Prop := fun v θ κ => ∃ (pA0 : Option Addr), ∃ (pn0 : Nat), ∃ (pc0 : Nat), v = .tuple #[.agg #[.int .i64 r.1.Closed, .slice pA0 pn0 pc0], .int .i64 r.2] ∧ θ = [eS lGPosting 73 pA0 pn0 pc0 r.1.Postings] ∧ κ = []
theorem plains_account_Extract {r : GLedger × Int} : ∀ v θ κ, Q_account_Extract r v θ κ → Plains θ := by
  rintro _ _ _ ⟨_, _, _, rfl, rfl, rfl⟩
  exact ⟨plain_eS, trivial⟩
set_option maxHeartbeats 4000000 in
set_option maxRecDepth 100000 in
theorem W_account_Extract (a0 : GLedger) (a1 : Int) (A0 : Option Addr) (n0 : Nat) (c0 : Nat) (r : GLedger × Int) (h : account_Extract a0 a1 = some r) : Spec Try.prog 15 [.agg #[.int .i64 a0.Closed, .slice A0 n0 c0], .int .i64 a1] [] [fV (lSlice lGPosting) (.slice A0 n0 c0) a0.Postings] (Q_account_Extract r) := by
  unfold account_Extract at h
  refine spec_of (σ := [(0, _), (1, _)]) Try.func15 rfl rfl rfl rfl ?_
  intro C
  refine wc_know (fun _ h => h.lenF m0) (fun e => ?_)
  subst e
  refine wc_seq ?_
  refine wc_region ?_   -- region 0
  refine wl_act (act_box (cs := [_, _]) rfl rfl) rfl rfl rfl ?_
  rintro _ _ _ ⟨b0_0, rfl, rfl, rfl⟩
  refine wl_act (act_alloc (cs := [_, _]) zr25 rfl) rfl rfl rfl ?_
  rintro _ _ _ ⟨b0_1, rfl, rfl, rfl⟩
  refine wl_det rfl rfl (det_assign rfl) rfl ?_
  refine wl_nil ?_
  refine pn_then ?_
  refine wc_seq ?_
  refine wc_seq ?_
  refine wc_region ?_   -- region 1
  refine wl_det rfl rfl (det_loadN (cells := [_, _]) rfl (ms m0) (by rfl) ag25 sz25) rfl ?_
  obtain ⟨r1_1, hr1_1, h⟩ := bind_some h
  refine wl_act (act_callS (cap := []) (W_ledger_Validate a0 A0 a0.Postings.length c0 r1_1 hr1_1) rfl rfl rfl bd16 rfl ⟨m0, trivial⟩) rfl rfl rfl ?_
  rintro _ _ _ ⟨_, _, ⟨rfl, rfl, rfl⟩, rfl, rfl⟩
  dsimp only [List.nil_append, List.cons_append]
  refine wl_det rfl rfl (det_assign rfl) rfl ?_
  refine wl_nil ?_
  refine pn_then ?_
  refine wc_seq ?_
  refine wc_region ?_   -- region 2
  refine wl_det rfl rfl (det_move rfl) rfl ?_
  refine wl_det rfl rfl (det_neq rfl rfl) rfl ?_
  refine wl_nil ?_
  refine pn_then ?_
  refine wc_cond rfl (fun cd7 => ?_) (fun cd7 => ?_)
  · have h := ifT h cd7
    refine wc_seq ?_
    refine wc_region ?_   -- region 3
    refine wl_det rfl rfl (det_build (cs := [_, _]) pl25 zr25 rfl rfl (by rfl)) rfl ?_
    refine wl_det rfl rfl (det_move rfl) rfl ?_
    refine wl_act0 (act_store (cells := [_, _]) (cs' := [_, _]) rfl rfl rfl s0 (by rfl) (of_decide_eq_true rfl) sz25 ⟨rfl, rfl, trivial⟩) rfl rfl ?_
    rintro _ _ _ ⟨rfl, rfl⟩
    refine wl_det rfl rfl (det_assign rfl) rfl ?_
    refine wl_nil ?_
    refine pn_then ?_
    refine wc_ret ?_
    refine pr_then ?_
    refine pn_st (fun _ h => h.zeroS lGPosting 73 none) ?_
    replace h := Option.some.inj h
    subst h
    refine pn_ret (vs := [_, _]) rfl ⟨⟨_, _, [_, _], rfl, (ms m0), ag25, sz25, rfl⟩, rfl, trivial⟩ ⟨none, 0, 0, rfl, rfl, rfl⟩ (fun _ h => h.to ⟨_, r0, trivial⟩ trivial)
  · have h := ifF h cd7
    refine wc_skip ?_
    refine pn_then ?_
    refine wc_seq ?_
    refine wc_region ?_   -- region 4
    refine wl_det rfl rfl (det_field rfl fd25_0 rfl) rfl ?_
    refine wl_det rfl rfl (det_load rfl (ms m0) (by rfl) na3 us3) rfl ?_
    refine wl_det rfl rfl (det_build (cs := [_, _]) pl25 zr25 rfl rfl (by rfl)) rfl ?_
    refine wl_act (act_alloc (cs := [_, _]) zr25 rfl) rfl rfl rfl ?_
    rintro _ _ _ ⟨b4_3, rfl, rfl, rfl⟩
    refine wl_act0 (act_store (cells := [_, _]) (cs' := [_, _]) rfl rfl rfl s0 (by rfl) (of_decide_eq_true rfl) sz25 ⟨rfl, rfl, trivial⟩) rfl rfl ?_
    rintro _ _ _ ⟨rfl, rfl⟩
    refine wl_nil ?_
    refine pn_then ?_
    obtain ⟨q12, h, ho12⟩ := bind_some h
    refine wc_meetG (G := (List GPosting) × Option Addr × Nat × Nat × Unit) (fun (s12, _, _, _, _) => s12 = q12) (fun (_, _, _, _, _) => [(4, .pointer (some ⟨b0_1, 0, none⟩)), (7, .pointer (some ⟨b4_3, 0, none⟩))]) (fun (s12, A12_0, n12_0, c12_0, _) => [eBlk b0_1 25 [.int .i64 0, .slice none 0 0], eBlk b4_3 25 [.int .i64 a0.Closed, .slice A12_0 n12_0 c12_0], eS lGPosting 73 A12_0 n12_0 c12_0 s12]) (fun (_, _, _, _, _) => []) ?_ ?_
    · refine wc_seq ?_
      refine wc_region ?_   -- region 5
      refine wl_det rfl rfl (det_field rfl fd25_1 rfl) rfl ?_
      refine wl_det rfl rfl (det_load rfl (ms (ms m0)) (by rfl) na23 us23) rfl ?_
      refine wl_det rfl rfl (det_len rfl un23) rfl ?_
      refine wl_det rfl rfl (det_move rfl) rfl ?_
      refine wl_nil ?_
      refine pn_then ?_
      refine wc_block ?_
      refine wc_st (fun _ h => h.zeroS lGPosting 73 none) ?_
      obtain ⟨k16, hk16⟩ := loopV_some.1 h
      refine wc_loop (G := Nat × ((List GPosting) × Int) × Option Addr × Nat × Nat × Unit) (fun g => IterN (account_Extract_l16 a0 a1) g.1 g.2.1 q12) (fun g => g.1) (fun (_, s16, _, _, _, _) => [(1, .int .i64 a1), (4, .pointer (some ⟨b0_1, 0, none⟩)), (7, .pointer (some ⟨b4_3, 0, none⟩)), (20, .slice A0 a0.Postings.length c0), (21, .int .i64 (a0.Postings.length : Int)), (22, .int .i64 s16.2)]) (fun (_, s16, A16_0, n16_0, c16_0, _) => [eBlk b0_1 25 [.int .i64 0, .slice none 0 0], eBlk b4_3 25 [.int .i64 a0.Closed, .slice A16_0 n16_0 c16_0], eS lGPosting 73 A16_0 n16_0 c16_0 s16.1]) (fun (_, _, _, _, _, _) => [fV (lSlice lGPosting) (.slice A0 a0.Postings.length c0) a0.Postings]) (k16, ([], 0), none, 0, 0, ()) hk16 ⟨rfl, rfl, rfl, rfl, rfl, rfl, trivial⟩ (fun _ h => h.to ⟨_, (rs (rs r0)), ⟨_, (rs r0), ⟨_, r0, trivial⟩⟩⟩ ⟨m0, trivial⟩) ?_
      rintro ⟨k16, s16, A16_0, n16_0, c16_0, _⟩ hI
      obtain ⟨k16, rfl, q16, h, g16⟩ := IterN.pos hI
      dsimp only at h ⊢
      unfold account_Extract_l16 at h
      refine wc_know (fun _ h => h.lenO (ms (ms m0))) (fun e => ?_)
      subst e
      refine wc_seq ?_
      refine wc_region ?_   -- region 6
      refine wl_det rfl rfl (det_lss rfl rfl) rfl ?_
      refine wl_nil ?_
      refine pn_then ?_
      refine wc_seq ?_
      refine wc_cond rfl (fun cd20 => ?_) (fun cd20 => ?_)
      · have h := ifT h cd20
        refine wc_skip ?_
        refine pn_then ?_
        obtain ⟨q22, h, ho22⟩ := bind_some h
        refine wc_meetG (G := (List GPosting) × Option Addr × Nat × Nat × Unit) (fun (s22, _, _, _, _) => s22 = q22) (fun (_, _, _, _, _) => [(1, .int .i64 a1), (4, .pointer (some ⟨b0_1, 0, none⟩)), (7, .pointer (some ⟨b4_3, 0, none⟩)), (20, .slice A0 a0.Postings.length c0), (21, .int .i64 (a0.Postings.length : Int)), (22, .int .i64 s16.2)]) (fun (s22, A22_0, n22_0, c22_0, _) => [eBlk b0_1 25 [.int .i64 0, .slice none 0 0], eBlk b4_3 25 [.int .i64 a0.Closed, .slice A22_0 n22_0 c22_0], eS lGPosting 73 A22_0 n22_0 c22_0 s22]) (fun (_, _, _, _, _) => [fV (lSlice lGPosting) (.slice A0 a0.Postings.length c0) a0.Postings]) ?_ ?_
        · refine wc_block ?_
          refine wc_seq ?_
          refine wc_region ?_   -- region 7
          obtain ⟨k7_0, h⟩ := chk_some h
          refine wl_st (fun _ h => h.openF m0 k7_0) ?_
          refine wl_det rfl rfl (det_indexP rfl rfl (ms m0) k7_0 m0 un23 sz73) rfl ?_
          refine wl_det rfl rfl (det_loadP (off := 0) rfl m0 (by rfl) (by rfl) (loaded_n (cells := [_, _, _, _, _, _, _]) ag73 sz73)) rfl ?_
          refine wl_act (act_alloc (cs := [_, _, _, _, _, _, _]) zr73 rfl) rfl rfl rfl ?_
          rintro _ _ _ ⟨b7_2, rfl, rfl, rfl⟩
          refine wl_act0 (act_store (cells := [_, _, _, _, _, _, _]) (cs' := [_, _, _, _, _, _, _]) rfl rfl rfl s0 (by rfl) (of_decide_eq_true rfl) sz73 ⟨rfl, rfl, rfl, rfl, rfl, rfl, rfl, trivial⟩) rfl rfl ?_
          rintro _ _ _ ⟨rfl, rfl⟩
          refine wl_nil ?_
          refine pn_then ?_
          refine wc_seq ?_
          refine wc_region ?_   -- region 8
          refine wl_det rfl rfl (det_field rfl fd73_2 rfl) rfl ?_
          refine wl_det rfl rfl (det_field rfl fd41_2 rfl) rfl ?_
          refine wl_det rfl rfl (det_load rfl m0 (by rfl) na3 us3) rfl ?_
          refine wl_det rfl rfl (det_move rfl) rfl ?_
          refine wl_det rfl rfl (det_eql rfl rfl) rfl ?_
          refine wl_nil ?_
          refine pn_then ?_
          refine wc_cond rfl (fun cd28 => ?_) (fun cd28 => ?_)
          · have h := ifT h cd28
            refine wc_region ?_   -- region 9
            refine wl_det rfl rfl (det_field rfl fd25_1 rfl) rfl ?_
            refine wl_det rfl rfl (det_load rfl (ms (ms m0)) (by rfl) na23 us23) rfl ?_
            refine wl_det rfl rfl (det_loadN (cells := [_, _, _, _, _, _, _]) rfl m0 (by rfl) ag73 sz73) rfl ?_
            refine wl_act (act_litS lGPosting (vs := [_]) (cs := [_, _, _, _, _, _, _]) [(ix a0.Postings s16.2)] un23 in73 rfl rfl rfl rfl rfl ⟨rfl, trivial⟩ (by rfl) rfl (litR_flat rfl)) rfl rfl rfl ?_
            rintro _ _ _ ⟨A9_3, rfl, rfl, rfl⟩
            obtain ⟨k9_4, h⟩ := chk_some h
            refine wl_act (act_appendS (L := lGPosting) rfl rfl (ss (ss (ss (ss s0)))) (src_O m0) un23 in73 rfl rfl rfl k9_4) rfl rfl rfl ?_
            rintro _ _ _ ⟨A9_4, c9_4, rfl, rfl, rfl⟩
            refine wl_det rfl rfl (det_field rfl fd25_1 rfl) rfl ?_
            refine wl_act0 (act_store (cells := [_]) (cs' := [_, _]) rfl rfl rfl (ss (ss (ss s0))) (by rfl) (of_decide_eq_true rfl) sz23 ⟨rfl, trivial⟩) rfl rfl ?_
            rintro _ _ _ ⟨rfl, rfl⟩
            refine wl_nil ?_
            refine pn_block ?_
            replace h := Option.some.inj h
            subst h
            exact pn_meetG ((s16.1 ++ [(ix a0.Postings s16.2)]), A9_4, (s16.1 ++ [(ix a0.Postings s16.2)]).length, c9_4, ()) rfl ⟨rfl, rfl, rfl, rfl, rfl, rfl, trivial⟩ (fun _ h => h.to ⟨_, (rs (rs r0)), ⟨_, (rs (rs r0)), ⟨_, (rs (rs r0)), trivial⟩⟩⟩ ⟨(ms m0), trivial⟩)
          · have h := ifF h cd28
            refine wc_skip ?_
            refine pn_block ?_
            replace h := Option.some.inj h
            subst h
            exact pn_meetG (s16.1, A16_0, s16.1.length, c16_0, ()) rfl ⟨rfl, rfl, rfl, rfl, rfl, rfl, trivial⟩ (fun _ h => h.to ⟨_, (rs r0), ⟨_, (rs r0), ⟨_, (rs r0), trivial⟩⟩⟩ ⟨(ms m0), trivial⟩)
        rintro ⟨s22, A22_0, n22_0, c22_0, _⟩ e22
        dsimp only at e22 ⊢
        subst e22
        have h := ho22
        refine wc_know (fun _ h => h.lenO (ms (ms m0))) (fun e => ?_)
        subst e
        refine wc_region ?_   -- region 10
        refine wl_det rfl rfl (det_add rfl rfl) rfl ?_
        refine wl_det rfl rfl (det_move rfl) rfl ?_
        refine wl_nil ?_
        replace h := Option.some.inj h
        subst h
        exact pn_some (k16, (s22, (w64 (s16.2 + 1))), A22_0, s22.length, c22_0, ()) ⟨nextL g16, Nat.lt_succ_self _⟩ ⟨rfl, rfl, rfl, rfl, rfl, rfl, trivial⟩ (fun _ h => h.to ⟨_, r0, ⟨_, r0, ⟨_, r0, trivial⟩⟩⟩ ⟨m0, trivial⟩)
      · have h := ifF h cd20
        refine wc_exit ?_
        refine px_then ?_
        refine px_then ?_
        refine px_block ?_
        replace h := Option.some.inj h
        subst h
        replace g16 := nextR g16
        subst g16
        exact pn_meetG (s16.1, A16_0, s16.1.length, c16_0, ()) rfl ⟨rfl, rfl, trivial⟩ (fun _ h => h.to ⟨_, r0, ⟨_, r0, ⟨_, r0, trivial⟩⟩⟩ trivial)
    rintro ⟨s12, A12_0, n12_0, c12_0, _⟩ e12
    dsimp only at e12 ⊢
    subst e12
    have h := ho12
    refine wc_know (fun _ h => h.lenO (ms (ms m0))) (fun e => ?_)
    subst e
    refine wc_seq ?_
    refine wc_region ?_   -- region 11
    refine wl_det rfl rfl (det_loadN (cells := [_, _]) rfl (ms m0) (by rfl) ag25 sz25) rfl ?_
    refine wl_act0 (act_store (cells := [_, _]) (cs' := [_, _]) rfl rfl rfl s0 (by rfl) (of_decide_eq_true rfl) sz25 ⟨rfl, rfl, trivial⟩) rfl rfl ?_
    rintro _ _ _ ⟨rfl, rfl⟩
    refine wl_det rfl rfl (det_assign rfl) rfl ?_
    refine wl_nil ?_
    refine pn_then ?_
    refine wc_ret ?_
    replace h := Option.some.inj h
    subst h
    refine pn_ret (vs := [_, _]) rfl ⟨⟨_, _, [_, _], rfl, m0, ag25, sz25, rfl⟩, rfl, trivial⟩ ⟨A12_0, s12.length, c12_0, rfl, rfl, rfl⟩ (fun _ h => h.to ⟨_, (rs (rs r0)), trivial⟩ trivial)
def Q_account_Balance_c1 (Ba1 : Nat) (Ba2 : Nat) (a1 : Int) (a2 : Int) (r : Bool) : Value → List Ent → List Fact → Prop := fun v θ κ => v = .bool r ∧ θ = [eBlk Ba1 3 [.int .i64 a1], eBlk Ba2 3 [.int .i64 a2]] ∧ κ = []
theorem plains_account_Balance_c1 {Ba1 : Nat} {Ba2 : Nat} {a1 : Int} {a2 : Int} {r : Bool} : ∀ v θ κ, Q_account_Balance_c1 Ba1 Ba2 a1 a2 r v θ κ → Plains θ := by
  rintro _ _ _ ⟨rfl, rfl, rfl⟩
  exact ⟨plain_eBlk, plain_eBlk, trivial⟩
set_option maxHeartbeats 4000000 in
set_option maxRecDepth 100000 in
theorem W_account_Balance_c1 (a0 : GPosting) (a1 : Int) (a2 : Int) (Ba1 : Nat) (Ba2 : Nat) (r : Bool) (h : account_Balance_c1 a0 a1 a2 = some r) : Spec Try.prog 48 [.agg #[.int .i64 a0.Number, .int .i64 a0.Period, .int .i64 a0.Entry.Kind, .int .i64 a0.Entry.Treaty, .int .i64 a0.Entry.Party, .int .i64 a0.Entry.Loss, .int .i64 a0.Entry.Amount], .pointer (some ⟨Ba1, 0, none⟩), .pointer (some ⟨Ba2, 0, none⟩)] [eBlk Ba1 3 [.int .i64 a1], eBlk Ba2 3 [.int .i64 a2]] [] (Q_account_Balance_c1 Ba1 Ba2 a1 a2 r) := by
  unfold account_Balance_c1 at h
  refine spec_of (σ := [(0, _), (1, _), (2, _)]) Try.func48 rfl rfl rfl rfl ?_
  intro C
  refine wc_seq ?_
  refine wc_region ?_   -- region 0
  refine wl_act (act_box (cs := [_, _, _, _, _, _, _]) rfl rfl) rfl rfl rfl ?_
  rintro _ _ _ ⟨b0_0, rfl, rfl, rfl⟩
  refine wl_det rfl rfl (det_assign rfl) rfl ?_
  refine wl_nil ?_
  refine pn_then ?_
  refine wc_seq ?_
  refine wc_region ?_   -- region 1
  refine wl_det rfl rfl (det_field rfl fd73_2 rfl) rfl ?_
  refine wl_det rfl rfl (det_field rfl fd41_1 rfl) rfl ?_
  refine wl_det rfl rfl (det_load rfl m0 (by rfl) na3 us3) rfl ?_
  refine wl_det rfl rfl (det_load rfl (ms m0) (by rfl) na3 us3) rfl ?_
  refine wl_det rfl rfl (det_eql rfl rfl) rfl ?_
  refine wl_det rfl rfl (det_move rfl) rfl ?_
  refine wl_way (decide (a0.Entry.Treaty = a1)) ((decide (a0.Entry.Treaty = a1)) && (decide (a0.Entry.Party = a2))) 6 16 (fun hg => ?_) (fun hg => ?_) ?_
  · have hg1_11 := hg
    refine wl_on rfl rfl rfl rfl hg1_11 ?_
    refine wl_det rfl rfl (det_field rfl fd73_2 rfl) rfl ?_
    refine wl_on rfl rfl rfl rfl hg1_11 ?_
    refine wl_det rfl rfl (det_field rfl fd41_2 rfl) rfl ?_
    refine wl_on rfl rfl rfl rfl hg1_11 ?_
    refine wl_det rfl rfl (det_load rfl m0 (by rfl) na3 us3) rfl ?_
    refine wl_on rfl rfl rfl rfl hg1_11 ?_
    refine wl_det rfl rfl (det_load rfl (ms (ms m0)) (by rfl) na3 us3) rfl ?_
    refine wl_on rfl rfl rfl rfl hg1_11 ?_
    refine wl_det rfl rfl (det_eql rfl rfl) rfl ?_
    refine wl_det rfl rfl (det_and_on rfl rfl rfl hg1_11) rfl ?_
    exact wl_nil (pn_qnE (ext_cons rfl (ext_skip rfl (ext_skip rfl (ext_skip rfl (ext_skip rfl (ext_skip rfl (ext_skip rfl ext_refl))))))) (fun _ h => h))
  · have hg1_11a := hg
    refine wl_off rfl rfl rfl rfl rfl hg1_11a rfl ?_
    refine wl_off rfl rfl rfl rfl rfl hg1_11a rfl ?_
    refine wl_off rfl rfl rfl rfl rfl hg1_11a rfl ?_
    refine wl_off rfl rfl rfl rfl rfl hg1_11a rfl ?_
    refine wl_off rfl rfl rfl rfl rfl hg1_11a rfl ?_
    refine wl_det rfl rfl (det_and_off (q := (decide (a0.Entry.Party = a2))) rfl rfl rfl hg1_11a) rfl ?_
    exact wl_nil (pn_qnE (ext_cons rfl (ext_skip rfl (ext_skip rfl (ext_skip rfl (ext_skip rfl (ext_skip rfl (ext_skip rfl ext_refl))))))) (fun _ h => h))
  refine wl_det rfl rfl (det_assign rfl) rfl ?_
  refine wl_nil ?_
  refine pn_then ?_
  refine wc_ret ?_
  replace h := Option.some.inj h
  subst h
  refine pn_ret (vs := [_]) rfl ⟨rfl, trivial⟩ ⟨rfl, rfl, rfl⟩ (fun _ h => h.to ⟨_, (rs r0), ⟨_, (rs r0), trivial⟩⟩ trivial)
def Q_account_sum_account_Balance_c1 (Ba1_0 : Nat) (Ba1_1 : Nat) (a1_0 : Int) (a1_1 : Int) (r : GBalance × Int) : Value → List Ent → List Fact → Prop := fun v θ κ => v = .tuple #[.agg #[.int .i64 r.1.Due, .int .i64 r.1.Reserve], .int .i64 r.2] ∧ θ = [eBlk Ba1_0 3 [.int .i64 a1_0], eBlk Ba1_1 3 [.int .i64 a1_1]] ∧ κ = []
theorem plains_account_sum_account_Balance_c1 {Ba1_0 : Nat} {Ba1_1 : Nat} {a1_0 : Int} {a1_1 : Int} {r : GBalance × Int} : ∀ v θ κ, Q_account_sum_account_Balance_c1 Ba1_0 Ba1_1 a1_0 a1_1 r v θ κ → Plains θ := by
  rintro _ _ _ ⟨rfl, rfl, rfl⟩
  exact ⟨plain_eBlk, plain_eBlk, trivial⟩
set_option maxHeartbeats 4000000 in
set_option maxRecDepth 100000 in
theorem W_account_sum_account_Balance_c1 (a0 : GLedger) (a1_0 : Int) (a1_1 : Int) (A0 : Option Addr) (n0 : Nat) (c0 : Nat) (Ba1_0 : Nat) (Ba1_1 : Nat) (r : GBalance × Int) (h : account_sum_account_Balance_c1 a0 a1_0 a1_1 = some r) : Spec Try.prog 47 [.agg #[.int .i64 a0.Closed, .slice A0 n0 c0], .func (.func 48) #[] #[.pointer (some ⟨Ba1_0, 0, none⟩), .pointer (some ⟨Ba1_1, 0, none⟩)]] [eBlk Ba1_0 3 [.int .i64 a1_0], eBlk Ba1_1 3 [.int .i64 a1_1]] [fV (lSlice lGPosting) (.slice A0 n0 c0) a0.Postings] (Q_account_sum_account_Balance_c1 Ba1_0 Ba1_1 a1_0 a1_1 r) := by
  unfold account_sum_account_Balance_c1 at h
  refine spec_of (σ := [(0, _), (1, _)]) Try.func47 rfl rfl rfl rfl ?_
  intro C
  refine wc_know (fun _ h => h.lenF m0) (fun e => ?_)
  subst e
  refine wc_seq ?_
  refine wc_region ?_   -- region 0
  refine wl_act (act_box (cs := [_, _]) rfl rfl) rfl rfl rfl ?_
  rintro _ _ _ ⟨b0_0, rfl, rfl, rfl⟩
  refine wl_act (act_alloc (cs := [_, _]) zr30 rfl) rfl rfl rfl ?_
  rintro _ _ _ ⟨b0_1, rfl, rfl, rfl⟩
  refine wl_det rfl rfl (det_assign rfl) rfl ?_
  refine wl_nil ?_
  refine pn_then ?_
  refine wc_seq ?_
  refine wc_region ?_   -- region 1
  refine wl_act (act_alloc (cs := [_, _]) zr30 rfl) rfl rfl rfl ?_
  rintro _ _ _ ⟨b1_0, rfl, rfl, rfl⟩
  refine wl_nil ?_
  refine pn_then ?_
  obtain ⟨q4, h, ho4⟩ := bind_some h
  refine wc_meetG (G := (Int × Int) × Unit) (fun (s4, _) => s4 = q4) (fun (_, _) => [(4, .pointer (some ⟨b0_1, 0, none⟩)), (6, .pointer (some ⟨b1_0, 0, none⟩))]) (fun (s4, _) => [eBlk Ba1_1 3 [.int .i64 a1_1], eBlk Ba1_0 3 [.int .i64 a1_0], eBlk b0_1 30 [.int .i64 0, .int .i64 0], eBlk b1_0 30 [.int .i64 s4.1, .int .i64 s4.2]]) (fun (_, _) => []) ?_ ?_
  · refine wc_seq ?_
    refine wc_region ?_   -- region 2
    refine wl_det rfl rfl (det_field rfl fd25_1 rfl) rfl ?_
    refine wl_det rfl rfl (det_load rfl (ms (ms m0)) (by rfl) na23 us23) rfl ?_
    refine wl_det rfl rfl (det_len rfl un23) rfl ?_
    refine wl_det rfl rfl (det_move rfl) rfl ?_
    refine wl_nil ?_
    refine pn_then ?_
    refine wc_block ?_
    obtain ⟨k8, hk8⟩ := loopV_some.1 h
    refine wc_loop (G := Nat × (Int × Int × Int) × Unit) (fun g => IterN (account_sum_account_Balance_c1_l8 a0 a1_0 a1_1) g.1 g.2.1 q4) (fun g => g.1) (fun (_, s8, _) => [(1, .func (.func 48) #[] #[.pointer (some ⟨Ba1_0, 0, none⟩), .pointer (some ⟨Ba1_1, 0, none⟩)]), (4, .pointer (some ⟨b0_1, 0, none⟩)), (6, .pointer (some ⟨b1_0, 0, none⟩)), (10, .slice A0 a0.Postings.length c0), (11, .int .i64 (a0.Postings.length : Int)), (12, .int .i64 s8.2.2)]) (fun (_, s8, _) => [eBlk Ba1_1 3 [.int .i64 a1_1], eBlk Ba1_0 3 [.int .i64 a1_0], eBlk b0_1 30 [.int .i64 0, .int .i64 0], eBlk b1_0 30 [.int .i64 s8.1, .int .i64 s8.2.1]]) (fun (_, _, _) => [fV (lSlice lGPosting) (.slice A0 a0.Postings.length c0) a0.Postings]) (k8, (0, 0, 0), ()) hk8 ⟨rfl, rfl, rfl, rfl, rfl, rfl, trivial⟩ (fun _ h => h.to ⟨_, (rs (rs (rs (rs r0)))), ⟨_, (rs (rs (rs r0))), ⟨_, (rs r0), ⟨_, r0, trivial⟩⟩⟩⟩ ⟨m0, trivial⟩) ?_
    rintro ⟨k8, s8, _⟩ hI
    obtain ⟨k8, rfl, q8, h, g8⟩ := IterN.pos hI
    dsimp only at h ⊢
    unfold account_sum_account_Balance_c1_l8 at h
    refine wc_seq ?_
    refine wc_region ?_   -- region 3
    refine wl_det rfl rfl (det_lss rfl rfl) rfl ?_
    refine wl_nil ?_
    refine pn_then ?_
    refine wc_seq ?_
    refine wc_cond rfl (fun cd12 => ?_) (fun cd12 => ?_)
    · have h := ifT h cd12
      refine wc_skip ?_
      refine pn_then ?_
      obtain ⟨q14, h, ho14⟩ := bind_some h
      refine wc_meetG (G := (Int × Int) × Unit) (fun (s14, _) => s14 = q14) (fun (_, _) => [(1, .func (.func 48) #[] #[.pointer (some ⟨Ba1_0, 0, none⟩), .pointer (some ⟨Ba1_1, 0, none⟩)]), (4, .pointer (some ⟨b0_1, 0, none⟩)), (6, .pointer (some ⟨b1_0, 0, none⟩)), (10, .slice A0 a0.Postings.length c0), (11, .int .i64 (a0.Postings.length : Int)), (12, .int .i64 s8.2.2)]) (fun (s14, _) => [eBlk Ba1_1 3 [.int .i64 a1_1], eBlk Ba1_0 3 [.int .i64 a1_0], eBlk b0_1 30 [.int .i64 0, .int .i64 0], eBlk b1_0 30 [.int .i64 s14.1, .int .i64 s14.2]]) (fun (_, _) => [fV (lSlice lGPosting) (.slice A0 a0.Postings.length c0) a0.Postings]) ?_ ?_
      · refine wc_block ?_
        refine wc_seq ?_
        refine wc_region ?_   -- region 4
        obtain ⟨k4_0, h⟩ := chk_some h
        refine wl_st (fun _ h => h.openF m0 k4_0) ?_
        refine wl_det rfl rfl (det_indexP rfl rfl (ms m0) k4_0 m0 un23 sz73) rfl ?_
        refine wl_det rfl rfl (det_loadP (off := 0) rfl m0 (by rfl) (by rfl) (loaded_n (cells := [_, _, _, _, _, _, _]) ag73 sz73)) rfl ?_
        refine wl_act (act_alloc (cs := [_, _, _, _, _, _, _]) zr73 rfl) rfl rfl rfl ?_
        rintro _ _ _ ⟨b4_2, rfl, rfl, rfl⟩
        refine wl_act0 (act_store (cells := [_, _, _, _, _, _, _]) (cs' := [_, _, _, _, _, _, _]) rfl rfl rfl s0 (by rfl) (of_decide_eq_true rfl) sz73 ⟨rfl, rfl, rfl, rfl, rfl, rfl, rfl, trivial⟩) rfl rfl ?_
        rintro _ _ _ ⟨rfl, rfl⟩
        refine wl_nil ?_
        refine pn_then ?_
        refine wc_block ?_
        refine wc_seq ?_
        refine wc_region ?_   -- region 6
        refine wl_det rfl rfl (det_move rfl) rfl ?_
        refine wl_det rfl rfl (det_loadN (cells := [_, _, _, _, _, _, _]) rfl m0 (by rfl) ag73 sz73) rfl ?_
        obtain ⟨r6_2, hr6_2, h⟩ := bind_some h
        refine wl_act (act_callS (cap := [_, _]) (W_account_Balance_c1 (ix a0.Postings s8.2.2) a1_0 a1_1 Ba1_0 Ba1_1 r6_2 hr6_2) rfl rfl rfl bd48 ⟨_, (rs (rs r0)), ⟨_, (rs r0), rfl⟩⟩ trivial) rfl rfl rfl ?_
        rintro _ _ _ ⟨_, _, ⟨rfl, rfl, rfl⟩, rfl, rfl⟩
        dsimp only [List.nil_append, List.cons_append]
        refine wl_det rfl rfl (det_not rfl) rfl ?_
        refine wl_det rfl rfl (det_assign rfl) rfl ?_
        refine wl_nil ?_
        refine pn_then ?_
        refine wc_cond rfl (fun cd21 => ?_) (fun cd21 => ?_)
        · have h := ifT h cd21
          refine wc_skip ?_
          refine pn_block ?_
          refine pn_block ?_
          replace h := Option.some.inj h
          subst h
          exact pn_meetG ((s8.1, s8.2.1), ()) rfl ⟨rfl, rfl, rfl, rfl, rfl, rfl, trivial⟩ (fun _ h => h.to ⟨_, (rs r0), ⟨_, r0, ⟨_, (rs r0), ⟨_, (rs r0), trivial⟩⟩⟩⟩ ⟨(ms m0), trivial⟩)
        · have h := ifF h cd21
          refine wc_seq ?_
          refine wc_region ?_   -- region 7
          refine wl_det rfl rfl (det_field rfl fd73_2 rfl) rfl ?_
          refine wl_det rfl rfl (det_field rfl fd41_0 rfl) rfl ?_
          refine wl_det rfl rfl (det_load rfl (ms (ms m0)) (by rfl) na3 us3) rfl ?_
          refine wl_det rfl rfl (det_eql rfl rfl) rfl ?_
          refine wl_det rfl rfl (det_assign rfl) rfl ?_
          refine wl_nil ?_
          refine pn_then ?_
          refine wc_cond rfl (fun cd24 => ?_) (fun cd24 => ?_)
          · have h := ifT h cd24
            refine wc_region ?_   -- region 8
            refine wl_det rfl rfl (det_field rfl fd30_1 rfl) rfl ?_
            refine wl_det rfl rfl (det_load rfl (ms (ms (ms (ms m0)))) (by rfl) na3 us3) rfl ?_
            refine wl_det rfl rfl (det_field rfl fd73_2 rfl) rfl ?_
            refine wl_det rfl rfl (det_field rfl fd41_4 rfl) rfl ?_
            refine wl_det rfl rfl (det_load rfl (ms (ms m0)) (by rfl) na3 us3) rfl ?_
            refine wl_det rfl rfl (det_add rfl rfl) rfl ?_
            refine wl_det rfl rfl (det_field rfl fd30_1 rfl) rfl ?_
            refine wl_act0 (act_store (cells := [_]) (cs' := [_, _]) rfl rfl rfl (ss (ss (ss (ss s0)))) (by rfl) (of_decide_eq_true rfl) sz3 ⟨rfl, trivial⟩) rfl rfl ?_
            rintro _ _ _ ⟨rfl, rfl⟩
            refine wl_nil ?_
            refine pn_block ?_
            refine pn_block ?_
            replace h := Option.some.inj h
            subst h
            exact pn_meetG ((s8.1, (w64 (s8.2.1 + (ix a0.Postings s8.2.2).Entry.Amount))), ()) rfl ⟨rfl, rfl, rfl, rfl, rfl, rfl, trivial⟩ (fun _ h => h.to ⟨_, (rs r0), ⟨_, r0, ⟨_, (rs r0), ⟨_, (rs r0), trivial⟩⟩⟩⟩ ⟨(ms m0), trivial⟩)
          · have h := ifF h cd24
            refine wc_region ?_   -- region 5
            refine wl_det rfl rfl (det_field rfl fd30_0 rfl) rfl ?_
            refine wl_det rfl rfl (det_load rfl (ms (ms (ms (ms m0)))) (by rfl) na3 us3) rfl ?_
            refine wl_det rfl rfl (det_field rfl fd73_2 rfl) rfl ?_
            refine wl_det rfl rfl (det_field rfl fd41_4 rfl) rfl ?_
            refine wl_det rfl rfl (det_load rfl (ms (ms m0)) (by rfl) na3 us3) rfl ?_
            refine wl_det rfl rfl (det_add rfl rfl) rfl ?_
            refine wl_det rfl rfl (det_field rfl fd30_0 rfl) rfl ?_
            refine wl_act0 (act_store (cells := [_]) (cs' := [_, _]) rfl rfl rfl (ss (ss (ss (ss s0)))) (by rfl) (of_decide_eq_true rfl) sz3 ⟨rfl, trivial⟩) rfl rfl ?_
            rintro _ _ _ ⟨rfl, rfl⟩
            refine wl_nil ?_
            refine pn_block ?_
            refine pn_block ?_
            replace h := Option.some.inj h
            subst h
            exact pn_meetG (((w64 (s8.1 + (ix a0.Postings s8.2.2).Entry.Amount)), s8.2.1), ()) rfl ⟨rfl, rfl, rfl, rfl, rfl, rfl, trivial⟩ (fun _ h => h.to ⟨_, (rs r0), ⟨_, r0, ⟨_, (rs r0), ⟨_, (rs r0), trivial⟩⟩⟩⟩ ⟨(ms m0), trivial⟩)
      rintro ⟨s14, _⟩ e14
      dsimp only at e14 ⊢
      subst e14
      have h := ho14
      refine wc_region ?_   -- region 9
      refine wl_det rfl rfl (det_add rfl rfl) rfl ?_
      refine wl_det rfl rfl (det_move rfl) rfl ?_
      refine wl_nil ?_
      replace h := Option.some.inj h
      subst h
      exact pn_some (k8, (s14.1, s14.2, (w64 (s8.2.2 + 1))), ()) ⟨nextL g8, Nat.lt_succ_self _⟩ ⟨rfl, rfl, rfl, rfl, rfl, rfl, trivial⟩ (fun _ h => h.to ⟨_, r0, ⟨_, r0, ⟨_, r0, ⟨_, r0, trivial⟩⟩⟩⟩ ⟨m0, trivial⟩)
    · have h := ifF h cd12
      refine wc_exit ?_
      refine px_then ?_
      refine px_then ?_
      refine px_block ?_
      replace h := Option.some.inj h
      subst h
      replace g8 := nextR g8
      subst g8
      exact pn_meetG ((s8.1, s8.2.1), ()) rfl ⟨rfl, rfl, trivial⟩ (fun _ h => h.to ⟨_, r0, ⟨_, r0, ⟨_, r0, ⟨_, r0, trivial⟩⟩⟩⟩ trivial)
  rintro ⟨s4, _⟩ e4
  dsimp only at e4 ⊢
  subst e4
  have h := ho4
  refine wc_seq ?_
  refine wc_seq ?_
  refine wc_region ?_   -- region 10
  refine wl_det rfl rfl (det_field rfl fd30_0 rfl) rfl ?_
  refine wl_det rfl rfl (det_load rfl (ms (ms (ms m0))) (by rfl) na3 us3) rfl ?_
  obtain ⟨r10_2, hr10_2, h⟩ := bind_some h
  refine wl_act (act_callS (cap := []) (W_amount_Valid s4.1 r10_2 hr10_2) rfl rfl rfl bd51 rfl trivial) rfl rfl rfl ?_
  rintro _ _ _ ⟨_, _, ⟨rfl, rfl, rfl⟩, rfl, rfl⟩
  dsimp only [List.nil_append, List.cons_append]
  refine wl_det rfl rfl (det_not rfl) rfl ?_
  refine wl_det rfl rfl (det_move rfl) rfl ?_
  obtain ⟨q10_9, hq10_9, h⟩ := bind_some h
  have ho10_9 := h
  refine wl_way (!r10_2) q10_9 5 50 (fun hg => ?_) (fun hg => ?_) ?_
  · have hg10_9 := hg
    have h := ifT hq10_9 hg
    refine wl_off rfl rfl rfl rfl rfl hg10_9 rfl ?_
    refine wl_off rfl rfl rfl rfl rfl hg10_9 rfl ?_
    refine wl_off rfl rfl rfl rfl rfl hg10_9 rfl ?_
    refine wl_off rfl rfl rfl rfl rfl hg10_9 rfl ?_
    replace h := Option.some.inj h
    subst h
    refine wl_det rfl rfl (det_pick_on rfl hg10_9 rfl rfl) rfl ?_
    exact wl_nil (pn_qnE (ext_cons rfl (ext_skip rfl (ext_skip rfl (ext_skip rfl (ext_skip rfl (ext_skip rfl ext_refl)))))) (fun _ h => h))
  · have hg10_9a := hg
    have h := ifF hq10_9 hg
    refine wl_on rfl rfl rfl rfl hg10_9a ?_
    refine wl_det rfl rfl (det_field rfl fd30_1 rfl) rfl ?_
    refine wl_on rfl rfl rfl rfl hg10_9a ?_
    refine wl_det rfl rfl (det_load rfl (ms (ms (ms m0))) (by rfl) na3 us3) rfl ?_
    refine wl_on rfl rfl rfl rfl hg10_9a ?_
    obtain ⟨r10_7, hr10_7, h⟩ := bind_some h
    refine wl_act (act_callS (cap := []) (W_amount_Valid s4.2 r10_7 hr10_7) rfl rfl rfl bd51 rfl trivial) rfl rfl rfl ?_
    rintro _ _ _ ⟨_, _, ⟨rfl, rfl, rfl⟩, rfl, rfl⟩
    dsimp only [List.nil_append, List.cons_append]
    refine wl_on rfl rfl rfl rfl hg10_9a ?_
    refine wl_det rfl rfl (det_not rfl) rfl ?_
    replace h := Option.some.inj h
    subst h
    refine wl_det rfl rfl (det_pick_off rfl hg10_9a rfl rfl) rfl ?_
    exact wl_nil (pn_qnE (ext_cons rfl (ext_skip rfl (ext_skip rfl (ext_skip rfl (ext_skip rfl (ext_skip rfl ext_refl)))))) (fun _ h => h))
  have h := ho10_9
  refine wl_nil ?_
  refine pn_then ?_
  refine wc_cond rfl (fun cd31 => ?_) (fun cd31 => ?_)
  · have h := ifT h cd31
    refine wc_seq ?_
    refine wc_region ?_   -- region 11
    refine wl_det rfl rfl (det_build (cs := [_, _]) pl30 zr30 rfl rfl (by rfl)) rfl ?_
    refine wl_act0 (act_store (cells := [_, _]) (cs' := [_, _]) rfl rfl rfl (ss (ss s0)) (by rfl) (of_decide_eq_true rfl) sz30 ⟨rfl, rfl, trivial⟩) rfl rfl ?_
    rintro _ _ _ ⟨rfl, rfl⟩
    refine wl_det rfl rfl (det_assign rfl) rfl ?_
    refine wl_nil ?_
    refine pn_then ?_
    refine wc_ret ?_
    refine pr_then ?_
    replace h := Option.some.inj h
    subst h
    refine pn_ret (vs := [_, _]) rfl ⟨⟨_, _, [_, _], rfl, (ms (ms m0)), ag30, sz30, rfl⟩, rfl, trivial⟩ ⟨rfl, rfl, rfl⟩ (fun _ h => h.to ⟨_, (rs r0), ⟨_, r0, trivial⟩⟩ trivial)
  · have h := ifF h cd31
    refine wc_skip ?_
    refine pn_then ?_
    refine wc_seq ?_
    refine wc_region ?_   -- region 12
    refine wl_det rfl rfl (det_loadN (cells := [_, _]) rfl (ms (ms (ms m0))) (by rfl) ag30 sz30) rfl ?_
    refine wl_act0 (act_store (cells := [_, _]) (cs' := [_, _]) rfl rfl rfl (ss (ss s0)) (by rfl) (of_decide_eq_true rfl) sz30 ⟨rfl, rfl, trivial⟩) rfl rfl ?_
    rintro _ _ _ ⟨rfl, rfl⟩
    refine wl_det rfl rfl (det_assign rfl) rfl ?_
    refine wl_nil ?_
    refine pn_then ?_
    refine wc_ret ?_
    replace h := Option.some.inj h
    subst h
    refine pn_ret (vs := [_, _]) rfl ⟨⟨_, _, [_, _], rfl, (ms (ms m0)), ag30, sz30, rfl⟩, rfl, trivial⟩ ⟨rfl, rfl, rfl⟩ (fun _ h => h.to ⟨_, (rs r0), ⟨_, r0, trivial⟩⟩ trivial)
def Q_account_Balance (r : GBalance × Int) : Value → List Ent → List Fact → Prop := fun v θ κ => v = .tuple #[.agg #[.int .i64 r.1.Due, .int .i64 r.1.Reserve], .int .i64 r.2] ∧ θ = [] ∧ κ = []
theorem plains_account_Balance {r : GBalance × Int} : ∀ v θ κ, Q_account_Balance r v θ κ → Plains θ := by
  rintro _ _ _ ⟨rfl, rfl, rfl⟩
  exact trivial
set_option maxHeartbeats 4000000 in
set_option maxRecDepth 100000 in
theorem W_account_Balance (a0 : GLedger) (a1 : Int) (a2 : Int) (A0 : Option Addr) (n0 : Nat) (c0 : Nat) (r : GBalance × Int) (h : account_Balance a0 a1 a2 = some r) : Spec Try.prog 17 [.agg #[.int .i64 a0.Closed, .slice A0 n0 c0], .int .i64 a1, .int .i64 a2] [] [fV (lSlice lGPosting) (.slice A0 n0 c0) a0.Postings] (Q_account_Balance r) := by
  unfold account_Balance at h
  refine spec_of (σ := [(0, _), (1, _), (2, _)]) Try.func17 rfl rfl rfl rfl ?_
  intro C
  refine wc_know (fun _ h => h.lenF m0) (fun e => ?_)
  subst e
  refine wc_seq ?_
  refine wc_region ?_   -- region 0
  refine wl_act (act_box (cs := [_, _]) rfl rfl) rfl rfl rfl ?_
  rintro _ _ _ ⟨b0_0, rfl, rfl, rfl⟩
  refine wl_act (act_box (cs := [_]) rfl rfl) rfl rfl rfl ?_
  rintro _ _ _ ⟨b0_1, rfl, rfl, rfl⟩
  refine wl_act (act_box (cs := [_]) rfl rfl) rfl rfl rfl ?_
  rintro _ _ _ ⟨b0_2, rfl, rfl, rfl⟩
  refine wl_act (act_alloc (cs := [_, _]) zr30 rfl) rfl rfl rfl ?_
  rintro _ _ _ ⟨b0_3, rfl, rfl, rfl⟩
  refine wl_det rfl rfl (det_assign rfl) rfl ?_
  refine wl_nil ?_
  refine pn_then ?_
  refine wc_seq ?_
  refine wc_seq ?_
  refine wc_region ?_   -- region 1
  refine wl_det rfl rfl (det_loadN (cells := [_, _]) rfl (ms (ms (ms m0))) (by rfl) ag25 sz25) rfl ?_
  obtain ⟨r1_1, hr1_1, h⟩ := bind_some h
  refine wl_act (act_callS (cap := []) (W_ledger_Validate a0 A0 a0.Postings.length c0 r1_1 hr1_1) rfl rfl rfl bd16 rfl ⟨m0, trivial⟩) rfl rfl rfl ?_
  rintro _ _ _ ⟨_, _, ⟨rfl, rfl, rfl⟩, rfl, rfl⟩
  dsimp only [List.nil_append, List.cons_append]
  refine wl_det rfl rfl (det_assign rfl) rfl ?_
  refine wl_nil ?_
  refine pn_then ?_
  refine wc_seq ?_
  refine wc_region ?_   -- region 2
  refine wl_det rfl rfl (det_move rfl) rfl ?_
  refine wl_det rfl rfl (det_neq rfl rfl) rfl ?_
  refine wl_nil ?_
  refine pn_then ?_
  refine wc_cond rfl (fun cd7 => ?_) (fun cd7 => ?_)
  · have h := ifT h cd7
    refine wc_seq ?_
    refine wc_region ?_   -- region 3
    refine wl_det rfl rfl (det_build (cs := [_, _]) pl30 zr30 rfl rfl (by rfl)) rfl ?_
    refine wl_det rfl rfl (det_move rfl) rfl ?_
    refine wl_act0 (act_store (cells := [_, _]) (cs' := [_, _]) rfl rfl rfl s0 (by rfl) (of_decide_eq_true rfl) sz30 ⟨rfl, rfl, trivial⟩) rfl rfl ?_
    rintro _ _ _ ⟨rfl, rfl⟩
    refine wl_det rfl rfl (det_assign rfl) rfl ?_
    refine wl_nil ?_
    refine pn_then ?_
    refine wc_ret ?_
    refine pr_then ?_
    replace h := Option.some.inj h
    subst h
    refine pn_ret (vs := [_, _]) rfl ⟨⟨_, _, [_, _], rfl, m0, ag30, sz30, rfl⟩, rfl, trivial⟩ ⟨rfl, rfl, rfl⟩ (fun _ h => h.to trivial trivial)
  · have h := ifF h cd7
    refine wc_skip ?_
    refine pn_then ?_
    refine wc_seq ?_
    refine wc_region ?_   -- region 4
    refine wl_det rfl rfl (det_loadN (cells := [_, _]) rfl (ms (ms (ms m0))) (by rfl) ag25 sz25) rfl ?_
    refine wl_det rfl rfl (det_makeFunc rfl) rfl ?_
    obtain ⟨r4_2, hr4_2, h⟩ := bind_some h
    refine wl_act (act_callS (cap := []) (W_account_sum_account_Balance_c1 a0 a1 a2 A0 a0.Postings.length c0 b0_1 b0_2 r4_2 hr4_2) rfl rfl rfl bd47 ⟨_, (rs (rs r0)), ⟨_, (rs r0), rfl⟩⟩ ⟨m0, trivial⟩) rfl rfl rfl ?_
    rintro _ _ _ ⟨_, _, ⟨rfl, rfl, rfl⟩, rfl, rfl⟩
    dsimp only [List.nil_append, List.cons_append]
    refine wl_det rfl rfl (det_extract rfl rfl) rfl ?_
    refine wl_det rfl rfl (det_extract rfl rfl) rfl ?_
    refine wl_act0 (act_store (cells := [_, _]) (cs' := [_, _]) rfl rfl rfl (ss (ss s0)) (by rfl) (of_decide_eq_true rfl) sz30 ⟨rfl, rfl, trivial⟩) rfl rfl ?_
    rintro _ _ _ ⟨rfl, rfl⟩
    refine wl_det rfl rfl (det_assign rfl) rfl ?_
    refine wl_nil ?_
    refine pn_then ?_
    refine wc_ret ?_
    replace h := Option.some.inj h
    subst h
    refine pn_ret (vs := [_, _]) rfl ⟨⟨_, _, [_, _], rfl, (ms (ms m0)), ag30, sz30, rfl⟩, rfl, trivial⟩ ⟨rfl, rfl, rfl⟩ (fun _ h => h.to trivial trivial)
def Q_cmp_isNaN_int (r : Bool) : Value → List Ent → List Fact → Prop := fun v θ κ => v = .bool r ∧ θ = [] ∧ κ = []
theorem plains_cmp_isNaN_int {r : Bool} : ∀ v θ κ, Q_cmp_isNaN_int r v θ κ → Plains θ := by
  rintro _ _ _ ⟨rfl, rfl, rfl⟩
  exact trivial
set_option maxHeartbeats 4000000 in
set_option maxRecDepth 100000 in
theorem W_cmp_isNaN_int (a0 : Int) (r : Bool) (h : cmp_isNaN_int a0 = some r) : Spec Try.prog 86 [.int .i64 a0] [] [] (Q_cmp_isNaN_int r) := by
  unfold cmp_isNaN_int at h
  refine spec_of (σ := [(0, _)]) Try.func86 rfl rfl rfl rfl ?_
  intro C
  refine wc_seq ?_
  refine wc_region ?_   -- region 0
  refine wl_det rfl rfl (det_assign rfl) rfl ?_
  refine wl_nil ?_
  refine pn_then ?_
  refine wc_seq ?_
  refine wc_region ?_   -- region 1
  refine wl_det rfl rfl (det_move rfl) rfl ?_
  refine wl_det rfl rfl (det_move rfl) rfl ?_
  refine wl_det rfl rfl (det_neq rfl rfl) rfl ?_
  refine wl_det rfl rfl (det_assign rfl) rfl ?_
  refine wl_nil ?_
  refine pn_then ?_
  refine wc_ret ?_
  replace h := Option.some.inj h
  subst h
  refine pn_ret (vs := [_]) rfl ⟨rfl, trivial⟩ ⟨rfl, rfl, rfl⟩ (fun _ h => h.to trivial trivial)
def Q_cmp_Compare_int (r : Int) : Value → List Ent → List Fact → Prop := fun v θ κ => v = .int .i64 r ∧ θ = [] ∧ κ = []
theorem plains_cmp_Compare_int {r : Int} : ∀ v θ κ, Q_cmp_Compare_int r v θ κ → Plains θ := by
  rintro _ _ _ ⟨rfl, rfl, rfl⟩
  exact trivial
set_option maxHeartbeats 4000000 in
set_option maxRecDepth 100000 in
theorem W_cmp_Compare_int (a0 : Int) (a1 : Int) (r : Int) (h : cmp_Compare_int a0 a1 = some r) : Spec Try.prog 70 [.int .i64 a0, .int .i64 a1] [] [] (Q_cmp_Compare_int r) := by
  unfold cmp_Compare_int at h
  refine spec_of (σ := [(0, _), (1, _)]) Try.func70 rfl rfl rfl rfl ?_
  intro C
  refine wc_seq ?_
  refine wc_region ?_   -- region 0
  refine wl_det rfl rfl (det_assign rfl) rfl ?_
  refine wl_nil ?_
  refine pn_then ?_
  refine wc_seq ?_
  refine wc_region ?_   -- region 1
  refine wl_det rfl rfl (det_move rfl) rfl ?_
  obtain ⟨r1_1, hr1_1, h⟩ := bind_some h
  refine wl_act (act_callS (cap := []) (W_cmp_isNaN_int a0 r1_1 hr1_1) rfl rfl rfl bd86 rfl trivial) rfl rfl rfl ?_
  rintro _ _ _ ⟨_, _, ⟨rfl, rfl, rfl⟩, rfl, rfl⟩
  dsimp only [List.nil_append, List.cons_append]
  refine wl_det rfl rfl (det_assign rfl) rfl ?_
  refine wl_nil ?_
  refine pn_then ?_
  refine wc_seq ?_
  refine wc_region ?_   -- region 2
  refine wl_det rfl rfl (det_move rfl) rfl ?_
  obtain ⟨r2_1, hr2_1, h⟩ := bind_some h
  refine wl_act (act_callS (cap := []) (W_cmp_isNaN_int a1 r2_1 hr2_1) rfl rfl rfl bd86 rfl trivial) rfl rfl rfl ?_
  rintro _ _ _ ⟨_, _, ⟨rfl, rfl, rfl⟩, rfl, rfl⟩
  dsimp only [List.nil_append, List.cons_append]
  refine wl_det rfl rfl (det_assign rfl) rfl ?_
  refine wl_nil ?_
  refine pn_then ?_
  refine wc_seq ?_
  refine wc_seq ?_
  refine wc_region ?_   -- region 3
  refine wl_det rfl rfl (det_move rfl) rfl ?_
  refine wl_nil ?_
  refine pn_then ?_
  refine wc_cond rfl (fun cd9 => ?_) (fun cd9 => ?_)
  · have h := ifT h cd9
    refine wc_seq ?_
    refine wc_seq ?_
    refine wc_region ?_   -- region 4
    refine wl_det rfl rfl (det_move rfl) rfl ?_
    refine wl_nil ?_
    refine pn_then ?_
    refine wc_cond rfl (fun cd13 => ?_) (fun cd13 => ?_)
    · have h := ifT h cd13
      refine wc_seq ?_
      refine wc_region ?_   -- region 5
      refine wl_det rfl rfl (det_assign rfl) rfl ?_
      refine wl_nil ?_
      refine pn_then ?_
      refine wc_ret ?_
      refine pr_then ?_
      refine pr_then ?_
      replace h := Option.some.inj h
      subst h
      refine pn_ret (vs := [_]) rfl ⟨rfl, trivial⟩ ⟨rfl, rfl, rfl⟩ (fun _ h => h.to trivial trivial)
    · have h := ifF h cd13
      refine wc_skip ?_
      refine pn_then ?_
      refine wc_seq ?_
      refine wc_region ?_   -- region 6
      refine wl_det rfl rfl (det_assign rfl) rfl ?_
      refine wl_nil ?_
      refine pn_then ?_
      refine wc_ret ?_
      refine pr_then ?_
      replace h := Option.some.inj h
      subst h
      refine pn_ret (vs := [_]) rfl ⟨rfl, trivial⟩ ⟨rfl, rfl, rfl⟩ (fun _ h => h.to trivial trivial)
  · have h := ifF h cd9
    refine wc_skip ?_
    refine pn_then ?_
    refine wc_seq ?_
    refine wc_seq ?_
    refine wc_region ?_   -- region 7
    refine wl_det rfl rfl (det_move rfl) rfl ?_
    refine wl_nil ?_
    refine pn_then ?_
    refine wc_cond rfl (fun cd21 => ?_) (fun cd21 => ?_)
    · have h := ifT h cd21
      refine wc_seq ?_
      refine wc_region ?_   -- region 8
      refine wl_det rfl rfl (det_assign rfl) rfl ?_
      refine wl_nil ?_
      refine pn_then ?_
      refine wc_ret ?_
      refine pr_then ?_
      replace h := Option.some.inj h
      subst h
      refine pn_ret (vs := [_]) rfl ⟨rfl, trivial⟩ ⟨rfl, rfl, rfl⟩ (fun _ h => h.to trivial trivial)
    · have h := ifF h cd21
      refine wc_skip ?_
      refine pn_then ?_
      refine wc_seq ?_
      refine wc_seq ?_
      refine wc_region ?_   -- region 9
      refine wl_det rfl rfl (det_move rfl) rfl ?_
      refine wl_det rfl rfl (det_move rfl) rfl ?_
      refine wl_det rfl rfl (det_lss rfl rfl) rfl ?_
      refine wl_nil ?_
      refine pn_then ?_
      refine wc_cond rfl (fun cd27 => ?_) (fun cd27 => ?_)
      · have h := ifT h cd27
        refine wc_seq ?_
        refine wc_region ?_   -- region 10
        refine wl_det rfl rfl (det_assign rfl) rfl ?_
        refine wl_nil ?_
        refine pn_then ?_
        refine wc_ret ?_
        refine pr_then ?_
        replace h := Option.some.inj h
        subst h
        refine pn_ret (vs := [_]) rfl ⟨rfl, trivial⟩ ⟨rfl, rfl, rfl⟩ (fun _ h => h.to trivial trivial)
      · have h := ifF h cd27
        refine wc_skip ?_
        refine pn_then ?_
        refine wc_seq ?_
        refine wc_seq ?_
        refine wc_region ?_   -- region 11
        refine wl_det rfl rfl (det_move rfl) rfl ?_
        refine wl_det rfl rfl (det_move rfl) rfl ?_
        refine wl_det rfl rfl (det_gtr rfl rfl) rfl ?_
        refine wl_nil ?_
        refine pn_then ?_
        refine wc_cond rfl (fun cd33 => ?_) (fun cd33 => ?_)
        · have h := ifT h cd33
          refine wc_seq ?_
          refine wc_region ?_   -- region 12
          refine wl_det rfl rfl (det_assign rfl) rfl ?_
          refine wl_nil ?_
          refine pn_then ?_
          refine wc_ret ?_
          refine pr_then ?_
          replace h := Option.some.inj h
          subst h
          refine pn_ret (vs := [_]) rfl ⟨rfl, trivial⟩ ⟨rfl, rfl, rfl⟩ (fun _ h => h.to trivial trivial)
        · have h := ifF h cd33
          refine wc_skip ?_
          refine pn_then ?_
          refine wc_seq ?_
          refine wc_region ?_   -- region 13
          refine wl_det rfl rfl (det_assign rfl) rfl ?_
          refine wl_nil ?_
          refine pn_then ?_
          refine wc_ret ?_
          replace h := Option.some.inj h
          subst h
          refine pn_ret (vs := [_]) rfl ⟨rfl, trivial⟩ ⟨rfl, rfl, rfl⟩ (fun _ h => h.to trivial trivial)
def Q_cmp_Or_int (r : Int) : Value → List Ent → List Fact → Prop := fun v θ κ => v = .int .i64 r ∧ θ = [] ∧ κ = []
theorem plains_cmp_Or_int {r : Int} : ∀ v θ κ, Q_cmp_Or_int r v θ κ → Plains θ := by
  rintro _ _ _ ⟨rfl, rfl, rfl⟩
  exact trivial
set_option maxHeartbeats 4000000 in
set_option maxRecDepth 100000 in
theorem W_cmp_Or_int (a0 : (List Int)) (A0 : Option Addr) (n0 : Nat) (c0 : Nat) (r : Int) (h : cmp_Or_int a0 = some r) : Spec Try.prog 69 [.slice A0 n0 c0] [] [fV (lSlice (lInt .i64)) (.slice A0 n0 c0) a0] (Q_cmp_Or_int r) := by
  unfold cmp_Or_int at h
  refine spec_of (σ := [(0, _)]) Try.func69 rfl rfl rfl rfl ?_
  intro C
  refine wc_know (fun _ h => h.lenF m0) (fun e => ?_)
  subst e
  refine wc_seq ?_
  refine wc_region ?_   -- region 0
  refine wl_det rfl rfl (det_assign rfl) rfl ?_
  refine wl_nil ?_
  refine pn_then ?_
  refine wc_seq ?_
  refine wc_region ?_   -- region 1
  refine wl_det rfl rfl (det_assign rfl) rfl ?_
  refine wl_nil ?_
  refine pn_then ?_
  obtain ⟨q4, h, ho4⟩ := bind_some h
  refine wc_meetG (G := Unit × Unit) (fun (s4, _) => (.inl s4) = q4) (fun (_, _) => [(3, .int .i64 0)]) (fun (_, _) => []) (fun (_, _) => []) ?_ ?_
  · refine wc_seq ?_
    refine wc_region ?_   -- region 2
    refine wl_det rfl rfl (det_move rfl) rfl ?_
    refine wl_det rfl rfl (det_len rfl un22) rfl ?_
    refine wl_det rfl rfl (det_move rfl) rfl ?_
    refine wl_nil ?_
    refine pn_then ?_
    refine wc_block ?_
    obtain ⟨o8, h, ho8⟩ := bind_some h
    obtain ⟨k8, hk8⟩ := loopV_some.1 h
    refine wc_loop (G := Nat × Int × Unit) (fun g => IterN (cmp_Or_int_l8 a0) g.1 g.2.1 o8) (fun g => g.1) (fun (_, s8, _) => [(3, .int .i64 0), (6, .slice A0 a0.length c0), (7, .int .i64 (a0.length : Int)), (8, .int .i64 s8)]) (fun (_, _, _) => []) (fun (_, _, _) => [fV (lSlice (lInt .i64)) (.slice A0 a0.length c0) a0]) (k8, 0, ()) hk8 ⟨rfl, rfl, rfl, rfl, trivial⟩ (fun _ h => h.to trivial ⟨m0, trivial⟩) ?_
    rintro ⟨k8, s8, _⟩ hI
    obtain ⟨k8, rfl, q8, h, g8⟩ := IterN.pos hI
    dsimp only at h ⊢
    unfold cmp_Or_int_l8 at h
    refine wc_seq ?_
    refine wc_region ?_   -- region 3
    refine wl_det rfl rfl (det_lss rfl rfl) rfl ?_
    refine wl_nil ?_
    refine pn_then ?_
    refine wc_seq ?_
    refine wc_cond rfl (fun cd12 => ?_) (fun cd12 => ?_)
    · have h := ifT h cd12
      refine wc_skip ?_
      refine pn_then ?_
      refine wc_seq ?_
      refine wc_block ?_
      refine wc_seq ?_
      refine wc_region ?_   -- region 4
      obtain ⟨k4_0, h⟩ := chk_some h
      refine wl_st (fun _ h => h.openF m0 k4_0) ?_
      refine wl_det rfl rfl (det_indexP rfl rfl (ms m0) k4_0 m0 un22 sz3) rfl ?_
      refine wl_det rfl rfl (det_loadP (off := 0) rfl m0 (by rfl) (by rfl) (loaded_1 na3 us3)) rfl ?_
      refine wl_det rfl rfl (det_assign rfl) rfl ?_
      refine wl_nil ?_
      refine pn_then ?_
      refine wc_seq ?_
      refine wc_region ?_   -- region 5
      refine wl_det rfl rfl (det_move rfl) rfl ?_
      refine wl_det rfl rfl (det_move rfl) rfl ?_
      refine wl_det rfl rfl (det_neq rfl rfl) rfl ?_
      refine wl_nil ?_
      refine pn_then ?_
      refine wc_cond rfl (fun cd20 => ?_) (fun cd20 => ?_)
      · have h := ifT h cd20
        refine wc_seq ?_
        refine wc_region ?_   -- region 6
        refine wl_det rfl rfl (det_move rfl) rfl ?_
        refine wl_det rfl rfl (det_assign rfl) rfl ?_
        refine wl_nil ?_
        refine pn_then ?_
        refine wc_ret ?_
        refine pr_block ?_
        refine pr_then ?_
        refine pr_then ?_
        refine pr_block ?_
        refine pr_then ?_
        replace h := Option.some.inj h
        subst h
        replace g8 := nextR g8
        subst g8
        have h := (elimL ho8)
        replace h := Option.some.inj h
        subst h
        have h := (elimR ho4)
        replace h := Option.some.inj h
        subst h
        refine pn_ret (vs := [_]) rfl ⟨rfl, trivial⟩ ⟨rfl, rfl, rfl⟩ (fun _ h => h.to trivial trivial)
      · have h := ifF h cd20
        refine wc_skip ?_
        refine pn_block ?_
        refine pn_then ?_
        refine wc_region ?_   -- region 7
        refine wl_det rfl rfl (det_add rfl rfl) rfl ?_
        refine wl_det rfl rfl (det_move rfl) rfl ?_
        refine wl_nil ?_
        replace h := Option.some.inj h
        subst h
        exact pn_some (k8, (w64 (s8 + 1)), ()) ⟨nextL g8, Nat.lt_succ_self _⟩ ⟨rfl, rfl, rfl, rfl, trivial⟩ (fun _ h => h.to trivial ⟨(ms m0), trivial⟩)
    · have h := ifF h cd12
      refine wc_exit ?_
      refine px_then ?_
      refine px_then ?_
      refine px_block ?_
      replace h := Option.some.inj h
      subst h
      replace g8 := nextR g8
      subst g8
      have h := (elimR ho8)
      replace h := Option.some.inj h
      subst h
      exact pn_meetG ((), ()) rfl ⟨rfl, trivial⟩ (fun _ h => h.to trivial trivial)
  rintro ⟨s4, _⟩ e4
  dsimp only at e4 ⊢
  subst e4
  have h := (elimL ho4)
  refine wc_seq ?_
  refine wc_region ?_   -- region 8
  refine wl_det rfl rfl (det_move rfl) rfl ?_
  refine wl_det rfl rfl (det_assign rfl) rfl ?_
  refine wl_nil ?_
  refine pn_then ?_
  refine wc_ret ?_
  replace h := Option.some.inj h
  subst h
  refine pn_ret (vs := [_]) rfl ⟨rfl, trivial⟩ ⟨rfl, rfl, rfl⟩ (fun _ h => h.to trivial trivial)
def Q_ledger_compare (r : Int) : Value → List Ent → List Fact → Prop := fun v θ κ => v = .int .i64 r ∧ θ = [] ∧ κ = []
theorem plains_ledger_compare {r : Int} : ∀ v θ κ, Q_ledger_compare r v θ κ → Plains θ := by
  rintro _ _ _ ⟨rfl, rfl, rfl⟩
  exact trivial
set_option maxHeartbeats 4000000 in
set_option maxRecDepth 100000 in
theorem W_ledger_compare (a0 : GEntry) (a1 : GEntry) (r : Int) (h : ledger_compare a0 a1 = some r) : Spec Try.prog 55 [.agg #[.int .i64 a0.Kind, .int .i64 a0.Treaty, .int .i64 a0.Party, .int .i64 a0.Loss, .int .i64 a0.Amount], .agg #[.int .i64 a1.Kind, .int .i64 a1.Treaty, .int .i64 a1.Party, .int .i64 a1.Loss, .int .i64 a1.Amount]] [] [] (Q_ledger_compare r) := by
  unfold ledger_compare at h
  refine spec_of (σ := [(0, _), (1, _)]) Try.func55 rfl rfl rfl rfl ?_
  intro C
  refine wc_seq ?_
  refine wc_region ?_   -- region 0
  refine wl_act (act_box (cs := [_, _, _, _, _]) rfl rfl) rfl rfl rfl ?_
  rintro _ _ _ ⟨b0_0, rfl, rfl, rfl⟩
  refine wl_act (act_box (cs := [_, _, _, _, _]) rfl rfl) rfl rfl rfl ?_
  rintro _ _ _ ⟨b0_1, rfl, rfl, rfl⟩
  refine wl_det rfl rfl (det_assign rfl) rfl ?_
  refine wl_nil ?_
  refine pn_then ?_
  refine wc_seq ?_
  refine dx_region 22 [[], [0], [], [2], [0, 1, 2, 3], [], [5], [], [7], [0, 1, 2, 3, 4, 5, 6, 7, 8], [], [10], [], [12], [0, 1, 2, 3, 4, 5, 6, 7, 8, 9, 10, 11, 12, 13], [], [15], [], [17], [0, 1, 2, 3, 4, 5, 6, 7, 8, 9, 10, 11, 12, 13, 14, 15, 16, 17, 18], [0, 1, 2, 3, 4, 5, 6, 7, 8, 9, 10, 11, 12, 13, 14, 15, 16, 17, 18, 19], [0, 1, 2, 3, 4, 5, 6, 7, 8, 9, 10, 11, 12, 13, 14, 15, 16, 17, 18, 19, 20], [0, 1, 2, 3, 4, 5, 6, 7, 8, 9, 10, 11, 12, 13, 14, 15, 16, 17, 18, 19, 20, 21]] mixed (ord := (.det 0 (.det 1 (.det 2 (.det 3 (.det 5 (.det 6 (.det 7 (.det 8 (.det 10 (.det 11 (.det 12 (.det 13 (.det 15 (.det 16 (.det 17 (.det 18 (.alt 4 (.alt 9 (.alt 14 (.alt 19 (.alt 20 (.alt 21 .done .dead) .dead) .dead) .dead) .dead) .dead)))))))))))))))))) (by kernel_rfl) ?_   -- region 1
  refine hx_det rfl rfl rfl nofun (det_field rfl fd41_0 rfl) rfl ?_
  refine hx_det rfl rfl rfl nofun (det_load rfl (ms m0) (by rfl) na3 us3) rfl ?_
  refine hx_det rfl rfl rfl nofun (det_field rfl fd41_0 rfl) rfl ?_
  refine hx_det rfl rfl rfl nofun (det_load rfl m0 (by rfl) na3 us3) rfl ?_
  refine hx_det rfl rfl rfl nofun (det_field rfl fd41_1 rfl) rfl ?_
  refine hx_det rfl rfl rfl nofun (det_load rfl (ms m0) (by rfl) na3 us3) rfl ?_
  refine hx_det rfl rfl rfl nofun (det_field rfl fd41_1 rfl) rfl ?_
  refine hx_det rfl rfl rfl nofun (det_load rfl m0 (by rfl) na3 us3) rfl ?_
  refine hx_det rfl rfl rfl nofun (det_field rfl fd41_2 rfl) rfl ?_
  refine hx_det rfl rfl rfl nofun (det_load rfl (ms m0) (by rfl) na3 us3) rfl ?_
  refine hx_det rfl rfl rfl nofun (det_field rfl fd41_2 rfl) rfl ?_
  refine hx_det rfl rfl rfl nofun (det_load rfl m0 (by rfl) na3 us3) rfl ?_
  refine hx_det rfl rfl rfl nofun (det_field rfl fd41_3 rfl) rfl ?_
  refine hx_det rfl rfl rfl nofun (det_load rfl (ms m0) (by rfl) na3 us3) rfl ?_
  refine hx_det rfl rfl rfl nofun (det_field rfl fd41_3 rfl) rfl ?_
  refine hx_det rfl rfl rfl nofun (det_load rfl m0 (by rfl) na3 us3) rfl ?_
  obtain ⟨r1_4, hr1_4, h⟩ := bind_some h
  refine hx_act rfl rfl rfl (act_callS (cap := []) (W_cmp_Compare_int a0.Kind a1.Kind r1_4 hr1_4) rfl rfl rfl bd70 rfl trivial) rfl (by rintro _ _ _ ⟨_, _, _, rfl, rfl⟩; first | exact ⟨_, _, rfl, rfl⟩ | exact ⟨_, [], rfl, rfl⟩) ?_
  rintro _ _ _ ⟨_, _, ⟨rfl, rfl, rfl⟩, rfl, rfl⟩
  dsimp only [List.nil_append, List.cons_append]
  obtain ⟨r1_9, hr1_9, h⟩ := bind_some h
  refine hx_act rfl rfl rfl (act_callS (cap := []) (W_cmp_Compare_int a0.Treaty a1.Treaty r1_9 hr1_9) rfl rfl rfl bd70 rfl trivial) rfl (by rintro _ _ _ ⟨_, _, _, rfl, rfl⟩; first | exact ⟨_, _, rfl, rfl⟩ | exact ⟨_, [], rfl, rfl⟩) ?_
  rintro _ _ _ ⟨_, _, ⟨rfl, rfl, rfl⟩, rfl, rfl⟩
  dsimp only [List.nil_append, List.cons_append]
  obtain ⟨r1_14, hr1_14, h⟩ := bind_some h
  refine hx_act rfl rfl rfl (act_callS (cap := []) (W_cmp_Compare_int a0.Party a1.Party r1_14 hr1_14) rfl rfl rfl bd70 rfl trivial) rfl (by rintro _ _ _ ⟨_, _, _, rfl, rfl⟩; first | exact ⟨_, _, rfl, rfl⟩ | exact ⟨_, [], rfl, rfl⟩) ?_
  rintro _ _ _ ⟨_, _, ⟨rfl, rfl, rfl⟩, rfl, rfl⟩
  dsimp only [List.nil_append, List.cons_append]
  obtain ⟨r1_19, hr1_19, h⟩ := bind_some h
  refine hx_act rfl rfl rfl (act_callS (cap := []) (W_cmp_Compare_int a0.Loss a1.Loss r1_19 hr1_19) rfl rfl rfl bd70 rfl trivial) rfl (by rintro _ _ _ ⟨_, _, _, rfl, rfl⟩; first | exact ⟨_, _, rfl, rfl⟩ | exact ⟨_, [], rfl, rfl⟩) ?_
  rintro _ _ _ ⟨_, _, ⟨rfl, rfl, rfl⟩, rfl, rfl⟩
  dsimp only [List.nil_append, List.cons_append]
  refine hx_act rfl rfl rfl (act_litS (lInt .i64) (vs := [_, _, _, _]) (cs := [_, _, _, _]) [r1_4, r1_9, r1_14, r1_19] un22 in3 rfl rfl rfl rfl rfl ⟨rfl, rfl, rfl, rfl, trivial⟩ (by rfl) rfl (litR_flat rfl)) rfl (by rintro _ _ _ ⟨A1_20, rfl, rfl, rfl⟩; first | exact ⟨_ :: [], [], rfl, rfl⟩ | exact ⟨[], [_], rfl, rfl⟩ | exact ⟨[], [], rfl, rfl⟩) ?_
  rintro _ _ _ ⟨A1_20, rfl, rfl, rfl⟩
  obtain ⟨r1_21, hr1_21, h⟩ := bind_some h
  refine hx_act rfl rfl rfl (act_callL (cap := []) [eS (lInt .i64) 3 A1_20 4 4 [r1_4, r1_9, r1_14, r1_19]] (W_cmp_Or_int [r1_4, r1_9, r1_14, r1_19] A1_20 4 4 r1_21 hr1_21) plains_cmp_Or_int rfl rfl rfl bd69 rfl ⟨m0, trivial⟩ ⟨.inr ⟨_, m0, lent_eS⟩, trivial⟩) rfl (by rintro _ _ _ ⟨_, _, _, rfl, rfl⟩; first | exact ⟨_, _, rfl, rfl⟩ | exact ⟨_, [], rfl, rfl⟩) ?_
  rintro _ _ _ ⟨_, _, ⟨rfl, rfl, rfl⟩, rfl, rfl⟩
  dsimp only [List.nil_append, List.cons_append]
  refine hx_end ?_
  refine wl_det rfl rfl (det_assign rfl) rfl ?_
  refine wl_nil ?_
  refine pn_then ?_
  refine wc_ret ?_
  replace h := Option.some.inj h
  subst h
  refine pn_ret (vs := [_]) rfl ⟨rfl, trivial⟩ ⟨rfl, rfl, rfl⟩ (fun _ h => h.to trivial trivial)
def Q_slices_SortFunc_s_api_Entry_api_Entry_o_ledger_compare (A0 : Option Addr) (n0 : Nat) (c0 : Nat) (r : (List GEntry)) : Value → List Ent → List Fact → Prop := fun v θ κ => v = .tuple #[] ∧ θ = [eS lGEntry 41 A0 n0 c0 r] ∧ κ = []
theorem plains_slices_SortFunc_s_api_Entry_api_Entry_o_ledger_compare {A0 : Option Addr} {n0 : Nat} {c0 : Nat} {r : (List GEntry)} : ∀ v θ κ, Q_slices_SortFunc_s_api_Entry_api_Entry_o_ledger_compare A0 n0 c0 r v θ κ → Plains θ := by
  rintro _ _ _ ⟨rfl, rfl, rfl⟩
  exact ⟨plain_eS, trivial⟩
theorem W_slices_SortFunc_s_api_Entry_api_Entry_o_ledger_compare (a0 : (List GEntry)) (A0 : Option Addr) (n0 : Nat) (c0 : Nat) (r : (List GEntry)) (h : slices_SortFunc_s_api_Entry_api_Entry_o_ledger_compare a0 = some r) : Spec Try.prog 54 [.slice A0 n0 c0, .func (.func 55) #[] #[]] [eS lGEntry 41 A0 n0 c0 a0] [] (Q_slices_SortFunc_s_api_Entry_api_Entry_o_ledger_compare A0 n0 c0 r) :=
  spec_sortK (ρ := Try.sort54_ren) Try.sort54 rfl (by kernel_rfl) (by kernel_rfl) (cap := []) (θ₀ := []) bd55 trivial (fun x y r h => W_ledger_compare x y  r h) h A0 n0 c0
def Q_ledger_Collect (r : (List GEntry) × Int) : Value → List Ent → List Fact → Prop := fun v θ κ => ∃ (pA0 : Option Addr), ∃ (pn0 : Nat), ∃ (pc0 : Nat), v = .tuple #[.slice pA0 pn0 pc0, .int .i64 r.2] ∧ θ = [eS lGEntry 41 pA0 pn0 pc0 r.1] ∧ κ = []
theorem plains_ledger_Collect {r : (List GEntry) × Int} : ∀ v θ κ, Q_ledger_Collect r v θ κ → Plains θ := by
  rintro _ _ _ ⟨_, _, _, rfl, rfl, rfl⟩
  exact ⟨plain_eS, trivial⟩
set_option maxHeartbeats 4000000 in
set_option maxRecDepth 100000 in
theorem W_ledger_Collect (a0 : (List GEntry)) (A0 : Option Addr) (n0 : Nat) (c0 : Nat) (r : (List GEntry) × Int) (h : ledger_Collect a0 = some r) : Spec Try.prog 26 [.slice A0 n0 c0] [] [fV (lSlice lGEntry) (.slice A0 n0 c0) a0] (Q_ledger_Collect r) := by
  unfold ledger_Collect at h
  refine spec_of (σ := [(0, _)]) Try.func26 rfl rfl rfl rfl ?_
  intro C
  refine wc_know (fun _ h => h.lenF m0) (fun e => ?_)
  subst e
  refine wc_seq ?_
  refine wc_region ?_   -- region 0
  refine wl_det rfl rfl (det_assign rfl) rfl ?_
  refine wl_det rfl rfl (det_assign rfl) rfl ?_
  refine wl_nil ?_
  refine pn_then ?_
  refine wc_seq ?_
  refine wc_seq ?_
  refine wc_region ?_   -- region 1
  refine wl_det rfl rfl (det_move rfl) rfl ?_
  refine wl_det rfl rfl (det_len rfl un37) rfl ?_
  refine wl_det rfl rfl (det_gtr rfl rfl) rfl ?_
  refine wl_nil ?_
  refine pn_then ?_
  refine wc_cond rfl (fun cd5 => ?_) (fun cd5 => ?_)
  · have h := ifT h cd5
    refine wc_seq ?_
    refine wc_region ?_   -- region 2
    refine wl_det rfl rfl (det_assign rfl) rfl ?_
    refine wl_det rfl rfl (det_assign rfl) rfl ?_
    refine wl_nil ?_
    refine pn_then ?_
    refine wc_ret ?_
    refine pr_then ?_
    refine pn_st (fun _ h => h.zeroS lGEntry 41 none) ?_
    replace h := Option.some.inj h
    subst h
    refine pn_ret (vs := [_, _]) rfl ⟨rfl, rfl, trivial⟩ ⟨none, 0, 0, rfl, rfl, rfl⟩ (fun _ h => h.to ⟨_, r0, trivial⟩ trivial)
  · have h := ifF h cd5
    refine wc_skip ?_
    refine pn_then ?_
    refine wc_seq ?_
    refine wc_region ?_   -- region 3
    refine wl_act (act_makeMap encKGEntry encKI) rfl rfl rfl ?_
    rintro _ _ _ ⟨b3_0, rfl, rfl, rfl⟩
    refine wl_det rfl rfl (det_assign rfl) rfl ?_
    refine wl_nil ?_
    refine pn_then ?_
    obtain ⟨q10, h, ho10⟩ := bind_some h
    refine wc_meetG (G := (List (GEntry × Int)) × Unit) (fun (s10, _) => (.inl s10) = q10) (fun (_, _) => [(4, .map (some b3_0))]) (fun (s10, _) => [eM encKGEntry encKI b3_0 s10]) (fun (_, _) => []) ?_ ?_
    · refine wc_seq ?_
      refine wc_region ?_   -- region 4
      refine wl_det rfl rfl (det_move rfl) rfl ?_
      refine wl_det rfl rfl (det_len rfl un37) rfl ?_
      refine wl_det rfl rfl (det_move rfl) rfl ?_
      refine wl_nil ?_
      refine pn_then ?_
      refine wc_block ?_
      obtain ⟨o14, h, ho14⟩ := bind_some h
      obtain ⟨k14, hk14⟩ := loopV_some.1 h
      refine wc_loop (G := Nat × ((List (GEntry × Int)) × Int) × Unit) (fun g => IterN (ledger_Collect_l14 a0) g.1 g.2.1 o14) (fun g => g.1) (fun (_, s14, _) => [(4, .map (some b3_0)), (15, .slice A0 a0.length c0), (16, .int .i64 (a0.length : Int)), (17, .int .i64 s14.2)]) (fun (_, s14, _) => [eM encKGEntry encKI b3_0 s14.1]) (fun (_, _, _) => [fV (lSlice lGEntry) (.slice A0 a0.length c0) a0]) (k14, ([], 0), ()) hk14 ⟨rfl, rfl, rfl, rfl, trivial⟩ (fun _ h => h.to ⟨_, r0, trivial⟩ ⟨m0, trivial⟩) ?_
      rintro ⟨k14, s14, _⟩ hI
      obtain ⟨k14, rfl, q14, h, g14⟩ := IterN.pos hI
      dsimp only at h ⊢
      unfold ledger_Collect_l14 at h
      refine wc_seq ?_
      refine wc_region ?_   -- region 5
      refine wl_det rfl rfl (det_lss rfl rfl) rfl ?_
      refine wl_nil ?_
      refine pn_then ?_
      refine wc_seq ?_
      refine wc_cond rfl (fun cd18 => ?_) (fun cd18 => ?_)
      · have h := ifT h cd18
        refine wc_skip ?_
        refine pn_then ?_
        refine wc_seq ?_
        refine wc_block ?_
        refine wc_seq ?_
        refine wc_region ?_   -- region 6
        obtain ⟨k6_0, h⟩ := chk_some h
        refine wl_st (fun _ h => h.openF m0 k6_0) ?_
        refine wl_det rfl rfl (det_indexP rfl rfl (ms m0) k6_0 m0 un37 sz41) rfl ?_
        refine wl_det rfl rfl (det_loadP (off := 0) rfl m0 (by rfl) (by rfl) (loaded_n (cells := [_, _, _, _, _]) ag41 sz41)) rfl ?_
        refine wl_act (act_alloc (cs := [_, _, _, _, _]) zr41 rfl) rfl rfl rfl ?_
        rintro _ _ _ ⟨b6_2, rfl, rfl, rfl⟩
        refine wl_act0 (act_store (cells := [_, _, _, _, _]) (cs' := [_, _, _, _, _]) rfl rfl rfl s0 (by rfl) (of_decide_eq_true rfl) sz41 ⟨rfl, rfl, rfl, rfl, rfl, trivial⟩) rfl rfl ?_
        rintro _ _ _ ⟨rfl, rfl⟩
        refine wl_nil ?_
        refine pn_then ?_
        refine wc_seq ?_
        refine wc_seq ?_
        refine wc_region ?_   -- region 7
        refine wl_det rfl rfl (det_loadN (cells := [_, _, _, _, _]) rfl m0 (by rfl) ag41 sz41) rfl ?_
        obtain ⟨r7_1, hr7_1, h⟩ := bind_some h
        refine wl_act (act_callS (cap := []) (W_ledger_Valid (ix a0 s14.2) r7_1 hr7_1) rfl rfl rfl bd23 rfl trivial) rfl rfl rfl ?_
        rintro _ _ _ ⟨_, _, ⟨rfl, rfl, rfl⟩, rfl, rfl⟩
        dsimp only [List.nil_append, List.cons_append]
        refine wl_det rfl rfl (det_not rfl) rfl ?_
        refine wl_nil ?_
        refine pn_then ?_
        refine wc_cond rfl (fun cd27 => ?_) (fun cd27 => ?_)
        · have h := ifT h cd27
          refine wc_seq ?_
          refine wc_region ?_   -- region 8
          refine wl_det rfl rfl (det_assign rfl) rfl ?_
          refine wl_det rfl rfl (det_assign rfl) rfl ?_
          refine wl_nil ?_
          refine pn_then ?_
          refine wc_ret ?_
          refine pr_then ?_
          refine pr_block ?_
          refine pr_then ?_
          refine pr_then ?_
          refine pr_block ?_
          refine pr_then ?_
          refine pn_st (fun _ h => h.zeroS lGEntry 41 none) ?_
          replace h := Option.some.inj h
          subst h
          replace g14 := nextR g14
          subst g14
          have h := (elimL ho14)
          replace h := Option.some.inj h
          subst h
          have h := (elimR ho10)
          replace h := Option.some.inj h
          subst h
          refine pn_ret (vs := [_, _]) rfl ⟨rfl, rfl, trivial⟩ ⟨none, 0, 0, rfl, rfl, rfl⟩ (fun _ h => h.to ⟨_, r0, trivial⟩ trivial)
        · have h := ifF h cd27
          refine wc_skip ?_
          refine pn_then ?_
          refine wc_seq ?_
          refine wc_region ?_   -- region 9
          refine wl_det rfl rfl (det_loadN (cells := [_, _, _, _, _]) rfl m0 (by rfl) ag41 sz41) rfl ?_
          refine wl_act (act_alloc (cs := [_, _, _, _, _]) zr41 rfl) rfl rfl rfl ?_
          rintro _ _ _ ⟨b9_1, rfl, rfl, rfl⟩
          refine wl_act0 (act_store (cells := [_, _, _, _, _]) (cs' := [_, _, _, _, _]) rfl rfl rfl s0 (by rfl) (of_decide_eq_true rfl) sz41 ⟨rfl, rfl, rfl, rfl, rfl, trivial⟩) rfl rfl ?_
          rintro _ _ _ ⟨rfl, rfl⟩
          refine wl_nil ?_
          refine pn_then ?_
          refine wc_seq ?_
          refine wc_region ?_   -- region 10
          refine wl_det rfl rfl (det_field rfl fd41_4 rfl) rfl ?_
          refine wl_act0 (act_store (cells := [_]) (cs' := [_, _, _, _, _]) rfl rfl rfl s0 (by rfl) (of_decide_eq_true rfl) sz3 ⟨rfl, trivial⟩) rfl rfl ?_
          rintro _ _ _ ⟨rfl, rfl⟩
          refine wl_nil ?_
          refine pn_then ?_
          refine dx_regionZ (Z := St C [_, _, _] [_, _]) 8 [[], [], [0, 1], [], [3], [0, 1, 2, 3, 4], [0, 1, 3, 4], [0, 1, 3, 4, 6], [0, 1, 2, 3, 4, 5, 6, 7]] mixed (ord := (.det 0 (.det 1 (.det 2 (.det 3 (.det 4 (.det 5 (.alt 6 (.det 7 .done) .dead)))))))) (by kernel_rfl) (fun _ h => (h.weakM (0 : Int) (ss (ss s0))).to ⟨_, r0, ⟨_, r0, ⟨_, r0, trivial⟩⟩⟩ ⟨m0, ⟨(ms m0), trivial⟩⟩) ?_   -- region 11
          refine hx_det rfl rfl rfl nofun (det_move rfl) rfl ?_
          refine hx_det rfl rfl rfl nofun (det_loadN (cells := [_, _, _, _, _]) rfl m0 (by rfl) ag41 sz41) rfl ?_
          refine hx_det rfl rfl rfl nofun (det_lookupW (k := (GEntry.mk (ix a0 s14.2).Kind (ix a0 s14.2).Treaty (ix a0 s14.2).Party (ix a0 s14.2).Loss 0)) (z := (0 : Int)) (vr := .int .i64 (mget s14.1 (GEntry.mk (ix a0 s14.2).Kind (ix a0 s14.2).Treaty (ix a0 s14.2).Party (ix a0 s14.2).Loss 0) (0 : Int))) rfl rfl rfl (ms (ms m0)) ko41 um87 zr3 rfl) rfl ?_
          refine hx_det rfl rfl rfl nofun (det_field rfl fd41_4 rfl) rfl ?_
          refine hx_det rfl rfl rfl nofun (det_load rfl (ms m0) (by rfl) na3 us3) rfl ?_
          refine hx_det rfl rfl rfl nofun (det_add rfl rfl) rfl ?_
          refine hx_mut rfl rfl rfl (act_mapEntry (k := (GEntry.mk (ix a0 s14.2).Kind (ix a0 s14.2).Treaty (ix a0 s14.2).Party (ix a0 s14.2).Loss 0)) (z := (0 : Int)) rfl rfl rfl (ss (ss s0)) ko41 um87 zr3) rfl (by rintro _ _ _ ⟨n11_6, rfl, rfl, rfl⟩ w hs; exact (hs.weakP (ss (ss s0))).to ⟨_, r0, ⟨_, r0, ⟨_, r0, trivial⟩⟩⟩ ⟨m0, ⟨(ms m0), trivial⟩⟩) ?_
          rintro _ _ _ ⟨n11_6, rfl, rfl, rfl⟩
          refine hx_det rfl rfl rfl nofun (det_extract rfl rfl) rfl ?_
          refine hx_end ?_
          refine wl_act0 (act_entryStore (v := (w64 ((mget s14.1 (GEntry.mk (ix a0 s14.2).Kind (ix a0 s14.2).Treaty (ix a0 s14.2).Party (ix a0 s14.2).Loss 0) (0 : Int)) + (ix a0 s14.2).Amount))) rfl rfl rfl rfl (ss (ss s0))) rfl rfl ?_
          rintro _ _ _ ⟨rfl, rfl⟩
          refine wl_nil ?_
          refine pn_block ?_
          refine pn_then ?_
          refine wc_region ?_   -- region 12
          refine wl_det rfl rfl (det_add rfl rfl) rfl ?_
          refine wl_det rfl rfl (det_move rfl) rfl ?_
          refine wl_nil ?_
          replace h := Option.some.inj h
          subst h
          exact pn_some (k14, ((mset s14.1 (GEntry.mk (ix a0 s14.2).Kind (ix a0 s14.2).Treaty (ix a0 s14.2).Party (ix a0 s14.2).Loss 0) (w64 ((mget s14.1 (GEntry.mk (ix a0 s14.2).Kind (ix a0 s14.2).Treaty (ix a0 s14.2).Party (ix a0 s14.2).Loss 0) (0 : Int)) + (ix a0 s14.2).Amount))), (w64 (s14.2 + 1))), ()) ⟨nextL g14, Nat.lt_succ_self _⟩ ⟨rfl, rfl, rfl, rfl, trivial⟩ (fun _ h => h.to ⟨_, (rs (rs r0)), trivial⟩ ⟨(ms m0), trivial⟩)
      · have h := ifF h cd18
        refine wc_exit ?_
        refine px_then ?_
        refine px_then ?_
        refine px_block ?_
        replace h := Option.some.inj h
        subst h
        replace g14 := nextR g14
        subst g14
        have h := (elimR ho14)
        replace h := Option.some.inj h
        subst h
        exact pn_meetG (s14.1, ()) rfl ⟨rfl, trivial⟩ (fun _ h => h.to ⟨_, r0, trivial⟩ trivial)
    rintro ⟨s10, _⟩ e10
    dsimp only at e10 ⊢
    subst e10
    have h := (elimL ho10)
    refine wc_seq ?_
    refine wc_region ?_   -- region 13
    refine wl_det rfl rfl (det_move rfl) rfl ?_
    refine wl_det rfl rfl (det_lenM rfl m0 um87) rfl ?_
    obtain ⟨k13_2, h⟩ := chk_some h
    obtain ⟨k13_2a, h⟩ := chk_some h
    refine wl_act (act_makeS (L := lGEntry) (x0 := (GEntry.mk 0 0 0 0 0)) rfl rfl un37 in41 (by refine ⟨rfl, fun _ _ => ?_⟩; first | exact rfl | exact ⟨_, _, _, rfl, rfl, Nat.zero_le _, .inl rfl⟩) rfl rfl rfl k13_2 k13_2a) rfl rfl rfl ?_
    rintro _ _ _ ⟨A13_2, c13_2, rfl, rfl, rfl⟩
    refine wl_det rfl rfl (det_assign rfl) rfl ?_
    refine wl_nil ?_
    refine pn_then ?_
    refine wc_seq ?_
    refine wc_seq ?_
    refine wc_region ?_   -- region 14
    refine wl_det rfl rfl (det_move rfl) rfl ?_
    refine wl_st (fun _ h => h.shutM (rs r0)) ?_
    refine wl_act (act_range rfl m0 um87) rfl rfl rfl ?_
    rintro _ _ _ ⟨b14_1, rfl, rfl, rfl⟩
    refine wl_nil ?_
    refine pn_then ?_
    refine wc_block ?_
    have hR42 := rangeP_some.1 h
    refine wc_range (G := Option Addr × Nat × Nat × Option (GEntry × Int) × Unit) (fun (_, _, A42_0, n42_0, c42_0, _, _) => [(8, .slice A42_0 n42_0 c42_0), (39, .pointer (some ⟨b14_1, 0, none⟩))]) (fun (lf42, s42, A42_0, n42_0, c42_0, cu42_3, _) => [eS lGEntry 41 A42_0 n42_0 c42_0 s42, eIt encKGEntry encKI b14_1 cu42_3 lf42]) (fun (_, _, _, _, _, _, _) => []) (s10, (List.replicate (0 : Int).toNat (GEntry.mk 0 0 0 0 0)), A13_2, (List.replicate (0 : Int).toNat (GEntry.mk 0 0 0 0 0)).length, c13_2, none, ()) hR42 ⟨rfl, rfl, trivial⟩ (fun _ h => h.to ⟨_, (rs r0), ⟨_, r0, trivial⟩⟩ trivial) ?_
    rintro ⟨lf42, s42, A42_0, n42_0, c42_0, cu42_3, _⟩ hI42
    dsimp only at hI42 ⊢
    rcases Classical.em (lf42 = []) with hl42 | hl42
    · subst hl42
      have h := elimL hI42.nil
      refine wc_know (fun _ h => h.lenO m0) (fun e => ?_)
      subst e
      refine wc_seq ?_
      refine wc_region ?_   -- region 15
      refine wl_act (act_next0 rfl (ms m0)) rfl rfl rfl ?_
      rintro _ _ _ ⟨rfl, rfl, rfl⟩
      refine wl_det rfl rfl (det_extract rfl rfl) rfl ?_
      refine wl_nil ?_
      refine pn_then ?_
      refine wc_seq ?_
      refine wc_condF rfl ?_
      refine wc_exit ?_
      refine px_then ?_
      refine px_then ?_
      refine px_block ?_
      refine pn_then ?_
      refine wc_seq ?_
      refine wc_region ?_   -- region 22
      refine wl_det rfl rfl (det_move rfl) rfl ?_
      obtain ⟨r22_1, hr22_1, h⟩ := bind_some h
      refine wl_act (act_callS (cap := []) (W_slices_SortFunc_s_api_Entry_api_Entry_o_ledger_compare s42 A42_0 s42.length c42_0 r22_1 hr22_1) rfl rfl rfl bd54 ⟨_, r0, rfl⟩ trivial) rfl rfl rfl ?_
      rintro _ _ _ ⟨_, _, ⟨rfl, rfl, rfl⟩, rfl, rfl⟩
      dsimp only [List.nil_append, List.cons_append]
      refine wl_nil ?_
      refine pn_then ?_
      refine wc_seq ?_
      refine wc_region ?_   -- region 23
      refine wl_det rfl rfl (det_move rfl) rfl ?_
      refine wl_det rfl rfl (det_assign rfl) rfl ?_
      refine wl_det rfl rfl (det_assign rfl) rfl ?_
      refine wl_nil ?_
      refine pn_then ?_
      refine wc_ret ?_
      replace h := Option.some.inj h
      subst h
      refine pn_ret (vs := [_, _]) rfl ⟨rfl, rfl, trivial⟩ ⟨A42_0, s42.length, c42_0, rfl, rfl, rfl⟩ (fun _ h => h.to ⟨_, r0, trivial⟩ trivial)
    · refine wc_know (fun _ h => h.lenO m0) (fun e => ?_)
      subst e
      refine wc_seq ?_
      refine wc_region ?_   -- region 15
      refine wl_act (act_next1 rfl (ss s0) hl42) rfl rfl rfl ?_
      rintro _ _ _ ⟨p42, lg42, hp42, rfl, rfl, rfl⟩
      obtain ⟨q42, h, hN42⟩ := hI42.cons hp42
      unfold ledger_Collect_l42 at h
      refine wl_det rfl rfl (det_extract rfl rfl) rfl ?_
      refine wl_nil ?_
      refine pn_then ?_
      refine wc_seq ?_
      refine wc_condT rfl ?_
      refine wc_skip ?_
      refine pn_then ?_
      refine wc_block ?_
      refine wc_seq ?_
      refine wc_region ?_   -- region 16
      refine wl_det rfl rfl (det_entry (vk := .agg #[.int .i64 p42.1.Kind, .int .i64 p42.1.Treaty, .int .i64 p42.1.Party, .int .i64 p42.1.Loss, .int .i64 p42.1.Amount]) (vv := .int .i64 p42.2) rfl (ms m0) rfl rfl) rfl ?_
      refine wl_det rfl rfl (det_extract rfl rfl) rfl ?_
      refine wl_det rfl rfl (det_extract rfl rfl) rfl ?_
      refine wl_act (act_alloc (cs := [_, _, _, _, _]) zr41 rfl) rfl rfl rfl ?_
      rintro _ _ _ ⟨b16_3, rfl, rfl, rfl⟩
      refine wl_act0 (act_store (cells := [_, _, _, _, _]) (cs' := [_, _, _, _, _]) rfl rfl rfl s0 (by rfl) (of_decide_eq_true rfl) sz41 ⟨rfl, rfl, rfl, rfl, rfl, trivial⟩) rfl rfl ?_
      rintro _ _ _ ⟨rfl, rfl⟩
      refine wl_det rfl rfl (det_assign rfl) rfl ?_
      refine wl_nil ?_
      refine pn_then ?_
      refine wc_seq ?_
      refine wc_seq ?_
      refine wc_region ?_   -- region 17
      refine wl_det rfl rfl (det_move rfl) rfl ?_
      obtain ⟨r17_1, hr17_1, h⟩ := bind_some h
      refine wl_act (act_callS (cap := []) (W_amount_Valid p42.2 r17_1 hr17_1) rfl rfl rfl bd51 rfl trivial) rfl rfl rfl ?_
      rintro _ _ _ ⟨_, _, ⟨rfl, rfl, rfl⟩, rfl, rfl⟩
      dsimp only [List.nil_append, List.cons_append]
      refine wl_det rfl rfl (det_not rfl) rfl ?_
      refine wl_nil ?_
      refine pn_then ?_
      refine wc_cond rfl (fun cd54 => ?_) (fun cd54 => ?_)
      · have h := ifT h cd54
        refine wc_seq ?_
        refine wc_region ?_   -- region 18
        refine wl_det rfl rfl (det_assign rfl) rfl ?_
        refine wl_det rfl rfl (det_assign rfl) rfl ?_
        refine wl_nil ?_
        refine pn_then ?_
        refine wc_ret ?_
        refine pr_then ?_
        refine pr_block ?_
        refine pr_then ?_
        refine pr_block ?_
        refine pr_then ?_
        refine pn_st (fun _ h => h.zeroS lGEntry 41 none) ?_
        replace h := Option.some.inj h
        subst h
        have h := (elimR (rnextR hN42))
        replace h := Option.some.inj h
        subst h
        refine pn_ret (vs := [_, _]) rfl ⟨rfl, rfl, trivial⟩ ⟨none, 0, 0, rfl, rfl, rfl⟩ (fun _ h => h.to ⟨_, r0, trivial⟩ trivial)
      · have h := ifF h cd54
        refine wc_skip ?_
        refine pn_then ?_
        refine wc_seq ?_
        refine wc_region ?_   -- region 19
        refine wl_det rfl rfl (det_move rfl) rfl ?_
        refine wl_det rfl rfl (det_neq rfl rfl) rfl ?_
        refine wl_nil ?_
        refine pn_then ?_
        refine wc_cond rfl (fun cd59 => ?_) (fun cd59 => ?_)
        · have h := ifT h cd59
          refine wc_seq ?_
          refine wc_region ?_   -- region 20
          refine wl_det rfl rfl (det_move rfl) rfl ?_
          refine wl_det rfl rfl (det_field rfl fd41_4 rfl) rfl ?_
          refine wl_act0 (act_store (cells := [_]) (cs' := [_, _, _, _, _]) rfl rfl rfl s0 (by rfl) (of_decide_eq_true rfl) sz3 ⟨rfl, trivial⟩) rfl rfl ?_
          rintro _ _ _ ⟨rfl, rfl⟩
          refine wl_nil ?_
          refine pn_then ?_
          refine wc_region ?_   -- region 21
          refine wl_det rfl rfl (det_move rfl) rfl ?_
          refine wl_det rfl rfl (det_loadN (cells := [_, _, _, _, _]) rfl m0 (by rfl) ag41 sz41) rfl ?_
          refine wl_act (act_litS lGEntry (vs := [_]) (cs := [_, _, _, _, _]) [(GEntry.mk p42.1.Kind p42.1.Treaty p42.1.Party p42.1.Loss p42.2)] un37 in41 rfl rfl rfl rfl rfl ⟨rfl, trivial⟩ (by rfl) rfl (litR_flat rfl)) rfl rfl rfl ?_
          rintro _ _ _ ⟨A21_2, rfl, rfl, rfl⟩
          obtain ⟨k21_3, h⟩ := chk_some h
          refine wl_act (act_appendS (L := lGEntry) rfl rfl (ss (ss s0)) (src_O m0) un37 in41 rfl rfl rfl k21_3) rfl rfl rfl ?_
          rintro _ _ _ ⟨A21_3, c21_3, rfl, rfl, rfl⟩
          refine wl_det rfl rfl (det_assign rfl) rfl ?_
          refine wl_nil ?_
          refine pn_block ?_
          replace h := Option.some.inj h
          subst h
          exact pn_some (lg42, (s42 ++ [(GEntry.mk p42.1.Kind p42.1.Treaty p42.1.Party p42.1.Loss p42.2)]), A21_3, (s42 ++ [(GEntry.mk p42.1.Kind p42.1.Treaty p42.1.Party p42.1.Loss p42.2)]).length, c21_3, (some p42), ()) ⟨rnextL hN42, perm_lt hp42⟩ ⟨rfl, rfl, trivial⟩ (fun _ h => h.to ⟨_, (rs (rs r0)), ⟨_, (rs (rs r0)), trivial⟩⟩ trivial)
        · have h := ifF h cd59
          refine wc_skip ?_
          refine pn_block ?_
          replace h := Option.some.inj h
          subst h
          exact pn_some (lg42, s42, A42_0, s42.length, c42_0, (some p42), ()) ⟨rnextL hN42, perm_lt hp42⟩ ⟨rfl, rfl, trivial⟩ (fun _ h => h.to ⟨_, (rs r0), ⟨_, (rs r0), trivial⟩⟩ trivial)
def Q_ledger_Totals (r : (List GEntry) × Int) : Value → List Ent → List Fact → Prop := fun v θ κ => ∃ (pA0 : Option Addr), ∃ (pn0 : Nat), ∃ (pc0 : Nat), v = .tuple #[.slice pA0 pn0 pc0, .int .i64 r.2] ∧ θ = [eS lGEntry 41 pA0 pn0 pc0 r.1] ∧ κ = []
theorem plains_ledger_Totals {r : (List GEntry) × Int} : ∀ v θ κ, Q_ledger_Totals r v θ κ → Plains θ := by
  rintro _ _ _ ⟨_, _, _, rfl, rfl, rfl⟩
  exact ⟨plain_eS, trivial⟩
set_option maxHeartbeats 4000000 in
set_option maxRecDepth 100000 in
theorem W_ledger_Totals (a0 : GLedger) (a1 : Int) (A0 : Option Addr) (n0 : Nat) (c0 : Nat) (r : (List GEntry) × Int) (h : ledger_Totals a0 a1 = some r) : Spec Try.prog 18 [.agg #[.int .i64 a0.Closed, .slice A0 n0 c0], .int .i64 a1] [] [fV (lSlice lGPosting) (.slice A0 n0 c0) a0.Postings] (Q_ledger_Totals r) := by
  unfold ledger_Totals at h
  refine spec_of (σ := [(0, _), (1, _)]) Try.func18 rfl rfl rfl rfl ?_
  intro C
  refine wc_know (fun _ h => h.lenF m0) (fun e => ?_)
  subst e
  refine wc_seq ?_
  refine wc_region ?_   -- region 0
  refine wl_act (act_box (cs := [_, _]) rfl rfl) rfl rfl rfl ?_
  rintro _ _ _ ⟨b0_0, rfl, rfl, rfl⟩
  refine wl_det rfl rfl (det_assign rfl) rfl ?_
  refine wl_det rfl rfl (det_assign rfl) rfl ?_
  refine wl_nil ?_
  refine pn_then ?_
  refine wc_seq ?_
  refine wc_seq ?_
  refine wc_region ?_   -- region 1
  refine wl_det rfl rfl (det_loadN (cells := [_, _]) rfl m0 (by rfl) ag25 sz25) rfl ?_
  obtain ⟨r1_1, hr1_1, h⟩ := bind_some h
  refine wl_act (act_callS (cap := []) (W_ledger_Validate a0 A0 a0.Postings.length c0 r1_1 hr1_1) rfl rfl rfl bd16 rfl ⟨m0, trivial⟩) rfl rfl rfl ?_
  rintro _ _ _ ⟨_, _, ⟨rfl, rfl, rfl⟩, rfl, rfl⟩
  dsimp only [List.nil_append, List.cons_append]
  refine wl_det rfl rfl (det_assign rfl) rfl ?_
  refine wl_nil ?_
  refine pn_then ?_
  refine wc_seq ?_
  refine wc_region ?_   -- region 2
  refine wl_det rfl rfl (det_move rfl) rfl ?_
  refine wl_det rfl rfl (det_neq rfl rfl) rfl ?_
  refine wl_nil ?_
  refine pn_then ?_
  refine wc_cond rfl (fun cd7 => ?_) (fun cd7 => ?_)
  · have h := ifT h cd7
    refine wc_seq ?_
    refine wc_region ?_   -- region 3
    refine wl_det rfl rfl (det_move rfl) rfl ?_
    refine wl_det rfl rfl (det_assign rfl) rfl ?_
    refine wl_det rfl rfl (det_assign rfl) rfl ?_
    refine wl_nil ?_
    refine pn_then ?_
    refine wc_ret ?_
    refine pr_then ?_
    refine pn_st (fun _ h => h.zeroS lGEntry 41 none) ?_
    replace h := Option.some.inj h
    subst h
    refine pn_ret (vs := [_, _]) rfl ⟨rfl, rfl, trivial⟩ ⟨none, 0, 0, rfl, rfl, rfl⟩ (fun _ h => h.to ⟨_, r0, trivial⟩ trivial)
  · have h := ifF h cd7
    refine wc_skip ?_
    refine pn_then ?_
    refine wc_seq ?_
    refine wc_seq ?_
    refine wc_region ?_   -- region 4
    refine wl_det rfl rfl (det_move rfl) rfl ?_
    refine wl_det rfl rfl (det_lss rfl rfl) rfl ?_
    refine wl_det rfl rfl (det_move rfl) rfl ?_
    refine wl_way (decide (a1 < 0)) ((decide (a1 < 0)) || (decide ((w64 (a0.Closed + 1)) < a1))) 6 23 (fun hg => ?_) (fun hg => ?_) ?_
    · have hg4_8 := hg
      refine wl_off rfl rfl rfl rfl rfl hg4_8 rfl ?_
      refine wl_off rfl rfl rfl rfl rfl hg4_8 rfl ?_
      refine wl_off rfl rfl rfl rfl rfl hg4_8 rfl ?_
      refine wl_off rfl rfl rfl rfl rfl hg4_8 rfl ?_
      refine wl_off rfl rfl rfl rfl rfl hg4_8 rfl ?_
      refine wl_det rfl rfl (det_or_on (r := (decide ((w64 (a0.Closed + 1)) < a1))) rfl rfl rfl hg4_8) rfl ?_
      exact wl_nil (pn_qnE (ext_cons rfl (ext_skip rfl (ext_skip rfl (ext_skip rfl (ext_skip rfl (ext_skip rfl (ext_skip rfl ext_refl))))))) (fun _ h => h))
    · have hg4_8a := hg
      refine wl_on rfl rfl rfl rfl hg4_8a ?_
      refine wl_det rfl rfl (det_move rfl) rfl ?_
      refine wl_on rfl rfl rfl rfl hg4_8a ?_
      refine wl_det rfl rfl (det_field rfl fd25_0 rfl) rfl ?_
      refine wl_on rfl rfl rfl rfl hg4_8a ?_
      refine wl_det rfl rfl (det_load rfl m0 (by rfl) na3 us3) rfl ?_
      refine wl_on rfl rfl rfl rfl hg4_8a ?_
      refine wl_det rfl rfl (det_add rfl rfl) rfl ?_
      refine wl_on rfl rfl rfl rfl hg4_8a ?_
      refine wl_det rfl rfl (det_gtr rfl rfl) rfl ?_
      refine wl_det rfl rfl (det_or_off rfl rfl rfl hg4_8a) rfl ?_
      exact wl_nil (pn_qnE (ext_cons rfl (ext_skip rfl (ext_skip rfl (ext_skip rfl (ext_skip rfl (ext_skip rfl (ext_skip rfl ext_refl))))))) (fun _ h => h))
    refine wl_nil ?_
    refine pn_then ?_
    refine wc_cond rfl (fun cd13 => ?_) (fun cd13 => ?_)
    · have h := ifT h cd13
      refine wc_seq ?_
      refine wc_region ?_   -- region 5
      refine wl_det rfl rfl (det_assign rfl) rfl ?_
      refine wl_det rfl rfl (det_assign rfl) rfl ?_
      refine wl_nil ?_
      refine pn_then ?_
      refine wc_ret ?_
      refine pr_then ?_
      refine pn_st (fun _ h => h.zeroS lGEntry 41 none) ?_
      replace h := Option.some.inj h
      subst h
      refine pn_ret (vs := [_, _]) rfl ⟨rfl, rfl, trivial⟩ ⟨none, 0, 0, rfl, rfl, rfl⟩ (fun _ h => h.to ⟨_, r0, trivial⟩ trivial)
    · have h := ifF h cd13
      refine wc_skip ?_
      refine pn_then ?_
      refine wc_seq ?_
      refine wc_region ?_   -- region 6
      refine wl_det rfl rfl (det_assign rfl) rfl ?_
      refine wl_nil ?_
      refine pn_then ?_
      obtain ⟨q18, h, ho18⟩ := bind_some h
      refine wc_meetG (G := (List GEntry) × Option Addr × Nat × Nat × Unit) (fun (s18, _, _, _, _) => s18 = q18) (fun (_, A18_0, n18_0, c18_0, _) => [(7, .slice A18_0 n18_0 c18_0)]) (fun (s18, A18_0, n18_0, c18_0, _) => [eS lGEntry 41 A18_0 n18_0 c18_0 s18]) (fun (_, _, _, _, _) => []) ?_ ?_
      · refine wc_seq ?_
        refine wc_region ?_   -- region 7
        refine wl_det rfl rfl (det_field rfl fd25_1 rfl) rfl ?_
        refine wl_det rfl rfl (det_load rfl m0 (by rfl) na23 us23) rfl ?_
        refine wl_det rfl rfl (det_len rfl un23) rfl ?_
        refine wl_det rfl rfl (det_move rfl) rfl ?_
        refine wl_nil ?_
        refine pn_then ?_
        refine wc_block ?_
        refine wc_st (fun _ h => h.zeroS lGEntry 41 none) ?_
        obtain ⟨k22, hk22⟩ := loopV_some.1 h
        refine wc_loop (G := Nat × ((List GEntry) × Int) × Option Addr × Nat × Nat × Unit) (fun g => IterN (ledger_Totals_l22 a0 a1) g.1 g.2.1 q18) (fun g => g.1) (fun (_, s22, A22_0, n22_0, c22_0, _) => [(1, .int .i64 a1), (7, .slice A22_0 n22_0 c22_0), (25, .slice A0 a0.Postings.length c0), (26, .int .i64 (a0.Postings.length : Int)), (27, .int .i64 s22.2)]) (fun (_, s22, A22_0, n22_0, c22_0, _) => [eS lGEntry 41 A22_0 n22_0 c22_0 s22.1]) (fun (_, _, _, _, _, _) => [fV (lSlice lGPosting) (.slice A0 a0.Postings.length c0) a0.Postings]) (k22, ([], 0), none, 0, 0, ()) hk22 ⟨rfl, rfl, rfl, rfl, rfl, trivial⟩ (fun _ h => h.to ⟨_, r0, trivial⟩ ⟨m0, trivial⟩) ?_
        rintro ⟨k22, s22, A22_0, n22_0, c22_0, _⟩ hI
        obtain ⟨k22, rfl, q22, h, g22⟩ := IterN.pos hI
        dsimp only at h ⊢
        unfold ledger_Totals_l22 at h
        refine wc_know (fun _ h => h.lenO m0) (fun e => ?_)
        subst e
        refine wc_seq ?_
        refine wc_region ?_   -- region 8
        refine wl_det rfl rfl (det_lss rfl rfl) rfl ?_
        refine wl_nil ?_
        refine pn_then ?_
        refine wc_seq ?_
        refine wc_cond rfl (fun cd26 => ?_) (fun cd26 => ?_)
        · have h := ifT h cd26
          refine wc_skip ?_
          refine pn_then ?_
          obtain ⟨q28, h, ho28⟩ := bind_some h
          refine wc_meetG (G := (List GEntry) × Option Addr × Nat × Nat × Unit) (fun (s28, _, _, _, _) => s28 = q28) (fun (_, A28_0, n28_0, c28_0, _) => [(1, .int .i64 a1), (7, .slice A28_0 n28_0 c28_0), (25, .slice A0 a0.Postings.length c0), (26, .int .i64 (a0.Postings.length : Int)), (27, .int .i64 s22.2)]) (fun (s28, A28_0, n28_0, c28_0, _) => [eS lGEntry 41 A28_0 n28_0 c28_0 s28]) (fun (_, _, _, _, _) => [fV (lSlice lGPosting) (.slice A0 a0.Postings.length c0) a0.Postings]) ?_ ?_
          · refine wc_block ?_
            refine wc_seq ?_
            refine wc_region ?_   -- region 9
            obtain ⟨k9_0, h⟩ := chk_some h
            refine wl_st (fun _ h => h.openF m0 k9_0) ?_
            refine wl_det rfl rfl (det_indexP rfl rfl (ms m0) k9_0 m0 un23 sz73) rfl ?_
            refine wl_det rfl rfl (det_loadP (off := 0) rfl m0 (by rfl) (by rfl) (loaded_n (cells := [_, _, _, _, _, _, _]) ag73 sz73)) rfl ?_
            refine wl_act (act_alloc (cs := [_, _, _, _, _, _, _]) zr73 rfl) rfl rfl rfl ?_
            rintro _ _ _ ⟨b9_2, rfl, rfl, rfl⟩
            refine wl_act0 (act_store (cells := [_, _, _, _, _, _, _]) (cs' := [_, _, _, _, _, _, _]) rfl rfl rfl s0 (by rfl) (of_decide_eq_true rfl) sz73 ⟨rfl, rfl, rfl, rfl, rfl, rfl, rfl, trivial⟩) rfl rfl ?_
            rintro _ _ _ ⟨rfl, rfl⟩
            refine wl_nil ?_
            refine pn_then ?_
            refine wc_seq ?_
            refine wc_region ?_   -- region 10
            refine wl_det rfl rfl (det_field rfl fd73_1 rfl) rfl ?_
            refine wl_det rfl rfl (det_load rfl m0 (by rfl) na3 us3) rfl ?_
            refine wl_det rfl rfl (det_move rfl) rfl ?_
            refine wl_det rfl rfl (det_lss rfl rfl) rfl ?_
            refine wl_nil ?_
            refine pn_then ?_
            refine wc_cond rfl (fun cd34 => ?_) (fun cd34 => ?_)
            · have h := ifT h cd34
              refine wc_region ?_   -- region 11
              refine wl_det rfl rfl (det_move rfl) rfl ?_
              refine wl_det rfl rfl (det_field rfl fd73_2 rfl) rfl ?_
              refine wl_det rfl rfl (det_loadN (cells := [_, _, _, _, _]) rfl m0 (by rfl) ag41 sz41) rfl ?_
              refine wl_act (act_litS lGEntry (vs := [_]) (cs := [_, _, _, _, _]) [(ix a0.Postings s22.2).Entry] un37 in41 rfl rfl rfl rfl rfl ⟨rfl, trivial⟩ (by rfl) rfl (litR_flat rfl)) rfl rfl rfl ?_
              rintro _ _ _ ⟨A11_3, rfl, rfl, rfl⟩
              obtain ⟨k11_4, h⟩ := chk_some h
              refine wl_act (act_appendS (L := lGEntry) rfl rfl (ss (ss s0)) (src_O m0) un37 in41 rfl rfl rfl k11_4) rfl rfl rfl ?_
              rintro _ _ _ ⟨A11_4, c11_4, rfl, rfl, rfl⟩
              refine wl_det rfl rfl (det_assign rfl) rfl ?_
              refine wl_nil ?_
              refine pn_block ?_
              replace h := Option.some.inj h
              subst h
              exact pn_meetG ((s22.1 ++ [(ix a0.Postings s22.2).Entry]), A11_4, (s22.1 ++ [(ix a0.Postings s22.2).Entry]).length, c11_4, ()) rfl ⟨rfl, rfl, rfl, rfl, rfl, trivial⟩ (fun _ h => h.to ⟨_, (rs (rs r0)), trivial⟩ ⟨(ms m0), trivial⟩)
            · have h := ifF h cd34
              refine wc_skip ?_
              refine pn_block ?_
              replace h := Option.some.inj h
              subst h
              exact pn_meetG (s22.1, A22_0, s22.1.length, c22_0, ()) rfl ⟨rfl, rfl, rfl, rfl, rfl, trivial⟩ (fun _ h => h.to ⟨_, (rs r0), trivial⟩ ⟨(ms m0), trivial⟩)
          rintro ⟨s28, A28_0, n28_0, c28_0, _⟩ e28
          dsimp only at e28 ⊢
          subst e28
          have h := ho28
          refine wc_know (fun _ h => h.lenO m0) (fun e => ?_)
          subst e
          refine wc_region ?_   -- region 12
          refine wl_det rfl rfl (det_add rfl rfl) rfl ?_
          refine wl_det rfl rfl (det_move rfl) rfl ?_
          refine wl_nil ?_
          replace h := Option.some.inj h
          subst h
          exact pn_some (k22, (s28, (w64 (s22.2 + 1))), A28_0, s28.length, c28_0, ()) ⟨nextL g22, Nat.lt_succ_self _⟩ ⟨rfl, rfl, rfl, rfl, rfl, trivial⟩ (fun _ h => h.to ⟨_, r0, trivial⟩ ⟨m0, trivial⟩)
        · have h := ifF h cd26
          refine wc_exit ?_
          refine px_then ?_
          refine px_then ?_
          refine px_block ?_
          replace h := Option.some.inj h
          subst h
          replace g22 := nextR g22
          subst g22
          exact pn_meetG (s22.1, A22_0, s22.1.length, c22_0, ()) rfl ⟨rfl, trivial⟩ (fun _ h => h.to ⟨_, r0, trivial⟩ trivial)
      rintro ⟨s18, A18_0, n18_0, c18_0, _⟩ e18
      dsimp only at e18 ⊢
      subst e18
      have h := ho18
      refine wc_know (fun _ h => h.lenO m0) (fun e => ?_)
      subst e
      refine wc_seq ?_
      refine wc_region ?_   -- region 13
      refine wl_det rfl rfl (det_move rfl) rfl ?_
      obtain ⟨r13_1, hr13_1, h⟩ := bind_some h
      refine wl_act (act_callL (cap := []) [eS lGEntry 41 A18_0 s18.length c18_0 s18] (W_ledger_Collect s18 A18_0 s18.length c18_0 r13_1 hr13_1) plains_ledger_Collect rfl rfl rfl bd26 rfl ⟨m0, trivial⟩ ⟨.inr ⟨_, m0, lent_eS⟩, trivial⟩) rfl rfl rfl ?_
      rintro _ _ _ ⟨_, _, ⟨y13_1A0, y13_1n0, y13_1c0, rfl, rfl, rfl⟩, rfl, rfl⟩
      dsimp only [List.nil_append, List.cons_append]
      refine wl_know (fun _ h => h.lenO m0) (fun e => ?_)
      subst e
      refine wl_det rfl rfl (det_extract rfl rfl) rfl ?_
      refine wl_det rfl rfl (det_extract rfl rfl) rfl ?_
      refine wl_det rfl rfl (det_assign rfl) rfl ?_
      refine wl_det rfl rfl (det_assign rfl) rfl ?_
      refine wl_nil ?_
      refine pn_then ?_
      refine wc_ret ?_
      replace h := Option.some.inj h
      subst h
      refine pn_ret (vs := [_, _]) rfl ⟨rfl, rfl, trivial⟩ ⟨y13_1A0, r13_1.1.length, y13_1c0, rfl, rfl, rfl⟩ (fun _ h => h.to ⟨_, r0, trivial⟩ trivial)
def Q_account_Statement_c1_c1 (Ba1 : Nat) (Ba2 : Nat) (Ba3 : Nat) (a1 : Int) (a2 : Int) (a3 : Int) (r : Bool) : Value → List Ent → List Fact → Prop := fun v θ κ => v = .bool r ∧ θ = [eBlk Ba1 3 [.int .i64 a1], eBlk Ba2 3 [.int .i64 a2], eBlk Ba3 3 [.int .i64 a3]] ∧ κ = []
theorem plains_account_Statement_c1_c1 {Ba1 : Nat} {Ba2 : Nat} {Ba3 : Nat} {a1 : Int} {a2 : Int} {a3 : Int} {r : Bool} : ∀ v θ κ, Q_account_Statement_c1_c1 Ba1 Ba2 Ba3 a1 a2 a3 r v θ κ → Plains θ := by
  rintro _ _ _ ⟨rfl, rfl, rfl⟩
  exact ⟨plain_eBlk, plain_eBlk, plain_eBlk, trivial⟩
set_option maxHeartbeats 4000000 in
set_option maxRecDepth 100000 in
theorem W_account_Statement_c1_c1 (a0 : GPosting) (a1 : Int) (a2 : Int) (a3 : Int) (Ba1 : Nat) (Ba2 : Nat) (Ba3 : Nat) (r : Bool) (h : account_Statement_c1_c1 a0 a1 a2 a3 = some r) : Spec Try.prog 66 [.agg #[.int .i64 a0.Number, .int .i64 a0.Period, .int .i64 a0.Entry.Kind, .int .i64 a0.Entry.Treaty, .int .i64 a0.Entry.Party, .int .i64 a0.Entry.Loss, .int .i64 a0.Entry.Amount], .pointer (some ⟨Ba1, 0, none⟩), .pointer (some ⟨Ba2, 0, none⟩), .pointer (some ⟨Ba3, 0, none⟩)] [eBlk Ba1 3 [.int .i64 a1], eBlk Ba2 3 [.int .i64 a2], eBlk Ba3 3 [.int .i64 a3]] [] (Q_account_Statement_c1_c1 Ba1 Ba2 Ba3 a1 a2 a3 r) := by
  unfold account_Statement_c1_c1 at h
  refine spec_of (σ := [(0, _), (1, _), (2, _), (3, _)]) Try.func66 rfl rfl rfl rfl ?_
  intro C
  refine wc_seq ?_
  refine wc_region ?_   -- region 0
  refine wl_act (act_box (cs := [_, _, _, _, _, _, _]) rfl rfl) rfl rfl rfl ?_
  rintro _ _ _ ⟨b0_0, rfl, rfl, rfl⟩
  refine wl_det rfl rfl (det_assign rfl) rfl ?_
  refine wl_nil ?_
  refine pn_then ?_
  refine wc_seq ?_
  refine wc_region ?_   -- region 1
  refine wl_det rfl rfl (det_field rfl fd73_2 rfl) rfl ?_
  refine wl_det rfl rfl (det_field rfl fd41_1 rfl) rfl ?_
  refine wl_det rfl rfl (det_load rfl m0 (by rfl) na3 us3) rfl ?_
  refine wl_det rfl rfl (det_load rfl (ms m0) (by rfl) na3 us3) rfl ?_
  refine wl_det rfl rfl (det_eql rfl rfl) rfl ?_
  refine wl_det rfl rfl (det_move rfl) rfl ?_
  refine wl_way (decide (a0.Entry.Treaty = a1)) ((decide (a0.Entry.Treaty = a1)) && (decide (a0.Entry.Party = a2))) 6 17 (fun hg => ?_) (fun hg => ?_) ?_
  · have hg1_11 := hg
    refine wl_on rfl rfl rfl rfl hg1_11 ?_
    refine wl_det rfl rfl (det_field rfl fd73_2 rfl) rfl ?_
    refine wl_on rfl rfl rfl rfl hg1_11 ?_
    refine wl_det rfl rfl (det_field rfl fd41_2 rfl) rfl ?_
    refine wl_on rfl rfl rfl rfl hg1_11 ?_
    refine wl_det rfl rfl (det_load rfl m0 (by rfl) na3 us3) rfl ?_
    refine wl_on rfl rfl rfl rfl hg1_11 ?_
    refine wl_det rfl rfl (det_load rfl (ms (ms m0)) (by rfl) na3 us3) rfl ?_
    refine wl_on rfl rfl rfl rfl hg1_11 ?_
    refine wl_det rfl rfl (det_eql rfl rfl) rfl ?_
    refine wl_det rfl rfl (det_and_on rfl rfl rfl hg1_11) rfl ?_
    exact wl_nil (pn_qnE (ext_cons rfl (ext_skip rfl (ext_skip rfl (ext_skip rfl (ext_skip rfl (ext_skip rfl (ext_skip rfl ext_refl))))))) (fun _ h => h))
  · have hg1_11a := hg
    refine wl_off rfl rfl rfl rfl rfl hg1_11a rfl ?_
    refine wl_off rfl rfl rfl rfl rfl hg1_11a rfl ?_
    refine wl_off rfl rfl rfl rfl rfl hg1_11a rfl ?_
    refine wl_off rfl rfl rfl rfl rfl hg1_11a rfl ?_
    refine wl_off rfl rfl rfl rfl rfl hg1_11a rfl ?_
    refine wl_det rfl rfl (det_and_off (q := (decide (a0.Entry.Party = a2))) rfl rfl rfl hg1_11a) rfl ?_
    exact wl_nil (pn_qnE (ext_cons rfl (ext_skip rfl (ext_skip rfl (ext_skip rfl (ext_skip rfl (ext_skip rfl (ext_skip rfl ext_refl))))))) (fun _ h => h))
  refine wl_det rfl rfl (det_move rfl) rfl ?_
  refine wl_way ((decide (a0.Entry.Treaty = a1)) && (decide (a0.Entry.Party = a2))) (((decide (a0.Entry.Treaty = a1)) && (decide (a0.Entry.Party = a2))) && (decide (a0.Period < a3))) 5 23 (fun hg => ?_) (fun hg => ?_) ?_
  · have hg1_17 := hg
    refine wl_on rfl rfl rfl rfl hg1_17 ?_
    refine wl_det rfl rfl (det_field rfl fd73_1 rfl) rfl ?_
    refine wl_on rfl rfl rfl rfl hg1_17 ?_
    refine wl_det rfl rfl (det_load rfl m0 (by rfl) na3 us3) rfl ?_
    refine wl_on rfl rfl rfl rfl hg1_17 ?_
    refine wl_det rfl rfl (det_load rfl (ms (ms (ms m0))) (by rfl) na3 us3) rfl ?_
    refine wl_on rfl rfl rfl rfl hg1_17 ?_
    refine wl_det rfl rfl (det_lss rfl rfl) rfl ?_
    refine wl_det rfl rfl (det_and_on rfl rfl rfl hg1_17) rfl ?_
    exact wl_nil (pn_qnE (ext_cons rfl (ext_skip rfl (ext_skip rfl (ext_skip rfl (ext_skip rfl (ext_skip rfl ext_refl)))))) (fun _ h => h))
  · have hg1_17a := hg
    refine wl_off rfl rfl rfl rfl rfl hg1_17a rfl ?_
    refine wl_off rfl rfl rfl rfl rfl hg1_17a rfl ?_
    refine wl_off rfl rfl rfl rfl rfl hg1_17a rfl ?_
    refine wl_off rfl rfl rfl rfl rfl hg1_17a rfl ?_
    refine wl_det rfl rfl (det_and_off (q := (decide (a0.Period < a3))) rfl rfl rfl hg1_17a) rfl ?_
    exact wl_nil (pn_qnE (ext_cons rfl (ext_skip rfl (ext_skip rfl (ext_skip rfl (ext_skip rfl (ext_skip rfl ext_refl)))))) (fun _ h => h))
  refine wl_det rfl rfl (det_assign rfl) rfl ?_
  refine wl_nil ?_
  refine pn_then ?_
  refine wc_ret ?_
  replace h := Option.some.inj h
  subst h
  refine pn_ret (vs := [_]) rfl ⟨rfl, trivial⟩ ⟨rfl, rfl, rfl⟩ (fun _ h => h.to ⟨_, (rs r0), ⟨_, (rs r0), ⟨_, (rs r0), trivial⟩⟩⟩ trivial)
def Q_account_sum_account_Statement_c1_c1 (Ba1_0 : Nat) (Ba1_1 : Nat) (Ba1_2 : Nat) (a1_0 : Int) (a1_1 : Int) (a1_2 : Int) (r : GBalance × Int) : Value → List Ent → List Fact → Prop := fun v θ κ => v = .tuple #[.agg #[.int .i64 r.1.Due, .int .i64 r.1.Reserve], .int .i64 r.2] ∧ θ = [eBlk Ba1_0 3 [.int .i64 a1_0], eBlk Ba1_1 3 [.int .i64 a1_1], eBlk Ba1_2 3 [.int .i64 a1_2]] ∧ κ = []
theorem plains_account_sum_account_Statement_c1_c1 {Ba1_0 : Nat} {Ba1_1 : Nat} {Ba1_2 : Nat} {a1_0 : Int} {a1_1 : Int} {a1_2 : Int} {r : GBalance × Int} : ∀ v θ κ, Q_account_sum_account_Statement_c1_c1 Ba1_0 Ba1_1 Ba1_2 a1_0 a1_1 a1_2 r v θ κ → Plains θ := by
  rintro _ _ _ ⟨rfl, rfl, rfl⟩
  exact ⟨plain_eBlk, plain_eBlk, plain_eBlk, trivial⟩
set_option maxHeartbeats 4000000 in
set_option maxRecDepth 100000 in
theorem W_account_sum_account_Statement_c1_c1 (a0 : GLedger) (a1_0 : Int) (a1_1 : Int) (a1_2 : Int) (A0 : Option Addr) (n0 : Nat) (c0 : Nat) (Ba1_0 : Nat) (Ba1_1 : Nat) (Ba1_2 : Nat) (r : GBalance × Int) (h : account_sum_account_Statement_c1_c1 a0 a1_0 a1_1 a1_2 = some r) : Spec Try.prog 47 [.agg #[.int .i64 a0.Closed, .slice A0 n0 c0], .func (.func 66) #[] #[.pointer (some ⟨Ba1_0, 0, none⟩), .pointer (some ⟨Ba1_1, 0, none⟩), .pointer (some ⟨Ba1_2, 0, none⟩)]] [eBlk Ba1_0 3 [.int .i64 a1_0], eBlk Ba1_1 3 [.int .i64 a1_1], eBlk Ba1_2 3 [.int .i64 a1_2]] [fV (lSlice lGPosting) (.slice A0 n0 c0) a0.Postings] (Q_account_sum_account_Statement_c1_c1 Ba1_0 Ba1_1 Ba1_2 a1_0 a1_1 a1_2 r) := by
  unfold account_sum_account_Statement_c1_c1 at h
  refine spec_of (σ := [(0, _), (1, _)]) Try.func47 rfl rfl rfl rfl ?_
  intro C
  refine wc_know (fun _ h => h.lenF m0) (fun e => ?_)
  subst e
  refine wc_seq ?_
  refine wc_region ?_   -- region 0
  refine wl_act (act_box (cs := [_, _]) rfl rfl) rfl rfl rfl ?_
  rintro _ _ _ ⟨b0_0, rfl, rfl, rfl⟩
  refine wl_act (act_alloc (cs := [_, _]) zr30 rfl) rfl rfl rfl ?_
  rintro _ _ _ ⟨b0_1, rfl, rfl, rfl⟩
  refine wl_det rfl rfl (det_assign rfl) rfl ?_
  refine wl_nil ?_
  refine pn_then ?_
  refine wc_seq ?_
  refine wc_region ?_   -- region 1
  refine wl_act (act_alloc (cs := [_, _]) zr30 rfl) rfl rfl rfl ?_
  rintro _ _ _ ⟨b1_0, rfl, rfl, rfl⟩
  refine wl_nil ?_
  refine pn_then ?_
  obtain ⟨q4, h, ho4⟩ := bind_some h
  refine wc_meetG (G := (Int × Int) × Unit) (fun (s4, _) => s4 = q4) (fun (_, _) => [(4, .pointer (some ⟨b0_1, 0, none⟩)), (6, .pointer (some ⟨b1_0, 0, none⟩))]) (fun (s4, _) => [eBlk Ba1_2 3 [.int .i64 a1_2], eBlk Ba1_1 3 [.int .i64 a1_1], eBlk Ba1_0 3 [.int .i64 a1_0], eBlk b0_1 30 [.int .i64 0, .int .i64 0], eBlk b1_0 30 [.int .i64 s4.1, .int .i64 s4.2]]) (fun (_, _) => []) ?_ ?_
  · refine wc_seq ?_
    refine wc_region ?_   -- region 2
    refine wl_det rfl rfl (det_field rfl fd25_1 rfl) rfl ?_
    refine wl_det rfl rfl (det_load rfl (ms (ms m0)) (by rfl) na23 us23) rfl ?_
    refine wl_det rfl rfl (det_len rfl un23) rfl ?_
    refine wl_det rfl rfl (det_move rfl) rfl ?_
    refine wl_nil ?_
    refine pn_then ?_
    refine wc_block ?_
    obtain ⟨k8, hk8⟩ := loopV_some.1 h
    refine wc_loop (G := Nat × (Int × Int × Int) × Unit) (fun g => IterN (account_sum_account_Statement_c1_c1_l8 a0 a1_0 a1_1 a1_2) g.1 g.2.1 q4) (fun g => g.1) (fun (_, s8, _) => [(1, .func (.func 66) #[] #[.pointer (some ⟨Ba1_0, 0, none⟩), .pointer (some ⟨Ba1_1, 0, none⟩), .pointer (some ⟨Ba1_2, 0, none⟩)]), (4, .pointer (some ⟨b0_1, 0, none⟩)), (6, .pointer (some ⟨b1_0, 0, none⟩)), (10, .slice A0 a0.Postings.length c0), (11, .int .i64 (a0.Postings.length : Int)), (12, .int .i64 s8.2.2)]) (fun (_, s8, _) => [eBlk Ba1_2 3 [.int .i64 a1_2], eBlk Ba1_1 3 [.int .i64 a1_1], eBlk Ba1_0 3 [.int .i64 a1_0], eBlk b0_1 30 [.int .i64 0, .int .i64 0], eBlk b1_0 30 [.int .i64 s8.1, .int .i64 s8.2.1]]) (fun (_, _, _) => [fV (lSlice lGPosting) (.slice A0 a0.Postings.length c0) a0.Postings]) (k8, (0, 0, 0), ()) hk8 ⟨rfl, rfl, rfl, rfl, rfl, rfl, trivial⟩ (fun _ h => h.to ⟨_, (rs (rs (rs (rs (rs r0))))), ⟨_, (rs (rs (rs (rs r0)))), ⟨_, (rs (rs (rs r0))), ⟨_, (rs r0), ⟨_, r0, trivial⟩⟩⟩⟩⟩ ⟨m0, trivial⟩) ?_
    rintro ⟨k8, s8, _⟩ hI
    obtain ⟨k8, rfl, q8, h, g8⟩ := IterN.pos hI
    dsimp only at h ⊢
    unfold account_sum_account_Statement_c1_c1_l8 at h
    refine wc_seq ?_
    refine wc_region ?_   -- region 3
    refine wl_det rfl rfl (det_lss rfl rfl) rfl ?_
    refine wl_nil ?_
    refine pn_then ?_
    refine wc_seq ?_
    refine wc_cond rfl (fun cd12 => ?_) (fun cd12 => ?_)
    · have h := ifT h cd12
      refine wc_skip ?_
      refine pn_then ?_
      obtain ⟨q14, h, ho14⟩ := bind_some h
      refine wc_meetG (G := (Int × Int) × Unit) (fun (s14, _) => s14 = q14) (fun (_, _) => [(1, .func (.func 66) #[] #[.pointer (some ⟨Ba1_0, 0, none⟩), .pointer (some ⟨Ba1_1, 0, none⟩), .pointer (some ⟨Ba1_2, 0, none⟩)]), (4, .pointer (some ⟨b0_1, 0, none⟩)), (6, .pointer (some ⟨b1_0, 0, none⟩)), (10, .slice A0 a0.Postings.length c0), (11, .int .i64 (a0.Postings.length : Int)), (12, .int .i64 s8.2.2)]) (fun (s14, _) => [eBlk Ba1_2 3 [.int .i64 a1_2], eBlk Ba1_1 3 [.int .i64 a1_1], eBlk Ba1_0 3 [.int .i64 a1_0], eBlk b0_1 30 [.int .i64 0, .int .i64 0], eBlk b1_0 30 [.int .i64 s14.1, .int .i64 s14.2]]) (fun (_, _) => [fV (lSlice lGPosting) (.slice A0 a0.Postings.length c0) a0.Postings]) ?_ ?_
      · refine wc_block ?_
        refine wc_seq ?_
        refine wc_region ?_   -- region 4
        obtain ⟨k4_0, h⟩ := chk_some h
        refine wl_st (fun _ h => h.openF m0 k4_0) ?_
        refine wl_det rfl rfl (det_indexP rfl rfl (ms m0) k4_0 m0 un23 sz73) rfl ?_
        refine wl_det rfl rfl (det_loadP (off := 0) rfl m0 (by rfl) (by rfl) (loaded_n (cells := [_, _, _, _, _, _, _]) ag73 sz73)) rfl ?_
        refine wl_act (act_alloc (cs := [_, _, _, _, _, _, _]) zr73 rfl) rfl rfl rfl ?_
        rintro _ _ _ ⟨b4_2, rfl, rfl, rfl⟩
        refine wl_act0 (act_store (cells := [_, _, _, _, _, _, _]) (cs' := [_, _, _, _, _, _, _]) rfl rfl rfl s0 (by rfl) (of_decide_eq_true rfl) sz73 ⟨rfl, rfl, rfl, rfl, rfl, rfl, rfl, trivial⟩) rfl rfl ?_
        rintro _ _ _ ⟨rfl, rfl⟩
        refine wl_nil ?_
        refine pn_then ?_
        refine wc_block ?_
        refine wc_seq ?_
        refine wc_region ?_   -- region 6
        refine wl_det rfl rfl (det_move rfl) rfl ?_
        refine wl_det rfl rfl (det_loadN (cells := [_, _, _, _, _, _, _]) rfl m0 (by rfl) ag73 sz73) rfl ?_
        obtain ⟨r6_2, hr6_2, h⟩ := bind_some h
        refine wl_act (act_callS (cap := [_, _, _]) (W_account_Statement_c1_c1 (ix a0.Postings s8.2.2) a1_0 a1_1 a1_2 Ba1_0 Ba1_1 Ba1_2 r6_2 hr6_2) rfl rfl rfl bd66 ⟨_, (rs (rs (rs r0))), ⟨_, (rs (rs r0)), ⟨_, (rs r0), rfl⟩⟩⟩ trivial) rfl rfl rfl ?_
        rintro _ _ _ ⟨_, _, ⟨rfl, rfl, rfl⟩, rfl, rfl⟩
        dsimp only [List.nil_append, List.cons_append]
        refine wl_det rfl rfl (det_not rfl) rfl ?_
        refine wl_det rfl rfl (det_assign rfl) rfl ?_
        refine wl_nil ?_
        refine pn_then ?_
        refine wc_cond rfl (fun cd21 => ?_) (fun cd21 => ?_)
        · have h := ifT h cd21
          refine wc_skip ?_
          refine pn_block ?_
          refine pn_block ?_
          replace h := Option.some.inj h
          subst h
          exact pn_meetG ((s8.1, s8.2.1), ()) rfl ⟨rfl, rfl, rfl, rfl, rfl, rfl, trivial⟩ (fun _ h => h.to ⟨_, (rs (rs r0)), ⟨_, (rs r0), ⟨_, r0, ⟨_, (rs r0), ⟨_, (rs r0), trivial⟩⟩⟩⟩⟩ ⟨(ms m0), trivial⟩)
        · have h := ifF h cd21
          refine wc_seq ?_
          refine wc_region ?_   -- region 7
          refine wl_det rfl rfl (det_field rfl fd73_2 rfl) rfl ?_
          refine wl_det rfl rfl (det_field rfl fd41_0 rfl) rfl ?_
          refine wl_det rfl rfl (det_load rfl (ms (ms (ms m0))) (by rfl) na3 us3) rfl ?_
          refine wl_det rfl rfl (det_eql rfl rfl) rfl ?_
          refine wl_det rfl rfl (det_assign rfl) rfl ?_
          refine wl_nil ?_
          refine pn_then ?_
          refine wc_cond rfl (fun cd24 => ?_) (fun cd24 => ?_)
          · have h := ifT h cd24
            refine wc_region ?_   -- region 8
            refine wl_det rfl rfl (det_field rfl fd30_1 rfl) rfl ?_
            refine wl_det rfl rfl (det_load rfl (ms (ms (ms (ms (ms m0))))) (by rfl) na3 us3) rfl ?_
            refine wl_det rfl rfl (det_field rfl fd73_2 rfl) rfl ?_
            refine wl_det rfl rfl (det_field rfl fd41_4 rfl) rfl ?_
            refine wl_det rfl rfl (det_load rfl (ms (ms (ms m0))) (by rfl) na3 us3) rfl ?_
            refine wl_det rfl rfl (det_add rfl rfl) rfl ?_
            refine wl_det rfl rfl (det_field rfl fd30_1 rfl) rfl ?_
            refine wl_act0 (act_store (cells := [_]) (cs' := [_, _]) rfl rfl rfl (ss (ss (ss (ss (ss s0))))) (by rfl) (of_decide_eq_true rfl) sz3 ⟨rfl, trivial⟩) rfl rfl ?_
            rintro _ _ _ ⟨rfl, rfl⟩
            refine wl_nil ?_
            refine pn_block ?_
            refine pn_block ?_
            replace h := Option.some.inj h
            subst h
            exact pn_meetG ((s8.1, (w64 (s8.2.1 + (ix a0.Postings s8.2.2).Entry.Amount))), ()) rfl ⟨rfl, rfl, rfl, rfl, rfl, rfl, trivial⟩ (fun _ h => h.to ⟨_, (rs (rs r0)), ⟨_, (rs r0), ⟨_, r0, ⟨_, (rs r0), ⟨_, (rs r0), trivial⟩⟩⟩⟩⟩ ⟨(ms m0), trivial⟩)
          · have h := ifF h cd24
            refine wc_region ?_   -- region 5
            refine wl_det rfl rfl (det_field rfl fd30_0 rfl) rfl ?_
            refine wl_det rfl rfl (det_load rfl (ms (ms (ms (ms (ms m0))))) (by rfl) na3 us3) rfl ?_
            refine wl_det rfl rfl (det_field rfl fd73_2 rfl) rfl ?_
            refine wl_det rfl rfl (det_field rfl fd41_4 rfl) rfl ?_
            refine wl_det rfl rfl (det_load rfl (ms (ms (ms m0))) (by rfl) na3 us3) rfl ?_
            refine wl_det rfl rfl (det_add rfl rfl) rfl ?_
            refine wl_det rfl rfl (det_field rfl fd30_0 rfl) rfl ?_
            refine wl_act0 (act_store (cells := [_]) (cs' := [_, _]) rfl rfl rfl (ss (ss (ss (ss (ss s0))))) (by rfl) (of_decide_eq_true rfl) sz3 ⟨rfl, trivial⟩) rfl rfl ?_
            rintro _ _ _ ⟨rfl, rfl⟩
            refine wl_nil ?_
            refine pn_block ?_
            refine pn_block ?_
            replace h := Option.some.inj h
            subst h
            exact pn_meetG (((w64 (s8.1 + (ix a0.Postings s8.2.2).Entry.Amount)), s8.2.1), ()) rfl ⟨rfl, rfl, rfl, rfl, rfl, rfl, trivial⟩ (fun _ h => h.to ⟨_, (rs (rs r0)), ⟨_, (rs r0), ⟨_, r0, ⟨_, (rs r0), ⟨_, (rs r0), trivial⟩⟩⟩⟩⟩ ⟨(ms m0), trivial⟩)
      rintro ⟨s14, _⟩ e14
      dsimp only at e14 ⊢
      subst e14
      have h := ho14
      refine wc_region ?_   -- region 9
      refine wl_det rfl rfl (det_add rfl rfl) rfl ?_
      refine wl_det rfl rfl (det_move rfl) rfl ?_
      refine wl_nil ?_
      replace h := Option.some.inj h
      subst h
      exact pn_some (k8, (s14.1, s14.2, (w64 (s8.2.2 + 1))), ()) ⟨nextL g8, Nat.lt_succ_self _⟩ ⟨rfl, rfl, rfl, rfl, rfl, rfl, trivial⟩ (fun _ h => h.to ⟨_, r0, ⟨_, r0, ⟨_, r0, ⟨_, r0, ⟨_, r0, trivial⟩⟩⟩⟩⟩ ⟨m0, trivial⟩)
    · have h := ifF h cd12
      refine wc_exit ?_
      refine px_then ?_
      refine px_then ?_
      refine px_block ?_
      replace h := Option.some.inj h
      subst h
      replace g8 := nextR g8
      subst g8
      exact pn_meetG ((s8.1, s8.2.1), ()) rfl ⟨rfl, rfl, trivial⟩ (fun _ h => h.to ⟨_, r0, ⟨_, r0, ⟨_, r0, ⟨_, r0, ⟨_, r0, trivial⟩⟩⟩⟩⟩ trivial)
  rintro ⟨s4, _⟩ e4
  dsimp only at e4 ⊢
  subst e4
  have h := ho4
  refine wc_seq ?_
  refine wc_seq ?_
  refine wc_region ?_   -- region 10
  refine wl_det rfl rfl (det_field rfl fd30_0 rfl) rfl ?_
  refine wl_det rfl rfl (det_load rfl (ms (ms (ms (ms m0)))) (by rfl) na3 us3) rfl ?_
  obtain ⟨r10_2, hr10_2, h⟩ := bind_some h
  refine wl_act (act_callS (cap := []) (W_amount_Valid s4.1 r10_2 hr10_2) rfl rfl rfl bd51 rfl trivial) rfl rfl rfl ?_
  rintro _ _ _ ⟨_, _, ⟨rfl, rfl, rfl⟩, rfl, rfl⟩
  dsimp only [List.nil_append, List.cons_append]
  refine wl_det rfl rfl (det_not rfl) rfl ?_
  refine wl_det rfl rfl (det_move rfl) rfl ?_
  obtain ⟨q10_9, hq10_9, h⟩ := bind_some h
  have ho10_9 := h
  refine wl_way (!r10_2) q10_9 5 50 (fun hg => ?_) (fun hg => ?_) ?_
  · have hg10_9 := hg
    have h := ifT hq10_9 hg
    refine wl_off rfl rfl rfl rfl rfl hg10_9 rfl ?_
    refine wl_off rfl rfl rfl rfl rfl hg10_9 rfl ?_
    refine wl_off rfl rfl rfl rfl rfl hg10_9 rfl ?_
    refine wl_off rfl rfl rfl rfl rfl hg10_9 rfl ?_
    replace h := Option.some.inj h
    subst h
    refine wl_det rfl rfl (det_pick_on rfl hg10_9 rfl rfl) rfl ?_
    exact wl_nil (pn_qnE (ext_cons rfl (ext_skip rfl (ext_skip rfl (ext_skip rfl (ext_skip rfl (ext_skip rfl ext_refl)))))) (fun _ h => h))
  · have hg10_9a := hg
    have h := ifF hq10_9 hg
    refine wl_on rfl rfl rfl rfl hg10_9a ?_
    refine wl_det rfl rfl (det_field rfl fd30_1 rfl) rfl ?_
    refine wl_on rfl rfl rfl rfl hg10_9a ?_
    refine wl_det rfl rfl (det_load rfl (ms (ms (ms (ms m0)))) (by rfl) na3 us3) rfl ?_
    refine wl_on rfl rfl rfl rfl hg10_9a ?_
    obtain ⟨r10_7, hr10_7, h⟩ := bind_some h
    refine wl_act (act_callS (cap := []) (W_amount_Valid s4.2 r10_7 hr10_7) rfl rfl rfl bd51 rfl trivial) rfl rfl rfl ?_
    rintro _ _ _ ⟨_, _, ⟨rfl, rfl, rfl⟩, rfl, rfl⟩
    dsimp only [List.nil_append, List.cons_append]
    refine wl_on rfl rfl rfl rfl hg10_9a ?_
    refine wl_det rfl rfl (det_not rfl) rfl ?_
    replace h := Option.some.inj h
    subst h
    refine wl_det rfl rfl (det_pick_off rfl hg10_9a rfl rfl) rfl ?_
    exact wl_nil (pn_qnE (ext_cons rfl (ext_skip rfl (ext_skip rfl (ext_skip rfl (ext_skip rfl (ext_skip rfl ext_refl)))))) (fun _ h => h))
  have h := ho10_9
  refine wl_nil ?_
  refine pn_then ?_
  refine wc_cond rfl (fun cd31 => ?_) (fun cd31 => ?_)
  · have h := ifT h cd31
    refine wc_seq ?_
    refine wc_region ?_   -- region 11
    refine wl_det rfl rfl (det_build (cs := [_, _]) pl30 zr30 rfl rfl (by rfl)) rfl ?_
    refine wl_act0 (act_store (cells := [_, _]) (cs' := [_, _]) rfl rfl rfl (ss (ss (ss s0))) (by rfl) (of_decide_eq_true rfl) sz30 ⟨rfl, rfl, trivial⟩) rfl rfl ?_
    rintro _ _ _ ⟨rfl, rfl⟩
    refine wl_det rfl rfl (det_assign rfl) rfl ?_
    refine wl_nil ?_
    refine pn_then ?_
    refine wc_ret ?_
    refine pr_then ?_
    replace h := Option.some.inj h
    subst h
    refine pn_ret (vs := [_, _]) rfl ⟨⟨_, _, [_, _], rfl, (ms (ms (ms m0))), ag30, sz30, rfl⟩, rfl, trivial⟩ ⟨rfl, rfl, rfl⟩ (fun _ h => h.to ⟨_, (rs (rs r0)), ⟨_, (rs r0), ⟨_, r0, trivial⟩⟩⟩ trivial)
  · have h := ifF h cd31
    refine wc_skip ?_
    refine pn_then ?_
    refine wc_seq ?_
    refine wc_region ?_   -- region 12
    refine wl_det rfl rfl (det_loadN (cells := [_, _]) rfl (ms (ms (ms (ms m0)))) (by rfl) ag30 sz30) rfl ?_
    refine wl_act0 (act_store (cells := [_, _]) (cs' := [_, _]) rfl rfl rfl (ss (ss (ss s0))) (by rfl) (of_decide_eq_true rfl) sz30 ⟨rfl, rfl, trivial⟩) rfl rfl ?_
    rintro _ _ _ ⟨rfl, rfl⟩
    refine wl_det rfl rfl (det_assign rfl) rfl ?_
    refine wl_nil ?_
    refine pn_then ?_
    refine wc_ret ?_
    replace h := Option.some.inj h
    subst h
    refine pn_ret (vs := [_, _]) rfl ⟨⟨_, _, [_, _], rfl, (ms (ms (ms m0))), ag30, sz30, rfl⟩, rfl, trivial⟩ ⟨rfl, rfl, rfl⟩ (fun _ h => h.to ⟨_, (rs (rs r0)), ⟨_, (rs r0), ⟨_, r0, trivial⟩⟩⟩ trivial)
def Q_account_Statement_c1 (Ba1 : Nat) (Ba2 : Nat) (Ba3 : Nat) (a1 : GLedger) (a2 : Int) (a3 : Int) (A1 : Option Addr) (n1 : Nat) (c1 : Nat) (r : GBalance × Int) : Value → List Ent → List Fact → Prop := fun v θ κ => v = .tuple #[.agg #[.int .i64 r.1.Due, .int .i64 r.1.Reserve], .int .i64 r.2] ∧ θ = [eBlk Ba1 25 [.int .i64 a1.Closed, .slice A1 n1 c1], eBlk Ba2 3 [.int .i64 a2], eBlk Ba3 3 [.int .i64 a3]] ∧ κ = []
theorem plains_account_Statement_c1 {Ba1 : Nat} {Ba2 : Nat} {Ba3 : Nat} {a1 : GLedger} {a2 : Int} {a3 : Int} {A1 : Option Addr} {n1 : Nat} {c1 : Nat} {r : GBalance × Int} : ∀ v θ κ, Q_account_Statement_c1 Ba1 Ba2 Ba3 a1 a2 a3 A1 n1 c1 r v θ κ → Plains θ := by
  rintro _ _ _ ⟨rfl, rfl, rfl⟩
  exact ⟨plain_eBlk, plain_eBlk, plain_eBlk, trivial⟩
set_option maxHeartbeats 4000000 in
set_option maxRecDepth 100000 in
theorem W_account_Statement_c1 (a0 : Int) (a1 : GLedger) (a2 : Int) (a3 : Int) (Ba1 : Nat) (A1 : Option Addr) (n1 : Nat) (c1 : Nat) (Ba2 : Nat) (Ba3 : Nat) (r : GBalance × Int) (h : account_Statement_c1 a0 a1 a2 a3 = some r) : Spec Try.prog 65 [.int .i64 a0, .pointer (some ⟨Ba1, 0, none⟩), .pointer (some ⟨Ba2, 0, none⟩), .pointer (some ⟨Ba3, 0, none⟩)] [eBlk Ba1 25 [.int .i64 a1.Closed, .slice A1 n1 c1], eBlk Ba2 3 [.int .i64 a2], eBlk Ba3 3 [.int .i64 a3]] [fV (lSlice lGPosting) (.slice A1 n1 c1) a1.Postings] (Q_account_Statement_c1 Ba1 Ba2 Ba3 a1 a2 a3 A1 n1 c1 r) := by
  unfold account_Statement_c1 at h
  refine spec_of (σ := [(0, _), (1, _), (2, _), (3, _)]) Try.func65 rfl rfl rfl rfl ?_
  intro C
  refine wc_know (fun _ h => h.lenF m0) (fun e => ?_)
  subst e
  refine wc_seq ?_
  refine wc_region ?_   -- region 0
  refine wl_act (act_box (cs := [_]) rfl rfl) rfl rfl rfl ?_
  rintro _ _ _ ⟨b0_0, rfl, rfl, rfl⟩
  refine wl_act (act_alloc (cs := [_, _]) zr30 rfl) rfl rfl rfl ?_
  rintro _ _ _ ⟨b0_1, rfl, rfl, rfl⟩
  refine wl_det rfl rfl (det_assign rfl) rfl ?_
  refine wl_nil ?_
  refine pn_then ?_
  refine wc_seq ?_
  refine wc_region ?_   -- region 1
  refine wl_det rfl rfl (det_loadN (cells := [_, _]) rfl (ms (ms m0)) (by rfl) ag25 sz25) rfl ?_
  refine wl_det rfl rfl (det_makeFunc rfl) rfl ?_
  obtain ⟨r1_2, hr1_2, h⟩ := bind_some h
  refine wl_act (act_callS (cap := []) (W_account_sum_account_Statement_c1_c1 a1 a2 a3 a0 A1 a1.Postings.length c1 Ba2 Ba3 b0_0 r1_2 hr1_2) rfl rfl rfl bd47 ⟨_, (rs (rs (rs r0))), ⟨_, (rs (rs (rs r0))), ⟨_, (rs r0), rfl⟩⟩⟩ ⟨m0, trivial⟩) rfl rfl rfl ?_
  rintro _ _ _ ⟨_, _, ⟨rfl, rfl, rfl⟩, rfl, rfl⟩
  dsimp only [List.nil_append, List.cons_append]
  refine wl_det rfl rfl (det_extract rfl rfl) rfl ?_
  refine wl_det rfl rfl (det_extract rfl rfl) rfl ?_
  refine wl_act0 (act_store (cells := [_, _]) (cs' := [_, _]) rfl rfl rfl (ss (ss (ss s0))) (by rfl) (of_decide_eq_true rfl) sz30 ⟨rfl, rfl, trivial⟩) rfl rfl ?_
  rintro _ _ _ ⟨rfl, rfl⟩
  refine wl_det rfl rfl (det_assign rfl) rfl ?_
  refine wl_nil ?_
  refine pn_then ?_
  refine wc_ret ?_
  replace h := Option.some.inj h
  subst h
  refine pn_ret (vs := [_, _]) rfl ⟨⟨_, _, [_, _], rfl, (ms (ms (ms m0))), ag30, sz30, rfl⟩, rfl, trivial⟩ ⟨rfl, rfl, rfl⟩ (fun _ h => h.to ⟨_, (rs (rs (rs (rs r0)))), ⟨_, r0, ⟨_, r0, trivial⟩⟩⟩ trivial)
def Q_account_Statement (r : GStatement × Int) : Value → List Ent → List Fact → Prop := fun v θ κ => ∃ (pA0 : Option Addr), ∃ (pn0 : Nat), ∃ (pc0 : Nat), v = .tuple #[.agg #[.int .i64 r.1.Treaty, .int .i64 r.1.Party, .int .i64 r.1.Period, .int .i64 r.1.Opening.Due, .int .i64 r.1.Opening.Reserve, .slice pA0 pn0 pc0, .int .i64 r.1.Closing.Due, .int .i64 r.1.Closing.Reserve], .int .i64 r.2] ∧ θ = [eS lGPosting 73 pA0 pn0 pc0 r.1.Postings] ∧ κ = []
theorem plains_account_Statement {r : GStatement × Int} : ∀ v θ κ, Q_account_Statement r v θ κ → Plains θ := by
  rintro _ _ _ ⟨_, _, _, rfl, rfl, rfl⟩
  exact ⟨plain_eS, trivial⟩
set_option maxHeartbeats 4000000 in
set_option maxRecDepth 100000 in
theorem W_account_Statement (a0 : GLedger) (a1 : Int) (a2 : Int) (a3 : Int) (A0 : Option Addr) (n0 : Nat) (c0 : Nat) (r : GStatement × Int) (h : account_Statement a0 a1 a2 a3 = some r) : Spec Try.prog 49 [.agg #[.int .i64 a0.Closed, .slice A0 n0 c0], .int .i64 a1, .int .i64 a2, .int .i64 a3] [] [fV (lSlice lGPosting) (.slice A0 n0 c0) a0.Postings] (Q_account_Statement r) := by
  unfold account_Statement at h
  refine spec_of (σ := [(0, _), (1, _), (2, _), (3, _)]) Try.func49 rfl rfl rfl rfl ?_
  intro C
  refine wc_know (fun _ h => h.lenF m0) (fun e => ?_)
  subst e
  refine wc_seq ?_
  refine wc_region ?_   -- region 0
  refine wl_act (act_box (cs := [_, _]) rfl rfl) rfl rfl rfl ?_
  rintro _ _ _ ⟨b0_0, rfl, rfl, rfl⟩
  refine wl_act (act_box (cs := [_]) rfl rfl) rfl rfl rfl ?_
  rintro _ _ _ ⟨b0_1, rfl, rfl, rfl⟩
  refine wl_act (act_box (cs := [_]) rfl rfl) rfl rfl rfl ?_
  rintro _ _ _ ⟨b0_2, rfl, rfl, rfl⟩
  refine wl_act (act_alloc (cs := [_, _, _, _, _, _, _, _]) zr77 rfl) rfl rfl rfl ?_
  rintro _ _ _ ⟨b0_3, rfl, rfl, rfl⟩
  refine wl_det rfl rfl (det_assign rfl) rfl ?_
  refine wl_nil ?_
  refine pn_then ?_
  refine wc_seq ?_
  refine wc_seq ?_
  refine wc_region ?_   -- region 1
  refine wl_det rfl rfl (det_loadN (cells := [_, _]) rfl (ms (ms (ms m0))) (by rfl) ag25 sz25) rfl ?_
  obtain ⟨r1_1, hr1_1, h⟩ := bind_some h
  refine wl_act (act_callS (cap := []) (W_ledger_Validate a0 A0 a0.Postings.length c0 r1_1 hr1_1) rfl rfl rfl bd16 rfl ⟨m0, trivial⟩) rfl rfl rfl ?_
  rintro _ _ _ ⟨_, _, ⟨rfl, rfl, rfl⟩, rfl, rfl⟩
  dsimp only [List.nil_append, List.cons_append]
  refine wl_det rfl rfl (det_assign rfl) rfl ?_
  refine wl_nil ?_
  refine pn_then ?_
  refine wc_seq ?_
  refine wc_region ?_   -- region 2
  refine wl_det rfl rfl (det_move rfl) rfl ?_
  refine wl_det rfl rfl (det_neq rfl rfl) rfl ?_
  refine wl_nil ?_
  refine pn_then ?_
  refine wc_cond rfl (fun cd7 => ?_) (fun cd7 => ?_)
  · have h := ifT h cd7
    refine wc_seq ?_
    refine wc_region ?_   -- region 3
    refine wl_det rfl rfl (det_build (cs := [_, _, _, _, _, _, _, _]) pl77 zr77 rfl rfl (by rfl)) rfl ?_
    refine wl_det rfl rfl (det_move rfl) rfl ?_
    refine wl_act0 (act_store (cells := [_, _, _, _, _, _, _, _]) (cs' := [_, _, _, _, _, _, _, _]) rfl rfl rfl s0 (by rfl) (of_decide_eq_true rfl) sz77 ⟨rfl, rfl, rfl, rfl, rfl, rfl, rfl, rfl, trivial⟩) rfl rfl ?_
    rintro _ _ _ ⟨rfl, rfl⟩
    refine wl_det rfl rfl (det_assign rfl) rfl ?_
    refine wl_nil ?_
    refine pn_then ?_
    refine wc_ret ?_
    refine pr_then ?_
    refine pn_st (fun _ h => h.zeroS lGPosting 73 none) ?_
    replace h := Option.some.inj h
    subst h
    refine pn_ret (vs := [_, _]) rfl ⟨⟨_, _, [_, _, _, _, _, _, _, _], rfl, (ms m0), ag77, sz77, rfl⟩, rfl, trivial⟩ ⟨none, 0, 0, rfl, rfl, rfl⟩ (fun _ h => h.to ⟨_, r0, trivial⟩ trivial)
  · have h := ifF h cd7
    refine wc_skip ?_
    refine pn_then ?_
    refine wc_seq ?_
    refine wc_seq ?_
    refine wc_region ?_   -- region 4
    refine wl_det rfl rfl (det_move rfl) rfl ?_
    refine wl_det rfl rfl (det_lss rfl rfl) rfl ?_
    refine wl_det rfl rfl (det_move rfl) rfl ?_
    refine wl_way (decide (a3 < 0)) ((decide (a3 < 0)) || (decide (a0.Closed < a3))) 5 29 (fun hg => ?_) (fun hg => ?_) ?_
    · have hg4_7 := hg
      refine wl_off rfl rfl rfl rfl rfl hg4_7 rfl ?_
      refine wl_off rfl rfl rfl rfl rfl hg4_7 rfl ?_
      refine wl_off rfl rfl rfl rfl rfl hg4_7 rfl ?_
      refine wl_off rfl rfl rfl rfl rfl hg4_7 rfl ?_
      refine wl_det rfl rfl (det_or_on (r := (decide (a0.Closed < a3))) rfl rfl rfl hg4_7) rfl ?_
      exact wl_nil (pn_qnE (ext_cons rfl (ext_skip rfl (ext_skip rfl (ext_skip rfl (ext_skip rfl (ext_skip rfl ext_refl)))))) (fun _ h => h))
    · have hg4_7a := hg
      refine wl_on rfl rfl rfl rfl hg4_7a ?_
      refine wl_det rfl rfl (det_move rfl) rfl ?_
      refine wl_on rfl rfl rfl rfl hg4_7a ?_
      refine wl_det rfl rfl (det_field rfl fd25_0 rfl) rfl ?_
      refine wl_on rfl rfl rfl rfl hg4_7a ?_
      refine wl_det rfl rfl (det_load rfl (ms (ms (ms m0))) (by rfl) na3 us3) rfl ?_
      refine wl_on rfl rfl rfl rfl hg4_7a ?_
      refine wl_det rfl rfl (det_gtr rfl rfl) rfl ?_
      refine wl_det rfl rfl (det_or_off rfl rfl rfl hg4_7a) rfl ?_
      exact wl_nil (pn_qnE (ext_cons rfl (ext_skip rfl (ext_skip rfl (ext_skip rfl (ext_skip rfl (ext_skip rfl ext_refl)))))) (fun _ h => h))
    refine wl_nil ?_
    refine pn_then ?_
    refine wc_cond rfl (fun cd13 => ?_) (fun cd13 => ?_)
    · have h := ifT h cd13
      refine wc_seq ?_
      refine wc_region ?_   -- region 5
      refine wl_det rfl rfl (det_build (cs := [_, _, _, _, _, _, _, _]) pl77 zr77 rfl rfl (by rfl)) rfl ?_
      refine wl_act0 (act_store (cells := [_, _, _, _, _, _, _, _]) (cs' := [_, _, _, _, _, _, _, _]) rfl rfl rfl s0 (by rfl) (of_decide_eq_true rfl) sz77 ⟨rfl, rfl, rfl, rfl, rfl, rfl, rfl, rfl, trivial⟩) rfl rfl ?_
      rintro _ _ _ ⟨rfl, rfl⟩
      refine wl_det rfl rfl (det_assign rfl) rfl ?_
      refine wl_nil ?_
      refine pn_then ?_
      refine wc_ret ?_
      refine pr_then ?_
      refine pn_st (fun _ h => h.zeroS lGPosting 73 none) ?_
      replace h := Option.some.inj h
      subst h
      refine pn_ret (vs := [_, _]) rfl ⟨⟨_, _, [_, _, _, _, _, _, _, _], rfl, (ms m0), ag77, sz77, rfl⟩, rfl, trivial⟩ ⟨none, 0, 0, rfl, rfl, rfl⟩ (fun _ h => h.to ⟨_, r0, trivial⟩ trivial)
    · have h := ifF h cd13
      refine wc_skip ?_
      refine pn_then ?_
      refine wc_seq ?_
      refine wc_region ?_   -- region 6
      refine wl_det rfl rfl (det_makeFunc rfl) rfl ?_
      refine wl_det rfl rfl (det_assign rfl) rfl ?_
      refine wl_nil ?_
      refine pn_then ?_
      refine wc_seq ?_
      refine wc_region ?_   -- region 7
      refine wl_det rfl rfl (det_load rfl (ms (ms m0)) (by rfl) na3 us3) rfl ?_
      refine wl_det rfl rfl (det_load rfl (ms m0) (by rfl) na3 us3) rfl ?_
      refine wl_det rfl rfl (det_move rfl) rfl ?_
      refine wl_det rfl rfl (det_build (cs := [_, _, _, _, _, _, _, _]) pl77 zr77 rfl rfl (by rfl)) rfl ?_
      refine wl_act (act_alloc (cs := [_, _, _, _, _, _, _, _]) zr77 rfl) rfl rfl rfl ?_
      rintro _ _ _ ⟨b7_4, rfl, rfl, rfl⟩
      refine wl_act0 (act_store (cells := [_, _, _, _, _, _, _, _]) (cs' := [_, _, _, _, _, _, _, _]) rfl rfl rfl s0 (by rfl) (of_decide_eq_true rfl) sz77 ⟨rfl, rfl, rfl, rfl, rfl, rfl, rfl, rfl, trivial⟩) rfl rfl ?_
      rintro _ _ _ ⟨rfl, rfl⟩
      refine wl_nil ?_
      refine pn_then ?_
      refine wc_seq ?_
      refine wc_region ?_   -- region 8
      refine wl_det rfl rfl (det_assign rfl) rfl ?_
      refine wl_nil ?_
      refine pn_then ?_
      refine wc_seq ?_
      refine wc_seq ?_
      refine wc_region ?_   -- region 9
      refine wl_det rfl rfl (det_move rfl) rfl ?_
      refine wl_det rfl rfl (det_move rfl) rfl ?_
      obtain ⟨r9_2, hr9_2, h⟩ := bind_some h
      refine wl_act (act_callS (cap := [_, _, _]) (W_account_Statement_c1 a3 a0 a1 a2 b0_0 A0 a0.Postings.length c0 b0_1 b0_2 r9_2 hr9_2) rfl rfl rfl bd65 ⟨_, (rs (rs (rs (rs r0)))), ⟨_, (rs (rs (rs r0))), ⟨_, (rs (rs r0)), rfl⟩⟩⟩ ⟨m0, trivial⟩) rfl rfl rfl ?_
      rintro _ _ _ ⟨_, _, ⟨rfl, rfl, rfl⟩, rfl, rfl⟩
      dsimp only [List.nil_append, List.cons_append]
      refine wl_det rfl rfl (det_move rfl) rfl ?_
      refine wl_det rfl rfl (det_extract rfl rfl) rfl ?_
      refine wl_det rfl rfl (det_extract rfl rfl) rfl ?_
      refine wl_det rfl rfl (det_field rfl fd77_3 rfl) rfl ?_
      refine wl_act0 (act_store (cells := [_, _]) (cs' := [_, _, _, _, _, _, _, _]) rfl rfl rfl (ss (ss (ss s0))) (by rfl) (of_decide_eq_true rfl) sz30 ⟨rfl, rfl, trivial⟩) rfl rfl ?_
      rintro _ _ _ ⟨rfl, rfl⟩
      refine wl_det rfl rfl (det_assign rfl) rfl ?_
      refine wl_nil ?_
      refine pn_then ?_
      refine wc_seq ?_
      refine wc_region ?_   -- region 10
      refine wl_det rfl rfl (det_move rfl) rfl ?_
      refine wl_det rfl rfl (det_neq rfl rfl) rfl ?_
      refine wl_nil ?_
      refine pn_then ?_
      refine wc_cond rfl (fun cd27 => ?_) (fun cd27 => ?_)
      · have h := ifT h cd27
        refine wc_seq ?_
        refine wc_region ?_   -- region 11
        refine wl_det rfl rfl (det_build (cs := [_, _, _, _, _, _, _, _]) pl77 zr77 rfl rfl (by rfl)) rfl ?_
        refine wl_det rfl rfl (det_move rfl) rfl ?_
        refine wl_act0 (act_store (cells := [_, _, _, _, _, _, _, _]) (cs' := [_, _, _, _, _, _, _, _]) rfl rfl rfl (ss (ss (ss (ss s0)))) (by rfl) (of_decide_eq_true rfl) sz77 ⟨rfl, rfl, rfl, rfl, rfl, rfl, rfl, rfl, trivial⟩) rfl rfl ?_
        rintro _ _ _ ⟨rfl, rfl⟩
        refine wl_det rfl rfl (det_assign rfl) rfl ?_
        refine wl_nil ?_
        refine pn_then ?_
        refine wc_ret ?_
        refine pr_then ?_
        refine pn_st (fun _ h => h.zeroS lGPosting 73 none) ?_
        replace h := Option.some.inj h
        subst h
        refine pn_ret (vs := [_, _]) rfl ⟨⟨_, _, [_, _, _, _, _, _, _, _], rfl, (ms (ms (ms (ms (ms m0))))), ag77, sz77, rfl⟩, rfl, trivial⟩ ⟨none, 0, 0, rfl, rfl, rfl⟩ (fun _ h => h.to ⟨_, r0, trivial⟩ trivial)
      · have h := ifF h cd27
        refine wc_skip ?_
        refine pn_then ?_
        refine wc_seq ?_
        refine wc_seq ?_
        refine wc_region ?_   -- region 12
        refine wl_det rfl rfl (det_move rfl) rfl ?_
        refine wl_det rfl rfl (det_move rfl) rfl ?_
        refine wl_det rfl rfl (det_add rfl rfl) rfl ?_
        obtain ⟨r12_3, hr12_3, h⟩ := bind_some h
        refine wl_act (act_callS (cap := [_, _, _]) (W_account_Statement_c1 (w64 (a3 + 1)) a0 a1 a2 b0_0 A0 a0.Postings.length c0 b0_1 b0_2 r12_3 hr12_3) rfl rfl rfl bd65 ⟨_, r0, ⟨_, r0, ⟨_, r0, rfl⟩⟩⟩ ⟨m0, trivial⟩) rfl rfl rfl ?_
        rintro _ _ _ ⟨_, _, ⟨rfl, rfl, rfl⟩, rfl, rfl⟩
        dsimp only [List.nil_append, List.cons_append]
        refine wl_det rfl rfl (det_move rfl) rfl ?_
        refine wl_det rfl rfl (det_extract rfl rfl) rfl ?_
        refine wl_det rfl rfl (det_extract rfl rfl) rfl ?_
        refine wl_det rfl rfl (det_field rfl fd77_5 rfl) rfl ?_
        refine wl_act0 (act_store (cells := [_, _]) (cs' := [_, _, _, _, _, _, _, _]) rfl rfl rfl (ss (ss (ss s0))) (by rfl) (of_decide_eq_true rfl) sz30 ⟨rfl, rfl, trivial⟩) rfl rfl ?_
        rintro _ _ _ ⟨rfl, rfl⟩
        refine wl_det rfl rfl (det_assign rfl) rfl ?_
        refine wl_nil ?_
        refine pn_then ?_
        refine wc_seq ?_
        refine wc_region ?_   -- region 13
        refine wl_det rfl rfl (det_move rfl) rfl ?_
        refine wl_det rfl rfl (det_neq rfl rfl) rfl ?_
        refine wl_nil ?_
        refine pn_then ?_
        refine wc_cond rfl (fun cd35 => ?_) (fun cd35 => ?_)
        · have h := ifT h cd35
          refine wc_seq ?_
          refine wc_region ?_   -- region 14
          refine wl_det rfl rfl (det_build (cs := [_, _, _, _, _, _, _, _]) pl77 zr77 rfl rfl (by rfl)) rfl ?_
          refine wl_det rfl rfl (det_move rfl) rfl ?_
          refine wl_act0 (act_store (cells := [_, _, _, _, _, _, _, _]) (cs' := [_, _, _, _, _, _, _, _]) rfl rfl rfl (ss (ss (ss (ss s0)))) (by rfl) (of_decide_eq_true rfl) sz77 ⟨rfl, rfl, rfl, rfl, rfl, rfl, rfl, rfl, trivial⟩) rfl rfl ?_
          rintro _ _ _ ⟨rfl, rfl⟩
          refine wl_det rfl rfl (det_assign rfl) rfl ?_
          refine wl_nil ?_
          refine pn_then ?_
          refine wc_ret ?_
          refine pr_then ?_
          refine pn_st (fun _ h => h.zeroS lGPosting 73 none) ?_
          replace h := Option.some.inj h
          subst h
          refine pn_ret (vs := [_, _]) rfl ⟨⟨_, _, [_, _, _, _, _, _, _, _], rfl, (ms (ms (ms (ms (ms m0))))), ag77, sz77, rfl⟩, rfl, trivial⟩ ⟨none, 0, 0, rfl, rfl, rfl⟩ (fun _ h => h.to ⟨_, r0, trivial⟩ trivial)
        · have h := ifF h cd35
          refine wc_skip ?_
          refine pn_then ?_
          obtain ⟨q38, h, ho38⟩ := bind_some h
          refine wc_meetG (G := (List GPosting) × Option Addr × Nat × Nat × Unit) (fun (s38, _, _, _, _) => s38 = q38) (fun (_, _, _, _, _) => [(8, .pointer (some ⟨b0_3, 0, none⟩)), (12, .pointer (some ⟨b7_4, 0, none⟩))]) (fun (s38, A38_0, n38_0, c38_0, _) => [eBlk b0_3 77 [.int .i64 0, .int .i64 0, .int .i64 0, .int .i64 0, .int .i64 0, .slice none 0 0, .int .i64 0, .int .i64 0], eBlk b7_4 77 [.int .i64 a1, .int .i64 a2, .int .i64 a3, .int .i64 r9_2.1.Due, .int .i64 r9_2.1.Reserve, .slice A38_0 n38_0 c38_0, .int .i64 r12_3.1.Due, .int .i64 r12_3.1.Reserve], eS lGPosting 73 A38_0 n38_0 c38_0 s38]) (fun (_, _, _, _, _) => []) ?_ ?_
          · refine wc_seq ?_
            refine wc_region ?_   -- region 15
            refine wl_det rfl rfl (det_field rfl fd25_1 rfl) rfl ?_
            refine wl_det rfl rfl (det_load rfl m0 (by rfl) na23 us23) rfl ?_
            refine wl_det rfl rfl (det_len rfl un23) rfl ?_
            refine wl_det rfl rfl (det_move rfl) rfl ?_
            refine wl_nil ?_
            refine pn_then ?_
            refine wc_block ?_
            refine wc_st (fun _ h => h.zeroS lGPosting 73 none) ?_
            obtain ⟨k42, hk42⟩ := loopV_some.1 h
            refine wc_loop (G := Nat × ((List GPosting) × Int) × Option Addr × Nat × Nat × Unit) (fun g => IterN (account_Statement_l42 a0 a1 a2 a3) g.1 g.2.1 q38) (fun g => g.1) (fun (_, s42, _, _, _, _) => [(3, .int .i64 a3), (5, .pointer (some ⟨b0_1, 0, none⟩)), (6, .pointer (some ⟨b0_2, 0, none⟩)), (8, .pointer (some ⟨b0_3, 0, none⟩)), (12, .pointer (some ⟨b7_4, 0, none⟩)), (60, .slice A0 a0.Postings.length c0), (61, .int .i64 (a0.Postings.length : Int)), (62, .int .i64 s42.2)]) (fun (_, s42, A42_0, n42_0, c42_0, _) => [eBlk b0_1 3 [.int .i64 a1], eBlk b0_2 3 [.int .i64 a2], eBlk b0_3 77 [.int .i64 0, .int .i64 0, .int .i64 0, .int .i64 0, .int .i64 0, .slice none 0 0, .int .i64 0, .int .i64 0], eBlk b7_4 77 [.int .i64 a1, .int .i64 a2, .int .i64 a3, .int .i64 r9_2.1.Due, .int .i64 r9_2.1.Reserve, .slice A42_0 n42_0 c42_0, .int .i64 r12_3.1.Due, .int .i64 r12_3.1.Reserve], eS lGPosting 73 A42_0 n42_0 c42_0 s42.1]) (fun (_, _, _, _, _, _) => [fV (lSlice lGPosting) (.slice A0 a0.Postings.length c0) a0.Postings]) (k42, ([], 0), none, 0, 0, ()) hk42 ⟨rfl, rfl, rfl, rfl, rfl, rfl, rfl, rfl, trivial⟩ (fun _ h => h.to ⟨_, (rs (rs r0)), ⟨_, (rs (rs r0)), ⟨_, (rs (rs (rs r0))), ⟨_, (rs (rs r0)), ⟨_, r0, trivial⟩⟩⟩⟩⟩ ⟨m0, trivial⟩) ?_
            rintro ⟨k42, s42, A42_0, n42_0, c42_0, _⟩ hI
            obtain ⟨k42, rfl, q42, h, g42⟩ := IterN.pos hI
            dsimp only at h ⊢
            unfold account_Statement_l42 at h
            refine wc_know (fun _ h => h.lenO (ms (ms (ms (ms m0))))) (fun e => ?_)
            subst e
            refine wc_seq ?_
            refine wc_region ?_   -- region 16
            refine wl_det rfl rfl (det_lss rfl rfl) rfl ?_
            refine wl_nil ?_
            refine pn_then ?_
            refine wc_seq ?_
            refine wc_cond rfl (fun cd46 => ?_) (fun cd46 => ?_)
            · have h := ifT h cd46
              refine wc_skip ?_
              refine pn_then ?_
              obtain ⟨q48, h, ho48⟩ := bind_some h
              refine wc_meetG (G := (List GPosting) × Option Addr × Nat × Nat × Unit) (fun (s48, _, _, _, _) => s48 = q48) (fun (_, _, _, _, _) => [(3, .int .i64 a3), (5, .pointer (some ⟨b0_1, 0, none⟩)), (6, .pointer (some ⟨b0_2, 0, none⟩)), (8, .pointer (some ⟨b0_3, 0, none⟩)), (12, .pointer (some ⟨b7_4, 0, none⟩)), (60, .slice A0 a0.Postings.length c0), (61, .int .i64 (a0.Postings.length : Int)), (62, .int .i64 s42.2)]) (fun (s48, A48_0, n48_0, c48_0, _) => [eBlk b0_1 3 [.int .i64 a1], eBlk b0_2 3 [.int .i64 a2], eBlk b0_3 77 [.int .i64 0, .int .i64 0, .int .i64 0, .int .i64 0, .int .i64 0, .slice none 0 0, .int .i64 0, .int .i64 0], eBlk b7_4 77 [.int .i64 a1, .int .i64 a2, .int .i64 a3, .int .i64 r9_2.1.Due, .int .i64 r9_2.1.Reserve, .slice A48_0 n48_0 c48_0, .int .i64 r12_3.1.Due, .int .i64 r12_3.1.Reserve], eS lGPosting 73 A48_0 n48_0 c48_0 s48]) (fun (_, _, _, _, _) => [fV (lSlice lGPosting) (.slice A0 a0.Postings.length c0) a0.Postings]) ?_ ?_
              · refine wc_block ?_
                refine wc_seq ?_
                refine wc_region ?_   -- region 17
                obtain ⟨k17_0, h⟩ := chk_some h
                refine wl_st (fun _ h => h.openF m0 k17_0) ?_
                refine wl_det rfl rfl (det_indexP rfl rfl (ms m0) k17_0 m0 un23 sz73) rfl ?_
                refine wl_det rfl rfl (det_loadP (off := 0) rfl m0 (by rfl) (by rfl) (loaded_n (cells := [_, _, _, _, _, _, _]) ag73 sz73)) rfl ?_
                refine wl_act (act_alloc (cs := [_, _, _, _, _, _, _]) zr73 rfl) rfl rfl rfl ?_
                rintro _ _ _ ⟨b17_2, rfl, rfl, rfl⟩
                refine wl_act0 (act_store (cells := [_, _, _, _, _, _, _]) (cs' := [_, _, _, _, _, _, _]) rfl rfl rfl s0 (by rfl) (of_decide_eq_true rfl) sz73 ⟨rfl, rfl, rfl, rfl, rfl, rfl, rfl, trivial⟩) rfl rfl ?_
                rintro _ _ _ ⟨rfl, rfl⟩
                refine wl_nil ?_
                refine pn_then ?_
                refine wc_seq ?_
                refine wc_region ?_   -- region 18
                refine wl_det rfl rfl (det_field rfl fd73_2 rfl) rfl ?_
                refine wl_det rfl rfl (det_field rfl fd41_1 rfl) rfl ?_
                refine wl_det rfl rfl (det_load rfl m0 (by rfl) na3 us3) rfl ?_
                refine wl_det rfl rfl (det_load rfl (ms m0) (by rfl) na3 us3) rfl ?_
                refine wl_det rfl rfl (det_eql rfl rfl) rfl ?_
                refine wl_det rfl rfl (det_move rfl) rfl ?_
                refine wl_way (decide ((ix a0.Postings s42.2).Entry.Treaty = a1)) ((decide ((ix a0.Postings s42.2).Entry.Treaty = a1)) && (decide ((ix a0.Postings s42.2).Entry.Party = a2))) 6 77 (fun hg => ?_) (fun hg => ?_) ?_
                · have hg18_11 := hg
                  refine wl_on rfl rfl rfl rfl hg18_11 ?_
                  refine wl_det rfl rfl (det_field rfl fd73_2 rfl) rfl ?_
                  refine wl_on rfl rfl rfl rfl hg18_11 ?_
                  refine wl_det rfl rfl (det_field rfl fd41_2 rfl) rfl ?_
                  refine wl_on rfl rfl rfl rfl hg18_11 ?_
                  refine wl_det rfl rfl (det_load rfl m0 (by rfl) na3 us3) rfl ?_
                  refine wl_on rfl rfl rfl rfl hg18_11 ?_
                  refine wl_det rfl rfl (det_load rfl (ms (ms m0)) (by rfl) na3 us3) rfl ?_
                  refine wl_on rfl rfl rfl rfl hg18_11 ?_
                  refine wl_det rfl rfl (det_eql rfl rfl) rfl ?_
                  refine wl_det rfl rfl (det_and_on rfl rfl rfl hg18_11) rfl ?_
                  exact wl_nil (pn_qnE (ext_cons rfl (ext_skip rfl (ext_skip rfl (ext_skip rfl (ext_skip rfl (ext_skip rfl (ext_skip rfl ext_refl))))))) (fun _ h => h))
                · have hg18_11a := hg
                  refine wl_off rfl rfl rfl rfl rfl hg18_11a rfl ?_
                  refine wl_off rfl rfl rfl rfl rfl hg18_11a rfl ?_
                  refine wl_off rfl rfl rfl rfl rfl hg18_11a rfl ?_
                  refine wl_off rfl rfl rfl rfl rfl hg18_11a rfl ?_
                  refine wl_off rfl rfl rfl rfl rfl hg18_11a rfl ?_
                  refine wl_det rfl rfl (det_and_off (q := (decide ((ix a0.Postings s42.2).Entry.Party = a2))) rfl rfl rfl hg18_11a) rfl ?_
                  exact wl_nil (pn_qnE (ext_cons rfl (ext_skip rfl (ext_skip rfl (ext_skip rfl (ext_skip rfl (ext_skip rfl (ext_skip rfl ext_refl))))))) (fun _ h => h))
                refine wl_det rfl rfl (det_move rfl) rfl ?_
                refine wl_way ((decide ((ix a0.Postings s42.2).Entry.Treaty = a1)) && (decide ((ix a0.Postings s42.2).Entry.Party = a2))) (((decide ((ix a0.Postings s42.2).Entry.Treaty = a1)) && (decide ((ix a0.Postings s42.2).Entry.Party = a2))) && (decide ((ix a0.Postings s42.2).Period = a3))) 5 83 (fun hg => ?_) (fun hg => ?_) ?_
                · have hg18_17 := hg
                  refine wl_on rfl rfl rfl rfl hg18_17 ?_
                  refine wl_det rfl rfl (det_field rfl fd73_1 rfl) rfl ?_
                  refine wl_on rfl rfl rfl rfl hg18_17 ?_
                  refine wl_det rfl rfl (det_load rfl m0 (by rfl) na3 us3) rfl ?_
                  refine wl_on rfl rfl rfl rfl hg18_17 ?_
                  refine wl_det rfl rfl (det_move rfl) rfl ?_
                  refine wl_on rfl rfl rfl rfl hg18_17 ?_
                  refine wl_det rfl rfl (det_eql rfl rfl) rfl ?_
                  refine wl_det rfl rfl (det_and_on rfl rfl rfl hg18_17) rfl ?_
                  exact wl_nil (pn_qnE (ext_cons rfl (ext_skip rfl (ext_skip rfl (ext_skip rfl (ext_skip rfl (ext_skip rfl ext_refl)))))) (fun _ h => h))
                · have hg18_17a := hg
                  refine wl_off rfl rfl rfl rfl rfl hg18_17a rfl ?_
                  refine wl_off rfl rfl rfl rfl rfl hg18_17a rfl ?_
                  refine wl_off rfl rfl rfl rfl rfl hg18_17a rfl ?_
                  refine wl_off rfl rfl rfl rfl rfl hg18_17a rfl ?_
                  refine wl_det rfl rfl (det_and_off (q := (decide ((ix a0.Postings s42.2).Period = a3))) rfl rfl rfl hg18_17a) rfl ?_
                  exact wl_nil (pn_qnE (ext_cons rfl (ext_skip rfl (ext_skip rfl (ext_skip rfl (ext_skip rfl (ext_skip rfl ext_refl)))))) (fun _ h => h))
                refine wl_nil ?_
                refine pn_then ?_
                refine wc_cond rfl (fun cd54 => ?_) (fun cd54 => ?_)
                · have h := ifT h cd54
                  refine wc_region ?_   -- region 19
                  refine wl_det rfl rfl (det_field rfl fd77_4 rfl) rfl ?_
                  refine wl_det rfl rfl (det_load rfl (ms (ms (ms (ms m0)))) (by rfl) na23 us23) rfl ?_
                  refine wl_det rfl rfl (det_loadN (cells := [_, _, _, _, _, _, _]) rfl m0 (by rfl) ag73 sz73) rfl ?_
                  refine wl_act (act_litS lGPosting (vs := [_]) (cs := [_, _, _, _, _, _, _]) [(ix a0.Postings s42.2)] un23 in73 rfl rfl rfl rfl rfl ⟨rfl, trivial⟩ (by rfl) rfl (litR_flat rfl)) rfl rfl rfl ?_
                  rintro _ _ _ ⟨A19_3, rfl, rfl, rfl⟩
                  obtain ⟨k19_4, h⟩ := chk_some h
                  refine wl_act (act_appendS (L := lGPosting) rfl rfl (ss (ss (ss (ss (ss (ss s0)))))) (src_O m0) un23 in73 rfl rfl rfl k19_4) rfl rfl rfl ?_
                  rintro _ _ _ ⟨A19_4, c19_4, rfl, rfl, rfl⟩
                  refine wl_det rfl rfl (det_field rfl fd77_4 rfl) rfl ?_
                  refine wl_act0 (act_store (cells := [_]) (cs' := [_, _, _, _, _, _, _, _]) rfl rfl rfl (ss (ss (ss (ss (ss s0))))) (by rfl) (of_decide_eq_true rfl) sz23 ⟨rfl, trivial⟩) rfl rfl ?_
                  rintro _ _ _ ⟨rfl, rfl⟩
                  refine wl_nil ?_
                  refine pn_block ?_
                  replace h := Option.some.inj h
                  subst h
                  exact pn_meetG ((s42.1 ++ [(ix a0.Postings s42.2)]), A19_4, (s42.1 ++ [(ix a0.Postings s42.2)]).length, c19_4, ()) rfl ⟨rfl, rfl, rfl, rfl, rfl, rfl, rfl, rfl, trivial⟩ (fun _ h => h.to ⟨_, (rs (rs r0)), ⟨_, (rs (rs r0)), ⟨_, (rs (rs r0)), ⟨_, (rs (rs r0)), ⟨_, (rs (rs r0)), trivial⟩⟩⟩⟩⟩ ⟨(ms m0), trivial⟩)
                · have h := ifF h cd54
                  refine wc_skip ?_
                  refine pn_block ?_
                  replace h := Option.some.inj h
                  subst h
                  exact pn_meetG (s42.1, A42_0, s42.1.length, c42_0, ()) rfl ⟨rfl, rfl, rfl, rfl, rfl, rfl, rfl, rfl, trivial⟩ (fun _ h => h.to ⟨_, (rs r0), ⟨_, (rs r0), ⟨_, (rs r0), ⟨_, (rs r0), ⟨_, (rs r0), trivial⟩⟩⟩⟩⟩ ⟨(ms m0), trivial⟩)
              rintro ⟨s48, A48_0, n48_0, c48_0, _⟩ e48
              dsimp only at e48 ⊢
              subst e48
              have h := ho48
              refine wc_know (fun _ h => h.lenO (ms (ms (ms (ms m0))))) (fun e => ?_)
              subst e
              refine wc_region ?_   -- region 20
              refine wl_det rfl rfl (det_add rfl rfl) rfl ?_
              refine wl_det rfl rfl (det_move rfl) rfl ?_
              refine wl_nil ?_
              replace h := Option.some.inj h
              subst h
              exact pn_some (k42, (s48, (w64 (s42.2 + 1))), A48_0, s48.length, c48_0, ()) ⟨nextL g42, Nat.lt_succ_self _⟩ ⟨rfl, rfl, rfl, rfl, rfl, rfl, rfl, rfl, trivial⟩ (fun _ h => h.to ⟨_, r0, ⟨_, r0, ⟨_, r0, ⟨_, r0, ⟨_, r0, trivial⟩⟩⟩⟩⟩ ⟨m0, trivial⟩)
            · have h := ifF h cd46
              refine wc_exit ?_
              refine px_then ?_
              refine px_then ?_
              refine px_block ?_
              replace h := Option.some.inj h
              subst h
              replace g42 := nextR g42
              subst g42
              exact pn_meetG (s42.1, A42_0, s42.1.length, c42_0, ()) rfl ⟨rfl, rfl, trivial⟩ (fun _ h => h.to ⟨_, (rs (rs r0)), ⟨_, (rs (rs r0)), ⟨_, (rs (rs r0)), trivial⟩⟩⟩ trivial)
          rintro ⟨s38, A38_0, n38_0, c38_0, _⟩ e38
          dsimp only at e38 ⊢
          subst e38
          have h := ho38
          refine wc_know (fun _ h => h.lenO (ms (ms m0))) (fun e => ?_)
          subst e
          refine wc_seq ?_
          refine wc_region ?_   -- region 21
          refine wl_det rfl rfl (det_loadN (cells := [_, _, _, _, _, _, _, _]) rfl (ms m0) (by rfl) ag77 sz77) rfl ?_
          refine wl_act0 (act_store (cells := [_, _, _, _, _, _, _, _]) (cs' := [_, _, _, _, _, _, _, _]) rfl rfl rfl s0 (by rfl) (of_decide_eq_true rfl) sz77 ⟨rfl, rfl, rfl, rfl, rfl, rfl, rfl, rfl, trivial⟩) rfl rfl ?_
          rintro _ _ _ ⟨rfl, rfl⟩
          refine wl_det rfl rfl (det_assign rfl) rfl ?_
          refine wl_nil ?_
          refine pn_then ?_
          refine wc_ret ?_
          replace h := Option.some.inj h
          subst h
          refine pn_ret (vs := [_, _]) rfl ⟨⟨_, _, [_, _, _, _, _, _, _, _], rfl, m0, ag77, sz77, rfl⟩, rfl, trivial⟩ ⟨A38_0, s38.length, c38_0, rfl, rfl, rfl⟩ (fun _ h => h.to ⟨_, (rs (rs r0)), trivial⟩ trivial)
def Q_treatyref33_SamePostings (r : Bool) : Value → List Ent → List Fact → Prop := fun v θ κ => v = .bool r ∧ θ = [] ∧ κ = []
theorem plains_treatyref33_SamePostings {r : Bool} : ∀ v θ κ, Q_treatyref33_SamePostings r v θ κ → Plains θ := by
  rintro _ _ _ ⟨rfl, rfl, rfl⟩
  exact trivial
set_option maxHeartbeats 4000000 in
set_option maxRecDepth 100000 in
theorem W_treatyref33_SamePostings (a0 : (List GPosting)) (a1 : (List GPosting)) (A0 : Option Addr) (n0 : Nat) (c0 : Nat) (A3 : Option Addr) (n3 : Nat) (c3 : Nat) (r : Bool) (h : treatyref33_SamePostings a0 a1 = some r) : Spec Try.prog 37 [.slice A0 n0 c0, .slice A3 n3 c3] [] [fV (lSlice lGPosting) (.slice A0 n0 c0) a0, fV (lSlice lGPosting) (.slice A3 n3 c3) a1] (Q_treatyref33_SamePostings r) := by
  unfold treatyref33_SamePostings at h
  refine spec_of (σ := [(0, _), (1, _)]) Try.func37 rfl rfl rfl rfl ?_
  intro C
  refine wc_know (fun _ h => h.lenF m0) (fun e => ?_)
  subst e
  refine wc_know (fun _ h => h.lenF (ms m0)) (fun e => ?_)
  subst e
  refine wc_seq ?_
  refine wc_region ?_   -- region 0
  refine wl_det rfl rfl (det_assign rfl) rfl ?_
  refine wl_nil ?_
  refine pn_then ?_
  refine wc_seq ?_
  refine wc_seq ?_
  refine wc_region ?_   -- region 1
  refine wl_det rfl rfl (det_move rfl) rfl ?_
  refine wl_det rfl rfl (det_len rfl un23) rfl ?_
  refine wl_det rfl rfl (det_move rfl) rfl ?_
  refine wl_det rfl rfl (det_len rfl un23) rfl ?_
  refine wl_det rfl rfl (det_neq rfl rfl) rfl ?_
  refine wl_nil ?_
  refine pn_then ?_
  refine wc_cond rfl (fun cd5 => ?_) (fun cd5 => ?_)
  · have h := ifT h cd5
    refine wc_seq ?_
    refine wc_region ?_   -- region 2
    refine wl_det rfl rfl (det_assign rfl) rfl ?_
    refine wl_nil ?_
    refine pn_then ?_
    refine wc_ret ?_
    refine pr_then ?_
    replace h := Option.some.inj h
    subst h
    refine pn_ret (vs := [_]) rfl ⟨rfl, trivial⟩ ⟨rfl, rfl, rfl⟩ (fun _ h => h.to trivial trivial)
  · have h := ifF h cd5
    refine wc_skip ?_
    refine pn_then ?_
    obtain ⟨q8, h, ho8⟩ := bind_some h
    refine wc_meetG (G := Unit × Unit) (fun (s8, _) => (.inl s8) = q8) (fun (_, _) => []) (fun (_, _) => []) (fun (_, _) => []) ?_ ?_
    · refine wc_seq ?_
      refine wc_region ?_   -- region 3
      refine wl_det rfl rfl (det_move rfl) rfl ?_
      refine wl_det rfl rfl (det_len rfl un23) rfl ?_
      refine wl_det rfl rfl (det_move rfl) rfl ?_
      refine wl_nil ?_
      refine pn_then ?_
      refine wc_block ?_
      obtain ⟨o12, h, ho12⟩ := bind_some h
      obtain ⟨k12, hk12⟩ := loopV_some.1 h
      refine wc_loop (G := Nat × Int × Unit) (fun g => IterN (treatyref33_SamePostings_l12 a0 a1) g.1 g.2.1 o12) (fun g => g.1) (fun (_, s12, _) => [(0, .slice A0 a0.length c0), (1, .slice A3 a1.length c3), (12, .int .i64 (a0.length : Int)), (13, .int .i64 s12)]) (fun (_, _, _) => []) (fun (_, _, _) => [fV (lSlice lGPosting) (.slice A0 a0.length c0) a0, fV (lSlice lGPosting) (.slice A3 a1.length c3) a1]) (k12, 0, ()) hk12 ⟨rfl, rfl, rfl, rfl, trivial⟩ (fun _ h => h.to trivial ⟨m0, ⟨(ms m0), trivial⟩⟩) ?_
      rintro ⟨k12, s12, _⟩ hI
      obtain ⟨k12, rfl, q12, h, g12⟩ := IterN.pos hI
      dsimp only at h ⊢
      unfold treatyref33_SamePostings_l12 at h
      refine wc_seq ?_
      refine wc_region ?_   -- region 4
      refine wl_det rfl rfl (det_lss rfl rfl) rfl ?_
      refine wl_nil ?_
      refine pn_then ?_
      refine wc_seq ?_
      refine wc_cond rfl (fun cd16 => ?_) (fun cd16 => ?_)
      · have h := ifT h cd16
        refine wc_skip ?_
        refine pn_then ?_
        refine wc_seq ?_
        refine wc_block ?_
        refine wc_seq ?_
        refine wc_region ?_   -- region 5
        refine wl_det rfl rfl (det_move rfl) rfl ?_
        refine wl_det rfl rfl (det_assign rfl) rfl ?_
        refine wl_nil ?_
        refine pn_then ?_
        refine wc_seq ?_
        obtain ⟨k6_p1, h⟩ := chk_some h
        refine wc_st (fun _ h => h.openF m0 k6_p1) ?_
        obtain ⟨k6_p3, h⟩ := chk_some h
        refine wc_st (fun _ h => h.openF (ms (ms m0)) k6_p3) ?_
        refine dx_region 9 [[], [], [0, 1], [0, 1, 2], [], [], [4, 5], [4, 5, 6], [0, 1, 2, 3, 4, 5, 6, 7]] mixed (ord := (.det 0 (.det 1 (.det 2 (.det 3 (.det 4 (.det 5 (.det 6 (.det 7 (.det 8 .done)))))))))) (by kernel_rfl) ?_   -- region 6
        refine hx_det rfl rfl rfl nofun (det_move rfl) rfl ?_
        refine hx_det rfl rfl rfl nofun (det_move rfl) rfl ?_
        refine hx_det rfl rfl rfl nofun (det_indexP rfl rfl (ms (ms m0)) k6_p1 (ms m0) un23 sz73) rfl ?_
        refine hx_det rfl rfl rfl nofun (det_loadP (off := 0) rfl (ms m0) (by rfl) (by rfl) (loaded_n (cells := [_, _, _, _, _, _, _]) ag73 sz73)) rfl ?_
        refine hx_det rfl rfl rfl nofun (det_move rfl) rfl ?_
        refine hx_det rfl rfl rfl nofun (det_move rfl) rfl ?_
        refine hx_det rfl rfl rfl nofun (det_indexP rfl rfl (ms (ms (ms m0))) k6_p3 m0 un23 sz73) rfl ?_
        refine hx_det rfl rfl rfl nofun (det_loadP (off := 0) rfl m0 (by rfl) (by rfl) (loaded_n (cells := [_, _, _, _, _, _, _]) ag73 sz73)) rfl ?_
        refine hx_det rfl rfl rfl nofun (det_neqS [_, _, _, _, _, _, _] [_, _, _, _, _, _, _] eq73 rfl rfl rfl rfl) rfl ?_
        refine hx_end ?_
        refine wl_nil ?_
        refine pn_then ?_
        refine wc_cond rfl (fun cd24 => ?_) (fun cd24 => ?_)
        · have h := ifT h cd24
          refine wc_seq ?_
          refine wc_region ?_   -- region 7
          refine wl_det rfl rfl (det_assign rfl) rfl ?_
          refine wl_nil ?_
          refine pn_then ?_
          refine wc_ret ?_
          refine pr_block ?_
          refine pr_then ?_
          refine pr_then ?_
          refine pr_block ?_
          refine pr_then ?_
          replace h := Option.some.inj h
          subst h
          replace g12 := nextR g12
          subst g12
          have h := (elimL ho12)
          replace h := Option.some.inj h
          subst h
          have h := (elimR ho8)
          replace h := Option.some.inj h
          subst h
          refine pn_ret (vs := [_]) rfl ⟨rfl, trivial⟩ ⟨rfl, rfl, rfl⟩ (fun _ h => h.to trivial trivial)
        · have h := ifF h cd24
          refine wc_skip ?_
          refine pn_block ?_
          refine pn_then ?_
          refine wc_region ?_   -- region 8
          refine wl_det rfl rfl (det_add rfl rfl) rfl ?_
          refine wl_det rfl rfl (det_move rfl) rfl ?_
          refine wl_nil ?_
          replace h := Option.some.inj h
          subst h
          exact pn_some (k12, (w64 (s12 + 1)), ()) ⟨nextL g12, Nat.lt_succ_self _⟩ ⟨rfl, rfl, rfl, rfl, trivial⟩ (fun _ h => h.to trivial ⟨(ms (ms m0)), ⟨(ms (ms (ms m0))), trivial⟩⟩)
      · have h := ifF h cd16
        refine wc_exit ?_
        refine px_then ?_
        refine px_then ?_
        refine px_block ?_
        replace h := Option.some.inj h
        subst h
        replace g12 := nextR g12
        subst g12
        have h := (elimR ho12)
        replace h := Option.some.inj h
        subst h
        exact pn_meetG ((), ()) rfl trivial (fun _ h => h.to trivial trivial)
    rintro ⟨s8, _⟩ e8
    dsimp only at e8 ⊢
    subst e8
    have h := (elimL ho8)
    refine wc_seq ?_
    refine wc_region ?_   -- region 9
    refine wl_det rfl rfl (det_assign rfl) rfl ?_
    refine wl_nil ?_
    refine pn_then ?_
    refine wc_ret ?_
    replace h := Option.some.inj h
    subst h
    refine pn_ret (vs := [_]) rfl ⟨rfl, trivial⟩ ⟨rfl, rfl, rfl⟩ (fun _ h => h.to trivial trivial)
def Q_treatyref33_SameStatement (r : Bool) : Value → List Ent → List Fact → Prop := fun v θ κ => v = .bool r ∧ θ = [] ∧ κ = []
theorem plains_treatyref33_SameStatement {r : Bool} : ∀ v θ κ, Q_treatyref33_SameStatement r v θ κ → Plains θ := by
  rintro _ _ _ ⟨rfl, rfl, rfl⟩
  exact trivial
set_option maxHeartbeats 4000000 in
set_option maxRecDepth 100000 in
theorem W_treatyref33_SameStatement (a0 : GStatement) (a1 : GStatement) (A0 : Option Addr) (n0 : Nat) (c0 : Nat) (A3 : Option Addr) (n3 : Nat) (c3 : Nat) (r : Bool) (h : treatyref33_SameStatement a0 a1 = some r) : Spec Try.prog 50 [.agg #[.int .i64 a0.Treaty, .int .i64 a0.Party, .int .i64 a0.Period, .int .i64 a0.Opening.Due, .int .i64 a0.Opening.Reserve, .slice A0 n0 c0, .int .i64 a0.Closing.Due, .int .i64 a0.Closing.Reserve], .agg #[.int .i64 a1.Treaty, .int .i64 a1.Party, .int .i64 a1.Period, .int .i64 a1.Opening.Due, .int .i64 a1.Opening.Reserve, .slice A3 n3 c3, .int .i64 a1.Closing.Due, .int .i64 a1.Closing.Reserve]] [] [fV (lSlice lGPosting) (.slice A0 n0 c0) a0.Postings, fV (lSlice lGPosting) (.slice A3 n3 c3) a1.Postings] (Q_treatyref33_SameStatement r) := by
  unfold treatyref33_SameStatement at h
  refine spec_of (σ := [(0, _), (1, _)]) Try.func50 rfl rfl rfl rfl ?_
  intro C
  refine wc_know (fun _ h => h.lenF m0) (fun e => ?_)
  subst e
  refine wc_know (fun _ h => h.lenF (ms m0)) (fun e => ?_)
  subst e
  refine wc_seq ?_
  refine wc_region ?_   -- region 0
  refine wl_act (act_box (cs := [_, _, _, _, _, _, _, _]) rfl rfl) rfl rfl rfl ?_
  rintro _ _ _ ⟨b0_0, rfl, rfl, rfl⟩
  refine wl_act (act_box (cs := [_, _, _, _, _, _, _, _]) rfl rfl) rfl rfl rfl ?_
  rintro _ _ _ ⟨b0_1, rfl, rfl, rfl⟩
  refine wl_det rfl rfl (det_assign rfl) rfl ?_
  refine wl_nil ?_
  refine pn_then ?_
  refine wc_seq ?_
  refine wc_region ?_   -- region 1
  refine wl_det rfl rfl (det_field rfl fd77_0 rfl) rfl ?_
  refine wl_det rfl rfl (det_load rfl (ms m0) (by rfl) na3 us3) rfl ?_
  refine wl_det rfl rfl (det_field rfl fd77_0 rfl) rfl ?_
  refine wl_det rfl rfl (det_load rfl m0 (by rfl) na3 us3) rfl ?_
  refine wl_det rfl rfl (det_eql rfl rfl) rfl ?_
  refine wl_det rfl rfl (det_move rfl) rfl ?_
  refine wl_way (decide (a0.Treaty = a1.Treaty)) ((decide (a0.Treaty = a1.Treaty)) && (decide (a0.Party = a1.Party))) 6 16 (fun hg => ?_) (fun hg => ?_) ?_
  · have hg1_11 := hg
    refine wl_on rfl rfl rfl rfl hg1_11 ?_
    refine wl_det rfl rfl (det_field rfl fd77_1 rfl) rfl ?_
    refine wl_on rfl rfl rfl rfl hg1_11 ?_
    refine wl_det rfl rfl (det_load rfl (ms m0) (by rfl) na3 us3) rfl ?_
    refine wl_on rfl rfl rfl rfl hg1_11 ?_
    refine wl_det rfl rfl (det_field rfl fd77_1 rfl) rfl ?_
    refine wl_on rfl rfl rfl rfl hg1_11 ?_
    refine wl_det rfl rfl (det_load rfl m0 (by rfl) na3 us3) rfl ?_
    refine wl_on rfl rfl rfl rfl hg1_11 ?_
    refine wl_det rfl rfl (det_eql rfl rfl) rfl ?_
    refine wl_det rfl rfl (det_and_on rfl rfl rfl hg1_11) rfl ?_
    exact wl_nil (pn_qnE (ext_cons rfl (ext_skip rfl (ext_skip rfl (ext_skip rfl (ext_skip rfl (ext_skip rfl (ext_skip rfl ext_refl))))))) (fun _ h => h))
  · have hg1_11a := hg
    refine wl_off rfl rfl rfl rfl rfl hg1_11a rfl ?_
    refine wl_off rfl rfl rfl rfl rfl hg1_11a rfl ?_
    refine wl_off rfl rfl rfl rfl rfl hg1_11a rfl ?_
    refine wl_off rfl rfl rfl rfl rfl hg1_11a rfl ?_
    refine wl_off rfl rfl rfl rfl rfl hg1_11a rfl ?_
    refine wl_det rfl rfl (det_and_off (q := (decide (a0.Party = a1.Party))) rfl rfl rfl hg1_11a) rfl ?_
    exact wl_nil (pn_qnE (ext_cons rfl (ext_skip rfl (ext_skip rfl (ext_skip rfl (ext_skip rfl (ext_skip rfl (ext_skip rfl ext_refl))))))) (fun _ h => h))
  refine wl_det rfl rfl (det_move rfl) rfl ?_
  refine wl_way ((decide (a0.Treaty = a1.Treaty)) && (decide (a0.Party = a1.Party))) (((decide (a0.Treaty = a1.Treaty)) && (decide (a0.Party = a1.Party))) && (decide (a0.Period = a1.Period))) 6 23 (fun hg => ?_) (fun hg => ?_) ?_
  · have hg1_18 := hg
    refine wl_on rfl rfl rfl rfl hg1_18 ?_
    refine wl_det rfl rfl (det_field rfl fd77_2 rfl) rfl ?_
    refine wl_on rfl rfl rfl rfl hg1_18 ?_
    refine wl_det rfl rfl (det_load rfl (ms m0) (by rfl) na3 us3) rfl ?_
    refine wl_on rfl rfl rfl rfl hg1_18 ?_
    refine wl_det rfl rfl (det_field rfl fd77_2 rfl) rfl ?_
    refine wl_on rfl rfl rfl rfl hg1_18 ?_
    refine wl_det rfl rfl (det_load rfl m0 (by rfl) na3 us3) rfl ?_
    refine wl_on rfl rfl rfl rfl hg1_18 ?_
    refine wl_det rfl rfl (det_eql rfl rfl) rfl ?_
    refine wl_det rfl rfl (det_and_on rfl rfl rfl hg1_18) rfl ?_
    exact wl_nil (pn_qnE (ext_cons rfl (ext_skip rfl (ext_skip rfl (ext_skip rfl (ext_skip rfl (ext_skip rfl (ext_skip rfl ext_refl))))))) (fun _ h => h))
  · have hg1_18a := hg
    refine wl_off rfl rfl rfl rfl rfl hg1_18a rfl ?_
    refine wl_off rfl rfl rfl rfl rfl hg1_18a rfl ?_
    refine wl_off rfl rfl rfl rfl rfl hg1_18a rfl ?_
    refine wl_off rfl rfl rfl rfl rfl hg1_18a rfl ?_
    refine wl_off rfl rfl rfl rfl rfl hg1_18a rfl ?_
    refine wl_det rfl rfl (det_and_off (q := (decide (a0.Period = a1.Period))) rfl rfl rfl hg1_18a) rfl ?_
    exact wl_nil (pn_qnE (ext_cons rfl (ext_skip rfl (ext_skip rfl (ext_skip rfl (ext_skip rfl (ext_skip rfl (ext_skip rfl ext_refl))))))) (fun _ h => h))
  refine wl_det rfl rfl (det_move rfl) rfl ?_
  refine wl_way (((decide (a0.Treaty = a1.Treaty)) && (decide (a0.Party = a1.Party))) && (decide (a0.Period = a1.Period))) ((((decide (a0.Treaty = a1.Treaty)) && (decide (a0.Party = a1.Party))) && (decide (a0.Period = a1.Period))) && (decide ([a0.Opening.Due, a0.Opening.Reserve] = [a1.Opening.Due, a1.Opening.Reserve]))) 6 30 (fun hg => ?_) (fun hg => ?_) ?_
  · have hg1_25 := hg
    refine wl_on rfl rfl rfl rfl hg1_25 ?_
    refine wl_det rfl rfl (det_field rfl fd77_3 rfl) rfl ?_
    refine wl_on rfl rfl rfl rfl hg1_25 ?_
    refine wl_det rfl rfl (det_loadN (cells := [_, _]) rfl (ms m0) (by rfl) ag30 sz30) rfl ?_
    refine wl_on rfl rfl rfl rfl hg1_25 ?_
    refine wl_det rfl rfl (det_field rfl fd77_3 rfl) rfl ?_
    refine wl_on rfl rfl rfl rfl hg1_25 ?_
    refine wl_det rfl rfl (det_loadN (cells := [_, _]) rfl m0 (by rfl) ag30 sz30) rfl ?_
    refine wl_on rfl rfl rfl rfl hg1_25 ?_
    refine wl_det rfl rfl (det_eqlS [_, _] [_, _] eq30 rfl rfl rfl rfl) rfl ?_
    refine wl_det rfl rfl (det_and_on rfl rfl rfl hg1_25) rfl ?_
    exact wl_nil (pn_qnE (ext_cons rfl (ext_skip rfl (ext_skip rfl (ext_skip rfl (ext_skip rfl (ext_skip rfl (ext_skip rfl ext_refl))))))) (fun _ h => h))
  · have hg1_25a := hg
    refine wl_off rfl rfl rfl rfl rfl hg1_25a rfl ?_
    refine wl_off rfl rfl rfl rfl rfl hg1_25a rfl ?_
    refine wl_off rfl rfl rfl rfl rfl hg1_25a rfl ?_
    refine wl_off rfl rfl rfl rfl rfl hg1_25a rfl ?_
    refine wl_off rfl rfl rfl rfl rfl hg1_25a rfl ?_
    refine wl_det rfl rfl (det_and_off (q := (decide ([a0.Opening.Due, a0.Opening.Reserve] = [a1.Opening.Due, a1.Opening.Reserve]))) rfl rfl rfl hg1_25a) rfl ?_
    exact wl_nil (pn_qnE (ext_cons rfl (ext_skip rfl (ext_skip rfl (ext_skip rfl (ext_skip rfl (ext_skip rfl (ext_skip rfl ext_refl))))))) (fun _ h => h))
  refine wl_det rfl rfl (det_move rfl) rfl ?_
  refine wl_way ((((decide (a0.Treaty = a1.Treaty)) && (decide (a0.Party = a1.Party))) && (decide (a0.Period = a1.Period))) && (decide ([a0.Opening.Due, a0.Opening.Reserve] = [a1.Opening.Due, a1.Opening.Reserve]))) (((((decide (a0.Treaty = a1.Treaty)) && (decide (a0.Party = a1.Party))) && (decide (a0.Period = a1.Period))) && (decide ([a0.Opening.Due, a0.Opening.Reserve] = [a1.Opening.Due, a1.Opening.Reserve]))) && (decide ([a0.Closing.Due, a0.Closing.Reserve] = [a1.Closing.Due, a1.Closing.Reserve]))) 6 37 (fun hg => ?_) (fun hg => ?_) ?_
  · have hg1_32 := hg
    refine wl_on rfl rfl rfl rfl hg1_32 ?_
    refine wl_det rfl rfl (det_field rfl fd77_5 rfl) rfl ?_
    refine wl_on rfl rfl rfl rfl hg1_32 ?_
    refine wl_det rfl rfl (det_loadN (cells := [_, _]) rfl (ms m0) (by rfl) ag30 sz30) rfl ?_
    refine wl_on rfl rfl rfl rfl hg1_32 ?_
    refine wl_det rfl rfl (det_field rfl fd77_5 rfl) rfl ?_
    refine wl_on rfl rfl rfl rfl hg1_32 ?_
    refine wl_det rfl rfl (det_loadN (cells := [_, _]) rfl m0 (by rfl) ag30 sz30) rfl ?_
    refine wl_on rfl rfl rfl rfl hg1_32 ?_
    refine wl_det rfl rfl (det_eqlS [_, _] [_, _] eq30 rfl rfl rfl rfl) rfl ?_
    refine wl_det rfl rfl (det_and_on rfl rfl rfl hg1_32) rfl ?_
    exact wl_nil (pn_qnE (ext_cons rfl (ext_skip rfl (ext_skip rfl (ext_skip rfl (ext_skip rfl (ext_skip rfl (ext_skip rfl ext_refl))))))) (fun _ h => h))
  · have hg1_32a := hg
    refine wl_off rfl rfl rfl rfl rfl hg1_32a rfl ?_
    refine wl_off rfl rfl rfl rfl rfl hg1_32a rfl ?_
    refine wl_off rfl rfl rfl rfl rfl hg1_32a rfl ?_
    refine wl_off rfl rfl rfl rfl rfl hg1_32a rfl ?_
    refine wl_off rfl rfl rfl rfl rfl hg1_32a rfl ?_
    refine wl_det rfl rfl (det_and_off (q := (decide ([a0.Closing.Due, a0.Closing.Reserve] = [a1.Closing.Due, a1.Closing.Reserve]))) rfl rfl rfl hg1_32a) rfl ?_
    exact wl_nil (pn_qnE (ext_cons rfl (ext_skip rfl (ext_skip rfl (ext_skip rfl (ext_skip rfl (ext_skip rfl (ext_skip rfl ext_refl))))))) (fun _ h => h))
  refine wl_det rfl rfl (det_move rfl) rfl ?_
  obtain ⟨q1_39, hq1_39, h⟩ := bind_some h
  have ho1_39 := h
  refine wl_way (((((decide (a0.Treaty = a1.Treaty)) && (decide (a0.Party = a1.Party))) && (decide (a0.Period = a1.Period))) && (decide ([a0.Opening.Due, a0.Opening.Reserve] = [a1.Opening.Due, a1.Opening.Reserve]))) && (decide ([a0.Closing.Due, a0.Closing.Reserve] = [a1.Closing.Due, a1.Closing.Reserve]))) q1_39 6 44 (fun hg => ?_) (fun hg => ?_) ?_
  · have hg1_39 := hg
    have h := ifT hq1_39 hg
    refine wl_on rfl rfl rfl rfl hg1_39 ?_
    refine wl_det rfl rfl (det_field rfl fd77_4 rfl) rfl ?_
    refine wl_on rfl rfl rfl rfl hg1_39 ?_
    refine wl_det rfl rfl (det_load rfl (ms m0) (by rfl) na23 us23) rfl ?_
    refine wl_on rfl rfl rfl rfl hg1_39 ?_
    refine wl_det rfl rfl (det_field rfl fd77_4 rfl) rfl ?_
    refine wl_on rfl rfl rfl rfl hg1_39 ?_
    refine wl_det rfl rfl (det_load rfl m0 (by rfl) na23 us23) rfl ?_
    refine wl_on rfl rfl rfl rfl hg1_39 ?_
    obtain ⟨r1_38, hr1_38, h⟩ := bind_some h
    refine wl_act (act_callS (cap := []) (W_treatyref33_SamePostings a0.Postings a1.Postings A0 a0.Postings.length c0 A3 a1.Postings.length c3 r1_38 hr1_38) rfl rfl rfl bd37 rfl ⟨m0, ⟨(ms m0), trivial⟩⟩) rfl rfl rfl ?_
    rintro _ _ _ ⟨_, _, ⟨rfl, rfl, rfl⟩, rfl, rfl⟩
    dsimp only [List.nil_append, List.cons_append]
    replace h := Option.some.inj h
    subst h
    refine wl_det rfl rfl (det_pick_on rfl hg1_39 rfl rfl) rfl ?_
    exact wl_nil (pn_qnE (ext_cons rfl (ext_skip rfl (ext_skip rfl (ext_skip rfl (ext_skip rfl (ext_skip rfl (ext_skip rfl ext_refl))))))) (fun _ h => h))
  · have hg1_39a := hg
    have h := ifF hq1_39 hg
    refine wl_off rfl rfl rfl rfl rfl hg1_39a rfl ?_
    refine wl_off rfl rfl rfl rfl rfl hg1_39a rfl ?_
    refine wl_off rfl rfl rfl rfl rfl hg1_39a rfl ?_
    refine wl_off rfl rfl rfl rfl rfl hg1_39a rfl ?_
    refine wl_off rfl rfl rfl rfl rfl hg1_39a rfl ?_
    replace h := Option.some.inj h
    subst h
    refine wl_det rfl rfl (det_pick_off rfl hg1_39a rfl rfl) rfl ?_
    exact wl_nil (pn_qnE (ext_cons rfl (ext_skip rfl (ext_skip rfl (ext_skip rfl (ext_skip rfl (ext_skip rfl (ext_skip rfl ext_refl))))))) (fun _ h => h))
  have h := ho1_39
  refine wl_det rfl rfl (det_assign rfl) rfl ?_
  refine wl_nil ?_
  refine pn_then ?_
  refine wc_ret ?_
  replace h := Option.some.inj h
  subst h
  refine pn_ret (vs := [_]) rfl ⟨rfl, trivial⟩ ⟨rfl, rfl, rfl⟩ (fun _ h => h.to trivial trivial)
def Q_treatylaw34_awake (r : Bool) : Value → List Ent → List Fact → Prop := fun v θ κ => v = .bool r ∧ θ = [] ∧ κ = []
theorem plains_treatylaw34_awake {r : Bool} : ∀ v θ κ, Q_treatylaw34_awake r v θ κ → Plains θ := by
  rintro _ _ _ ⟨rfl, rfl, rfl⟩
  exact trivial
set_option maxHeartbeats 4000000 in
set_option maxRecDepth 100000 in
theorem W_treatylaw34_awake (r : Bool) (h : treatylaw34_awake = some r) : Spec Try.prog 19 [] [] [] (Q_treatylaw34_awake r) := by
  unfold treatylaw34_awake at h
  refine spec_of (σ := []) Try.func19 rfl rfl rfl rfl ?_
  intro C
  refine wc_seq ?_
  refine wc_region ?_   -- region 0
  refine wl_det rfl rfl (det_assign rfl) rfl ?_
  refine wl_nil ?_
  refine pn_then ?_
  refine wc_seq ?_
  refine wc_region ?_   -- region 1
  refine wl_det rfl rfl (det_build (cs := [_, _, _, _, _]) pl41 zr41 rfl rfl (by rfl)) rfl ?_
  refine wl_det rfl rfl (det_build (cs := [_, _, _, _, _]) pl41 zr41 rfl rfl (by rfl)) rfl ?_
  refine wl_act (act_alloc (cs := [_, _, _, _, _]) zr41 rfl) rfl rfl rfl ?_
  rintro _ _ _ ⟨b1_2, rfl, rfl, rfl⟩
  refine wl_act (act_alloc (cs := [_, _, _, _, _]) zr41 rfl) rfl rfl rfl ?_
  rintro _ _ _ ⟨b1_3, rfl, rfl, rfl⟩
  refine wl_act0 (act_store (cells := [_, _, _, _, _]) (cs' := [_, _, _, _, _]) rfl rfl rfl (ss s0) (by rfl) (of_decide_eq_true rfl) sz41 ⟨rfl, rfl, rfl, rfl, rfl, trivial⟩) rfl rfl ?_
  rintro _ _ _ ⟨rfl, rfl⟩
  refine wl_act0 (act_store (cells := [_, _, _, _, _]) (cs' := [_, _, _, _, _]) rfl rfl rfl s0 (by rfl) (of_decide_eq_true rfl) sz41 ⟨rfl, rfl, rfl, rfl, rfl, trivial⟩) rfl rfl ?_
  rintro _ _ _ ⟨rfl, rfl⟩
  refine wl_nil ?_
  refine pn_then ?_
  refine wc_seq ?_
  refine wc_region ?_   -- region 2
  refine wl_det rfl rfl (det_loadN (cells := [_, _, _, _, _]) rfl (ms m0) (by rfl) ag41 sz41) rfl ?_
  refine wl_det rfl rfl (det_build (cs := [_, _, _, _, _, _, _]) pl73 zr73 rfl rfl (by rfl)) rfl ?_
  refine wl_det rfl rfl (det_loadN (cells := [_, _, _, _, _]) rfl m0 (by rfl) ag41 sz41) rfl ?_
  refine wl_det rfl rfl (det_build (cs := [_, _, _, _, _, _, _]) pl73 zr73 rfl rfl (by rfl)) rfl ?_
  refine wl_act (act_litS lGPosting (vs := [_, _]) (cs := [_, _, _, _, _, _, _, _, _, _, _, _, _, _]) [(GPosting.mk 1 0 (GEntry.mk 1 5 2 7 100)), (GPosting.mk 2 1 (GEntry.mk 1 5 2 7 (-20)))] un23 in73 rfl rfl rfl rfl rfl ⟨rfl, rfl, trivial⟩ (by rfl) rfl (litR_flat rfl)) rfl rfl rfl ?_
  rintro _ _ _ ⟨A2_4, rfl, rfl, rfl⟩
  refine wl_det rfl rfl (det_build (cs := [_, _]) pl25 zr25 rfl rfl (by rfl)) rfl ?_
  refine wl_act (act_alloc (cs := [_, _]) zr25 rfl) rfl rfl rfl ?_
  rintro _ _ _ ⟨b2_6, rfl, rfl, rfl⟩
  refine wl_act0 (act_store (cells := [_, _]) (cs' := [_, _]) rfl rfl rfl s0 (by rfl) (of_decide_eq_true rfl) sz25 ⟨rfl, rfl, trivial⟩) rfl rfl ?_
  rintro _ _ _ ⟨rfl, rfl⟩
  refine wl_nil ?_
  refine pn_then ?_
  refine wc_seq ?_
  refine wc_region ?_   -- region 3
  refine wl_det rfl rfl (det_loadN (cells := [_, _]) rfl m0 (by rfl) ag25 sz25) rfl ?_
  obtain ⟨r3_1, hr3_1, h⟩ := bind_some h
  refine wl_act (act_callL (cap := []) [eS lGPosting 73 A2_4 2 2 [(GPosting.mk 1 0 (GEntry.mk 1 5 2 7 100)), (GPosting.mk 2 1 (GEntry.mk 1 5 2 7 (-20)))]] (W_account_Statement (GLedger.mk 1 [(GPosting.mk 1 0 (GEntry.mk 1 5 2 7 100)), (GPosting.mk 2 1 (GEntry.mk 1 5 2 7 (-20)))]) 5 2 1 A2_4 2 2 r3_1 hr3_1) plains_account_Statement rfl rfl rfl bd49 rfl ⟨(ms m0), trivial⟩ ⟨.inr ⟨_, m0, lent_eS⟩, trivial⟩) rfl rfl rfl ?_
  rintro _ _ _ ⟨_, _, ⟨y3_1A0, y3_1n0, y3_1c0, rfl, rfl, rfl⟩, rfl, rfl⟩
  dsimp only [List.nil_append, List.cons_append]
  refine wl_know (fun _ h => h.lenO m0) (fun e => ?_)
  subst e
  refine wl_det rfl rfl (det_move rfl) rfl ?_
  refine wl_det rfl rfl (det_extract rfl rfl) rfl ?_
  refine wl_det rfl rfl (det_extract rfl rfl) rfl ?_
  refine wl_act (act_alloc (cs := [_, _, _, _, _, _, _, _]) zr77 rfl) rfl rfl rfl ?_
  rintro _ _ _ ⟨b3_5, rfl, rfl, rfl⟩
  refine wl_act0 (act_store (cells := [_, _, _, _, _, _, _, _]) (cs' := [_, _, _, _, _, _, _, _]) rfl rfl rfl s0 (by rfl) (of_decide_eq_true rfl) sz77 ⟨rfl, rfl, rfl, rfl, rfl, rfl, rfl, rfl, trivial⟩) rfl rfl ?_
  rintro _ _ _ ⟨rfl, rfl⟩
  refine wl_det rfl rfl (det_assign rfl) rfl ?_
  refine wl_nil ?_
  refine pn_then ?_
  obtain ⟨q8, h, ho8⟩ := bind_some h
  refine wc_meetG (G := Bool × Unit) (fun (s8, _) => s8 = q8) (fun (s8, _) => [(0, .bool s8)]) (fun (_, _) => []) (fun (_, _) => []) ?_ ?_
  · rcases Bool.eq_false_or_eq_true (decide (r3_1.2 = 0)) with hg4_g21 | hg4_g21
    · have h := ifT h hg4_g21
      refine wc_st (fun _ h => h.shutS (rs (rs (rs r0)))) ?_
      obtain ⟨k4_p1, h⟩ := chk_some h
      refine dx_region 12 [[], [0], [0, 1], [0, 1, 2], [0, 1, 2], [0, 1, 2], [0, 1, 2, 5], [0, 1, 2, 5, 6], [0, 1, 2], [0, 1, 2, 4, 5, 6, 7, 8], [0, 1, 2, 3, 4, 5, 6, 7, 8, 9], [0, 1, 2, 3, 4, 5, 6, 7, 8, 9, 10], [0, 1, 2, 3, 4, 5, 6, 7, 8, 9, 10, 11]] mixed (ord := (.det 0 (.det 1 (.det 2 (.det 3 (.det 4 (.det 5 (.det 6 (.det 8 (.alt 7 (.det 9 (.alt 10 (.det 11 .done) .dead)) .dead)))))))))) (by kernel_rfl) ?_   -- region 4
      refine hx_det rfl rfl rfl nofun (det_move rfl) rfl ?_
      refine hx_det rfl rfl rfl nofun (det_eql rfl rfl) rfl ?_
      refine hx_det rfl rfl rfl nofun (det_move rfl) rfl ?_
      refine hx_on rfl rfl rfl rfl rfl hg4_g21 nofun (det_loadN (cells := [_, _, _, _, _, _, _, _]) rfl m0 (by rfl) ag77 sz77) rfl ?_
      refine hx_on rfl rfl rfl rfl rfl hg4_g21 nofun (det_build (cs := [_, _]) pl30 zr30 rfl rfl (by rfl)) rfl ?_
      refine hx_on rfl rfl rfl rfl rfl hg4_g21 nofun (det_field rfl fd25_1 rfl) rfl ?_
      refine hx_on rfl rfl rfl rfl rfl hg4_g21 nofun (det_load rfl (ms (ms m0)) (by rfl) na23 us23) rfl ?_
      refine hx_on rfl rfl rfl rfl rfl hg4_g21 nofun (det_build (cs := [_, _]) pl30 zr30 rfl rfl (by rfl)) rfl ?_
      refine hx_actG rfl rfl rfl rfl rfl hg4_g21 (act_sliceL rfl rfl m0 un23 sz73 rfl rfl k4_p1) rfl (by rintro _ _ _ ⟨A4_7, c4_7, rfl, rfl, rfl⟩; first | exact ⟨_ :: [], [], rfl, rfl⟩ | exact ⟨[], [_], rfl, rfl⟩ | exact ⟨[], [], rfl, rfl⟩) ?_
      rintro _ _ _ ⟨A4_7, c4_7, rfl, rfl, rfl⟩
      refine hx_on rfl rfl rfl rfl rfl hg4_g21 nofun (det_build (cs := [_, _, _, _, _, _, _, _]) pl77 zr77 rfl rfl (by rfl)) rfl ?_
      obtain ⟨r4_10, hr4_10, h⟩ := bind_some h
      refine hx_actG rfl rfl rfl rfl rfl hg4_g21 (act_callL (cap := []) [eS lGPosting 73 y3_1A0 r3_1.1.Postings.length y3_1c0 r3_1.1.Postings] (W_treatyref33_SameStatement r3_1.1 (GStatement.mk 5 2 1 (GBalance.mk 100 0) ([(GPosting.mk 1 0 (GEntry.mk 1 5 2 7 100)), (GPosting.mk 2 1 (GEntry.mk 1 5 2 7 (-20)))].drop (1 : Int).toNat) (GBalance.mk 80 0)) y3_1A0 r3_1.1.Postings.length y3_1c0 A4_7 ([(GPosting.mk 1 0 (GEntry.mk 1 5 2 7 100)), (GPosting.mk 2 1 (GEntry.mk 1 5 2 7 (-20)))].drop (1 : Int).toNat).length c4_7 r4_10 hr4_10) plains_treatyref33_SameStatement rfl rfl rfl bd50 rfl ⟨(ms m0), trivial⟩ ⟨.inr ⟨_, m0, lent_eS⟩, ⟨.inl m0, trivial⟩⟩) rfl (by rintro _ _ _ ⟨_, _, _, rfl, rfl⟩; first | exact ⟨_, _, rfl, rfl⟩ | exact ⟨_, [], rfl, rfl⟩) ?_
      rintro _ _ _ ⟨_, _, ⟨rfl, rfl, rfl⟩, rfl, rfl⟩
      dsimp only [List.nil_append, List.cons_append]
      refine hx_det rfl rfl rfl nofun (det_pick_on rfl hg4_g21 rfl rfl) rfl ?_
      refine hx_end ?_
      refine wl_det rfl rfl (det_assign rfl) rfl ?_
      refine wl_nil ?_
      replace h := Option.some.inj h
      subst h
      exact pn_meetG (r4_10, ()) rfl ⟨rfl, trivial⟩ (fun _ h => h.to trivial trivial)
    · have h := ifF h hg4_g21
      refine dx_region 12 [[], [0], [0, 1], [0, 1, 2], [0, 1, 2], [0, 1, 2], [0, 1, 2, 5], [0, 1, 2, 5, 6], [0, 1, 2], [0, 1, 2, 4, 5, 6, 7, 8], [0, 1, 2, 3, 4, 5, 6, 7, 8, 9], [0, 1, 2, 3, 4, 5, 6, 7, 8, 9, 10], [0, 1, 2, 3, 4, 5, 6, 7, 8, 9, 10, 11]] mixed (ord := (.det 0 (.det 1 (.det 2 (.det 3 (.det 4 (.det 5 (.det 6 (.det 7 (.det 8 (.det 9 (.det 10 (.det 11 .done))))))))))))) (by kernel_rfl) ?_   -- region 4
      refine hx_det rfl rfl rfl nofun (det_move rfl) rfl ?_
      refine hx_det rfl rfl rfl nofun (det_eql rfl rfl) rfl ?_
      refine hx_det rfl rfl rfl nofun (det_move rfl) rfl ?_
      refine hx_off rfl rfl rfl rfl rfl hg4_g21 rfl ?_
      refine hx_off rfl rfl rfl rfl rfl hg4_g21 rfl ?_
      refine hx_off rfl rfl rfl rfl rfl hg4_g21 rfl ?_
      refine hx_off rfl rfl rfl rfl rfl hg4_g21 rfl ?_
      refine hx_off rfl rfl rfl rfl rfl hg4_g21 rfl ?_
      refine hx_off rfl rfl rfl rfl rfl hg4_g21 rfl ?_
      refine hx_off rfl rfl rfl rfl rfl hg4_g21 rfl ?_
      refine hx_off rfl rfl rfl rfl rfl hg4_g21 rfl ?_
      refine hx_det rfl rfl rfl nofun (det_pick_off rfl hg4_g21 rfl rfl) rfl ?_
      refine hx_end ?_
      refine wl_det rfl rfl (det_assign rfl) rfl ?_
      refine wl_nil ?_
      replace h := Option.some.inj h
      subst h
      exact pn_meetG (false, ()) rfl ⟨rfl, trivial⟩ (fun _ h => h.to trivial trivial)
  rintro ⟨s8, _⟩ e8
  dsimp only at e8 ⊢
  subst e8
  have h := ho8
  refine wc_ret ?_
  replace h := Option.some.inj h
  subst h
  refine pn_ret (vs := [_]) rfl ⟨rfl, trivial⟩ ⟨rfl, rfl, rfl⟩ (fun _ h => h.to trivial trivial)
def Q_treatylaw34_AccountParties (r : Bool) : Value → List Ent → List Fact → Prop := fun v θ κ => v = .bool r ∧ θ = [] ∧ κ = []
theorem plains_treatylaw34_AccountParties {r : Bool} : ∀ v θ κ, Q_treatylaw34_AccountParties r v θ κ → Plains θ := by
  rintro _ _ _ ⟨rfl, rfl, rfl⟩
  exact trivial
set_option maxHeartbeats 4000000 in
set_option maxRecDepth 100000 in
theorem W_treatylaw34_AccountParties (a0 : (List Int)) (A0 : Option Addr) (n0 : Nat) (c0 : Nat) (r : Bool) (h : treatylaw34_AccountParties a0 = some r) : Spec Try.prog 3 [.slice A0 n0 c0] [] [fV (lSlice (lInt .i64)) (.slice A0 n0 c0) a0] (Q_treatylaw34_AccountParties r) := by
  unfold treatylaw34_AccountParties at h
  refine spec_of (σ := [(0, _)]) Try.func3 rfl rfl rfl rfl ?_
  intro C
  refine wc_know (fun _ h => h.lenF m0) (fun e => ?_)
  subst e
  refine wc_seq ?_
  refine wc_region ?_   -- region 0
  refine wl_det rfl rfl (det_assign rfl) rfl ?_
  refine wl_nil ?_
  refine pn_then ?_
  refine wc_seq ?_
  refine wc_region ?_   -- region 1
  refine wl_det rfl rfl (det_move rfl) rfl ?_
  obtain ⟨r1_1, hr1_1, h⟩ := bind_some h
  refine wl_act (act_callS (cap := []) (W_treatymade2_New a0 A0 a0.length c0 r1_1 hr1_1) rfl rfl rfl bd14 rfl ⟨m0, trivial⟩) rfl rfl rfl ?_
  rintro _ _ _ ⟨_, _, ⟨y1_1b0, y1_1A1, y1_1n1, y1_1c1, rfl, rfl, rfl⟩, rfl, rfl⟩
  dsimp only [List.nil_append, List.cons_append]
  refine wl_know (fun _ h => h.lenF m0) (fun e => ?_)
  subst e
  obtain ⟨r1_2, hr1_2, h⟩ := bind_some h
  refine wl_act (act_callS (cap := []) (W_treatymade2_Ledger r1_1 8 y1_1b0 y1_1A1 r1_1.L.length y1_1c1 r1_2 hr1_2) rfl rfl rfl bd13 ⟨_, r0, rfl⟩ ⟨m0, trivial⟩) rfl rfl rfl ?_
  rintro _ _ _ ⟨_, _, ⟨y1_2A0, y1_2n0, y1_2c0, y1_2A1, y1_2n1, y1_2c1, rfl, rfl, rfl⟩, rfl, rfl⟩
  dsimp only [List.nil_append, List.cons_append]
  refine wl_know (fun _ h => h.lenF m0) (fun e => ?_)
  subst e
  refine wl_know (fun _ h => h.lenF (ms m0)) (fun e => ?_)
  subst e
  refine wl_act (act_alloc (cs := [_, _]) zr25 rfl) rfl rfl rfl ?_
  rintro _ _ _ ⟨b1_3, rfl, rfl, rfl⟩
  refine wl_act0 (act_store (cells := [_, _]) (cs' := [_, _]) rfl rfl rfl s0 (by rfl) (of_decide_eq_true rfl) sz25 ⟨rfl, rfl, trivial⟩) rfl rfl ?_
  rintro _ _ _ ⟨rfl, rfl⟩
  refine wl_nil ?_
  refine pn_then ?_
  refine wc_seq ?_
  refine wc_region ?_   -- region 2
  refine wl_det rfl rfl (det_assign rfl) rfl ?_
  refine wl_nil ?_
  refine pn_then ?_
  refine wc_seq ?_
  refine wc_region ?_   -- region 3
  refine wl_act (act_alloc (cs := [_, _]) zr30 rfl) rfl rfl rfl ?_
  rintro _ _ _ ⟨b3_0, rfl, rfl, rfl⟩
  refine wl_nil ?_
  refine pn_then ?_
  obtain ⟨q8, h, ho8⟩ := bind_some h
  refine wc_meetG (G := (Int × Int × Int) × Unit) (fun (s8, _) => (.inl s8) = q8) (fun (s8, _) => [(3, .pointer (some ⟨b1_3, 0, none⟩)), (4, .int .i64 s8.1), (5, .pointer (some ⟨b3_0, 0, none⟩))]) (fun (s8, _) => [eBlk b1_3 25 [.int .i64 r1_2.1.Closed, .slice y1_2A0 r1_2.1.Postings.length y1_2c0], eBlk b3_0 30 [.int .i64 s8.2.1, .int .i64 s8.2.2]]) (fun (_, _) => [fV (lSlice lGPosting) (.slice y1_2A0 r1_2.1.Postings.length y1_2c0) r1_2.1.Postings]) ?_ ?_
  · refine wc_seq ?_
    refine wc_region ?_   -- region 4
    refine wl_det rfl rfl (det_assign rfl) rfl ?_
    refine wl_nil ?_
    refine pn_then ?_
    refine wc_block ?_
    obtain ⟨o12, h, ho12⟩ := bind_some h
    obtain ⟨k12, hk12⟩ := loopV_some.1 h
    refine wc_loop (G := Nat × (Int × Int × Int × Int) × Unit) (fun g => IterN (treatylaw34_AccountParties_l12 r1_2) g.1 g.2.1 o12) (fun g => g.1) (fun (_, s12, _) => [(3, .pointer (some ⟨b1_3, 0, none⟩)), (4, .int .i64 s12.1), (5, .pointer (some ⟨b3_0, 0, none⟩)), (6, .int .i64 s12.2.2.2)]) (fun (_, s12, _) => [eBlk b1_3 25 [.int .i64 r1_2.1.Closed, .slice y1_2A0 r1_2.1.Postings.length y1_2c0], eBlk b3_0 30 [.int .i64 s12.2.1, .int .i64 s12.2.2.1]]) (fun (_, _, _) => [fV (lSlice lGPosting) (.slice y1_2A0 r1_2.1.Postings.length y1_2c0) r1_2.1.Postings]) (k12, (0, 0, 0, 0), ()) hk12 ⟨rfl, rfl, rfl, rfl, trivial⟩ (fun _ h => h.to ⟨_, (rs r0), ⟨_, r0, trivial⟩⟩ ⟨m0, trivial⟩) ?_
    rintro ⟨k12, s12, _⟩ hI
    obtain ⟨k12, rfl, q12, h, g12⟩ := IterN.pos hI
    dsimp only at h ⊢
    unfold treatylaw34_AccountParties_l12 at h
    refine wc_seq ?_
    refine wc_seq ?_
    refine wc_region ?_   -- region 5
    refine wl_det rfl rfl (det_move rfl) rfl ?_
    refine wl_det rfl rfl (det_leq rfl rfl) rfl ?_
    refine wl_nil ?_
    refine pn_then ?_
    refine wc_cond rfl (fun cd16 => ?_) (fun cd16 => ?_)
    · have h := ifT h cd16
      refine wc_skip ?_
      refine pn_then ?_
      obtain ⟨q18, h, ho18⟩ := bind_some h
      refine wc_meetG (G := (Int × Int × Int) × Unit) (fun (s18, _) => (.inl s18) = q18) (fun (s18, _) => [(3, .pointer (some ⟨b1_3, 0, none⟩)), (4, .int .i64 s18.1), (5, .pointer (some ⟨b3_0, 0, none⟩)), (6, .int .i64 s12.2.2.2)]) (fun (s18, _) => [eBlk b1_3 25 [.int .i64 r1_2.1.Closed, .slice y1_2A0 r1_2.1.Postings.length y1_2c0], eBlk b3_0 30 [.int .i64 s18.2.1, .int .i64 s18.2.2]]) (fun (_, _) => [fV (lSlice lGPosting) (.slice y1_2A0 r1_2.1.Postings.length y1_2c0) r1_2.1.Postings]) ?_ ?_
      · refine wc_block ?_
        refine wc_seq ?_
        refine wc_region ?_   -- region 7
        refine wl_det rfl rfl (det_loadN (cells := [_, _]) rfl m0 (by rfl) ag25 sz25) rfl ?_
        refine wl_det rfl rfl (det_move rfl) rfl ?_
        obtain ⟨r7_2, hr7_2, h⟩ := bind_some h
        refine wl_act (act_callS (cap := []) (W_account_Extract r1_2.1 s12.2.2.2 y1_2A0 r1_2.1.Postings.length y1_2c0 r7_2 hr7_2) rfl rfl rfl bd15 rfl ⟨m0, trivial⟩) rfl rfl rfl ?_
        rintro _ _ _ ⟨_, _, ⟨y7_2A0, y7_2n0, y7_2c0, rfl, rfl, rfl⟩, rfl, rfl⟩
        dsimp only [List.nil_append, List.cons_append]
        refine wl_know (fun _ h => h.lenO m0) (fun e => ?_)
        subst e
        refine wl_det rfl rfl (det_move rfl) rfl ?_
        refine wl_det rfl rfl (det_extract rfl rfl) rfl ?_
        refine wl_det rfl rfl (det_extract rfl rfl) rfl ?_
        refine wl_act (act_alloc (cs := [_, _]) zr25 rfl) rfl rfl rfl ?_
        rintro _ _ _ ⟨b7_6, rfl, rfl, rfl⟩
        refine wl_act0 (act_store (cells := [_, _]) (cs' := [_, _]) rfl rfl rfl s0 (by rfl) (of_decide_eq_true rfl) sz25 ⟨rfl, rfl, trivial⟩) rfl rfl ?_
        rintro _ _ _ ⟨rfl, rfl⟩
        refine wl_det rfl rfl (det_assign rfl) rfl ?_
        refine wl_nil ?_
        refine pn_then ?_
        refine wc_seq ?_
        refine wc_seq ?_
        refine wc_region ?_   -- region 8
        refine wl_det rfl rfl (det_move rfl) rfl ?_
        refine wl_det rfl rfl (det_neq rfl rfl) rfl ?_
        refine wl_det rfl rfl (det_move rfl) rfl ?_
        refine wl_way (!decide (r7_2.2 = 0)) ((!decide (r7_2.2 = 0)) || (!decide (r7_2.1.Closed = r1_2.1.Closed))) 6 39 (fun hg => ?_) (fun hg => ?_) ?_
        · have hg8_8 := hg
          refine wl_off rfl rfl rfl rfl rfl hg8_8 rfl ?_
          refine wl_off rfl rfl rfl rfl rfl hg8_8 rfl ?_
          refine wl_off rfl rfl rfl rfl rfl hg8_8 rfl ?_
          refine wl_off rfl rfl rfl rfl rfl hg8_8 rfl ?_
          refine wl_off rfl rfl rfl rfl rfl hg8_8 rfl ?_
          refine wl_det rfl rfl (det_or_on (r := (!decide (r7_2.1.Closed = r1_2.1.Closed))) rfl rfl rfl hg8_8) rfl ?_
          exact wl_nil (pn_qnE (ext_cons rfl (ext_skip rfl (ext_skip rfl (ext_skip rfl (ext_skip rfl (ext_skip rfl (ext_skip rfl ext_refl))))))) (fun _ h => h))
        · have hg8_8a := hg
          refine wl_on rfl rfl rfl rfl hg8_8a ?_
          refine wl_det rfl rfl (det_field rfl fd25_0 rfl) rfl ?_
          refine wl_on rfl rfl rfl rfl hg8_8a ?_
          refine wl_det rfl rfl (det_load rfl m0 (by rfl) na3 us3) rfl ?_
          refine wl_on rfl rfl rfl rfl hg8_8a ?_
          refine wl_det rfl rfl (det_field rfl fd25_0 rfl) rfl ?_
          refine wl_on rfl rfl rfl rfl hg8_8a ?_
          refine wl_det rfl rfl (det_load rfl (ms (ms m0)) (by rfl) na3 us3) rfl ?_
          refine wl_on rfl rfl rfl rfl hg8_8a ?_
          refine wl_det rfl rfl (det_neq rfl rfl) rfl ?_
          refine wl_det rfl rfl (det_or_off rfl rfl rfl hg8_8a) rfl ?_
          exact wl_nil (pn_qnE (ext_cons rfl (ext_skip rfl (ext_skip rfl (ext_skip rfl (ext_skip rfl (ext_skip rfl (ext_skip rfl ext_refl))))))) (fun _ h => h))
        refine wl_det rfl rfl (det_move rfl) rfl ?_
        obtain ⟨q8_13, hq8_13, h⟩ := bind_some h
        have ho8_13 := h
        refine wl_way ((!decide (r7_2.2 = 0)) || (!decide (r7_2.1.Closed = r1_2.1.Closed))) q8_13 4 44 (fun hg => ?_) (fun hg => ?_) ?_
        · have hg8_13 := hg
          have h := ifT hq8_13 hg
          refine wl_off rfl rfl rfl rfl rfl hg8_13 rfl ?_
          refine wl_off rfl rfl rfl rfl rfl hg8_13 rfl ?_
          refine wl_off rfl rfl rfl rfl rfl hg8_13 rfl ?_
          replace h := Option.some.inj h
          subst h
          refine wl_det rfl rfl (det_pick_on rfl hg8_13 rfl rfl) rfl ?_
          exact wl_nil (pn_qnE (ext_cons rfl (ext_skip rfl (ext_skip rfl (ext_skip rfl (ext_skip rfl ext_refl))))) (fun _ h => h))
        · have hg8_13a := hg
          have h := ifF hq8_13 hg
          refine wl_on rfl rfl rfl rfl hg8_13a ?_
          refine wl_det rfl rfl (det_loadN (cells := [_, _]) rfl m0 (by rfl) ag25 sz25) rfl ?_
          refine wl_on rfl rfl rfl rfl hg8_13a ?_
          obtain ⟨r8_11, hr8_11, h⟩ := bind_some h
          refine wl_act (act_callL (cap := []) [eS lGPosting 73 y7_2A0 r7_2.1.Postings.length y7_2c0 r7_2.1.Postings] (W_ledger_Validate r7_2.1 y7_2A0 r7_2.1.Postings.length y7_2c0 r8_11 hr8_11) plains_ledger_Validate rfl rfl rfl bd16 rfl ⟨(ms m0), trivial⟩ ⟨.inr ⟨_, m0, lent_eS⟩, trivial⟩) rfl rfl rfl ?_
          rintro _ _ _ ⟨_, _, ⟨rfl, rfl, rfl⟩, rfl, rfl⟩
          dsimp only [List.nil_append, List.cons_append]
          refine wl_on rfl rfl rfl rfl hg8_13a ?_
          refine wl_det rfl rfl (det_neq rfl rfl) rfl ?_
          replace h := Option.some.inj h
          subst h
          refine wl_det rfl rfl (det_pick_off rfl hg8_13a rfl rfl) rfl ?_
          exact wl_nil (pn_qnE (ext_cons rfl (ext_skip rfl (ext_skip rfl (ext_skip rfl (ext_skip rfl ext_refl))))) (fun _ h => h))
        have h := ho8_13
        refine wl_nil ?_
        refine pn_then ?_
        refine wc_cond rfl (fun cd25 => ?_) (fun cd25 => ?_)
        · have h := ifT h cd25
          refine wc_seq ?_
          refine wc_region ?_   -- region 9
          refine wl_det rfl rfl (det_assign rfl) rfl ?_
          refine wl_nil ?_
          refine pn_then ?_
          refine wc_ret ?_
          refine pr_then ?_
          refine pr_block ?_
          refine pr_then ?_
          refine pr_then ?_
          refine pr_block ?_
          refine pr_then ?_
          replace h := Option.some.inj h
          subst h
          have h := (elimR ho18)
          replace h := Option.some.inj h
          subst h
          replace g12 := nextR g12
          subst g12
          have h := (elimL ho12)
          replace h := Option.some.inj h
          subst h
          have h := (elimR ho8)
          replace h := Option.some.inj h
          subst h
          refine pn_ret (vs := [_]) rfl ⟨rfl, trivial⟩ ⟨rfl, rfl, rfl⟩ (fun _ h => h.to trivial trivial)
        · have h := ifF h cd25
          refine wc_skip ?_
          refine pn_then ?_
          refine wc_seq ?_
          refine wc_region ?_   -- region 10
          refine wl_det rfl rfl (det_move rfl) rfl ?_
          refine wl_det rfl rfl (det_field rfl fd25_1 rfl) rfl ?_
          refine wl_det rfl rfl (det_load rfl m0 (by rfl) na23 us23) rfl ?_
          refine wl_det rfl rfl (det_len rfl un23) rfl ?_
          refine wl_det rfl rfl (det_add rfl rfl) rfl ?_
          refine wl_det rfl rfl (det_assign rfl) rfl ?_
          refine wl_nil ?_
          refine pn_then ?_
          refine wc_seq ?_
          refine wc_region ?_   -- region 11
          refine wl_det rfl rfl (det_assign rfl) rfl ?_
          refine wl_nil ?_
          refine pn_then ?_
          refine wc_block ?_
          obtain ⟨o33, h, ho33⟩ := bind_some h
          obtain ⟨k33, hk33⟩ := loopV_some.1 h
          refine wc_loop (G := Nat × (Int × Int × Int) × Unit) (fun g => IterN (treatylaw34_AccountParties_l33 r1_2 s12 r7_2) g.1 g.2.1 o33) (fun g => g.1) (fun (_, s33, _) => [(3, .pointer (some ⟨b1_3, 0, none⟩)), (4, .int .i64 (w64 (s12.1 + (r7_2.1.Postings.length : Int)))), (5, .pointer (some ⟨b3_0, 0, none⟩)), (6, .int .i64 s12.2.2.2), (7, .pointer (some ⟨b7_6, 0, none⟩)), (9, .int .i64 s33.2.2)]) (fun (_, s33, _) => [eBlk b1_3 25 [.int .i64 r1_2.1.Closed, .slice y1_2A0 r1_2.1.Postings.length y1_2c0], eBlk b3_0 30 [.int .i64 s33.1, .int .i64 s33.2.1], eBlk b7_6 25 [.int .i64 r7_2.1.Closed, .slice y7_2A0 r7_2.1.Postings.length y7_2c0], eS lGPosting 73 y7_2A0 r7_2.1.Postings.length y7_2c0 r7_2.1.Postings]) (fun (_, _, _) => [fV (lSlice lGPosting) (.slice y1_2A0 r1_2.1.Postings.length y1_2c0) r1_2.1.Postings]) (k33, (s12.2.1, s12.2.2.1, 0), ()) hk33 ⟨rfl, rfl, rfl, rfl, rfl, rfl, trivial⟩ (fun _ h => h.to ⟨_, (rs (rs r0)), ⟨_, (rs (rs r0)), ⟨_, r0, ⟨_, r0, trivial⟩⟩⟩⟩ ⟨m0, trivial⟩) ?_
          rintro ⟨k33, s33, _⟩ hI
          obtain ⟨k33, rfl, q33, h, g33⟩ := IterN.pos hI
          dsimp only at h ⊢
          unfold treatylaw34_AccountParties_l33 at h
          refine wc_seq ?_
          refine wc_seq ?_
          refine wc_region ?_   -- region 12
          refine wl_det rfl rfl (det_move rfl) rfl ?_
          refine wl_det rfl rfl (det_lss rfl rfl) rfl ?_
          refine wl_nil ?_
          refine pn_then ?_
          refine wc_cond rfl (fun cd37 => ?_) (fun cd37 => ?_)
          · have h := ifT h cd37
            refine wc_skip ?_
            refine pn_then ?_
            refine wc_seq ?_
            refine wc_block ?_
            refine wc_seq ?_
            refine wc_region ?_   -- region 14
            refine wl_det rfl rfl (det_loadN (cells := [_, _]) rfl m0 (by rfl) ag25 sz25) rfl ?_
            refine wl_det rfl rfl (det_move rfl) rfl ?_
            refine wl_det rfl rfl (det_move rfl) rfl ?_
            obtain ⟨r14_3, hr14_3, h⟩ := bind_some h
            refine wl_act (act_callS (cap := []) (W_account_Balance r1_2.1 s33.2.2 s12.2.2.2 y1_2A0 r1_2.1.Postings.length y1_2c0 r14_3 hr14_3) rfl rfl rfl bd17 rfl ⟨m0, trivial⟩) rfl rfl rfl ?_
            rintro _ _ _ ⟨_, _, ⟨rfl, rfl, rfl⟩, rfl, rfl⟩
            dsimp only [List.nil_append, List.cons_append]
            refine wl_det rfl rfl (det_move rfl) rfl ?_
            refine wl_det rfl rfl (det_extract rfl rfl) rfl ?_
            refine wl_det rfl rfl (det_extract rfl rfl) rfl ?_
            refine wl_act (act_alloc (cs := [_, _]) zr30 rfl) rfl rfl rfl ?_
            rintro _ _ _ ⟨b14_7, rfl, rfl, rfl⟩
            refine wl_act0 (act_store (cells := [_, _]) (cs' := [_, _]) rfl rfl rfl s0 (by rfl) (of_decide_eq_true rfl) sz30 ⟨rfl, rfl, trivial⟩) rfl rfl ?_
            rintro _ _ _ ⟨rfl, rfl⟩
            refine wl_det rfl rfl (det_assign rfl) rfl ?_
            refine wl_nil ?_
            refine pn_then ?_
            refine wc_seq ?_
            refine wc_region ?_   -- region 15
            refine wl_det rfl rfl (det_loadN (cells := [_, _]) rfl (ms (ms (ms m0))) (by rfl) ag25 sz25) rfl ?_
            refine wl_det rfl rfl (det_move rfl) rfl ?_
            refine wl_det rfl rfl (det_move rfl) rfl ?_
            obtain ⟨r15_3, hr15_3, h⟩ := bind_some h
            refine wl_act (act_callL (cap := []) [eS lGPosting 73 y7_2A0 r7_2.1.Postings.length y7_2c0 r7_2.1.Postings] (W_account_Balance r7_2.1 s33.2.2 s12.2.2.2 y7_2A0 r7_2.1.Postings.length y7_2c0 r15_3 hr15_3) plains_account_Balance rfl rfl rfl bd17 rfl ⟨(ms (ms (ms (ms m0)))), trivial⟩ ⟨.inr ⟨_, m0, lent_eS⟩, trivial⟩) rfl rfl rfl ?_
            rintro _ _ _ ⟨_, _, ⟨rfl, rfl, rfl⟩, rfl, rfl⟩
            dsimp only [List.nil_append, List.cons_append]
            refine wl_det rfl rfl (det_move rfl) rfl ?_
            refine wl_det rfl rfl (det_extract rfl rfl) rfl ?_
            refine wl_det rfl rfl (det_extract rfl rfl) rfl ?_
            refine wl_act (act_alloc (cs := [_, _]) zr30 rfl) rfl rfl rfl ?_
            rintro _ _ _ ⟨b15_7, rfl, rfl, rfl⟩
            refine wl_act0 (act_store (cells := [_, _]) (cs' := [_, _]) rfl rfl rfl s0 (by rfl) (of_decide_eq_true rfl) sz30 ⟨rfl, rfl, trivial⟩) rfl rfl ?_
            rintro _ _ _ ⟨rfl, rfl⟩
            refine wl_det rfl rfl (det_assign rfl) rfl ?_
            refine wl_nil ?_
            refine pn_then ?_
            refine wc_seq ?_
            refine wc_seq ?_
            refine wc_region ?_   -- region 16
            refine wl_det rfl rfl (det_move rfl) rfl ?_
            refine wl_det rfl rfl (det_neq rfl rfl) rfl ?_
            refine wl_det rfl rfl (det_move rfl) rfl ?_
            refine wl_way (!decide (r14_3.2 = 0)) ((!decide (r14_3.2 = 0)) || (!decide (r15_3.2 = 0))) 3 73 (fun hg => ?_) (fun hg => ?_) ?_
            · have hg16_5 := hg
              refine wl_off rfl rfl rfl rfl rfl hg16_5 rfl ?_
              refine wl_off rfl rfl rfl rfl rfl hg16_5 rfl ?_
              refine wl_det rfl rfl (det_or_on (r := (!decide (r15_3.2 = 0))) rfl rfl rfl hg16_5) rfl ?_
              exact wl_nil (pn_qnE (ext_cons rfl (ext_skip rfl (ext_skip rfl (ext_skip rfl ext_refl)))) (fun _ h => h))
            · have hg16_5a := hg
              refine wl_on rfl rfl rfl rfl hg16_5a ?_
              refine wl_det rfl rfl (det_move rfl) rfl ?_
              refine wl_on rfl rfl rfl rfl hg16_5a ?_
              refine wl_det rfl rfl (det_neq rfl rfl) rfl ?_
              refine wl_det rfl rfl (det_or_off rfl rfl rfl hg16_5a) rfl ?_
              exact wl_nil (pn_qnE (ext_cons rfl (ext_skip rfl (ext_skip rfl (ext_skip rfl ext_refl)))) (fun _ h => h))
            refine wl_det rfl rfl (det_move rfl) rfl ?_
            refine wl_way ((!decide (r14_3.2 = 0)) || (!decide (r15_3.2 = 0))) (((!decide (r14_3.2 = 0)) || (!decide (r15_3.2 = 0))) || (!(decide ([r14_3.1.Due, r14_3.1.Reserve] = [r15_3.1.Due, r15_3.1.Reserve])))) 4 78 (fun hg => ?_) (fun hg => ?_) ?_
            · have hg16_10 := hg
              refine wl_off rfl rfl rfl rfl rfl hg16_10 rfl ?_
              refine wl_off rfl rfl rfl rfl rfl hg16_10 rfl ?_
              refine wl_off rfl rfl rfl rfl rfl hg16_10 rfl ?_
              refine wl_det rfl rfl (det_or_on (r := (!(decide ([r14_3.1.Due, r14_3.1.Reserve] = [r15_3.1.Due, r15_3.1.Reserve])))) rfl rfl rfl hg16_10) rfl ?_
              exact wl_nil (pn_qnE (ext_cons rfl (ext_skip rfl (ext_skip rfl (ext_skip rfl (ext_skip rfl ext_refl))))) (fun _ h => h))
            · have hg16_10a := hg
              refine wl_on rfl rfl rfl rfl hg16_10a ?_
              refine wl_det rfl rfl (det_loadN (cells := [_, _]) rfl (ms m0) (by rfl) ag30 sz30) rfl ?_
              refine wl_on rfl rfl rfl rfl hg16_10a ?_
              refine wl_det rfl rfl (det_loadN (cells := [_, _]) rfl m0 (by rfl) ag30 sz30) rfl ?_
              refine wl_on rfl rfl rfl rfl hg16_10a ?_
              refine wl_det rfl rfl (det_neqS [_, _] [_, _] eq30 rfl rfl rfl rfl) rfl ?_
              refine wl_det rfl rfl (det_or_off rfl rfl rfl hg16_10a) rfl ?_
              exact wl_nil (pn_qnE (ext_cons rfl (ext_skip rfl (ext_skip rfl (ext_skip rfl (ext_skip rfl ext_refl))))) (fun _ h => h))
            refine wl_nil ?_
            refine pn_then ?_
            refine wc_cond rfl (fun cd48 => ?_) (fun cd48 => ?_)
            · have h := ifT h cd48
              refine wc_seq ?_
              refine wc_region ?_   -- region 17
              refine wl_det rfl rfl (det_assign rfl) rfl ?_
              refine wl_nil ?_
              refine pn_then ?_
              refine wc_ret ?_
              refine pr_then ?_
              refine pr_block ?_
              refine pr_then ?_
              refine pr_then ?_
              refine pr_block ?_
              refine pr_block ?_
              refine pr_then ?_
              refine pr_then ?_
              refine pr_block ?_
              refine pr_then ?_
              replace h := Option.some.inj h
              subst h
              replace g33 := nextR g33
              subst g33
              have h := (elimL ho33)
              replace h := Option.some.inj h
              subst h
              have h := (elimR ho18)
              replace h := Option.some.inj h
              subst h
              replace g12 := nextR g12
              subst g12
              have h := (elimL ho12)
              replace h := Option.some.inj h
              subst h
              have h := (elimR ho8)
              replace h := Option.some.inj h
              subst h
              refine pn_ret (vs := [_]) rfl ⟨rfl, trivial⟩ ⟨rfl, rfl, rfl⟩ (fun _ h => h.to trivial trivial)
            · have h := ifF h cd48
              refine wc_skip ?_
              refine pn_then ?_
              refine dx_regionZ (Z := St C [_, _, _, _, _] [_]) 12 [[], [0], [], [2], [0, 1, 2, 3], [], [5], [], [7], [5, 6, 7, 8], [0, 1, 2, 3, 4, 5, 6], [0, 1, 2, 3, 4, 5, 6, 10], [0, 1, 2, 3, 4, 5, 6, 7, 8, 9, 10, 11], [0, 1, 2, 3, 4, 5, 6, 7, 8, 9, 10, 11, 12]] mixed (ord := (.det 0 (.det 1 (.det 2 (.det 3 (.det 4 (.det 5 (.det 6 (.det 7 (.det 8 (.det 9 (.det 10 (.alt 11 .done .dead))))))))))))) (by kernel_rfl) (fun _ h => h.to ⟨_, r0, ⟨_, r0, ⟨_, r0, ⟨_, (rs r0), ⟨_, (rs r0), trivial⟩⟩⟩⟩⟩ ⟨m0, trivial⟩) ?_   -- region 18
              refine hx_det rfl rfl rfl nofun (det_field rfl fd30_0 rfl) rfl ?_
              refine hx_now rfl rfl rfl nofun rfl (det_load rfl (ms (ms (ms m0))) (by rfl) na3 us3) rfl ?_
              refine hx_det rfl rfl rfl nofun (det_field rfl fd30_0 rfl) rfl ?_
              refine hx_det rfl rfl rfl nofun (det_load rfl (ms m0) (by rfl) na3 us3) rfl ?_
              refine hx_det rfl rfl rfl nofun (det_add rfl rfl) rfl ?_
              refine hx_det rfl rfl rfl nofun (det_field rfl fd30_1 rfl) rfl ?_
              refine hx_now rfl rfl rfl nofun rfl (det_load rfl (ms (ms (ms m0))) (by rfl) na3 us3) rfl ?_
              refine hx_det rfl rfl rfl nofun (det_field rfl fd30_1 rfl) rfl ?_
              refine hx_det rfl rfl rfl nofun (det_load rfl (ms m0) (by rfl) na3 us3) rfl ?_
              refine hx_det rfl rfl rfl nofun (det_add rfl rfl) rfl ?_
              refine hx_det rfl rfl rfl nofun (det_field rfl fd30_0 rfl) rfl ?_
              refine hx_mut0 rfl rfl rfl (act_store (cells := [_]) (cs' := [_, _]) rfl rfl rfl (ss (ss (ss s0))) (by rfl) (of_decide_eq_true rfl) sz3 ⟨rfl, trivial⟩) (by rintro _ _ _ ⟨rfl, rfl⟩ w hs; exact hs.to ⟨_, r0, ⟨_, r0, ⟨_, r0, ⟨_, (rs r0), ⟨_, (rs r0), trivial⟩⟩⟩⟩⟩ ⟨m0, trivial⟩) ?_
              rintro _ _ _ ⟨rfl, rfl⟩
              refine hx_end ?_
              refine wl_det rfl rfl (det_field rfl fd30_1 rfl) rfl ?_
              refine wl_act0 (act_store (cells := [_]) (cs' := [_, _]) rfl rfl rfl (ss (ss (ss s0))) (by rfl) (of_decide_eq_true rfl) sz3 ⟨rfl, trivial⟩) rfl rfl ?_
              rintro _ _ _ ⟨rfl, rfl⟩
              refine wl_nil ?_
              refine pn_block ?_
              refine pn_then ?_
              refine wc_region ?_   -- region 13
              refine wl_det rfl rfl (det_move rfl) rfl ?_
              refine wl_det rfl rfl (det_add rfl rfl) rfl ?_
              refine wl_det rfl rfl (det_assign rfl) rfl ?_
              refine wl_nil ?_
              replace h := Option.some.inj h
              subst h
              exact pn_some (k33, ((w64 (s33.1 + r14_3.1.Due)), (w64 (s33.2.1 + r14_3.1.Reserve)), (w64 (s33.2.2 + 1))), ()) ⟨nextL g33, Nat.lt_succ_self _⟩ ⟨rfl, rfl, rfl, rfl, rfl, rfl, trivial⟩ (fun _ h => h.to ⟨_, (rs (rs r0)), ⟨_, (rs (rs r0)), ⟨_, (rs (rs r0)), ⟨_, (rs (rs r0)), trivial⟩⟩⟩⟩ ⟨m0, trivial⟩)
          · have h := ifF h cd37
            refine wc_exit ?_
            refine px_then ?_
            refine px_then ?_
            refine px_block ?_
            refine pn_block ?_
            replace h := Option.some.inj h
            subst h
            replace g33 := nextR g33
            subst g33
            have h := (elimR ho33)
            replace h := Option.some.inj h
            subst h
            exact pn_meetG (((w64 (s12.1 + (r7_2.1.Postings.length : Int))), s33.1, s33.2.1), ()) rfl ⟨rfl, rfl, rfl, rfl, trivial⟩ (fun _ h => h.to ⟨_, r0, ⟨_, r0, trivial⟩⟩ ⟨m0, trivial⟩)
      rintro ⟨s18, _⟩ e18
      dsimp only at e18 ⊢
      subst e18
      have h := (elimL ho18)
      refine wc_region ?_   -- region 6
      refine wl_det rfl rfl (det_move rfl) rfl ?_
      refine wl_det rfl rfl (det_add rfl rfl) rfl ?_
      refine wl_det rfl rfl (det_assign rfl) rfl ?_
      refine wl_nil ?_
      replace h := Option.some.inj h
      subst h
      exact pn_some (k12, (s18.1, s18.2.1, s18.2.2, (w64 (s12.2.2.2 + 1))), ()) ⟨nextL g12, Nat.lt_succ_self _⟩ ⟨rfl, rfl, rfl, rfl, trivial⟩ (fun _ h => h.to ⟨_, r0, ⟨_, r0, trivial⟩⟩ ⟨m0, trivial⟩)
    · have h := ifF h cd16
      refine wc_exit ?_
      refine px_then ?_
      refine px_then ?_
      refine px_block ?_
      replace h := Option.some.inj h
      subst h
      replace g12 := nextR g12
      subst g12
      have h := (elimR ho12)
      replace h := Option.some.inj h
      subst h
      exact pn_meetG ((s12.1, s12.2.1, s12.2.2.1), ()) rfl ⟨rfl, rfl, rfl, trivial⟩ (fun _ h => h.to ⟨_, r0, ⟨_, r0, trivial⟩⟩ ⟨m0, trivial⟩)
  rintro ⟨s8, _⟩ e8
  dsimp only at e8 ⊢
  subst e8
  have h := (elimL ho8)
  refine wc_seq ?_
  refine wc_region ?_   -- region 19
  refine wl_det rfl rfl (det_loadN (cells := [_, _]) rfl m0 (by rfl) ag25 sz25) rfl ?_
  refine wl_det rfl rfl (det_field rfl fd25_0 rfl) rfl ?_
  refine wl_det rfl rfl (det_load rfl m0 (by rfl) na3 us3) rfl ?_
  refine wl_det rfl rfl (det_add rfl rfl) rfl ?_
  obtain ⟨r19_4, hr19_4, h⟩ := bind_some h
  refine wl_act (act_callS (cap := []) (W_ledger_Totals r1_2.1 (w64 (r1_2.1.Closed + 1)) y1_2A0 r1_2.1.Postings.length y1_2c0 r19_4 hr19_4) rfl rfl rfl bd18 rfl ⟨m0, trivial⟩) rfl rfl rfl ?_
  rintro _ _ _ ⟨_, _, ⟨y19_4A0, y19_4n0, y19_4c0, rfl, rfl, rfl⟩, rfl, rfl⟩
  dsimp only [List.nil_append, List.cons_append]
  refine wl_know (fun _ h => h.lenO m0) (fun e => ?_)
  subst e
  refine wl_det rfl rfl (det_move rfl) rfl ?_
  refine wl_det rfl rfl (det_extract rfl rfl) rfl ?_
  refine wl_det rfl rfl (det_extract rfl rfl) rfl ?_
  refine wl_det rfl rfl (det_assign rfl) rfl ?_
  refine wl_det rfl rfl (det_assign rfl) rfl ?_
  refine wl_nil ?_
  refine pn_then ?_
  refine wc_seq ?_
  refine wc_seq ?_
  refine wc_region ?_   -- region 20
  refine wl_det rfl rfl (det_move rfl) rfl ?_
  refine wl_det rfl rfl (det_neq rfl rfl) rfl ?_
  refine wl_nil ?_
  refine pn_then ?_
  refine wc_cond rfl (fun cd59 => ?_) (fun cd59 => ?_)
  · have h := ifT h cd59
    refine wc_seq ?_
    refine wc_region ?_   -- region 21
    refine wl_det rfl rfl (det_assign rfl) rfl ?_
    refine wl_nil ?_
    refine pn_then ?_
    refine wc_ret ?_
    refine pr_then ?_
    replace h := Option.some.inj h
    subst h
    refine pn_ret (vs := [_]) rfl ⟨rfl, trivial⟩ ⟨rfl, rfl, rfl⟩ (fun _ h => h.to trivial trivial)
  · have h := ifF h cd59
    refine wc_skip ?_
    refine pn_then ?_
    obtain ⟨q62, h, ho62⟩ := bind_some h
    refine wc_meetG (G := (Int × Int) × Unit) (fun (s62, _) => s62 = q62) (fun (_, _) => [(3, .pointer (some ⟨b1_3, 0, none⟩)), (4, .int .i64 s8.1), (5, .pointer (some ⟨b3_0, 0, none⟩))]) (fun (s62, _) => [eBlk b1_3 25 [.int .i64 r1_2.1.Closed, .slice y1_2A0 r1_2.1.Postings.length y1_2c0], eBlk b3_0 30 [.int .i64 s62.1, .int .i64 s62.2]]) (fun (_, _) => [fV (lSlice lGPosting) (.slice y1_2A0 r1_2.1.Postings.length y1_2c0) r1_2.1.Postings]) ?_ ?_
    · refine wc_seq ?_
      refine wc_region ?_   -- region 22
      refine wl_det rfl rfl (det_move rfl) rfl ?_
      refine wl_det rfl rfl (det_len rfl un37) rfl ?_
      refine wl_det rfl rfl (det_move rfl) rfl ?_
      refine wl_nil ?_
      refine pn_then ?_
      refine wc_block ?_
      obtain ⟨k66, hk66⟩ := loopV_some.1 h
      refine wc_loop (G := Nat × (Int × Int × Int) × Unit) (fun g => IterN (treatylaw34_AccountParties_l66 r19_4) g.1 g.2.1 q62) (fun g => g.1) (fun (_, s66, _) => [(3, .pointer (some ⟨b1_3, 0, none⟩)), (4, .int .i64 s8.1), (5, .pointer (some ⟨b3_0, 0, none⟩)), (101, .slice y19_4A0 r19_4.1.length y19_4c0), (102, .int .i64 (r19_4.1.length : Int)), (103, .int .i64 s66.2.2)]) (fun (_, s66, _) => [eBlk b1_3 25 [.int .i64 r1_2.1.Closed, .slice y1_2A0 r1_2.1.Postings.length y1_2c0], eBlk b3_0 30 [.int .i64 s66.1, .int .i64 s66.2.1], eS lGEntry 41 y19_4A0 r19_4.1.length y19_4c0 r19_4.1]) (fun (_, _, _) => [fV (lSlice lGPosting) (.slice y1_2A0 r1_2.1.Postings.length y1_2c0) r1_2.1.Postings]) (k66, (s8.2.1, s8.2.2, 0), ()) hk66 ⟨rfl, rfl, rfl, rfl, rfl, rfl, trivial⟩ (fun _ h => h.to ⟨_, (rs r0), ⟨_, (rs r0), ⟨_, r0, trivial⟩⟩⟩ ⟨m0, trivial⟩) ?_
      rintro ⟨k66, s66, _⟩ hI
      obtain ⟨k66, rfl, q66, h, g66⟩ := IterN.pos hI
      dsimp only at h ⊢
      unfold treatylaw34_AccountParties_l66 at h
      refine wc_seq ?_
      refine wc_region ?_   -- region 23
      refine wl_det rfl rfl (det_lss rfl rfl) rfl ?_
      refine wl_nil ?_
      refine pn_then ?_
      refine wc_seq ?_
      refine wc_cond rfl (fun cd70 => ?_) (fun cd70 => ?_)
      · have h := ifT h cd70
        refine wc_skip ?_
        refine pn_then ?_
        obtain ⟨q72, h, ho72⟩ := bind_some h
        refine wc_meetG (G := (Int × Int) × Unit) (fun (s72, _) => s72 = q72) (fun (_, _) => [(3, .pointer (some ⟨b1_3, 0, none⟩)), (4, .int .i64 s8.1), (5, .pointer (some ⟨b3_0, 0, none⟩)), (101, .slice y19_4A0 r19_4.1.length y19_4c0), (102, .int .i64 (r19_4.1.length : Int)), (103, .int .i64 s66.2.2)]) (fun (s72, _) => [eBlk b1_3 25 [.int .i64 r1_2.1.Closed, .slice y1_2A0 r1_2.1.Postings.length y1_2c0], eBlk b3_0 30 [.int .i64 s72.1, .int .i64 s72.2], eS lGEntry 41 y19_4A0 r19_4.1.length y19_4c0 r19_4.1]) (fun (_, _) => [fV (lSlice lGPosting) (.slice y1_2A0 r1_2.1.Postings.length y1_2c0) r1_2.1.Postings]) ?_ ?_
        · refine wc_block ?_
          refine wc_seq ?_
          refine wc_region ?_   -- region 24
          obtain ⟨k24_0, h⟩ := chk_some h
          refine wl_det rfl rfl (det_indexO rfl rfl (ms (ms m0)) k24_0 un37 sz41) rfl ?_
          refine wl_det rfl rfl (det_loadO (off := 0) rfl (ms (ms m0)) k24_0 (by rfl) (by rfl) (loaded_n (cells := [_, _, _, _, _]) ag41 sz41)) rfl ?_
          refine wl_act (act_alloc (cs := [_, _, _, _, _]) zr41 rfl) rfl rfl rfl ?_
          rintro _ _ _ ⟨b24_2, rfl, rfl, rfl⟩
          refine wl_act0 (act_store (cells := [_, _, _, _, _]) (cs' := [_, _, _, _, _]) rfl rfl rfl s0 (by rfl) (of_decide_eq_true rfl) sz41 ⟨rfl, rfl, rfl, rfl, rfl, trivial⟩) rfl rfl ?_
          rintro _ _ _ ⟨rfl, rfl⟩
          refine wl_nil ?_
          refine pn_then ?_
          refine wc_seq ?_
          refine wc_region ?_   -- region 25
          refine wl_det rfl rfl (det_field rfl fd41_0 rfl) rfl ?_
          refine wl_det rfl rfl (det_load rfl m0 (by rfl) na3 us3) rfl ?_
          refine wl_det rfl rfl (det_eql rfl rfl) rfl ?_
          refine wl_nil ?_
          refine pn_then ?_
          refine wc_cond rfl (fun cd78 => ?_) (fun cd78 => ?_)
          · have h := ifT h cd78
            refine wc_region ?_   -- region 26
            refine wl_det rfl rfl (det_field rfl fd30_1 rfl) rfl ?_
            refine wl_det rfl rfl (det_load rfl (ms (ms m0)) (by rfl) na3 us3) rfl ?_
            refine wl_det rfl rfl (det_field rfl fd41_4 rfl) rfl ?_
            refine wl_det rfl rfl (det_load rfl m0 (by rfl) na3 us3) rfl ?_
            refine wl_det rfl rfl (det_sub rfl rfl) rfl ?_
            refine wl_det rfl rfl (det_field rfl fd30_1 rfl) rfl ?_
            refine wl_act0 (act_store (cells := [_]) (cs' := [_, _]) rfl rfl rfl (ss (ss s0)) (by rfl) (of_decide_eq_true rfl) sz3 ⟨rfl, trivial⟩) rfl rfl ?_
            rintro _ _ _ ⟨rfl, rfl⟩
            refine wl_nil ?_
            refine pn_block ?_
            replace h := Option.some.inj h
            subst h
            exact pn_meetG ((s66.1, (w64 (s66.2.1 - (ix r19_4.1 s66.2.2).Amount))), ()) rfl ⟨rfl, rfl, rfl, rfl, rfl, rfl, trivial⟩ (fun _ h => h.to ⟨_, (rs r0), ⟨_, (rs r0), ⟨_, (rs r0), trivial⟩⟩⟩ ⟨m0, trivial⟩)
          · have h := ifF h cd78
            refine wc_region ?_   -- region 27
            refine wl_det rfl rfl (det_field rfl fd30_0 rfl) rfl ?_
            refine wl_det rfl rfl (det_load rfl (ms (ms m0)) (by rfl) na3 us3) rfl ?_
            refine wl_det rfl rfl (det_field rfl fd41_4 rfl) rfl ?_
            refine wl_det rfl rfl (det_load rfl m0 (by rfl) na3 us3) rfl ?_
            refine wl_det rfl rfl (det_sub rfl rfl) rfl ?_
            refine wl_det rfl rfl (det_field rfl fd30_0 rfl) rfl ?_
            refine wl_act0 (act_store (cells := [_]) (cs' := [_, _]) rfl rfl rfl (ss (ss s0)) (by rfl) (of_decide_eq_true rfl) sz3 ⟨rfl, trivial⟩) rfl rfl ?_
            rintro _ _ _ ⟨rfl, rfl⟩
            refine wl_nil ?_
            refine pn_block ?_
            replace h := Option.some.inj h
            subst h
            exact pn_meetG (((w64 (s66.1 - (ix r19_4.1 s66.2.2).Amount)), s66.2.1), ()) rfl ⟨rfl, rfl, rfl, rfl, rfl, rfl, trivial⟩ (fun _ h => h.to ⟨_, (rs r0), ⟨_, (rs r0), ⟨_, (rs r0), trivial⟩⟩⟩ ⟨m0, trivial⟩)
        rintro ⟨s72, _⟩ e72
        dsimp only at e72 ⊢
        subst e72
        have h := ho72
        refine wc_region ?_   -- region 28
        refine wl_det rfl rfl (det_add rfl rfl) rfl ?_
        refine wl_det rfl rfl (det_move rfl) rfl ?_
        refine wl_nil ?_
        replace h := Option.some.inj h
        subst h
        exact pn_some (k66, (s72.1, s72.2, (w64 (s66.2.2 + 1))), ()) ⟨nextL g66, Nat.lt_succ_self _⟩ ⟨rfl, rfl, rfl, rfl, rfl, rfl, trivial⟩ (fun _ h => h.to ⟨_, r0, ⟨_, r0, ⟨_, r0, trivial⟩⟩⟩ ⟨m0, trivial⟩)
      · have h := ifF h cd70
        refine wc_exit ?_
        refine px_then ?_
        refine px_then ?_
        refine px_block ?_
        replace h := Option.some.inj h
        subst h
        replace g66 := nextR g66
        subst g66
        exact pn_meetG ((s66.1, s66.2.1), ()) rfl ⟨rfl, rfl, rfl, trivial⟩ (fun _ h => h.to ⟨_, r0, ⟨_, r0, trivial⟩⟩ ⟨m0, trivial⟩)
    rintro ⟨s62, _⟩ e62
    dsimp only at e62 ⊢
    subst e62
    have h := ho62
    refine wc_seq ?_
    refine wc_region ?_   -- region 29
    refine wl_det rfl rfl (det_move rfl) rfl ?_
    refine wl_det rfl rfl (det_field rfl fd25_1 rfl) rfl ?_
    refine wl_det rfl rfl (det_load rfl m0 (by rfl) na23 us23) rfl ?_
    refine wl_det rfl rfl (det_len rfl un23) rfl ?_
    refine wl_det rfl rfl (det_eql rfl rfl) rfl ?_
    refine wl_det rfl rfl (det_move rfl) rfl ?_
    refine wl_way (decide (s8.1 = (r1_2.1.Postings.length : Int))) ((decide (s8.1 = (r1_2.1.Postings.length : Int))) && (decide ([s62.1, s62.2] = [0, 0]))) 4 132 (fun hg => ?_) (fun hg => ?_) ?_
    · have hg29_9 := hg
      refine wl_on rfl rfl rfl rfl hg29_9 ?_
      refine wl_det rfl rfl (det_loadN (cells := [_, _]) rfl (ms m0) (by rfl) ag30 sz30) rfl ?_
      refine wl_on rfl rfl rfl rfl hg29_9 ?_
      refine wl_det rfl rfl (det_build (cs := [_, _]) pl30 zr30 rfl rfl (by rfl)) rfl ?_
      refine wl_on rfl rfl rfl rfl hg29_9 ?_
      refine wl_det rfl rfl (det_eqlS [_, _] [_, _] eq30 rfl rfl rfl rfl) rfl ?_
      refine wl_det rfl rfl (det_and_on rfl rfl rfl hg29_9) rfl ?_
      exact wl_nil (pn_qnE (ext_cons rfl (ext_skip rfl (ext_skip rfl (ext_skip rfl (ext_skip rfl ext_refl))))) (fun _ h => h))
    · have hg29_9a := hg
      refine wl_off rfl rfl rfl rfl rfl hg29_9a rfl ?_
      refine wl_off rfl rfl rfl rfl rfl hg29_9a rfl ?_
      refine wl_off rfl rfl rfl rfl rfl hg29_9a rfl ?_
      refine wl_det rfl rfl (det_and_off (q := (decide ([s62.1, s62.2] = [0, 0]))) rfl rfl rfl hg29_9a) rfl ?_
      exact wl_nil (pn_qnE (ext_cons rfl (ext_skip rfl (ext_skip rfl (ext_skip rfl (ext_skip rfl ext_refl))))) (fun _ h => h))
    refine wl_det rfl rfl (det_move rfl) rfl ?_
    obtain ⟨q29_12, hq29_12, h⟩ := bind_some h
    have ho29_12 := h
    refine wl_way ((decide (s8.1 = (r1_2.1.Postings.length : Int))) && (decide ([s62.1, s62.2] = [0, 0]))) q29_12 2 135 (fun hg => ?_) (fun hg => ?_) ?_
    · have hg29_12 := hg
      have h := ifT hq29_12 hg
      refine wl_on rfl rfl rfl rfl hg29_12 ?_
      obtain ⟨r29_11, hr29_11, h⟩ := bind_some h
      refine wl_act (act_callS (cap := []) (W_treatylaw34_awake r29_11 hr29_11) rfl rfl rfl bd19 rfl trivial) rfl rfl rfl ?_
      rintro _ _ _ ⟨_, _, ⟨rfl, rfl, rfl⟩, rfl, rfl⟩
      dsimp only [List.nil_append, List.cons_append]
      replace h := Option.some.inj h
      subst h
      refine wl_det rfl rfl (det_pick_on rfl hg29_12 rfl rfl) rfl ?_
      exact wl_nil (pn_qnE (ext_cons rfl (ext_skip rfl (ext_skip rfl ext_refl))) (fun _ h => h))
    · have hg29_12a := hg
      have h := ifF hq29_12 hg
      refine wl_off rfl rfl rfl rfl rfl hg29_12a rfl ?_
      replace h := Option.some.inj h
      subst h
      refine wl_det rfl rfl (det_pick_off rfl hg29_12a rfl rfl) rfl ?_
      exact wl_nil (pn_qnE (ext_cons rfl (ext_skip rfl (ext_skip rfl ext_refl))) (fun _ h => h))
    have h := ho29_12
    refine wl_det rfl rfl (det_assign rfl) rfl ?_
    refine wl_nil ?_
    refine pn_then ?_
    refine wc_ret ?_
    replace h := Option.some.inj h
    subst h
    refine pn_ret (vs := [_]) rfl ⟨rfl, trivial⟩ ⟨rfl, rfl, rfl⟩ (fun _ h => h.to trivial trivial)
end Go.Proofs.Ytadkcelipefpmaa
