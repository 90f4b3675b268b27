/- That functions of the program compute the plain programs of P. Written by a small program. -/
import Derived.Test.YtdenliplkmjmjaaWCommuteLater1
namespace Go.Proofs.Ytdenliplkmjmjaa
open Go.RowKit
def Q_ledger_Validate (r : Int) : Value → List Ent → List Fact → Prop := fun v θ κ => v = .int .i64 r ∧ θ = [] ∧ κ = []
theorem plains_ledger_Validate {r : Int} : ∀ v θ κ, Q_ledger_Validate r v θ κ → Plains θ := by
  rintro _ _ _ ⟨rfl, rfl, rfl⟩
  exact trivial
set_option maxHeartbeats 4000000 in
set_option maxRecDepth 100000 in
theorem W_ledger_Validate (a0 : GLedger) (A0 : Option Addr) (n0 : Nat) (c0 : Nat) (r : Int) (h : ledger_Validate a0 = some r) : Spec Try.prog 21 [.agg #[.int .i64 a0.Closed, .slice A0 n0 c0]] [] [fV (lSlice lGPosting) (.slice A0 n0 c0) a0.Postings] (Q_ledger_Validate r) := by
  unfold ledger_Validate at h
  refine spec_of (σ := [(0, _)]) Try.func21 rfl rfl rfl rfl ?_
  intro C
  refine wc_know (fun _ h => h.lenF m0) (fun e => ?_)
  subst e
  refine wc_seq ?_
  refine wc_region ?_   -- region 0
  refine wl_act (act_box (cs := [_, _]) rfl rfl) rfl rfl rfl ?_
  rintro _ _ _ ⟨b0_0, rfl, rfl, rfl⟩
  refine wl_det rfl rfl (det_assign rfl) rfl ?_
  refine wl_nil ?_
  refine pn_then ?_
  refine wc_seq ?_
  refine wc_seq ?_
  refine wc_region ?_   -- region 1
  refine wl_det rfl rfl (det_field rfl fd25_0 rfl) rfl ?_
  refine wl_det rfl rfl (det_load rfl m0 (by rfl) na3 us3) rfl ?_
  refine wl_det rfl rfl (det_lss rfl rfl) rfl ?_
  refine wl_det rfl rfl (det_move rfl) rfl ?_
  refine wl_way (decide (a0.Closed < 0)) ((decide (a0.Closed < 0)) || (decide (100 < a0.Closed))) 4 12 (fun hg => ?_) (fun hg => ?_) ?_
  · have hg1_7 := hg
    refine wl_off rfl rfl rfl rfl rfl hg1_7 rfl ?_
    refine wl_off rfl rfl rfl rfl rfl hg1_7 rfl ?_
    refine wl_off rfl rfl rfl rfl rfl hg1_7 rfl ?_
    refine wl_det rfl rfl (det_or_on (r := (decide (100 < a0.Closed))) rfl rfl rfl hg1_7) rfl ?_
    exact wl_nil (pn_qnE (ext_cons rfl (ext_skip rfl (ext_skip rfl (ext_skip rfl (ext_skip rfl ext_refl))))) (fun _ h => h))
  · have hg1_7a := hg
    refine wl_on rfl rfl rfl rfl hg1_7a ?_
    refine wl_det rfl rfl (det_field rfl fd25_0 rfl) rfl ?_
    refine wl_on rfl rfl rfl rfl hg1_7a ?_
    refine wl_det rfl rfl (det_load rfl m0 (by rfl) na3 us3) rfl ?_
    refine wl_on rfl rfl rfl rfl hg1_7a ?_
    refine wl_det rfl rfl (det_gtr rfl rfl) rfl ?_
    refine wl_det rfl rfl (det_or_off rfl rfl rfl hg1_7a) rfl ?_
    exact wl_nil (pn_qnE (ext_cons rfl (ext_skip rfl (ext_skip rfl (ext_skip rfl (ext_skip rfl ext_refl))))) (fun _ h => h))
  refine wl_det rfl rfl (det_move rfl) rfl ?_
  refine wl_way ((decide (a0.Closed < 0)) || (decide (100 < a0.Closed))) (((decide (a0.Closed < 0)) || (decide (100 < a0.Closed))) || (decide (65536 < (a0.Postings.length : Int)))) 5 18 (fun hg => ?_) (fun hg => ?_) ?_
  · have hg1_13 := hg
    refine wl_off rfl rfl rfl rfl rfl hg1_13 rfl ?_
    refine wl_off rfl rfl rfl rfl rfl hg1_13 rfl ?_
    refine wl_off rfl rfl rfl rfl rfl hg1_13 rfl ?_
    refine wl_off rfl rfl rfl rfl rfl hg1_13 rfl ?_
    refine wl_det rfl rfl (det_or_on (r := (decide (65536 < (a0.Postings.length : Int)))) rfl rfl rfl hg1_13) rfl ?_
    exact wl_nil (pn_qnE (ext_cons rfl (ext_skip rfl (ext_skip rfl (ext_skip rfl (ext_skip rfl (ext_skip rfl ext_refl)))))) (fun _ h => h))
  · have hg1_13a := hg
    refine wl_on rfl rfl rfl rfl hg1_13a ?_
    refine wl_det rfl rfl (det_field rfl fd25_1 rfl) rfl ?_
    refine wl_on rfl rfl rfl rfl hg1_13a ?_
    refine wl_det rfl rfl (det_load rfl m0 (by rfl) na23 us23) rfl ?_
    refine wl_on rfl rfl rfl rfl hg1_13a ?_
    refine wl_det rfl rfl (det_len rfl un23) rfl ?_
    refine wl_on rfl rfl rfl rfl hg1_13a ?_
    refine wl_det rfl rfl (det_gtr rfl rfl) rfl ?_
    refine wl_det rfl rfl (det_or_off rfl rfl rfl hg1_13a) rfl ?_
    exact wl_nil (pn_qnE (ext_cons rfl (ext_skip rfl (ext_skip rfl (ext_skip rfl (ext_skip rfl (ext_skip rfl ext_refl)))))) (fun _ h => h))
  refine wl_nil ?_
  refine pn_then ?_
  refine wc_cond rfl (fun cd5 => ?_) (fun cd5 => ?_)
  · have h := ifT h cd5
    refine wc_seq ?_
    refine wc_region ?_   -- region 2
    refine wl_det rfl rfl (det_assign rfl) rfl ?_
    refine wl_nil ?_
    refine pn_then ?_
    refine wc_ret ?_
    refine pr_then ?_
    replace h := Option.some.inj h
    subst h
    refine pn_ret (vs := [_]) rfl ⟨rfl, trivial⟩ ⟨rfl, rfl, rfl⟩ (fun _ h => h.to trivial trivial)
  · have h := ifF h cd5
    refine wc_skip ?_
    refine pn_then ?_
    obtain ⟨q8, h, ho8⟩ := bind_some h
    refine wc_meetG (G := Unit × Unit) (fun (s8, _) => (.inl s8) = q8) (fun (_, _) => []) (fun (_, _) => []) (fun (_, _) => []) ?_ ?_
    · refine wc_seq ?_
      refine wc_region ?_   -- region 3
      refine wl_det rfl rfl (det_field rfl fd25_1 rfl) rfl ?_
      refine wl_det rfl rfl (det_load rfl m0 (by rfl) na23 us23) rfl ?_
      refine wl_det rfl rfl (det_len rfl un23) rfl ?_
      refine wl_det rfl rfl (det_move rfl) rfl ?_
      refine wl_nil ?_
      refine pn_then ?_
      refine wc_block ?_
      obtain ⟨o12, h, ho12⟩ := bind_some h
      obtain ⟨k12, hk12⟩ := loopV_some.1 h
      refine wc_loop (G := Nat × Int × Unit) (fun g => IterN (ledger_Validate_l12 a0) g.1 g.2.1 o12) (fun g => g.1) (fun (_, s12, _) => [(1, .pointer (some ⟨b0_0, 0, none⟩)), (20, .slice A0 a0.Postings.length c0), (21, .int .i64 (a0.Postings.length : Int)), (22, .int .i64 s12)]) (fun (_, _, _) => [eBlk b0_0 25 [.int .i64 a0.Closed, .slice A0 a0.Postings.length c0]]) (fun (_, _, _) => [fV (lSlice lGPosting) (.slice A0 a0.Postings.length c0) a0.Postings]) (k12, 0, ()) hk12 ⟨rfl, rfl, rfl, rfl, trivial⟩ (fun _ h => h.to ⟨_, r0, trivial⟩ ⟨m0, trivial⟩) ?_
      rintro ⟨k12, s12, _⟩ hI
      obtain ⟨k12, rfl, q12, h, g12⟩ := IterN.pos hI
      dsimp only at h ⊢
      unfold ledger_Validate_l12 at h
      refine wc_seq ?_
      refine wc_region ?_   -- region 4
      refine wl_det rfl rfl (det_lss rfl rfl) rfl ?_
      refine wl_nil ?_
      refine pn_then ?_
      refine wc_seq ?_
      refine wc_cond rfl (fun cd16 => ?_) (fun cd16 => ?_)
      · have h := ifT h cd16
        refine wc_skip ?_
        refine pn_then ?_
        refine wc_seq ?_
        refine wc_block ?_
        refine wc_seq ?_
        refine wc_region ?_   -- region 5
        refine wl_det rfl rfl (det_move rfl) rfl ?_
        obtain ⟨k5_1, h⟩ := chk_some h
        refine wl_st (fun _ h => h.openF m0 k5_1) ?_
        refine wl_det rfl rfl (det_indexP rfl rfl (ms m0) k5_1 m0 un23 sz61) rfl ?_
        refine wl_det rfl rfl (det_loadP (off := 0) rfl m0 (by rfl) (by rfl) (loaded_n (cells := [_, _, _, _, _, _, _]) ag61 sz61)) rfl ?_
        refine wl_act (act_alloc (cs := [_, _, _, _, _, _, _]) zr61 rfl) rfl rfl rfl ?_
        rintro _ _ _ ⟨b5_3, rfl, rfl, rfl⟩
        refine wl_det rfl rfl (det_assign rfl) rfl ?_
        refine wl_act0 (act_store (cells := [_, _, _, _, _, _, _]) (cs' := [_, _, _, _, _, _, _]) rfl rfl rfl s0 (by rfl) (of_decide_eq_true rfl) sz61 ⟨rfl, rfl, rfl, rfl, rfl, rfl, rfl, trivial⟩) rfl rfl ?_
        rintro _ _ _ ⟨rfl, rfl⟩
        refine wl_nil ?_
        refine pn_then ?_
        refine wc_seq ?_
        refine wc_seq ?_
        refine wc_region ?_   -- region 6
        refine wl_det rfl rfl (det_field rfl fd61_2 rfl) rfl ?_
        refine wl_det rfl rfl (det_loadN (cells := [_, _, _, _, _]) rfl m0 (by rfl) ag43 sz43) rfl ?_
        obtain ⟨r6_2, hr6_2, h⟩ := bind_some h
        refine wl_act (act_callS (cap := []) (W_ledger_Valid (ix a0.Postings s12).Entry r6_2 hr6_2) rfl rfl rfl bd36 rfl trivial) rfl rfl rfl ?_
        rintro _ _ _ ⟨_, _, ⟨rfl, rfl, rfl⟩, rfl, rfl⟩
        dsimp only [List.nil_append, List.cons_append]
        refine wl_det rfl rfl (det_not rfl) rfl ?_
        refine wl_det rfl rfl (det_move rfl) rfl ?_
        refine wl_way (!r6_2) ((!r6_2) || (decide ((ix a0.Postings s12).Entry.Amount = 0))) 5 36 (fun hg => ?_) (fun hg => ?_) ?_
        · have hg6_9 := hg
          refine wl_off rfl rfl rfl rfl rfl hg6_9 rfl ?_
          refine wl_off rfl rfl rfl rfl rfl hg6_9 rfl ?_
          refine wl_off rfl rfl rfl rfl rfl hg6_9 rfl ?_
          refine wl_off rfl rfl rfl rfl rfl hg6_9 rfl ?_
          refine wl_det rfl rfl (det_or_on (r := (decide ((ix a0.Postings s12).Entry.Amount = 0))) rfl rfl rfl hg6_9) rfl ?_
          exact wl_nil (pn_qnE (ext_cons rfl (ext_skip rfl (ext_skip rfl (ext_skip rfl (ext_skip rfl (ext_skip rfl ext_refl)))))) (fun _ h => h))
        · have hg6_9a := hg
          refine wl_on rfl rfl rfl rfl hg6_9a ?_
          refine wl_det rfl rfl (det_field rfl fd61_2 rfl) rfl ?_
          refine wl_on rfl rfl rfl rfl hg6_9a ?_
          refine wl_det rfl rfl (det_field rfl fd43_4 rfl) rfl ?_
          refine wl_on rfl rfl rfl rfl hg6_9a ?_
          refine wl_det rfl rfl (det_load rfl m0 (by rfl) na3 us3) rfl ?_
          refine wl_on rfl rfl rfl rfl hg6_9a ?_
          refine wl_det rfl rfl (det_eql rfl rfl) rfl ?_
          refine wl_det rfl rfl (det_or_off rfl rfl rfl hg6_9a) rfl ?_
          exact wl_nil (pn_qnE (ext_cons rfl (ext_skip rfl (ext_skip rfl (ext_skip rfl (ext_skip rfl (ext_skip rfl ext_refl)))))) (fun _ h => h))
        refine wl_nil ?_
        refine pn_then ?_
        refine wc_cond rfl (fun cd25 => ?_) (fun cd25 => ?_)
        · have h := ifT h cd25
          refine wc_seq ?_
          refine wc_region ?_   -- region 7
          refine wl_det rfl rfl (det_assign rfl) rfl ?_
          refine wl_nil ?_
          refine pn_then ?_
          refine wc_ret ?_
          refine pr_then ?_
          refine pr_block ?_
          refine pr_then ?_
          refine pr_then ?_
          refine pr_block ?_
          refine pr_then ?_
          replace h := Option.some.inj h
          subst h
          replace g12 := nextR g12
          subst g12
          have h := (elimL ho12)
          replace h := Option.some.inj h
          subst h
          have h := (elimR ho8)
          replace h := Option.some.inj h
          subst h
          refine pn_ret (vs := [_]) rfl ⟨rfl, trivial⟩ ⟨rfl, rfl, rfl⟩ (fun _ h => h.to trivial trivial)
        · have h := ifF h cd25
          refine wc_skip ?_
          refine pn_then ?_
          refine wc_seq ?_
          refine wc_seq ?_
          refine wc_region ?_   -- region 8
          refine wl_det rfl rfl (det_field rfl fd61_0 rfl) rfl ?_
          refine wl_det rfl rfl (det_load rfl m0 (by rfl) na3 us3) rfl ?_
          refine wl_det rfl rfl (det_lss rfl rfl) rfl ?_
          refine wl_det rfl rfl (det_move rfl) rfl ?_
          refine wl_way (decide ((ix a0.Postings s12).Number < 1)) ((decide ((ix a0.Postings s12).Number < 1)) || (decide (65536 < (ix a0.Postings s12).Number))) 4 44 (fun hg => ?_) (fun hg => ?_) ?_
          · have hg8_7 := hg
            refine wl_off rfl rfl rfl rfl rfl hg8_7 rfl ?_
            refine wl_off rfl rfl rfl rfl rfl hg8_7 rfl ?_
            refine wl_off rfl rfl rfl rfl rfl hg8_7 rfl ?_
            refine wl_det rfl rfl (det_or_on (r := (decide (65536 < (ix a0.Postings s12).Number))) rfl rfl rfl hg8_7) rfl ?_
            exact wl_nil (pn_qnE (ext_cons rfl (ext_skip rfl (ext_skip rfl (ext_skip rfl (ext_skip rfl ext_refl))))) (fun _ h => h))
          · have hg8_7a := hg
            refine wl_on rfl rfl rfl rfl hg8_7a ?_
            refine wl_det rfl rfl (det_field rfl fd61_0 rfl) rfl ?_
            refine wl_on rfl rfl rfl rfl hg8_7a ?_
            refine wl_det rfl rfl (det_load rfl m0 (by rfl) na3 us3) rfl ?_
            refine wl_on rfl rfl rfl rfl hg8_7a ?_
            refine wl_det rfl rfl (det_gtr rfl rfl) rfl ?_
            refine wl_det rfl rfl (det_or_off rfl rfl rfl hg8_7a) rfl ?_
            exact wl_nil (pn_qnE (ext_cons rfl (ext_skip rfl (ext_skip rfl (ext_skip rfl (ext_skip rfl ext_refl))))) (fun _ h => h))
          refine wl_det rfl rfl (det_move rfl) rfl ?_
          refine wl_way ((decide ((ix a0.Postings s12).Number < 1)) || (decide (65536 < (ix a0.Postings s12).Number))) (((decide ((ix a0.Postings s12).Number < 1)) || (decide (65536 < (ix a0.Postings s12).Number))) || (decide ((ix a0.Postings s12).Period < 0))) 4 49 (fun hg => ?_) (fun hg => ?_) ?_
          · have hg8_12 := hg
            refine wl_off rfl rfl rfl rfl rfl hg8_12 rfl ?_
            refine wl_off rfl rfl rfl rfl rfl hg8_12 rfl ?_
            refine wl_off rfl rfl rfl rfl rfl hg8_12 rfl ?_
            refine wl_det rfl rfl (det_or_on (r := (decide ((ix a0.Postings s12).Period < 0))) rfl rfl rfl hg8_12) rfl ?_
            exact wl_nil (pn_qnE (ext_cons rfl (ext_skip rfl (ext_skip rfl (ext_skip rfl (ext_skip rfl ext_refl))))) (fun _ h => h))
          · have hg8_12a := hg
            refine wl_on rfl rfl rfl rfl hg8_12a ?_
            refine wl_det rfl rfl (det_field rfl fd61_1 rfl) rfl ?_
            refine wl_on rfl rfl rfl rfl hg8_12a ?_
            refine wl_det rfl rfl (det_load rfl m0 (by rfl) na3 us3) rfl ?_
            refine wl_on rfl rfl rfl rfl hg8_12a ?_
            refine wl_det rfl rfl (det_lss rfl rfl) rfl ?_
            refine wl_det rfl rfl (det_or_off rfl rfl rfl hg8_12a) rfl ?_
            exact wl_nil (pn_qnE (ext_cons rfl (ext_skip rfl (ext_skip rfl (ext_skip rfl (ext_skip rfl ext_refl))))) (fun _ h => h))
          refine wl_det rfl rfl (det_move rfl) rfl ?_
          refine wl_way (((decide ((ix a0.Postings s12).Number < 1)) || (decide (65536 < (ix a0.Postings s12).Number))) || (decide ((ix a0.Postings s12).Period < 0))) ((((decide ((ix a0.Postings s12).Number < 1)) || (decide (65536 < (ix a0.Postings s12).Number))) || (decide ((ix a0.Postings s12).Period < 0))) || (decide (a0.Closed < (ix a0.Postings s12).Period))) 6 56 (fun hg => ?_) (fun hg => ?_) ?_
          · have hg8_19 := hg
            refine wl_off rfl rfl rfl rfl rfl hg8_19 rfl ?_
            refine wl_off rfl rfl rfl rfl rfl hg8_19 rfl ?_
            refine wl_off rfl rfl rfl rfl rfl hg8_19 rfl ?_
            refine wl_off rfl rfl rfl rfl rfl hg8_19 rfl ?_
            refine wl_off rfl rfl rfl rfl rfl hg8_19 rfl ?_
            refine wl_det rfl rfl (det_or_on (r := (decide (a0.Closed < (ix a0.Postings s12).Period))) rfl rfl rfl hg8_19) rfl ?_
            exact wl_nil (pn_qnE (ext_cons rfl (ext_skip rfl (ext_skip rfl (ext_skip rfl (ext_skip rfl (ext_skip rfl (ext_skip rfl ext_refl))))))) (fun _ h => h))
          · have hg8_19a := hg
            refine wl_on rfl rfl rfl rfl hg8_19a ?_
            refine wl_det rfl rfl (det_field rfl fd61_1 rfl) rfl ?_
            refine wl_on rfl rfl rfl rfl hg8_19a ?_
            refine wl_det rfl rfl (det_load rfl m0 (by rfl) na3 us3) rfl ?_
            refine wl_on rfl rfl rfl rfl hg8_19a ?_
            refine wl_det rfl rfl (det_field rfl fd25_0 rfl) rfl ?_
            refine wl_on rfl rfl rfl rfl hg8_19a ?_
            refine wl_det rfl rfl (det_load rfl (ms m0) (by rfl) na3 us3) rfl ?_
            refine wl_on rfl rfl rfl rfl hg8_19a ?_
            refine wl_det rfl rfl (det_gtr rfl rfl) rfl ?_
            refine wl_det rfl rfl (det_or_off rfl rfl rfl hg8_19a) rfl ?_
            exact wl_nil (pn_qnE (ext_cons rfl (ext_skip rfl (ext_skip rfl (ext_skip rfl (ext_skip rfl (ext_skip rfl (ext_skip rfl ext_refl))))))) (fun _ h => h))
          refine wl_nil ?_
          refine pn_then ?_
          refine wc_cond rfl (fun cd31 => ?_) (fun cd31 => ?_)
          · have h := ifT h cd31
            refine wc_seq ?_
            refine wc_region ?_   -- region 9
            refine wl_det rfl rfl (det_assign rfl) rfl ?_
            refine wl_nil ?_
            refine pn_then ?_
            refine wc_ret ?_
            refine pr_then ?_
            refine pr_block ?_
            refine pr_then ?_
            refine pr_then ?_
            refine pr_block ?_
            refine pr_then ?_
            replace h := Option.some.inj h
            subst h
            replace g12 := nextR g12
            subst g12
            have h := (elimL ho12)
            replace h := Option.some.inj h
            subst h
            have h := (elimR ho8)
            replace h := Option.some.inj h
            subst h
            refine pn_ret (vs := [_]) rfl ⟨rfl, trivial⟩ ⟨rfl, rfl, rfl⟩ (fun _ h => h.to trivial trivial)
          · have h := ifF h cd31
            refine wc_skip ?_
            refine pn_then ?_
            obtain ⟨q34, h, ho34⟩ := bind_some h
            refine wc_meetG (G := Bool × Unit) (fun (s34, _) => s34 = q34) (fun (s34, _) => [(1, .pointer (some ⟨b0_0, 0, none⟩)), (20, .slice A0 a0.Postings.length c0), (21, .int .i64 (a0.Postings.length : Int)), (22, .int .i64 s12), (82, .bool s34)]) (fun (_, _) => [eBlk b0_0 25 [.int .i64 a0.Closed, .slice A0 a0.Postings.length c0]]) (fun (_, _) => [fV (lSlice lGPosting) (.slice A0 a0.Postings.length c0) a0.Postings]) ?_ ?_
            · rcases Bool.eq_false_or_eq_true (decide (0 < s12)) with hg10_g59 | hg10_g59
              · have h := ifT h hg10_g59
                rcases Bool.eq_false_or_eq_true (decide ((ix a0.Postings s12).Number ≤ (ix a0.Postings (w64 (s12 - 1))).Number)) with hg10_g70 | hg10_g70
                · have h := ifT h hg10_g70
                  obtain ⟨k10_p1, h⟩ := chk_some h
                  refine wc_st (fun _ h => h.openF (ms m0) k10_p1) ?_
                  refine dx_region 26 [[], [0], [0, 1], [0, 1, 2], [0, 1, 2, 3], [0, 1, 2], [0, 1, 2, 5], [0, 1, 2], [0, 1, 2, 7], [0, 1, 2, 5, 6, 7, 8], [0, 1, 2, 5, 6, 7, 8, 9], [0, 1, 2, 5, 6, 7, 8, 9, 10], [0, 1, 2, 3, 4, 5, 6, 7, 8, 9, 10, 11], [0, 1, 2, 3, 4, 5, 6, 7, 8, 9, 10, 11, 12], [0, 1, 2, 3, 4, 5, 6, 7, 8, 9, 10, 11, 12, 13], [0, 1, 2, 3, 4, 5, 6, 7, 8, 9, 10, 11, 12, 13, 14], [0, 1, 2, 3, 4, 5, 6, 7, 8, 9, 10, 11, 12, 13], [0, 1, 2, 3, 4, 5, 6, 7, 8, 9, 10, 11, 12, 13, 16], [0, 1, 2, 3, 4, 5, 6, 7, 8, 9, 10, 11, 12, 13], [0, 1, 2, 3, 4, 5, 6, 7, 8, 9, 10, 11, 12, 13, 18], [0, 1, 2, 3, 4, 5, 6, 7, 8, 9, 10, 11, 12, 13, 16, 17, 18, 19], [0, 1, 2, 3, 4, 5, 6, 7, 8, 9, 10, 11, 12, 13, 16, 17, 18, 19, 20], [0, 1, 2, 3, 4, 5, 6, 7, 8, 9, 10, 11, 12, 13, 16, 17, 18, 19, 20, 21], [0, 1, 2, 3, 4, 5, 6, 7, 8, 9, 10, 11, 12, 13, 14, 15, 16, 17, 18, 19, 20, 21, 22], [0, 1, 2, 3, 4, 5, 6, 7, 8, 9, 10, 11, 12, 13, 14, 15, 16, 17, 18, 19, 20, 21, 22, 23], [0, 1, 2, 3, 4, 5, 6, 7, 8, 9, 10, 11, 12, 13, 14, 15, 16, 17, 18, 19, 20, 21, 22, 23, 24]] mixed (ord := (.det 0 (.det 1 (.det 2 (.det 3 (.det 4 (.det 5 (.det 6 (.det 7 (.det 8 (.det 9 (.det 10 (.det 11 (.det 12 (.det 13 (.det 14 (.det 15 (.det 16 (.det 17 (.det 18 (.det 19 (.det 20 (.det 21 (.det 22 (.det 23 (.det 24 (.det 25 .done))))))))))))))))))))))))))) (by kernel_rfl) ?_   -- region 10
                  refine hx_det rfl rfl rfl nofun (det_move rfl) rfl ?_
                  refine hx_det rfl rfl rfl nofun (det_gtr rfl rfl) rfl ?_
                  refine hx_det rfl rfl rfl nofun (det_move rfl) rfl ?_
                  refine hx_on rfl rfl rfl rfl rfl hg10_g59 nofun (det_field rfl fd61_0 rfl) rfl ?_
                  refine hx_on rfl rfl rfl rfl rfl hg10_g59 nofun (det_load rfl m0 (by rfl) na3 us3) rfl ?_
                  refine hx_on rfl rfl rfl rfl rfl hg10_g59 nofun (det_field rfl fd25_1 rfl) rfl ?_
                  refine hx_on rfl rfl rfl rfl rfl hg10_g59 nofun (det_load rfl (ms m0) (by rfl) na23 us23) rfl ?_
                  refine hx_on rfl rfl rfl rfl rfl hg10_g59 nofun (det_move rfl) rfl ?_
                  refine hx_on rfl rfl rfl rfl rfl hg10_g59 nofun (det_sub rfl rfl) rfl ?_
                  refine hx_on rfl rfl rfl rfl rfl hg10_g59 nofun (det_indexP rfl rfl (ms (ms m0)) k10_p1 m0 un23 sz61) rfl ?_
                  refine hx_on rfl rfl rfl rfl rfl hg10_g59 nofun (det_fieldP rfl m0 fd61_0 rfl) rfl ?_
                  refine hx_on rfl rfl rfl rfl rfl hg10_g59 nofun (det_loadP (off := 0) rfl m0 (by rfl) (by rfl) (loaded_1 na3 us3)) rfl ?_
                  refine hx_on rfl rfl rfl rfl rfl hg10_g59 nofun (det_leq rfl rfl) rfl ?_
                  refine hx_on rfl rfl rfl rfl rfl hg10_g59 nofun (det_move rfl) rfl ?_
                  refine hx_off rfl rfl rfl rfl rfl hg10_g70 rfl ?_
                  refine hx_off rfl rfl rfl rfl rfl hg10_g70 rfl ?_
                  refine hx_off rfl rfl rfl rfl rfl hg10_g70 rfl ?_
                  refine hx_off rfl rfl rfl rfl rfl hg10_g70 rfl ?_
                  refine hx_off rfl rfl rfl rfl rfl hg10_g70 rfl ?_
                  refine hx_off rfl rfl rfl rfl rfl hg10_g70 rfl ?_
                  refine hx_off rfl rfl rfl rfl rfl hg10_g70 rfl ?_
                  refine hx_off rfl rfl rfl rfl rfl hg10_g70 rfl ?_
                  refine hx_off rfl rfl rfl rfl rfl hg10_g70 rfl ?_
                  refine hx_off rfl rfl rfl rfl rfl hg10_g70 rfl ?_
                  refine hx_on rfl rfl rfl rfl rfl hg10_g59 nofun (det_pick_on rfl hg10_g70 rfl rfl) rfl ?_
                  refine hx_det rfl rfl rfl nofun (det_pick_on rfl hg10_g59 rfl rfl) rfl ?_
                  refine hx_end ?_
                  refine wl_nil ?_
                  replace h := Option.some.inj h
                  subst h
                  exact pn_meetG (true, ()) rfl ⟨rfl, rfl, rfl, rfl, rfl, trivial⟩ (fun _ h => h.to ⟨_, (rs r0), trivial⟩ ⟨(ms (ms m0)), trivial⟩)
                · have h := ifF h hg10_g70
                  obtain ⟨k10_p3, h⟩ := chk_some h
                  refine wc_st (fun _ h => h.openF (ms m0) k10_p3) ?_
                  refine dx_region 26 [[], [0], [0, 1], [0, 1, 2], [0, 1, 2, 3], [0, 1, 2], [0, 1, 2, 5], [0, 1, 2], [0, 1, 2, 7], [0, 1, 2, 5, 6, 7, 8], [0, 1, 2, 5, 6, 7, 8, 9], [0, 1, 2, 5, 6, 7, 8, 9, 10], [0, 1, 2, 3, 4, 5, 6, 7, 8, 9, 10, 11], [0, 1, 2, 3, 4, 5, 6, 7, 8, 9, 10, 11, 12], [0, 1, 2, 3, 4, 5, 6, 7, 8, 9, 10, 11, 12, 13], [0, 1, 2, 3, 4, 5, 6, 7, 8, 9, 10, 11, 12, 13, 14], [0, 1, 2, 3, 4, 5, 6, 7, 8, 9, 10, 11, 12, 13], [0, 1, 2, 3, 4, 5, 6, 7, 8, 9, 10, 11, 12, 13, 16], [0, 1, 2, 3, 4, 5, 6, 7, 8, 9, 10, 11, 12, 13], [0, 1, 2, 3, 4, 5, 6, 7, 8, 9, 10, 11, 12, 13, 18], [0, 1, 2, 3, 4, 5, 6, 7, 8, 9, 10, 11, 12, 13, 16, 17, 18, 19], [0, 1, 2, 3, 4, 5, 6, 7, 8, 9, 10, 11, 12, 13, 16, 17, 18, 19, 20], [0, 1, 2, 3, 4, 5, 6, 7, 8, 9, 10, 11, 12, 13, 16, 17, 18, 19, 20, 21], [0, 1, 2, 3, 4, 5, 6, 7, 8, 9, 10, 11, 12, 13, 14, 15, 16, 17, 18, 19, 20, 21, 22], [0, 1, 2, 3, 4, 5, 6, 7, 8, 9, 10, 11, 12, 13, 14, 15, 16, 17, 18, 19, 20, 21, 22, 23], [0, 1, 2, 3, 4, 5, 6, 7, 8, 9, 10, 11, 12, 13, 14, 15, 16, 17, 18, 19, 20, 21, 22, 23, 24]] mixed (ord := (.det 0 (.det 1 (.det 2 (.det 3 (.det 4 (.det 5 (.det 6 (.det 7 (.det 8 (.det 9 (.det 10 (.det 11 (.det 12 (.det 13 (.det 14 (.det 15 (.det 16 (.det 17 (.det 18 (.det 19 (.det 20 (.det 21 (.det 22 (.det 23 (.det 24 (.det 25 .done))))))))))))))))))))))))))) (by kernel_rfl) ?_   -- region 10
                  refine hx_det rfl rfl rfl nofun (det_move rfl) rfl ?_
                  refine hx_det rfl rfl rfl nofun (det_gtr rfl rfl) rfl ?_
                  refine hx_det rfl rfl rfl nofun (det_move rfl) rfl ?_
                  refine hx_on rfl rfl rfl rfl rfl hg10_g59 nofun (det_field rfl fd61_0 rfl) rfl ?_
                  refine hx_on rfl rfl rfl rfl rfl hg10_g59 nofun (det_load rfl m0 (by rfl) na3 us3) rfl ?_
                  refine hx_on rfl rfl rfl rfl rfl hg10_g59 nofun (det_field rfl fd25_1 rfl) rfl ?_
                  refine hx_on rfl rfl rfl rfl rfl hg10_g59 nofun (det_load rfl (ms m0) (by rfl) na23 us23) rfl ?_
                  refine hx_on rfl rfl rfl rfl rfl hg10_g59 nofun (det_move rfl) rfl ?_
                  refine hx_on rfl rfl rfl rfl rfl hg10_g59 nofun (det_sub rfl rfl) rfl ?_
                  refine hx_on rfl rfl rfl rfl rfl hg10_g59 nofun (det_indexP rfl rfl (ms (ms m0)) k10_p3 m0 un23 sz61) rfl ?_
                  refine hx_on rfl rfl rfl rfl rfl hg10_g59 nofun (det_fieldP rfl m0 fd61_0 rfl) rfl ?_
                  refine hx_on rfl rfl rfl rfl rfl hg10_g59 nofun (det_loadP (off := 0) rfl m0 (by rfl) (by rfl) (loaded_1 na3 us3)) rfl ?_
                  refine hx_on rfl rfl rfl rfl rfl hg10_g59 nofun (det_leq rfl rfl) rfl ?_
                  refine hx_on rfl rfl rfl rfl rfl hg10_g59 nofun (det_move rfl) rfl ?_
                  refine hx_on rfl rfl rfl rfl rfl hg10_g70 nofun (det_field rfl fd61_1 rfl) rfl ?_
                  refine hx_on rfl rfl rfl rfl rfl hg10_g70 nofun (det_load rfl m0 (by rfl) na3 us3) rfl ?_
                  refine hx_on rfl rfl rfl rfl rfl hg10_g70 nofun (det_field rfl fd25_1 rfl) rfl ?_
                  refine hx_on rfl rfl rfl rfl rfl hg10_g70 nofun (det_load rfl (ms m0) (by rfl) na23 us23) rfl ?_
                  refine hx_on rfl rfl rfl rfl rfl hg10_g70 nofun (det_move rfl) rfl ?_
                  refine hx_on rfl rfl rfl rfl rfl hg10_g70 nofun (det_sub rfl rfl) rfl ?_
                  refine hx_on rfl rfl rfl rfl rfl hg10_g70 nofun (det_indexP rfl rfl (ms (ms m0)) k10_p3 m0 un23 sz61) rfl ?_
                  refine hx_on rfl rfl rfl rfl rfl hg10_g70 nofun (det_fieldP rfl m0 fd61_1 rfl) rfl ?_
                  refine hx_on rfl rfl rfl rfl rfl hg10_g70 nofun (det_loadP (off := 1) rfl m0 (by rfl) (by rfl) (loaded_1 na3 us3)) rfl ?_
                  refine hx_on rfl rfl rfl rfl rfl hg10_g70 nofun (det_lss rfl rfl) rfl ?_
                  refine hx_on rfl rfl rfl rfl rfl hg10_g59 nofun (det_pick_off rfl hg10_g70 rfl rfl) rfl ?_
                  refine hx_det rfl rfl rfl nofun (det_pick_on rfl hg10_g59 rfl rfl) rfl ?_
                  refine hx_end ?_
                  refine wl_nil ?_
                  replace h := Option.some.inj h
                  subst h
                  exact pn_meetG ((decide ((ix a0.Postings s12).Period < (ix a0.Postings (w64 (s12 - 1))).Period)), ()) rfl ⟨rfl, rfl, rfl, rfl, rfl, trivial⟩ (fun _ h => h.to ⟨_, (rs r0), trivial⟩ ⟨(ms (ms m0)), trivial⟩)
              · have h := ifF h hg10_g59
                refine dx_region 26 [[], [0], [0, 1], [0, 1, 2], [0, 1, 2, 3], [0, 1, 2], [0, 1, 2, 5], [0, 1, 2], [0, 1, 2, 7], [0, 1, 2, 5, 6, 7, 8], [0, 1, 2, 5, 6, 7, 8, 9], [0, 1, 2, 5, 6, 7, 8, 9, 10], [0, 1, 2, 3, 4, 5, 6, 7, 8, 9, 10, 11], [0, 1, 2, 3, 4, 5, 6, 7, 8, 9, 10, 11, 12], [0, 1, 2, 3, 4, 5, 6, 7, 8, 9, 10, 11, 12, 13], [0, 1, 2, 3, 4, 5, 6, 7, 8, 9, 10, 11, 12, 13, 14], [0, 1, 2, 3, 4, 5, 6, 7, 8, 9, 10, 11, 12, 13], [0, 1, 2, 3, 4, 5, 6, 7, 8, 9, 10, 11, 12, 13, 16], [0, 1, 2, 3, 4, 5, 6, 7, 8, 9, 10, 11, 12, 13], [0, 1, 2, 3, 4, 5, 6, 7, 8, 9, 10, 11, 12, 13, 18], [0, 1, 2, 3, 4, 5, 6, 7, 8, 9, 10, 11, 12, 13, 16, 17, 18, 19], [0, 1, 2, 3, 4, 5, 6, 7, 8, 9, 10, 11, 12, 13, 16, 17, 18, 19, 20], [0, 1, 2, 3, 4, 5, 6, 7, 8, 9, 10, 11, 12, 13, 16, 17, 18, 19, 20, 21], [0, 1, 2, 3, 4, 5, 6, 7, 8, 9, 10, 11, 12, 13, 14, 15, 16, 17, 18, 19, 20, 21, 22], [0, 1, 2, 3, 4, 5, 6, 7, 8, 9, 10, 11, 12, 13, 14, 15, 16, 17, 18, 19, 20, 21, 22, 23], [0, 1, 2, 3, 4, 5, 6, 7, 8, 9, 10, 11, 12, 13, 14, 15, 16, 17, 18, 19, 20, 21, 22, 23, 24]] mixed (ord := (.det 0 (.det 1 (.det 2 (.det 3 (.det 4 (.det 5 (.det 6 (.det 7 (.det 8 (.det 9 (.det 10 (.det 11 (.det 12 (.det 13 (.det 14 (.det 15 (.det 16 (.det 17 (.det 18 (.det 19 (.det 20 (.det 21 (.det 22 (.det 23 (.det 24 (.det 25 .done))))))))))))))))))))))))))) (by kernel_rfl) ?_   -- region 10
                refine hx_det rfl rfl rfl nofun (det_move rfl) rfl ?_
                refine hx_det rfl rfl rfl nofun (det_gtr rfl rfl) rfl ?_
                refine hx_det rfl rfl rfl nofun (det_move rfl) rfl ?_
                refine hx_off rfl rfl rfl rfl rfl hg10_g59 rfl ?_
                refine hx_off rfl rfl rfl rfl rfl hg10_g59 rfl ?_
                refine hx_off rfl rfl rfl rfl rfl hg10_g59 rfl ?_
                refine hx_off rfl rfl rfl rfl rfl hg10_g59 rfl ?_
                refine hx_off rfl rfl rfl rfl rfl hg10_g59 rfl ?_
                refine hx_off rfl rfl rfl rfl rfl hg10_g59 rfl ?_
                refine hx_off rfl rfl rfl rfl rfl hg10_g59 rfl ?_
                refine hx_off rfl rfl rfl rfl rfl hg10_g59 rfl ?_
                refine hx_off rfl rfl rfl rfl rfl hg10_g59 rfl ?_
                refine hx_off rfl rfl rfl rfl rfl hg10_g59 rfl ?_
                refine hx_off rfl rfl rfl rfl rfl hg10_g59 rfl ?_
                refine hx_none rfl rfl rfl rfl rfl rfl ?_
                refine hx_none rfl rfl rfl rfl rfl rfl ?_
                refine hx_none rfl rfl rfl rfl rfl rfl ?_
                refine hx_none rfl rfl rfl rfl rfl rfl ?_
                refine hx_none rfl rfl rfl rfl rfl rfl ?_
                refine hx_none rfl rfl rfl rfl rfl rfl ?_
                refine hx_none rfl rfl rfl rfl rfl rfl ?_
                refine hx_none rfl rfl rfl rfl rfl rfl ?_
                refine hx_none rfl rfl rfl rfl rfl rfl ?_
                refine hx_none rfl rfl rfl rfl rfl rfl ?_
                refine hx_off rfl rfl rfl rfl rfl hg10_g59 rfl ?_
                refine hx_det rfl rfl rfl nofun (det_pick_off rfl hg10_g59 rfl rfl) rfl ?_
                refine hx_end ?_
                refine wl_nil ?_
                replace h := Option.some.inj h
                subst h
                exact pn_meetG (false, ()) rfl ⟨rfl, rfl, rfl, rfl, rfl, trivial⟩ (fun _ h => h.to ⟨_, (rs r0), trivial⟩ ⟨(ms m0), trivial⟩)
            rintro ⟨s34, _⟩ e34
            dsimp only at e34 ⊢
            subst e34
            have h := ho34
            refine wc_cond rfl (fun cd36 => ?_) (fun cd36 => ?_)
            · have h := ifT h cd36
              refine wc_seq ?_
              refine wc_region ?_   -- region 11
              refine wl_det rfl rfl (det_assign rfl) rfl ?_
              refine wl_nil ?_
              refine pn_then ?_
              refine wc_ret ?_
              refine pr_block ?_
              refine pr_then ?_
              refine pr_then ?_
              refine pr_block ?_
              refine pr_then ?_
              replace h := Option.some.inj h
              subst h
              replace g12 := nextR g12
              subst g12
              have h := (elimL ho12)
              replace h := Option.some.inj h
              subst h
              have h := (elimR ho8)
              replace h := Option.some.inj h
              subst h
              refine pn_ret (vs := [_]) rfl ⟨rfl, trivial⟩ ⟨rfl, rfl, rfl⟩ (fun _ h => h.to trivial trivial)
            · have h := ifF h cd36
              refine wc_skip ?_
              refine pn_block ?_
              refine pn_then ?_
              refine wc_region ?_   -- region 12
              refine wl_det rfl rfl (det_add rfl rfl) rfl ?_
              refine wl_det rfl rfl (det_move rfl) rfl ?_
              refine wl_nil ?_
              replace h := Option.some.inj h
              subst h
              exact pn_some (k12, (w64 (s12 + 1)), ()) ⟨nextL g12, Nat.lt_succ_self _⟩ ⟨rfl, rfl, rfl, rfl, trivial⟩ (fun _ h => h.to ⟨_, r0, trivial⟩ ⟨m0, trivial⟩)
      · have h := ifF h cd16
        refine wc_exit ?_
        refine px_then ?_
        refine px_then ?_
        refine px_block ?_
        replace h := Option.some.inj h
        subst h
        replace g12 := nextR g12
        subst g12
        have h := (elimR ho12)
        replace h := Option.some.inj h
        subst h
        exact pn_meetG ((), ()) rfl trivial (fun _ h => h.to trivial trivial)
    rintro ⟨s8, _⟩ e8
    dsimp only at e8 ⊢
    subst e8
    have h := (elimL ho8)
    refine wc_seq ?_
    refine wc_region ?_   -- region 13
    refine wl_det rfl rfl (det_assign rfl) rfl ?_
    refine wl_nil ?_
    refine pn_then ?_
    refine wc_ret ?_
    replace h := Option.some.inj h
    subst h
    refine pn_ret (vs := [_]) rfl ⟨rfl, trivial⟩ ⟨rfl, rfl, rfl⟩ (fun _ h => h.to trivial trivial)
def Q_cmp_isNaN_int (r : Bool) : Value → List Ent → List Fact → Prop := fun v θ κ => v = .bool r ∧ θ = [] ∧ κ = []
theorem plains_cmp_isNaN_int {r : Bool} : ∀ v θ κ, Q_cmp_isNaN_int r v θ κ → Plains θ := by
  rintro _ _ _ ⟨rfl, rfl, rfl⟩
  exact trivial
set_option maxHeartbeats 4000000 in
set_option maxRecDepth 100000 in
theorem W_cmp_isNaN_int (a0 : Int) (r : Bool) (h : cmp_isNaN_int a0 = some r) : Spec Try.prog 68 [.int .i64 a0] [] [] (Q_cmp_isNaN_int r) := by
  unfold cmp_isNaN_int at h
  refine spec_of (σ := [(0, _)]) Try.func68 rfl rfl rfl rfl ?_
  intro C
  refine wc_seq ?_
  refine wc_region ?_   -- region 0
  refine wl_det rfl rfl (det_assign rfl) rfl ?_
  refine wl_nil ?_
  refine pn_then ?_
  refine wc_seq ?_
  refine wc_region ?_   -- region 1
  refine wl_det rfl rfl (det_move rfl) rfl ?_
  refine wl_det rfl rfl (det_move rfl) rfl ?_
  refine wl_det rfl rfl (det_neq rfl rfl) rfl ?_
  refine wl_det rfl rfl (det_assign rfl) rfl ?_
  refine wl_nil ?_
  refine pn_then ?_
  refine wc_ret ?_
  replace h := Option.some.inj h
  subst h
  refine pn_ret (vs := [_]) rfl ⟨rfl, trivial⟩ ⟨rfl, rfl, rfl⟩ (fun _ h => h.to trivial trivial)
def Q_cmp_Compare_int (r : Int) : Value → List Ent → List Fact → Prop := fun v θ κ => v = .int .i64 r ∧ θ = [] ∧ κ = []
theorem plains_cmp_Compare_int {r : Int} : ∀ v θ κ, Q_cmp_Compare_int r v θ κ → Plains θ := by
  rintro _ _ _ ⟨rfl, rfl, rfl⟩
  exact trivial
set_option maxHeartbeats 4000000 in
set_option maxRecDepth 100000 in
theorem W_cmp_Compare_int (a0 : Int) (a1 : Int) (r : Int) (h : cmp_Compare_int a0 a1 = some r) : Spec Try.prog 51 [.int .i64 a0, .int .i64 a1] [] [] (Q_cmp_Compare_int r) := by
  unfold cmp_Compare_int at h
  refine spec_of (σ := [(0, _), (1, _)]) Try.func51 rfl rfl rfl rfl ?_
  intro C
  refine wc_seq ?_
  refine wc_region ?_   -- region 0
  refine wl_det rfl rfl (det_assign rfl) rfl ?_
  refine wl_nil ?_
  refine pn_then ?_
  refine wc_seq ?_
  refine wc_region ?_   -- region 1
  refine wl_det rfl rfl (det_move rfl) rfl ?_
  obtain ⟨r1_1, hr1_1, h⟩ := bind_some h
  refine wl_act (act_callS (cap := []) (W_cmp_isNaN_int a0 r1_1 hr1_1) rfl rfl rfl bd68 rfl trivial) rfl rfl rfl ?_
  rintro _ _ _ ⟨_, _, ⟨rfl, rfl, rfl⟩, rfl, rfl⟩
  dsimp only [List.nil_append, List.cons_append]
  refine wl_det rfl rfl (det_assign rfl) rfl ?_
  refine wl_nil ?_
  refine pn_then ?_
  refine wc_seq ?_
  refine wc_region ?_   -- region 2
  refine wl_det rfl rfl (det_move rfl) rfl ?_
  obtain ⟨r2_1, hr2_1, h⟩ := bind_some h
  refine wl_act (act_callS (cap := []) (W_cmp_isNaN_int a1 r2_1 hr2_1) rfl rfl rfl bd68 rfl trivial) rfl rfl rfl ?_
  rintro _ _ _ ⟨_, _, ⟨rfl, rfl, rfl⟩, rfl, rfl⟩
  dsimp only [List.nil_append, List.cons_append]
  refine wl_det rfl rfl (det_assign rfl) rfl ?_
  refine wl_nil ?_
  refine pn_then ?_
  refine wc_seq ?_
  refine wc_seq ?_
  refine wc_region ?_   -- region 3
  refine wl_det rfl rfl (det_move rfl) rfl ?_
  refine wl_nil ?_
  refine pn_then ?_
  refine wc_cond rfl (fun cd9 => ?_) (fun cd9 => ?_)
  · have h := ifT h cd9
    refine wc_seq ?_
    refine wc_seq ?_
    refine wc_region ?_   -- region 4
    refine wl_det rfl rfl (det_move rfl) rfl ?_
    refine wl_nil ?_
    refine pn_then ?_
    refine wc_cond rfl (fun cd13 => ?_) (fun cd13 => ?_)
    · have h := ifT h cd13
      refine wc_seq ?_
      refine wc_region ?_   -- region 5
      refine wl_det rfl rfl (det_assign rfl) rfl ?_
      refine wl_nil ?_
      refine pn_then ?_
      refine wc_ret ?_
      refine pr_then ?_
      refine pr_then ?_
      replace h := Option.some.inj h
      subst h
      refine pn_ret (vs := [_]) rfl ⟨rfl, trivial⟩ ⟨rfl, rfl, rfl⟩ (fun _ h => h.to trivial trivial)
    · have h := ifF h cd13
      refine wc_skip ?_
      refine pn_then ?_
      refine wc_seq ?_
      refine wc_region ?_   -- region 6
      refine wl_det rfl rfl (det_assign rfl) rfl ?_
      refine wl_nil ?_
      refine pn_then ?_
      refine wc_ret ?_
      refine pr_then ?_
      replace h := Option.some.inj h
      subst h
      refine pn_ret (vs := [_]) rfl ⟨rfl, trivial⟩ ⟨rfl, rfl, rfl⟩ (fun _ h => h.to trivial trivial)
  · have h := ifF h cd9
    refine wc_skip ?_
    refine pn_then ?_
    refine wc_seq ?_
    refine wc_seq ?_
    refine wc_region ?_   -- region 7
    refine wl_det rfl rfl (det_move rfl) rfl ?_
    refine wl_nil ?_
    refine pn_then ?_
    refine wc_cond rfl (fun cd21 => ?_) (fun cd21 => ?_)
    · have h := ifT h cd21
      refine wc_seq ?_
      refine wc_region ?_   -- region 8
      refine wl_det rfl rfl (det_assign rfl) rfl ?_
      refine wl_nil ?_
      refine pn_then ?_
      refine wc_ret ?_
      refine pr_then ?_
      replace h := Option.some.inj h
      subst h
      refine pn_ret (vs := [_]) rfl ⟨rfl, trivial⟩ ⟨rfl, rfl, rfl⟩ (fun _ h => h.to trivial trivial)
    · have h := ifF h cd21
      refine wc_skip ?_
      refine pn_then ?_
      refine wc_seq ?_
      refine wc_seq ?_
      refine wc_region ?_   -- region 9
      refine wl_det rfl rfl (det_move rfl) rfl ?_
      refine wl_det rfl rfl (det_move rfl) rfl ?_
      refine wl_det rfl rfl (det_lss rfl rfl) rfl ?_
      refine wl_nil ?_
      refine pn_then ?_
      refine wc_cond rfl (fun cd27 => ?_) (fun cd27 => ?_)
      · have h := ifT h cd27
        refine wc_seq ?_
        refine wc_region ?_   -- region 10
        refine wl_det rfl rfl (det_assign rfl) rfl ?_
        refine wl_nil ?_
        refine pn_then ?_
        refine wc_ret ?_
        refine pr_then ?_
        replace h := Option.some.inj h
        subst h
        refine pn_ret (vs := [_]) rfl ⟨rfl, trivial⟩ ⟨rfl, rfl, rfl⟩ (fun _ h => h.to trivial trivial)
      · have h := ifF h cd27
        refine wc_skip ?_
        refine pn_then ?_
        refine wc_seq ?_
        refine wc_seq ?_
        refine wc_region ?_   -- region 11
        refine wl_det rfl rfl (det_move rfl) rfl ?_
        refine wl_det rfl rfl (det_move rfl) rfl ?_
        refine wl_det rfl rfl (det_gtr rfl rfl) rfl ?_
        refine wl_nil ?_
        refine pn_then ?_
        refine wc_cond rfl (fun cd33 => ?_) (fun cd33 => ?_)
        · have h := ifT h cd33
          refine wc_seq ?_
          refine wc_region ?_   -- region 12
          refine wl_det rfl rfl (det_assign rfl) rfl ?_
          refine wl_nil ?_
          refine pn_then ?_
          refine wc_ret ?_
          refine pr_then ?_
          replace h := Option.some.inj h
          subst h
          refine pn_ret (vs := [_]) rfl ⟨rfl, trivial⟩ ⟨rfl, rfl, rfl⟩ (fun _ h => h.to trivial trivial)
        · have h := ifF h cd33
          refine wc_skip ?_
          refine pn_then ?_
          refine wc_seq ?_
          refine wc_region ?_   -- region 13
          refine wl_det rfl rfl (det_assign rfl) rfl ?_
          refine wl_nil ?_
          refine pn_then ?_
          refine wc_ret ?_
          replace h := Option.some.inj h
          subst h
          refine pn_ret (vs := [_]) rfl ⟨rfl, trivial⟩ ⟨rfl, rfl, rfl⟩ (fun _ h => h.to trivial trivial)
def Q_cmp_Or_int (r : Int) : Value → List Ent → List Fact → Prop := fun v θ κ => v = .int .i64 r ∧ θ = [] ∧ κ = []
theorem plains_cmp_Or_int {r : Int} : ∀ v θ κ, Q_cmp_Or_int r v θ κ → Plains θ := by
  rintro _ _ _ ⟨rfl, rfl, rfl⟩
  exact trivial
set_option maxHeartbeats 4000000 in
set_option maxRecDepth 100000 in
theorem W_cmp_Or_int (a0 : (List Int)) (A0 : Option Addr) (n0 : Nat) (c0 : Nat) (r : Int) (h : cmp_Or_int a0 = some r) : Spec Try.prog 50 [.slice A0 n0 c0] [] [fV (lSlice (lInt .i64)) (.slice A0 n0 c0) a0] (Q_cmp_Or_int r) := by
  unfold cmp_Or_int at h
  refine spec_of (σ := [(0, _)]) Try.func50 rfl rfl rfl rfl ?_
  intro C
  refine wc_know (fun _ h => h.lenF m0) (fun e => ?_)
  subst e
  refine wc_seq ?_
  refine wc_region ?_   -- region 0
  refine wl_det rfl rfl (det_assign rfl) rfl ?_
  refine wl_nil ?_
  refine pn_then ?_
  refine wc_seq ?_
  refine wc_region ?_   -- region 1
  refine wl_det rfl rfl (det_assign rfl) rfl ?_
  refine wl_nil ?_
  refine pn_then ?_
  obtain ⟨q4, h, ho4⟩ := bind_some h
  refine wc_meetG (G := Unit × Unit) (fun (s4, _) => (.inl s4) = q4) (fun (_, _) => [(3, .int .i64 0)]) (fun (_, _) => []) (fun (_, _) => []) ?_ ?_
  · refine wc_seq ?_
    refine wc_region ?_   -- region 2
    refine wl_det rfl rfl (det_move rfl) rfl ?_
    refine wl_det rfl rfl (det_len rfl un22) rfl ?_
    refine wl_det rfl rfl (det_move rfl) rfl ?_
    refine wl_nil ?_
    refine pn_then ?_
    refine wc_block ?_
    obtain ⟨o8, h, ho8⟩ := bind_some h
    obtain ⟨k8, hk8⟩ := loopV_some.1 h
    refine wc_loop (G := Nat × Int × Unit) (fun g => IterN (cmp_Or_int_l8 a0) g.1 g.2.1 o8) (fun g => g.1) (fun (_, s8, _) => [(3, .int .i64 0), (6, .slice A0 a0.length c0), (7, .int .i64 (a0.length : Int)), (8, .int .i64 s8)]) (fun (_, _, _) => []) (fun (_, _, _) => [fV (lSlice (lInt .i64)) (.slice A0 a0.length c0) a0]) (k8, 0, ()) hk8 ⟨rfl, rfl, rfl, rfl, trivial⟩ (fun _ h => h.to trivial ⟨m0, trivial⟩) ?_
    rintro ⟨k8, s8, _⟩ hI
    obtain ⟨k8, rfl, q8, h, g8⟩ := IterN.pos hI
    dsimp only at h ⊢
    unfold cmp_Or_int_l8 at h
    refine wc_seq ?_
    refine wc_region ?_   -- region 3
    refine wl_det rfl rfl (det_lss rfl rfl) rfl ?_
    refine wl_nil ?_
    refine pn_then ?_
    refine wc_seq ?_
    refine wc_cond rfl (fun cd12 => ?_) (fun cd12 => ?_)
    · have h := ifT h cd12
      refine wc_skip ?_
      refine pn_then ?_
      refine wc_seq ?_
      refine wc_block ?_
      refine wc_seq ?_
      refine wc_region ?_   -- region 4
      obtain ⟨k4_0, h⟩ := chk_some h
      refine wl_st (fun _ h => h.openF m0 k4_0) ?_
      refine wl_det rfl rfl (det_indexP rfl rfl (ms m0) k4_0 m0 un22 sz3) rfl ?_
      refine wl_det rfl rfl (det_loadP (off := 0) rfl m0 (by rfl) (by rfl) (loaded_1 na3 us3)) rfl ?_
      refine wl_det rfl rfl (det_assign rfl) rfl ?_
      refine wl_nil ?_
      refine pn_then ?_
      refine wc_seq ?_
      refine wc_region ?_   -- region 5
      refine wl_det rfl rfl (det_move rfl) rfl ?_
      refine wl_det rfl rfl (det_move rfl) rfl ?_
      refine wl_det rfl rfl (det_neq rfl rfl) rfl ?_
      refine wl_nil ?_
      refine pn_then ?_
      refine wc_cond rfl (fun cd20 => ?_) (fun cd20 => ?_)
      · have h := ifT h cd20
        refine wc_seq ?_
        refine wc_region ?_   -- region 6
        refine wl_det rfl rfl (det_move rfl) rfl ?_
        refine wl_det rfl rfl (det_assign rfl) rfl ?_
        refine wl_nil ?_
        refine pn_then ?_
        refine wc_ret ?_
        refine pr_block ?_
        refine pr_then ?_
        refine pr_then ?_
        refine pr_block ?_
        refine pr_then ?_
        replace h := Option.some.inj h
        subst h
        replace g8 := nextR g8
        subst g8
        have h := (elimL ho8)
        replace h := Option.some.inj h
        subst h
        have h := (elimR ho4)
        replace h := Option.some.inj h
        subst h
        refine pn_ret (vs := [_]) rfl ⟨rfl, trivial⟩ ⟨rfl, rfl, rfl⟩ (fun _ h => h.to trivial trivial)
      · have h := ifF h cd20
        refine wc_skip ?_
        refine pn_block ?_
        refine pn_then ?_
        refine wc_region ?_   -- region 7
        refine wl_det rfl rfl (det_add rfl rfl) rfl ?_
        refine wl_det rfl rfl (det_move rfl) rfl ?_
        refine wl_nil ?_
        replace h := Option.some.inj h
        subst h
        exact pn_some (k8, (w64 (s8 + 1)), ()) ⟨nextL g8, Nat.lt_succ_self _⟩ ⟨rfl, rfl, rfl, rfl, trivial⟩ (fun _ h => h.to trivial ⟨(ms m0), trivial⟩)
    · have h := ifF h cd12
      refine wc_exit ?_
      refine px_then ?_
      refine px_then ?_
      refine px_block ?_
      replace h := Option.some.inj h
      subst h
      replace g8 := nextR g8
      subst g8
      have h := (elimR ho8)
      replace h := Option.some.inj h
      subst h
      exact pn_meetG ((), ()) rfl ⟨rfl, trivial⟩ (fun _ h => h.to trivial trivial)
  rintro ⟨s4, _⟩ e4
  dsimp only at e4 ⊢
  subst e4
  have h := (elimL ho4)
  refine wc_seq ?_
  refine wc_region ?_   -- region 8
  refine wl_det rfl rfl (det_move rfl) rfl ?_
  refine wl_det rfl rfl (det_assign rfl) rfl ?_
  refine wl_nil ?_
  refine pn_then ?_
  refine wc_ret ?_
  replace h := Option.some.inj h
  subst h
  refine pn_ret (vs := [_]) rfl ⟨rfl, trivial⟩ ⟨rfl, rfl, rfl⟩ (fun _ h => h.to trivial trivial)
def Q_ledger_compare (r : Int) : Value → List Ent → List Fact → Prop := fun v θ κ => v = .int .i64 r ∧ θ = [] ∧ κ = []
theorem plains_ledger_compare {r : Int} : ∀ v θ κ, Q_ledger_compare r v θ κ → Plains θ := by
  rintro _ _ _ ⟨rfl, rfl, rfl⟩
  exact trivial
set_option maxHeartbeats 4000000 in
set_option maxRecDepth 100000 in
theorem W_ledger_compare (a0 : GEntry) (a1 : GEntry) (r : Int) (h : ledger_compare a0 a1 = some r) : Spec Try.prog 39 [.agg #[.int .i64 a0.Kind, .int .i64 a0.Treaty, .int .i64 a0.Party, .int .i64 a0.Loss, .int .i64 a0.Amount], .agg #[.int .i64 a1.Kind, .int .i64 a1.Treaty, .int .i64 a1.Party, .int .i64 a1.Loss, .int .i64 a1.Amount]] [] [] (Q_ledger_compare r) := by
  unfold ledger_compare at h
  refine spec_of (σ := [(0, _), (1, _)]) Try.func39 rfl rfl rfl rfl ?_
  intro C
  refine wc_seq ?_
  refine wc_region ?_   -- region 0
  refine wl_act (act_box (cs := [_, _, _, _, _]) rfl rfl) rfl rfl rfl ?_
  rintro _ _ _ ⟨b0_0, rfl, rfl, rfl⟩
  refine wl_act (act_box (cs := [_, _, _, _, _]) rfl rfl) rfl rfl rfl ?_
  rintro _ _ _ ⟨b0_1, rfl, rfl, rfl⟩
  refine wl_det rfl rfl (det_assign rfl) rfl ?_
  refine wl_nil ?_
  refine pn_then ?_
  refine wc_seq ?_
  refine dx_region 22 [[], [0], [], [2], [0, 1, 2, 3], [], [5], [], [7], [0, 1, 2, 3, 4, 5, 6, 7, 8], [], [10], [], [12], [0, 1, 2, 3, 4, 5, 6, 7, 8, 9, 10, 11, 12, 13], [], [15], [], [17], [0, 1, 2, 3, 4, 5, 6, 7, 8, 9, 10, 11, 12, 13, 14, 15, 16, 17, 18], [0, 1, 2, 3, 4, 5, 6, 7, 8, 9, 10, 11, 12, 13, 14, 15, 16, 17, 18, 19], [0, 1, 2, 3, 4, 5, 6, 7, 8, 9, 10, 11, 12, 13, 14, 15, 16, 17, 18, 19, 20], [0, 1, 2, 3, 4, 5, 6, 7, 8, 9, 10, 11, 12, 13, 14, 15, 16, 17, 18, 19, 20, 21]] mixed (ord := (.det 0 (.det 1 (.det 2 (.det 3 (.det 5 (.det 6 (.det 7 (.det 8 (.det 10 (.det 11 (.det 12 (.det 13 (.det 15 (.det 16 (.det 17 (.det 18 (.alt 4 (.alt 9 (.alt 14 (.alt 19 (.alt 20 (.alt 21 .done .dead) .dead) .dead) .dead) .dead) .dead)))))))))))))))))) (by kernel_rfl) ?_   -- region 1
  refine hx_det rfl rfl rfl nofun (det_field rfl fd43_0 rfl) rfl ?_
  refine hx_det rfl rfl rfl nofun (det_load rfl (ms m0) (by rfl) na3 us3) rfl ?_
  refine hx_det rfl rfl rfl nofun (det_field rfl fd43_0 rfl) rfl ?_
  refine hx_det rfl rfl rfl nofun (det_load rfl m0 (by rfl) na3 us3) rfl ?_
  refine hx_det rfl rfl rfl nofun (det_field rfl fd43_1 rfl) rfl ?_
  refine hx_det rfl rfl rfl nofun (det_load rfl (ms m0) (by rfl) na3 us3) rfl ?_
  refine hx_det rfl rfl rfl nofun (det_field rfl fd43_1 rfl) rfl ?_
  refine hx_det rfl rfl rfl nofun (det_load rfl m0 (by rfl) na3 us3) rfl ?_
  refine hx_det rfl rfl rfl nofun (det_field rfl fd43_2 rfl) rfl ?_
  refine hx_det rfl rfl rfl nofun (det_load rfl (ms m0) (by rfl) na3 us3) rfl ?_
  refine hx_det rfl rfl rfl nofun (det_field rfl fd43_2 rfl) rfl ?_
  refine hx_det rfl rfl rfl nofun (det_load rfl m0 (by rfl) na3 us3) rfl ?_
  refine hx_det rfl rfl rfl nofun (det_field rfl fd43_3 rfl) rfl ?_
  refine hx_det rfl rfl rfl nofun (det_load rfl (ms m0) (by rfl) na3 us3) rfl ?_
  refine hx_det rfl rfl rfl nofun (det_field rfl fd43_3 rfl) rfl ?_
  refine hx_det rfl rfl rfl nofun (det_load rfl m0 (by rfl) na3 us3) rfl ?_
  obtain ⟨r1_4, hr1_4, h⟩ := bind_some h
  refine hx_act rfl rfl rfl (act_callS (cap := []) (W_cmp_Compare_int a0.Kind a1.Kind r1_4 hr1_4) rfl rfl rfl bd51 rfl trivial) rfl (by rintro _ _ _ ⟨_, _, _, rfl, rfl⟩; first | exact ⟨_, _, rfl, rfl⟩ | exact ⟨_, [], rfl, rfl⟩) ?_
  rintro _ _ _ ⟨_, _, ⟨rfl, rfl, rfl⟩, rfl, rfl⟩
  dsimp only [List.nil_append, List.cons_append]
  obtain ⟨r1_9, hr1_9, h⟩ := bind_some h
  refine hx_act rfl rfl rfl (act_callS (cap := []) (W_cmp_Compare_int a0.Treaty a1.Treaty r1_9 hr1_9) rfl rfl rfl bd51 rfl trivial) rfl (by rintro _ _ _ ⟨_, _, _, rfl, rfl⟩; first | exact ⟨_, _, rfl, rfl⟩ | exact ⟨_, [], rfl, rfl⟩) ?_
  rintro _ _ _ ⟨_, _, ⟨rfl, rfl, rfl⟩, rfl, rfl⟩
  dsimp only [List.nil_append, List.cons_append]
  obtain ⟨r1_14, hr1_14, h⟩ := bind_some h
  refine hx_act rfl rfl rfl (act_callS (cap := []) (W_cmp_Compare_int a0.Party a1.Party r1_14 hr1_14) rfl rfl rfl bd51 rfl trivial) rfl (by rintro _ _ _ ⟨_, _, _, rfl, rfl⟩; first | exact ⟨_, _, rfl, rfl⟩ | exact ⟨_, [], rfl, rfl⟩) ?_
  rintro _ _ _ ⟨_, _, ⟨rfl, rfl, rfl⟩, rfl, rfl⟩
  dsimp only [List.nil_append, List.cons_append]
  obtain ⟨r1_19, hr1_19, h⟩ := bind_some h
  refine hx_act rfl rfl rfl (act_callS (cap := []) (W_cmp_Compare_int a0.Loss a1.Loss r1_19 hr1_19) rfl rfl rfl bd51 rfl trivial) rfl (by rintro _ _ _ ⟨_, _, _, rfl, rfl⟩; first | exact ⟨_, _, rfl, rfl⟩ | exact ⟨_, [], rfl, rfl⟩) ?_
  rintro _ _ _ ⟨_, _, ⟨rfl, rfl, rfl⟩, rfl, rfl⟩
  dsimp only [List.nil_append, List.cons_append]
  refine hx_act rfl rfl rfl (act_litS (lInt .i64) (vs := [_, _, _, _]) (cs := [_, _, _, _]) [r1_4, r1_9, r1_14, r1_19] un22 in3 rfl rfl rfl rfl rfl ⟨rfl, rfl, rfl, rfl, trivial⟩ (by rfl) rfl (litR_flat rfl)) rfl (by rintro _ _ _ ⟨A1_20, rfl, rfl, rfl⟩; first | exact ⟨_ :: [], [], rfl, rfl⟩ | exact ⟨[], [_], rfl, rfl⟩ | exact ⟨[], [], rfl, rfl⟩) ?_
  rintro _ _ _ ⟨A1_20, rfl, rfl, rfl⟩
  obtain ⟨r1_21, hr1_21, h⟩ := bind_some h
  refine hx_act rfl rfl rfl (act_callL (cap := []) [eS (lInt .i64) 3 A1_20 4 4 [r1_4, r1_9, r1_14, r1_19]] (W_cmp_Or_int [r1_4, r1_9, r1_14, r1_19] A1_20 4 4 r1_21 hr1_21) plains_cmp_Or_int rfl rfl rfl bd50 rfl ⟨m0, trivial⟩ ⟨.inr ⟨_, m0, lent_eS⟩, trivial⟩) rfl (by rintro _ _ _ ⟨_, _, _, rfl, rfl⟩; first | exact ⟨_, _, rfl, rfl⟩ | exact ⟨_, [], rfl, rfl⟩) ?_
  rintro _ _ _ ⟨_, _, ⟨rfl, rfl, rfl⟩, rfl, rfl⟩
  dsimp only [List.nil_append, List.cons_append]
  refine hx_end ?_
  refine wl_det rfl rfl (det_assign rfl) rfl ?_
  refine wl_nil ?_
  refine pn_then ?_
  refine wc_ret ?_
  replace h := Option.some.inj h
  subst h
  refine pn_ret (vs := [_]) rfl ⟨rfl, trivial⟩ ⟨rfl, rfl, rfl⟩ (fun _ h => h.to trivial trivial)
def Q_slices_SortFunc_s_api_Entry_api_Entry_o_ledger_compare (A0 : Option Addr) (n0 : Nat) (c0 : Nat) (r : (List GEntry)) : Value → List Ent → List Fact → Prop := fun v θ κ => v = .tuple #[] ∧ θ = [eS lGEntry 43 A0 n0 c0 r] ∧ κ = []
theorem plains_slices_SortFunc_s_api_Entry_api_Entry_o_ledger_compare {A0 : Option Addr} {n0 : Nat} {c0 : Nat} {r : (List GEntry)} : ∀ v θ κ, Q_slices_SortFunc_s_api_Entry_api_Entry_o_ledger_compare A0 n0 c0 r v θ κ → Plains θ := by
  rintro _ _ _ ⟨rfl, rfl, rfl⟩
  exact ⟨plain_eS, trivial⟩
theorem W_slices_SortFunc_s_api_Entry_api_Entry_o_ledger_compare (a0 : (List GEntry)) (A0 : Option Addr) (n0 : Nat) (c0 : Nat) (r : (List GEntry)) (h : slices_SortFunc_s_api_Entry_api_Entry_o_ledger_compare a0 = some r) : Spec Try.prog 38 [.slice A0 n0 c0, .func (.func 39) #[] #[]] [eS lGEntry 43 A0 n0 c0 a0] [] (Q_slices_SortFunc_s_api_Entry_api_Entry_o_ledger_compare A0 n0 c0 r) :=
  spec_sortK (ρ := Try.sort38_ren) Try.sort38 rfl (by kernel_rfl) (by kernel_rfl) (cap := []) (θ₀ := []) bd39 trivial (fun x y r h => W_ledger_compare x y  r h) h A0 n0 c0
def Q_ledger_Collect (r : (List GEntry) × Int) : Value → List Ent → List Fact → Prop := fun v θ κ => ∃ (pA0 : Option Addr), ∃ (pn0 : Nat), ∃ (pc0 : Nat), v = .tuple #[.slice pA0 pn0 pc0, .int .i64 r.2] ∧ θ = [eS lGEntry 43 pA0 pn0 pc0 r.1] ∧ κ = []
theorem plains_ledger_Collect {r : (List GEntry) × Int} : ∀ v θ κ, Q_ledger_Collect r v θ κ → Plains θ := by
  rintro _ _ _ ⟨_, _, _, rfl, rfl, rfl⟩
  exact ⟨plain_eS, trivial⟩
set_option maxHeartbeats 4000000 in
set_option maxRecDepth 100000 in
theorem W_ledger_Collect (a0 : (List GEntry)) (A0 : Option Addr) (n0 : Nat) (c0 : Nat) (r : (List GEntry) × Int) (h : ledger_Collect a0 = some r) : Spec Try.prog 22 [.slice A0 n0 c0] [] [fV (lSlice lGEntry) (.slice A0 n0 c0) a0] (Q_ledger_Collect r) := by
  unfold ledger_Collect at h
  refine spec_of (σ := [(0, _)]) Try.func22 rfl rfl rfl rfl ?_
  intro C
  refine wc_know (fun _ h => h.lenF m0) (fun e => ?_)
  subst e
  refine wc_seq ?_
  refine wc_region ?_   -- region 0
  refine wl_det rfl rfl (det_assign rfl) rfl ?_
  refine wl_det rfl rfl (det_assign rfl) rfl ?_
  refine wl_nil ?_
  refine pn_then ?_
  refine wc_seq ?_
  refine wc_seq ?_
  refine wc_region ?_   -- region 1
  refine wl_det rfl rfl (det_move rfl) rfl ?_
  refine wl_det rfl rfl (det_len rfl un29) rfl ?_
  refine wl_det rfl rfl (det_gtr rfl rfl) rfl ?_
  refine wl_nil ?_
  refine pn_then ?_
  refine wc_cond rfl (fun cd5 => ?_) (fun cd5 => ?_)
  · have h := ifT h cd5
    refine wc_seq ?_
    refine wc_region ?_   -- region 2
    refine wl_det rfl rfl (det_assign rfl) rfl ?_
    refine wl_det rfl rfl (det_assign rfl) rfl ?_
    refine wl_nil ?_
    refine pn_then ?_
    refine wc_ret ?_
    refine pr_then ?_
    refine pn_st (fun _ h => h.zeroS lGEntry 43 none) ?_
    replace h := Option.some.inj h
    subst h
    refine pn_ret (vs := [_, _]) rfl ⟨rfl, rfl, trivial⟩ ⟨none, 0, 0, rfl, rfl, rfl⟩ (fun _ h => h.to ⟨_, r0, trivial⟩ trivial)
  · have h := ifF h cd5
    refine wc_skip ?_
    refine pn_then ?_
    refine wc_seq ?_
    refine wc_region ?_   -- region 3
    refine wl_act (act_makeMap encKGEntry encKI) rfl rfl rfl ?_
    rintro _ _ _ ⟨b3_0, rfl, rfl, rfl⟩
    refine wl_det rfl rfl (det_assign rfl) rfl ?_
    refine wl_nil ?_
    refine pn_then ?_
    obtain ⟨q10, h, ho10⟩ := bind_some h
    refine wc_meetG (G := (List (GEntry × Int)) × Unit) (fun (s10, _) => (.inl s10) = q10) (fun (_, _) => [(4, .map (some b3_0))]) (fun (s10, _) => [eM encKGEntry encKI b3_0 s10]) (fun (_, _) => []) ?_ ?_
    · refine wc_seq ?_
      refine wc_region ?_   -- region 4
      refine wl_det rfl rfl (det_move rfl) rfl ?_
      refine wl_det rfl rfl (det_len rfl un29) rfl ?_
      refine wl_det rfl rfl (det_move rfl) rfl ?_
      refine wl_nil ?_
      refine pn_then ?_
      refine wc_block ?_
      obtain ⟨o14, h, ho14⟩ := bind_some h
      obtain ⟨k14, hk14⟩ := loopV_some.1 h
      refine wc_loop (G := Nat × ((List (GEntry × Int)) × Int) × Unit) (fun g => IterN (ledger_Collect_l14 a0) g.1 g.2.1 o14) (fun g => g.1) (fun (_, s14, _) => [(4, .map (some b3_0)), (15, .slice A0 a0.length c0), (16, .int .i64 (a0.length : Int)), (17, .int .i64 s14.2)]) (fun (_, s14, _) => [eM encKGEntry encKI b3_0 s14.1]) (fun (_, _, _) => [fV (lSlice lGEntry) (.slice A0 a0.length c0) a0]) (k14, ([], 0), ()) hk14 ⟨rfl, rfl, rfl, rfl, trivial⟩ (fun _ h => h.to ⟨_, r0, trivial⟩ ⟨m0, trivial⟩) ?_
      rintro ⟨k14, s14, _⟩ hI
      obtain ⟨k14, rfl, q14, h, g14⟩ := IterN.pos hI
      dsimp only at h ⊢
      unfold ledger_Collect_l14 at h
      refine wc_seq ?_
      refine wc_region ?_   -- region 5
      refine wl_det rfl rfl (det_lss rfl rfl) rfl ?_
      refine wl_nil ?_
      refine pn_then ?_
      refine wc_seq ?_
      refine wc_cond rfl (fun cd18 => ?_) (fun cd18 => ?_)
      · have h := ifT h cd18
        refine wc_skip ?_
        refine pn_then ?_
        refine wc_seq ?_
        refine wc_block ?_
        refine wc_seq ?_
        refine wc_region ?_   -- region 6
        obtain ⟨k6_0, h⟩ := chk_some h
        refine wl_st (fun _ h => h.openF m0 k6_0) ?_
        refine wl_det rfl rfl (det_indexP rfl rfl (ms m0) k6_0 m0 un29 sz43) rfl ?_
        refine wl_det rfl rfl (det_loadP (off := 0) rfl m0 (by rfl) (by rfl) (loaded_n (cells := [_, _, _, _, _]) ag43 sz43)) rfl ?_
        refine wl_act (act_alloc (cs := [_, _, _, _, _]) zr43 rfl) rfl rfl rfl ?_
        rintro _ _ _ ⟨b6_2, rfl, rfl, rfl⟩
        refine wl_act0 (act_store (cells := [_, _, _, _, _]) (cs' := [_, _, _, _, _]) rfl rfl rfl s0 (by rfl) (of_decide_eq_true rfl) sz43 ⟨rfl, rfl, rfl, rfl, rfl, trivial⟩) rfl rfl ?_
        rintro _ _ _ ⟨rfl, rfl⟩
        refine wl_nil ?_
        refine pn_then ?_
        refine wc_seq ?_
        refine wc_seq ?_
        refine wc_region ?_   -- region 7
        refine wl_det rfl rfl (det_loadN (cells := [_, _, _, _, _]) rfl m0 (by rfl) ag43 sz43) rfl ?_
        obtain ⟨r7_1, hr7_1, h⟩ := bind_some h
        refine wl_act (act_callS (cap := []) (W_ledger_Valid (ix a0 s14.2) r7_1 hr7_1) rfl rfl rfl bd36 rfl trivial) rfl rfl rfl ?_
        rintro _ _ _ ⟨_, _, ⟨rfl, rfl, rfl⟩, rfl, rfl⟩
        dsimp only [List.nil_append, List.cons_append]
        refine wl_det rfl rfl (det_not rfl) rfl ?_
        refine wl_nil ?_
        refine pn_then ?_
        refine wc_cond rfl (fun cd27 => ?_) (fun cd27 => ?_)
        · have h := ifT h cd27
          refine wc_seq ?_
          refine wc_region ?_   -- region 8
          refine wl_det rfl rfl (det_assign rfl) rfl ?_
          refine wl_det rfl rfl (det_assign rfl) rfl ?_
          refine wl_nil ?_
          refine pn_then ?_
          refine wc_ret ?_
          refine pr_then ?_
          refine pr_block ?_
          refine pr_then ?_
          refine pr_then ?_
          refine pr_block ?_
          refine pr_then ?_
          refine pn_st (fun _ h => h.zeroS lGEntry 43 none) ?_
          replace h := Option.some.inj h
          subst h
          replace g14 := nextR g14
          subst g14
          have h := (elimL ho14)
          replace h := Option.some.inj h
          subst h
          have h := (elimR ho10)
          replace h := Option.some.inj h
          subst h
          refine pn_ret (vs := [_, _]) rfl ⟨rfl, rfl, trivial⟩ ⟨none, 0, 0, rfl, rfl, rfl⟩ (fun _ h => h.to ⟨_, r0, trivial⟩ trivial)
        · have h := ifF h cd27
          refine wc_skip ?_
          refine pn_then ?_
          refine wc_seq ?_
          refine wc_region ?_   -- region 9
          refine wl_det rfl rfl (det_loadN (cells := [_, _, _, _, _]) rfl m0 (by rfl) ag43 sz43) rfl ?_
          refine wl_act (act_alloc (cs := [_, _, _, _, _]) zr43 rfl) rfl rfl rfl ?_
          rintro _ _ _ ⟨b9_1, rfl, rfl, rfl⟩
          refine wl_act0 (act_store (cells := [_, _, _, _, _]) (cs' := [_, _, _, _, _]) rfl rfl rfl s0 (by rfl) (of_decide_eq_true rfl) sz43 ⟨rfl, rfl, rfl, rfl, rfl, trivial⟩) rfl rfl ?_
          rintro _ _ _ ⟨rfl, rfl⟩
          refine wl_nil ?_
          refine pn_then ?_
          refine wc_seq ?_
          refine wc_region ?_   -- region 10
          refine wl_det rfl rfl (det_field rfl fd43_4 rfl) rfl ?_
          refine wl_act0 (act_store (cells := [_]) (cs' := [_, _, _, _, _]) rfl rfl rfl s0 (by rfl) (of_decide_eq_true rfl) sz3 ⟨rfl, trivial⟩) rfl rfl ?_
          rintro _ _ _ ⟨rfl, rfl⟩
          refine wl_nil ?_
          refine pn_then ?_
          refine dx_regionZ (Z := St C [_, _, _] [_, _]) 8 [[], [], [0, 1], [], [3], [0, 1, 2, 3, 4], [0, 1, 3, 4], [0, 1, 3, 4, 6], [0, 1, 2, 3, 4, 5, 6, 7]] mixed (ord := (.det 0 (.det 1 (.det 2 (.det 3 (.det 4 (.det 5 (.alt 6 (.det 7 .done) .dead)))))))) (by kernel_rfl) (fun _ h => (h.weakM (0 : Int) (ss (ss s0))).to ⟨_, r0, ⟨_, r0, ⟨_, r0, trivial⟩⟩⟩ ⟨m0, ⟨(ms m0), trivial⟩⟩) ?_   -- region 11
          refine hx_det rfl rfl rfl nofun (det_move rfl) rfl ?_
          refine hx_det rfl rfl rfl nofun (det_loadN (cells := [_, _, _, _, _]) rfl m0 (by rfl) ag43 sz43) rfl ?_
          refine hx_det rfl rfl rfl nofun (det_lookupW (k := (GEntry.mk (ix a0 s14.2).Kind (ix a0 s14.2).Treaty (ix a0 s14.2).Party (ix a0 s14.2).Loss 0)) (z := (0 : Int)) (vr := .int .i64 (mget s14.1 (GEntry.mk (ix a0 s14.2).Kind (ix a0 s14.2).Treaty (ix a0 s14.2).Party (ix a0 s14.2).Loss 0) (0 : Int))) rfl rfl rfl (ms (ms m0)) ko43 um69 zr3 rfl) rfl ?_
          refine hx_det rfl rfl rfl nofun (det_field rfl fd43_4 rfl) rfl ?_
          refine hx_det rfl rfl rfl nofun (det_load rfl (ms m0) (by rfl) na3 us3) rfl ?_
          refine hx_det rfl rfl rfl nofun (det_add rfl rfl) rfl ?_
          refine hx_mut rfl rfl rfl (act_mapEntry (k := (GEntry.mk (ix a0 s14.2).Kind (ix a0 s14.2).Treaty (ix a0 s14.2).Party (ix a0 s14.2).Loss 0)) (z := (0 : Int)) rfl rfl rfl (ss (ss s0)) ko43 um69 zr3) rfl (by rintro _ _ _ ⟨n11_6, rfl, rfl, rfl⟩ w hs; exact (hs.weakP (ss (ss s0))).to ⟨_, r0, ⟨_, r0, ⟨_, r0, trivial⟩⟩⟩ ⟨m0, ⟨(ms m0), trivial⟩⟩) ?_
          rintro _ _ _ ⟨n11_6, rfl, rfl, rfl⟩
          refine hx_det rfl rfl rfl nofun (det_extract rfl rfl) rfl ?_
          refine hx_end ?_
          refine wl_act0 (act_entryStore (v := (w64 ((mget s14.1 (GEntry.mk (ix a0 s14.2).Kind (ix a0 s14.2).Treaty (ix a0 s14.2).Party (ix a0 s14.2).Loss 0) (0 : Int)) + (ix a0 s14.2).Amount))) rfl rfl rfl rfl (ss (ss s0))) rfl rfl ?_
          rintro _ _ _ ⟨rfl, rfl⟩
          refine wl_nil ?_
          refine pn_block ?_
          refine pn_then ?_
          refine wc_region ?_   -- region 12
          refine wl_det rfl rfl (det_add rfl rfl) rfl ?_
          refine wl_det rfl rfl (det_move rfl) rfl ?_
          refine wl_nil ?_
          replace h := Option.some.inj h
          subst h
          exact pn_some (k14, ((mset s14.1 (GEntry.mk (ix a0 s14.2).Kind (ix a0 s14.2).Treaty (ix a0 s14.2).Party (ix a0 s14.2).Loss 0) (w64 ((mget s14.1 (GEntry.mk (ix a0 s14.2).Kind (ix a0 s14.2).Treaty (ix a0 s14.2).Party (ix a0 s14.2).Loss 0) (0 : Int)) + (ix a0 s14.2).Amount))), (w64 (s14.2 + 1))), ()) ⟨nextL g14, Nat.lt_succ_self _⟩ ⟨rfl, rfl, rfl, rfl, trivial⟩ (fun _ h => h.to ⟨_, (rs (rs r0)), trivial⟩ ⟨(ms m0), trivial⟩)
      · have h := ifF h cd18
        refine wc_exit ?_
        refine px_then ?_
        refine px_then ?_
        refine px_block ?_
        replace h := Option.some.inj h
        subst h
        replace g14 := nextR g14
        subst g14
        have h := (elimR ho14)
        replace h := Option.some.inj h
        subst h
        exact pn_meetG (s14.1, ()) rfl ⟨rfl, trivial⟩ (fun _ h => h.to ⟨_, r0, trivial⟩ trivial)
    rintro ⟨s10, _⟩ e10
    dsimp only at e10 ⊢
    subst e10
    have h := (elimL ho10)
    refine wc_seq ?_
    refine wc_region ?_   -- region 13
    refine wl_det rfl rfl (det_move rfl) rfl ?_
    refine wl_det rfl rfl (det_lenM rfl m0 um69) rfl ?_
    obtain ⟨k13_2, h⟩ := chk_some h
    obtain ⟨k13_2a, h⟩ := chk_some h
    refine wl_act (act_makeS (L := lGEntry) (x0 := (GEntry.mk 0 0 0 0 0)) rfl rfl un29 in43 (by refine ⟨rfl, fun _ _ => ?_⟩; first | exact rfl | exact ⟨_, _, _, rfl, rfl, Nat.zero_le _, .inl rfl⟩) rfl rfl rfl k13_2 k13_2a) rfl rfl rfl ?_
    rintro _ _ _ ⟨A13_2, c13_2, rfl, rfl, rfl⟩
    refine wl_det rfl rfl (det_assign rfl) rfl ?_
    refine wl_nil ?_
    refine pn_then ?_
    refine wc_seq ?_
    refine wc_seq ?_
    refine wc_region ?_   -- region 14
    refine wl_det rfl rfl (det_move rfl) rfl ?_
    refine wl_st (fun _ h => h.shutM (rs r0)) ?_
    refine wl_act (act_range rfl m0 um69) rfl rfl rfl ?_
    rintro _ _ _ ⟨b14_1, rfl, rfl, rfl⟩
    refine wl_nil ?_
    refine pn_then ?_
    refine wc_block ?_
    have hR42 := rangeP_some.1 h
    refine wc_range (G := Option Addr × Nat × Nat × Option (GEntry × Int) × Unit) (fun (_, _, A42_0, n42_0, c42_0, _, _) => [(8, .slice A42_0 n42_0 c42_0), (39, .pointer (some ⟨b14_1, 0, none⟩))]) (fun (lf42, s42, A42_0, n42_0, c42_0, cu42_3, _) => [eS lGEntry 43 A42_0 n42_0 c42_0 s42, eIt encKGEntry encKI b14_1 cu42_3 lf42]) (fun (_, _, _, _, _, _, _) => []) (s10, (List.replicate (0 : Int).toNat (GEntry.mk 0 0 0 0 0)), A13_2, (List.replicate (0 : Int).toNat (GEntry.mk 0 0 0 0 0)).length, c13_2, none, ()) hR42 ⟨rfl, rfl, trivial⟩ (fun _ h => h.to ⟨_, (rs r0), ⟨_, r0, trivial⟩⟩ trivial) ?_
    rintro ⟨lf42, s42, A42_0, n42_0, c42_0, cu42_3, _⟩ hI42
    dsimp only at hI42 ⊢
    rcases Classical.em (lf42 = []) with hl42 | hl42
    · subst hl42
      have h := elimL hI42.nil
      refine wc_know (fun _ h => h.lenO m0) (fun e => ?_)
      subst e
      refine wc_seq ?_
      refine wc_region ?_   -- region 15
      refine wl_act (act_next0 rfl (ms m0)) rfl rfl rfl ?_
      rintro _ _ _ ⟨rfl, rfl, rfl⟩
      refine wl_det rfl rfl (det_extract rfl rfl) rfl ?_
      refine wl_nil ?_
      refine pn_then ?_
      refine wc_seq ?_
      refine wc_condF rfl ?_
      refine wc_exit ?_
      refine px_then ?_
      refine px_then ?_
      refine px_block ?_
      refine pn_then ?_
      refine wc_seq ?_
      refine wc_region ?_   -- region 22
      refine wl_det rfl rfl (det_move rfl) rfl ?_
      obtain ⟨r22_1, hr22_1, h⟩ := bind_some h
      refine wl_act (act_callS (cap := []) (W_slices_SortFunc_s_api_Entry_api_Entry_o_ledger_compare s42 A42_0 s42.length c42_0 r22_1 hr22_1) rfl rfl rfl bd38 ⟨_, r0, rfl⟩ trivial) rfl rfl rfl ?_
      rintro _ _ _ ⟨_, _, ⟨rfl, rfl, rfl⟩, rfl, rfl⟩
      dsimp only [List.nil_append, List.cons_append]
      refine wl_nil ?_
      refine pn_then ?_
      refine wc_seq ?_
      refine wc_region ?_   -- region 23
      refine wl_det rfl rfl (det_move rfl) rfl ?_
      refine wl_det rfl rfl (det_assign rfl) rfl ?_
      refine wl_det rfl rfl (det_assign rfl) rfl ?_
      refine wl_nil ?_
      refine pn_then ?_
      refine wc_ret ?_
      replace h := Option.some.inj h
      subst h
      refine pn_ret (vs := [_, _]) rfl ⟨rfl, rfl, trivial⟩ ⟨A42_0, s42.length, c42_0, rfl, rfl, rfl⟩ (fun _ h => h.to ⟨_, r0, trivial⟩ trivial)
    · refine wc_know (fun _ h => h.lenO m0) (fun e => ?_)
      subst e
      refine wc_seq ?_
      refine wc_region ?_   -- region 15
      refine wl_act (act_next1 rfl (ss s0) hl42) rfl rfl rfl ?_
      rintro _ _ _ ⟨p42, lg42, hp42, rfl, rfl, rfl⟩
      obtain ⟨q42, h, hN42⟩ := hI42.cons hp42
      unfold ledger_Collect_l42 at h
      refine wl_det rfl rfl (det_extract rfl rfl) rfl ?_
      refine wl_nil ?_
      refine pn_then ?_
      refine wc_seq ?_
      refine wc_condT rfl ?_
      refine wc_skip ?_
      refine pn_then ?_
      refine wc_block ?_
      refine wc_seq ?_
      refine wc_region ?_   -- region 16
      refine wl_det rfl rfl (det_entry (vk := .agg #[.int .i64 p42.1.Kind, .int .i64 p42.1.Treaty, .int .i64 p42.1.Party, .int .i64 p42.1.Loss, .int .i64 p42.1.Amount]) (vv := .int .i64 p42.2) rfl (ms m0) rfl rfl) rfl ?_
      refine wl_det rfl rfl (det_extract rfl rfl) rfl ?_
      refine wl_det rfl rfl (det_extract rfl rfl) rfl ?_
      refine wl_act (act_alloc (cs := [_, _, _, _, _]) zr43 rfl) rfl rfl rfl ?_
      rintro _ _ _ ⟨b16_3, rfl, rfl, rfl⟩
      refine wl_act0 (act_store (cells := [_, _, _, _, _]) (cs' := [_, _, _, _, _]) rfl rfl rfl s0 (by rfl) (of_decide_eq_true rfl) sz43 ⟨rfl, rfl, rfl, rfl, rfl, trivial⟩) rfl rfl ?_
      rintro _ _ _ ⟨rfl, rfl⟩
      refine wl_det rfl rfl (det_assign rfl) rfl ?_
      refine wl_nil ?_
      refine pn_then ?_
      refine wc_seq ?_
      refine wc_seq ?_
      refine wc_region ?_   -- region 17
      refine wl_det rfl rfl (det_move rfl) rfl ?_
      obtain ⟨r17_1, hr17_1, h⟩ := bind_some h
      refine wl_act (act_callS (cap := []) (W_amount_Valid p42.2 r17_1 hr17_1) rfl rfl rfl bd37 rfl trivial) rfl rfl rfl ?_
      rintro _ _ _ ⟨_, _, ⟨rfl, rfl, rfl⟩, rfl, rfl⟩
      dsimp only [List.nil_append, List.cons_append]
      refine wl_det rfl rfl (det_not rfl) rfl ?_
      refine wl_nil ?_
      refine pn_then ?_
      refine wc_cond rfl (fun cd54 => ?_) (fun cd54 => ?_)
      · have h := ifT h cd54
        refine wc_seq ?_
        refine wc_region ?_   -- region 18
        refine wl_det rfl rfl (det_assign rfl) rfl ?_
        refine wl_det rfl rfl (det_assign rfl) rfl ?_
        refine wl_nil ?_
        refine pn_then ?_
        refine wc_ret ?_
        refine pr_then ?_
        refine pr_block ?_
        refine pr_then ?_
        refine pr_block ?_
        refine pr_then ?_
        refine pn_st (fun _ h => h.zeroS lGEntry 43 none) ?_
        replace h := Option.some.inj h
        subst h
        have h := (elimR (rnextR hN42))
        replace h := Option.some.inj h
        subst h
        refine pn_ret (vs := [_, _]) rfl ⟨rfl, rfl, trivial⟩ ⟨none, 0, 0, rfl, rfl, rfl⟩ (fun _ h => h.to ⟨_, r0, trivial⟩ trivial)
      · have h := ifF h cd54
        refine wc_skip ?_
        refine pn_then ?_
        refine wc_seq ?_
        refine wc_region ?_   -- region 19
        refine wl_det rfl rfl (det_move rfl) rfl ?_
        refine wl_det rfl rfl (det_neq rfl rfl) rfl ?_
        refine wl_nil ?_
        refine pn_then ?_
        refine wc_cond rfl (fun cd59 => ?_) (fun cd59 => ?_)
        · have h := ifT h cd59
          refine wc_seq ?_
          refine wc_region ?_   -- region 20
          refine wl_det rfl rfl (det_move rfl) rfl ?_
          refine wl_det rfl rfl (det_field rfl fd43_4 rfl) rfl ?_
          refine wl_act0 (act_store (cells := [_]) (cs' := [_, _, _, _, _]) rfl rfl rfl s0 (by rfl) (of_decide_eq_true rfl) sz3 ⟨rfl, trivial⟩) rfl rfl ?_
          rintro _ _ _ ⟨rfl, rfl⟩
          refine wl_nil ?_
          refine pn_then ?_
          refine wc_region ?_   -- region 21
          refine wl_det rfl rfl (det_move rfl) rfl ?_
          refine wl_det rfl rfl (det_loadN (cells := [_, _, _, _, _]) rfl m0 (by rfl) ag43 sz43) rfl ?_
          refine wl_act (act_litS lGEntry (vs := [_]) (cs := [_, _, _, _, _]) [(GEntry.mk p42.1.Kind p42.1.Treaty p42.1.Party p42.1.Loss p42.2)] un29 in43 rfl rfl rfl rfl rfl ⟨rfl, trivial⟩ (by rfl) rfl (litR_flat rfl)) rfl rfl rfl ?_
          rintro _ _ _ ⟨A21_2, rfl, rfl, rfl⟩
          obtain ⟨k21_3, h⟩ := chk_some h
          refine wl_act (act_appendS (L := lGEntry) rfl rfl (ss (ss s0)) (src_O m0) un29 in43 rfl rfl rfl k21_3) rfl rfl rfl ?_
          rintro _ _ _ ⟨A21_3, c21_3, rfl, rfl, rfl⟩
          refine wl_det rfl rfl (det_assign rfl) rfl ?_
          refine wl_nil ?_
          refine pn_block ?_
          replace h := Option.some.inj h
          subst h
          exact pn_some (lg42, (s42 ++ [(GEntry.mk p42.1.Kind p42.1.Treaty p42.1.Party p42.1.Loss p42.2)]), A21_3, (s42 ++ [(GEntry.mk p42.1.Kind p42.1.Treaty p42.1.Party p42.1.Loss p42.2)]).length, c21_3, (some p42), ()) ⟨rnextL hN42, perm_lt hp42⟩ ⟨rfl, rfl, trivial⟩ (fun _ h => h.to ⟨_, (rs (rs r0)), ⟨_, (rs (rs r0)), trivial⟩⟩ trivial)
        · have h := ifF h cd59
          refine wc_skip ?_
          refine pn_block ?_
          replace h := Option.some.inj h
          subst h
          exact pn_some (lg42, s42, A42_0, s42.length, c42_0, (some p42), ()) ⟨rnextL hN42, perm_lt hp42⟩ ⟨rfl, rfl, trivial⟩ (fun _ h => h.to ⟨_, (rs r0), ⟨_, (rs r0), trivial⟩⟩ trivial)
def Q_ledger_Totals (r : (List GEntry) × Int) : Value → List Ent → List Fact → Prop := fun v θ κ => ∃ (pA0 : Option Addr), ∃ (pn0 : Nat), ∃ (pc0 : Nat), v = .tuple #[.slice pA0 pn0 pc0, .int .i64 r.2] ∧ θ = [eS lGEntry 43 pA0 pn0 pc0 r.1] ∧ κ = []
theorem plains_ledger_Totals {r : (List GEntry) × Int} : ∀ v θ κ, Q_ledger_Totals r v θ κ → Plains θ := by
  rintro _ _ _ ⟨_, _, _, rfl, rfl, rfl⟩
  exact ⟨plain_eS, trivial⟩
set_option maxHeartbeats 4000000 in
set_option maxRecDepth 100000 in
theorem W_ledger_Totals (a0 : GLedger) (a1 : Int) (A0 : Option Addr) (n0 : Nat) (c0 : Nat) (r : (List GEntry) × Int) (h : ledger_Totals a0 a1 = some r) : Spec Try.prog 14 [.agg #[.int .i64 a0.Closed, .slice A0 n0 c0], .int .i64 a1] [] [fV (lSlice lGPosting) (.slice A0 n0 c0) a0.Postings] (Q_ledger_Totals r) := by
  unfold ledger_Totals at h
  refine spec_of (σ := [(0, _), (1, _)]) Try.func14 rfl rfl rfl rfl ?_
  intro C
  refine wc_know (fun _ h => h.lenF m0) (fun e => ?_)
  subst e
  refine wc_seq ?_
  refine wc_region ?_   -- region 0
  refine wl_act (act_box (cs := [_, _]) rfl rfl) rfl rfl rfl ?_
  rintro _ _ _ ⟨b0_0, rfl, rfl, rfl⟩
  refine wl_det rfl rfl (det_assign rfl) rfl ?_
  refine wl_det rfl rfl (det_assign rfl) rfl ?_
  refine wl_nil ?_
  refine pn_then ?_
  refine wc_seq ?_
  refine wc_seq ?_
  refine wc_region ?_   -- region 1
  refine wl_det rfl rfl (det_loadN (cells := [_, _]) rfl m0 (by rfl) ag25 sz25) rfl ?_
  obtain ⟨r1_1, hr1_1, h⟩ := bind_some h
  refine wl_act (act_callS (cap := []) (W_ledger_Validate a0 A0 a0.Postings.length c0 r1_1 hr1_1) rfl rfl rfl bd21 rfl ⟨m0, trivial⟩) rfl rfl rfl ?_
  rintro _ _ _ ⟨_, _, ⟨rfl, rfl, rfl⟩, rfl, rfl⟩
  dsimp only [List.nil_append, List.cons_append]
  refine wl_det rfl rfl (det_assign rfl) rfl ?_
  refine wl_nil ?_
  refine pn_then ?_
  refine wc_seq ?_
  refine wc_region ?_   -- region 2
  refine wl_det rfl rfl (det_move rfl) rfl ?_
  refine wl_det rfl rfl (det_neq rfl rfl) rfl ?_
  refine wl_nil ?_
  refine pn_then ?_
  refine wc_cond rfl (fun cd7 => ?_) (fun cd7 => ?_)
  · have h := ifT h cd7
    refine wc_seq ?_
    refine wc_region ?_   -- region 3
    refine wl_det rfl rfl (det_move rfl) rfl ?_
    refine wl_det rfl rfl (det_assign rfl) rfl ?_
    refine wl_det rfl rfl (det_assign rfl) rfl ?_
    refine wl_nil ?_
    refine pn_then ?_
    refine wc_ret ?_
    refine pr_then ?_
    refine pn_st (fun _ h => h.zeroS lGEntry 43 none) ?_
    replace h := Option.some.inj h
    subst h
    refine pn_ret (vs := [_, _]) rfl ⟨rfl, rfl, trivial⟩ ⟨none, 0, 0, rfl, rfl, rfl⟩ (fun _ h => h.to ⟨_, r0, trivial⟩ trivial)
  · have h := ifF h cd7
    refine wc_skip ?_
    refine pn_then ?_
    refine wc_seq ?_
    refine wc_seq ?_
    refine wc_region ?_   -- region 4
    refine wl_det rfl rfl (det_move rfl) rfl ?_
    refine wl_det rfl rfl (det_lss rfl rfl) rfl ?_
    refine wl_det rfl rfl (det_move rfl) rfl ?_
    refine wl_way (decide (a1 < 0)) ((decide (a1 < 0)) || (decide ((w64 (a0.Closed + 1)) < a1))) 6 23 (fun hg => ?_) (fun hg => ?_) ?_
    · have hg4_8 := hg
      refine wl_off rfl rfl rfl rfl rfl hg4_8 rfl ?_
      refine wl_off rfl rfl rfl rfl rfl hg4_8 rfl ?_
      refine wl_off rfl rfl rfl rfl rfl hg4_8 rfl ?_
      refine wl_off rfl rfl rfl rfl rfl hg4_8 rfl ?_
      refine wl_off rfl rfl rfl rfl rfl hg4_8 rfl ?_
      refine wl_det rfl rfl (det_or_on (r := (decide ((w64 (a0.Closed + 1)) < a1))) rfl rfl rfl hg4_8) rfl ?_
      exact wl_nil (pn_qnE (ext_cons rfl (ext_skip rfl (ext_skip rfl (ext_skip rfl (ext_skip rfl (ext_skip rfl (ext_skip rfl ext_refl))))))) (fun _ h => h))
    · have hg4_8a := hg
      refine wl_on rfl rfl rfl rfl hg4_8a ?_
      refine wl_det rfl rfl (det_move rfl) rfl ?_
      refine wl_on rfl rfl rfl rfl hg4_8a ?_
      refine wl_det rfl rfl (det_field rfl fd25_0 rfl) rfl ?_
      refine wl_on rfl rfl rfl rfl hg4_8a ?_
      refine wl_det rfl rfl (det_load rfl m0 (by rfl) na3 us3) rfl ?_
      refine wl_on rfl rfl rfl rfl hg4_8a ?_
      refine wl_det rfl rfl (det_add rfl rfl) rfl ?_
      refine wl_on rfl rfl rfl rfl hg4_8a ?_
      refine wl_det rfl rfl (det_gtr rfl rfl) rfl ?_
      refine wl_det rfl rfl (det_or_off rfl rfl rfl hg4_8a) rfl ?_
      exact wl_nil (pn_qnE (ext_cons rfl (ext_skip rfl (ext_skip rfl (ext_skip rfl (ext_skip rfl (ext_skip rfl (ext_skip rfl ext_refl))))))) (fun _ h => h))
    refine wl_nil ?_
    refine pn_then ?_
    refine wc_cond rfl (fun cd13 => ?_) (fun cd13 => ?_)
    · have h := ifT h cd13
      refine wc_seq ?_
      refine wc_region ?_   -- region 5
      refine wl_det rfl rfl (det_assign rfl) rfl ?_
      refine wl_det rfl rfl (det_assign rfl) rfl ?_
      refine wl_nil ?_
      refine pn_then ?_
      refine wc_ret ?_
      refine pr_then ?_
      refine pn_st (fun _ h => h.zeroS lGEntry 43 none) ?_
      replace h := Option.some.inj h
      subst h
      refine pn_ret (vs := [_, _]) rfl ⟨rfl, rfl, trivial⟩ ⟨none, 0, 0, rfl, rfl, rfl⟩ (fun _ h => h.to ⟨_, r0, trivial⟩ trivial)
    · have h := ifF h cd13
      refine wc_skip ?_
      refine pn_then ?_
      refine wc_seq ?_
      refine wc_region ?_   -- region 6
      refine wl_det rfl rfl (det_assign rfl) rfl ?_
      refine wl_nil ?_
      refine pn_then ?_
      obtain ⟨q18, h, ho18⟩ := bind_some h
      refine wc_meetG (G := (List GEntry) × Option Addr × Nat × Nat × Unit) (fun (s18, _, _, _, _) => s18 = q18) (fun (_, A18_0, n18_0, c18_0, _) => [(7, .slice A18_0 n18_0 c18_0)]) (fun (s18, A18_0, n18_0, c18_0, _) => [eS lGEntry 43 A18_0 n18_0 c18_0 s18]) (fun (_, _, _, _, _) => []) ?_ ?_
      · refine wc_seq ?_
        refine wc_region ?_   -- region 7
        refine wl_det rfl rfl (det_field rfl fd25_1 rfl) rfl ?_
        refine wl_det rfl rfl (det_load rfl m0 (by rfl) na23 us23) rfl ?_
        refine wl_det rfl rfl (det_len rfl un23) rfl ?_
        refine wl_det rfl rfl (det_move rfl) rfl ?_
        refine wl_nil ?_
        refine pn_then ?_
        refine wc_block ?_
        refine wc_st (fun _ h => h.zeroS lGEntry 43 none) ?_
        obtain ⟨k22, hk22⟩ := loopV_some.1 h
        refine wc_loop (G := Nat × ((List GEntry) × Int) × Option Addr × Nat × Nat × Unit) (fun g => IterN (ledger_Totals_l22 a0 a1) g.1 g.2.1 q18) (fun g => g.1) (fun (_, s22, A22_0, n22_0, c22_0, _) => [(1, .int .i64 a1), (7, .slice A22_0 n22_0 c22_0), (25, .slice A0 a0.Postings.length c0), (26, .int .i64 (a0.Postings.length : Int)), (27, .int .i64 s22.2)]) (fun (_, s22, A22_0, n22_0, c22_0, _) => [eS lGEntry 43 A22_0 n22_0 c22_0 s22.1]) (fun (_, _, _, _, _, _) => [fV (lSlice lGPosting) (.slice A0 a0.Postings.length c0) a0.Postings]) (k22, ([], 0), none, 0, 0, ()) hk22 ⟨rfl, rfl, rfl, rfl, rfl, trivial⟩ (fun _ h => h.to ⟨_, r0, trivial⟩ ⟨m0, trivial⟩) ?_
        rintro ⟨k22, s22, A22_0, n22_0, c22_0, _⟩ hI
        obtain ⟨k22, rfl, q22, h, g22⟩ := IterN.pos hI
        dsimp only at h ⊢
        unfold ledger_Totals_l22 at h
        refine wc_know (fun _ h => h.lenO m0) (fun e => ?_)
        subst e
        refine wc_seq ?_
        refine wc_region ?_   -- region 8
        refine wl_det rfl rfl (det_lss rfl rfl) rfl ?_
        refine wl_nil ?_
        refine pn_then ?_
        refine wc_seq ?_
        refine wc_cond rfl (fun cd26 => ?_) (fun cd26 => ?_)
        · have h := ifT h cd26
          refine wc_skip ?_
          refine pn_then ?_
          obtain ⟨q28, h, ho28⟩ := bind_some h
          refine wc_meetG (G := (List GEntry) × Option Addr × Nat × Nat × Unit) (fun (s28, _, _, _, _) => s28 = q28) (fun (_, A28_0, n28_0, c28_0, _) => [(1, .int .i64 a1), (7, .slice A28_0 n28_0 c28_0), (25, .slice A0 a0.Postings.length c0), (26, .int .i64 (a0.Postings.length : Int)), (27, .int .i64 s22.2)]) (fun (s28, A28_0, n28_0, c28_0, _) => [eS lGEntry 43 A28_0 n28_0 c28_0 s28]) (fun (_, _, _, _, _) => [fV (lSlice lGPosting) (.slice A0 a0.Postings.length c0) a0.Postings]) ?_ ?_
          · refine wc_block ?_
            refine wc_seq ?_
            refine wc_region ?_   -- region 9
            obtain ⟨k9_0, h⟩ := chk_some h
            refine wl_st (fun _ h => h.openF m0 k9_0) ?_
            refine wl_det rfl rfl (det_indexP rfl rfl (ms m0) k9_0 m0 un23 sz61) rfl ?_
            refine wl_det rfl rfl (det_loadP (off := 0) rfl m0 (by rfl) (by rfl) (loaded_n (cells := [_, _, _, _, _, _, _]) ag61 sz61)) rfl ?_
            refine wl_act (act_alloc (cs := [_, _, _, _, _, _, _]) zr61 rfl) rfl rfl rfl ?_
            rintro _ _ _ ⟨b9_2, rfl, rfl, rfl⟩
            refine wl_act0 (act_store (cells := [_, _, _, _, _, _, _]) (cs' := [_, _, _, _, _, _, _]) rfl rfl rfl s0 (by rfl) (of_decide_eq_true rfl) sz61 ⟨rfl, rfl, rfl, rfl, rfl, rfl, rfl, trivial⟩) rfl rfl ?_
            rintro _ _ _ ⟨rfl, rfl⟩
            refine wl_nil ?_
            refine pn_then ?_
            refine wc_seq ?_
            refine wc_region ?_   -- region 10
            refine wl_det rfl rfl (det_field rfl fd61_1 rfl) rfl ?_
            refine wl_det rfl rfl (det_load rfl m0 (by rfl) na3 us3) rfl ?_
            refine wl_det rfl rfl (det_move rfl) rfl ?_
            refine wl_det rfl rfl (det_lss rfl rfl) rfl ?_
            refine wl_nil ?_
            refine pn_then ?_
            refine wc_cond rfl (fun cd34 => ?_) (fun cd34 => ?_)
            · have h := ifT h cd34
              refine wc_region ?_   -- region 11
              refine wl_det rfl rfl (det_move rfl) rfl ?_
              refine wl_det rfl rfl (det_field rfl fd61_2 rfl) rfl ?_
              refine wl_det rfl rfl (det_loadN (cells := [_, _, _, _, _]) rfl m0 (by rfl) ag43 sz43) rfl ?_
              refine wl_act (act_litS lGEntry (vs := [_]) (cs := [_, _, _, _, _]) [(ix a0.Postings s22.2).Entry] un29 in43 rfl rfl rfl rfl rfl ⟨rfl, trivial⟩ (by rfl) rfl (litR_flat rfl)) rfl rfl rfl ?_
              rintro _ _ _ ⟨A11_3, rfl, rfl, rfl⟩
              obtain ⟨k11_4, h⟩ := chk_some h
              refine wl_act (act_appendS (L := lGEntry) rfl rfl (ss (ss s0)) (src_O m0) un29 in43 rfl rfl rfl k11_4) rfl rfl rfl ?_
              rintro _ _ _ ⟨A11_4, c11_4, rfl, rfl, rfl⟩
              refine wl_det rfl rfl (det_assign rfl) rfl ?_
              refine wl_nil ?_
              refine pn_block ?_
              replace h := Option.some.inj h
              subst h
              exact pn_meetG ((s22.1 ++ [(ix a0.Postings s22.2).Entry]), A11_4, (s22.1 ++ [(ix a0.Postings s22.2).Entry]).length, c11_4, ()) rfl ⟨rfl, rfl, rfl, rfl, rfl, trivial⟩ (fun _ h => h.to ⟨_, (rs (rs r0)), trivial⟩ ⟨(ms m0), trivial⟩)
            · have h := ifF h cd34
              refine wc_skip ?_
              refine pn_block ?_
              replace h := Option.some.inj h
              subst h
              exact pn_meetG (s22.1, A22_0, s22.1.length, c22_0, ()) rfl ⟨rfl, rfl, rfl, rfl, rfl, trivial⟩ (fun _ h => h.to ⟨_, (rs r0), trivial⟩ ⟨(ms m0), trivial⟩)
          rintro ⟨s28, A28_0, n28_0, c28_0, _⟩ e28
          dsimp only at e28 ⊢
          subst e28
          have h := ho28
          refine wc_know (fun _ h => h.lenO m0) (fun e => ?_)
          subst e
          refine wc_region ?_   -- region 12
          refine wl_det rfl rfl (det_add rfl rfl) rfl ?_
          refine wl_det rfl rfl (det_move rfl) rfl ?_
          refine wl_nil ?_
          replace h := Option.some.inj h
          subst h
          exact pn_some (k22, (s28, (w64 (s22.2 + 1))), A28_0, s28.length, c28_0, ()) ⟨nextL g22, Nat.lt_succ_self _⟩ ⟨rfl, rfl, rfl, rfl, rfl, trivial⟩ (fun _ h => h.to ⟨_, r0, trivial⟩ ⟨m0, trivial⟩)
        · have h := ifF h cd26
          refine wc_exit ?_
          refine px_then ?_
          refine px_then ?_
          refine px_block ?_
          replace h := Option.some.inj h
          subst h
          replace g22 := nextR g22
          subst g22
          exact pn_meetG (s22.1, A22_0, s22.1.length, c22_0, ()) rfl ⟨rfl, trivial⟩ (fun _ h => h.to ⟨_, r0, trivial⟩ trivial)
      rintro ⟨s18, A18_0, n18_0, c18_0, _⟩ e18
      dsimp only at e18 ⊢
      subst e18
      have h := ho18
      refine wc_know (fun _ h => h.lenO m0) (fun e => ?_)
      subst e
      refine wc_seq ?_
      refine wc_region ?_   -- region 13
      refine wl_det rfl rfl (det_move rfl) rfl ?_
      obtain ⟨r13_1, hr13_1, h⟩ := bind_some h
      refine wl_act (act_callL (cap := []) [eS lGEntry 43 A18_0 s18.length c18_0 s18] (W_ledger_Collect s18 A18_0 s18.length c18_0 r13_1 hr13_1) plains_ledger_Collect rfl rfl rfl bd22 rfl ⟨m0, trivial⟩ ⟨.inr ⟨_, m0, lent_eS⟩, trivial⟩) rfl rfl rfl ?_
      rintro _ _ _ ⟨_, _, ⟨y13_1A0, y13_1n0, y13_1c0, rfl, rfl, rfl⟩, rfl, rfl⟩
      dsimp only [List.nil_append, List.cons_append]
      refine wl_know (fun _ h => h.lenO m0) (fun e => ?_)
      subst e
      refine wl_det rfl rfl (det_extract rfl rfl) rfl ?_
      refine wl_det rfl rfl (det_extract rfl rfl) rfl ?_
      refine wl_det rfl rfl (det_assign rfl) rfl ?_
      refine wl_det rfl rfl (det_assign rfl) rfl ?_
      refine wl_nil ?_
      refine pn_then ?_
      refine wc_ret ?_
      replace h := Option.some.inj h
      subst h
      refine pn_ret (vs := [_, _]) rfl ⟨rfl, rfl, trivial⟩ ⟨y13_1A0, r13_1.1.length, y13_1c0, rfl, rfl, rfl⟩ (fun _ h => h.to ⟨_, r0, trivial⟩ trivial)
def Q_commute_restated (r : Bool) : Value → List Ent → List Fact → Prop := fun v θ κ => v = .bool r ∧ θ = [] ∧ κ = []
theorem plains_commute_restated {r : Bool} : ∀ v θ κ, Q_commute_restated r v θ κ → Plains θ := by
  rintro _ _ _ ⟨rfl, rfl, rfl⟩
  exact trivial
set_option maxHeartbeats 4000000 in
set_option maxRecDepth 100000 in
theorem W_commute_restated (a0 : Int) (r : Bool) (h : commute_restated a0 = some r) : Spec Try.prog 31 [.int .i64 a0] [] [] (Q_commute_restated r) := by
  unfold commute_restated at h
  refine spec_of (σ := [(0, _)]) Try.func31 rfl rfl rfl rfl ?_
  intro C
  refine wc_seq ?_
  refine wc_region ?_   -- region 0
  refine wl_det rfl rfl (det_assign rfl) rfl ?_
  refine wl_nil ?_
  refine pn_then ?_
  refine wc_seq ?_
  refine wc_region ?_   -- region 1
  refine wl_det rfl rfl (det_move rfl) rfl ?_
  refine wl_det rfl rfl (det_eql rfl rfl) rfl ?_
  refine wl_det rfl rfl (det_move rfl) rfl ?_
  refine wl_way (decide (a0 = 1)) ((decide (a0 = 1)) || (decide (a0 = 2))) 3 8 (fun hg => ?_) (fun hg => ?_) ?_
  · have hg1_5 := hg
    refine wl_off rfl rfl rfl rfl rfl hg1_5 rfl ?_
    refine wl_off rfl rfl rfl rfl rfl hg1_5 rfl ?_
    refine wl_det rfl rfl (det_or_on (r := (decide (a0 = 2))) rfl rfl rfl hg1_5) rfl ?_
    exact wl_nil (pn_qnE (ext_cons rfl (ext_skip rfl (ext_skip rfl (ext_skip rfl ext_refl)))) (fun _ h => h))
  · have hg1_5a := hg
    refine wl_on rfl rfl rfl rfl hg1_5a ?_
    refine wl_det rfl rfl (det_move rfl) rfl ?_
    refine wl_on rfl rfl rfl rfl hg1_5a ?_
    refine wl_det rfl rfl (det_eql rfl rfl) rfl ?_
    refine wl_det rfl rfl (det_or_off rfl rfl rfl hg1_5a) rfl ?_
    exact wl_nil (pn_qnE (ext_cons rfl (ext_skip rfl (ext_skip rfl (ext_skip rfl ext_refl)))) (fun _ h => h))
  refine wl_det rfl rfl (det_move rfl) rfl ?_
  refine wl_way ((decide (a0 = 1)) || (decide (a0 = 2))) (((decide (a0 = 1)) || (decide (a0 = 2))) || (decide (a0 = 3))) 3 12 (fun hg => ?_) (fun hg => ?_) ?_
  · have hg1_9 := hg
    refine wl_off rfl rfl rfl rfl rfl hg1_9 rfl ?_
    refine wl_off rfl rfl rfl rfl rfl hg1_9 rfl ?_
    refine wl_det rfl rfl (det_or_on (r := (decide (a0 = 3))) rfl rfl rfl hg1_9) rfl ?_
    exact wl_nil (pn_qnE (ext_cons rfl (ext_skip rfl (ext_skip rfl (ext_skip rfl ext_refl)))) (fun _ h => h))
  · have hg1_9a := hg
    refine wl_on rfl rfl rfl rfl hg1_9a ?_
    refine wl_det rfl rfl (det_move rfl) rfl ?_
    refine wl_on rfl rfl rfl rfl hg1_9a ?_
    refine wl_det rfl rfl (det_eql rfl rfl) rfl ?_
    refine wl_det rfl rfl (det_or_off rfl rfl rfl hg1_9a) rfl ?_
    exact wl_nil (pn_qnE (ext_cons rfl (ext_skip rfl (ext_skip rfl (ext_skip rfl ext_refl)))) (fun _ h => h))
  refine wl_det rfl rfl (det_assign rfl) rfl ?_
  refine wl_nil ?_
  refine pn_then ?_
  refine wc_ret ?_
  replace h := Option.some.inj h
  subst h
  refine pn_ret (vs := [_]) rfl ⟨rfl, trivial⟩ ⟨rfl, rfl, rfl⟩ (fun _ h => h.to trivial trivial)
def Q_commute_Commute_c1 (r : Bool) : Value → List Ent → List Fact → Prop := fun v θ κ => v = .bool r ∧ θ = [] ∧ κ = []
theorem plains_commute_Commute_c1 {r : Bool} : ∀ v θ κ, Q_commute_Commute_c1 r v θ κ → Plains θ := by
  rintro _ _ _ ⟨rfl, rfl, rfl⟩
  exact trivial
set_option maxHeartbeats 4000000 in
set_option maxRecDepth 100000 in
theorem W_commute_Commute_c1 (a0 : GEntry) (r : Bool) (h : commute_Commute_c1 a0 = some r) : Spec Try.prog 30 [.agg #[.int .i64 a0.Kind, .int .i64 a0.Treaty, .int .i64 a0.Party, .int .i64 a0.Loss, .int .i64 a0.Amount]] [] [] (Q_commute_Commute_c1 r) := by
  unfold commute_Commute_c1 at h
  refine spec_of (σ := [(0, _)]) Try.func30 rfl rfl rfl rfl ?_
  intro C
  refine wc_seq ?_
  refine wc_region ?_   -- region 0
  refine wl_act (act_box (cs := [_, _, _, _, _]) rfl rfl) rfl rfl rfl ?_
  rintro _ _ _ ⟨b0_0, rfl, rfl, rfl⟩
  refine wl_det rfl rfl (det_assign rfl) rfl ?_
  refine wl_nil ?_
  refine pn_then ?_
  refine wc_seq ?_
  refine wc_region ?_   -- region 1
  refine wl_det rfl rfl (det_field rfl fd43_0 rfl) rfl ?_
  refine wl_det rfl rfl (det_load rfl m0 (by rfl) na3 us3) rfl ?_
  obtain ⟨r1_2, hr1_2, h⟩ := bind_some h
  refine wl_act (act_callS (cap := []) (W_commute_restated a0.Kind r1_2 hr1_2) rfl rfl rfl bd31 rfl trivial) rfl rfl rfl ?_
  rintro _ _ _ ⟨_, _, ⟨rfl, rfl, rfl⟩, rfl, rfl⟩
  dsimp only [List.nil_append, List.cons_append]
  refine wl_det rfl rfl (det_not rfl) rfl ?_
  refine wl_det rfl rfl (det_assign rfl) rfl ?_
  refine wl_nil ?_
  refine pn_then ?_
  refine wc_ret ?_
  replace h := Option.some.inj h
  subst h
  refine pn_ret (vs := [_]) rfl ⟨rfl, trivial⟩ ⟨rfl, rfl, rfl⟩ (fun _ h => h.to trivial trivial)
def Q_slices_IndexFunc_s_api_Entry_api_Entry_commute_Commute_c1 (r : Int) : Value → List Ent → List Fact → Prop := fun v θ κ => v = .int .i64 r ∧ θ = [] ∧ κ = []
theorem plains_slices_IndexFunc_s_api_Entry_api_Entry_commute_Commute_c1 {r : Int} : ∀ v θ κ, Q_slices_IndexFunc_s_api_Entry_api_Entry_commute_Commute_c1 r v θ κ → Plains θ := by
  rintro _ _ _ ⟨rfl, rfl, rfl⟩
  exact trivial
set_option maxHeartbeats 4000000 in
set_option maxRecDepth 100000 in
theorem W_slices_IndexFunc_s_api_Entry_api_Entry_commute_Commute_c1 (a0 : (List GEntry)) (A0 : Option Addr) (n0 : Nat) (c0 : Nat) (r : Int) (h : slices_IndexFunc_s_api_Entry_api_Entry_commute_Commute_c1 a0 = some r) : Spec Try.prog 47 [.slice A0 n0 c0, .func (.func 30) #[] #[]] [] [fV (lSlice lGEntry) (.slice A0 n0 c0) a0] (Q_slices_IndexFunc_s_api_Entry_api_Entry_commute_Commute_c1 r) := by
  unfold slices_IndexFunc_s_api_Entry_api_Entry_commute_Commute_c1 at h
  refine spec_of (σ := [(0, _), (1, _)]) Try.func47 rfl rfl rfl rfl ?_
  intro C
  refine wc_know (fun _ h => h.lenF m0) (fun e => ?_)
  subst e
  refine wc_seq ?_
  refine wc_region ?_   -- region 0
  refine wl_det rfl rfl (det_assign rfl) rfl ?_
  refine wl_nil ?_
  refine pn_then ?_
  obtain ⟨q2, h, ho2⟩ := bind_some h
  refine wc_meetG (G := Unit × Unit) (fun (s2, _) => (.inl s2) = q2) (fun (_, _) => []) (fun (_, _) => []) (fun (_, _) => []) ?_ ?_
  · refine wc_seq ?_
    refine wc_region ?_   -- region 1
    refine wl_det rfl rfl (det_move rfl) rfl ?_
    refine wl_det rfl rfl (det_len rfl un29) rfl ?_
    refine wl_det rfl rfl (det_move rfl) rfl ?_
    refine wl_nil ?_
    refine pn_then ?_
    refine wc_block ?_
    obtain ⟨o6, h, ho6⟩ := bind_some h
    obtain ⟨k6, hk6⟩ := loopV_some.1 h
    refine wc_loop (G := Nat × Int × Unit) (fun g => IterN (slices_IndexFunc_s_api_Entry_api_Entry_commute_Commute_c1_l6 a0) g.1 g.2.1 o6) (fun g => g.1) (fun (_, s6, _) => [(0, .slice A0 a0.length c0), (1, .func (.func 30) #[] #[]), (7, .int .i64 (a0.length : Int)), (8, .int .i64 s6)]) (fun (_, _, _) => []) (fun (_, _, _) => [fV (lSlice lGEntry) (.slice A0 a0.length c0) a0]) (k6, 0, ()) hk6 ⟨rfl, rfl, rfl, rfl, trivial⟩ (fun _ h => h.to trivial ⟨m0, trivial⟩) ?_
    rintro ⟨k6, s6, _⟩ hI
    obtain ⟨k6, rfl, q6, h, g6⟩ := IterN.pos hI
    dsimp only at h ⊢
    unfold slices_IndexFunc_s_api_Entry_api_Entry_commute_Commute_c1_l6 at h
    refine wc_seq ?_
    refine wc_region ?_   -- region 2
    refine wl_det rfl rfl (det_lss rfl rfl) rfl ?_
    refine wl_nil ?_
    refine pn_then ?_
    refine wc_seq ?_
    refine wc_cond rfl (fun cd10 => ?_) (fun cd10 => ?_)
    · have h := ifT h cd10
      refine wc_skip ?_
      refine pn_then ?_
      refine wc_seq ?_
      refine wc_block ?_
      refine wc_seq ?_
      refine wc_region ?_   -- region 3
      refine wl_det rfl rfl (det_move rfl) rfl ?_
      refine wl_det rfl rfl (det_assign rfl) rfl ?_
      refine wl_nil ?_
      refine pn_then ?_
      refine wc_seq ?_
      refine wc_region ?_   -- region 4
      refine wl_det rfl rfl (det_move rfl) rfl ?_
      refine wl_det rfl rfl (det_move rfl) rfl ?_
      refine wl_det rfl rfl (det_move rfl) rfl ?_
      obtain ⟨k4_3, h⟩ := chk_some h
      refine wl_st (fun _ h => h.openF m0 k4_3) ?_
      refine wl_det rfl rfl (det_indexP rfl rfl (ms m0) k4_3 m0 un29 sz43) rfl ?_
      refine wl_det rfl rfl (det_loadP (off := 0) rfl m0 (by rfl) (by rfl) (loaded_n (cells := [_, _, _, _, _]) ag43 sz43)) rfl ?_
      obtain ⟨r4_5, hr4_5, h⟩ := bind_some h
      refine wl_act (act_callS (cap := []) (W_commute_Commute_c1 (ix a0 s6) r4_5 hr4_5) rfl rfl rfl bd30 rfl trivial) rfl rfl rfl ?_
      rintro _ _ _ ⟨_, _, ⟨rfl, rfl, rfl⟩, rfl, rfl⟩
      dsimp only [List.nil_append, List.cons_append]
      refine wl_nil ?_
      refine pn_then ?_
      refine wc_cond rfl (fun cd18 => ?_) (fun cd18 => ?_)
      · have h := ifT h cd18
        refine wc_seq ?_
        refine wc_region ?_   -- region 5
        refine wl_det rfl rfl (det_move rfl) rfl ?_
        refine wl_det rfl rfl (det_assign rfl) rfl ?_
        refine wl_nil ?_
        refine pn_then ?_
        refine wc_ret ?_
        refine pr_block ?_
        refine pr_then ?_
        refine pr_then ?_
        refine pr_block ?_
        refine pr_then ?_
        replace h := Option.some.inj h
        subst h
        replace g6 := nextR g6
        subst g6
        have h := (elimL ho6)
        replace h := Option.some.inj h
        subst h
        have h := (elimR ho2)
        replace h := Option.some.inj h
        subst h
        refine pn_ret (vs := [_]) rfl ⟨rfl, trivial⟩ ⟨rfl, rfl, rfl⟩ (fun _ h => h.to trivial trivial)
      · have h := ifF h cd18
        refine wc_skip ?_
        refine pn_block ?_
        refine pn_then ?_
        refine wc_region ?_   -- region 6
        refine wl_det rfl rfl (det_add rfl rfl) rfl ?_
        refine wl_det rfl rfl (det_move rfl) rfl ?_
        refine wl_nil ?_
        replace h := Option.some.inj h
        subst h
        exact pn_some (k6, (w64 (s6 + 1)), ()) ⟨nextL g6, Nat.lt_succ_self _⟩ ⟨rfl, rfl, rfl, rfl, trivial⟩ (fun _ h => h.to trivial ⟨(ms m0), trivial⟩)
    · have h := ifF h cd10
      refine wc_exit ?_
      refine px_then ?_
      refine px_then ?_
      refine px_block ?_
      replace h := Option.some.inj h
      subst h
      replace g6 := nextR g6
      subst g6
      have h := (elimR ho6)
      replace h := Option.some.inj h
      subst h
      exact pn_meetG ((), ()) rfl trivial (fun _ h => h.to trivial trivial)
  rintro ⟨s2, _⟩ e2
  dsimp only at e2 ⊢
  subst e2
  have h := (elimL ho2)
  refine wc_seq ?_
  refine wc_region ?_   -- region 7
  refine wl_det rfl rfl (det_assign rfl) rfl ?_
  refine wl_nil ?_
  refine pn_then ?_
  refine wc_ret ?_
  replace h := Option.some.inj h
  subst h
  refine pn_ret (vs := [_]) rfl ⟨rfl, trivial⟩ ⟨rfl, rfl, rfl⟩ (fun _ h => h.to trivial trivial)
def Q_slices_DeleteFunc_s_api_Entry_api_Entry_o_commute_Commute_c1 (r : (List GEntry)) : Value → List Ent → List Fact → Prop := fun v θ κ => ∃ (pA0 : Option Addr), ∃ (pn0 : Nat), ∃ (pc0 : Nat), v = .slice pA0 pn0 pc0 ∧ θ = [eS lGEntry 43 pA0 pn0 pc0 r] ∧ κ = []
theorem plains_slices_DeleteFunc_s_api_Entry_api_Entry_o_commute_Commute_c1 {r : (List GEntry)} : ∀ v θ κ, Q_slices_DeleteFunc_s_api_Entry_api_Entry_o_commute_Commute_c1 r v θ κ → Plains θ := by
  rintro _ _ _ ⟨_, _, _, rfl, rfl, rfl⟩
  exact ⟨plain_eS, trivial⟩
set_option maxHeartbeats 4000000 in
set_option maxRecDepth 100000 in
theorem W_slices_DeleteFunc_s_api_Entry_api_Entry_o_commute_Commute_c1 (a0 : (List GEntry)) (A0 : Option Addr) (n0 : Nat) (c0 : Nat) (r : (List GEntry)) (h : slices_DeleteFunc_s_api_Entry_api_Entry_o_commute_Commute_c1 a0 = some r) : Spec Try.prog 29 [.slice A0 n0 c0, .func (.func 30) #[] #[]] [eS lGEntry 43 A0 n0 c0 a0] [] (Q_slices_DeleteFunc_s_api_Entry_api_Entry_o_commute_Commute_c1 r) := by
  unfold slices_DeleteFunc_s_api_Entry_api_Entry_o_commute_Commute_c1 at h
  refine spec_of (σ := [(0, _), (1, _)]) Try.func29 rfl rfl rfl rfl ?_
  intro C
  refine wc_know (fun _ h => h.lenO m0) (fun e => ?_)
  subst e
  refine wc_seq ?_
  refine wc_region ?_   -- region 0
  refine wl_det rfl rfl (det_assign rfl) rfl ?_
  refine wl_nil ?_
  refine pn_then ?_
  refine wc_seq ?_
  refine wc_region ?_   -- region 1
  refine wl_det rfl rfl (det_move rfl) rfl ?_
  refine wl_det rfl rfl (det_move rfl) rfl ?_
  obtain ⟨r1_2, hr1_2, h⟩ := bind_some h
  refine wl_act (act_callL (cap := []) [eS lGEntry 43 A0 a0.length c0 a0] (W_slices_IndexFunc_s_api_Entry_api_Entry_commute_Commute_c1 a0 A0 a0.length c0 r1_2 hr1_2) plains_slices_IndexFunc_s_api_Entry_api_Entry_commute_Commute_c1 rfl rfl rfl bd47 rfl ⟨m0, trivial⟩ ⟨.inr ⟨_, m0, lent_eS⟩, trivial⟩) rfl rfl rfl ?_
  rintro _ _ _ ⟨_, _, ⟨rfl, rfl, rfl⟩, rfl, rfl⟩
  dsimp only [List.nil_append, List.cons_append]
  refine wl_det rfl rfl (det_assign rfl) rfl ?_
  refine wl_nil ?_
  refine pn_then ?_
  refine wc_seq ?_
  refine wc_seq ?_
  refine wc_region ?_   -- region 2
  refine wl_det rfl rfl (det_move rfl) rfl ?_
  refine wl_det rfl rfl (det_eql rfl rfl) rfl ?_
  refine wl_nil ?_
  refine pn_then ?_
  refine wc_cond rfl (fun cd7 => ?_) (fun cd7 => ?_)
  · have h := ifT h cd7
    refine wc_seq ?_
    refine wc_region ?_   -- region 3
    refine wl_det rfl rfl (det_move rfl) rfl ?_
    refine wl_det rfl rfl (det_assign rfl) rfl ?_
    refine wl_nil ?_
    refine pn_then ?_
    refine wc_ret ?_
    refine pr_then ?_
    replace h := Option.some.inj h
    subst h
    refine pn_ret (vs := [_]) rfl ⟨rfl, trivial⟩ ⟨A0, a0.length, c0, rfl, rfl, rfl⟩ (fun _ h => h.to ⟨_, r0, trivial⟩ trivial)
  · have h := ifF h cd7
    refine wc_skip ?_
    refine pn_then ?_
    obtain ⟨q10, h, ho10⟩ := bind_some h
    refine wc_meetG (G := ((List GEntry) × Int) × Unit) (fun (s10, _) => s10 = q10) (fun (s10, _) => [(0, .slice A0 a0.length c0), (5, .int .i64 s10.2)]) (fun (s10, _) => [eS lGEntry 43 A0 a0.length c0 s10.1]) (fun (_, _) => []) ?_ ?_
    · refine wc_seq ?_
      refine wc_region ?_   -- region 4
      refine wl_det rfl rfl (det_move rfl) rfl ?_
      refine wl_det rfl rfl (det_add rfl rfl) rfl ?_
      refine wl_det rfl rfl (det_assign rfl) rfl ?_
      refine wl_nil ?_
      refine pn_then ?_
      refine wc_block ?_
      obtain ⟨k14, hk14⟩ := loopV_some.1 h
      refine wc_loop (G := Nat × ((List GEntry) × Int × Int) × Unit) (fun g => IterN (slices_DeleteFunc_s_api_Entry_api_Entry_o_commute_Commute_c1_l14 a0) g.1 g.2.1 q10) (fun g => g.1) (fun (_, s14, _) => [(0, .slice A0 a0.length c0), (1, .func (.func 30) #[] #[]), (5, .int .i64 s14.2.1), (6, .int .i64 s14.2.2)]) (fun (_, s14, _) => [eS lGEntry 43 A0 a0.length c0 s14.1]) (fun (_, _, _) => []) (k14, (a0, r1_2, (w64 (r1_2 + 1))), ()) hk14 ⟨rfl, rfl, rfl, rfl, trivial⟩ (fun _ h => h.to ⟨_, r0, trivial⟩ trivial) ?_
      rintro ⟨k14, s14, _⟩ hI
      obtain ⟨k14, rfl, q14, h, g14⟩ := IterN.pos hI
      dsimp only at h ⊢
      unfold slices_DeleteFunc_s_api_Entry_api_Entry_o_commute_Commute_c1_l14 at h
      refine wc_seq ?_
      refine wc_seq ?_
      refine wc_region ?_   -- region 5
      refine wl_det rfl rfl (det_move rfl) rfl ?_
      refine wl_det rfl rfl (det_move rfl) rfl ?_
      refine wl_det rfl rfl (det_len rfl un29) rfl ?_
      refine wl_det rfl rfl (det_lss rfl rfl) rfl ?_
      refine wl_nil ?_
      refine pn_then ?_
      refine wc_cond rfl (fun cd18 => ?_) (fun cd18 => ?_)
      · have h := ifT h cd18
        refine wc_skip ?_
        refine pn_then ?_
        obtain ⟨q20, h, ho20⟩ := bind_some h
        refine wc_meetG (G := ((List GEntry) × Int) × Unit) (fun (s20, _) => s20 = q20) (fun (s20, _) => [(0, .slice A0 a0.length c0), (1, .func (.func 30) #[] #[]), (5, .int .i64 s20.2), (6, .int .i64 s14.2.2)]) (fun (s20, _) => [eS lGEntry 43 A0 a0.length c0 s20.1]) (fun (_, _) => []) ?_ ?_
        · refine wc_block ?_
          refine wc_seq ?_
          refine wc_region ?_   -- region 7
          refine wl_det rfl rfl (det_move rfl) rfl ?_
          refine wl_det rfl rfl (det_move rfl) rfl ?_
          obtain ⟨k7_2, h⟩ := chk_some h
          refine wl_det rfl rfl (det_indexO rfl rfl m0 k7_2 un29 sz43) rfl ?_
          refine wl_det rfl rfl (det_loadO (off := 0) rfl m0 k7_2 (by rfl) (by rfl) (loaded_n (cells := [_, _, _, _, _]) ag43 sz43)) rfl ?_
          refine wl_act (act_alloc (cs := [_, _, _, _, _]) zr43 rfl) rfl rfl rfl ?_
          rintro _ _ _ ⟨b7_4, rfl, rfl, rfl⟩
          refine wl_act0 (act_store (cells := [_, _, _, _, _]) (cs' := [_, _, _, _, _]) rfl rfl rfl s0 (by rfl) (of_decide_eq_true rfl) sz43 ⟨rfl, rfl, rfl, rfl, rfl, trivial⟩) rfl rfl ?_
          rintro _ _ _ ⟨rfl, rfl⟩
          refine wl_nil ?_
          refine pn_then ?_
          refine wc_seq ?_
          refine wc_region ?_   -- region 8
          refine wl_det rfl rfl (det_move rfl) rfl ?_
          refine wl_det rfl rfl (det_loadN (cells := [_, _, _, _, _]) rfl m0 (by rfl) ag43 sz43) rfl ?_
          obtain ⟨r8_2, hr8_2, h⟩ := bind_some h
          refine wl_act (act_callS (cap := []) (W_commute_Commute_c1 (ix s14.1 s14.2.2) r8_2 hr8_2) rfl rfl rfl bd30 rfl trivial) rfl rfl rfl ?_
          rintro _ _ _ ⟨_, _, ⟨rfl, rfl, rfl⟩, rfl, rfl⟩
          dsimp only [List.nil_append, List.cons_append]
          refine wl_det rfl rfl (det_not rfl) rfl ?_
          refine wl_nil ?_
          refine pn_then ?_
          refine wc_cond rfl (fun cd26 => ?_) (fun cd26 => ?_)
          · have h := ifT h cd26
            refine wc_seq ?_
            refine wc_region ?_   -- region 9
            refine wl_det rfl rfl (det_move rfl) rfl ?_
            refine wl_det rfl rfl (det_move rfl) rfl ?_
            refine wl_det rfl rfl (det_loadN (cells := [_, _, _, _, _]) rfl m0 (by rfl) ag43 sz43) rfl ?_
            obtain ⟨k9_3, h⟩ := chk_some h
            refine wl_det rfl rfl (det_indexO rfl rfl (ms m0) k9_3 un29 sz43) rfl ?_
            refine wl_act0 (act_storeO (cells := [_, _, _, _, _]) (off := 0) (ix s14.1 s14.2.2) rfl rfl rfl (ss s0) k9_3 (by rfl) sz43 (by intro u hu; simp at hu; rcases hu with rfl | rfl | rfl | rfl | rfl <;> rfl) (stR_flat rfl rfl)) rfl rfl ?_
            rintro _ _ _ ⟨rfl, rfl⟩
            refine wl_nil ?_
            refine pn_then ?_
            refine wc_region ?_   -- region 10
            refine wl_det rfl rfl (det_move rfl) rfl ?_
            refine wl_det rfl rfl (det_add rfl rfl) rfl ?_
            refine wl_det rfl rfl (det_assign rfl) rfl ?_
            refine wl_nil ?_
            refine pn_block ?_
            replace h := Option.some.inj h
            subst h
            exact pn_meetG (((upd s14.1 s14.2.1 (ix s14.1 s14.2.2)), (w64 (s14.2.1 + 1))), ()) rfl ⟨rfl, rfl, rfl, rfl, trivial⟩ (fun _ h => h.to ⟨_, (rs r0), trivial⟩ trivial)
          · have h := ifF h cd26
            refine wc_skip ?_
            refine pn_block ?_
            replace h := Option.some.inj h
            subst h
            exact pn_meetG ((s14.1, s14.2.1), ()) rfl ⟨rfl, rfl, rfl, rfl, trivial⟩ (fun _ h => h.to ⟨_, (rs r0), trivial⟩ trivial)
        rintro ⟨s20, _⟩ e20
        dsimp only at e20 ⊢
        subst e20
        have h := ho20
        refine wc_region ?_   -- region 6
        refine wl_det rfl rfl (det_move rfl) rfl ?_
        refine wl_det rfl rfl (det_add rfl rfl) rfl ?_
        refine wl_det rfl rfl (det_assign rfl) rfl ?_
        refine wl_nil ?_
        replace h := Option.some.inj h
        subst h
        exact pn_some (k14, (s20.1, s20.2, (w64 (s14.2.2 + 1))), ()) ⟨nextL g14, Nat.lt_succ_self _⟩ ⟨rfl, rfl, rfl, rfl, trivial⟩ (fun _ h => h.to ⟨_, r0, trivial⟩ trivial)
      · have h := ifF h cd18
        refine wc_exit ?_
        refine px_then ?_
        refine px_then ?_
        refine px_block ?_
        replace h := Option.some.inj h
        subst h
        replace g14 := nextR g14
        subst g14
        exact pn_meetG ((s14.1, s14.2.1), ()) rfl ⟨rfl, rfl, trivial⟩ (fun _ h => h.to ⟨_, r0, trivial⟩ trivial)
    rintro ⟨s10, _⟩ e10
    dsimp only at e10 ⊢
    subst e10
    have h := ho10
    refine wc_seq ?_
    refine wc_region ?_   -- region 11
    refine wl_det rfl rfl (det_move rfl) rfl ?_
    refine wl_det rfl rfl (det_move rfl) rfl ?_
    obtain ⟨k11_2, h⟩ := chk_some h
    obtain ⟨k11_2a, h⟩ := chk_some h
    refine wl_act (act_sliceOL rfl rfl m0 un29 sz43 k11_2 k11_2a) rfl rfl rfl ?_
    rintro _ _ _ ⟨rfl, rfl, rfl⟩
    refine wl_act0 (act_clearO (L := lGEntry) (l := s10.2.toNat) (x0 := (GEntry.mk 0 0 0 0 0)) rfl s0 (by have := of_decide_eq_true k11_2a; omega) un29 zr43 (by refine ⟨rfl, fun _ _ => ?_⟩; first | exact rfl | exact ⟨_, _, _, rfl, rfl, Nat.zero_le _, .inl rfl⟩) rfl) rfl rfl ?_
    rintro _ _ _ ⟨rfl, rfl⟩
    refine wl_nil ?_
    refine pn_then ?_
    refine wc_seq ?_
    refine wc_region ?_   -- region 12
    refine wl_det rfl rfl (det_move rfl) rfl ?_
    refine wl_det rfl rfl (det_move rfl) rfl ?_
    obtain ⟨k12_2, h⟩ := chk_some h
    refine wl_act (act_sliceOH rfl rfl r0 un29 sz43 k11_2 k12_2) rfl rfl rfl ?_
    rintro _ _ _ ⟨rfl, rfl, rfl⟩
    refine wl_det rfl rfl (det_assign rfl) rfl ?_
    refine wl_nil ?_
    refine pn_then ?_
    refine wc_ret ?_
    replace h := Option.some.inj h
    subst h
    refine pn_ret (vs := [_]) rfl ⟨rfl, trivial⟩ ⟨A0, ((s10.1.take s10.2.toNat ++ List.replicate (s10.1.length - s10.2.toNat) (GEntry.mk 0 0 0 0 0)).take s10.2.toNat).length, c0, rfl, rfl, rfl⟩ (fun _ h => h.to ⟨_, r0, trivial⟩ trivial)
def Q_commute_headingOf (r : Gheading) : Value → List Ent → List Fact → Prop := fun v θ κ => v = .agg #[.int .i64 r.kind, .int .i64 r.treaty, .int .i64 r.party, .int .i64 r.loss] ∧ θ = [] ∧ κ = []
theorem plains_commute_headingOf {r : Gheading} : ∀ v θ κ, Q_commute_headingOf r v θ κ → Plains θ := by
  rintro _ _ _ ⟨rfl, rfl, rfl⟩
  exact trivial
set_option maxHeartbeats 4000000 in
set_option maxRecDepth 100000 in
theorem W_commute_headingOf (a0 : GEntry) (r : Gheading) (h : commute_headingOf a0 = some r) : Spec Try.prog 23 [.agg #[.int .i64 a0.Kind, .int .i64 a0.Treaty, .int .i64 a0.Party, .int .i64 a0.Loss, .int .i64 a0.Amount]] [] [] (Q_commute_headingOf r) := by
  unfold commute_headingOf at h
  refine spec_of (σ := [(0, _)]) Try.func23 rfl rfl rfl rfl ?_
  intro C
  refine wc_seq ?_
  refine wc_region ?_   -- region 0
  refine wl_act (act_box (cs := [_, _, _, _, _]) rfl rfl) rfl rfl rfl ?_
  rintro _ _ _ ⟨b0_0, rfl, rfl, rfl⟩
  refine wl_act (act_alloc (cs := [_, _, _, _]) zr53 rfl) rfl rfl rfl ?_
  rintro _ _ _ ⟨b0_1, rfl, rfl, rfl⟩
  refine wl_nil ?_
  refine pn_then ?_
  refine wc_seq ?_
  refine wc_region ?_   -- region 1
  refine wl_det rfl rfl (det_field rfl fd43_0 rfl) rfl ?_
  refine wl_det rfl rfl (det_load rfl (ms m0) (by rfl) na3 us3) rfl ?_
  refine wl_det rfl rfl (det_field rfl fd43_1 rfl) rfl ?_
  refine wl_det rfl rfl (det_load rfl (ms m0) (by rfl) na3 us3) rfl ?_
  refine wl_det rfl rfl (det_field rfl fd43_2 rfl) rfl ?_
  refine wl_det rfl rfl (det_load rfl (ms m0) (by rfl) na3 us3) rfl ?_
  refine wl_det rfl rfl (det_field rfl fd43_3 rfl) rfl ?_
  refine wl_det rfl rfl (det_load rfl (ms m0) (by rfl) na3 us3) rfl ?_
  refine wl_det rfl rfl (det_build (cs := [_, _, _, _]) pl53 zr53 rfl rfl (by rfl)) rfl ?_
  refine wl_act0 (act_store (cells := [_, _, _, _]) (cs' := [_, _, _, _]) rfl rfl rfl s0 (by rfl) (of_decide_eq_true rfl) sz53 ⟨rfl, rfl, rfl, rfl, trivial⟩) rfl rfl ?_
  rintro _ _ _ ⟨rfl, rfl⟩
  refine wl_nil ?_
  refine pn_then ?_
  refine wc_ret ?_
  replace h := Option.some.inj h
  subst h
  refine pn_ret (vs := [_]) rfl ⟨⟨_, _, [_, _, _, _], rfl, m0, .inl ⟨ag53, sz53, rfl⟩⟩, trivial⟩ ⟨rfl, rfl, rfl⟩ (fun _ h => h.to trivial trivial)
def Q_commute_frozen (r : (List (Gheading × Int))) : Value → List Ent → List Fact → Prop := fun v θ κ => ∃ (pm0 : Nat), v = .map (some pm0) ∧ θ = [eM encKGheading encKI pm0 r] ∧ κ = []
theorem plains_commute_frozen {r : (List (Gheading × Int))} : ∀ v θ κ, Q_commute_frozen r v θ κ → Plains θ := by
  rintro _ _ _ ⟨_, rfl, rfl, rfl⟩
  exact ⟨plain_eM, trivial⟩
set_option maxHeartbeats 4000000 in
set_option maxRecDepth 100000 in
theorem W_commute_frozen (a0 : (List GEntry)) (a1 : (List GEntry)) (a2 : Int) (a3 : Int) (A0 : Option Addr) (n0 : Nat) (c0 : Nat) (A3 : Option Addr) (n3 : Nat) (c3 : Nat) (r : (List (Gheading × Int))) (h : commute_frozen a0 a1 a2 a3 = some r) : Spec Try.prog 25 [.slice A0 n0 c0, .slice A3 n3 c3, .int .i64 a2, .int .i64 a3] [] [fV (lSlice lGEntry) (.slice A0 n0 c0) a0, fV (lSlice lGEntry) (.slice A3 n3 c3) a1] (Q_commute_frozen r) := by
  unfold commute_frozen at h
  refine spec_of (σ := [(0, _), (1, _), (2, _), (3, _)]) Try.func25 rfl rfl rfl rfl ?_
  intro C
  refine wc_know (fun _ h => h.lenF m0) (fun e => ?_)
  subst e
  refine wc_know (fun _ h => h.lenF (ms m0)) (fun e => ?_)
  subst e
  refine wc_seq ?_
  refine wc_region ?_   -- region 0
  refine wl_det rfl rfl (det_assign rfl) rfl ?_
  refine wl_nil ?_
  refine pn_then ?_
  refine wc_seq ?_
  refine wc_region ?_   -- region 1
  refine wl_act (act_makeMap encKGheading encKI) rfl rfl rfl ?_
  rintro _ _ _ ⟨b1_0, rfl, rfl, rfl⟩
  refine wl_det rfl rfl (det_assign rfl) rfl ?_
  refine wl_nil ?_
  refine pn_then ?_
  obtain ⟨q4, h, ho4⟩ := bind_some h
  refine wc_meetG (G := (List (Gheading × Int)) × Unit) (fun (s4, _) => s4 = q4) (fun (_, _) => [(1, .slice A3 a1.length c3), (2, .int .i64 a2), (3, .int .i64 a3), (9, .map (some b1_0))]) (fun (s4, _) => [eM encKGheading encKI b1_0 s4]) (fun (_, _) => [fV (lSlice lGEntry) (.slice A3 a1.length c3) a1]) ?_ ?_
  · refine wc_seq ?_
    refine wc_region ?_   -- region 2
    refine wl_det rfl rfl (det_move rfl) rfl ?_
    refine wl_det rfl rfl (det_len rfl un29) rfl ?_
    refine wl_det rfl rfl (det_move rfl) rfl ?_
    refine wl_nil ?_
    refine pn_then ?_
    refine wc_block ?_
    obtain ⟨k8, hk8⟩ := loopV_some.1 h
    refine wc_loop (G := Nat × ((List (Gheading × Int)) × Int) × Unit) (fun g => IterN (commute_frozen_l8 a0 a2 a3) g.1 g.2.1 q4) (fun g => g.1) (fun (_, s8, _) => [(1, .slice A3 a1.length c3), (2, .int .i64 a2), (3, .int .i64 a3), (9, .map (some b1_0)), (15, .slice A0 a0.length c0), (16, .int .i64 (a0.length : Int)), (17, .int .i64 s8.2)]) (fun (_, s8, _) => [eM encKGheading encKI b1_0 s8.1]) (fun (_, _, _) => [fV (lSlice lGEntry) (.slice A3 a1.length c3) a1, fV (lSlice lGEntry) (.slice A0 a0.length c0) a0]) (k8, ([], 0), ()) hk8 ⟨rfl, rfl, rfl, rfl, rfl, rfl, rfl, trivial⟩ (fun _ h => h.to ⟨_, r0, trivial⟩ ⟨(ms m0), ⟨m0, trivial⟩⟩) ?_
    rintro ⟨k8, s8, _⟩ hI
    obtain ⟨k8, rfl, q8, h, g8⟩ := IterN.pos hI
    dsimp only at h ⊢
    unfold commute_frozen_l8 at h
    refine wc_seq ?_
    refine wc_region ?_   -- region 3
    refine wl_det rfl rfl (det_lss rfl rfl) rfl ?_
    refine wl_nil ?_
    refine pn_then ?_
    refine wc_seq ?_
    refine wc_cond rfl (fun cd12 => ?_) (fun cd12 => ?_)
    · have h := ifT h cd12
      refine wc_skip ?_
      refine pn_then ?_
      obtain ⟨q14, h, ho14⟩ := bind_some h
      refine wc_meetG (G := (List (Gheading × Int)) × Unit) (fun (s14, _) => s14 = q14) (fun (_, _) => [(1, .slice A3 a1.length c3), (2, .int .i64 a2), (3, .int .i64 a3), (9, .map (some b1_0)), (15, .slice A0 a0.length c0), (16, .int .i64 (a0.length : Int)), (17, .int .i64 s8.2)]) (fun (s14, _) => [eM encKGheading encKI b1_0 s14]) (fun (_, _) => [fV (lSlice lGEntry) (.slice A3 a1.length c3) a1, fV (lSlice lGEntry) (.slice A0 a0.length c0) a0]) ?_ ?_
      · refine wc_block ?_
        refine wc_seq ?_
        refine wc_region ?_   -- region 4
        obtain ⟨k4_0, h⟩ := chk_some h
        refine wl_st (fun _ h => h.openF (ms m0) k4_0) ?_
        refine wl_det rfl rfl (det_indexP rfl rfl (ms (ms m0)) k4_0 m0 un29 sz43) rfl ?_
        refine wl_det rfl rfl (det_loadP (off := 0) rfl m0 (by rfl) (by rfl) (loaded_n (cells := [_, _, _, _, _]) ag43 sz43)) rfl ?_
        refine wl_act (act_alloc (cs := [_, _, _, _, _]) zr43 rfl) rfl rfl rfl ?_
        rintro _ _ _ ⟨b4_2, rfl, rfl, rfl⟩
        refine wl_act0 (act_store (cells := [_, _, _, _, _]) (cs' := [_, _, _, _, _]) rfl rfl rfl s0 (by rfl) (of_decide_eq_true rfl) sz43 ⟨rfl, rfl, rfl, rfl, rfl, trivial⟩) rfl rfl ?_
        rintro _ _ _ ⟨rfl, rfl⟩
        refine wl_nil ?_
        refine pn_then ?_
        refine wc_seq ?_
        refine wc_region ?_   -- region 5
        refine wl_det rfl rfl (det_field rfl fd43_0 rfl) rfl ?_
        refine wl_det rfl rfl (det_load rfl m0 (by rfl) na3 us3) rfl ?_
        obtain ⟨r5_2, hr5_2, h⟩ := bind_some h
        refine wl_act (act_callS (cap := []) (W_commute_restated (ix a0 s8.2).Kind r5_2 hr5_2) rfl rfl rfl bd31 rfl trivial) rfl rfl rfl ?_
        rintro _ _ _ ⟨_, _, ⟨rfl, rfl, rfl⟩, rfl, rfl⟩
        dsimp only [List.nil_append, List.cons_append]
        refine wl_det rfl rfl (det_move rfl) rfl ?_
        refine wl_way r5_2 (r5_2 && (decide ((ix a0 s8.2).Treaty = a2))) 5 29 (fun hg => ?_) (fun hg => ?_) ?_
        · have hg5_8 := hg
          refine wl_on rfl rfl rfl rfl hg5_8 ?_
          refine wl_det rfl rfl (det_field rfl fd43_1 rfl) rfl ?_
          refine wl_on rfl rfl rfl rfl hg5_8 ?_
          refine wl_det rfl rfl (det_load rfl m0 (by rfl) na3 us3) rfl ?_
          refine wl_on rfl rfl rfl rfl hg5_8 ?_
          refine wl_det rfl rfl (det_move rfl) rfl ?_
          refine wl_on rfl rfl rfl rfl hg5_8 ?_
          refine wl_det rfl rfl (det_eql rfl rfl) rfl ?_
          refine wl_det rfl rfl (det_and_on rfl rfl rfl hg5_8) rfl ?_
          exact wl_nil (pn_qnE (ext_cons rfl (ext_skip rfl (ext_skip rfl (ext_skip rfl (ext_skip rfl (ext_skip rfl ext_refl)))))) (fun _ h => h))
        · have hg5_8a := hg
          refine wl_off rfl rfl rfl rfl rfl hg5_8a rfl ?_
          refine wl_off rfl rfl rfl rfl rfl hg5_8a rfl ?_
          refine wl_off rfl rfl rfl rfl rfl hg5_8a rfl ?_
          refine wl_off rfl rfl rfl rfl rfl hg5_8a rfl ?_
          refine wl_det rfl rfl (det_and_off (q := (decide ((ix a0 s8.2).Treaty = a2))) rfl rfl rfl hg5_8a) rfl ?_
          exact wl_nil (pn_qnE (ext_cons rfl (ext_skip rfl (ext_skip rfl (ext_skip rfl (ext_skip rfl (ext_skip rfl ext_refl)))))) (fun _ h => h))
        refine wl_det rfl rfl (det_move rfl) rfl ?_
        refine wl_way (r5_2 && (decide ((ix a0 s8.2).Treaty = a2))) ((r5_2 && (decide ((ix a0 s8.2).Treaty = a2))) && (decide ((ix a0 s8.2).Party = a3))) 5 35 (fun hg => ?_) (fun hg => ?_) ?_
        · have hg5_14 := hg
          refine wl_on rfl rfl rfl rfl hg5_14 ?_
          refine wl_det rfl rfl (det_field rfl fd43_2 rfl) rfl ?_
          refine wl_on rfl rfl rfl rfl hg5_14 ?_
          refine wl_det rfl rfl (det_load rfl m0 (by rfl) na3 us3) rfl ?_
          refine wl_on rfl rfl rfl rfl hg5_14 ?_
          refine wl_det rfl rfl (det_move rfl) rfl ?_
          refine wl_on rfl rfl rfl rfl hg5_14 ?_
          refine wl_det rfl rfl (det_eql rfl rfl) rfl ?_
          refine wl_det rfl rfl (det_and_on rfl rfl rfl hg5_14) rfl ?_
          exact wl_nil (pn_qnE (ext_cons rfl (ext_skip rfl (ext_skip rfl (ext_skip rfl (ext_skip rfl (ext_skip rfl ext_refl)))))) (fun _ h => h))
        · have hg5_14a := hg
          refine wl_off rfl rfl rfl rfl rfl hg5_14a rfl ?_
          refine wl_off rfl rfl rfl rfl rfl hg5_14a rfl ?_
          refine wl_off rfl rfl rfl rfl rfl hg5_14a rfl ?_
          refine wl_off rfl rfl rfl rfl rfl hg5_14a rfl ?_
          refine wl_det rfl rfl (det_and_off (q := (decide ((ix a0 s8.2).Party = a3))) rfl rfl rfl hg5_14a) rfl ?_
          exact wl_nil (pn_qnE (ext_cons rfl (ext_skip rfl (ext_skip rfl (ext_skip rfl (ext_skip rfl (ext_skip rfl ext_refl)))))) (fun _ h => h))
        refine wl_nil ?_
        refine pn_then ?_
        refine wc_cond rfl (fun cd20 => ?_) (fun cd20 => ?_)
        · have h := ifT h cd20
          refine wc_region ?_   -- region 6
          refine wl_det rfl rfl (det_move rfl) rfl ?_
          refine wl_det rfl rfl (det_loadN (cells := [_, _, _, _, _]) rfl m0 (by rfl) ag43 sz43) rfl ?_
          obtain ⟨r6_2, hr6_2, h⟩ := bind_some h
          refine wl_act (act_callS (cap := []) (W_commute_headingOf (ix a0 s8.2) r6_2 hr6_2) rfl rfl rfl bd23 rfl trivial) rfl rfl rfl ?_
          rintro _ _ _ ⟨_, _, ⟨rfl, rfl, rfl⟩, rfl, rfl⟩
          dsimp only [List.nil_append, List.cons_append]
          refine wl_act0 (act_mapUpdate (k := r6_2) (v := 0) rfl rfl rfl rfl rfl (ss s0) ko53 um51) rfl rfl ?_
          rintro _ _ _ ⟨rfl, rfl⟩
          refine wl_nil ?_
          refine pn_block ?_
          replace h := Option.some.inj h
          subst h
          exact pn_meetG ((mset s8.1 r6_2 0), ()) rfl ⟨rfl, rfl, rfl, rfl, rfl, rfl, rfl, trivial⟩ (fun _ h => h.to ⟨_, (rs r0), trivial⟩ ⟨(ms m0), ⟨(ms (ms m0)), trivial⟩⟩)
        · have h := ifF h cd20
          refine wc_skip ?_
          refine pn_block ?_
          replace h := Option.some.inj h
          subst h
          exact pn_meetG (s8.1, ()) rfl ⟨rfl, rfl, rfl, rfl, rfl, rfl, rfl, trivial⟩ (fun _ h => h.to ⟨_, (rs r0), trivial⟩ ⟨(ms m0), ⟨(ms (ms m0)), trivial⟩⟩)
      rintro ⟨s14, _⟩ e14
      dsimp only at e14 ⊢
      subst e14
      have h := ho14
      refine wc_region ?_   -- region 7
      refine wl_det rfl rfl (det_add rfl rfl) rfl ?_
      refine wl_det rfl rfl (det_move rfl) rfl ?_
      refine wl_nil ?_
      replace h := Option.some.inj h
      subst h
      exact pn_some (k8, (s14, (w64 (s8.2 + 1))), ()) ⟨nextL g8, Nat.lt_succ_self _⟩ ⟨rfl, rfl, rfl, rfl, rfl, rfl, rfl, trivial⟩ (fun _ h => h.to ⟨_, r0, trivial⟩ ⟨m0, ⟨(ms m0), trivial⟩⟩)
    · have h := ifF h cd12
      refine wc_exit ?_
      refine px_then ?_
      refine px_then ?_
      refine px_block ?_
      replace h := Option.some.inj h
      subst h
      replace g8 := nextR g8
      subst g8
      exact pn_meetG (s8.1, ()) rfl ⟨rfl, rfl, rfl, rfl, trivial⟩ (fun _ h => h.to ⟨_, r0, trivial⟩ ⟨m0, trivial⟩)
  rintro ⟨s4, _⟩ e4
  dsimp only at e4 ⊢
  subst e4
  have h := ho4
  obtain ⟨q23, h, ho23⟩ := bind_some h
  refine wc_meetG (G := (List (Gheading × Int)) × Unit) (fun (s23, _) => s23 = q23) (fun (_, _) => [(9, .map (some b1_0))]) (fun (s23, _) => [eM encKGheading encKI b1_0 s23]) (fun (_, _) => []) ?_ ?_
  · refine wc_seq ?_
    refine wc_region ?_   -- region 8
    refine wl_det rfl rfl (det_move rfl) rfl ?_
    refine wl_det rfl rfl (det_len rfl un29) rfl ?_
    refine wl_det rfl rfl (det_move rfl) rfl ?_
    refine wl_nil ?_
    refine pn_then ?_
    refine wc_block ?_
    obtain ⟨k27, hk27⟩ := loopV_some.1 h
    refine wc_loop (G := Nat × ((List (Gheading × Int)) × Int) × Unit) (fun g => IterN (commute_frozen_l27 a1 a2 a3) g.1 g.2.1 q23) (fun g => g.1) (fun (_, s27, _) => [(2, .int .i64 a2), (3, .int .i64 a3), (9, .map (some b1_0)), (40, .slice A3 a1.length c3), (41, .int .i64 (a1.length : Int)), (42, .int .i64 s27.2)]) (fun (_, s27, _) => [eM encKGheading encKI b1_0 s27.1]) (fun (_, _, _) => [fV (lSlice lGEntry) (.slice A3 a1.length c3) a1]) (k27, (s4, 0), ()) hk27 ⟨rfl, rfl, rfl, rfl, rfl, rfl, trivial⟩ (fun _ h => h.to ⟨_, r0, trivial⟩ ⟨m0, trivial⟩) ?_
    rintro ⟨k27, s27, _⟩ hI
    obtain ⟨k27, rfl, q27, h, g27⟩ := IterN.pos hI
    dsimp only at h ⊢
    unfold commute_frozen_l27 at h
    refine wc_seq ?_
    refine wc_region ?_   -- region 9
    refine wl_det rfl rfl (det_lss rfl rfl) rfl ?_
    refine wl_nil ?_
    refine pn_then ?_
    refine wc_seq ?_
    refine wc_cond rfl (fun cd31 => ?_) (fun cd31 => ?_)
    · have h := ifT h cd31
      refine wc_skip ?_
      refine pn_then ?_
      obtain ⟨q33, h, ho33⟩ := bind_some h
      refine wc_meetG (G := (List (Gheading × Int)) × Unit) (fun (s33, _) => s33 = q33) (fun (_, _) => [(2, .int .i64 a2), (3, .int .i64 a3), (9, .map (some b1_0)), (40, .slice A3 a1.length c3), (41, .int .i64 (a1.length : Int)), (42, .int .i64 s27.2)]) (fun (s33, _) => [eM encKGheading encKI b1_0 s33]) (fun (_, _) => [fV (lSlice lGEntry) (.slice A3 a1.length c3) a1]) ?_ ?_
      · refine wc_block ?_
        refine wc_seq ?_
        refine wc_region ?_   -- region 10
        obtain ⟨k10_0, h⟩ := chk_some h
        refine wl_st (fun _ h => h.openF m0 k10_0) ?_
        refine wl_det rfl rfl (det_indexP rfl rfl (ms m0) k10_0 m0 un29 sz43) rfl ?_
        refine wl_det rfl rfl (det_loadP (off := 0) rfl m0 (by rfl) (by rfl) (loaded_n (cells := [_, _, _, _, _]) ag43 sz43)) rfl ?_
        refine wl_act (act_alloc (cs := [_, _, _, _, _]) zr43 rfl) rfl rfl rfl ?_
        rintro _ _ _ ⟨b10_2, rfl, rfl, rfl⟩
        refine wl_act0 (act_store (cells := [_, _, _, _, _]) (cs' := [_, _, _, _, _]) rfl rfl rfl s0 (by rfl) (of_decide_eq_true rfl) sz43 ⟨rfl, rfl, rfl, rfl, rfl, trivial⟩) rfl rfl ?_
        rintro _ _ _ ⟨rfl, rfl⟩
        refine wl_nil ?_
        refine pn_then ?_
        refine wc_seq ?_
        refine wc_region ?_   -- region 11
        refine wl_det rfl rfl (det_field rfl fd43_0 rfl) rfl ?_
        refine wl_det rfl rfl (det_load rfl m0 (by rfl) na3 us3) rfl ?_
        obtain ⟨r11_2, hr11_2, h⟩ := bind_some h
        refine wl_act (act_callS (cap := []) (W_commute_restated (ix a1 s27.2).Kind r11_2 hr11_2) rfl rfl rfl bd31 rfl trivial) rfl rfl rfl ?_
        rintro _ _ _ ⟨_, _, ⟨rfl, rfl, rfl⟩, rfl, rfl⟩
        dsimp only [List.nil_append, List.cons_append]
        refine wl_det rfl rfl (det_move rfl) rfl ?_
        refine wl_way r11_2 (r11_2 && (decide ((ix a1 s27.2).Treaty = a2))) 5 54 (fun hg => ?_) (fun hg => ?_) ?_
        · have hg11_8 := hg
          refine wl_on rfl rfl rfl rfl hg11_8 ?_
          refine wl_det rfl rfl (det_field rfl fd43_1 rfl) rfl ?_
          refine wl_on rfl rfl rfl rfl hg11_8 ?_
          refine wl_det rfl rfl (det_load rfl m0 (by rfl) na3 us3) rfl ?_
          refine wl_on rfl rfl rfl rfl hg11_8 ?_
          refine wl_det rfl rfl (det_move rfl) rfl ?_
          refine wl_on rfl rfl rfl rfl hg11_8 ?_
          refine wl_det rfl rfl (det_eql rfl rfl) rfl ?_
          refine wl_det rfl rfl (det_and_on rfl rfl rfl hg11_8) rfl ?_
          exact wl_nil (pn_qnE (ext_cons rfl (ext_skip rfl (ext_skip rfl (ext_skip rfl (ext_skip rfl (ext_skip rfl ext_refl)))))) (fun _ h => h))
        · have hg11_8a := hg
          refine wl_off rfl rfl rfl rfl rfl hg11_8a rfl ?_
          refine wl_off rfl rfl rfl rfl rfl hg11_8a rfl ?_
          refine wl_off rfl rfl rfl rfl rfl hg11_8a rfl ?_
          refine wl_off rfl rfl rfl rfl rfl hg11_8a rfl ?_
          refine wl_det rfl rfl (det_and_off (q := (decide ((ix a1 s27.2).Treaty = a2))) rfl rfl rfl hg11_8a) rfl ?_
          exact wl_nil (pn_qnE (ext_cons rfl (ext_skip rfl (ext_skip rfl (ext_skip rfl (ext_skip rfl (ext_skip rfl ext_refl)))))) (fun _ h => h))
        refine wl_det rfl rfl (det_move rfl) rfl ?_
        refine wl_way (r11_2 && (decide ((ix a1 s27.2).Treaty = a2))) ((r11_2 && (decide ((ix a1 s27.2).Treaty = a2))) && (decide ((ix a1 s27.2).Party = a3))) 5 60 (fun hg => ?_) (fun hg => ?_) ?_
        · have hg11_14 := hg
          refine wl_on rfl rfl rfl rfl hg11_14 ?_
          refine wl_det rfl rfl (det_field rfl fd43_2 rfl) rfl ?_
          refine wl_on rfl rfl rfl rfl hg11_14 ?_
          refine wl_det rfl rfl (det_load rfl m0 (by rfl) na3 us3) rfl ?_
          refine wl_on rfl rfl rfl rfl hg11_14 ?_
          refine wl_det rfl rfl (det_move rfl) rfl ?_
          refine wl_on rfl rfl rfl rfl hg11_14 ?_
          refine wl_det rfl rfl (det_eql rfl rfl) rfl ?_
          refine wl_det rfl rfl (det_and_on rfl rfl rfl hg11_14) rfl ?_
          exact wl_nil (pn_qnE (ext_cons rfl (ext_skip rfl (ext_skip rfl (ext_skip rfl (ext_skip rfl (ext_skip rfl ext_refl)))))) (fun _ h => h))
        · have hg11_14a := hg
          refine wl_off rfl rfl rfl rfl rfl hg11_14a rfl ?_
          refine wl_off rfl rfl rfl rfl rfl hg11_14a rfl ?_
          refine wl_off rfl rfl rfl rfl rfl hg11_14a rfl ?_
          refine wl_off rfl rfl rfl rfl rfl hg11_14a rfl ?_
          refine wl_det rfl rfl (det_and_off (q := (decide ((ix a1 s27.2).Party = a3))) rfl rfl rfl hg11_14a) rfl ?_
          exact wl_nil (pn_qnE (ext_cons rfl (ext_skip rfl (ext_skip rfl (ext_skip rfl (ext_skip rfl (ext_skip rfl ext_refl)))))) (fun _ h => h))
        refine wl_nil ?_
        refine pn_then ?_
        refine wc_cond rfl (fun cd39 => ?_) (fun cd39 => ?_)
        · have h := ifT h cd39
          refine wc_seq ?_
          refine wc_region ?_   -- region 12
          refine wl_det rfl rfl (det_move rfl) rfl ?_
          refine wl_det rfl rfl (det_loadN (cells := [_, _, _, _, _]) rfl m0 (by rfl) ag43 sz43) rfl ?_
          obtain ⟨r12_2, hr12_2, h⟩ := bind_some h
          refine wl_act (act_callS (cap := []) (W_commute_headingOf (ix a1 s27.2) r12_2 hr12_2) rfl rfl rfl bd23 rfl trivial) rfl rfl rfl ?_
          rintro _ _ _ ⟨_, _, ⟨rfl, rfl, rfl⟩, rfl, rfl⟩
          dsimp only [List.nil_append, List.cons_append]
          refine wl_act0 (act_mapUpdate (k := r12_2) (v := 0) rfl rfl rfl rfl rfl (ss s0) ko53 um51) rfl rfl ?_
          rintro _ _ _ ⟨rfl, rfl⟩
          refine wl_nil ?_
          refine pn_then ?_
          refine wc_seq ?_
          refine wc_region ?_   -- region 13
          refine wl_det rfl rfl (det_field rfl fd43_0 rfl) rfl ?_
          refine wl_det rfl rfl (det_load rfl m0 (by rfl) na3 us3) rfl ?_
          refine wl_det rfl rfl (det_neq rfl rfl) rfl ?_
          refine wl_nil ?_
          refine pn_then ?_
          refine wc_cond rfl (fun cd44 => ?_) (fun cd44 => ?_)
          · have h := ifT h cd44
            refine dx_region 5 [[], [], [1], [], [3], [0, 1, 2, 3, 4]] mixed (ord := (.det 0 (.det 1 (.det 3 (.det 4 (.alt 2 .done .dead)))))) (by kernel_rfl) ?_   -- region 14
            refine hx_det rfl rfl rfl nofun (det_move rfl) rfl ?_
            refine hx_det rfl rfl rfl nofun (det_loadN (cells := [_, _, _, _, _]) rfl m0 (by rfl) ag43 sz43) rfl ?_
            refine hx_det rfl rfl rfl nofun (det_field rfl fd43_4 rfl) rfl ?_
            refine hx_det rfl rfl rfl nofun (det_load rfl m0 (by rfl) na3 us3) rfl ?_
            obtain ⟨r14_2, hr14_2, h⟩ := bind_some h
            refine hx_act rfl rfl rfl (act_callS (cap := []) (W_commute_headingOf (ix a1 s27.2) r14_2 hr14_2) rfl rfl rfl bd23 rfl trivial) rfl (by rintro _ _ _ ⟨_, _, _, rfl, rfl⟩; first | exact ⟨_, _, rfl, rfl⟩ | exact ⟨_, [], rfl, rfl⟩) ?_
            rintro _ _ _ ⟨_, _, ⟨rfl, rfl, rfl⟩, rfl, rfl⟩
            dsimp only [List.nil_append, List.cons_append]
            refine hx_end ?_
            refine wl_act0 (act_mapUpdate (k := r14_2) (v := (ix a1 s27.2).Amount) rfl rfl rfl rfl rfl (ss s0) ko53 um51) rfl rfl ?_
            rintro _ _ _ ⟨rfl, rfl⟩
            refine wl_nil ?_
            refine pn_block ?_
            replace h := Option.some.inj h
            subst h
            exact pn_meetG ((mset (mset s27.1 r12_2 0) r14_2 (ix a1 s27.2).Amount), ()) rfl ⟨rfl, rfl, rfl, rfl, rfl, rfl, trivial⟩ (fun _ h => h.to ⟨_, (rs r0), trivial⟩ ⟨(ms m0), trivial⟩)
          · have h := ifF h cd44
            refine wc_skip ?_
            refine pn_block ?_
            replace h := Option.some.inj h
            subst h
            exact pn_meetG ((mset s27.1 r12_2 0), ()) rfl ⟨rfl, rfl, rfl, rfl, rfl, rfl, trivial⟩ (fun _ h => h.to ⟨_, (rs r0), trivial⟩ ⟨(ms m0), trivial⟩)
        · have h := ifF h cd39
          refine wc_skip ?_
          refine pn_block ?_
          replace h := Option.some.inj h
          subst h
          exact pn_meetG (s27.1, ()) rfl ⟨rfl, rfl, rfl, rfl, rfl, rfl, trivial⟩ (fun _ h => h.to ⟨_, (rs r0), trivial⟩ ⟨(ms m0), trivial⟩)
      rintro ⟨s33, _⟩ e33
      dsimp only at e33 ⊢
      subst e33
      have h := ho33
      refine wc_region ?_   -- region 15
      refine wl_det rfl rfl (det_add rfl rfl) rfl ?_
      refine wl_det rfl rfl (det_move rfl) rfl ?_
      refine wl_nil ?_
      replace h := Option.some.inj h
      subst h
      exact pn_some (k27, (s33, (w64 (s27.2 + 1))), ()) ⟨nextL g27, Nat.lt_succ_self _⟩ ⟨rfl, rfl, rfl, rfl, rfl, rfl, trivial⟩ (fun _ h => h.to ⟨_, r0, trivial⟩ ⟨m0, trivial⟩)
    · have h := ifF h cd31
      refine wc_exit ?_
      refine px_then ?_
      refine px_then ?_
      refine px_block ?_
      replace h := Option.some.inj h
      subst h
      replace g27 := nextR g27
      subst g27
      exact pn_meetG (s27.1, ()) rfl ⟨rfl, trivial⟩ (fun _ h => h.to ⟨_, r0, trivial⟩ trivial)
  rintro ⟨s23, _⟩ e23
  dsimp only at e23 ⊢
  subst e23
  have h := ho23
  refine wc_seq ?_
  refine wc_region ?_   -- region 16
  refine wl_det rfl rfl (det_move rfl) rfl ?_
  refine wl_det rfl rfl (det_assign rfl) rfl ?_
  refine wl_nil ?_
  refine pn_then ?_
  refine wc_ret ?_
  replace h := Option.some.inj h
  subst h
  refine pn_ret (vs := [_]) rfl ⟨rfl, trivial⟩ ⟨b1_0, rfl, rfl, rfl⟩ (fun _ h => h.to ⟨_, r0, trivial⟩ trivial)
def Q_commute_inOrder (r : (List (Gheading × Int))) : Value → List Ent → List Fact → Prop := fun v θ κ => ∃ (pb0 : Nat), ∃ (pm1 : Nat), v = .func (.func 40) #[] #[.pointer (some ⟨pb0, 0, none⟩)] ∧ θ = [eBlk pb0 51 [.map (some pm1)]] ∧ κ = [fM encKGheading encKI pm1 r]
set_option maxHeartbeats 4000000 in
set_option maxRecDepth 100000 in
theorem W_commute_inOrder (a0 : (List (Gheading × Int))) (M0 : Nat) (r : (List (Gheading × Int))) (h : commute_inOrder a0 = some r) : Spec Try.prog 24 [.map (some M0)] [] [fM encKGheading encKI M0 a0] (Q_commute_inOrder r) := by
  unfold commute_inOrder at h
  refine spec_of (σ := [(0, _)]) Try.func24 rfl rfl rfl rfl ?_
  intro C
  refine wc_seq ?_
  refine wc_region ?_   -- region 0
  refine wl_act (act_box (cs := [_]) rfl rfl) rfl rfl rfl ?_
  rintro _ _ _ ⟨b0_0, rfl, rfl, rfl⟩
  refine wl_det rfl rfl (det_assign rfl) rfl ?_
  refine wl_nil ?_
  refine pn_then ?_
  refine wc_seq ?_
  refine wc_region ?_   -- region 1
  refine wl_det rfl rfl (det_makeFunc rfl) rfl ?_
  refine wl_det rfl rfl (det_assign rfl) rfl ?_
  refine wl_nil ?_
  refine pn_then ?_
  refine wc_ret ?_
  replace h := Option.some.inj h
  subst h
  refine pn_ret (vs := [_]) rfl ⟨rfl, trivial⟩ ⟨b0_0, M0, rfl, rfl, rfl⟩ (fun _ h => h.to ⟨_, r0, trivial⟩ ⟨m0, trivial⟩)
def Q_maps_Keys_map_commute_heading_int_commute_heading_int (r : (List (Gheading × Int))) : Value → List Ent → List Fact → Prop := fun v θ κ => ∃ (pb0 : Nat), ∃ (pm1 : Nat), v = .func (.func 54) #[] #[.pointer (some ⟨pb0, 0, none⟩)] ∧ θ = [eBlk pb0 51 [.map (some pm1)]] ∧ κ = [fM encKGheading encKI pm1 r]
set_option maxHeartbeats 4000000 in
set_option maxRecDepth 100000 in
theorem W_maps_Keys_map_commute_heading_int_commute_heading_int (a0 : (List (Gheading × Int))) (M0 : Nat) (r : (List (Gheading × Int))) (h : maps_Keys_map_commute_heading_int_commute_heading_int a0 = some r) : Spec Try.prog 42 [.map (some M0)] [] [fM encKGheading encKI M0 a0] (Q_maps_Keys_map_commute_heading_int_commute_heading_int r) := by
  unfold maps_Keys_map_commute_heading_int_commute_heading_int at h
  refine spec_of (σ := [(0, _)]) Try.func42 rfl rfl rfl rfl ?_
  intro C
  refine wc_seq ?_
  refine wc_region ?_   -- region 0
  refine wl_act (act_box (cs := [_]) rfl rfl) rfl rfl rfl ?_
  rintro _ _ _ ⟨b0_0, rfl, rfl, rfl⟩
  refine wl_det rfl rfl (det_assign rfl) rfl ?_
  refine wl_nil ?_
  refine pn_then ?_
  refine wc_seq ?_
  refine wc_region ?_   -- region 1
  refine wl_det rfl rfl (det_makeFunc rfl) rfl ?_
  refine wl_det rfl rfl (det_assign rfl) rfl ?_
  refine wl_nil ?_
  refine pn_then ?_
  refine wc_ret ?_
  replace h := Option.some.inj h
  subst h
  refine pn_ret (vs := [_]) rfl ⟨rfl, trivial⟩ ⟨b0_0, M0, rfl, rfl, rfl⟩ (fun _ h => h.to ⟨_, r0, trivial⟩ ⟨m0, trivial⟩)
def enc_maps_Keys_map_commute_heading_int_commute_heading_int_1 (x : Gheading × Unit) : List Value := [.agg #[.int .i64 x.1.kind, .int .i64 x.1.treaty, .int .i64 x.1.party, .int .i64 x.1.loss]]
def fx_maps_Keys_map_commute_heading_int_commute_heading_int_1 (_ : Gheading × Unit) : List Fact := []
set_option maxHeartbeats 4000000 in
set_option maxRecDepth 100000 in
theorem W_maps_Keys_map_commute_heading_int_commute_heading_int_1 (a1 : (List (Gheading × Int))) (Ba1 : Nat) (M1 : Nat) : SeqOk Try.prog 54 [.pointer (some ⟨Ba1, 0, none⟩)] [eBlk Ba1 51 [.map (some M1)]] [fM encKGheading encKI M1 a1] enc_maps_Keys_map_commute_heading_int_commute_heading_int_1 (fun x => x.1) fx_maps_Keys_map_commute_heading_int_commute_heading_int_1 (fun Y s => maps_Keys_map_commute_heading_int_commute_heading_int_1 a1 Y s) := by
  intro S O l Y E EO hY s r e h hE
  dsimp only at h
  unfold maps_Keys_map_commute_heading_int_commute_heading_int_1 at h
  refine spec_of (σ := [(0, _), (1, _)]) Try.func54 rfl rfl rfl rfl ?_
  intro C
  refine wc_seq ?_
  refine wc_region ?_   -- region 0
  refine wl_det rfl rfl (det_load rfl (ms m0) (by rfl) na51 us51) rfl ?_
  refine wl_act (act_range rfl m0 um51) rfl rfl rfl ?_
  rintro _ _ _ ⟨b0_1, rfl, rfl, rfl⟩
  refine wl_nil ?_
  refine pn_then ?_
  refine wc_block ?_
  have hR3 := rangeP_some.1 h
  refine wc_rangeE (G := Option (Gheading × Int) × Ent × Unit) (fun g => E g.1 g.2.2.1) (fun (_, _, _, _, _) => [(0, .func (.yield l) #[] #[]), (5, .pointer (some ⟨b0_1, 0, none⟩))]) (fun (lf3, _, cu3_0, e3_1, _) => [eBlk Ba1 51 [.map (some M1)], eIt encKGheading encKI b0_1 cu3_0 lf3, e3_1]) (fun (_, _, _, _, _) => [fM encKGheading encKI M1 a1]) (a1, s, none, e, ()) ⟨hR3, hE⟩ ⟨rfl, rfl, trivial⟩ (fun _ h => h.to ⟨_, (rs (rs r0)), ⟨_, r0, ⟨_, r0, trivial⟩⟩⟩ ⟨m0, trivial⟩) ?_
  rintro ⟨lf3, s3, cu3_0, e3_1, _⟩ ⟨hI3, hE3⟩
  dsimp only at hI3 hE3 ⊢
  rcases Classical.em (lf3 = []) with hl3 | hl3
  · subst hl3
    have h := elimL hI3.nil
    refine wc_seq ?_
    refine wc_region ?_   -- region 1
    refine wl_act (act_next0 rfl (ms m0)) rfl rfl rfl ?_
    rintro _ _ _ ⟨rfl, rfl, rfl⟩
    refine wl_det rfl rfl (det_extract rfl rfl) rfl ?_
    refine wl_nil ?_
    refine pn_then ?_
    refine wc_seq ?_
    refine wc_condF rfl ?_
    refine wc_exit ?_
    refine px_then ?_
    refine px_then ?_
    refine px_block ?_
    refine pn_fall ?_
    replace h := Option.some.inj h
    subst h
    refine pn_ret (vs := []) rfl trivial ⟨rfl, _, hE3, rfl⟩ (fun _ h => h.to ⟨_, (rs (rs r0)), ⟨_, r0, trivial⟩⟩ trivial)
  · refine wc_seq ?_
    refine wc_region ?_   -- region 1
    refine wl_act (act_next1 rfl (ss s0) hl3) rfl rfl rfl ?_
    rintro _ _ _ ⟨p3, lg3, hp3, rfl, rfl, rfl⟩
    obtain ⟨q3, h, hN3⟩ := hI3.cons hp3
    unfold maps_Keys_map_commute_heading_int_commute_heading_int_1_l3 at h
    refine wl_det rfl rfl (det_extract rfl rfl) rfl ?_
    refine wl_nil ?_
    refine pn_then ?_
    refine wc_seq ?_
    refine wc_condT rfl ?_
    refine wc_skip ?_
    refine pn_then ?_
    refine wc_block ?_
    refine wc_seq ?_
    refine wc_region ?_   -- region 2
    refine wl_det rfl rfl (det_entry (vk := .agg #[.int .i64 p3.1.kind, .int .i64 p3.1.treaty, .int .i64 p3.1.party, .int .i64 p3.1.loss]) (vv := .int .i64 p3.2) rfl (ms m0) rfl rfl) rfl ?_
    refine wl_det rfl rfl (det_extract rfl rfl) rfl ?_
    refine wl_act (act_alloc (cs := [_, _, _, _]) zr53 rfl) rfl rfl rfl ?_
    rintro _ _ _ ⟨b2_2, rfl, rfl, rfl⟩
    refine wl_act0 (act_store (cells := [_, _, _, _]) (cs' := [_, _, _, _]) rfl rfl rfl s0 (by rfl) (of_decide_eq_true rfl) sz53 ⟨rfl, rfl, rfl, rfl, trivial⟩) rfl rfl ?_
    rintro _ _ _ ⟨rfl, rfl⟩
    refine wl_nil ?_
    refine pn_then ?_
    refine wc_seq ?_
    refine wc_region ?_   -- region 3
    refine wl_det rfl rfl (det_move rfl) rfl ?_
    refine wl_det rfl rfl (det_loadN (cells := [_, _, _, _]) rfl m0 (by rfl) ag53 sz53) rfl ?_
    obtain ⟨r3_2, hr3_2, h⟩ := bind_some h
    refine wl_act (act_yield hY (p3.1, ()) hr3_2 hE3 rfl rfl (rs (rs (rs r0))) trivial) rfl rfl rfl ?_
    rintro _ _ _ ⟨_, _, hp, rfl, rfl⟩
    rcases r3_2 with s3_2 | o3_2
    · obtain ⟨rfl, rfl, e3_2, hE3_2, rfl⟩ := hp
      have h := elimL h
      dsimp only [List.nil_append, List.cons_append]
      refine wl_det rfl rfl (det_not rfl) rfl ?_
      refine wl_nil ?_
      refine pn_then ?_
      refine wc_condF rfl ?_
      refine wc_skip ?_
      refine pn_block ?_
      replace h := Option.some.inj h
      subst h
      exact pn_some (lg3, s3_2, (some p3), e3_2, ()) ⟨⟨rnextL hN3, hE3_2⟩, perm_lt hp3⟩ ⟨rfl, rfl, trivial⟩ (fun _ h => h.to ⟨_, (rs (rs r0)), ⟨_, (rs (rs r0)), ⟨_, r0, trivial⟩⟩⟩ ⟨m0, trivial⟩)
    · obtain ⟨rfl, rfl, e3_2, hE3_2, rfl⟩ := hp
      have h := elimR h
      dsimp only [List.nil_append, List.cons_append]
      refine wl_det rfl rfl (det_not rfl) rfl ?_
      refine wl_nil ?_
      refine pn_then ?_
      refine wc_condT rfl ?_
      refine wc_ret ?_
      refine pr_block ?_
      refine pr_then ?_
      refine pr_block ?_
      replace h := Option.some.inj h
      subst h
      have h := (elimR (rnextR hN3))
      replace h := Option.some.inj h
      subst h
      refine pn_ret (vs := []) rfl trivial ⟨rfl, _, hE3_2, rfl⟩ (fun _ h => h.to ⟨_, r0, ⟨_, (rs r0), trivial⟩⟩ trivial)
def Q_slices_Collect_commute_heading_maps_Keys_map_commute_heading_int_commute_heading_int_1 (m : (List (Gheading × Int))) (B M : Nat) : Value → List Ent → List Fact → Prop := fun v θ κ => ∃ (l : List Gheading) (A : Option Addr) (n c : Nat), l.Perm (m.map Prod.fst) ∧ v = .slice A n c ∧ θ = [eS lGheading 53 A n c l, eBlk B 51 [.map (some M)]] ∧ κ = []
theorem run_slices_Collect_commute_heading_maps_Keys_map_commute_heading_int_commute_heading_int_1 (m : (List (Gheading × Int))) : maps_Keys_map_commute_heading_int_commute_heading_int_1 m (O := Empty) eraseY (m.map Prod.fst) = some (.inl []) := by
  unfold maps_Keys_map_commute_heading_int_commute_heading_int_1
  rw [rangeP_some]
  intro ys hy
  rw [rangeV_keys _ (fun p s hp => ?_) ys _ (hy.map _)]
  · rfl
  · unfold maps_Keys_map_commute_heading_int_commute_heading_int_1_l3 eraseY
    rw [if_pos hp]
    rfl
set_option maxHeartbeats 4000000 in
set_option maxRecDepth 100000 in
theorem W_append_slices_Collect_commute_heading_maps_Keys_map_commute_heading_int_commute_heading_int_1 (m : (List (Gheading × Int))) (B M : Nat) (hroom : room m.length = true) : Spec Try.prog 69 [.slice none 0 0, .func (.func 54) #[] #[.pointer (some ⟨B, 0, none⟩)]] [eBlk B 51 [.map (some M)]] [fM encKGheading encKI M m] (Q_slices_Collect_commute_heading_maps_Keys_map_commute_heading_int_commute_heading_int_1 m B M) := by
  refine spec_of (σ := [(0, _), (1, _)]) Try.func69 rfl rfl rfl rfl ?_
  intro C
  refine wc_st (fun _ h => h.zeroS lGheading 53 none) ?_
  refine wc_seq ?_
  refine wc_region ?_
  refine wl_act (act_box (cs := [_]) rfl rfl) rfl rfl rfl ?_
  rintro _ _ _ ⟨b0, rfl, rfl, rfl⟩
  refine wl_det rfl rfl (det_assign rfl) rfl ?_
  refine wl_nil ?_
  refine pn_then ?_
  refine wc_seq ?_
  refine wc_seq ?_
  refine wc_region ?_
  refine wl_det rfl rfl (det_move rfl) rfl ?_
  refine wl_nil ?_
  refine pn_then ?_
  refine wc_block ?_
  refine wc_rangeFunc (ηr := []) (W_maps_Keys_map_commute_heading_int_commute_heading_int_1 m B M) rfl bd54 (fun _ => rfl) rfl (AllIn.all ⟨m0, trivial⟩) eraseY (fun s θ κ => ∃ (l : List Gheading), (l ++ s).Perm (m.map Prod.fst) ∧ ∃ (A : Option Addr) (n c : Nat), θ = [eBlk b0 73 [.slice A n c], eS lGheading 53 A n c l] ∧ κ = []) (fun o _ _ _ => Empty.elim o) (m.map Prod.fst) (.inl []) (run_slices_Collect_commute_heading_maps_Keys_map_commute_heading_int_commute_heading_int_1 m) ⟨[], List.Perm.refl _, none, 0, 0, rfl, rfl⟩ (fun _ h => h.to ⟨_, r0, ⟨_, r0, ⟨_, r0, trivial⟩⟩⟩ allIn_self) (AllIn.all trivial) ?_ ?_ (fun _ o => Empty.elim o)
  · rintro C l_ L_ ⟨x, ⟨⟩⟩ s r _ _ h ⟨l, hl, A, n, c, rfl, rfl⟩
    obtain ⟨hx, rfl⟩ := eraseY_some h
    have kx := room_perm hroom hl hx
    dsimp only [zipσ, enc_maps_Keys_map_commute_heading_int_commute_heading_int_1, fx_maps_Keys_map_commute_heading_int_commute_heading_int_1, List.cons_append, List.nil_append] at kx ⊢
    refine wc_know (fun _ h => h.lenO (ms (ms m0))) (fun e => ?_)
    subst e
    refine wc_region ?_
    refine wl_act (act_alloc (cs := [_, _, _, _]) zr53 rfl) rfl rfl rfl ?_
    rintro _ _ _ ⟨bx, rfl, rfl, rfl⟩
    refine wl_act0 (act_store (cells := [_, _, _, _]) (cs' := [_, _, _, _]) rfl rfl rfl s0 (by rfl) (of_decide_eq_true rfl) sz53 ⟨rfl, rfl, rfl, rfl, trivial⟩) rfl rfl ?_
    rintro _ _ _ ⟨rfl, rfl⟩
    refine wl_nil ?_
    refine pn_begin (ss s0) ?_
    refine wc_block ?_
    refine wc_region ?_
    refine wl_det rfl rfl (det_load rfl (ms (ms m0)) (by rfl) na73 us73) rfl ?_
    refine wl_det rfl rfl (det_loadN (cells := [_, _, _, _]) rfl m0 (by rfl) ag53 sz53) rfl ?_
    refine wl_act (act_litS lGheading (vs := [_]) (cs := [_, _, _, _]) [x] un73 in53 rfl rfl rfl rfl rfl ⟨rfl, trivial⟩ (by rfl) rfl (litR_flat rfl)) rfl rfl rfl ?_
    rintro _ _ _ ⟨A3, rfl, rfl, rfl⟩
    refine wl_act (act_appendS (L := lGheading) rfl rfl (ss (ss (ss (ss s0)))) (src_O m0) un73 in53 rfl rfl rfl kx) rfl rfl rfl ?_
    rintro _ _ _ ⟨A4, c4, rfl, rfl, rfl⟩
    refine wl_act0 (act_store (cells := [_]) (cs' := [_]) rfl rfl rfl (ss (ss (ss s0))) (by rfl) (of_decide_eq_true rfl) sz73 ⟨rfl, trivial⟩) rfl rfl ?_
    rintro _ _ _ ⟨rfl, rfl⟩
    refine wl_nil ?_
    refine pn_block ?_
    exact pn_roundN (ss (ss s0)) (fun _ h => ⟨rfl, _, _, ⟨l ++ [x], erase_perm hl hx, A4, (l ++ [x]).length, c4, rfl, rfl⟩, h.to ⟨_, (rs (rs r0)), ⟨_, (rs (rs r0)), ⟨_, (rs (rs r0)), trivial⟩⟩⟩ trivial⟩)
  · rintro m_ s _ _ e ⟨l, hl, A, n, c, rfl, rfl⟩
    obtain rfl := Sum.inl.inj e
    rw [List.append_nil] at hl
    dsimp only [List.cons_append, List.nil_append]
    refine pn_know (fun _ h => h.lenO (ms m0)) (fun e => ?_)
    subst e
    refine pn_block ?_
    refine pn_then ?_
    refine wc_seq ?_
    refine wc_region ?_
    refine wl_det rfl rfl (det_load rfl m0 (by rfl) na73 us73) rfl ?_
    refine wl_det rfl rfl (det_assign rfl) rfl ?_
    refine wl_nil ?_
    refine pn_then ?_
    refine wc_ret ?_
    refine pn_retM (rs (rs (rs r0))) ?_
    refine pn_ret (vs := [_]) rfl ⟨rfl, trivial⟩ ⟨l, A, _, c, hl, rfl, rfl, rfl⟩ (fun _ h => h.to ⟨_, (rs r0), ⟨_, (rs r0), trivial⟩⟩ trivial)
set_option maxHeartbeats 4000000 in
set_option maxRecDepth 100000 in
theorem W_slices_Collect_commute_heading_maps_Keys_map_commute_heading_int_commute_heading_int_1 (m : (List (Gheading × Int))) (B M : Nat) (hroom : room m.length = true) : Spec Try.prog 52 [.func (.func 54) #[] #[.pointer (some ⟨B, 0, none⟩)]] [eBlk B 51 [.map (some M)]] [fM encKGheading encKI M m] (Q_slices_Collect_commute_heading_maps_Keys_map_commute_heading_int_commute_heading_int_1 m B M) := by
  refine spec_of (σ := [(0, _)]) Try.func52 rfl rfl rfl rfl ?_
  intro C
  refine wc_seq ?_
  refine wc_region ?_
  refine wl_det rfl rfl (det_assign rfl) rfl ?_
  refine wl_nil ?_
  refine pn_then ?_
  refine wc_seq ?_
  refine wc_region ?_
  refine wl_det rfl rfl (det_move rfl) rfl ?_
  refine wl_act (act_callS (cap := []) (W_append_slices_Collect_commute_heading_maps_Keys_map_commute_heading_int_commute_heading_int_1 m B M hroom) rfl rfl rfl bd69 ⟨_, r0, rfl⟩ ⟨m0, trivial⟩) rfl rfl rfl ?_
  rintro _ _ _ ⟨_, _, ⟨l, A, n, c, hl, rfl, rfl, rfl⟩, rfl, rfl⟩
  dsimp only [List.nil_append, List.cons_append]
  refine wl_det rfl rfl (det_assign rfl) rfl ?_
  refine wl_nil ?_
  refine pn_then ?_
  refine wc_ret ?_
  refine pn_ret (vs := [_]) rfl ⟨rfl, trivial⟩ ⟨l, A, n, c, hl, rfl, rfl, rfl⟩ (fun _ h => h.to ⟨_, r0, ⟨_, r0, trivial⟩⟩ trivial)
def Q_commute_compare (r : Int) : Value → List Ent → List Fact → Prop := fun v θ κ => v = .int .i64 r ∧ θ = [] ∧ κ = []
theorem plains_commute_compare {r : Int} : ∀ v θ κ, Q_commute_compare r v θ κ → Plains θ := by
  rintro _ _ _ ⟨rfl, rfl, rfl⟩
  exact trivial
set_option maxHeartbeats 4000000 in
set_option maxRecDepth 100000 in
theorem W_commute_compare (a0 : Gheading) (a1 : Gheading) (r : Int) (h : commute_compare a0 a1 = some r) : Spec Try.prog 43 [.agg #[.int .i64 a0.kind, .int .i64 a0.treaty, .int .i64 a0.party, .int .i64 a0.loss], .agg #[.int .i64 a1.kind, .int .i64 a1.treaty, .int .i64 a1.party, .int .i64 a1.loss]] [] [] (Q_commute_compare r) := by
  unfold commute_compare at h
  refine spec_of (σ := [(0, _), (1, _)]) Try.func43 rfl rfl rfl rfl ?_
  intro C
  refine wc_seq ?_
  refine wc_region ?_   -- region 0
  refine wl_act (act_box (cs := [_, _, _, _]) rfl rfl) rfl rfl rfl ?_
  rintro _ _ _ ⟨b0_0, rfl, rfl, rfl⟩
  refine wl_act (act_box (cs := [_, _, _, _]) rfl rfl) rfl rfl rfl ?_
  rintro _ _ _ ⟨b0_1, rfl, rfl, rfl⟩
  refine wl_det rfl rfl (det_assign rfl) rfl ?_
  refine wl_nil ?_
  refine pn_then ?_
  refine wc_seq ?_
  refine dx_region 22 [[], [0], [], [2], [0, 1, 2, 3], [], [5], [], [7], [0, 1, 2, 3, 4, 5, 6, 7, 8], [], [10], [], [12], [0, 1, 2, 3, 4, 5, 6, 7, 8, 9, 10, 11, 12, 13], [], [15], [], [17], [0, 1, 2, 3, 4, 5, 6, 7, 8, 9, 10, 11, 12, 13, 14, 15, 16, 17, 18], [0, 1, 2, 3, 4, 5, 6, 7, 8, 9, 10, 11, 12, 13, 14, 15, 16, 17, 18, 19], [0, 1, 2, 3, 4, 5, 6, 7, 8, 9, 10, 11, 12, 13, 14, 15, 16, 17, 18, 19, 20], [0, 1, 2, 3, 4, 5, 6, 7, 8, 9, 10, 11, 12, 13, 14, 15, 16, 17, 18, 19, 20, 21]] mixed (ord := (.det 0 (.det 1 (.det 2 (.det 3 (.det 5 (.det 6 (.det 7 (.det 8 (.det 10 (.det 11 (.det 12 (.det 13 (.det 15 (.det 16 (.det 17 (.det 18 (.alt 4 (.alt 9 (.alt 14 (.alt 19 (.alt 20 (.alt 21 .done .dead) .dead) .dead) .dead) .dead) .dead)))))))))))))))))) (by kernel_rfl) ?_   -- region 1
  refine hx_det rfl rfl rfl nofun (det_field rfl fd53_0 rfl) rfl ?_
  refine hx_det rfl rfl rfl nofun (det_load rfl (ms m0) (by rfl) na3 us3) rfl ?_
  refine hx_det rfl rfl rfl nofun (det_field rfl fd53_0 rfl) rfl ?_
  refine hx_det rfl rfl rfl nofun (det_load rfl m0 (by rfl) na3 us3) rfl ?_
  refine hx_det rfl rfl rfl nofun (det_field rfl fd53_1 rfl) rfl ?_
  refine hx_det rfl rfl rfl nofun (det_load rfl (ms m0) (by rfl) na3 us3) rfl ?_
  refine hx_det rfl rfl rfl nofun (det_field rfl fd53_1 rfl) rfl ?_
  refine hx_det rfl rfl rfl nofun (det_load rfl m0 (by rfl) na3 us3) rfl ?_
  refine hx_det rfl rfl rfl nofun (det_field rfl fd53_2 rfl) rfl ?_
  refine hx_det rfl rfl rfl nofun (det_load rfl (ms m0) (by rfl) na3 us3) rfl ?_
  refine hx_det rfl rfl rfl nofun (det_field rfl fd53_2 rfl) rfl ?_
  refine hx_det rfl rfl rfl nofun (det_load rfl m0 (by rfl) na3 us3) rfl ?_
  refine hx_det rfl rfl rfl nofun (det_field rfl fd53_3 rfl) rfl ?_
  refine hx_det rfl rfl rfl nofun (det_load rfl (ms m0) (by rfl) na3 us3) rfl ?_
  refine hx_det rfl rfl rfl nofun (det_field rfl fd53_3 rfl) rfl ?_
  refine hx_det rfl rfl rfl nofun (det_load rfl m0 (by rfl) na3 us3) rfl ?_
  obtain ⟨r1_4, hr1_4, h⟩ := bind_some h
  refine hx_act rfl rfl rfl (act_callS (cap := []) (W_cmp_Compare_int a0.kind a1.kind r1_4 hr1_4) rfl rfl rfl bd51 rfl trivial) rfl (by rintro _ _ _ ⟨_, _, _, rfl, rfl⟩; first | exact ⟨_, _, rfl, rfl⟩ | exact ⟨_, [], rfl, rfl⟩) ?_
  rintro _ _ _ ⟨_, _, ⟨rfl, rfl, rfl⟩, rfl, rfl⟩
  dsimp only [List.nil_append, List.cons_append]
  obtain ⟨r1_9, hr1_9, h⟩ := bind_some h
  refine hx_act rfl rfl rfl (act_callS (cap := []) (W_cmp_Compare_int a0.treaty a1.treaty r1_9 hr1_9) rfl rfl rfl bd51 rfl trivial) rfl (by rintro _ _ _ ⟨_, _, _, rfl, rfl⟩; first | exact ⟨_, _, rfl, rfl⟩ | exact ⟨_, [], rfl, rfl⟩) ?_
  rintro _ _ _ ⟨_, _, ⟨rfl, rfl, rfl⟩, rfl, rfl⟩
  dsimp only [List.nil_append, List.cons_append]
  obtain ⟨r1_14, hr1_14, h⟩ := bind_some h
  refine hx_act rfl rfl rfl (act_callS (cap := []) (W_cmp_Compare_int a0.party a1.party r1_14 hr1_14) rfl rfl rfl bd51 rfl trivial) rfl (by rintro _ _ _ ⟨_, _, _, rfl, rfl⟩; first | exact ⟨_, _, rfl, rfl⟩ | exact ⟨_, [], rfl, rfl⟩) ?_
  rintro _ _ _ ⟨_, _, ⟨rfl, rfl, rfl⟩, rfl, rfl⟩
  dsimp only [List.nil_append, List.cons_append]
  obtain ⟨r1_19, hr1_19, h⟩ := bind_some h
  refine hx_act rfl rfl rfl (act_callS (cap := []) (W_cmp_Compare_int a0.loss a1.loss r1_19 hr1_19) rfl rfl rfl bd51 rfl trivial) rfl (by rintro _ _ _ ⟨_, _, _, rfl, rfl⟩; first | exact ⟨_, _, rfl, rfl⟩ | exact ⟨_, [], rfl, rfl⟩) ?_
  rintro _ _ _ ⟨_, _, ⟨rfl, rfl, rfl⟩, rfl, rfl⟩
  dsimp only [List.nil_append, List.cons_append]
  refine hx_act rfl rfl rfl (act_litS (lInt .i64) (vs := [_, _, _, _]) (cs := [_, _, _, _]) [r1_4, r1_9, r1_14, r1_19] un22 in3 rfl rfl rfl rfl rfl ⟨rfl, rfl, rfl, rfl, trivial⟩ (by rfl) rfl (litR_flat rfl)) rfl (by rintro _ _ _ ⟨A1_20, rfl, rfl, rfl⟩; first | exact ⟨_ :: [], [], rfl, rfl⟩ | exact ⟨[], [_], rfl, rfl⟩ | exact ⟨[], [], rfl, rfl⟩) ?_
  rintro _ _ _ ⟨A1_20, rfl, rfl, rfl⟩
  obtain ⟨r1_21, hr1_21, h⟩ := bind_some h
  refine hx_act rfl rfl rfl (act_callL (cap := []) [eS (lInt .i64) 3 A1_20 4 4 [r1_4, r1_9, r1_14, r1_19]] (W_cmp_Or_int [r1_4, r1_9, r1_14, r1_19] A1_20 4 4 r1_21 hr1_21) plains_cmp_Or_int rfl rfl rfl bd50 rfl ⟨m0, trivial⟩ ⟨.inr ⟨_, m0, lent_eS⟩, trivial⟩) rfl (by rintro _ _ _ ⟨_, _, _, rfl, rfl⟩; first | exact ⟨_, _, rfl, rfl⟩ | exact ⟨_, [], rfl, rfl⟩) ?_
  rintro _ _ _ ⟨_, _, ⟨rfl, rfl, rfl⟩, rfl, rfl⟩
  dsimp only [List.nil_append, List.cons_append]
  refine hx_end ?_
  refine wl_det rfl rfl (det_assign rfl) rfl ?_
  refine wl_nil ?_
  refine pn_then ?_
  refine wc_ret ?_
  replace h := Option.some.inj h
  subst h
  refine pn_ret (vs := [_]) rfl ⟨rfl, trivial⟩ ⟨rfl, rfl, rfl⟩ (fun _ h => h.to trivial trivial)
def Q_slices_SortFunc_s_commute_heading_commute_heading_o_commute_compare (A0 : Option Addr) (n0 : Nat) (c0 : Nat) (r : (List Gheading)) : Value → List Ent → List Fact → Prop := fun v θ κ => v = .tuple #[] ∧ θ = [eS lGheading 53 A0 n0 c0 r] ∧ κ = []
theorem plains_slices_SortFunc_s_commute_heading_commute_heading_o_commute_compare {A0 : Option Addr} {n0 : Nat} {c0 : Nat} {r : (List Gheading)} : ∀ v θ κ, Q_slices_SortFunc_s_commute_heading_commute_heading_o_commute_compare A0 n0 c0 r v θ κ → Plains θ := by
  rintro _ _ _ ⟨rfl, rfl, rfl⟩
  exact ⟨plain_eS, trivial⟩
theorem W_slices_SortFunc_s_commute_heading_commute_heading_o_commute_compare (a0 : (List Gheading)) (A0 : Option Addr) (n0 : Nat) (c0 : Nat) (r : (List Gheading)) (h : slices_SortFunc_s_commute_heading_commute_heading_o_commute_compare a0 = some r) : Spec Try.prog 53 [.slice A0 n0 c0, .func (.func 43) #[] #[]] [eS lGheading 53 A0 n0 c0 a0] [] (Q_slices_SortFunc_s_commute_heading_commute_heading_o_commute_compare A0 n0 c0 r) :=
  spec_sortK (ρ := Try.sort53_ren) Try.sort53 rfl (by kernel_rfl) (by kernel_rfl) (cap := []) (θ₀ := []) bd43 trivial (fun x y r h => W_commute_compare x y  r h) h A0 n0 c0
def Q_slices_SortedFunc_commute_heading_maps_Keys_map_commute_heading_int_commute_heading_int_1_commute_compare (Ba0_0 : Nat) (M1 : Nat) (r : (List Gheading)) : Value → List Ent → List Fact → Prop := fun v θ κ => ∃ (pA0 : Option Addr), ∃ (pn0 : Nat), ∃ (pc0 : Nat), v = .slice pA0 pn0 pc0 ∧ θ = [eS lGheading 53 pA0 pn0 pc0 r, eBlk Ba0_0 51 [.map (some M1)]] ∧ κ = []
theorem plains_slices_SortedFunc_commute_heading_maps_Keys_map_commute_heading_int_commute_heading_int_1_commute_compare {Ba0_0 : Nat} {M1 : Nat} {r : (List Gheading)} : ∀ v θ κ, Q_slices_SortedFunc_commute_heading_maps_Keys_map_commute_heading_int_commute_heading_int_1_commute_compare Ba0_0 M1 r v θ κ → Plains θ := by
  rintro _ _ _ ⟨_, _, _, rfl, rfl, rfl⟩
  exact ⟨plain_eS, plain_eBlk, trivial⟩
set_option maxHeartbeats 4000000 in
set_option maxRecDepth 100000 in
theorem W_slices_SortedFunc_commute_heading_maps_Keys_map_commute_heading_int_commute_heading_int_1_commute_compare (a0_0 : (List (Gheading × Int))) (Ba0_0 : Nat) (M1 : Nat) (r : (List Gheading)) (h : slices_SortedFunc_commute_heading_maps_Keys_map_commute_heading_int_commute_heading_int_1_commute_compare a0_0 = some r) : Spec Try.prog 41 [.func (.func 54) #[] #[.pointer (some ⟨Ba0_0, 0, none⟩)], .func (.func 43) #[] #[]] [eBlk Ba0_0 51 [.map (some M1)]] [fM encKGheading encKI M1 a0_0] (Q_slices_SortedFunc_commute_heading_maps_Keys_map_commute_heading_int_commute_heading_int_1_commute_compare Ba0_0 M1 r) := by
  unfold slices_SortedFunc_commute_heading_maps_Keys_map_commute_heading_int_commute_heading_int_1_commute_compare at h
  refine spec_of (σ := [(0, _), (1, _)]) Try.func41 rfl rfl rfl rfl ?_
  intro C
  refine wc_seq ?_
  refine wc_region ?_   -- region 0
  refine wl_det rfl rfl (det_assign rfl) rfl ?_
  refine wl_nil ?_
  refine pn_then ?_
  refine wc_seq ?_
  refine wc_region ?_   -- region 1
  refine wl_det rfl rfl (det_move rfl) rfl ?_
  obtain ⟨k1_1, h⟩ := chk_some h
  have hP1_1 := permP_some.1 h
  refine wl_act (act_callS (cap := []) (W_slices_Collect_commute_heading_maps_Keys_map_commute_heading_int_commute_heading_int_1 a0_0 Ba0_0 M1 k1_1) rfl rfl rfl bd52 ⟨_, r0, rfl⟩ ⟨m0, trivial⟩) rfl rfl rfl ?_
  rintro _ _ _ ⟨_, _, ⟨l1_1, y1_1A, y1_1n, y1_1c, hl1_1, rfl, rfl, rfl⟩, rfl, rfl⟩
  have h := hP1_1 l1_1 hl1_1
  dsimp only [List.nil_append, List.cons_append]
  refine wl_know (fun _ h => h.lenO m0) (fun e => ?_)
  subst e
  refine wl_det rfl rfl (det_assign rfl) rfl ?_
  refine wl_nil ?_
  refine pn_then ?_
  refine wc_seq ?_
  refine wc_region ?_   -- region 2
  refine wl_det rfl rfl (det_move rfl) rfl ?_
  refine wl_det rfl rfl (det_move rfl) rfl ?_
  obtain ⟨r2_2, hr2_2, h⟩ := bind_some h
  refine wl_act (act_callS (cap := []) (W_slices_SortFunc_s_commute_heading_commute_heading_o_commute_compare l1_1 y1_1A l1_1.length y1_1c r2_2 hr2_2) rfl rfl rfl bd53 ⟨_, r0, rfl⟩ trivial) rfl rfl rfl ?_
  rintro _ _ _ ⟨_, _, ⟨rfl, rfl, rfl⟩, rfl, rfl⟩
  dsimp only [List.nil_append, List.cons_append]
  refine wl_nil ?_
  refine pn_then ?_
  refine wc_seq ?_
  refine wc_region ?_   -- region 3
  refine wl_det rfl rfl (det_move rfl) rfl ?_
  refine wl_det rfl rfl (det_assign rfl) rfl ?_
  refine wl_nil ?_
  refine pn_then ?_
  refine wc_ret ?_
  replace h := Option.some.inj h
  subst h
  refine pn_ret (vs := [_]) rfl ⟨rfl, trivial⟩ ⟨y1_1A, l1_1.length, y1_1c, rfl, rfl, rfl⟩ (fun _ h => h.to ⟨_, r0, ⟨_, r0, trivial⟩⟩ trivial)
def enc_commute_inOrder_c1 (x : (Gheading × Int) × Unit) : List Value := [.agg #[.int .i64 x.1.1.kind, .int .i64 x.1.1.treaty, .int .i64 x.1.1.party, .int .i64 x.1.1.loss], .int .i64 x.1.2]
def fx_commute_inOrder_c1 (_ : (Gheading × Int) × Unit) : List Fact := []
set_option maxHeartbeats 4000000 in
set_option maxRecDepth 100000 in
theorem W_commute_inOrder_c1 (a1 : (List (Gheading × Int))) (Ba1 : Nat) (M1 : Nat) : SeqOk Try.prog 40 [.pointer (some ⟨Ba1, 0, none⟩)] [eBlk Ba1 51 [.map (some M1)]] [fM encKGheading encKI M1 a1] enc_commute_inOrder_c1 (fun x => x.1) fx_commute_inOrder_c1 (fun Y s => commute_inOrder_c1 a1 Y s) := by
  intro S O l Y E EO hY s r e h hE
  dsimp only at h
  unfold commute_inOrder_c1 at h
  refine spec_of (σ := [(0, _), (1, _)]) Try.func40 rfl rfl rfl rfl ?_
  intro C
  refine wc_seq ?_
  refine wc_region ?_   -- region 0
  refine wl_det rfl rfl (det_load rfl (ms m0) (by rfl) na51 us51) rfl ?_
  obtain ⟨r0_1, hr0_1, h⟩ := bind_some h
  refine wl_act (act_callS (cap := []) (W_maps_Keys_map_commute_heading_int_commute_heading_int a1 M1 r0_1 hr0_1) rfl rfl rfl bd42 rfl ⟨m0, trivial⟩) rfl rfl rfl ?_
  rintro _ _ _ ⟨_, _, ⟨y0_1b0, y0_1m1, rfl, rfl, rfl⟩, rfl, rfl⟩
  dsimp only [List.nil_append, List.cons_append]
  obtain ⟨r0_2, hr0_2, h⟩ := bind_some h
  refine wl_act (act_callS (cap := []) (W_slices_SortedFunc_commute_heading_maps_Keys_map_commute_heading_int_commute_heading_int_1_commute_compare r0_1 y0_1b0 y0_1m1 r0_2 hr0_2) rfl rfl rfl bd41 ⟨_, r0, rfl⟩ ⟨m0, trivial⟩) rfl rfl rfl ?_
  rintro _ _ _ ⟨_, _, ⟨y0_2A0, y0_2n0, y0_2c0, rfl, rfl, rfl⟩, rfl, rfl⟩
  dsimp only [List.nil_append, List.cons_append]
  refine wl_know (fun _ h => h.lenO m0) (fun e => ?_)
  subst e
  refine wl_det rfl rfl (det_len rfl un73) rfl ?_
  refine wl_det rfl rfl (det_move rfl) rfl ?_
  refine wl_nil ?_
  refine pn_then ?_
  refine wc_block ?_
  obtain ⟨o3, h, ho3⟩ := bind_some h
  obtain ⟨k3, hk3⟩ := loopV_some.1 h
  refine wc_loop (G := Nat × (Int × S) × Ent × Unit) (fun g => IterN (commute_inOrder_c1_l3 a1 Y r0_2) g.1 g.2.1 o3 ∧ E g.2.1.2 g.2.2.1) (fun g => g.1) (fun (_, s3, _, _) => [(0, .func (.yield l) #[] #[]), (1, .pointer (some ⟨Ba1, 0, none⟩)), (7, .slice y0_2A0 r0_2.length y0_2c0), (8, .int .i64 (r0_2.length : Int)), (9, .int .i64 s3.1)]) (fun (_, _, e3_0, _) => [eBlk Ba1 51 [.map (some M1)], eS lGheading 53 y0_2A0 r0_2.length y0_2c0 r0_2, e3_0]) (fun (_, _, _, _) => [fM encKGheading encKI M1 a1]) (k3, (0, s), e, ()) ⟨hk3, hE⟩ ⟨rfl, rfl, rfl, rfl, rfl, trivial⟩ (fun _ h => h.to ⟨_, (rs (rs (rs r0))), ⟨_, r0, ⟨_, (rs r0), trivial⟩⟩⟩ ⟨(ms m0), trivial⟩) ?_
  rintro ⟨k3, s3, e3_0, _⟩ ⟨hI, hE3⟩
  obtain ⟨k3, rfl, q3, h, g3⟩ := IterN.pos hI
  dsimp only at h hE3 ⊢
  unfold commute_inOrder_c1_l3 at h
  refine wc_seq ?_
  refine wc_region ?_   -- region 1
  refine wl_det rfl rfl (det_lss rfl rfl) rfl ?_
  refine wl_nil ?_
  refine pn_then ?_
  refine wc_seq ?_
  refine wc_cond rfl (fun cd7 => ?_) (fun cd7 => ?_)
  · have h := ifT h cd7
    refine wc_skip ?_
    refine pn_then ?_
    refine wc_seq ?_
    refine wc_block ?_
    refine wc_seq ?_
    refine wc_region ?_   -- region 2
    obtain ⟨k2_0, h⟩ := chk_some h
    refine wl_det rfl rfl (det_indexO rfl rfl (ms m0) k2_0 un73 sz53) rfl ?_
    refine wl_det rfl rfl (det_loadO (off := 0) rfl (ms m0) k2_0 (by rfl) (by rfl) (loaded_n (cells := [_, _, _, _]) ag53 sz53)) rfl ?_
    refine wl_act (act_alloc (cs := [_, _, _, _]) zr53 rfl) rfl rfl rfl ?_
    rintro _ _ _ ⟨b2_2, rfl, rfl, rfl⟩
    refine wl_act0 (act_store (cells := [_, _, _, _]) (cs' := [_, _, _, _]) rfl rfl rfl s0 (by rfl) (of_decide_eq_true rfl) sz53 ⟨rfl, rfl, rfl, rfl, trivial⟩) rfl rfl ?_
    rintro _ _ _ ⟨rfl, rfl⟩
    refine wl_nil ?_
    refine pn_then ?_
    refine wc_seq ?_
    refine dx_region 5 [[], [], [], [], [2, 3], [0, 1, 2, 3, 4], [0, 1, 2, 3, 4, 5]] mixed (ord := (.det 0 (.det 1 (.det 2 (.det 3 (.det 4 .done)))))) (by kernel_rfl) ?_   -- region 3
    refine hx_det rfl rfl rfl nofun (det_move rfl) rfl ?_
    refine hx_det rfl rfl rfl nofun (det_loadN (cells := [_, _, _, _]) rfl m0 (by rfl) ag53 sz53) rfl ?_
    refine hx_det rfl rfl rfl nofun (det_load rfl (ms m0) (by rfl) na51 us51) rfl ?_
    refine hx_det rfl rfl rfl nofun (det_loadN (cells := [_, _, _, _]) rfl m0 (by rfl) ag53 sz53) rfl ?_
    refine hx_det rfl rfl rfl nofun (det_lookupF (k := (ix r0_2 s3.1)) (z := (0 : Int)) (vr := .int .i64 (mget a1 (ix r0_2 s3.1) (0 : Int))) rfl rfl rfl m0 ko53 um51 zr3 rfl) rfl ?_
    refine hx_end ?_
    obtain ⟨r3_5, hr3_5, h⟩ := bind_some h
    refine wl_act (act_yield hY (((ix r0_2 s3.1), (mget a1 (ix r0_2 s3.1) (0 : Int))), ()) hr3_5 hE3 rfl rfl (rs (rs (rs r0))) trivial) rfl rfl rfl ?_
    rintro _ _ _ ⟨_, _, hp, rfl, rfl⟩
    rcases r3_5 with s3_5 | o3_5
    · obtain ⟨rfl, rfl, e3_5, hE3_5, rfl⟩ := hp
      have h := elimL h
      dsimp only [List.nil_append, List.cons_append]
      refine wl_det rfl rfl (det_not rfl) rfl ?_
      refine wl_nil ?_
      refine pn_then ?_
      refine wc_condF rfl ?_
      refine wc_skip ?_
      refine pn_block ?_
      refine pn_then ?_
      refine wc_region ?_   -- region 4
      refine wl_det rfl rfl (det_add rfl rfl) rfl ?_
      refine wl_det rfl rfl (det_move rfl) rfl ?_
      refine wl_nil ?_
      replace h := Option.some.inj h
      subst h
      exact pn_some (k3, ((w64 (s3.1 + 1)), s3_5), e3_5, ()) ⟨⟨nextL g3, hE3_5⟩, Nat.lt_succ_self _⟩ ⟨rfl, rfl, rfl, rfl, rfl, trivial⟩ (fun _ h => h.to ⟨_, (rs (rs r0)), ⟨_, (rs (rs r0)), ⟨_, r0, trivial⟩⟩⟩ ⟨m0, trivial⟩)
    · obtain ⟨rfl, rfl, e3_5, hE3_5, rfl⟩ := hp
      have h := elimR h
      dsimp only [List.nil_append, List.cons_append]
      refine wl_det rfl rfl (det_not rfl) rfl ?_
      refine wl_nil ?_
      refine pn_then ?_
      refine wc_condT rfl ?_
      refine wc_ret ?_
      refine pr_block ?_
      refine pr_then ?_
      refine pr_then ?_
      refine pr_block ?_
      replace h := Option.some.inj h
      subst h
      replace g3 := nextR g3
      subst g3
      have h := ho3
      replace h := Option.some.inj h
      subst h
      refine pn_ret (vs := []) rfl trivial ⟨rfl, _, hE3_5, rfl⟩ (fun _ h => h.to ⟨_, r0, ⟨_, (rs r0), trivial⟩⟩ trivial)
  · have h := ifF h cd7
    refine wc_exit ?_
    refine px_then ?_
    refine px_then ?_
    refine px_block ?_
    refine pn_fall ?_
    replace h := Option.some.inj h
    subst h
    replace g3 := nextR g3
    subst g3
    have h := ho3
    replace h := Option.some.inj h
    subst h
    refine pn_ret (vs := []) rfl trivial ⟨rfl, _, hE3, rfl⟩ (fun _ h => h.to ⟨_, (rs (rs r0)), ⟨_, r0, trivial⟩⟩ trivial)
def Q_commute_collected (r : (List GEntry) × Int) : Value → List Ent → List Fact → Prop := fun v θ κ => ∃ (pA0 : Option Addr), ∃ (pn0 : Nat), ∃ (pc0 : Nat), v = .tuple #[.slice pA0 pn0 pc0, .int .i64 r.2] ∧ θ = [eS lGEntry 43 pA0 pn0 pc0 r.1] ∧ κ = []
theorem plains_commute_collected {r : (List GEntry) × Int} : ∀ v θ κ, Q_commute_collected r v θ κ → Plains θ := by
  rintro _ _ _ ⟨_, _, _, rfl, rfl, rfl⟩
  exact ⟨plain_eS, trivial⟩
set_option maxHeartbeats 4000000 in
set_option maxRecDepth 100000 in
theorem W_commute_collected (a0 : (List (Gheading × Int))) (M0 : Nat) (r : (List GEntry) × Int) (h : commute_collected a0 = some r) : Spec Try.prog 26 [.map (some M0)] [] [fM encKGheading encKI M0 a0] (Q_commute_collected r) := by
  unfold commute_collected at h
  refine spec_of (σ := [(0, _)]) Try.func26 rfl rfl rfl rfl ?_
  intro C
  refine wc_seq ?_
  refine wc_region ?_   -- region 0
  refine wl_act (act_alloc (cs := [_]) zr29 rfl) rfl rfl rfl ?_
  rintro _ _ _ ⟨b0_0, rfl, rfl, rfl⟩
  refine wl_act (act_alloc (cs := [_]) zr31 rfl) rfl rfl rfl ?_
  rintro _ _ _ ⟨b0_1, rfl, rfl, rfl⟩
  refine wl_nil ?_
  refine pn_then ?_
  refine wc_seq ?_
  refine wc_region ?_   -- region 1
  refine wl_act (act_alloc (cs := [_]) zr29 rfl) rfl rfl rfl ?_
  rintro _ _ _ ⟨b1_0, rfl, rfl, rfl⟩
  refine wl_nil ?_
  refine pn_then ?_
  refine wc_seq ?_
  refine wc_seq ?_
  refine wc_region ?_   -- region 2
  refine wl_det rfl rfl (det_move rfl) rfl ?_
  obtain ⟨r2_1, hr2_1, h⟩ := bind_some h
  refine wl_act (act_callS (cap := []) (W_commute_inOrder a0 M0 r2_1 hr2_1) rfl rfl rfl bd24 rfl ⟨m0, trivial⟩) rfl rfl rfl ?_
  rintro _ _ _ ⟨_, _, ⟨y2_1b0, y2_1m1, rfl, rfl, rfl⟩, rfl, rfl⟩
  dsimp only [List.nil_append, List.cons_append]
  refine wl_nil ?_
  refine pn_then ?_
  refine wc_block ?_
  refine wc_st (fun _ h => h.zeroS lGEntry 43 none) ?_
  obtain ⟨q8, hq8, h⟩ := bind_some h
  refine wc_rangeFunc (ηr := []) (W_commute_inOrder_c1 r2_1 y2_1b0 y2_1m1) rfl bd40 (fun _ => rfl) rfl (AllIn.all ⟨m0, trivial⟩) commute_collected_l8 (fun s8 θ κ => ∃ (A8_0 : Option Addr), ∃ (n8_0 : Nat), ∃ (c8_0 : Nat), θ = [eBlk b0_0 29 [.slice none 0 0], eBlk b0_1 31 [.int .i64 0], eBlk b1_0 29 [.slice A8_0 n8_0 c8_0], eS lGEntry 43 A8_0 n8_0 c8_0 s8] ∧ κ = []) (fun _ c θ κ => c = .ret ∧ θ = [eBlk b0_0 29 [.slice none 0 0], eBlk b0_1 31 [.int .i64 3]] ∧ κ = []) [] q8 hq8 ⟨none, 0, 0, rfl, rfl⟩ (fun _ h => h.to ⟨_, (rs (rs (rs (rs r0)))), ⟨_, (rs (rs (rs r0))), ⟨_, (rs (rs r0)), ⟨_, r0, ⟨_, r0, trivial⟩⟩⟩⟩⟩ allIn_self) (AllIn.all trivial) ?_ ?_ ?_
  · rintro C l8_ L8_ ⟨x8, ⟨⟩⟩ s8 r _ _ h ⟨A8_0, n8_0, c8_0, rfl, rfl⟩
    unfold commute_collected_l8 at h
    dsimp only [zipσ, enc_commute_inOrder_c1, fx_commute_inOrder_c1, List.cons_append, List.nil_append] at h ⊢
    refine wc_know (fun _ h => h.lenO (ms (ms (ms (ms m0))))) (fun e => ?_)
    subst e
    refine wc_seq ?_
    refine wc_region ?_   -- region 3
    refine wl_act (act_alloc (cs := [_, _, _, _]) zr53 rfl) rfl rfl rfl ?_
    rintro _ _ _ ⟨b3_0, rfl, rfl, rfl⟩
    refine wl_act0 (act_store (cells := [_, _, _, _]) (cs' := [_, _, _, _]) rfl rfl rfl s0 (by rfl) (of_decide_eq_true rfl) sz53 ⟨rfl, rfl, rfl, rfl, trivial⟩) rfl rfl ?_
    rintro _ _ _ ⟨rfl, rfl⟩
    refine wl_nil ?_
    refine pn_then ?_
    refine wc_region ?_   -- region 4
    refine wl_det rfl rfl (det_assign rfl) rfl ?_
    refine wl_nil ?_
    refine pn_begin (ss s0) ?_
    refine wc_block ?_
    refine wc_seq ?_
    refine wc_seq ?_
    refine wc_region ?_   -- region 5
    refine wl_det rfl rfl (det_move rfl) rfl ?_
    obtain ⟨r5_1, hr5_1, h⟩ := bind_some h
    refine wl_act (act_callS (cap := []) (W_amount_Valid x8.2 r5_1 hr5_1) rfl rfl rfl bd37 rfl trivial) rfl rfl rfl ?_
    rintro _ _ _ ⟨_, _, ⟨rfl, rfl, rfl⟩, rfl, rfl⟩
    dsimp only [List.nil_append, List.cons_append]
    refine wl_det rfl rfl (det_not rfl) rfl ?_
    refine wl_nil ?_
    refine pn_then ?_
    refine wc_cond rfl (fun cd16 => ?_) (fun cd16 => ?_)
    · have h := ifT h cd16
      refine wc_seq ?_
      refine wc_region ?_   -- region 6
      refine wl_act0 (act_store (cells := [_]) (cs' := [_]) rfl rfl rfl (ss (ss s0)) (by rfl) (of_decide_eq_true rfl) sz29 ⟨rfl, trivial⟩) rfl rfl ?_
      rintro _ _ _ ⟨rfl, rfl⟩
      refine wl_act0 (act_store (cells := [_]) (cs' := [_]) rfl rfl rfl (ss (ss (ss s0))) (by rfl) (of_decide_eq_true rfl) sz31 ⟨rfl, trivial⟩) rfl rfl ?_
      rintro _ _ _ ⟨rfl, rfl⟩
      refine wl_nil ?_
      refine pn_then ?_
      refine wc_ret ?_
      refine pr_then ?_
      refine pr_block ?_
      replace h := Option.some.inj h
      subst h
      exact pn_roundR (ss s0) (fun _ h => ⟨rfl, _, _, _, ⟨rfl, rfl, rfl⟩, h.to ⟨_, (rs r0), ⟨_, (rs r0), ⟨_, (rs r0), trivial⟩⟩⟩ trivial⟩)
    · have h := ifF h cd16
      refine wc_skip ?_
      refine pn_then ?_
      refine wc_seq ?_
      refine wc_region ?_   -- region 7
      refine wl_det rfl rfl (det_move rfl) rfl ?_
      refine wl_det rfl rfl (det_neq rfl rfl) rfl ?_
      refine wl_nil ?_
      refine pn_then ?_
      refine wc_cond rfl (fun cd21 => ?_) (fun cd21 => ?_)
      · have h := ifT h cd21
        refine wc_region ?_   -- region 8
        refine wl_det rfl rfl (det_load rfl (ms (ms (ms (ms m0)))) (by rfl) na29 us29) rfl ?_
        refine wl_det rfl rfl (det_field rfl fd53_0 rfl) rfl ?_
        refine wl_det rfl rfl (det_load rfl m0 (by rfl) na3 us3) rfl ?_
        refine wl_det rfl rfl (det_field rfl fd53_1 rfl) rfl ?_
        refine wl_det rfl rfl (det_load rfl m0 (by rfl) na3 us3) rfl ?_
        refine wl_det rfl rfl (det_field rfl fd53_2 rfl) rfl ?_
        refine wl_det rfl rfl (det_load rfl m0 (by rfl) na3 us3) rfl ?_
        refine wl_det rfl rfl (det_field rfl fd53_3 rfl) rfl ?_
        refine wl_det rfl rfl (det_load rfl m0 (by rfl) na3 us3) rfl ?_
        refine wl_det rfl rfl (det_move rfl) rfl ?_
        refine wl_det rfl rfl (det_build (cs := [_, _, _, _, _]) pl43 zr43 rfl rfl (by rfl)) rfl ?_
        refine wl_act (act_litS lGEntry (vs := [_]) (cs := [_, _, _, _, _]) [(GEntry.mk x8.1.kind x8.1.treaty x8.1.party x8.1.loss x8.2)] un29 in43 rfl rfl rfl rfl rfl ⟨rfl, trivial⟩ (by rfl) rfl (litR_flat rfl)) rfl rfl rfl ?_
        rintro _ _ _ ⟨A8_11, rfl, rfl, rfl⟩
        obtain ⟨k8_12, h⟩ := chk_some h
        refine wl_act (act_appendS (L := lGEntry) rfl rfl (ss (ss (ss (ss (ss (ss s0)))))) (src_O m0) un29 in43 rfl rfl rfl k8_12) rfl rfl rfl ?_
        rintro _ _ _ ⟨A8_12, c8_12, rfl, rfl, rfl⟩
        refine wl_act0 (act_store (cells := [_]) (cs' := [_]) rfl rfl rfl (ss (ss (ss (ss (ss s0))))) (by rfl) (of_decide_eq_true rfl) sz29 ⟨rfl, trivial⟩) rfl rfl ?_
        rintro _ _ _ ⟨rfl, rfl⟩
        refine wl_nil ?_
        refine pn_block ?_
        replace h := Option.some.inj h
        subst h
        exact pn_roundN (ss (ss s0)) (fun _ h => ⟨rfl, _, _, ⟨A8_12, (s8 ++ [(GEntry.mk x8.1.kind x8.1.treaty x8.1.party x8.1.loss x8.2)]).length, c8_12, rfl, rfl⟩, h.to ⟨_, (rs (rs r0)), ⟨_, (rs (rs r0)), ⟨_, (rs (rs r0)), ⟨_, (rs (rs r0)), ⟨_, (rs (rs r0)), trivial⟩⟩⟩⟩⟩ trivial⟩)
      · have h := ifF h cd21
        refine wc_skip ?_
        refine pn_block ?_
        replace h := Option.some.inj h
        subst h
        exact pn_roundN (ss s0) (fun _ h => ⟨rfl, _, _, ⟨A8_0, s8.length, c8_0, rfl, rfl⟩, h.to ⟨_, (rs r0), ⟨_, (rs r0), ⟨_, (rs r0), ⟨_, (rs r0), ⟨_, (rs r0), trivial⟩⟩⟩⟩⟩ trivial⟩)
  · rintro m8_ s8 _ _ rfl ⟨A8_0, n8_0, c8_0, rfl, rfl⟩
    have h := elimL h
    dsimp only [List.cons_append, List.nil_append]
    refine pn_know (fun _ h => h.lenO (ms (ms (ms m0)))) (fun e => ?_)
    subst e
    refine pn_block ?_
    refine pn_then ?_
    refine wc_seq ?_
    refine wc_region ?_   -- region 9
    refine wl_det rfl rfl (det_load rfl (ms (ms m0)) (by rfl) na29 us29) rfl ?_
    refine wl_act0 (act_store (cells := [_]) (cs' := [_]) rfl rfl rfl s0 (by rfl) (of_decide_eq_true rfl) sz29 ⟨rfl, trivial⟩) rfl rfl ?_
    rintro _ _ _ ⟨rfl, rfl⟩
    refine wl_act0 (act_store (cells := [_]) (cs' := [_]) rfl rfl rfl (ss s0) (by rfl) (of_decide_eq_true rfl) sz31 ⟨rfl, trivial⟩) rfl rfl ?_
    rintro _ _ _ ⟨rfl, rfl⟩
    refine wl_nil ?_
    refine pn_then ?_
    refine wc_ret ?_
    refine pn_retM (rs (rs (rs (rs (rs r0))))) ?_
    replace h := Option.some.inj h
    subst h
    refine pn_ret (vs := [_, _]) rfl ⟨⟨_, _, [_], rfl, m0, .inr ⟨na29, us29, rfl⟩⟩, ⟨_, _, [_], rfl, (ms m0), .inr ⟨na31, us31, rfl⟩⟩, trivial⟩ ⟨A8_0, s8.length, c8_0, rfl, rfl, rfl⟩ (fun _ h => h.to ⟨_, (rs (rs (rs r0))), trivial⟩ trivial)
  · rintro m8_ s8x c _ _ rfl ⟨rfl, rfl, rfl⟩
    have h := elimR h
    dsimp only [List.cons_append, List.nil_append]
    refine wc_ret ?_
    refine pr_block ?_
    refine pr_then ?_
    refine pn_retM (rs (rs (rs r0))) ?_
    refine pn_st (fun _ h => h.zeroS lGEntry 43 none) ?_
    replace h := Option.some.inj h
    subst h
    refine pn_ret (vs := [_, _]) rfl ⟨⟨_, _, [_], rfl, (ms m0), .inr ⟨na29, us29, rfl⟩⟩, ⟨_, _, [_], rfl, (ms (ms m0)), .inr ⟨na31, us31, rfl⟩⟩, trivial⟩ ⟨none, 0, 0, rfl, rfl, rfl⟩ (fun _ h => h.to ⟨_, r0, trivial⟩ trivial)
def Q_commute_Redirect (r : (List GEntry) × Int) : Value → List Ent → List Fact → Prop := fun v θ κ => ∃ (pA0 : Option Addr), ∃ (pn0 : Nat), ∃ (pc0 : Nat), v = .tuple #[.slice pA0 pn0 pc0, .int .i64 r.2] ∧ θ = [eS lGEntry 43 pA0 pn0 pc0 r.1] ∧ κ = []
theorem plains_commute_Redirect {r : (List GEntry) × Int} : ∀ v θ κ, Q_commute_Redirect r v θ κ → Plains θ := by
  rintro _ _ _ ⟨_, _, _, rfl, rfl, rfl⟩
  exact ⟨plain_eS, trivial⟩
set_option maxHeartbeats 4000000 in
set_option maxRecDepth 100000 in
theorem W_commute_Redirect (a0 : GLedger) (a1 : (List GEntry)) (a2 : Int) (a3 : Int) (A0 : Option Addr) (n0 : Nat) (c0 : Nat) (A3 : Option Addr) (n3 : Nat) (c3 : Nat) (r : (List GEntry) × Int) (h : commute_Redirect a0 a1 a2 a3 = some r) : Spec Try.prog 9 [.agg #[.int .i64 a0.Closed, .slice A0 n0 c0], .slice A3 n3 c3, .int .i64 a2, .int .i64 a3] [] [fV (lSlice lGPosting) (.slice A0 n0 c0) a0.Postings, fV (lSlice lGEntry) (.slice A3 n3 c3) a1] (Q_commute_Redirect r) := by
  unfold commute_Redirect at h
  refine spec_of (σ := [(0, _), (1, _), (2, _), (3, _)]) Try.func9 rfl rfl rfl rfl ?_
  intro C
  refine wc_know (fun _ h => h.lenF m0) (fun e => ?_)
  subst e
  refine wc_know (fun _ h => h.lenF (ms m0)) (fun e => ?_)
  subst e
  refine wc_seq ?_
  refine wc_region ?_   -- region 0
  refine wl_act (act_box (cs := [_, _]) rfl rfl) rfl rfl rfl ?_
  rintro _ _ _ ⟨b0_0, rfl, rfl, rfl⟩
  refine wl_det rfl rfl (det_assign rfl) rfl ?_
  refine wl_det rfl rfl (det_assign rfl) rfl ?_
  refine wl_nil ?_
  refine pn_then ?_
  refine wc_seq ?_
  refine wc_seq ?_
  refine wc_region ?_   -- region 1
  refine wl_det rfl rfl (det_loadN (cells := [_, _]) rfl m0 (by rfl) ag25 sz25) rfl ?_
  obtain ⟨r1_1, hr1_1, h⟩ := bind_some h
  refine wl_act (act_callS (cap := []) (W_ledger_Validate a0 A0 a0.Postings.length c0 r1_1 hr1_1) rfl rfl rfl bd21 rfl ⟨m0, trivial⟩) rfl rfl rfl ?_
  rintro _ _ _ ⟨_, _, ⟨rfl, rfl, rfl⟩, rfl, rfl⟩
  dsimp only [List.nil_append, List.cons_append]
  refine wl_det rfl rfl (det_assign rfl) rfl ?_
  refine wl_nil ?_
  refine pn_then ?_
  refine wc_seq ?_
  refine wc_region ?_   -- region 2
  refine wl_det rfl rfl (det_move rfl) rfl ?_
  refine wl_det rfl rfl (det_neq rfl rfl) rfl ?_
  refine wl_nil ?_
  refine pn_then ?_
  refine wc_cond rfl (fun cd7 => ?_) (fun cd7 => ?_)
  · have h := ifT h cd7
    refine wc_seq ?_
    refine wc_region ?_   -- region 3
    refine wl_det rfl rfl (det_move rfl) rfl ?_
    refine wl_det rfl rfl (det_assign rfl) rfl ?_
    refine wl_det rfl rfl (det_assign rfl) rfl ?_
    refine wl_nil ?_
    refine pn_then ?_
    refine wc_ret ?_
    refine pr_then ?_
    refine pn_st (fun _ h => h.zeroS lGEntry 43 none) ?_
    replace h := Option.some.inj h
    subst h
    refine pn_ret (vs := [_, _]) rfl ⟨rfl, rfl, trivial⟩ ⟨none, 0, 0, rfl, rfl, rfl⟩ (fun _ h => h.to ⟨_, r0, trivial⟩ trivial)
  · have h := ifF h cd7
    refine wc_skip ?_
    refine pn_then ?_
    refine wc_seq ?_
    refine wc_region ?_   -- region 4
    refine wl_det rfl rfl (det_move rfl) rfl ?_
    obtain ⟨r4_1, hr4_1, h⟩ := bind_some h
    refine wl_act (act_callS (cap := []) (W_ledger_Collect a1 A3 a1.length c3 r4_1 hr4_1) rfl rfl rfl bd22 rfl ⟨(ms m0), trivial⟩) rfl rfl rfl ?_
    rintro _ _ _ ⟨_, _, ⟨y4_1A0, y4_1n0, y4_1c0, rfl, rfl, rfl⟩, rfl, rfl⟩
    dsimp only [List.nil_append, List.cons_append]
    refine wl_know (fun _ h => h.lenO m0) (fun e => ?_)
    subst e
    refine wl_det rfl rfl (det_move rfl) rfl ?_
    refine wl_det rfl rfl (det_extract rfl rfl) rfl ?_
    refine wl_det rfl rfl (det_extract rfl rfl) rfl ?_
    refine wl_det rfl rfl (det_assign rfl) rfl ?_
    refine wl_det rfl rfl (det_assign rfl) rfl ?_
    refine wl_nil ?_
    refine pn_then ?_
    refine wc_seq ?_
    refine wc_seq ?_
    refine wc_region ?_   -- region 5
    refine wl_det rfl rfl (det_move rfl) rfl ?_
    refine wl_det rfl rfl (det_neq rfl rfl) rfl ?_
    refine wl_nil ?_
    refine pn_then ?_
    refine wc_cond rfl (fun cd15 => ?_) (fun cd15 => ?_)
    · have h := ifT h cd15
      refine wc_seq ?_
      refine wc_region ?_   -- region 6
      refine wl_det rfl rfl (det_move rfl) rfl ?_
      refine wl_det rfl rfl (det_assign rfl) rfl ?_
      refine wl_det rfl rfl (det_assign rfl) rfl ?_
      refine wl_nil ?_
      refine pn_then ?_
      refine wc_ret ?_
      refine pr_then ?_
      refine pn_st (fun _ h => h.zeroS lGEntry 43 none) ?_
      replace h := Option.some.inj h
      subst h
      refine pn_ret (vs := [_, _]) rfl ⟨rfl, rfl, trivial⟩ ⟨none, 0, 0, rfl, rfl, rfl⟩ (fun _ h => h.to ⟨_, r0, trivial⟩ trivial)
    · have h := ifF h cd15
      refine wc_skip ?_
      refine pn_then ?_
      refine wc_seq ?_
      refine wc_seq ?_
      refine wc_region ?_   -- region 7
      refine wl_det rfl rfl (det_move rfl) rfl ?_
      refine wl_det rfl rfl (det_lss rfl rfl) rfl ?_
      refine wl_det rfl rfl (det_move rfl) rfl ?_
      refine wl_way (decide (a2 < 1)) ((decide (a2 < 1)) || (decide (1048576 < a2))) 3 38 (fun hg => ?_) (fun hg => ?_) ?_
      · have hg7_5 := hg
        refine wl_off rfl rfl rfl rfl rfl hg7_5 rfl ?_
        refine wl_off rfl rfl rfl rfl rfl hg7_5 rfl ?_
        refine wl_det rfl rfl (det_or_on (r := (decide (1048576 < a2))) rfl rfl rfl hg7_5) rfl ?_
        exact wl_nil (pn_qnE (ext_cons rfl (ext_skip rfl (ext_skip rfl (ext_skip rfl ext_refl)))) (fun _ h => h))
      · have hg7_5a := hg
        refine wl_on rfl rfl rfl rfl hg7_5a ?_
        refine wl_det rfl rfl (det_move rfl) rfl ?_
        refine wl_on rfl rfl rfl rfl hg7_5a ?_
        refine wl_det rfl rfl (det_gtr rfl rfl) rfl ?_
        refine wl_det rfl rfl (det_or_off rfl rfl rfl hg7_5a) rfl ?_
        exact wl_nil (pn_qnE (ext_cons rfl (ext_skip rfl (ext_skip rfl (ext_skip rfl ext_refl)))) (fun _ h => h))
      refine wl_det rfl rfl (det_move rfl) rfl ?_
      refine wl_way ((decide (a2 < 1)) || (decide (1048576 < a2))) (((decide (a2 < 1)) || (decide (1048576 < a2))) || (decide (a3 < 1))) 3 42 (fun hg => ?_) (fun hg => ?_) ?_
      · have hg7_9 := hg
        refine wl_off rfl rfl rfl rfl rfl hg7_9 rfl ?_
        refine wl_off rfl rfl rfl rfl rfl hg7_9 rfl ?_
        refine wl_det rfl rfl (det_or_on (r := (decide (a3 < 1))) rfl rfl rfl hg7_9) rfl ?_
        exact wl_nil (pn_qnE (ext_cons rfl (ext_skip rfl (ext_skip rfl (ext_skip rfl ext_refl)))) (fun _ h => h))
      · have hg7_9a := hg
        refine wl_on rfl rfl rfl rfl hg7_9a ?_
        refine wl_det rfl rfl (det_move rfl) rfl ?_
        refine wl_on rfl rfl rfl rfl hg7_9a ?_
        refine wl_det rfl rfl (det_lss rfl rfl) rfl ?_
        refine wl_det rfl rfl (det_or_off rfl rfl rfl hg7_9a) rfl ?_
        exact wl_nil (pn_qnE (ext_cons rfl (ext_skip rfl (ext_skip rfl (ext_skip rfl ext_refl)))) (fun _ h => h))
      refine wl_det rfl rfl (det_move rfl) rfl ?_
      refine wl_way (((decide (a2 < 1)) || (decide (1048576 < a2))) || (decide (a3 < 1))) ((((decide (a2 < 1)) || (decide (1048576 < a2))) || (decide (a3 < 1))) || (decide (15 < a3))) 3 46 (fun hg => ?_) (fun hg => ?_) ?_
      · have hg7_13 := hg
        refine wl_off rfl rfl rfl rfl rfl hg7_13 rfl ?_
        refine wl_off rfl rfl rfl rfl rfl hg7_13 rfl ?_
        refine wl_det rfl rfl (det_or_on (r := (decide (15 < a3))) rfl rfl rfl hg7_13) rfl ?_
        exact wl_nil (pn_qnE (ext_cons rfl (ext_skip rfl (ext_skip rfl (ext_skip rfl ext_refl)))) (fun _ h => h))
      · have hg7_13a := hg
        refine wl_on rfl rfl rfl rfl hg7_13a ?_
        refine wl_det rfl rfl (det_move rfl) rfl ?_
        refine wl_on rfl rfl rfl rfl hg7_13a ?_
        refine wl_det rfl rfl (det_gtr rfl rfl) rfl ?_
        refine wl_det rfl rfl (det_or_off rfl rfl rfl hg7_13a) rfl ?_
        exact wl_nil (pn_qnE (ext_cons rfl (ext_skip rfl (ext_skip rfl (ext_skip rfl ext_refl)))) (fun _ h => h))
      refine wl_nil ?_
      refine pn_then ?_
      refine wc_cond rfl (fun cd21 => ?_) (fun cd21 => ?_)
      · have h := ifT h cd21
        refine wc_seq ?_
        refine wc_region ?_   -- region 8
        refine wl_det rfl rfl (det_assign rfl) rfl ?_
        refine wl_det rfl rfl (det_assign rfl) rfl ?_
        refine wl_nil ?_
        refine pn_then ?_
        refine wc_ret ?_
        refine pr_then ?_
        refine pn_st (fun _ h => h.zeroS lGEntry 43 none) ?_
        replace h := Option.some.inj h
        subst h
        refine pn_ret (vs := [_, _]) rfl ⟨rfl, rfl, trivial⟩ ⟨none, 0, 0, rfl, rfl, rfl⟩ (fun _ h => h.to ⟨_, r0, trivial⟩ trivial)
      · have h := ifF h cd21
        refine wc_skip ?_
        refine pn_then ?_
        refine wc_seq ?_
        refine wc_region ?_   -- region 9
        refine wl_det rfl rfl (det_loadN (cells := [_, _]) rfl (ms m0) (by rfl) ag25 sz25) rfl ?_
        refine wl_det rfl rfl (det_field rfl fd25_0 rfl) rfl ?_
        refine wl_det rfl rfl (det_load rfl (ms m0) (by rfl) na3 us3) rfl ?_
        refine wl_det rfl rfl (det_add rfl rfl) rfl ?_
        obtain ⟨r9_4, hr9_4, h⟩ := bind_some h
        refine wl_act (act_callS (cap := []) (W_ledger_Totals a0 (w64 (a0.Closed + 1)) A0 a0.Postings.length c0 r9_4 hr9_4) rfl rfl rfl bd14 rfl ⟨m0, trivial⟩) rfl rfl rfl ?_
        rintro _ _ _ ⟨_, _, ⟨y9_4A0, y9_4n0, y9_4c0, rfl, rfl, rfl⟩, rfl, rfl⟩
        dsimp only [List.nil_append, List.cons_append]
        refine wl_know (fun _ h => h.lenO m0) (fun e => ?_)
        subst e
        refine wl_det rfl rfl (det_move rfl) rfl ?_
        refine wl_det rfl rfl (det_extract rfl rfl) rfl ?_
        refine wl_det rfl rfl (det_extract rfl rfl) rfl ?_
        refine wl_det rfl rfl (det_assign rfl) rfl ?_
        refine wl_det rfl rfl (det_assign rfl) rfl ?_
        refine wl_nil ?_
        refine pn_then ?_
        refine wc_seq ?_
        refine wc_seq ?_
        refine wc_region ?_   -- region 10
        refine wl_det rfl rfl (det_move rfl) rfl ?_
        refine wl_det rfl rfl (det_neq rfl rfl) rfl ?_
        refine wl_nil ?_
        refine pn_then ?_
        refine wc_cond rfl (fun cd29 => ?_) (fun cd29 => ?_)
        · have h := ifT h cd29
          refine wc_seq ?_
          refine wc_region ?_   -- region 11
          refine wl_det rfl rfl (det_move rfl) rfl ?_
          refine wl_det rfl rfl (det_assign rfl) rfl ?_
          refine wl_det rfl rfl (det_assign rfl) rfl ?_
          refine wl_nil ?_
          refine pn_then ?_
          refine wc_ret ?_
          refine pr_then ?_
          refine pn_st (fun _ h => h.zeroS lGEntry 43 none) ?_
          replace h := Option.some.inj h
          subst h
          refine pn_ret (vs := [_, _]) rfl ⟨rfl, rfl, trivial⟩ ⟨none, 0, 0, rfl, rfl, rfl⟩ (fun _ h => h.to ⟨_, r0, trivial⟩ trivial)
        · have h := ifF h cd29
          refine wc_skip ?_
          refine pn_then ?_
          refine wc_seq ?_
          refine wc_region ?_   -- region 12
          refine wl_act (act_makeMap encKGheading encKI) rfl rfl rfl ?_
          rintro _ _ _ ⟨b12_0, rfl, rfl, rfl⟩
          refine wl_act (act_alloc (cs := [_]) zr51 rfl) rfl rfl rfl ?_
          rintro _ _ _ ⟨b12_1, rfl, rfl, rfl⟩
          refine wl_act0 (act_store (cells := [_]) (cs' := [_]) rfl rfl rfl s0 (by rfl) (of_decide_eq_true rfl) sz51 ⟨rfl, trivial⟩) rfl rfl ?_
          rintro _ _ _ ⟨rfl, rfl⟩
          refine wl_nil ?_
          refine pn_then ?_
          obtain ⟨q34, h, ho34⟩ := bind_some h
          refine wc_meetG (G := (List (Gheading × Int)) × Unit) (fun (s34, _) => s34 = q34) (fun (_, _) => [(2, .int .i64 a2), (3, .int .i64 a3), (11, .slice y4_1A0 r4_1.1.length y4_1c0), (13, .slice y9_4A0 r9_4.1.length y9_4c0), (14, .pointer (some ⟨b12_1, 0, none⟩))]) (fun (s34, _) => [eS lGEntry 43 y4_1A0 r4_1.1.length y4_1c0 r4_1.1, eS lGEntry 43 y9_4A0 r9_4.1.length y9_4c0 r9_4.1, eBlk b12_1 51 [.map (some b12_0)], eM encKGheading encKI b12_0 s34]) (fun (_, _) => []) ?_ ?_
          · refine wc_seq ?_
            refine wc_region ?_   -- region 13
            refine wl_det rfl rfl (det_move rfl) rfl ?_
            refine wl_det rfl rfl (det_len rfl un29) rfl ?_
            refine wl_det rfl rfl (det_move rfl) rfl ?_
            refine wl_nil ?_
            refine pn_then ?_
            refine wc_block ?_
            obtain ⟨k38, hk38⟩ := loopV_some.1 h
            refine wc_loop (G := Nat × ((List (Gheading × Int)) × Int) × Unit) (fun g => IterN (commute_Redirect_l38 r4_1) g.1 g.2.1 q34) (fun g => g.1) (fun (_, s38, _) => [(2, .int .i64 a2), (3, .int .i64 a3), (11, .slice y4_1A0 r4_1.1.length y4_1c0), (13, .slice y9_4A0 r9_4.1.length y9_4c0), (14, .pointer (some ⟨b12_1, 0, none⟩)), (59, .slice y4_1A0 r4_1.1.length y4_1c0), (60, .int .i64 (r4_1.1.length : Int)), (61, .int .i64 s38.2)]) (fun (_, s38, _) => [eS lGEntry 43 y4_1A0 r4_1.1.length y4_1c0 r4_1.1, eS lGEntry 43 y9_4A0 r9_4.1.length y9_4c0 r9_4.1, eBlk b12_1 51 [.map (some b12_0)], eM encKGheading encKI b12_0 s38.1]) (fun (_, _, _) => []) (k38, ([], 0), ()) hk38 ⟨rfl, rfl, rfl, rfl, rfl, rfl, rfl, rfl, trivial⟩ (fun _ h => h.to ⟨_, (rs (rs (rs r0))), ⟨_, (rs (rs r0)), ⟨_, r0, ⟨_, r0, trivial⟩⟩⟩⟩ trivial) ?_
            rintro ⟨k38, s38, _⟩ hI
            obtain ⟨k38, rfl, q38, h, g38⟩ := IterN.pos hI
            dsimp only at h ⊢
            unfold commute_Redirect_l38 at h
            refine wc_seq ?_
            refine wc_region ?_   -- region 14
            refine wl_det rfl rfl (det_lss rfl rfl) rfl ?_
            refine wl_nil ?_
            refine pn_then ?_
            refine wc_seq ?_
            refine wc_cond rfl (fun cd42 => ?_) (fun cd42 => ?_)
            · have h := ifT h cd42
              refine wc_skip ?_
              refine pn_then ?_
              refine wc_seq ?_
              refine wc_block ?_
              refine wc_seq ?_
              refine wc_region ?_   -- region 15
              obtain ⟨k15_0, h⟩ := chk_some h
              refine wl_det rfl rfl (det_indexO rfl rfl m0 k15_0 un29 sz43) rfl ?_
              refine wl_det rfl rfl (det_loadO (off := 0) rfl m0 k15_0 (by rfl) (by rfl) (loaded_n (cells := [_, _, _, _, _]) ag43 sz43)) rfl ?_
              refine wl_act (act_alloc (cs := [_, _, _, _, _]) zr43 rfl) rfl rfl rfl ?_
              rintro _ _ _ ⟨b15_2, rfl, rfl, rfl⟩
              refine wl_act0 (act_store (cells := [_, _, _, _, _]) (cs' := [_, _, _, _, _]) rfl rfl rfl s0 (by rfl) (of_decide_eq_true rfl) sz43 ⟨rfl, rfl, rfl, rfl, rfl, trivial⟩) rfl rfl ?_
              rintro _ _ _ ⟨rfl, rfl⟩
              refine wl_nil ?_
              refine pn_then ?_
              refine dx_region 5 [[], [], [1], [], [3], [0, 1, 2, 3, 4]] mixed (ord := (.det 0 (.det 1 (.det 3 (.det 4 (.alt 2 .done .dead)))))) (by kernel_rfl) ?_   -- region 16
              refine hx_det rfl rfl rfl nofun (det_load rfl (ms (ms (ms m0))) (by rfl) na51 us51) rfl ?_
              refine hx_det rfl rfl rfl nofun (det_loadN (cells := [_, _, _, _, _]) rfl m0 (by rfl) ag43 sz43) rfl ?_
              refine hx_det rfl rfl rfl nofun (det_field rfl fd43_4 rfl) rfl ?_
              refine hx_det rfl rfl rfl nofun (det_load rfl m0 (by rfl) na3 us3) rfl ?_
              obtain ⟨r16_2, hr16_2, h⟩ := bind_some h
              refine hx_act rfl rfl rfl (act_callS (cap := []) (W_commute_headingOf (ix r4_1.1 s38.2) r16_2 hr16_2) rfl rfl rfl bd23 rfl trivial) rfl (by rintro _ _ _ ⟨_, _, _, rfl, rfl⟩; first | exact ⟨_, _, rfl, rfl⟩ | exact ⟨_, [], rfl, rfl⟩) ?_
              rintro _ _ _ ⟨_, _, ⟨rfl, rfl, rfl⟩, rfl, rfl⟩
              dsimp only [List.nil_append, List.cons_append]
              refine hx_end ?_
              refine wl_act0 (act_mapUpdate (k := r16_2) (v := (ix r4_1.1 s38.2).Amount) rfl rfl rfl rfl rfl (ss (ss (ss (ss s0)))) ko53 um51) rfl rfl ?_
              rintro _ _ _ ⟨rfl, rfl⟩
              refine wl_nil ?_
              refine pn_block ?_
              refine pn_then ?_
              refine wc_region ?_   -- region 17
              refine wl_det rfl rfl (det_add rfl rfl) rfl ?_
              refine wl_det rfl rfl (det_move rfl) rfl ?_
              refine wl_nil ?_
              replace h := Option.some.inj h
              subst h
              exact pn_some (k38, ((mset s38.1 r16_2 (ix r4_1.1 s38.2).Amount), (w64 (s38.2 + 1))), ()) ⟨nextL g38, Nat.lt_succ_self _⟩ ⟨rfl, rfl, rfl, rfl, rfl, rfl, rfl, rfl, trivial⟩ (fun _ h => h.to ⟨_, (rs r0), ⟨_, (rs r0), ⟨_, (rs r0), ⟨_, (rs r0), trivial⟩⟩⟩⟩ trivial)
            · have h := ifF h cd42
              refine wc_exit ?_
              refine px_then ?_
              refine px_then ?_
              refine px_block ?_
              replace h := Option.some.inj h
              subst h
              replace g38 := nextR g38
              subst g38
              exact pn_meetG (s38.1, ()) rfl ⟨rfl, rfl, rfl, rfl, rfl, trivial⟩ (fun _ h => h.to ⟨_, r0, ⟨_, r0, ⟨_, r0, ⟨_, r0, trivial⟩⟩⟩⟩ trivial)
          rintro ⟨s34, _⟩ e34
          dsimp only at e34 ⊢
          subst e34
          have h := ho34
          refine wc_seq ?_
          refine wc_seq ?_
          refine wc_region ?_   -- region 18
          refine wl_det rfl rfl (det_move rfl) rfl ?_
          refine wl_det rfl rfl (det_move rfl) rfl ?_
          refine wl_det rfl rfl (det_move rfl) rfl ?_
          refine wl_det rfl rfl (det_move rfl) rfl ?_
          obtain ⟨r18_4, hr18_4, h⟩ := bind_some h
          refine wl_act (act_callL (cap := []) [eS lGEntry 43 y4_1A0 r4_1.1.length y4_1c0 r4_1.1, eS lGEntry 43 y9_4A0 r9_4.1.length y9_4c0 r9_4.1] (W_commute_frozen r4_1.1 r9_4.1 a2 a3 y4_1A0 r4_1.1.length y4_1c0 y9_4A0 r9_4.1.length y9_4c0 r18_4 hr18_4) plains_commute_frozen rfl rfl rfl bd25 rfl ⟨m0, ⟨(ms m0), trivial⟩⟩ ⟨.inr ⟨_, m0, lent_eS⟩, ⟨.inr ⟨_, (ms m0), lent_eS⟩, trivial⟩⟩) rfl rfl rfl ?_
          rintro _ _ _ ⟨_, _, ⟨y18_4m0, rfl, rfl, rfl⟩, rfl, rfl⟩
          dsimp only [List.nil_append, List.cons_append]
          refine wl_st (fun _ h => h.shutM r0) ?_
          obtain ⟨r18_5, hr18_5, h⟩ := bind_some h
          refine wl_act (act_callS (cap := []) (W_commute_inOrder r18_4 y18_4m0 r18_5 hr18_5) rfl rfl rfl bd24 rfl ⟨m0, trivial⟩) rfl rfl rfl ?_
          rintro _ _ _ ⟨_, _, ⟨y18_5b0, y18_5m1, rfl, rfl, rfl⟩, rfl, rfl⟩
          dsimp only [List.nil_append, List.cons_append]
          refine wl_nil ?_
          refine pn_then ?_
          refine wc_block ?_
          obtain ⟨q54, hq54, h⟩ := bind_some h
          refine wc_rangeFunc (ηr := []) (W_commute_inOrder_c1 r18_5 y18_5b0 y18_5m1) rfl bd40 (fun _ => rfl) rfl (AllIn.all ⟨m0, trivial⟩) commute_Redirect_l54 (fun s54 θ κ => θ = [eBlk b12_1 51 [.map (some b12_0)], eM encKGheading encKI b12_0 s54] ∧ κ = []) (fun o _ _ _ => Empty.elim o) s34 q54 hq54 ⟨rfl, rfl⟩ (fun _ h => h.to ⟨_, (rs (rs (rs r0))), ⟨_, (rs (rs (rs r0))), ⟨_, r0, trivial⟩⟩⟩ allIn_self) (AllIn.all trivial) ?_ ?_ (fun _ o => Empty.elim o)
          · rintro C l54_ L54_ ⟨x54, ⟨⟩⟩ s54 r _ _ h ⟨rfl, rfl⟩
            unfold commute_Redirect_l54 at h
            dsimp only [zipσ, enc_commute_inOrder_c1, fx_commute_inOrder_c1, List.cons_append, List.nil_append] at h ⊢
            refine wc_seq ?_
            refine wc_region ?_   -- region 19
            refine wl_act (act_alloc (cs := [_, _, _, _]) zr53 rfl) rfl rfl rfl ?_
            rintro _ _ _ ⟨b19_0, rfl, rfl, rfl⟩
            refine wl_act0 (act_store (cells := [_, _, _, _]) (cs' := [_, _, _, _]) rfl rfl rfl s0 (by rfl) (of_decide_eq_true rfl) sz53 ⟨rfl, rfl, rfl, rfl, trivial⟩) rfl rfl ?_
            rintro _ _ _ ⟨rfl, rfl⟩
            refine wl_nil ?_
            refine pn_then ?_
            refine wc_region ?_   -- region 20
            refine wl_det rfl rfl (det_assign rfl) rfl ?_
            refine wl_nil ?_
            refine pn_begin (ss s0) ?_
            refine wc_block ?_
            refine wc_seq ?_
            refine wc_region ?_   -- region 21
            refine wl_det rfl rfl (det_loadN (cells := [_, _, _, _]) rfl m0 (by rfl) ag53 sz53) rfl ?_
            refine wl_act (act_alloc (cs := [_, _, _, _]) zr53 rfl) rfl rfl rfl ?_
            rintro _ _ _ ⟨b21_1, rfl, rfl, rfl⟩
            refine wl_act0 (act_store (cells := [_, _, _, _]) (cs' := [_, _, _, _]) rfl rfl rfl s0 (by rfl) (of_decide_eq_true rfl) sz53 ⟨rfl, rfl, rfl, rfl, trivial⟩) rfl rfl ?_
            rintro _ _ _ ⟨rfl, rfl⟩
            refine wl_nil ?_
            refine pn_then ?_
            refine wc_seq ?_
            refine wc_region ?_   -- region 22
            refine wl_det rfl rfl (det_field rfl fd53_2 rfl) rfl ?_
            refine wl_act0 (act_store (cells := [_]) (cs' := [_, _, _, _]) rfl rfl rfl s0 (by rfl) (of_decide_eq_true rfl) sz3 ⟨rfl, trivial⟩) rfl rfl ?_
            rintro _ _ _ ⟨rfl, rfl⟩
            refine wl_nil ?_
            refine pn_then ?_
            refine wc_seq ?_
            refine dx_regionZ (Z := St C [_, _, _, _, _] []) 11 [[], [], [0, 1], [], [], [3, 4], [], [3, 4, 5, 6], [0, 1, 2, 3, 4, 5, 6, 7], [0, 1, 3, 4, 5, 6, 7], [0, 1, 3, 4, 5, 6, 7, 9], [0, 1, 2, 3, 4, 5, 6, 7, 8, 9, 10]] mixed (ord := (.det 0 (.det 1 (.det 2 (.det 3 (.det 4 (.det 5 (.det 6 (.det 7 (.det 8 (.alt 9 (.det 10 .done) .dead))))))))))) (by kernel_rfl) (fun _ h => (h.weakM (0 : Int) (ss (ss (ss (ss s0))))).to ⟨_, r0, ⟨_, r0, ⟨_, r0, ⟨_, r0, ⟨_, r0, trivial⟩⟩⟩⟩⟩ trivial) ?_   -- region 23
            refine hx_det rfl rfl rfl nofun (det_load rfl (ms (ms (ms m0))) (by rfl) na51 us51) rfl ?_
            refine hx_det rfl rfl rfl nofun (det_loadN (cells := [_, _, _, _]) rfl m0 (by rfl) ag53 sz53) rfl ?_
            refine hx_det rfl rfl rfl nofun (det_lookupW (k := (Gheading.mk x54.1.kind x54.1.treaty 0 x54.1.loss)) (z := (0 : Int)) (vr := .int .i64 (mget s54 (Gheading.mk x54.1.kind x54.1.treaty 0 x54.1.loss) (0 : Int))) rfl rfl rfl (ms (ms (ms (ms m0)))) ko53 um51 zr3 rfl) rfl ?_
            refine hx_det rfl rfl rfl nofun (det_load rfl (ms (ms (ms m0))) (by rfl) na51 us51) rfl ?_
            refine hx_det rfl rfl rfl nofun (det_loadN (cells := [_, _, _, _]) rfl (ms m0) (by rfl) ag53 sz53) rfl ?_
            refine hx_det rfl rfl rfl nofun (det_lookupW (k := x54.1) (z := (0 : Int)) (vr := .int .i64 (mget s54 x54.1 (0 : Int))) rfl rfl rfl (ms (ms (ms (ms m0)))) ko53 um51 zr3 rfl) rfl ?_
            refine hx_det rfl rfl rfl nofun (det_move rfl) rfl ?_
            refine hx_det rfl rfl rfl nofun (det_sub rfl rfl) rfl ?_
            refine hx_det rfl rfl rfl nofun (det_add rfl rfl) rfl ?_
            refine hx_mut rfl rfl rfl (act_mapEntry (k := (Gheading.mk x54.1.kind x54.1.treaty 0 x54.1.loss)) (z := (0 : Int)) rfl rfl rfl (ss (ss (ss (ss s0)))) ko53 um51 zr3) rfl (by rintro _ _ _ ⟨n23_9, rfl, rfl, rfl⟩ w hs; exact (hs.weakP (ss (ss (ss (ss s0))))).to ⟨_, r0, ⟨_, r0, ⟨_, r0, ⟨_, r0, ⟨_, r0, trivial⟩⟩⟩⟩⟩ trivial) ?_
            rintro _ _ _ ⟨n23_9, rfl, rfl, rfl⟩
            refine hx_det rfl rfl rfl nofun (det_extract rfl rfl) rfl ?_
            refine hx_end ?_
            refine wl_act0 (act_entryStore (v := (w64 ((mget s54 (Gheading.mk x54.1.kind x54.1.treaty 0 x54.1.loss) (0 : Int)) + (w64 ((mget s54 x54.1 (0 : Int)) - x54.2))))) rfl rfl rfl rfl (ss (ss (ss (ss s0))))) rfl rfl ?_
            rintro _ _ _ ⟨rfl, rfl⟩
            refine wl_nil ?_
            refine pn_then ?_
            refine wc_region ?_   -- region 24
            refine wl_det rfl rfl (det_load rfl (ms (ms (ms m0))) (by rfl) na51 us51) rfl ?_
            refine wl_det rfl rfl (det_loadN (cells := [_, _, _, _]) rfl (ms m0) (by rfl) ag53 sz53) rfl ?_
            refine wl_det rfl rfl (det_move rfl) rfl ?_
            refine wl_act0 (act_mapUpdate (k := x54.1) (v := x54.2) rfl rfl rfl rfl rfl (ss (ss (ss (ss s0)))) ko53 um51) rfl rfl ?_
            rintro _ _ _ ⟨rfl, rfl⟩
            refine wl_nil ?_
            refine pn_block ?_
            replace h := Option.some.inj h
            subst h
            exact pn_roundN (ss (ss s0)) (fun _ h => ⟨rfl, _, _, ⟨rfl, rfl⟩, h.to ⟨_, (rs (rs r0)), ⟨_, (rs (rs r0)), ⟨_, (rs (rs r0)), trivial⟩⟩⟩ trivial⟩)
          · rintro m54_ s54 _ _ rfl ⟨rfl, rfl⟩
            have h := elimL h
            dsimp only [List.cons_append, List.nil_append]
            refine pn_block ?_
            refine pn_then ?_
            refine wc_seq ?_
            refine wc_region ?_   -- region 25
            refine wl_det rfl rfl (det_load rfl m0 (by rfl) na51 us51) rfl ?_
            refine wl_st (fun _ h => h.shutM (rs r0)) ?_
            obtain ⟨r25_1, hr25_1, h⟩ := bind_some h
            refine wl_act (act_callS (cap := []) (W_commute_collected s54 b12_0 r25_1 hr25_1) rfl rfl rfl bd26 rfl ⟨m0, trivial⟩) rfl rfl rfl ?_
            rintro _ _ _ ⟨_, _, ⟨y25_1A0, y25_1n0, y25_1c0, rfl, rfl, rfl⟩, rfl, rfl⟩
            dsimp only [List.nil_append, List.cons_append]
            refine wl_know (fun _ h => h.lenO m0) (fun e => ?_)
            subst e
            refine wl_det rfl rfl (det_extract rfl rfl) rfl ?_
            refine wl_det rfl rfl (det_extract rfl rfl) rfl ?_
            refine wl_det rfl rfl (det_assign rfl) rfl ?_
            refine wl_det rfl rfl (det_assign rfl) rfl ?_
            refine wl_nil ?_
            refine pn_then ?_
            refine wc_ret ?_
            refine pn_retM (rs (rs (rs r0))) ?_
            replace h := Option.some.inj h
            subst h
            refine pn_ret (vs := [_, _]) rfl ⟨rfl, rfl, trivial⟩ ⟨y25_1A0, r25_1.1.length, y25_1c0, rfl, rfl, rfl⟩ (fun _ h => h.to ⟨_, r0, trivial⟩ trivial)
def Q_ledger_restated (r : Bool) : Value → List Ent → List Fact → Prop := fun v θ κ => v = .bool r ∧ θ = [] ∧ κ = []
theorem plains_ledger_restated {r : Bool} : ∀ v θ κ, Q_ledger_restated r v θ κ → Plains θ := by
  rintro _ _ _ ⟨rfl, rfl, rfl⟩
  exact trivial
set_option maxHeartbeats 4000000 in
set_option maxRecDepth 100000 in
theorem W_ledger_restated (a0 : GEntry) (r : Bool) (h : ledger_restated a0 = some r) : Spec Try.prog 33 [.agg #[.int .i64 a0.Kind, .int .i64 a0.Treaty, .int .i64 a0.Party, .int .i64 a0.Loss, .int .i64 a0.Amount]] [] [] (Q_ledger_restated r) := by
  unfold ledger_restated at h
  refine spec_of (σ := [(0, _)]) Try.func33 rfl rfl rfl rfl ?_
  intro C
  refine wc_seq ?_
  refine wc_region ?_   -- region 0
  refine wl_act (act_box (cs := [_, _, _, _, _]) rfl rfl) rfl rfl rfl ?_
  rintro _ _ _ ⟨b0_0, rfl, rfl, rfl⟩
  refine wl_det rfl rfl (det_assign rfl) rfl ?_
  refine wl_nil ?_
  refine pn_then ?_
  refine wc_seq ?_
  refine wc_region ?_   -- region 1
  refine wl_det rfl rfl (det_field rfl fd43_0 rfl) rfl ?_
  refine wl_det rfl rfl (det_load rfl m0 (by rfl) na3 us3) rfl ?_
  refine wl_det rfl rfl (det_eql rfl rfl) rfl ?_
  refine wl_det rfl rfl (det_move rfl) rfl ?_
  refine wl_way (decide (a0.Kind = 1)) ((decide (a0.Kind = 1)) || (decide (a0.Kind = 2))) 4 10 (fun hg => ?_) (fun hg => ?_) ?_
  · have hg1_7 := hg
    refine wl_off rfl rfl rfl rfl rfl hg1_7 rfl ?_
    refine wl_off rfl rfl rfl rfl rfl hg1_7 rfl ?_
    refine wl_off rfl rfl rfl rfl rfl hg1_7 rfl ?_
    refine wl_det rfl rfl (det_or_on (r := (decide (a0.Kind = 2))) rfl rfl rfl hg1_7) rfl ?_
    exact wl_nil (pn_qnE (ext_cons rfl (ext_skip rfl (ext_skip rfl (ext_skip rfl (ext_skip rfl ext_refl))))) (fun _ h => h))
  · have hg1_7a := hg
    refine wl_on rfl rfl rfl rfl hg1_7a ?_
    refine wl_det rfl rfl (det_field rfl fd43_0 rfl) rfl ?_
    refine wl_on rfl rfl rfl rfl hg1_7a ?_
    refine wl_det rfl rfl (det_load rfl m0 (by rfl) na3 us3) rfl ?_
    refine wl_on rfl rfl rfl rfl hg1_7a ?_
    refine wl_det rfl rfl (det_eql rfl rfl) rfl ?_
    refine wl_det rfl rfl (det_or_off rfl rfl rfl hg1_7a) rfl ?_
    exact wl_nil (pn_qnE (ext_cons rfl (ext_skip rfl (ext_skip rfl (ext_skip rfl (ext_skip rfl ext_refl))))) (fun _ h => h))
  refine wl_det rfl rfl (det_move rfl) rfl ?_
  refine wl_way ((decide (a0.Kind = 1)) || (decide (a0.Kind = 2))) (((decide (a0.Kind = 1)) || (decide (a0.Kind = 2))) || (decide (a0.Kind = 3))) 4 15 (fun hg => ?_) (fun hg => ?_) ?_
  · have hg1_12 := hg
    refine wl_off rfl rfl rfl rfl rfl hg1_12 rfl ?_
    refine wl_off rfl rfl rfl rfl rfl hg1_12 rfl ?_
    refine wl_off rfl rfl rfl rfl rfl hg1_12 rfl ?_
    refine wl_det rfl rfl (det_or_on (r := (decide (a0.Kind = 3))) rfl rfl rfl hg1_12) rfl ?_
    exact wl_nil (pn_qnE (ext_cons rfl (ext_skip rfl (ext_skip rfl (ext_skip rfl (ext_skip rfl ext_refl))))) (fun _ h => h))
  · have hg1_12a := hg
    refine wl_on rfl rfl rfl rfl hg1_12a ?_
    refine wl_det rfl rfl (det_field rfl fd43_0 rfl) rfl ?_
    refine wl_on rfl rfl rfl rfl hg1_12a ?_
    refine wl_det rfl rfl (det_load rfl m0 (by rfl) na3 us3) rfl ?_
    refine wl_on rfl rfl rfl rfl hg1_12a ?_
    refine wl_det rfl rfl (det_eql rfl rfl) rfl ?_
    refine wl_det rfl rfl (det_or_off rfl rfl rfl hg1_12a) rfl ?_
    exact wl_nil (pn_qnE (ext_cons rfl (ext_skip rfl (ext_skip rfl (ext_skip rfl (ext_skip rfl ext_refl))))) (fun _ h => h))
  refine wl_det rfl rfl (det_assign rfl) rfl ?_
  refine wl_nil ?_
  refine pn_then ?_
  refine wc_ret ?_
  replace h := Option.some.inj h
  subst h
  refine pn_ret (vs := [_]) rfl ⟨rfl, trivial⟩ ⟨rfl, rfl, rfl⟩ (fun _ h => h.to trivial trivial)
def Q_ledger_clone (r : GLedger) : Value → List Ent → List Fact → Prop := fun v θ κ => ∃ (pA0 : Option Addr), ∃ (pn0 : Nat), ∃ (pc0 : Nat), v = .agg #[.int .i64 r.Closed, .slice pA0 pn0 pc0] ∧ θ = [eS lGPosting 61 pA0 pn0 pc0 r.Postings] ∧ κ = []
theorem plains_ledger_clone {r : GLedger} : ∀ v θ κ, Q_ledger_clone r v θ κ → Plains θ := by
  rintro _ _ _ ⟨_, _, _, rfl, rfl, rfl⟩
  exact ⟨plain_eS, trivial⟩
set_option maxHeartbeats 4000000 in
set_option maxRecDepth 100000 in
theorem W_ledger_clone (a0 : GLedger) (A0 : Option Addr) (n0 : Nat) (c0 : Nat) (r : GLedger) (h : ledger_clone a0 = some r) : Spec Try.prog 46 [.agg #[.int .i64 a0.Closed, .slice A0 n0 c0]] [] [fV (lSlice lGPosting) (.slice A0 n0 c0) a0.Postings] (Q_ledger_clone r) := by
  unfold ledger_clone at h
  refine spec_of (σ := [(0, _)]) Try.func46 rfl rfl rfl rfl ?_
  intro C
  refine wc_know (fun _ h => h.lenF m0) (fun e => ?_)
  subst e
  refine wc_seq ?_
  refine wc_region ?_   -- region 0
  refine wl_act (act_box (cs := [_, _]) rfl rfl) rfl rfl rfl ?_
  rintro _ _ _ ⟨b0_0, rfl, rfl, rfl⟩
  refine wl_act (act_alloc (cs := [_, _]) zr25 rfl) rfl rfl rfl ?_
  rintro _ _ _ ⟨b0_1, rfl, rfl, rfl⟩
  refine wl_nil ?_
  refine pn_then ?_
  refine wc_seq ?_
  refine wc_st (fun _ h => h.zeroS lGPosting 61 none) ?_
  obtain ⟨k1_p1, h⟩ := chk_some h
  refine dx_regionZ (Z := St C [_, _] [_]) 5 [[], [0], [], [2], [2, 3], [0, 1, 2, 3, 4], [0, 1, 2, 3, 4, 5]] mixed (ord := (.det 0 (.det 1 (.det 2 (.det 3 (.alt 4 .done .dead)))))) (by kernel_rfl) (fun _ h => h.to ⟨_, (rs r0), ⟨_, (rs r0), trivial⟩⟩ ⟨m0, trivial⟩) ?_   -- region 1
  refine hx_det rfl rfl rfl nofun (det_field rfl fd25_0 rfl) rfl ?_
  refine hx_det rfl rfl rfl nofun (det_load rfl (ms m0) (by rfl) na3 us3) rfl ?_
  refine hx_det rfl rfl rfl nofun (det_field rfl fd25_1 rfl) rfl ?_
  refine hx_det rfl rfl rfl nofun (det_load rfl (ms m0) (by rfl) na23 us23) rfl ?_
  refine hx_mut rfl rfl rfl (act_appendS0 (L := lGPosting) rfl rfl s0 (src_F m0) un23 in61 rfl rfl rfl k1_p1) rfl (by rintro _ _ _ ⟨A1_4, c1_4, rfl, rfl, rfl⟩ w hs; exact hs.to ⟨_, (rs r0), ⟨_, (rs r0), trivial⟩⟩ ⟨m0, trivial⟩) ?_
  rintro _ _ _ ⟨A1_4, c1_4, rfl, rfl, rfl⟩
  refine hx_end ?_
  refine wl_det rfl rfl (det_build (cs := [_, _]) pl25 zr25 rfl rfl (by rfl)) rfl ?_
  refine wl_act0 (act_store (cells := [_, _]) (cs' := [_, _]) rfl rfl rfl (ss s0) (by rfl) (of_decide_eq_true rfl) sz25 ⟨rfl, rfl, trivial⟩) rfl rfl ?_
  rintro _ _ _ ⟨rfl, rfl⟩
  refine wl_nil ?_
  refine pn_then ?_
  refine wc_ret ?_
  replace h := Option.some.inj h
  subst h
  refine pn_ret (vs := [_]) rfl ⟨⟨_, _, [_, _], rfl, (ms m0), .inl ⟨ag25, sz25, rfl⟩⟩, trivial⟩ ⟨A1_4, a0.Postings.length, c1_4, rfl, rfl, rfl⟩ (fun _ h => h.to ⟨_, r0, trivial⟩ trivial)
def Q_ledger_Post (r : GLedger × Int) : Value → List Ent → List Fact → Prop := fun v θ κ => ∃ (pA0 : Option Addr), ∃ (pn0 : Nat), ∃ (pc0 : Nat), v = .tuple #[.agg #[.int .i64 r.1.Closed, .slice pA0 pn0 pc0], .int .i64 r.2] ∧ θ = [eS lGPosting 61 pA0 pn0 pc0 r.1.Postings] ∧ κ = []
theorem plains_ledger_Post {r : GLedger × Int} : ∀ v θ κ, Q_ledger_Post r v θ κ → Plains θ := by
  rintro _ _ _ ⟨_, _, _, rfl, rfl, rfl⟩
  exact ⟨plain_eS, trivial⟩
set_option maxHeartbeats 4000000 in
set_option maxRecDepth 100000 in
theorem W_ledger_Post (a0 : GLedger) (a1 : (List GEntry)) (A0 : Option Addr) (n0 : Nat) (c0 : Nat) (A3 : Option Addr) (n3 : Nat) (c3 : Nat) (r : GLedger × Int) (h : ledger_Post a0 a1 = some r) : Spec Try.prog 28 [.agg #[.int .i64 a0.Closed, .slice A0 n0 c0], .slice A3 n3 c3] [] [fV (lSlice lGPosting) (.slice A0 n0 c0) a0.Postings, fV (lSlice lGEntry) (.slice A3 n3 c3) a1] (Q_ledger_Post r) := by
  unfold ledger_Post at h
  refine spec_of (σ := [(0, _), (1, _)]) Try.func28 rfl rfl rfl rfl ?_
  intro C
  refine wc_know (fun _ h => h.lenF m0) (fun e => ?_)
  subst e
  refine wc_know (fun _ h => h.lenF (ms m0)) (fun e => ?_)
  subst e
  refine wc_seq ?_
  refine wc_region ?_   -- region 0
  refine wl_act (act_box (cs := [_, _]) rfl rfl) rfl rfl rfl ?_
  rintro _ _ _ ⟨b0_0, rfl, rfl, rfl⟩
  refine wl_act (act_alloc (cs := [_, _]) zr25 rfl) rfl rfl rfl ?_
  rintro _ _ _ ⟨b0_1, rfl, rfl, rfl⟩
  refine wl_det rfl rfl (det_assign rfl) rfl ?_
  refine wl_nil ?_
  refine pn_then ?_
  refine wc_seq ?_
  refine wc_seq ?_
  refine wc_region ?_   -- region 1
  refine wl_det rfl rfl (det_loadN (cells := [_, _]) rfl (ms m0) (by rfl) ag25 sz25) rfl ?_
  obtain ⟨r1_1, hr1_1, h⟩ := bind_some h
  refine wl_act (act_callS (cap := []) (W_ledger_Validate a0 A0 a0.Postings.length c0 r1_1 hr1_1) rfl rfl rfl bd21 rfl ⟨m0, trivial⟩) rfl rfl rfl ?_
  rintro _ _ _ ⟨_, _, ⟨rfl, rfl, rfl⟩, rfl, rfl⟩
  dsimp only [List.nil_append, List.cons_append]
  refine wl_det rfl rfl (det_assign rfl) rfl ?_
  refine wl_nil ?_
  refine pn_then ?_
  refine wc_seq ?_
  refine wc_region ?_   -- region 2
  refine wl_det rfl rfl (det_move rfl) rfl ?_
  refine wl_det rfl rfl (det_neq rfl rfl) rfl ?_
  refine wl_nil ?_
  refine pn_then ?_
  refine wc_cond rfl (fun cd7 => ?_) (fun cd7 => ?_)
  · have h := ifT h cd7
    refine wc_seq ?_
    refine wc_region ?_   -- region 3
    refine wl_det rfl rfl (det_build (cs := [_, _]) pl25 zr25 rfl rfl (by rfl)) rfl ?_
    refine wl_det rfl rfl (det_move rfl) rfl ?_
    refine wl_act0 (act_store (cells := [_, _]) (cs' := [_, _]) rfl rfl rfl s0 (by rfl) (of_decide_eq_true rfl) sz25 ⟨rfl, rfl, trivial⟩) rfl rfl ?_
    rintro _ _ _ ⟨rfl, rfl⟩
    refine wl_det rfl rfl (det_assign rfl) rfl ?_
    refine wl_nil ?_
    refine pn_then ?_
    refine wc_ret ?_
    refine pr_then ?_
    refine pn_st (fun _ h => h.zeroS lGPosting 61 none) ?_
    replace h := Option.some.inj h
    subst h
    refine pn_ret (vs := [_, _]) rfl ⟨⟨_, _, [_, _], rfl, (ms m0), .inl ⟨ag25, sz25, rfl⟩⟩, rfl, trivial⟩ ⟨none, 0, 0, rfl, rfl, rfl⟩ (fun _ h => h.to ⟨_, r0, trivial⟩ trivial)
  · have h := ifF h cd7
    refine wc_skip ?_
    refine pn_then ?_
    refine wc_seq ?_
    refine wc_region ?_   -- region 4
    refine wl_det rfl rfl (det_move rfl) rfl ?_
    obtain ⟨r4_1, hr4_1, h⟩ := bind_some h
    refine wl_act (act_callS (cap := []) (W_ledger_Collect a1 A3 a1.length c3 r4_1 hr4_1) rfl rfl rfl bd22 rfl ⟨(ms m0), trivial⟩) rfl rfl rfl ?_
    rintro _ _ _ ⟨_, _, ⟨y4_1A0, y4_1n0, y4_1c0, rfl, rfl, rfl⟩, rfl, rfl⟩
    dsimp only [List.nil_append, List.cons_append]
    refine wl_know (fun _ h => h.lenO m0) (fun e => ?_)
    subst e
    refine wl_det rfl rfl (det_move rfl) rfl ?_
    refine wl_det rfl rfl (det_extract rfl rfl) rfl ?_
    refine wl_det rfl rfl (det_extract rfl rfl) rfl ?_
    refine wl_det rfl rfl (det_assign rfl) rfl ?_
    refine wl_det rfl rfl (det_assign rfl) rfl ?_
    refine wl_nil ?_
    refine pn_then ?_
    refine wc_seq ?_
    refine wc_seq ?_
    refine wc_region ?_   -- region 5
    refine wl_det rfl rfl (det_move rfl) rfl ?_
    refine wl_det rfl rfl (det_neq rfl rfl) rfl ?_
    refine wl_nil ?_
    refine pn_then ?_
    refine wc_cond rfl (fun cd15 => ?_) (fun cd15 => ?_)
    · have h := ifT h cd15
      refine wc_seq ?_
      refine wc_region ?_   -- region 6
      refine wl_det rfl rfl (det_build (cs := [_, _]) pl25 zr25 rfl rfl (by rfl)) rfl ?_
      refine wl_det rfl rfl (det_move rfl) rfl ?_
      refine wl_act0 (act_store (cells := [_, _]) (cs' := [_, _]) rfl rfl rfl (ss s0) (by rfl) (of_decide_eq_true rfl) sz25 ⟨rfl, rfl, trivial⟩) rfl rfl ?_
      rintro _ _ _ ⟨rfl, rfl⟩
      refine wl_det rfl rfl (det_assign rfl) rfl ?_
      refine wl_nil ?_
      refine pn_then ?_
      refine wc_ret ?_
      refine pr_then ?_
      refine pn_st (fun _ h => h.zeroS lGPosting 61 none) ?_
      replace h := Option.some.inj h
      subst h
      refine pn_ret (vs := [_, _]) rfl ⟨⟨_, _, [_, _], rfl, (ms (ms m0)), .inl ⟨ag25, sz25, rfl⟩⟩, rfl, trivial⟩ ⟨none, 0, 0, rfl, rfl, rfl⟩ (fun _ h => h.to ⟨_, r0, trivial⟩ trivial)
    · have h := ifF h cd15
      refine wc_skip ?_
      refine pn_then ?_
      refine wc_seq ?_
      refine wc_seq ?_
      refine wc_region ?_   -- region 7
      refine wl_det rfl rfl (det_field rfl fd25_0 rfl) rfl ?_
      refine wl_det rfl rfl (det_load rfl (ms (ms m0)) (by rfl) na3 us3) rfl ?_
      refine wl_det rfl rfl (det_eql rfl rfl) rfl ?_
      refine wl_nil ?_
      refine pn_then ?_
      refine wc_cond rfl (fun cd21 => ?_) (fun cd21 => ?_)
      · have h := ifT h cd21
        refine wc_seq ?_
        refine wc_region ?_   -- region 8
        refine wl_det rfl rfl (det_build (cs := [_, _]) pl25 zr25 rfl rfl (by rfl)) rfl ?_
        refine wl_act0 (act_store (cells := [_, _]) (cs' := [_, _]) rfl rfl rfl (ss s0) (by rfl) (of_decide_eq_true rfl) sz25 ⟨rfl, rfl, trivial⟩) rfl rfl ?_
        rintro _ _ _ ⟨rfl, rfl⟩
        refine wl_det rfl rfl (det_assign rfl) rfl ?_
        refine wl_nil ?_
        refine pn_then ?_
        refine wc_ret ?_
        refine pr_then ?_
        refine pn_st (fun _ h => h.zeroS lGPosting 61 none) ?_
        replace h := Option.some.inj h
        subst h
        refine pn_ret (vs := [_, _]) rfl ⟨⟨_, _, [_, _], rfl, (ms (ms m0)), .inl ⟨ag25, sz25, rfl⟩⟩, rfl, trivial⟩ ⟨none, 0, 0, rfl, rfl, rfl⟩ (fun _ h => h.to ⟨_, r0, trivial⟩ trivial)
      · have h := ifF h cd21
        refine wc_skip ?_
        refine pn_then ?_
        refine wc_seq ?_
        refine wc_region ?_   -- region 9
        refine wl_det rfl rfl (det_assign rfl) rfl ?_
        refine wl_nil ?_
        refine pn_then ?_
        obtain ⟨q26, h, ho26⟩ := bind_some h
        refine wc_meetG (G := Int × Unit) (fun (s26, _) => s26 = q26) (fun (s26, _) => [(2, .pointer (some ⟨b0_0, 0, none⟩)), (4, .pointer (some ⟨b0_1, 0, none⟩)), (7, .slice y4_1A0 r4_1.1.length y4_1c0), (9, .int .i64 s26)]) (fun (_, _) => [eBlk b0_0 25 [.int .i64 a0.Closed, .slice A0 a0.Postings.length c0], eBlk b0_1 25 [.int .i64 0, .slice none 0 0], eS lGEntry 43 y4_1A0 r4_1.1.length y4_1c0 r4_1.1]) (fun (_, _) => [fV (lSlice lGPosting) (.slice A0 a0.Postings.length c0) a0.Postings]) ?_ ?_
        · refine wc_seq ?_
          refine wc_region ?_   -- region 10
          refine wl_det rfl rfl (det_field rfl fd25_1 rfl) rfl ?_
          refine wl_det rfl rfl (det_load rfl (ms (ms m0)) (by rfl) na23 us23) rfl ?_
          refine wl_det rfl rfl (det_len rfl un23) rfl ?_
          refine wl_det rfl rfl (det_assign rfl) rfl ?_
          refine wl_nil ?_
          refine pn_then ?_
          refine wc_seq ?_
          refine wc_region ?_   -- region 11
          refine wl_det rfl rfl (det_move rfl) rfl ?_
          refine wl_det rfl rfl (det_gtr rfl rfl) rfl ?_
          refine wl_nil ?_
          refine pn_then ?_
          refine wc_cond rfl (fun cd31 => ?_) (fun cd31 => ?_)
          · have h := ifT h cd31
            refine wc_region ?_   -- region 12
            refine wl_det rfl rfl (det_field rfl fd25_1 rfl) rfl ?_
            refine wl_det rfl rfl (det_load rfl (ms (ms m0)) (by rfl) na23 us23) rfl ?_
            refine wl_det rfl rfl (det_move rfl) rfl ?_
            refine wl_det rfl rfl (det_sub rfl rfl) rfl ?_
            obtain ⟨k12_4, h⟩ := chk_some h
            refine wl_st (fun _ h => h.openF m0 k12_4) ?_
            refine wl_det rfl rfl (det_indexP rfl rfl (ms m0) k12_4 m0 un23 sz61) rfl ?_
            refine wl_det rfl rfl (det_fieldP rfl m0 fd61_0 rfl) rfl ?_
            refine wl_det rfl rfl (det_loadP (off := 0) rfl m0 (by rfl) (by rfl) (loaded_1 na3 us3)) rfl ?_
            refine wl_det rfl rfl (det_assign rfl) rfl ?_
            refine wl_nil ?_
            replace h := Option.some.inj h
            subst h
            exact pn_meetG ((ix a0.Postings (w64 ((a0.Postings.length : Int) - 1))).Number, ()) rfl ⟨rfl, rfl, rfl, rfl, trivial⟩ (fun _ h => h.to ⟨_, (rs (rs r0)), ⟨_, (rs r0), ⟨_, r0, trivial⟩⟩⟩ ⟨(ms m0), trivial⟩)
          · have h := ifF h cd31
            refine wc_skip ?_
            replace h := Option.some.inj h
            subst h
            exact pn_meetG (0, ()) rfl ⟨rfl, rfl, rfl, rfl, trivial⟩ (fun _ h => h.to ⟨_, (rs (rs r0)), ⟨_, (rs r0), ⟨_, r0, trivial⟩⟩⟩ ⟨m0, trivial⟩)
        rintro ⟨s26, _⟩ e26
        dsimp only at e26 ⊢
        subst e26
        have h := ho26
        refine wc_seq ?_
        refine wc_seq ?_
        refine wc_region ?_   -- region 13
        refine wl_det rfl rfl (det_field rfl fd25_1 rfl) rfl ?_
        refine wl_det rfl rfl (det_load rfl m0 (by rfl) na23 us23) rfl ?_
        refine wl_det rfl rfl (det_len rfl un23) rfl ?_
        refine wl_det rfl rfl (det_move rfl) rfl ?_
        refine wl_det rfl rfl (det_len rfl un29) rfl ?_
        refine wl_det rfl rfl (det_add rfl rfl) rfl ?_
        refine wl_det rfl rfl (det_gtr rfl rfl) rfl ?_
        refine wl_det rfl rfl (det_move rfl) rfl ?_
        refine wl_way (decide (65536 < (w64 ((a0.Postings.length : Int) + (r4_1.1.length : Int))))) ((decide (65536 < (w64 ((a0.Postings.length : Int) + (r4_1.1.length : Int))))) || (decide (65536 < (w64 (s26 + (r4_1.1.length : Int)))))) 6 59 (fun hg => ?_) (fun hg => ?_) ?_
        · have hg13_13 := hg
          refine wl_off rfl rfl rfl rfl rfl hg13_13 rfl ?_
          refine wl_off rfl rfl rfl rfl rfl hg13_13 rfl ?_
          refine wl_off rfl rfl rfl rfl rfl hg13_13 rfl ?_
          refine wl_off rfl rfl rfl rfl rfl hg13_13 rfl ?_
          refine wl_off rfl rfl rfl rfl rfl hg13_13 rfl ?_
          refine wl_det rfl rfl (det_or_on (r := (decide (65536 < (w64 (s26 + (r4_1.1.length : Int)))))) rfl rfl rfl hg13_13) rfl ?_
          exact wl_nil (pn_qnE (ext_cons rfl (ext_skip rfl (ext_skip rfl (ext_skip rfl (ext_skip rfl (ext_skip rfl (ext_skip rfl ext_refl))))))) (fun _ h => h))
        · have hg13_13a := hg
          refine wl_on rfl rfl rfl rfl hg13_13a ?_
          refine wl_det rfl rfl (det_move rfl) rfl ?_
          refine wl_on rfl rfl rfl rfl hg13_13a ?_
          refine wl_det rfl rfl (det_move rfl) rfl ?_
          refine wl_on rfl rfl rfl rfl hg13_13a ?_
          refine wl_det rfl rfl (det_len rfl un29) rfl ?_
          refine wl_on rfl rfl rfl rfl hg13_13a ?_
          refine wl_det rfl rfl (det_add rfl rfl) rfl ?_
          refine wl_on rfl rfl rfl rfl hg13_13a ?_
          refine wl_det rfl rfl (det_gtr rfl rfl) rfl ?_
          refine wl_det rfl rfl (det_or_off rfl rfl rfl hg13_13a) rfl ?_
          exact wl_nil (pn_qnE (ext_cons rfl (ext_skip rfl (ext_skip rfl (ext_skip rfl (ext_skip rfl (ext_skip rfl (ext_skip rfl ext_refl))))))) (fun _ h => h))
        refine wl_nil ?_
        refine pn_then ?_
        refine wc_cond rfl (fun cd36 => ?_) (fun cd36 => ?_)
        · have h := ifT h cd36
          refine wc_seq ?_
          refine wc_region ?_   -- region 14
          refine wl_det rfl rfl (det_build (cs := [_, _]) pl25 zr25 rfl rfl (by rfl)) rfl ?_
          refine wl_act0 (act_store (cells := [_, _]) (cs' := [_, _]) rfl rfl rfl (ss s0) (by rfl) (of_decide_eq_true rfl) sz25 ⟨rfl, rfl, trivial⟩) rfl rfl ?_
          rintro _ _ _ ⟨rfl, rfl⟩
          refine wl_det rfl rfl (det_assign rfl) rfl ?_
          refine wl_nil ?_
          refine pn_then ?_
          refine wc_ret ?_
          refine pr_then ?_
          refine pn_st (fun _ h => h.zeroS lGPosting 61 none) ?_
          replace h := Option.some.inj h
          subst h
          refine pn_ret (vs := [_, _]) rfl ⟨⟨_, _, [_, _], rfl, (ms (ms m0)), .inl ⟨ag25, sz25, rfl⟩⟩, rfl, trivial⟩ ⟨none, 0, 0, rfl, rfl, rfl⟩ (fun _ h => h.to ⟨_, r0, trivial⟩ trivial)
        · have h := ifF h cd36
          refine wc_skip ?_
          refine pn_then ?_
          refine wc_seq ?_
          refine wc_region ?_   -- region 15
          refine wl_det rfl rfl (det_move rfl) rfl ?_
          refine wl_det rfl rfl (det_len rfl un29) rfl ?_
          obtain ⟨k15_2, h⟩ := chk_some h
          obtain ⟨k15_2a, h⟩ := chk_some h
          refine wl_act (act_makeS (L := lGPosting) (x0 := (GPosting.mk 0 0 (GEntry.mk 0 0 0 0 0))) rfl rfl un23 in61 (by refine ⟨rfl, fun _ _ => ?_⟩; first | exact rfl | exact ⟨_, _, _, rfl, rfl, Nat.zero_le _, .inl rfl⟩) rfl rfl k15_2 (decide_eq_true (Int.le_refl _)) k15_2a) rfl rfl rfl ?_
          rintro _ _ _ ⟨A15_2, c15_2, rfl, rfl, rfl⟩
          refine wl_det rfl rfl (det_assign rfl) rfl ?_
          refine wl_nil ?_
          refine pn_then ?_
          obtain ⟨q41, h, ho41⟩ := bind_some h
          refine wc_meetG (G := (List GPosting) × Unit) (fun (s41, _) => s41 = q41) (fun (_, _) => [(2, .pointer (some ⟨b0_0, 0, none⟩)), (4, .pointer (some ⟨b0_1, 0, none⟩)), (11, .slice A15_2 (List.replicate (r4_1.1.length : Int).toNat (GPosting.mk 0 0 (GEntry.mk 0 0 0 0 0))).length c15_2)]) (fun (s41, _) => [eBlk b0_0 25 [.int .i64 a0.Closed, .slice A0 a0.Postings.length c0], eBlk b0_1 25 [.int .i64 0, .slice none 0 0], eS lGPosting 61 A15_2 (List.replicate (r4_1.1.length : Int).toNat (GPosting.mk 0 0 (GEntry.mk 0 0 0 0 0))).length c15_2 s41]) (fun (_, _) => [fV (lSlice lGPosting) (.slice A0 a0.Postings.length c0) a0.Postings]) ?_ ?_
          · refine wc_seq ?_
            refine wc_region ?_   -- region 16
            refine wl_det rfl rfl (det_move rfl) rfl ?_
            refine wl_det rfl rfl (det_len rfl un29) rfl ?_
            refine wl_det rfl rfl (det_move rfl) rfl ?_
            refine wl_nil ?_
            refine pn_then ?_
            refine wc_block ?_
            obtain ⟨k45, hk45⟩ := loopV_some.1 h
            refine wc_loop (G := Nat × ((List GPosting) × Int) × Unit) (fun g => IterN (ledger_Post_l45 a0 r4_1 s26) g.1 g.2.1 q41) (fun g => g.1) (fun (_, s45, _) => [(2, .pointer (some ⟨b0_0, 0, none⟩)), (4, .pointer (some ⟨b0_1, 0, none⟩)), (9, .int .i64 s26), (11, .slice A15_2 (List.replicate (r4_1.1.length : Int).toNat (GPosting.mk 0 0 (GEntry.mk 0 0 0 0 0))).length c15_2), (64, .slice y4_1A0 r4_1.1.length y4_1c0), (65, .int .i64 (r4_1.1.length : Int)), (66, .int .i64 s45.2)]) (fun (_, s45, _) => [eBlk b0_0 25 [.int .i64 a0.Closed, .slice A0 a0.Postings.length c0], eBlk b0_1 25 [.int .i64 0, .slice none 0 0], eS lGPosting 61 A15_2 (List.replicate (r4_1.1.length : Int).toNat (GPosting.mk 0 0 (GEntry.mk 0 0 0 0 0))).length c15_2 s45.1, eS lGEntry 43 y4_1A0 r4_1.1.length y4_1c0 r4_1.1]) (fun (_, _, _) => [fV (lSlice lGPosting) (.slice A0 a0.Postings.length c0) a0.Postings]) (k45, ((List.replicate (r4_1.1.length : Int).toNat (GPosting.mk 0 0 (GEntry.mk 0 0 0 0 0))), 0), ()) hk45 ⟨rfl, rfl, rfl, rfl, rfl, rfl, rfl, trivial⟩ (fun _ h => h.to ⟨_, (rs r0), ⟨_, (rs r0), ⟨_, r0, ⟨_, r0, trivial⟩⟩⟩⟩ ⟨m0, trivial⟩) ?_
            rintro ⟨k45, s45, _⟩ hI
            obtain ⟨k45, rfl, q45, h, g45⟩ := IterN.pos hI
            dsimp only at h ⊢
            unfold ledger_Post_l45 at h
            refine wc_seq ?_
            refine wc_region ?_   -- region 17
            refine wl_det rfl rfl (det_lss rfl rfl) rfl ?_
            refine wl_nil ?_
            refine pn_then ?_
            refine wc_seq ?_
            refine wc_cond rfl (fun cd49 => ?_) (fun cd49 => ?_)
            · have h := ifT h cd49
              refine wc_skip ?_
              refine pn_then ?_
              refine wc_seq ?_
              refine wc_block ?_
              refine wc_seq ?_
              refine wc_region ?_   -- region 18
              refine wl_det rfl rfl (det_move rfl) rfl ?_
              obtain ⟨k18_1, h⟩ := chk_some h
              refine wl_det rfl rfl (det_indexO rfl rfl (ms (ms (ms m0))) k18_1 un29 sz43) rfl ?_
              refine wl_det rfl rfl (det_loadO (off := 0) rfl (ms (ms (ms m0))) k18_1 (by rfl) (by rfl) (loaded_n (cells := [_, _, _, _, _]) ag43 sz43)) rfl ?_
              refine wl_act (act_alloc (cs := [_, _, _, _, _]) zr43 rfl) rfl rfl rfl ?_
              rintro _ _ _ ⟨b18_3, rfl, rfl, rfl⟩
              refine wl_det rfl rfl (det_assign rfl) rfl ?_
              refine wl_act0 (act_store (cells := [_, _, _, _, _]) (cs' := [_, _, _, _, _]) rfl rfl rfl s0 (by rfl) (of_decide_eq_true rfl) sz43 ⟨rfl, rfl, rfl, rfl, rfl, trivial⟩) rfl rfl ?_
              rintro _ _ _ ⟨rfl, rfl⟩
              refine wl_nil ?_
              refine pn_then ?_
              refine wc_region ?_   -- region 19
              refine wl_det rfl rfl (det_move rfl) rfl ?_
              refine wl_det rfl rfl (det_move rfl) rfl ?_
              refine wl_det rfl rfl (det_move rfl) rfl ?_
              refine wl_det rfl rfl (det_add rfl rfl) rfl ?_
              refine wl_det rfl rfl (det_move rfl) rfl ?_
              refine wl_det rfl rfl (det_add rfl rfl) rfl ?_
              refine wl_det rfl rfl (det_field rfl fd25_0 rfl) rfl ?_
              refine wl_det rfl rfl (det_load rfl (ms m0) (by rfl) na3 us3) rfl ?_
              refine wl_det rfl rfl (det_loadN (cells := [_, _, _, _, _]) rfl m0 (by rfl) ag43 sz43) rfl ?_
              refine wl_det rfl rfl (det_build (cs := [_, _, _, _, _, _, _]) pl61 zr61 rfl rfl (by rfl)) rfl ?_
              obtain ⟨k19_10, h⟩ := chk_some h
              refine wl_det rfl rfl (det_indexO rfl rfl (ms (ms (ms m0))) k19_10 un23 sz61) rfl ?_
              refine wl_act0 (act_storeO (cells := [_, _, _, _, _, _, _]) (off := 0) (GPosting.mk (w64 ((w64 (s26 + 1)) + s45.2)) a0.Closed (ix r4_1.1 s45.2)) rfl rfl rfl (ss (ss (ss s0))) k19_10 (by rfl) sz61 (by intro u hu; simp at hu; rcases hu with rfl | rfl | rfl | rfl | rfl | rfl | rfl <;> rfl) (stR_flat rfl rfl)) rfl rfl ?_
              rintro _ _ _ ⟨rfl, rfl⟩
              refine wl_nil ?_
              refine pn_block ?_
              refine pn_then ?_
              refine wc_region ?_   -- region 20
              refine wl_det rfl rfl (det_add rfl rfl) rfl ?_
              refine wl_det rfl rfl (det_move rfl) rfl ?_
              refine wl_nil ?_
              replace h := Option.some.inj h
              subst h
              exact pn_some (k45, ((upd s45.1 s45.2 (GPosting.mk (w64 ((w64 (s26 + 1)) + s45.2)) a0.Closed (ix r4_1.1 s45.2))), (w64 (s45.2 + 1))), ()) ⟨nextL g45, Nat.lt_succ_self _⟩ ⟨rfl, rfl, rfl, rfl, rfl, rfl, rfl, trivial⟩ (fun _ h => h.to ⟨_, (rs r0), ⟨_, (rs r0), ⟨_, (rs r0), ⟨_, (rs r0), trivial⟩⟩⟩⟩ ⟨m0, trivial⟩)
            · have h := ifF h cd49
              refine wc_exit ?_
              refine px_then ?_
              refine px_then ?_
              refine px_block ?_
              replace h := Option.some.inj h
              subst h
              replace g45 := nextR g45
              subst g45
              exact pn_meetG (s45.1, ()) rfl ⟨rfl, rfl, rfl, trivial⟩ (fun _ h => h.to ⟨_, r0, ⟨_, r0, ⟨_, r0, trivial⟩⟩⟩ ⟨m0, trivial⟩)
          rintro ⟨s41, _⟩ e41
          dsimp only at e41 ⊢
          subst e41
          have h := ho41
          refine wc_seq ?_
          refine wc_region ?_   -- region 21
          refine wl_det rfl rfl (det_loadN (cells := [_, _]) rfl m0 (by rfl) ag25 sz25) rfl ?_
          obtain ⟨r21_1, hr21_1, h⟩ := bind_some h
          refine wl_act (act_callS (cap := []) (W_ledger_clone a0 A0 a0.Postings.length c0 r21_1 hr21_1) rfl rfl rfl bd46 rfl ⟨m0, trivial⟩) rfl rfl rfl ?_
          rintro _ _ _ ⟨_, _, ⟨y21_1A0, y21_1n0, y21_1c0, rfl, rfl, rfl⟩, rfl, rfl⟩
          dsimp only [List.nil_append, List.cons_append]
          refine wl_know (fun _ h => h.lenO m0) (fun e => ?_)
          subst e
          refine wl_act (act_alloc (cs := [_, _]) zr25 rfl) rfl rfl rfl ?_
          rintro _ _ _ ⟨b21_2, rfl, rfl, rfl⟩
          refine wl_act0 (act_store (cells := [_, _]) (cs' := [_, _]) rfl rfl rfl s0 (by rfl) (of_decide_eq_true rfl) sz25 ⟨rfl, rfl, trivial⟩) rfl rfl ?_
          rintro _ _ _ ⟨rfl, rfl⟩
          refine wl_nil ?_
          refine pn_then ?_
          refine wc_seq ?_
          refine wc_region ?_   -- region 22
          refine wl_det rfl rfl (det_field rfl fd25_1 rfl) rfl ?_
          refine wl_det rfl rfl (det_load rfl m0 (by rfl) na23 us23) rfl ?_
          refine wl_det rfl rfl (det_move rfl) rfl ?_
          obtain ⟨k22_3, h⟩ := chk_some h
          refine wl_act (act_appendS (L := lGPosting) rfl rfl (ss s0) (src_O (ms (ms (ms (ms m0))))) un23 in61 rfl rfl rfl k22_3) rfl rfl rfl ?_
          rintro _ _ _ ⟨A22_3, c22_3, rfl, rfl, rfl⟩
          refine wl_det rfl rfl (det_field rfl fd25_1 rfl) rfl ?_
          refine wl_act0 (act_store (cells := [_]) (cs' := [_, _]) rfl rfl rfl s0 (by rfl) (of_decide_eq_true rfl) sz23 ⟨rfl, trivial⟩) rfl rfl ?_
          rintro _ _ _ ⟨rfl, rfl⟩
          refine wl_nil ?_
          refine pn_then ?_
          refine wc_seq ?_
          refine wc_region ?_   -- region 23
          refine wl_det rfl rfl (det_loadN (cells := [_, _]) rfl m0 (by rfl) ag25 sz25) rfl ?_
          refine wl_act0 (act_store (cells := [_, _]) (cs' := [_, _]) rfl rfl rfl (ss (ss (ss s0))) (by rfl) (of_decide_eq_true rfl) sz25 ⟨rfl, rfl, trivial⟩) rfl rfl ?_
          rintro _ _ _ ⟨rfl, rfl⟩
          refine wl_det rfl rfl (det_assign rfl) rfl ?_
          refine wl_nil ?_
          refine pn_then ?_
          refine wc_ret ?_
          replace h := Option.some.inj h
          subst h
          refine pn_ret (vs := [_, _]) rfl ⟨⟨_, _, [_, _], rfl, (ms (ms (ms m0))), .inl ⟨ag25, sz25, rfl⟩⟩, rfl, trivial⟩ ⟨A22_3, (r21_1.Postings ++ s41).length, c22_3, rfl, rfl, rfl⟩ (fun _ h => h.to ⟨_, (rs r0), trivial⟩ trivial)
def Q_slices_Clone_s_api_Posting_api_Posting (r : (List GPosting)) : Value → List Ent → List Fact → Prop := fun v θ κ => ∃ (pA0 : Option Addr), ∃ (pn0 : Nat), ∃ (pc0 : Nat), v = .slice pA0 pn0 pc0 ∧ θ = [eS lGPosting 61 pA0 pn0 pc0 r] ∧ κ = []
theorem plains_slices_Clone_s_api_Posting_api_Posting {r : (List GPosting)} : ∀ v θ κ, Q_slices_Clone_s_api_Posting_api_Posting r v θ κ → Plains θ := by
  rintro _ _ _ ⟨_, _, _, rfl, rfl, rfl⟩
  exact ⟨plain_eS, trivial⟩
set_option maxHeartbeats 4000000 in
set_option maxRecDepth 100000 in
theorem W_slices_Clone_s_api_Posting_api_Posting (a0 : (List GPosting)) (A0 : Option Addr) (n0 : Nat) (c0 : Nat) (r : (List GPosting)) (h : slices_Clone_s_api_Posting_api_Posting a0 = some r) : Spec Try.prog 32 [.slice A0 n0 c0] [] [fV (lSlice lGPosting) (.slice A0 n0 c0) a0] (Q_slices_Clone_s_api_Posting_api_Posting r) := by
  unfold slices_Clone_s_api_Posting_api_Posting at h
  refine spec_of (σ := [(0, _)]) Try.func32 rfl rfl rfl rfl ?_
  intro C
  refine wc_know (fun _ h => h.lenF m0) (fun e => ?_)
  subst e
  refine wc_seq ?_
  refine wc_region ?_   -- region 0
  refine wl_det rfl rfl (det_assign rfl) rfl ?_
  refine wl_nil ?_
  refine pn_then ?_
  refine wc_seq ?_
  refine wc_seq ?_
  refine wc_region ?_   -- region 1
  refine wl_det rfl rfl (det_move rfl) rfl ?_
  refine wl_det rfl rfl (det_eqlNil rfl rfl un23) rfl ?_
  refine wl_nil ?_
  refine pn_then ?_
  refine wc_cond rfl (fun cd5 => ?_) (fun cd5 => ?_)
  · refine wc_know (fun _ h => h.nilF m0 cd5) (fun e => ?_)
    subst e
    have h := clone_nil h
    refine wc_seq ?_
    refine wc_region ?_   -- region 2
    refine wl_det rfl rfl (det_assign rfl) rfl ?_
    refine wl_nil ?_
    refine pn_then ?_
    refine wc_ret ?_
    refine pr_then ?_
    refine pn_st (fun _ h => h.zeroS lGPosting 61 none) ?_
    replace h := Option.some.inj h
    subst h
    refine pn_ret (vs := [_]) rfl ⟨rfl, trivial⟩ ⟨none, 0, 0, rfl, rfl, rfl⟩ (fun _ h => h.to ⟨_, r0, trivial⟩ trivial)
  · refine wc_skip ?_
    refine pn_then ?_
    refine wc_seq ?_
    refine wc_region ?_   -- region 3
    refine wl_act (act_lit0S lGPosting un23 (by kernel_rfl)) rfl rfl rfl ?_
    rintro _ _ _ ⟨A3_0, rfl, rfl, rfl⟩
    refine wl_det rfl rfl (det_move rfl) rfl ?_
    obtain ⟨k3_2, h⟩ := chk_some h
    refine wl_act (act_appendS0 (L := lGPosting) rfl rfl s0 (src_F m0) un23 in61 rfl rfl rfl k3_2) rfl rfl rfl ?_
    rintro _ _ _ ⟨A3_2, c3_2, rfl, rfl, rfl⟩
    refine wl_det rfl rfl (det_assign rfl) rfl ?_
    refine wl_nil ?_
    refine pn_then ?_
    refine wc_ret ?_
    replace h := Option.some.inj h
    subst h
    refine pn_ret (vs := [_]) rfl ⟨rfl, trivial⟩ ⟨A3_2, a0.length, c3_2, rfl, rfl, rfl⟩ (fun _ h => h.to ⟨_, r0, trivial⟩ trivial)
end Go.Proofs.Ytdenliplkmjmjaa
