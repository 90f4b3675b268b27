/- That functions of the program compute the plain programs of P. Written by a small program. -/
import Derived.Test.YtlmhmpngjfjfhaaWContractApplies2
namespace Go.Proofs.Ytlmhmpngjfjfhaa
open Go.RowKit
def Q_contract_fields (r : Int) : Value → List Ent → List Fact → Prop := fun v θ κ => v = .int .i64 r ∧ θ = [] ∧ κ = []
theorem plains_contract_fields {r : Int} : ∀ v θ κ, Q_contract_fields r v θ κ → Plains θ := by
  rintro _ _ _ ⟨rfl, rfl, rfl⟩
  exact trivial
set_option maxHeartbeats 4000000 in
set_option maxRecDepth 100000 in
theorem W_contract_fields (a0 : GTreaty) (A0 : Option Addr) (n0 : Nat) (c0 : Nat) (A3 : Option Addr) (n3 : Nat) (c3 : Nat) (A6 : Option Addr) (n6 : Nat) (c6 : Nat) (A9 : Option Addr) (n9 : Nat) (c9 : Nat) (A12 : Option Addr) (n12 : Nat) (c12 : Nat) (r : Int) (h : contract_fields a0 = some r) : Spec Try.prog 74 [.agg #[.int .i64 a0.ID, .int .i64 a0.Kind, .int .i64 a0.Period.From, .int .i64 a0.Period.To, .slice A0 n0 c0, .slice A3 n3 c3, .int .i64 a0.Risk, .int .i64 a0.Cession, .int .i64 a0.Line, .int .i64 a0.Lines, .int .i64 a0.Retention, .int .i64 a0.Limit, .int .i64 a0.Window, .int .i64 a0.Deductible, .int .i64 a0.Aggregate, .int .i64 a0.Premium, .slice A6 n6 c6, .bool a0.Timed, .int .i64 a0.Base, .slice A9 n9 c9, .slice A12 n12 c12]] [] [fV (lSlice (lInt .i64)) (.slice A0 n0 c0) a0.Perils, fV (lSlice (lInt .i64)) (.slice A3 n3 c3) a0.Areas, fV (lSlice (lInt .i64)) (.slice A6 n6 c6) a0.Reinstatements, fV (lSlice (lInt .i64)) (.slice A9 n9 c9) a0.Inures, fV (lSlice lGPart) (.slice A12 n12 c12) a0.Parts] (Q_contract_fields r) := by
  unfold contract_fields at h
  refine spec_of (σ := [(0, _)]) Try.func74 rfl rfl rfl rfl ?_
  intro C
  refine wc_know (fun _ h => h.lenF m0) (fun e => ?_)
  subst e
  refine wc_know (fun _ h => h.lenF (ms m0)) (fun e => ?_)
  subst e
  refine wc_know (fun _ h => h.lenF (ms (ms m0))) (fun e => ?_)
  subst e
  refine wc_know (fun _ h => h.lenF (ms (ms (ms m0)))) (fun e => ?_)
  subst e
  refine wc_know (fun _ h => h.lenF (ms (ms (ms (ms m0))))) (fun e => ?_)
  subst e
  refine wc_seq ?_
  refine wc_region ?_   -- region 0
  refine wl_act (act_box (cs := [_, _, _, _, _, _, _, _, _, _, _, _, _, _, _, _, _, _, _, _, _]) rfl rfl) rfl rfl rfl ?_
  rintro _ _ _ ⟨b0_0, rfl, rfl, rfl⟩
  refine wl_det rfl rfl (det_assign rfl) rfl ?_
  refine wl_nil ?_
  refine pn_then ?_
  refine wc_seq ?_
  refine wc_region ?_   -- region 1
  refine wl_det rfl rfl (det_field rfl fd49_5 rfl) rfl ?_
  refine wl_det rfl rfl (det_load rfl m0 (by rfl) na3 us3) rfl ?_
  refine wl_det rfl rfl (det_field rfl fd49_6 rfl) rfl ?_
  refine wl_det rfl rfl (det_load rfl m0 (by rfl) na3 us3) rfl ?_
  refine wl_det rfl rfl (det_field rfl fd49_7 rfl) rfl ?_
  refine wl_det rfl rfl (det_load rfl m0 (by rfl) na3 us3) rfl ?_
  refine wl_det rfl rfl (det_field rfl fd49_8 rfl) rfl ?_
  refine wl_det rfl rfl (det_load rfl m0 (by rfl) na3 us3) rfl ?_
  refine wl_det rfl rfl (det_field rfl fd49_9 rfl) rfl ?_
  refine wl_det rfl rfl (det_load rfl m0 (by rfl) na3 us3) rfl ?_
  refine wl_det rfl rfl (det_field rfl fd49_10 rfl) rfl ?_
  refine wl_det rfl rfl (det_load rfl m0 (by rfl) na3 us3) rfl ?_
  refine wl_det rfl rfl (det_field rfl fd49_11 rfl) rfl ?_
  refine wl_det rfl rfl (det_load rfl m0 (by rfl) na3 us3) rfl ?_
  refine wl_det rfl rfl (det_field rfl fd49_12 rfl) rfl ?_
  refine wl_det rfl rfl (det_load rfl m0 (by rfl) na3 us3) rfl ?_
  refine wl_det rfl rfl (det_field rfl fd49_13 rfl) rfl ?_
  refine wl_det rfl rfl (det_load rfl m0 (by rfl) na3 us3) rfl ?_
  refine wl_det rfl rfl (det_field rfl fd49_17 rfl) rfl ?_
  refine wl_det rfl rfl (det_load rfl m0 (by rfl) na3 us3) rfl ?_
  refine wl_det rfl rfl (det_field rfl fd49_14 rfl) rfl ?_
  refine wl_det rfl rfl (det_load rfl m0 (by rfl) na3 us3) rfl ?_
  refine wl_det rfl rfl (det_buildA (cs := aC (encI .i64) [a0.Risk, a0.Cession, a0.Line, a0.Lines, a0.Retention, a0.Limit, a0.Window, a0.Deductible, a0.Aggregate, a0.Base, a0.Premium]) un108 sz3 zr108 rfl rfl (by rfl)) rfl ?_
  refine wl_act (act_alloc (cs := aC (encI .i64) (List.replicate 11 (0 : Int))) zr108 rfl) rfl rfl rfl ?_
  rintro _ _ _ ⟨b1_23, rfl, rfl, rfl⟩
  obtain ⟨k1_24, h⟩ := chk_some h
  obtain ⟨k1_24a, h⟩ := chk_some h
  refine wl_act0 (act_store (cells := aC (encI .i64) [a0.Risk, a0.Cession, a0.Line, a0.Lines, a0.Retention, a0.Limit, a0.Window, a0.Deductible, a0.Aggregate, a0.Base, a0.Premium]) (cs' := aC (encI .i64) [a0.Risk, a0.Cession, a0.Line, a0.Lines, a0.Retention, a0.Limit, a0.Window, a0.Deductible, a0.Aggregate, a0.Base, a0.Premium]) rfl rfl rfl s0 (aC_over (enc := (encI .i64)) (z := 1) (fun _ => rfl) k1_24 k1_24a) (aC_fits (enc := (encI .i64)) (z := 1) (fun _ => rfl) k1_24 k1_24a) (sz_aC (enc := (encI .i64)) (z := 1) sz108 (fun _ => rfl) k1_24a rfl) (aC_ones (fun _ u hu => ((lInt .i64)).one (w := default) (S := fun _ => True) rfl u hu) _)) rfl rfl ?_
  rintro _ _ _ ⟨rfl, rfl⟩
  refine wl_nil ?_
  refine pn_then ?_
  refine wc_seq ?_
  refine wc_region ?_   -- region 2
  refine wl_det rfl rfl (det_field rfl fd49_1 rfl) rfl ?_
  refine wl_det rfl rfl (det_load rfl (ms m0) (by rfl) na3 us3) rfl ?_
  obtain ⟨r2_2, hr2_2, h⟩ := bind_some h
  refine wl_act (act_callS (cap := []) (W_contract_ruleOf a0.Kind r2_2 hr2_2) rfl rfl rfl bd87 rfl trivial) rfl rfl rfl ?_
  rintro _ _ _ ⟨_, _, ⟨rfl, rfl, rfl⟩, rfl, rfl⟩
  dsimp only [List.nil_append, List.cons_append]
  refine wl_act (act_alloc (cs := aC encGspan (List.replicate 11 (Gspan.mk 0 0))) zr112 rfl) rfl rfl rfl ?_
  rintro _ _ _ ⟨b2_3, rfl, rfl, rfl⟩
  obtain ⟨k2_4, h⟩ := chk_some h
  obtain ⟨k2_4a, h⟩ := chk_some h
  refine wl_act0 (act_store (cells := aC encGspan r2_2) (cs' := aC encGspan r2_2) rfl rfl rfl s0 (aC_over (enc := encGspan) (z := 2) (fun _ => rfl) k2_4 k2_4a) (aC_fits (enc := encGspan) (z := 2) (fun _ => rfl) k2_4 k2_4a) (sz_aC (enc := encGspan) (z := 2) sz112 (fun _ => rfl) k2_4a rfl) (aC_ones (fun _ u hu => (lGspan).one (w := default) (S := fun _ => True) rfl u hu) _)) rfl rfl ?_
  rintro _ _ _ ⟨rfl, rfl⟩
  refine wl_nil ?_
  refine pn_then ?_
  obtain ⟨q6, h, ho6⟩ := bind_some h
  refine wc_meetG (G := Unit × Unit) (fun (s6, _) => (.inl s6) = q6) (fun (_, _) => [(1, .pointer (some ⟨b0_0, 0, none⟩)), (3, .pointer (some ⟨b1_23, 0, none⟩)), (4, .pointer (some ⟨b2_3, 0, none⟩))]) (fun (_, _) => [eBlk b0_0 49 [.int .i64 a0.ID, .int .i64 a0.Kind, .int .i64 a0.Period.From, .int .i64 a0.Period.To, .slice A0 a0.Perils.length c0, .slice A3 a0.Areas.length c3, .int .i64 a0.Risk, .int .i64 a0.Cession, .int .i64 a0.Line, .int .i64 a0.Lines, .int .i64 a0.Retention, .int .i64 a0.Limit, .int .i64 a0.Window, .int .i64 a0.Deductible, .int .i64 a0.Aggregate, .int .i64 a0.Premium, .slice A6 a0.Reinstatements.length c6, .bool a0.Timed, .int .i64 a0.Base, .slice A9 a0.Inures.length c9, .slice A12 a0.Parts.length c12], eBlk b1_23 108 (aC (encI .i64) [a0.Risk, a0.Cession, a0.Line, a0.Lines, a0.Retention, a0.Limit, a0.Window, a0.Deductible, a0.Aggregate, a0.Base, a0.Premium]), eBlk b2_3 112 (aC encGspan r2_2)]) (fun (_, _) => [fV (lSlice (lInt .i64)) (.slice A0 a0.Perils.length c0) a0.Perils, fV (lSlice (lInt .i64)) (.slice A3 a0.Areas.length c3) a0.Areas, fV (lSlice (lInt .i64)) (.slice A6 a0.Reinstatements.length c6) a0.Reinstatements, fV (lSlice (lInt .i64)) (.slice A9 a0.Inures.length c9) a0.Inures, fV (lSlice lGPart) (.slice A12 a0.Parts.length c12) a0.Parts]) ?_ ?_
  · refine wc_seq ?_
    refine wc_region ?_   -- region 3
    refine wl_det rfl rfl (det_loadN (cells := aC (encI .i64) [a0.Risk, a0.Cession, a0.Line, a0.Lines, a0.Retention, a0.Limit, a0.Window, a0.Deductible, a0.Aggregate, a0.Base, a0.Premium]) rfl (ms m0) aC_whole ag108 (sz_aC (enc := (encI .i64)) (z := 1) sz108 (fun _ => rfl) k1_24a rfl)) rfl ?_
    refine wl_det rfl rfl (det_move rfl) rfl ?_
    refine wl_nil ?_
    refine pn_then ?_
    refine wc_block ?_
    obtain ⟨o10, h, ho10⟩ := bind_some h
    obtain ⟨k10, hk10⟩ := loopV_some.1 h
    refine wc_loop (G := Nat × Int × Unit) (fun g => IterN (contract_fields_l10 a0 r2_2) g.1 g.2.1 o10) (fun g => g.1) (fun (_, s10, _) => [(1, .pointer (some ⟨b0_0, 0, none⟩)), (3, .pointer (some ⟨b1_23, 0, none⟩)), (4, .pointer (some ⟨b2_3, 0, none⟩)), (35, .agg (aC (encI .i64) [a0.Risk, a0.Cession, a0.Line, a0.Lines, a0.Retention, a0.Limit, a0.Window, a0.Deductible, a0.Aggregate, a0.Base, a0.Premium]).toArray), (36, .int .i64 s10)]) (fun (_, _, _) => [eBlk b0_0 49 [.int .i64 a0.ID, .int .i64 a0.Kind, .int .i64 a0.Period.From, .int .i64 a0.Period.To, .slice A0 a0.Perils.length c0, .slice A3 a0.Areas.length c3, .int .i64 a0.Risk, .int .i64 a0.Cession, .int .i64 a0.Line, .int .i64 a0.Lines, .int .i64 a0.Retention, .int .i64 a0.Limit, .int .i64 a0.Window, .int .i64 a0.Deductible, .int .i64 a0.Aggregate, .int .i64 a0.Premium, .slice A6 a0.Reinstatements.length c6, .bool a0.Timed, .int .i64 a0.Base, .slice A9 a0.Inures.length c9, .slice A12 a0.Parts.length c12], eBlk b1_23 108 (aC (encI .i64) [a0.Risk, a0.Cession, a0.Line, a0.Lines, a0.Retention, a0.Limit, a0.Window, a0.Deductible, a0.Aggregate, a0.Base, a0.Premium]), eBlk b2_3 112 (aC encGspan r2_2)]) (fun (_, _, _) => [fV (lSlice (lInt .i64)) (.slice A0 a0.Perils.length c0) a0.Perils, fV (lSlice (lInt .i64)) (.slice A3 a0.Areas.length c3) a0.Areas, fV (lSlice (lInt .i64)) (.slice A6 a0.Reinstatements.length c6) a0.Reinstatements, fV (lSlice (lInt .i64)) (.slice A9 a0.Inures.length c9) a0.Inures, fV (lSlice lGPart) (.slice A12 a0.Parts.length c12) a0.Parts]) (k10, 0, ()) hk10 ⟨rfl, rfl, rfl, rfl, rfl, trivial⟩ (fun _ h => h.to ⟨_, (rs (rs r0)), ⟨_, (rs r0), ⟨_, r0, trivial⟩⟩⟩ ⟨m0, ⟨(ms m0), ⟨(ms (ms m0)), ⟨(ms (ms (ms m0))), ⟨(ms (ms (ms (ms m0)))), trivial⟩⟩⟩⟩⟩) ?_
    rintro ⟨k10, s10, _⟩ hI
    obtain ⟨k10, rfl, q10, h, g10⟩ := IterN.pos hI
    dsimp only at h ⊢
    unfold contract_fields_l10 at h
    refine wc_seq ?_
    refine wc_region ?_   -- region 4
    refine wl_det rfl rfl (det_lss rfl rfl) rfl ?_
    refine wl_nil ?_
    refine pn_then ?_
    refine wc_seq ?_
    refine wc_cond rfl (fun cd14 => ?_) (fun cd14 => ?_)
    · have h := ifT h cd14
      refine wc_skip ?_
      refine pn_then ?_
      refine wc_seq ?_
      refine wc_block ?_
      refine wc_seq ?_
      refine wc_region ?_   -- region 5
      refine wl_det rfl rfl (det_move rfl) rfl ?_
      obtain ⟨k5_1, h⟩ := chk_some h
      obtain ⟨k5_1a, h⟩ := chk_some h
      obtain ⟨k5_1b, h⟩ := chk_some h
      refine wl_det rfl rfl (det_indexAV (enc := (encI .i64)) (xs := [a0.Risk, a0.Cession, a0.Line, a0.Lines, a0.Retention, a0.Limit, a0.Window, a0.Deductible, a0.Aggregate, a0.Base, a0.Premium]) (fun _ => rfl) rfl rfl k5_1 k5_1a k5_1b rfl un108 sz3 na3 us3) rfl ?_
      refine wl_det rfl rfl (det_assign rfl) rfl ?_
      refine wl_det rfl rfl (det_assign rfl) rfl ?_
      refine wl_nil ?_
      refine pn_then ?_
      refine wc_seq ?_
      refine wc_region ?_   -- region 6
      refine wl_det rfl rfl (det_move rfl) rfl ?_
      refine wl_det rfl rfl (det_indexA rfl rfl k5_1 k5_1a un112 sz110) rfl ?_
      obtain ⟨k6_2, h⟩ := chk_some h
      refine wl_det rfl rfl (det_loadN (cells := [.int .i64 (ix r2_2 s10).low, .int .i64 (ix r2_2 s10).high]) rfl (ms (ms m0)) (aC_cut (enc := encGspan) (z := 2) (o := 0) (fun _ => rfl) k6_2 rfl rfl) ag110 sz110) rfl ?_
      refine wl_det rfl rfl (det_build (cs := [_, _]) pl110 zr110 rfl rfl (by rfl)) rfl ?_
      refine wl_det rfl rfl (det_eqlS [_, _] [_, _] eq110 rfl rfl rfl rfl) rfl ?_
      refine wl_det rfl rfl (det_move rfl) rfl ?_
      refine wl_way (decide ([(ix r2_2 s10).low, (ix r2_2 s10).high] = [0, 0])) ((decide ([(ix r2_2 s10).low, (ix r2_2 s10).high] = [0, 0])) && (!decide ((ix [a0.Risk, a0.Cession, a0.Line, a0.Lines, a0.Retention, a0.Limit, a0.Window, a0.Deductible, a0.Aggregate, a0.Base, a0.Premium] s10) = 0))) 3 48 (fun hg => ?_) (fun hg => ?_) ?_
      · have hg6_8 := hg
        refine wl_on rfl rfl rfl rfl hg6_8 ?_
        refine wl_det rfl rfl (det_move rfl) rfl ?_
        refine wl_on rfl rfl rfl rfl hg6_8 ?_
        refine wl_det rfl rfl (det_neq rfl rfl) rfl ?_
        refine wl_det rfl rfl (det_and_on rfl rfl rfl hg6_8) rfl ?_
        exact wl_nil (pn_qnE (ext_cons rfl (ext_skip rfl (ext_skip rfl (ext_skip rfl ext_refl)))) (fun _ h => h))
      · have hg6_8a := hg
        refine wl_off rfl rfl rfl rfl rfl hg6_8a rfl ?_
        refine wl_off rfl rfl rfl rfl rfl hg6_8a rfl ?_
        refine wl_det rfl rfl (det_and_off (q := (!decide ((ix [a0.Risk, a0.Cession, a0.Line, a0.Lines, a0.Retention, a0.Limit, a0.Window, a0.Deductible, a0.Aggregate, a0.Base, a0.Premium] s10) = 0))) rfl rfl rfl hg6_8a) rfl ?_
        exact wl_nil (pn_qnE (ext_cons rfl (ext_skip rfl (ext_skip rfl (ext_skip rfl ext_refl)))) (fun _ h => h))
      refine wl_nil ?_
      refine pn_then ?_
      refine wc_cond rfl (fun cd22 => ?_) (fun cd22 => ?_)
      · have h := ifT h cd22
        refine wc_seq ?_
        refine wc_region ?_   -- region 7
        refine wl_det rfl rfl (det_assign rfl) rfl ?_
        refine wl_nil ?_
        refine pn_then ?_
        refine wc_ret ?_
        refine pr_block ?_
        refine pr_then ?_
        refine pr_then ?_
        refine pr_block ?_
        refine pr_then ?_
        replace h := Option.some.inj h
        subst h
        replace g10 := nextR g10
        subst g10
        have h := (elimL ho10)
        replace h := Option.some.inj h
        subst h
        have h := (elimR ho6)
        replace h := Option.some.inj h
        subst h
        refine pn_ret (vs := [_]) rfl ⟨rfl, trivial⟩ ⟨rfl, rfl, rfl⟩ (fun _ h => h.to trivial trivial)
      · have h := ifF h cd22
        refine wc_skip ?_
        refine pn_block ?_
        refine pn_then ?_
        refine wc_region ?_   -- region 8
        refine wl_det rfl rfl (det_add rfl rfl) rfl ?_
        refine wl_det rfl rfl (det_move rfl) rfl ?_
        refine wl_nil ?_
        replace h := Option.some.inj h
        subst h
        exact pn_some (k10, (w64 (s10 + 1)), ()) ⟨nextL g10, Nat.lt_succ_self _⟩ ⟨rfl, rfl, rfl, rfl, rfl, trivial⟩ (fun _ h => h.to ⟨_, r0, ⟨_, r0, ⟨_, r0, trivial⟩⟩⟩ ⟨m0, ⟨(ms m0), ⟨(ms (ms m0)), ⟨(ms (ms (ms m0))), ⟨(ms (ms (ms (ms m0)))), trivial⟩⟩⟩⟩⟩)
    · have h := ifF h cd14
      refine wc_exit ?_
      refine px_then ?_
      refine px_then ?_
      refine px_block ?_
      replace h := Option.some.inj h
      subst h
      replace g10 := nextR g10
      subst g10
      have h := (elimR ho10)
      replace h := Option.some.inj h
      subst h
      exact pn_meetG ((), ()) rfl ⟨rfl, rfl, rfl, trivial⟩ (fun _ h => h.to ⟨_, r0, ⟨_, r0, ⟨_, r0, trivial⟩⟩⟩ ⟨m0, ⟨(ms m0), ⟨(ms (ms m0)), ⟨(ms (ms (ms m0))), ⟨(ms (ms (ms (ms m0)))), trivial⟩⟩⟩⟩⟩)
  rintro ⟨s6, _⟩ e6
  dsimp only at e6 ⊢
  subst e6
  have h := (elimL ho6)
  refine wc_seq ?_
  refine wc_seq ?_
  refine wc_region ?_   -- region 9
  refine wl_det rfl rfl (det_field rfl fd49_15 rfl) rfl ?_
  refine wl_det rfl rfl (det_load rfl m0 (by rfl) na23 us23) rfl ?_
  refine wl_det rfl rfl (det_len rfl un23) rfl ?_
  refine wl_det rfl rfl (det_gtr rfl rfl) rfl ?_
  refine wl_det rfl rfl (det_move rfl) rfl ?_
  refine wl_way (decide (0 < (a0.Reinstatements.length : Int))) ((decide (0 < (a0.Reinstatements.length : Int))) && (!decide (a0.Kind = 4))) 4 58 (fun hg => ?_) (fun hg => ?_) ?_
  · have hg9_8 := hg
    refine wl_on rfl rfl rfl rfl hg9_8 ?_
    refine wl_det rfl rfl (det_field rfl fd49_1 rfl) rfl ?_
    refine wl_on rfl rfl rfl rfl hg9_8 ?_
    refine wl_det rfl rfl (det_load rfl m0 (by rfl) na3 us3) rfl ?_
    refine wl_on rfl rfl rfl rfl hg9_8 ?_
    refine wl_det rfl rfl (det_neq rfl rfl) rfl ?_
    refine wl_det rfl rfl (det_and_on rfl rfl rfl hg9_8) rfl ?_
    exact wl_nil (pn_qnE (ext_cons rfl (ext_skip rfl (ext_skip rfl (ext_skip rfl (ext_skip rfl ext_refl))))) (fun _ h => h))
  · have hg9_8a := hg
    refine wl_off rfl rfl rfl rfl rfl hg9_8a rfl ?_
    refine wl_off rfl rfl rfl rfl rfl hg9_8a rfl ?_
    refine wl_off rfl rfl rfl rfl rfl hg9_8a rfl ?_
    refine wl_det rfl rfl (det_and_off (q := (!decide (a0.Kind = 4))) rfl rfl rfl hg9_8a) rfl ?_
    exact wl_nil (pn_qnE (ext_cons rfl (ext_skip rfl (ext_skip rfl (ext_skip rfl (ext_skip rfl ext_refl))))) (fun _ h => h))
  refine wl_det rfl rfl (det_move rfl) rfl ?_
  refine wl_way ((decide (0 < (a0.Reinstatements.length : Int))) && (!decide (a0.Kind = 4))) (((decide (0 < (a0.Reinstatements.length : Int))) && (!decide (a0.Kind = 4))) && (!decide (a0.Kind = 5))) 4 63 (fun hg => ?_) (fun hg => ?_) ?_
  · have hg9_13 := hg
    refine wl_on rfl rfl rfl rfl hg9_13 ?_
    refine wl_det rfl rfl (det_field rfl fd49_1 rfl) rfl ?_
    refine wl_on rfl rfl rfl rfl hg9_13 ?_
    refine wl_det rfl rfl (det_load rfl m0 (by rfl) na3 us3) rfl ?_
    refine wl_on rfl rfl rfl rfl hg9_13 ?_
    refine wl_det rfl rfl (det_neq rfl rfl) rfl ?_
    refine wl_det rfl rfl (det_and_on rfl rfl rfl hg9_13) rfl ?_
    exact wl_nil (pn_qnE (ext_cons rfl (ext_skip rfl (ext_skip rfl (ext_skip rfl (ext_skip rfl ext_refl))))) (fun _ h => h))
  · have hg9_13a := hg
    refine wl_off rfl rfl rfl rfl rfl hg9_13a rfl ?_
    refine wl_off rfl rfl rfl rfl rfl hg9_13a rfl ?_
    refine wl_off rfl rfl rfl rfl rfl hg9_13a rfl ?_
    refine wl_det rfl rfl (det_and_off (q := (!decide (a0.Kind = 5))) rfl rfl rfl hg9_13a) rfl ?_
    exact wl_nil (pn_qnE (ext_cons rfl (ext_skip rfl (ext_skip rfl (ext_skip rfl (ext_skip rfl ext_refl))))) (fun _ h => h))
  refine wl_nil ?_
  refine pn_then ?_
  refine wc_cond rfl (fun cd29 => ?_) (fun cd29 => ?_)
  · have h := ifT h cd29
    refine wc_seq ?_
    refine wc_region ?_   -- region 10
    refine wl_det rfl rfl (det_assign rfl) rfl ?_
    refine wl_nil ?_
    refine pn_then ?_
    refine wc_ret ?_
    refine pr_then ?_
    replace h := Option.some.inj h
    subst h
    refine pn_ret (vs := [_]) rfl ⟨rfl, trivial⟩ ⟨rfl, rfl, rfl⟩ (fun _ h => h.to trivial trivial)
  · have h := ifF h cd29
    refine wc_skip ?_
    refine pn_then ?_
    refine wc_seq ?_
    refine wc_seq ?_
    refine wc_region ?_   -- region 11
    refine wl_det rfl rfl (det_field rfl fd49_15 rfl) rfl ?_
    refine wl_det rfl rfl (det_load rfl m0 (by rfl) na23 us23) rfl ?_
    refine wl_det rfl rfl (det_len rfl un23) rfl ?_
    refine wl_det rfl rfl (det_eql rfl rfl) rfl ?_
    refine wl_det rfl rfl (det_move rfl) rfl ?_
    refine wl_way (decide ((a0.Reinstatements.length : Int) = 0)) ((decide ((a0.Reinstatements.length : Int) = 0)) && a0.Timed) 3 71 (fun hg => ?_) (fun hg => ?_) ?_
    · have hg11_7 := hg
      refine wl_on rfl rfl rfl rfl hg11_7 ?_
      refine wl_det rfl rfl (det_field rfl fd49_16 rfl) rfl ?_
      refine wl_on rfl rfl rfl rfl hg11_7 ?_
      refine wl_det rfl rfl (det_load rfl m0 (by rfl) na4 us4) rfl ?_
      refine wl_det rfl rfl (det_and_on rfl rfl rfl hg11_7) rfl ?_
      exact wl_nil (pn_qnE (ext_cons rfl (ext_skip rfl (ext_skip rfl (ext_skip rfl ext_refl)))) (fun _ h => h))
    · have hg11_7a := hg
      refine wl_off rfl rfl rfl rfl rfl hg11_7a rfl ?_
      refine wl_off rfl rfl rfl rfl rfl hg11_7a rfl ?_
      refine wl_det rfl rfl (det_and_off (q := a0.Timed) rfl rfl rfl hg11_7a) rfl ?_
      exact wl_nil (pn_qnE (ext_cons rfl (ext_skip rfl (ext_skip rfl (ext_skip rfl ext_refl)))) (fun _ h => h))
    refine wl_nil ?_
    refine pn_then ?_
    refine wc_cond rfl (fun cd35 => ?_) (fun cd35 => ?_)
    · have h := ifT h cd35
      refine wc_seq ?_
      refine wc_region ?_   -- region 12
      refine wl_det rfl rfl (det_assign rfl) rfl ?_
      refine wl_nil ?_
      refine pn_then ?_
      refine wc_ret ?_
      refine pr_then ?_
      replace h := Option.some.inj h
      subst h
      refine pn_ret (vs := [_]) rfl ⟨rfl, trivial⟩ ⟨rfl, rfl, rfl⟩ (fun _ h => h.to trivial trivial)
    · have h := ifF h cd35
      refine wc_skip ?_
      refine pn_then ?_
      obtain ⟨q38, h, ho38⟩ := bind_some h
      refine wc_meetG (G := Unit × Unit) (fun (s38, _) => (.inl s38) = q38) (fun (_, _) => []) (fun (_, _) => []) (fun (_, _) => []) ?_ ?_
      · refine wc_seq ?_
        refine wc_region ?_   -- region 13
        refine wl_det rfl rfl (det_loadN (cells := aC (encI .i64) [a0.Risk, a0.Cession, a0.Line, a0.Lines, a0.Retention, a0.Limit, a0.Window, a0.Deductible, a0.Aggregate, a0.Base, a0.Premium]) rfl (ms m0) aC_whole ag108 (sz_aC (enc := (encI .i64)) (z := 1) sz108 (fun _ => rfl) k1_24a rfl)) rfl ?_
        refine wl_det rfl rfl (det_move rfl) rfl ?_
        refine wl_nil ?_
        refine pn_then ?_
        refine wc_block ?_
        obtain ⟨o42, h, ho42⟩ := bind_some h
        obtain ⟨k42, hk42⟩ := loopV_some.1 h
        refine wc_loop (G := Nat × Int × Unit) (fun g => IterN (contract_fields_l42 a0 r2_2) g.1 g.2.1 o42) (fun g => g.1) (fun (_, s42, _) => [(4, .pointer (some ⟨b2_3, 0, none⟩)), (72, .agg (aC (encI .i64) [a0.Risk, a0.Cession, a0.Line, a0.Lines, a0.Retention, a0.Limit, a0.Window, a0.Deductible, a0.Aggregate, a0.Base, a0.Premium]).toArray), (73, .int .i64 s42)]) (fun (_, _, _) => [eBlk b2_3 112 (aC encGspan r2_2)]) (fun (_, _, _) => []) (k42, 0, ()) hk42 ⟨rfl, rfl, rfl, trivial⟩ (fun _ h => h.to ⟨_, (rs (rs r0)), trivial⟩ trivial) ?_
        rintro ⟨k42, s42, _⟩ hI
        obtain ⟨k42, rfl, q42, h, g42⟩ := IterN.pos hI
        dsimp only at h ⊢
        unfold contract_fields_l42 at h
        refine wc_seq ?_
        refine wc_region ?_   -- region 14
        refine wl_det rfl rfl (det_lss rfl rfl) rfl ?_
        refine wl_nil ?_
        refine pn_then ?_
        refine wc_seq ?_
        refine wc_cond rfl (fun cd46 => ?_) (fun cd46 => ?_)
        · have h := ifT h cd46
          refine wc_skip ?_
          refine pn_then ?_
          refine wc_seq ?_
          refine wc_block ?_
          refine wc_seq ?_
          refine wc_region ?_   -- region 15
          refine wl_det rfl rfl (det_move rfl) rfl ?_
          obtain ⟨k15_1, h⟩ := chk_some h
          obtain ⟨k15_1a, h⟩ := chk_some h
          obtain ⟨k15_1b, h⟩ := chk_some h
          refine wl_det rfl rfl (det_indexAV (enc := (encI .i64)) (xs := [a0.Risk, a0.Cession, a0.Line, a0.Lines, a0.Retention, a0.Limit, a0.Window, a0.Deductible, a0.Aggregate, a0.Base, a0.Premium]) (fun _ => rfl) rfl rfl k15_1 k15_1a k15_1b rfl un108 sz3 na3 us3) rfl ?_
          refine wl_det rfl rfl (det_assign rfl) rfl ?_
          refine wl_det rfl rfl (det_assign rfl) rfl ?_
          refine wl_nil ?_
          refine pn_then ?_
          obtain ⟨q52, h, ho52⟩ := bind_some h
          refine wc_meetG (G := Bool × Unit) (fun (s52, _) => s52 = q52) (fun (s52, _) => [(4, .pointer (some ⟨b2_3, 0, none⟩)), (72, .agg (aC (encI .i64) [a0.Risk, a0.Cession, a0.Line, a0.Lines, a0.Retention, a0.Limit, a0.Window, a0.Deductible, a0.Aggregate, a0.Base, a0.Premium]).toArray), (73, .int .i64 s42), (94, .bool s52)]) (fun (_, _) => [eBlk b2_3 112 (aC encGspan r2_2)]) (fun (_, _) => []) ?_ ?_
          · rcases Bool.eq_false_or_eq_true (!(decide ([(ix r2_2 s42).low, (ix r2_2 s42).high] = [0, 0]))) with hg16_g82 | hg16_g82
            · have h := ifT h hg16_g82
              obtain ⟨k16_p1, h⟩ := chk_some h
              refine dx_region 18 [[], [0], [0, 1], [], [0, 1, 2, 3], [0, 1, 2, 3, 4], [0, 1, 2, 3, 4, 5], [0, 1, 2, 3, 4, 5], [0, 1, 2, 3, 4, 5, 7], [0, 1, 2, 3, 4, 5, 7, 8], [0, 1, 2, 3, 4, 5, 7, 8, 9], [0, 1, 2, 3, 4, 5], [0, 1, 2, 3, 4, 5, 11], [0, 1, 2, 3, 4, 5, 11, 12], [0, 1, 2, 3, 4, 5, 11, 12, 13], [0, 1, 2, 3, 4, 5, 6, 7, 8, 9, 10, 11, 12, 13, 14], [0, 1, 2, 3, 4, 5, 6, 7, 8, 9, 10, 11, 12, 13, 14, 15], [0, 1, 2, 3, 4, 5, 6, 7, 8, 9, 10, 11, 12, 13, 14, 15, 16]] mixed (ord := (.det 0 (.det 1 (.det 2 (.det 3 (.det 4 (.det 5 (.det 6 (.det 7 (.det 8 (.det 9 (.det 10 (.det 11 (.det 12 (.det 13 (.det 14 (.alt 15 (.det 16 (.det 17 .done)) .dead))))))))))))))))) (by kernel_rfl) ?_   -- region 16
              refine hx_det rfl rfl rfl nofun (det_move rfl) rfl ?_
              refine hx_det rfl rfl rfl nofun (det_indexA rfl rfl k15_1 k15_1a un112 sz110) rfl ?_
              refine hx_det rfl rfl rfl nofun (det_loadN (cells := [.int .i64 (ix r2_2 s42).low, .int .i64 (ix r2_2 s42).high]) rfl m0 (aC_cut (enc := encGspan) (z := 2) (o := 0) (fun _ => rfl) k16_p1 rfl rfl) ag110 sz110) rfl ?_
              refine hx_det rfl rfl rfl nofun (det_build (cs := [_, _]) pl110 zr110 rfl rfl (by rfl)) rfl ?_
              refine hx_det rfl rfl rfl nofun (det_neqS [_, _] [_, _] eq110 rfl rfl rfl rfl) rfl ?_
              refine hx_det rfl rfl rfl nofun (det_move rfl) rfl ?_
              refine hx_on rfl rfl rfl rfl rfl hg16_g82 nofun (det_move rfl) rfl ?_
              refine hx_on rfl rfl rfl rfl rfl hg16_g82 nofun (det_move rfl) rfl ?_
              refine hx_on rfl rfl rfl rfl rfl hg16_g82 nofun (det_indexA rfl rfl k15_1 k15_1a un112 sz110) rfl ?_
              refine hx_on rfl rfl rfl rfl rfl hg16_g82 nofun (det_field rfl fd110_0 rfl) rfl ?_
              refine hx_on rfl rfl rfl rfl rfl hg16_g82 nofun (det_load rfl m0 (aC_get (enc := encGspan) (z := 2) (o := 0) (fun _ => rfl) k16_p1 rfl) na3 us3) rfl ?_
              refine hx_on rfl rfl rfl rfl rfl hg16_g82 nofun (det_move rfl) rfl ?_
              refine hx_on rfl rfl rfl rfl rfl hg16_g82 nofun (det_indexA rfl rfl k15_1 k15_1a un112 sz110) rfl ?_
              refine hx_on rfl rfl rfl rfl rfl hg16_g82 nofun (det_field rfl fd110_1 rfl) rfl ?_
              refine hx_on rfl rfl rfl rfl rfl hg16_g82 nofun (det_load rfl m0 (aC_get (enc := encGspan) (z := 2) (o := 1) (fun _ => rfl) k16_p1 rfl) na3 us3) rfl ?_
              obtain ⟨r16_15, hr16_15, h⟩ := bind_some h
              refine hx_actG rfl rfl rfl rfl rfl hg16_g82 (act_callS (cap := []) (W_contract_within (ix [a0.Risk, a0.Cession, a0.Line, a0.Lines, a0.Retention, a0.Limit, a0.Window, a0.Deductible, a0.Aggregate, a0.Base, a0.Premium] s42) (ix r2_2 s42).low (ix r2_2 s42).high r16_15 hr16_15) rfl rfl rfl bd46 rfl trivial) rfl (by rintro _ _ _ ⟨_, _, _, rfl, rfl⟩; first | exact ⟨_, _, rfl, rfl⟩ | exact ⟨_, [], rfl, rfl⟩) ?_
              rintro _ _ _ ⟨_, _, ⟨rfl, rfl, rfl⟩, rfl, rfl⟩
              dsimp only [List.nil_append, List.cons_append]
              refine hx_on rfl rfl rfl rfl rfl hg16_g82 nofun (det_not rfl) rfl ?_
              refine hx_det rfl rfl rfl nofun (det_pick_on rfl hg16_g82 rfl rfl) rfl ?_
              refine hx_end ?_
              refine wl_nil ?_
              replace h := Option.some.inj h
              subst h
              exact pn_meetG ((!r16_15), ()) rfl ⟨rfl, rfl, rfl, rfl, trivial⟩ (fun _ h => h.to ⟨_, r0, trivial⟩ trivial)
            · have h := ifF h hg16_g82
              obtain ⟨k16_p2, h⟩ := chk_some h
              refine dx_region 18 [[], [0], [0, 1], [], [0, 1, 2, 3], [0, 1, 2, 3, 4], [0, 1, 2, 3, 4, 5], [0, 1, 2, 3, 4, 5], [0, 1, 2, 3, 4, 5, 7], [0, 1, 2, 3, 4, 5, 7, 8], [0, 1, 2, 3, 4, 5, 7, 8, 9], [0, 1, 2, 3, 4, 5], [0, 1, 2, 3, 4, 5, 11], [0, 1, 2, 3, 4, 5, 11, 12], [0, 1, 2, 3, 4, 5, 11, 12, 13], [0, 1, 2, 3, 4, 5, 6, 7, 8, 9, 10, 11, 12, 13, 14], [0, 1, 2, 3, 4, 5, 6, 7, 8, 9, 10, 11, 12, 13, 14, 15], [0, 1, 2, 3, 4, 5, 6, 7, 8, 9, 10, 11, 12, 13, 14, 15, 16]] mixed (ord := (.det 0 (.det 1 (.det 2 (.det 3 (.det 4 (.det 5 (.det 6 (.det 7 (.det 8 (.det 9 (.det 10 (.det 11 (.det 12 (.det 13 (.det 14 (.det 15 (.det 16 (.det 17 .done))))))))))))))))))) (by kernel_rfl) ?_   -- region 16
              refine hx_det rfl rfl rfl nofun (det_move rfl) rfl ?_
              refine hx_det rfl rfl rfl nofun (det_indexA rfl rfl k15_1 k15_1a un112 sz110) rfl ?_
              refine hx_det rfl rfl rfl nofun (det_loadN (cells := [.int .i64 (ix r2_2 s42).low, .int .i64 (ix r2_2 s42).high]) rfl m0 (aC_cut (enc := encGspan) (z := 2) (o := 0) (fun _ => rfl) k16_p2 rfl rfl) ag110 sz110) rfl ?_
              refine hx_det rfl rfl rfl nofun (det_build (cs := [_, _]) pl110 zr110 rfl rfl (by rfl)) rfl ?_
              refine hx_det rfl rfl rfl nofun (det_neqS [_, _] [_, _] eq110 rfl rfl rfl rfl) rfl ?_
              refine hx_det rfl rfl rfl nofun (det_move rfl) rfl ?_
              refine hx_off rfl rfl rfl rfl rfl hg16_g82 rfl ?_
              refine hx_off rfl rfl rfl rfl rfl hg16_g82 rfl ?_
              refine hx_off rfl rfl rfl rfl rfl hg16_g82 rfl ?_
              refine hx_off rfl rfl rfl rfl rfl hg16_g82 rfl ?_
              refine hx_off rfl rfl rfl rfl rfl hg16_g82 rfl ?_
              refine hx_off rfl rfl rfl rfl rfl hg16_g82 rfl ?_
              refine hx_off rfl rfl rfl rfl rfl hg16_g82 rfl ?_
              refine hx_off rfl rfl rfl rfl rfl hg16_g82 rfl ?_
              refine hx_off rfl rfl rfl rfl rfl hg16_g82 rfl ?_
              refine hx_off rfl rfl rfl rfl rfl hg16_g82 rfl ?_
              refine hx_off rfl rfl rfl rfl rfl hg16_g82 rfl ?_
              refine hx_det rfl rfl rfl nofun (det_pick_off rfl hg16_g82 rfl rfl) rfl ?_
              refine hx_end ?_
              refine wl_nil ?_
              replace h := Option.some.inj h
              subst h
              exact pn_meetG (false, ()) rfl ⟨rfl, rfl, rfl, rfl, trivial⟩ (fun _ h => h.to ⟨_, r0, trivial⟩ trivial)
          rintro ⟨s52, _⟩ e52
          dsimp only at e52 ⊢
          subst e52
          have h := ho52
          refine wc_cond rfl (fun cd54 => ?_) (fun cd54 => ?_)
          · have h := ifT h cd54
            refine wc_seq ?_
            refine wc_region ?_   -- region 17
            refine wl_det rfl rfl (det_assign rfl) rfl ?_
            refine wl_nil ?_
            refine pn_then ?_
            refine wc_ret ?_
            refine pr_block ?_
            refine pr_then ?_
            refine pr_then ?_
            refine pr_block ?_
            refine pr_then ?_
            replace h := Option.some.inj h
            subst h
            replace g42 := nextR g42
            subst g42
            have h := (elimL ho42)
            replace h := Option.some.inj h
            subst h
            have h := (elimR ho38)
            replace h := Option.some.inj h
            subst h
            refine pn_ret (vs := [_]) rfl ⟨rfl, trivial⟩ ⟨rfl, rfl, rfl⟩ (fun _ h => h.to trivial trivial)
          · have h := ifF h cd54
            refine wc_skip ?_
            refine pn_block ?_
            refine pn_then ?_
            refine wc_region ?_   -- region 18
            refine wl_det rfl rfl (det_add rfl rfl) rfl ?_
            refine wl_det rfl rfl (det_move rfl) rfl ?_
            refine wl_nil ?_
            replace h := Option.some.inj h
            subst h
            exact pn_some (k42, (w64 (s42 + 1)), ()) ⟨nextL g42, Nat.lt_succ_self _⟩ ⟨rfl, rfl, rfl, trivial⟩ (fun _ h => h.to ⟨_, r0, trivial⟩ trivial)
        · have h := ifF h cd46
          refine wc_exit ?_
          refine px_then ?_
          refine px_then ?_
          refine px_block ?_
          replace h := Option.some.inj h
          subst h
          replace g42 := nextR g42
          subst g42
          have h := (elimR ho42)
          replace h := Option.some.inj h
          subst h
          exact pn_meetG ((), ()) rfl trivial (fun _ h => h.to trivial trivial)
      rintro ⟨s38, _⟩ e38
      dsimp only at e38 ⊢
      subst e38
      have h := (elimL ho38)
      refine wc_seq ?_
      refine wc_region ?_   -- region 19
      refine wl_det rfl rfl (det_assign rfl) rfl ?_
      refine wl_nil ?_
      refine pn_then ?_
      refine wc_ret ?_
      replace h := Option.some.inj h
      subst h
      refine pn_ret (vs := [_]) rfl ⟨rfl, trivial⟩ ⟨rfl, rfl, rfl⟩ (fun _ h => h.to trivial trivial)
def Q_slices_Index_s_int_int (r : Int) : Value → List Ent → List Fact → Prop := fun v θ κ => v = .int .i64 r ∧ θ = [] ∧ κ = []
theorem plains_slices_Index_s_int_int {r : Int} : ∀ v θ κ, Q_slices_Index_s_int_int r v θ κ → Plains θ := by
  rintro _ _ _ ⟨rfl, rfl, rfl⟩
  exact trivial
set_option maxHeartbeats 4000000 in
set_option maxRecDepth 100000 in
theorem W_slices_Index_s_int_int (a0 : (List Int)) (a1 : Int) (A0 : Option Addr) (n0 : Nat) (c0 : Nat) (r : Int) (h : slices_Index_s_int_int a0 a1 = some r) : Spec Try.prog 79 [.slice A0 n0 c0, .int .i64 a1] [] [fV (lSlice (lInt .i64)) (.slice A0 n0 c0) a0] (Q_slices_Index_s_int_int r) := by
  unfold slices_Index_s_int_int at h
  refine spec_of (σ := [(0, _), (1, _)]) Try.func79 rfl rfl rfl rfl ?_
  intro C
  refine wc_know (fun _ h => h.lenF m0) (fun e => ?_)
  subst e
  refine wc_seq ?_
  refine wc_region ?_   -- region 0
  refine wl_det rfl rfl (det_assign rfl) rfl ?_
  refine wl_nil ?_
  refine pn_then ?_
  obtain ⟨q2, h, ho2⟩ := bind_some h
  refine wc_meetG (G := Unit × Unit) (fun (s2, _) => (.inl s2) = q2) (fun (_, _) => []) (fun (_, _) => []) (fun (_, _) => []) ?_ ?_
  · refine wc_seq ?_
    refine wc_region ?_   -- region 1
    refine wl_det rfl rfl (det_move rfl) rfl ?_
    refine wl_det rfl rfl (det_len rfl un23) rfl ?_
    refine wl_det rfl rfl (det_move rfl) rfl ?_
    refine wl_nil ?_
    refine pn_then ?_
    refine wc_block ?_
    obtain ⟨o6, h, ho6⟩ := bind_some h
    obtain ⟨k6, hk6⟩ := loopV_some.1 h
    refine wc_loop (G := Nat × Int × Unit) (fun g => IterN (slices_Index_s_int_int_l6 a0 a1) g.1 g.2.1 o6) (fun g => g.1) (fun (_, s6, _) => [(0, .slice A0 a0.length c0), (1, .int .i64 a1), (7, .int .i64 (a0.length : Int)), (8, .int .i64 s6)]) (fun (_, _, _) => []) (fun (_, _, _) => [fV (lSlice (lInt .i64)) (.slice A0 a0.length c0) a0]) (k6, 0, ()) hk6 ⟨rfl, rfl, rfl, rfl, trivial⟩ (fun _ h => h.to trivial ⟨m0, trivial⟩) ?_
    rintro ⟨k6, s6, _⟩ hI
    obtain ⟨k6, rfl, q6, h, g6⟩ := IterN.pos hI
    dsimp only at h ⊢
    unfold slices_Index_s_int_int_l6 at h
    refine wc_seq ?_
    refine wc_region ?_   -- region 2
    refine wl_det rfl rfl (det_lss rfl rfl) rfl ?_
    refine wl_nil ?_
    refine pn_then ?_
    refine wc_seq ?_
    refine wc_cond rfl (fun cd10 => ?_) (fun cd10 => ?_)
    · have h := ifT h cd10
      refine wc_skip ?_
      refine pn_then ?_
      refine wc_seq ?_
      refine wc_block ?_
      refine wc_seq ?_
      refine wc_region ?_   -- region 3
      refine wl_det rfl rfl (det_move rfl) rfl ?_
      refine wl_det rfl rfl (det_assign rfl) rfl ?_
      refine wl_nil ?_
      refine pn_then ?_
      refine wc_seq ?_
      refine wc_region ?_   -- region 4
      refine wl_det rfl rfl (det_move rfl) rfl ?_
      refine wl_det rfl rfl (det_move rfl) rfl ?_
      refine wl_det rfl rfl (det_move rfl) rfl ?_
      obtain ⟨k4_3, h⟩ := chk_some h
      refine wl_st (fun _ h => h.openF m0 k4_3) ?_
      refine wl_det rfl rfl (det_indexP rfl rfl (ms m0) k4_3 m0 un23 sz3) rfl ?_
      refine wl_det rfl rfl (det_loadP (off := 0) rfl m0 (by rfl) (by rfl) (loaded_1 na3 us3)) rfl ?_
      refine wl_det rfl rfl (det_eql rfl rfl) rfl ?_
      refine wl_nil ?_
      refine pn_then ?_
      refine wc_cond rfl (fun cd18 => ?_) (fun cd18 => ?_)
      · have h := ifT h cd18
        refine wc_seq ?_
        refine wc_region ?_   -- region 5
        refine wl_det rfl rfl (det_move rfl) rfl ?_
        refine wl_det rfl rfl (det_assign rfl) rfl ?_
        refine wl_nil ?_
        refine pn_then ?_
        refine wc_ret ?_
        refine pr_block ?_
        refine pr_then ?_
        refine pr_then ?_
        refine pr_block ?_
        refine pr_then ?_
        replace h := Option.some.inj h
        subst h
        replace g6 := nextR g6
        subst g6
        have h := (elimL ho6)
        replace h := Option.some.inj h
        subst h
        have h := (elimR ho2)
        replace h := Option.some.inj h
        subst h
        refine pn_ret (vs := [_]) rfl ⟨rfl, trivial⟩ ⟨rfl, rfl, rfl⟩ (fun _ h => h.to trivial trivial)
      · have h := ifF h cd18
        refine wc_skip ?_
        refine pn_block ?_
        refine pn_then ?_
        refine wc_region ?_   -- region 6
        refine wl_det rfl rfl (det_add rfl rfl) rfl ?_
        refine wl_det rfl rfl (det_move rfl) rfl ?_
        refine wl_nil ?_
        replace h := Option.some.inj h
        subst h
        exact pn_some (k6, (w64 (s6 + 1)), ()) ⟨nextL g6, Nat.lt_succ_self _⟩ ⟨rfl, rfl, rfl, rfl, trivial⟩ (fun _ h => h.to trivial ⟨(ms m0), trivial⟩)
    · have h := ifF h cd10
      refine wc_exit ?_
      refine px_then ?_
      refine px_then ?_
      refine px_block ?_
      replace h := Option.some.inj h
      subst h
      replace g6 := nextR g6
      subst g6
      have h := (elimR ho6)
      replace h := Option.some.inj h
      subst h
      exact pn_meetG ((), ()) rfl trivial (fun _ h => h.to trivial trivial)
  rintro ⟨s2, _⟩ e2
  dsimp only at e2 ⊢
  subst e2
  have h := (elimL ho2)
  refine wc_seq ?_
  refine wc_region ?_   -- region 7
  refine wl_det rfl rfl (det_assign rfl) rfl ?_
  refine wl_nil ?_
  refine pn_then ?_
  refine wc_ret ?_
  replace h := Option.some.inj h
  subst h
  refine pn_ret (vs := [_]) rfl ⟨rfl, trivial⟩ ⟨rfl, rfl, rfl⟩ (fun _ h => h.to trivial trivial)
def Q_slices_Contains_s_int_int (r : Bool) : Value → List Ent → List Fact → Prop := fun v θ κ => v = .bool r ∧ θ = [] ∧ κ = []
theorem plains_slices_Contains_s_int_int {r : Bool} : ∀ v θ κ, Q_slices_Contains_s_int_int r v θ κ → Plains θ := by
  rintro _ _ _ ⟨rfl, rfl, rfl⟩
  exact trivial
set_option maxHeartbeats 4000000 in
set_option maxRecDepth 100000 in
theorem W_slices_Contains_s_int_int (a0 : (List Int)) (a1 : Int) (A0 : Option Addr) (n0 : Nat) (c0 : Nat) (r : Bool) (h : slices_Contains_s_int_int a0 a1 = some r) : Spec Try.prog 64 [.slice A0 n0 c0, .int .i64 a1] [] [fV (lSlice (lInt .i64)) (.slice A0 n0 c0) a0] (Q_slices_Contains_s_int_int r) := by
  unfold slices_Contains_s_int_int at h
  refine spec_of (σ := [(0, _), (1, _)]) Try.func64 rfl rfl rfl rfl ?_
  intro C
  refine wc_know (fun _ h => h.lenF m0) (fun e => ?_)
  subst e
  refine wc_seq ?_
  refine wc_region ?_   -- region 0
  refine wl_det rfl rfl (det_assign rfl) rfl ?_
  refine wl_nil ?_
  refine pn_then ?_
  refine wc_seq ?_
  refine wc_region ?_   -- region 1
  refine wl_det rfl rfl (det_move rfl) rfl ?_
  refine wl_det rfl rfl (det_move rfl) rfl ?_
  obtain ⟨r1_2, hr1_2, h⟩ := bind_some h
  refine wl_act (act_callS (cap := []) (W_slices_Index_s_int_int a0 a1 A0 a0.length c0 r1_2 hr1_2) rfl rfl rfl bd79 rfl ⟨m0, trivial⟩) rfl rfl rfl ?_
  rintro _ _ _ ⟨_, _, ⟨rfl, rfl, rfl⟩, rfl, rfl⟩
  dsimp only [List.nil_append, List.cons_append]
  refine wl_det rfl rfl (det_geq rfl rfl) rfl ?_
  refine wl_det rfl rfl (det_assign rfl) rfl ?_
  refine wl_nil ?_
  refine pn_then ?_
  refine wc_ret ?_
  replace h := Option.some.inj h
  subst h
  refine pn_ret (vs := [_]) rfl ⟨rfl, trivial⟩ ⟨rfl, rfl, rfl⟩ (fun _ h => h.to trivial trivial)
def Q_contract_Validate (r : Int) : Value → List Ent → List Fact → Prop := fun v θ κ => v = .int .i64 r ∧ θ = [] ∧ κ = []
theorem plains_contract_Validate {r : Int} : ∀ v θ κ, Q_contract_Validate r v θ κ → Plains θ := by
  rintro _ _ _ ⟨rfl, rfl, rfl⟩
  exact trivial
set_option maxHeartbeats 4000000 in
set_option maxRecDepth 100000 in
theorem W_contract_Validate (a0 : GTreaty) (A0 : Option Addr) (n0 : Nat) (c0 : Nat) (A3 : Option Addr) (n3 : Nat) (c3 : Nat) (A6 : Option Addr) (n6 : Nat) (c6 : Nat) (A9 : Option Addr) (n9 : Nat) (c9 : Nat) (A12 : Option Addr) (n12 : Nat) (c12 : Nat) (r : Int) (h : contract_Validate a0 = some r) : Spec Try.prog 56 [.agg #[.int .i64 a0.ID, .int .i64 a0.Kind, .int .i64 a0.Period.From, .int .i64 a0.Period.To, .slice A0 n0 c0, .slice A3 n3 c3, .int .i64 a0.Risk, .int .i64 a0.Cession, .int .i64 a0.Line, .int .i64 a0.Lines, .int .i64 a0.Retention, .int .i64 a0.Limit, .int .i64 a0.Window, .int .i64 a0.Deductible, .int .i64 a0.Aggregate, .int .i64 a0.Premium, .slice A6 n6 c6, .bool a0.Timed, .int .i64 a0.Base, .slice A9 n9 c9, .slice A12 n12 c12]] [] [fV (lSlice (lInt .i64)) (.slice A0 n0 c0) a0.Perils, fV (lSlice (lInt .i64)) (.slice A3 n3 c3) a0.Areas, fV (lSlice (lInt .i64)) (.slice A6 n6 c6) a0.Reinstatements, fV (lSlice (lInt .i64)) (.slice A9 n9 c9) a0.Inures, fV (lSlice lGPart) (.slice A12 n12 c12) a0.Parts] (Q_contract_Validate r) := by
  unfold contract_Validate at h
  refine spec_of (σ := [(0, _)]) Try.func56 rfl rfl rfl rfl ?_
  intro C
  refine wc_know (fun _ h => h.lenF m0) (fun e => ?_)
  subst e
  refine wc_know (fun _ h => h.lenF (ms m0)) (fun e => ?_)
  subst e
  refine wc_know (fun _ h => h.lenF (ms (ms m0))) (fun e => ?_)
  subst e
  refine wc_know (fun _ h => h.lenF (ms (ms (ms m0)))) (fun e => ?_)
  subst e
  refine wc_know (fun _ h => h.lenF (ms (ms (ms (ms m0))))) (fun e => ?_)
  subst e
  refine wc_seq ?_
  refine wc_region ?_   -- region 0
  refine wl_act (act_box (cs := [_, _, _, _, _, _, _, _, _, _, _, _, _, _, _, _, _, _, _, _, _]) rfl rfl) rfl rfl rfl ?_
  rintro _ _ _ ⟨b0_0, rfl, rfl, rfl⟩
  refine wl_det rfl rfl (det_assign rfl) rfl ?_
  refine wl_nil ?_
  refine pn_then ?_
  refine wc_seq ?_
  refine wc_seq ?_
  refine wc_region ?_   -- region 1
  refine wl_det rfl rfl (det_field rfl fd49_0 rfl) rfl ?_
  refine wl_det rfl rfl (det_load rfl m0 (by rfl) na3 us3) rfl ?_
  obtain ⟨r1_2, hr1_2, h⟩ := bind_some h
  refine wl_act (act_callS (cap := []) (W_contract_within a0.ID 1 1048576 r1_2 hr1_2) rfl rfl rfl bd46 rfl trivial) rfl rfl rfl ?_
  rintro _ _ _ ⟨_, _, ⟨rfl, rfl, rfl⟩, rfl, rfl⟩
  dsimp only [List.nil_append, List.cons_append]
  refine wl_det rfl rfl (det_not rfl) rfl ?_
  refine wl_nil ?_
  refine pn_then ?_
  refine wc_cond rfl (fun cd5 => ?_) (fun cd5 => ?_)
  · have h := ifT h cd5
    refine wc_seq ?_
    refine wc_region ?_   -- region 2
    refine wl_det rfl rfl (det_assign rfl) rfl ?_
    refine wl_nil ?_
    refine pn_then ?_
    refine wc_ret ?_
    refine pr_then ?_
    replace h := Option.some.inj h
    subst h
    refine pn_ret (vs := [_]) rfl ⟨rfl, trivial⟩ ⟨rfl, rfl, rfl⟩ (fun _ h => h.to trivial trivial)
  · have h := ifF h cd5
    refine wc_skip ?_
    refine pn_then ?_
    refine wc_seq ?_
    refine wc_seq ?_
    refine wc_region ?_   -- region 3
    refine wl_det rfl rfl (det_field rfl fd49_1 rfl) rfl ?_
    refine wl_det rfl rfl (det_load rfl m0 (by rfl) na3 us3) rfl ?_
    obtain ⟨r3_2, hr3_2, h⟩ := bind_some h
    refine wl_act (act_callS (cap := []) (W_contract_within a0.Kind 1 6 r3_2 hr3_2) rfl rfl rfl bd46 rfl trivial) rfl rfl rfl ?_
    rintro _ _ _ ⟨_, _, ⟨rfl, rfl, rfl⟩, rfl, rfl⟩
    dsimp only [List.nil_append, List.cons_append]
    refine wl_det rfl rfl (det_not rfl) rfl ?_
    refine wl_nil ?_
    refine pn_then ?_
    refine wc_cond rfl (fun cd11 => ?_) (fun cd11 => ?_)
    · have h := ifT h cd11
      refine wc_seq ?_
      refine wc_region ?_   -- region 4
      refine wl_det rfl rfl (det_assign rfl) rfl ?_
      refine wl_nil ?_
      refine pn_then ?_
      refine wc_ret ?_
      refine pr_then ?_
      replace h := Option.some.inj h
      subst h
      refine pn_ret (vs := [_]) rfl ⟨rfl, trivial⟩ ⟨rfl, rfl, rfl⟩ (fun _ h => h.to trivial trivial)
    · have h := ifF h cd11
      refine wc_skip ?_
      refine pn_then ?_
      refine wc_seq ?_
      refine wc_seq ?_
      refine wc_region ?_   -- region 5
      refine wl_det rfl rfl (det_field rfl fd49_2 rfl) rfl ?_
      refine wl_det rfl rfl (det_loadN (cells := [_, _]) rfl m0 (by rfl) ag47 sz47) rfl ?_
      obtain ⟨r5_2, hr5_2, h⟩ := bind_some h
      refine wl_act (act_callS (cap := []) (W_calendar_Valid a0.Period r5_2 hr5_2) rfl rfl rfl bd72 rfl trivial) rfl rfl rfl ?_
      rintro _ _ _ ⟨_, _, ⟨rfl, rfl, rfl⟩, rfl, rfl⟩
      dsimp only [List.nil_append, List.cons_append]
      refine wl_det rfl rfl (det_not rfl) rfl ?_
      refine wl_nil ?_
      refine pn_then ?_
      refine wc_cond rfl (fun cd17 => ?_) (fun cd17 => ?_)
      · have h := ifT h cd17
        refine wc_seq ?_
        refine wc_region ?_   -- region 6
        refine wl_det rfl rfl (det_assign rfl) rfl ?_
        refine wl_nil ?_
        refine pn_then ?_
        refine wc_ret ?_
        refine pr_then ?_
        replace h := Option.some.inj h
        subst h
        refine pn_ret (vs := [_]) rfl ⟨rfl, trivial⟩ ⟨rfl, rfl, rfl⟩ (fun _ h => h.to trivial trivial)
      · have h := ifF h cd17
        refine wc_skip ?_
        refine pn_then ?_
        refine wc_seq ?_
        refine wc_seq ?_
        refine wc_region ?_   -- region 7
        refine wl_det rfl rfl (det_field rfl fd49_3 rfl) rfl ?_
        refine wl_det rfl rfl (det_load rfl m0 (by rfl) na23 us23) rfl ?_
        obtain ⟨r7_2, hr7_2, h⟩ := bind_some h
        refine wl_act (act_callS (cap := []) (W_contract_ascending a0.Perils 0 15 A0 a0.Perils.length c0 r7_2 hr7_2) rfl rfl rfl bd73 rfl ⟨m0, trivial⟩) rfl rfl rfl ?_
        rintro _ _ _ ⟨_, _, ⟨rfl, rfl, rfl⟩, rfl, rfl⟩
        dsimp only [List.nil_append, List.cons_append]
        refine wl_det rfl rfl (det_assign rfl) rfl ?_
        refine wl_nil ?_
        refine pn_then ?_
        refine wc_seq ?_
        refine wc_region ?_   -- region 8
        refine wl_det rfl rfl (det_move rfl) rfl ?_
        refine wl_det rfl rfl (det_neq rfl rfl) rfl ?_
        refine wl_nil ?_
        refine pn_then ?_
        refine wc_cond rfl (fun cd25 => ?_) (fun cd25 => ?_)
        · have h := ifT h cd25
          refine wc_seq ?_
          refine wc_region ?_   -- region 9
          refine wl_det rfl rfl (det_move rfl) rfl ?_
          refine wl_det rfl rfl (det_assign rfl) rfl ?_
          refine wl_nil ?_
          refine pn_then ?_
          refine wc_ret ?_
          refine pr_then ?_
          replace h := Option.some.inj h
          subst h
          refine pn_ret (vs := [_]) rfl ⟨rfl, trivial⟩ ⟨rfl, rfl, rfl⟩ (fun _ h => h.to trivial trivial)
        · have h := ifF h cd25
          refine wc_skip ?_
          refine pn_then ?_
          refine wc_seq ?_
          refine wc_seq ?_
          refine wc_region ?_   -- region 10
          refine wl_det rfl rfl (det_field rfl fd49_4 rfl) rfl ?_
          refine wl_det rfl rfl (det_load rfl m0 (by rfl) na23 us23) rfl ?_
          obtain ⟨r10_2, hr10_2, h⟩ := bind_some h
          refine wl_act (act_callS (cap := []) (W_contract_ascending a0.Areas 0 15 A3 a0.Areas.length c3 r10_2 hr10_2) rfl rfl rfl bd73 rfl ⟨(ms m0), trivial⟩) rfl rfl rfl ?_
          rintro _ _ _ ⟨_, _, ⟨rfl, rfl, rfl⟩, rfl, rfl⟩
          dsimp only [List.nil_append, List.cons_append]
          refine wl_det rfl rfl (det_assign rfl) rfl ?_
          refine wl_nil ?_
          refine pn_then ?_
          refine wc_seq ?_
          refine wc_region ?_   -- region 11
          refine wl_det rfl rfl (det_move rfl) rfl ?_
          refine wl_det rfl rfl (det_neq rfl rfl) rfl ?_
          refine wl_nil ?_
          refine pn_then ?_
          refine wc_cond rfl (fun cd33 => ?_) (fun cd33 => ?_)
          · have h := ifT h cd33
            refine wc_seq ?_
            refine wc_region ?_   -- region 12
            refine wl_det rfl rfl (det_move rfl) rfl ?_
            refine wl_det rfl rfl (det_assign rfl) rfl ?_
            refine wl_nil ?_
            refine pn_then ?_
            refine wc_ret ?_
            refine pr_then ?_
            replace h := Option.some.inj h
            subst h
            refine pn_ret (vs := [_]) rfl ⟨rfl, trivial⟩ ⟨rfl, rfl, rfl⟩ (fun _ h => h.to trivial trivial)
          · have h := ifF h cd33
            refine wc_skip ?_
            refine pn_then ?_
            refine wc_seq ?_
            refine wc_seq ?_
            refine wc_region ?_   -- region 13
            refine wl_det rfl rfl (det_loadN (cells := [_, _, _, _, _, _, _, _, _, _, _, _, _, _, _, _, _, _, _, _, _]) rfl m0 (by rfl) ag49 sz49) rfl ?_
            obtain ⟨r13_1, hr13_1, h⟩ := bind_some h
            refine wl_act (act_callS (cap := []) (W_contract_fields a0 A0 a0.Perils.length c0 A3 a0.Areas.length c3 A6 a0.Reinstatements.length c6 A9 a0.Inures.length c9 A12 a0.Parts.length c12 r13_1 hr13_1) rfl rfl rfl bd74 rfl ⟨m0, ⟨(ms m0), ⟨(ms (ms m0)), ⟨(ms (ms (ms m0))), ⟨(ms (ms (ms (ms m0)))), trivial⟩⟩⟩⟩⟩) rfl rfl rfl ?_
            rintro _ _ _ ⟨_, _, ⟨rfl, rfl, rfl⟩, rfl, rfl⟩
            dsimp only [List.nil_append, List.cons_append]
            refine wl_det rfl rfl (det_assign rfl) rfl ?_
            refine wl_nil ?_
            refine pn_then ?_
            refine wc_seq ?_
            refine wc_region ?_   -- region 14
            refine wl_det rfl rfl (det_move rfl) rfl ?_
            refine wl_det rfl rfl (det_neq rfl rfl) rfl ?_
            refine wl_nil ?_
            refine pn_then ?_
            refine wc_cond rfl (fun cd41 => ?_) (fun cd41 => ?_)
            · have h := ifT h cd41
              refine wc_seq ?_
              refine wc_region ?_   -- region 15
              refine wl_det rfl rfl (det_move rfl) rfl ?_
              refine wl_det rfl rfl (det_assign rfl) rfl ?_
              refine wl_nil ?_
              refine pn_then ?_
              refine wc_ret ?_
              refine pr_then ?_
              replace h := Option.some.inj h
              subst h
              refine pn_ret (vs := [_]) rfl ⟨rfl, trivial⟩ ⟨rfl, rfl, rfl⟩ (fun _ h => h.to trivial trivial)
            · have h := ifF h cd41
              refine wc_skip ?_
              refine pn_then ?_
              refine wc_seq ?_
              refine wc_seq ?_
              refine wc_region ?_   -- region 16
              refine wl_det rfl rfl (det_field rfl fd49_15 rfl) rfl ?_
              refine wl_det rfl rfl (det_load rfl m0 (by rfl) na23 us23) rfl ?_
              refine wl_det rfl rfl (det_len rfl un23) rfl ?_
              refine wl_det rfl rfl (det_gtr rfl rfl) rfl ?_
              refine wl_nil ?_
              refine pn_then ?_
              refine wc_cond rfl (fun cd47 => ?_) (fun cd47 => ?_)
              · have h := ifT h cd47
                refine wc_seq ?_
                refine wc_region ?_   -- region 17
                refine wl_det rfl rfl (det_assign rfl) rfl ?_
                refine wl_nil ?_
                refine pn_then ?_
                refine wc_ret ?_
                refine pr_then ?_
                replace h := Option.some.inj h
                subst h
                refine pn_ret (vs := [_]) rfl ⟨rfl, trivial⟩ ⟨rfl, rfl, rfl⟩ (fun _ h => h.to trivial trivial)
              · have h := ifF h cd47
                refine wc_skip ?_
                refine pn_then ?_
                obtain ⟨q50, h, ho50⟩ := bind_some h
                refine wc_meetG (G := Unit × Unit) (fun (s50, _) => (.inl s50) = q50) (fun (_, _) => [(1, .pointer (some ⟨b0_0, 0, none⟩))]) (fun (_, _) => [eBlk b0_0 49 [.int .i64 a0.ID, .int .i64 a0.Kind, .int .i64 a0.Period.From, .int .i64 a0.Period.To, .slice A0 a0.Perils.length c0, .slice A3 a0.Areas.length c3, .int .i64 a0.Risk, .int .i64 a0.Cession, .int .i64 a0.Line, .int .i64 a0.Lines, .int .i64 a0.Retention, .int .i64 a0.Limit, .int .i64 a0.Window, .int .i64 a0.Deductible, .int .i64 a0.Aggregate, .int .i64 a0.Premium, .slice A6 a0.Reinstatements.length c6, .bool a0.Timed, .int .i64 a0.Base, .slice A9 a0.Inures.length c9, .slice A12 a0.Parts.length c12]]) (fun (_, _) => [fV (lSlice (lInt .i64)) (.slice A0 a0.Perils.length c0) a0.Perils, fV (lSlice (lInt .i64)) (.slice A3 a0.Areas.length c3) a0.Areas, fV (lSlice (lInt .i64)) (.slice A6 a0.Reinstatements.length c6) a0.Reinstatements, fV (lSlice (lInt .i64)) (.slice A9 a0.Inures.length c9) a0.Inures, fV (lSlice lGPart) (.slice A12 a0.Parts.length c12) a0.Parts]) ?_ ?_
                · refine wc_seq ?_
                  refine wc_region ?_   -- region 18
                  refine wl_det rfl rfl (det_field rfl fd49_15 rfl) rfl ?_
                  refine wl_det rfl rfl (det_load rfl m0 (by rfl) na23 us23) rfl ?_
                  refine wl_det rfl rfl (det_len rfl un23) rfl ?_
                  refine wl_det rfl rfl (det_move rfl) rfl ?_
                  refine wl_nil ?_
                  refine pn_then ?_
                  refine wc_block ?_
                  obtain ⟨o54, h, ho54⟩ := bind_some h
                  obtain ⟨k54, hk54⟩ := loopV_some.1 h
                  refine wc_loop (G := Nat × Int × Unit) (fun g => IterN (contract_Validate_l54 a0) g.1 g.2.1 o54) (fun g => g.1) (fun (_, s54, _) => [(1, .pointer (some ⟨b0_0, 0, none⟩)), (43, .slice A6 a0.Reinstatements.length c6), (44, .int .i64 (a0.Reinstatements.length : Int)), (45, .int .i64 s54)]) (fun (_, _, _) => [eBlk b0_0 49 [.int .i64 a0.ID, .int .i64 a0.Kind, .int .i64 a0.Period.From, .int .i64 a0.Period.To, .slice A0 a0.Perils.length c0, .slice A3 a0.Areas.length c3, .int .i64 a0.Risk, .int .i64 a0.Cession, .int .i64 a0.Line, .int .i64 a0.Lines, .int .i64 a0.Retention, .int .i64 a0.Limit, .int .i64 a0.Window, .int .i64 a0.Deductible, .int .i64 a0.Aggregate, .int .i64 a0.Premium, .slice A6 a0.Reinstatements.length c6, .bool a0.Timed, .int .i64 a0.Base, .slice A9 a0.Inures.length c9, .slice A12 a0.Parts.length c12]]) (fun (_, _, _) => [fV (lSlice (lInt .i64)) (.slice A0 a0.Perils.length c0) a0.Perils, fV (lSlice (lInt .i64)) (.slice A3 a0.Areas.length c3) a0.Areas, fV (lSlice (lInt .i64)) (.slice A6 a0.Reinstatements.length c6) a0.Reinstatements, fV (lSlice (lInt .i64)) (.slice A9 a0.Inures.length c9) a0.Inures, fV (lSlice lGPart) (.slice A12 a0.Parts.length c12) a0.Parts]) (k54, 0, ()) hk54 ⟨rfl, rfl, rfl, rfl, trivial⟩ (fun _ h => h.to ⟨_, r0, trivial⟩ ⟨m0, ⟨(ms m0), ⟨(ms (ms m0)), ⟨(ms (ms (ms m0))), ⟨(ms (ms (ms (ms m0)))), trivial⟩⟩⟩⟩⟩) ?_
                  rintro ⟨k54, s54, _⟩ hI
                  obtain ⟨k54, rfl, q54, h, g54⟩ := IterN.pos hI
                  dsimp only at h ⊢
                  unfold contract_Validate_l54 at h
                  refine wc_seq ?_
                  refine wc_region ?_   -- region 19
                  refine wl_det rfl rfl (det_lss rfl rfl) rfl ?_
                  refine wl_nil ?_
                  refine pn_then ?_
                  refine wc_seq ?_
                  refine wc_cond rfl (fun cd58 => ?_) (fun cd58 => ?_)
                  · have h := ifT h cd58
                    refine wc_skip ?_
                    refine pn_then ?_
                    refine wc_seq ?_
                    refine wc_block ?_
                    refine wc_seq ?_
                    refine wc_region ?_   -- region 20
                    obtain ⟨k20_0, h⟩ := chk_some h
                    refine wl_st (fun _ h => h.openF (ms (ms m0)) k20_0) ?_
                    refine wl_det rfl rfl (det_indexP rfl rfl (ms (ms (ms m0))) k20_0 m0 un23 sz3) rfl ?_
                    refine wl_det rfl rfl (det_loadP (off := 0) rfl m0 (by rfl) (by rfl) (loaded_1 na3 us3)) rfl ?_
                    refine wl_det rfl rfl (det_assign rfl) rfl ?_
                    refine wl_nil ?_
                    refine pn_then ?_
                    refine wc_seq ?_
                    refine wc_region ?_   -- region 21
                    refine wl_det rfl rfl (det_move rfl) rfl ?_
                    obtain ⟨r21_1, hr21_1, h⟩ := bind_some h
                    refine wl_act (act_callS (cap := []) (W_contract_within (ix a0.Reinstatements s54) 0 2000000 r21_1 hr21_1) rfl rfl rfl bd46 rfl trivial) rfl rfl rfl ?_
                    rintro _ _ _ ⟨_, _, ⟨rfl, rfl, rfl⟩, rfl, rfl⟩
                    dsimp only [List.nil_append, List.cons_append]
                    refine wl_det rfl rfl (det_not rfl) rfl ?_
                    refine wl_nil ?_
                    refine pn_then ?_
                    refine wc_cond rfl (fun cd66 => ?_) (fun cd66 => ?_)
                    · have h := ifT h cd66
                      refine wc_seq ?_
                      refine wc_region ?_   -- region 22
                      refine wl_det rfl rfl (det_assign rfl) rfl ?_
                      refine wl_nil ?_
                      refine pn_then ?_
                      refine wc_ret ?_
                      refine pr_block ?_
                      refine pr_then ?_
                      refine pr_then ?_
                      refine pr_block ?_
                      refine pr_then ?_
                      replace h := Option.some.inj h
                      subst h
                      replace g54 := nextR g54
                      subst g54
                      have h := (elimL ho54)
                      replace h := Option.some.inj h
                      subst h
                      have h := (elimR ho50)
                      replace h := Option.some.inj h
                      subst h
                      refine pn_ret (vs := [_]) rfl ⟨rfl, trivial⟩ ⟨rfl, rfl, rfl⟩ (fun _ h => h.to trivial trivial)
                    · have h := ifF h cd66
                      refine wc_skip ?_
                      refine pn_block ?_
                      refine pn_then ?_
                      refine wc_region ?_   -- region 23
                      refine wl_det rfl rfl (det_add rfl rfl) rfl ?_
                      refine wl_det rfl rfl (det_move rfl) rfl ?_
                      refine wl_nil ?_
                      replace h := Option.some.inj h
                      subst h
                      exact pn_some (k54, (w64 (s54 + 1)), ()) ⟨nextL g54, Nat.lt_succ_self _⟩ ⟨rfl, rfl, rfl, rfl, trivial⟩ (fun _ h => h.to ⟨_, r0, trivial⟩ ⟨(ms m0), ⟨(ms (ms m0)), ⟨(ms (ms (ms m0))), ⟨(ms (ms (ms (ms m0)))), ⟨(ms (ms (ms (ms (ms m0))))), trivial⟩⟩⟩⟩⟩)
                  · have h := ifF h cd58
                    refine wc_exit ?_
                    refine px_then ?_
                    refine px_then ?_
                    refine px_block ?_
                    replace h := Option.some.inj h
                    subst h
                    replace g54 := nextR g54
                    subst g54
                    have h := (elimR ho54)
                    replace h := Option.some.inj h
                    subst h
                    exact pn_meetG ((), ()) rfl ⟨rfl, trivial⟩ (fun _ h => h.to ⟨_, r0, trivial⟩ ⟨m0, ⟨(ms m0), ⟨(ms (ms m0)), ⟨(ms (ms (ms m0))), ⟨(ms (ms (ms (ms m0)))), trivial⟩⟩⟩⟩⟩)
                rintro ⟨s50, _⟩ e50
                dsimp only at e50 ⊢
                subst e50
                have h := (elimL ho50)
                refine wc_seq ?_
                refine wc_seq ?_
                refine wc_region ?_   -- region 24
                refine wl_det rfl rfl (det_field rfl fd49_18 rfl) rfl ?_
                refine wl_det rfl rfl (det_load rfl m0 (by rfl) na23 us23) rfl ?_
                refine wl_det rfl rfl (det_len rfl un23) rfl ?_
                refine wl_det rfl rfl (det_gtr rfl rfl) rfl ?_
                refine wl_nil ?_
                refine pn_then ?_
                refine wc_cond rfl (fun cd73 => ?_) (fun cd73 => ?_)
                · have h := ifT h cd73
                  refine wc_seq ?_
                  refine wc_region ?_   -- region 25
                  refine wl_det rfl rfl (det_assign rfl) rfl ?_
                  refine wl_nil ?_
                  refine pn_then ?_
                  refine wc_ret ?_
                  refine pr_then ?_
                  replace h := Option.some.inj h
                  subst h
                  refine pn_ret (vs := [_]) rfl ⟨rfl, trivial⟩ ⟨rfl, rfl, rfl⟩ (fun _ h => h.to trivial trivial)
                · have h := ifF h cd73
                  refine wc_skip ?_
                  refine pn_then ?_
                  refine wc_seq ?_
                  refine wc_seq ?_
                  refine wc_region ?_   -- region 26
                  refine wl_det rfl rfl (det_field rfl fd49_18 rfl) rfl ?_
                  refine wl_det rfl rfl (det_load rfl m0 (by rfl) na23 us23) rfl ?_
                  obtain ⟨r26_2, hr26_2, h⟩ := bind_some h
                  refine wl_act (act_callS (cap := []) (W_contract_ascending a0.Inures 1 1048576 A9 a0.Inures.length c9 r26_2 hr26_2) rfl rfl rfl bd73 rfl ⟨(ms (ms (ms m0))), trivial⟩) rfl rfl rfl ?_
                  rintro _ _ _ ⟨_, _, ⟨rfl, rfl, rfl⟩, rfl, rfl⟩
                  dsimp only [List.nil_append, List.cons_append]
                  refine wl_det rfl rfl (det_assign rfl) rfl ?_
                  refine wl_nil ?_
                  refine pn_then ?_
                  refine wc_seq ?_
                  refine wc_region ?_   -- region 27
                  refine wl_det rfl rfl (det_move rfl) rfl ?_
                  refine wl_det rfl rfl (det_neq rfl rfl) rfl ?_
                  refine wl_nil ?_
                  refine pn_then ?_
                  refine wc_cond rfl (fun cd81 => ?_) (fun cd81 => ?_)
                  · have h := ifT h cd81
                    refine wc_seq ?_
                    refine wc_region ?_   -- region 28
                    refine wl_det rfl rfl (det_move rfl) rfl ?_
                    refine wl_det rfl rfl (det_assign rfl) rfl ?_
                    refine wl_nil ?_
                    refine pn_then ?_
                    refine wc_ret ?_
                    refine pr_then ?_
                    replace h := Option.some.inj h
                    subst h
                    refine pn_ret (vs := [_]) rfl ⟨rfl, trivial⟩ ⟨rfl, rfl, rfl⟩ (fun _ h => h.to trivial trivial)
                  · have h := ifF h cd81
                    refine wc_skip ?_
                    refine pn_then ?_
                    refine wc_seq ?_
                    refine wc_seq ?_
                    refine wc_region ?_   -- region 29
                    refine wl_det rfl rfl (det_field rfl fd49_18 rfl) rfl ?_
                    refine wl_det rfl rfl (det_load rfl m0 (by rfl) na23 us23) rfl ?_
                    refine wl_det rfl rfl (det_field rfl fd49_0 rfl) rfl ?_
                    refine wl_det rfl rfl (det_load rfl m0 (by rfl) na3 us3) rfl ?_
                    obtain ⟨r29_4, hr29_4, h⟩ := bind_some h
                    refine wl_act (act_callS (cap := []) (W_slices_Contains_s_int_int a0.Inures a0.ID A9 a0.Inures.length c9 r29_4 hr29_4) rfl rfl rfl bd64 rfl ⟨(ms (ms (ms m0))), trivial⟩) rfl rfl rfl ?_
                    rintro _ _ _ ⟨_, _, ⟨rfl, rfl, rfl⟩, rfl, rfl⟩
                    dsimp only [List.nil_append, List.cons_append]
                    refine wl_nil ?_
                    refine pn_then ?_
                    refine wc_cond rfl (fun cd87 => ?_) (fun cd87 => ?_)
                    · have h := ifT h cd87
                      refine wc_seq ?_
                      refine wc_region ?_   -- region 30
                      refine wl_det rfl rfl (det_assign rfl) rfl ?_
                      refine wl_nil ?_
                      refine pn_then ?_
                      refine wc_ret ?_
                      refine pr_then ?_
                      replace h := Option.some.inj h
                      subst h
                      refine pn_ret (vs := [_]) rfl ⟨rfl, trivial⟩ ⟨rfl, rfl, rfl⟩ (fun _ h => h.to trivial trivial)
                    · have h := ifF h cd87
                      refine wc_skip ?_
                      refine pn_then ?_
                      refine wc_seq ?_
                      refine wc_region ?_   -- region 31
                      refine wl_det rfl rfl (det_field rfl fd49_19 rfl) rfl ?_
                      refine wl_det rfl rfl (det_load rfl m0 (by rfl) na22 us22) rfl ?_
                      obtain ⟨r31_2, hr31_2, h⟩ := bind_some h
                      refine wl_act (act_callS (cap := []) (W_contract_Parts a0.Parts A12 a0.Parts.length c12 r31_2 hr31_2) rfl rfl rfl bd19 rfl ⟨(ms (ms (ms (ms m0)))), trivial⟩) rfl rfl rfl ?_
                      rintro _ _ _ ⟨_, _, ⟨rfl, rfl, rfl⟩, rfl, rfl⟩
                      dsimp only [List.nil_append, List.cons_append]
                      refine wl_det rfl rfl (det_assign rfl) rfl ?_
                      refine wl_nil ?_
                      refine pn_then ?_
                      refine wc_ret ?_
                      replace h := Option.some.inj h
                      subst h
                      refine pn_ret (vs := [_]) rfl ⟨rfl, trivial⟩ ⟨rfl, rfl, rfl⟩ (fun _ h => h.to trivial trivial)
def Q_calendar_Contains (r : Bool) : Value → List Ent → List Fact → Prop := fun v θ κ => v = .bool r ∧ θ = [] ∧ κ = []
theorem plains_calendar_Contains {r : Bool} : ∀ v θ κ, Q_calendar_Contains r v θ κ → Plains θ := by
  rintro _ _ _ ⟨rfl, rfl, rfl⟩
  exact trivial
set_option maxHeartbeats 4000000 in
set_option maxRecDepth 100000 in
theorem W_calendar_Contains (a0 : GPeriod) (a1 : Int) (r : Bool) (h : calendar_Contains a0 a1 = some r) : Spec Try.prog 63 [.agg #[.int .i64 a0.From, .int .i64 a0.To], .int .i64 a1] [] [] (Q_calendar_Contains r) := by
  unfold calendar_Contains at h
  refine spec_of (σ := [(0, _), (1, _)]) Try.func63 rfl rfl rfl rfl ?_
  intro C
  refine wc_seq ?_
  refine wc_region ?_   -- region 0
  refine wl_act (act_box (cs := [_, _]) rfl rfl) rfl rfl rfl ?_
  rintro _ _ _ ⟨b0_0, rfl, rfl, rfl⟩
  refine wl_det rfl rfl (det_assign rfl) rfl ?_
  refine wl_nil ?_
  refine pn_then ?_
  refine wc_seq ?_
  refine wc_region ?_   -- region 1
  refine wl_det rfl rfl (det_loadN (cells := [_, _]) rfl m0 (by rfl) ag47 sz47) rfl ?_
  obtain ⟨r1_1, hr1_1, h⟩ := bind_some h
  refine wl_act (act_callS (cap := []) (W_calendar_Valid a0 r1_1 hr1_1) rfl rfl rfl bd72 rfl trivial) rfl rfl rfl ?_
  rintro _ _ _ ⟨_, _, ⟨rfl, rfl, rfl⟩, rfl, rfl⟩
  dsimp only [List.nil_append, List.cons_append]
  refine wl_det rfl rfl (det_move rfl) rfl ?_
  refine wl_way r1_1 (r1_1 && (decide (a0.From ≤ a1))) 5 12 (fun hg => ?_) (fun hg => ?_) ?_
  · have hg1_7 := hg
    refine wl_on rfl rfl rfl rfl hg1_7 ?_
    refine wl_det rfl rfl (det_field rfl fd47_0 rfl) rfl ?_
    refine wl_on rfl rfl rfl rfl hg1_7 ?_
    refine wl_det rfl rfl (det_load rfl m0 (by rfl) na3 us3) rfl ?_
    refine wl_on rfl rfl rfl rfl hg1_7 ?_
    refine wl_det rfl rfl (det_move rfl) rfl ?_
    refine wl_on rfl rfl rfl rfl hg1_7 ?_
    refine wl_det rfl rfl (det_leq rfl rfl) rfl ?_
    refine wl_det rfl rfl (det_and_on rfl rfl rfl hg1_7) rfl ?_
    exact wl_nil (pn_qnE (ext_cons rfl (ext_skip rfl (ext_skip rfl (ext_skip rfl (ext_skip rfl (ext_skip rfl ext_refl)))))) (fun _ h => h))
  · have hg1_7a := hg
    refine wl_off rfl rfl rfl rfl rfl hg1_7a rfl ?_
    refine wl_off rfl rfl rfl rfl rfl hg1_7a rfl ?_
    refine wl_off rfl rfl rfl rfl rfl hg1_7a rfl ?_
    refine wl_off rfl rfl rfl rfl rfl hg1_7a rfl ?_
    refine wl_det rfl rfl (det_and_off (q := (decide (a0.From ≤ a1))) rfl rfl rfl hg1_7a) rfl ?_
    exact wl_nil (pn_qnE (ext_cons rfl (ext_skip rfl (ext_skip rfl (ext_skip rfl (ext_skip rfl (ext_skip rfl ext_refl)))))) (fun _ h => h))
  refine wl_det rfl rfl (det_move rfl) rfl ?_
  refine wl_way (r1_1 && (decide (a0.From ≤ a1))) ((r1_1 && (decide (a0.From ≤ a1))) && (decide (a1 < a0.To))) 5 18 (fun hg => ?_) (fun hg => ?_) ?_
  · have hg1_13 := hg
    refine wl_on rfl rfl rfl rfl hg1_13 ?_
    refine wl_det rfl rfl (det_move rfl) rfl ?_
    refine wl_on rfl rfl rfl rfl hg1_13 ?_
    refine wl_det rfl rfl (det_field rfl fd47_1 rfl) rfl ?_
    refine wl_on rfl rfl rfl rfl hg1_13 ?_
    refine wl_det rfl rfl (det_load rfl m0 (by rfl) na3 us3) rfl ?_
    refine wl_on rfl rfl rfl rfl hg1_13 ?_
    refine wl_det rfl rfl (det_lss rfl rfl) rfl ?_
    refine wl_det rfl rfl (det_and_on rfl rfl rfl hg1_13) rfl ?_
    exact wl_nil (pn_qnE (ext_cons rfl (ext_skip rfl (ext_skip rfl (ext_skip rfl (ext_skip rfl (ext_skip rfl ext_refl)))))) (fun _ h => h))
  · have hg1_13a := hg
    refine wl_off rfl rfl rfl rfl rfl hg1_13a rfl ?_
    refine wl_off rfl rfl rfl rfl rfl hg1_13a rfl ?_
    refine wl_off rfl rfl rfl rfl rfl hg1_13a rfl ?_
    refine wl_off rfl rfl rfl rfl rfl hg1_13a rfl ?_
    refine wl_det rfl rfl (det_and_off (q := (decide (a1 < a0.To))) rfl rfl rfl hg1_13a) rfl ?_
    exact wl_nil (pn_qnE (ext_cons rfl (ext_skip rfl (ext_skip rfl (ext_skip rfl (ext_skip rfl (ext_skip rfl ext_refl)))))) (fun _ h => h))
  refine wl_det rfl rfl (det_assign rfl) rfl ?_
  refine wl_nil ?_
  refine pn_then ?_
  refine wc_ret ?_
  replace h := Option.some.inj h
  subst h
  refine pn_ret (vs := [_]) rfl ⟨rfl, trivial⟩ ⟨rfl, rfl, rfl⟩ (fun _ h => h.to trivial trivial)
def Q_contract_Applies (r : Bool) : Value → List Ent → List Fact → Prop := fun v θ κ => v = .bool r ∧ θ = [] ∧ κ = []
theorem plains_contract_Applies {r : Bool} : ∀ v θ κ, Q_contract_Applies r v θ κ → Plains θ := by
  rintro _ _ _ ⟨rfl, rfl, rfl⟩
  exact trivial
set_option maxHeartbeats 4000000 in
set_option maxRecDepth 100000 in
theorem W_contract_Applies (a0 : GTreaty) (a1 : GLoss) (A0 : Option Addr) (n0 : Nat) (c0 : Nat) (A3 : Option Addr) (n3 : Nat) (c3 : Nat) (A6 : Option Addr) (n6 : Nat) (c6 : Nat) (A9 : Option Addr) (n9 : Nat) (c9 : Nat) (A12 : Option Addr) (n12 : Nat) (c12 : Nat) (r : Bool) (h : contract_Applies a0 a1 = some r) : Spec Try.prog 43 [.agg #[.int .i64 a0.ID, .int .i64 a0.Kind, .int .i64 a0.Period.From, .int .i64 a0.Period.To, .slice A0 n0 c0, .slice A3 n3 c3, .int .i64 a0.Risk, .int .i64 a0.Cession, .int .i64 a0.Line, .int .i64 a0.Lines, .int .i64 a0.Retention, .int .i64 a0.Limit, .int .i64 a0.Window, .int .i64 a0.Deductible, .int .i64 a0.Aggregate, .int .i64 a0.Premium, .slice A6 n6 c6, .bool a0.Timed, .int .i64 a0.Base, .slice A9 n9 c9, .slice A12 n12 c12], .agg #[.int .i64 a1.ID, .int .i64 a1.Policy, .int .i64 a1.Risk, .int .i64 a1.Hour, .int .i64 a1.Peril, .int .i64 a1.Area, .int .i64 a1.Currency, .int .i64 a1.Sum, .int .i64 a1.Amount, .int .i64 a1.Paid]] [] [fV (lSlice (lInt .i64)) (.slice A0 n0 c0) a0.Perils, fV (lSlice (lInt .i64)) (.slice A3 n3 c3) a0.Areas, fV (lSlice (lInt .i64)) (.slice A6 n6 c6) a0.Reinstatements, fV (lSlice (lInt .i64)) (.slice A9 n9 c9) a0.Inures, fV (lSlice lGPart) (.slice A12 n12 c12) a0.Parts] (Q_contract_Applies r) := by
  unfold contract_Applies at h
  refine spec_of (σ := [(0, _), (1, _)]) Try.func43 rfl rfl rfl rfl ?_
  intro C
  refine wc_know (fun _ h => h.lenF m0) (fun e => ?_)
  subst e
  refine wc_know (fun _ h => h.lenF (ms m0)) (fun e => ?_)
  subst e
  refine wc_know (fun _ h => h.lenF (ms (ms m0))) (fun e => ?_)
  subst e
  refine wc_know (fun _ h => h.lenF (ms (ms (ms m0)))) (fun e => ?_)
  subst e
  refine wc_know (fun _ h => h.lenF (ms (ms (ms (ms m0))))) (fun e => ?_)
  subst e
  refine wc_seq ?_
  refine wc_region ?_   -- region 0
  refine wl_act (act_box (cs := [_, _, _, _, _, _, _, _, _, _, _, _, _, _, _, _, _, _, _, _, _]) rfl rfl) rfl rfl rfl ?_
  rintro _ _ _ ⟨b0_0, rfl, rfl, rfl⟩
  refine wl_act (act_box (cs := [_, _, _, _, _, _, _, _, _, _]) rfl rfl) rfl rfl rfl ?_
  rintro _ _ _ ⟨b0_1, rfl, rfl, rfl⟩
  refine wl_det rfl rfl (det_assign rfl) rfl ?_
  refine wl_nil ?_
  refine pn_then ?_
  refine wc_seq ?_
  refine wc_region ?_   -- region 1
  refine wl_det rfl rfl (det_loadN (cells := [_, _, _, _, _, _, _, _, _, _, _, _, _, _, _, _, _, _, _, _, _]) rfl (ms m0) (by rfl) ag49 sz49) rfl ?_
  obtain ⟨r1_1, hr1_1, h⟩ := bind_some h
  refine wl_act (act_callS (cap := []) (W_contract_Validate a0 A0 a0.Perils.length c0 A3 a0.Areas.length c3 A6 a0.Reinstatements.length c6 A9 a0.Inures.length c9 A12 a0.Parts.length c12 r1_1 hr1_1) rfl rfl rfl bd56 rfl ⟨m0, ⟨(ms m0), ⟨(ms (ms m0)), ⟨(ms (ms (ms m0))), ⟨(ms (ms (ms (ms m0)))), trivial⟩⟩⟩⟩⟩) rfl rfl rfl ?_
  rintro _ _ _ ⟨_, _, ⟨rfl, rfl, rfl⟩, rfl, rfl⟩
  dsimp only [List.nil_append, List.cons_append]
  refine wl_det rfl rfl (det_eql rfl rfl) rfl ?_
  refine wl_det rfl rfl (det_move rfl) rfl ?_
  obtain ⟨q1_9, hq1_9, h⟩ := bind_some h
  have ho1_9 := h
  refine wl_way (decide (r1_1 = 0)) q1_9 6 14 (fun hg => ?_) (fun hg => ?_) ?_
  · have hg1_9 := hg
    have h := ifT hq1_9 hg
    refine wl_on rfl rfl rfl rfl hg1_9 ?_
    refine wl_det rfl rfl (det_field rfl fd49_2 rfl) rfl ?_
    refine wl_on rfl rfl rfl rfl hg1_9 ?_
    refine wl_det rfl rfl (det_loadN (cells := [_, _]) rfl (ms m0) (by rfl) ag47 sz47) rfl ?_
    refine wl_on rfl rfl rfl rfl hg1_9 ?_
    refine wl_det rfl rfl (det_field rfl fd65_3 rfl) rfl ?_
    refine wl_on rfl rfl rfl rfl hg1_9 ?_
    refine wl_det rfl rfl (det_load rfl m0 (by rfl) na3 us3) rfl ?_
    refine wl_on rfl rfl rfl rfl hg1_9 ?_
    obtain ⟨r1_8, hr1_8, h⟩ := bind_some h
    refine wl_act (act_callS (cap := []) (W_calendar_Contains a0.Period a1.Hour r1_8 hr1_8) rfl rfl rfl bd63 rfl trivial) rfl rfl rfl ?_
    rintro _ _ _ ⟨_, _, ⟨rfl, rfl, rfl⟩, rfl, rfl⟩
    dsimp only [List.nil_append, List.cons_append]
    replace h := Option.some.inj h
    subst h
    refine wl_det rfl rfl (det_pick_on rfl hg1_9 rfl rfl) rfl ?_
    exact wl_nil (pn_qnE (ext_cons rfl (ext_skip rfl (ext_skip rfl (ext_skip rfl (ext_skip rfl (ext_skip rfl (ext_skip rfl ext_refl))))))) (fun _ h => h))
  · have hg1_9a := hg
    have h := ifF hq1_9 hg
    refine wl_off rfl rfl rfl rfl rfl hg1_9a rfl ?_
    refine wl_off rfl rfl rfl rfl rfl hg1_9a rfl ?_
    refine wl_off rfl rfl rfl rfl rfl hg1_9a rfl ?_
    refine wl_off rfl rfl rfl rfl rfl hg1_9a rfl ?_
    refine wl_off rfl rfl rfl rfl rfl hg1_9a rfl ?_
    replace h := Option.some.inj h
    subst h
    refine wl_det rfl rfl (det_pick_off rfl hg1_9a rfl rfl) rfl ?_
    exact wl_nil (pn_qnE (ext_cons rfl (ext_skip rfl (ext_skip rfl (ext_skip rfl (ext_skip rfl (ext_skip rfl (ext_skip rfl ext_refl))))))) (fun _ h => h))
  have h := ho1_9
  refine wl_det rfl rfl (det_move rfl) rfl ?_
  obtain ⟨q1_22, hq1_22, h⟩ := bind_some h
  have ho1_22 := h
  refine wl_way q1_9 q1_22 12 27 (fun hg => ?_) (fun hg => ?_) ?_
  · have hg1_22 := hg
    have h := ifT hq1_22 hg
    refine wl_on rfl rfl rfl rfl hg1_22 ?_
    refine wl_det rfl rfl (det_field rfl fd49_3 rfl) rfl ?_
    refine wl_on rfl rfl rfl rfl hg1_22 ?_
    refine wl_det rfl rfl (det_load rfl (ms m0) (by rfl) na23 us23) rfl ?_
    refine wl_on rfl rfl rfl rfl hg1_22 ?_
    refine wl_det rfl rfl (det_len rfl un23) rfl ?_
    refine wl_on rfl rfl rfl rfl hg1_22 ?_
    refine wl_det rfl rfl (det_eql rfl rfl) rfl ?_
    refine wl_on rfl rfl rfl rfl hg1_22 ?_
    refine wl_det rfl rfl (det_move rfl) rfl ?_
    obtain ⟨q1_21, hq1_21, h⟩ := bind_some h
    have ho1_21 := h
    refine wl_way (decide ((a0.Perils.length : Int) = 0)) q1_21 6 26 (fun hg => ?_) (fun hg => ?_) ?_
    · have hg1_21 := hg
      have h := ifT hq1_21 hg
      refine wl_off rfl rfl rfl rfl rfl hg1_21 rfl ?_
      refine wl_off rfl rfl rfl rfl rfl hg1_21 rfl ?_
      refine wl_off rfl rfl rfl rfl rfl hg1_21 rfl ?_
      refine wl_off rfl rfl rfl rfl rfl hg1_21 rfl ?_
      refine wl_off rfl rfl rfl rfl rfl hg1_21 rfl ?_
      refine wl_on rfl rfl rfl rfl hg1_22 ?_
      replace h := Option.some.inj h
      subst h
      refine wl_det rfl rfl (det_pick_on rfl hg1_21 rfl rfl) rfl ?_
      exact wl_nil (pn_qnE (ext_cons rfl (ext_skip rfl (ext_skip rfl (ext_skip rfl (ext_skip rfl (ext_skip rfl (ext_skip rfl ext_refl))))))) (fun _ h => h))
    · have hg1_21a := hg
      have h := ifF hq1_21 hg
      refine wl_on rfl rfl rfl rfl hg1_21a ?_
      refine wl_det rfl rfl (det_field rfl fd49_3 rfl) rfl ?_
      refine wl_on rfl rfl rfl rfl hg1_21a ?_
      refine wl_det rfl rfl (det_load rfl (ms m0) (by rfl) na23 us23) rfl ?_
      refine wl_on rfl rfl rfl rfl hg1_21a ?_
      refine wl_det rfl rfl (det_field rfl fd65_4 rfl) rfl ?_
      refine wl_on rfl rfl rfl rfl hg1_21a ?_
      refine wl_det rfl rfl (det_load rfl m0 (by rfl) na3 us3) rfl ?_
      refine wl_on rfl rfl rfl rfl hg1_21a ?_
      obtain ⟨r1_20, hr1_20, h⟩ := bind_some h
      refine wl_act (act_callS (cap := []) (W_slices_Contains_s_int_int a0.Perils a1.Peril A0 a0.Perils.length c0 r1_20 hr1_20) rfl rfl rfl bd64 rfl ⟨m0, trivial⟩) rfl rfl rfl ?_
      rintro _ _ _ ⟨_, _, ⟨rfl, rfl, rfl⟩, rfl, rfl⟩
      dsimp only [List.nil_append, List.cons_append]
      refine wl_on rfl rfl rfl rfl hg1_22 ?_
      replace h := Option.some.inj h
      subst h
      refine wl_det rfl rfl (det_pick_off rfl hg1_21a rfl rfl) rfl ?_
      exact wl_nil (pn_qnE (ext_cons rfl (ext_skip rfl (ext_skip rfl (ext_skip rfl (ext_skip rfl (ext_skip rfl (ext_skip rfl ext_refl))))))) (fun _ h => h))
    have h := ho1_21
    replace h := Option.some.inj h
    subst h
    refine wl_det rfl rfl (det_pick_on rfl hg1_22 rfl rfl) rfl ?_
    exact wl_nil (pn_qnE (ext_cons rfl (ext_skip rfl (ext_skip rfl (ext_skip rfl (ext_skip rfl (ext_skip rfl (ext_skip rfl (ext_skip rfl ext_refl)))))))) (fun _ h => h))
  · have hg1_22a := hg
    have h := ifF hq1_22 hg
    refine wl_off rfl rfl rfl rfl rfl hg1_22a rfl ?_
    refine wl_off rfl rfl rfl rfl rfl hg1_22a rfl ?_
    refine wl_off rfl rfl rfl rfl rfl hg1_22a rfl ?_
    refine wl_off rfl rfl rfl rfl rfl hg1_22a rfl ?_
    refine wl_off rfl rfl rfl rfl rfl hg1_22a rfl ?_
    refine wl_none rfl rfl rfl rfl rfl rfl ?_
    refine wl_none rfl rfl rfl rfl rfl rfl ?_
    refine wl_none rfl rfl rfl rfl rfl rfl ?_
    refine wl_none rfl rfl rfl rfl rfl rfl ?_
    refine wl_none rfl rfl rfl rfl rfl rfl ?_
    refine wl_off rfl rfl rfl rfl rfl hg1_22a rfl ?_
    replace h := Option.some.inj h
    subst h
    refine wl_det rfl rfl (det_pick_off rfl hg1_22a rfl rfl) rfl ?_
    exact wl_nil (pn_qnE (ext_cons rfl (ext_skip rfl (ext_skip rfl (ext_skip rfl (ext_skip rfl (ext_skip rfl (ext_skip rfl (ext_skip rfl (ext_skip rfl (ext_skip rfl (ext_skip rfl (ext_skip rfl (ext_skip rfl ext_refl))))))))))))) (fun _ h => h))
  have h := ho1_22
  refine wl_det rfl rfl (det_move rfl) rfl ?_
  obtain ⟨q1_35, hq1_35, h⟩ := bind_some h
  have ho1_35 := h
  refine wl_way q1_22 q1_35 12 40 (fun hg => ?_) (fun hg => ?_) ?_
  · have hg1_35 := hg
    have h := ifT hq1_35 hg
    refine wl_on rfl rfl rfl rfl hg1_35 ?_
    refine wl_det rfl rfl (det_field rfl fd49_4 rfl) rfl ?_
    refine wl_on rfl rfl rfl rfl hg1_35 ?_
    refine wl_det rfl rfl (det_load rfl (ms m0) (by rfl) na23 us23) rfl ?_
    refine wl_on rfl rfl rfl rfl hg1_35 ?_
    refine wl_det rfl rfl (det_len rfl un23) rfl ?_
    refine wl_on rfl rfl rfl rfl hg1_35 ?_
    refine wl_det rfl rfl (det_eql rfl rfl) rfl ?_
    refine wl_on rfl rfl rfl rfl hg1_35 ?_
    refine wl_det rfl rfl (det_move rfl) rfl ?_
    obtain ⟨q1_34, hq1_34, h⟩ := bind_some h
    have ho1_34 := h
    refine wl_way (decide ((a0.Areas.length : Int) = 0)) q1_34 6 39 (fun hg => ?_) (fun hg => ?_) ?_
    · have hg1_34 := hg
      have h := ifT hq1_34 hg
      refine wl_off rfl rfl rfl rfl rfl hg1_34 rfl ?_
      refine wl_off rfl rfl rfl rfl rfl hg1_34 rfl ?_
      refine wl_off rfl rfl rfl rfl rfl hg1_34 rfl ?_
      refine wl_off rfl rfl rfl rfl rfl hg1_34 rfl ?_
      refine wl_off rfl rfl rfl rfl rfl hg1_34 rfl ?_
      refine wl_on rfl rfl rfl rfl hg1_35 ?_
      replace h := Option.some.inj h
      subst h
      refine wl_det rfl rfl (det_pick_on rfl hg1_34 rfl rfl) rfl ?_
      exact wl_nil (pn_qnE (ext_cons rfl (ext_skip rfl (ext_skip rfl (ext_skip rfl (ext_skip rfl (ext_skip rfl (ext_skip rfl ext_refl))))))) (fun _ h => h))
    · have hg1_34a := hg
      have h := ifF hq1_34 hg
      refine wl_on rfl rfl rfl rfl hg1_34a ?_
      refine wl_det rfl rfl (det_field rfl fd49_4 rfl) rfl ?_
      refine wl_on rfl rfl rfl rfl hg1_34a ?_
      refine wl_det rfl rfl (det_load rfl (ms m0) (by rfl) na23 us23) rfl ?_
      refine wl_on rfl rfl rfl rfl hg1_34a ?_
      refine wl_det rfl rfl (det_field rfl fd65_5 rfl) rfl ?_
      refine wl_on rfl rfl rfl rfl hg1_34a ?_
      refine wl_det rfl rfl (det_load rfl m0 (by rfl) na3 us3) rfl ?_
      refine wl_on rfl rfl rfl rfl hg1_34a ?_
      obtain ⟨r1_33, hr1_33, h⟩ := bind_some h
      refine wl_act (act_callS (cap := []) (W_slices_Contains_s_int_int a0.Areas a1.Area A3 a0.Areas.length c3 r1_33 hr1_33) rfl rfl rfl bd64 rfl ⟨(ms m0), trivial⟩) rfl rfl rfl ?_
      rintro _ _ _ ⟨_, _, ⟨rfl, rfl, rfl⟩, rfl, rfl⟩
      dsimp only [List.nil_append, List.cons_append]
      refine wl_on rfl rfl rfl rfl hg1_35 ?_
      replace h := Option.some.inj h
      subst h
      refine wl_det rfl rfl (det_pick_off rfl hg1_34a rfl rfl) rfl ?_
      exact wl_nil (pn_qnE (ext_cons rfl (ext_skip rfl (ext_skip rfl (ext_skip rfl (ext_skip rfl (ext_skip rfl (ext_skip rfl ext_refl))))))) (fun _ h => h))
    have h := ho1_34
    replace h := Option.some.inj h
    subst h
    refine wl_det rfl rfl (det_pick_on rfl hg1_35 rfl rfl) rfl ?_
    exact wl_nil (pn_qnE (ext_cons rfl (ext_skip rfl (ext_skip rfl (ext_skip rfl (ext_skip rfl (ext_skip rfl (ext_skip rfl (ext_skip rfl ext_refl)))))))) (fun _ h => h))
  · have hg1_35a := hg
    have h := ifF hq1_35 hg
    refine wl_off rfl rfl rfl rfl rfl hg1_35a rfl ?_
    refine wl_off rfl rfl rfl rfl rfl hg1_35a rfl ?_
    refine wl_off rfl rfl rfl rfl rfl hg1_35a rfl ?_
    refine wl_off rfl rfl rfl rfl rfl hg1_35a rfl ?_
    refine wl_off rfl rfl rfl rfl rfl hg1_35a rfl ?_
    refine wl_none rfl rfl rfl rfl rfl rfl ?_
    refine wl_none rfl rfl rfl rfl rfl rfl ?_
    refine wl_none rfl rfl rfl rfl rfl rfl ?_
    refine wl_none rfl rfl rfl rfl rfl rfl ?_
    refine wl_none rfl rfl rfl rfl rfl rfl ?_
    refine wl_off rfl rfl rfl rfl rfl hg1_35a rfl ?_
    replace h := Option.some.inj h
    subst h
    refine wl_det rfl rfl (det_pick_off rfl hg1_35a rfl rfl) rfl ?_
    exact wl_nil (pn_qnE (ext_cons rfl (ext_skip rfl (ext_skip rfl (ext_skip rfl (ext_skip rfl (ext_skip rfl (ext_skip rfl (ext_skip rfl (ext_skip rfl (ext_skip rfl (ext_skip rfl (ext_skip rfl (ext_skip rfl ext_refl))))))))))))) (fun _ h => h))
  have h := ho1_35
  refine wl_det rfl rfl (det_move rfl) rfl ?_
  refine wl_way q1_35 (q1_35 && ((!decide (a0.Kind = 3)) || (decide (a1.Risk = a0.Risk)))) 11 52 (fun hg => ?_) (fun hg => ?_) ?_
  · have hg1_47 := hg
    refine wl_on rfl rfl rfl rfl hg1_47 ?_
    refine wl_det rfl rfl (det_field rfl fd49_1 rfl) rfl ?_
    refine wl_on rfl rfl rfl rfl hg1_47 ?_
    refine wl_det rfl rfl (det_load rfl (ms m0) (by rfl) na3 us3) rfl ?_
    refine wl_on rfl rfl rfl rfl hg1_47 ?_
    refine wl_det rfl rfl (det_neq rfl rfl) rfl ?_
    refine wl_on rfl rfl rfl rfl hg1_47 ?_
    refine wl_det rfl rfl (det_move rfl) rfl ?_
    refine wl_way (!decide (a0.Kind = 3)) ((!decide (a0.Kind = 3)) || (decide (a1.Risk = a0.Risk))) 6 51 (fun hg => ?_) (fun hg => ?_) ?_
    · have hg1_46 := hg
      refine wl_off rfl rfl rfl rfl rfl hg1_46 rfl ?_
      refine wl_off rfl rfl rfl rfl rfl hg1_46 rfl ?_
      refine wl_off rfl rfl rfl rfl rfl hg1_46 rfl ?_
      refine wl_off rfl rfl rfl rfl rfl hg1_46 rfl ?_
      refine wl_off rfl rfl rfl rfl rfl hg1_46 rfl ?_
      refine wl_on rfl rfl rfl rfl hg1_47 ?_
      refine wl_det rfl rfl (det_or_on (r := (decide (a1.Risk = a0.Risk))) rfl rfl rfl hg1_46) rfl ?_
      exact wl_nil (pn_qnE (ext_cons rfl (ext_skip rfl (ext_skip rfl (ext_skip rfl (ext_skip rfl (ext_skip rfl (ext_skip rfl ext_refl))))))) (fun _ h => h))
    · have hg1_46a := hg
      refine wl_on rfl rfl rfl rfl hg1_46a ?_
      refine wl_det rfl rfl (det_field rfl fd65_2 rfl) rfl ?_
      refine wl_on rfl rfl rfl rfl hg1_46a ?_
      refine wl_det rfl rfl (det_load rfl m0 (by rfl) na3 us3) rfl ?_
      refine wl_on rfl rfl rfl rfl hg1_46a ?_
      refine wl_det rfl rfl (det_field rfl fd49_5 rfl) rfl ?_
      refine wl_on rfl rfl rfl rfl hg1_46a ?_
      refine wl_det rfl rfl (det_load rfl (ms m0) (by rfl) na3 us3) rfl ?_
      refine wl_on rfl rfl rfl rfl hg1_46a ?_
      refine wl_det rfl rfl (det_eql rfl rfl) rfl ?_
      refine wl_on rfl rfl rfl rfl hg1_47 ?_
      refine wl_det rfl rfl (det_or_off rfl rfl rfl hg1_46a) rfl ?_
      exact wl_nil (pn_qnE (ext_cons rfl (ext_skip rfl (ext_skip rfl (ext_skip rfl (ext_skip rfl (ext_skip rfl (ext_skip rfl ext_refl))))))) (fun _ h => h))
    refine wl_det rfl rfl (det_and_on rfl rfl rfl hg1_47) rfl ?_
    exact wl_nil (pn_qnE (ext_cons rfl (ext_skip rfl (ext_skip rfl (ext_skip rfl (ext_skip rfl (ext_skip rfl (ext_skip rfl ext_refl))))))) (fun _ h => h))
  · have hg1_47a := hg
    refine wl_off rfl rfl rfl rfl rfl hg1_47a rfl ?_
    refine wl_off rfl rfl rfl rfl rfl hg1_47a rfl ?_
    refine wl_off rfl rfl rfl rfl rfl hg1_47a rfl ?_
    refine wl_off rfl rfl rfl rfl rfl hg1_47a rfl ?_
    refine wl_none rfl rfl rfl rfl rfl rfl ?_
    refine wl_none rfl rfl rfl rfl rfl rfl ?_
    refine wl_none rfl rfl rfl rfl rfl rfl ?_
    refine wl_none rfl rfl rfl rfl rfl rfl ?_
    refine wl_none rfl rfl rfl rfl rfl rfl ?_
    refine wl_off rfl rfl rfl rfl rfl hg1_47a rfl ?_
    refine wl_det rfl rfl (det_and_off (q := ((!decide (a0.Kind = 3)) || (decide (a1.Risk = a0.Risk)))) rfl rfl rfl hg1_47a) rfl ?_
    exact wl_nil (pn_qnE (ext_cons rfl (ext_skip rfl (ext_skip rfl (ext_skip rfl (ext_skip rfl (ext_skip rfl (ext_skip rfl (ext_skip rfl (ext_skip rfl (ext_skip rfl (ext_skip rfl (ext_skip rfl ext_refl)))))))))))) (fun _ h => h))
  refine wl_det rfl rfl (det_assign rfl) rfl ?_
  refine wl_nil ?_
  refine pn_then ?_
  refine wc_ret ?_
  replace h := Option.some.inj h
  subst h
  refine pn_ret (vs := [_]) rfl ⟨rfl, trivial⟩ ⟨rfl, rfl, rfl⟩ (fun _ h => h.to trivial trivial)
def Q_treatyref01_PeriodValid (r : Bool) : Value → List Ent → List Fact → Prop := fun v θ κ => v = .bool r ∧ θ = [] ∧ κ = []
theorem plains_treatyref01_PeriodValid {r : Bool} : ∀ v θ κ, Q_treatyref01_PeriodValid r v θ κ → Plains θ := by
  rintro _ _ _ ⟨rfl, rfl, rfl⟩
  exact trivial
set_option maxHeartbeats 4000000 in
set_option maxRecDepth 100000 in
theorem W_treatyref01_PeriodValid (a0 : GPeriod) (r : Bool) (h : treatyref01_PeriodValid a0 = some r) : Spec Try.prog 75 [.agg #[.int .i64 a0.From, .int .i64 a0.To]] [] [] (Q_treatyref01_PeriodValid r) := by
  unfold treatyref01_PeriodValid at h
  refine spec_of (σ := [(0, _)]) Try.func75 rfl rfl rfl rfl ?_
  intro C
  refine wc_seq ?_
  refine wc_region ?_   -- region 0
  refine wl_act (act_box (cs := [_, _]) rfl rfl) rfl rfl rfl ?_
  rintro _ _ _ ⟨b0_0, rfl, rfl, rfl⟩
  refine wl_det rfl rfl (det_assign rfl) rfl ?_
  refine wl_nil ?_
  refine pn_then ?_
  refine wc_seq ?_
  refine wc_region ?_   -- region 1
  refine wl_det rfl rfl (det_field rfl fd47_0 rfl) rfl ?_
  refine wl_det rfl rfl (det_load rfl m0 (by rfl) na3 us3) rfl ?_
  refine wl_det rfl rfl (det_geq rfl rfl) rfl ?_
  refine wl_det rfl rfl (det_move rfl) rfl ?_
  refine wl_way (decide (0 ≤ a0.From)) ((decide (0 ≤ a0.From)) && (decide (a0.From < a0.To))) 6 12 (fun hg => ?_) (fun hg => ?_) ?_
  · have hg1_9 := hg
    refine wl_on rfl rfl rfl rfl hg1_9 ?_
    refine wl_det rfl rfl (det_field rfl fd47_0 rfl) rfl ?_
    refine wl_on rfl rfl rfl rfl hg1_9 ?_
    refine wl_det rfl rfl (det_load rfl m0 (by rfl) na3 us3) rfl ?_
    refine wl_on rfl rfl rfl rfl hg1_9 ?_
    refine wl_det rfl rfl (det_field rfl fd47_1 rfl) rfl ?_
    refine wl_on rfl rfl rfl rfl hg1_9 ?_
    refine wl_det rfl rfl (det_load rfl m0 (by rfl) na3 us3) rfl ?_
    refine wl_on rfl rfl rfl rfl hg1_9 ?_
    refine wl_det rfl rfl (det_lss rfl rfl) rfl ?_
    refine wl_det rfl rfl (det_and_on rfl rfl rfl hg1_9) rfl ?_
    exact wl_nil (pn_qnE (ext_cons rfl (ext_skip rfl (ext_skip rfl (ext_skip rfl (ext_skip rfl (ext_skip rfl (ext_skip rfl ext_refl))))))) (fun _ h => h))
  · have hg1_9a := hg
    refine wl_off rfl rfl rfl rfl rfl hg1_9a rfl ?_
    refine wl_off rfl rfl rfl rfl rfl hg1_9a rfl ?_
    refine wl_off rfl rfl rfl rfl rfl hg1_9a rfl ?_
    refine wl_off rfl rfl rfl rfl rfl hg1_9a rfl ?_
    refine wl_off rfl rfl rfl rfl rfl hg1_9a rfl ?_
    refine wl_det rfl rfl (det_and_off (q := (decide (a0.From < a0.To))) rfl rfl rfl hg1_9a) rfl ?_
    exact wl_nil (pn_qnE (ext_cons rfl (ext_skip rfl (ext_skip rfl (ext_skip rfl (ext_skip rfl (ext_skip rfl (ext_skip rfl ext_refl))))))) (fun _ h => h))
  refine wl_det rfl rfl (det_move rfl) rfl ?_
  refine wl_way ((decide (0 ≤ a0.From)) && (decide (a0.From < a0.To))) (((decide (0 ≤ a0.From)) && (decide (a0.From < a0.To))) && (decide (a0.To ≤ 876600))) 4 17 (fun hg => ?_) (fun hg => ?_) ?_
  · have hg1_14 := hg
    refine wl_on rfl rfl rfl rfl hg1_14 ?_
    refine wl_det rfl rfl (det_field rfl fd47_1 rfl) rfl ?_
    refine wl_on rfl rfl rfl rfl hg1_14 ?_
    refine wl_det rfl rfl (det_load rfl m0 (by rfl) na3 us3) rfl ?_
    refine wl_on rfl rfl rfl rfl hg1_14 ?_
    refine wl_det rfl rfl (det_leq rfl rfl) rfl ?_
    refine wl_det rfl rfl (det_and_on rfl rfl rfl hg1_14) rfl ?_
    exact wl_nil (pn_qnE (ext_cons rfl (ext_skip rfl (ext_skip rfl (ext_skip rfl (ext_skip rfl ext_refl))))) (fun _ h => h))
  · have hg1_14a := hg
    refine wl_off rfl rfl rfl rfl rfl hg1_14a rfl ?_
    refine wl_off rfl rfl rfl rfl rfl hg1_14a rfl ?_
    refine wl_off rfl rfl rfl rfl rfl hg1_14a rfl ?_
    refine wl_det rfl rfl (det_and_off (q := (decide (a0.To ≤ 876600))) rfl rfl rfl hg1_14a) rfl ?_
    exact wl_nil (pn_qnE (ext_cons rfl (ext_skip rfl (ext_skip rfl (ext_skip rfl (ext_skip rfl ext_refl))))) (fun _ h => h))
  refine wl_det rfl rfl (det_assign rfl) rfl ?_
  refine wl_nil ?_
  refine pn_then ?_
  refine wc_ret ?_
  replace h := Option.some.inj h
  subst h
  refine pn_ret (vs := [_]) rfl ⟨rfl, trivial⟩ ⟨rfl, rfl, rfl⟩ (fun _ h => h.to trivial trivial)
def Q_treatyref20_ascending (r : Int) : Value → List Ent → List Fact → Prop := fun v θ κ => v = .int .i64 r ∧ θ = [] ∧ κ = []
theorem plains_treatyref20_ascending {r : Int} : ∀ v θ κ, Q_treatyref20_ascending r v θ κ → Plains θ := by
  rintro _ _ _ ⟨rfl, rfl, rfl⟩
  exact trivial
set_option maxHeartbeats 4000000 in
set_option maxRecDepth 100000 in
theorem W_treatyref20_ascending (a0 : (List Int)) (a1 : Int) (a2 : Int) (A0 : Option Addr) (n0 : Nat) (c0 : Nat) (r : Int) (h : treatyref20_ascending a0 a1 a2 = some r) : Spec Try.prog 76 [.slice A0 n0 c0, .int .i64 a1, .int .i64 a2] [] [fV (lSlice (lInt .i64)) (.slice A0 n0 c0) a0] (Q_treatyref20_ascending r) := by
  unfold treatyref20_ascending at h
  refine spec_of (σ := [(0, _), (1, _), (2, _)]) Try.func76 rfl rfl rfl rfl ?_
  intro C
  refine wc_know (fun _ h => h.lenF m0) (fun e => ?_)
  subst e
  refine wc_seq ?_
  refine wc_region ?_   -- region 0
  refine wl_det rfl rfl (det_assign rfl) rfl ?_
  refine wl_nil ?_
  refine pn_then ?_
  obtain ⟨q2, h, ho2⟩ := bind_some h
  refine wc_meetG (G := Unit × Unit) (fun (s2, _) => (.inl s2) = q2) (fun (_, _) => []) (fun (_, _) => []) (fun (_, _) => []) ?_ ?_
  · refine wc_seq ?_
    refine wc_region ?_   -- region 1
    refine wl_det rfl rfl (det_assign rfl) rfl ?_
    refine wl_nil ?_
    refine pn_then ?_
    refine wc_block ?_
    obtain ⟨o6, h, ho6⟩ := bind_some h
    obtain ⟨k6, hk6⟩ := loopV_some.1 h
    refine wc_loop (G := Nat × Int × Unit) (fun g => IterN (treatyref20_ascending_l6 a0 a1 a2) g.1 g.2.1 o6) (fun g => g.1) (fun (_, s6, _) => [(0, .slice A0 a0.length c0), (1, .int .i64 a1), (2, .int .i64 a2), (7, .int .i64 s6)]) (fun (_, _, _) => []) (fun (_, _, _) => [fV (lSlice (lInt .i64)) (.slice A0 a0.length c0) a0]) (k6, 0, ()) hk6 ⟨rfl, rfl, rfl, rfl, trivial⟩ (fun _ h => h.to trivial ⟨m0, trivial⟩) ?_
    rintro ⟨k6, s6, _⟩ hI
    obtain ⟨k6, rfl, q6, h, g6⟩ := IterN.pos hI
    dsimp only at h ⊢
    unfold treatyref20_ascending_l6 at h
    refine wc_seq ?_
    refine wc_seq ?_
    refine wc_region ?_   -- region 2
    refine wl_det rfl rfl (det_move rfl) rfl ?_
    refine wl_det rfl rfl (det_move rfl) rfl ?_
    refine wl_det rfl rfl (det_len rfl un23) rfl ?_
    refine wl_det rfl rfl (det_lss rfl rfl) rfl ?_
    refine wl_nil ?_
    refine pn_then ?_
    refine wc_cond rfl (fun cd10 => ?_) (fun cd10 => ?_)
    · have h := ifT h cd10
      refine wc_skip ?_
      refine pn_then ?_
      refine wc_seq ?_
      refine wc_block ?_
      refine wc_seq ?_
      refine wc_seq ?_
      refine wc_region ?_   -- region 4
      refine wl_det rfl rfl (det_move rfl) rfl ?_
      refine wl_det rfl rfl (det_move rfl) rfl ?_
      obtain ⟨k4_2, h⟩ := chk_some h
      refine wl_st (fun _ h => h.openF m0 k4_2) ?_
      refine wl_det rfl rfl (det_indexP rfl rfl (ms m0) k4_2 m0 un23 sz3) rfl ?_
      refine wl_det rfl rfl (det_loadP (off := 0) rfl m0 (by rfl) (by rfl) (loaded_1 na3 us3)) rfl ?_
      refine wl_det rfl rfl (det_move rfl) rfl ?_
      refine wl_det rfl rfl (det_lss rfl rfl) rfl ?_
      refine wl_det rfl rfl (det_move rfl) rfl ?_
      refine wl_way (decide ((ix a0 s6) < a1)) ((decide ((ix a0 s6) < a1)) || (decide (a2 < (ix a0 s6)))) 7 27 (fun hg => ?_) (fun hg => ?_) ?_
      · have hg4_13 := hg
        refine wl_off rfl rfl rfl rfl rfl hg4_13 rfl ?_
        refine wl_off rfl rfl rfl rfl rfl hg4_13 rfl ?_
        refine wl_off rfl rfl rfl rfl rfl hg4_13 rfl ?_
        refine wl_off rfl rfl rfl rfl rfl hg4_13 rfl ?_
        refine wl_off rfl rfl rfl rfl rfl hg4_13 rfl ?_
        refine wl_off rfl rfl rfl rfl rfl hg4_13 rfl ?_
        refine wl_det rfl rfl (det_or_on (r := (decide (a2 < (ix a0 s6)))) rfl rfl rfl hg4_13) rfl ?_
        exact wl_nil (pn_qnE (ext_cons rfl (ext_skip rfl (ext_skip rfl (ext_skip rfl (ext_skip rfl (ext_skip rfl (ext_skip rfl (ext_skip rfl ext_refl)))))))) (fun _ h => h))
      · have hg4_13a := hg
        refine wl_on rfl rfl rfl rfl hg4_13a ?_
        refine wl_det rfl rfl (det_move rfl) rfl ?_
        refine wl_on rfl rfl rfl rfl hg4_13a ?_
        refine wl_det rfl rfl (det_move rfl) rfl ?_
        refine wl_on rfl rfl rfl rfl hg4_13a ?_
        refine wl_det rfl rfl (det_indexP rfl rfl (ms m0) k4_2 m0 un23 sz3) rfl ?_
        refine wl_on rfl rfl rfl rfl hg4_13a ?_
        refine wl_det rfl rfl (det_loadP (off := 0) rfl m0 (by rfl) (by rfl) (loaded_1 na3 us3)) rfl ?_
        refine wl_on rfl rfl rfl rfl hg4_13a ?_
        refine wl_det rfl rfl (det_move rfl) rfl ?_
        refine wl_on rfl rfl rfl rfl hg4_13a ?_
        refine wl_det rfl rfl (det_gtr rfl rfl) rfl ?_
        refine wl_det rfl rfl (det_or_off rfl rfl rfl hg4_13a) rfl ?_
        exact wl_nil (pn_qnE (ext_cons rfl (ext_skip rfl (ext_skip rfl (ext_skip rfl (ext_skip rfl (ext_skip rfl (ext_skip rfl (ext_skip rfl ext_refl)))))))) (fun _ h => h))
      refine wl_nil ?_
      refine pn_then ?_
      refine wc_cond rfl (fun cd17 => ?_) (fun cd17 => ?_)
      · have h := ifT h cd17
        refine wc_seq ?_
        refine wc_region ?_   -- region 5
        refine wl_det rfl rfl (det_assign rfl) rfl ?_
        refine wl_nil ?_
        refine pn_then ?_
        refine wc_ret ?_
        refine pr_then ?_
        refine pr_block ?_
        refine pr_then ?_
        refine pr_then ?_
        refine pr_block ?_
        refine pr_then ?_
        replace h := Option.some.inj h
        subst h
        replace g6 := nextR g6
        subst g6
        have h := (elimL ho6)
        replace h := Option.some.inj h
        subst h
        have h := (elimR ho2)
        replace h := Option.some.inj h
        subst h
        refine pn_ret (vs := [_]) rfl ⟨rfl, trivial⟩ ⟨rfl, rfl, rfl⟩ (fun _ h => h.to trivial trivial)
      · have h := ifF h cd17
        refine wc_skip ?_
        refine pn_then ?_
        obtain ⟨q20, h, ho20⟩ := bind_some h
        refine wc_meetG (G := Bool × Unit) (fun (s20, _) => s20 = q20) (fun (s20, _) => [(0, .slice A0 a0.length c0), (1, .int .i64 a1), (2, .int .i64 a2), (7, .int .i64 s6), (41, .bool s20)]) (fun (_, _) => []) (fun (_, _) => [fV (lSlice (lInt .i64)) (.slice A0 a0.length c0) a0]) ?_ ?_
        · rcases Bool.eq_false_or_eq_true (decide (0 < s6)) with hg6_g30 | hg6_g30
          · have h := ifT h hg6_g30
            obtain ⟨k6_p1, h⟩ := chk_some h
            refine wc_st (fun _ h => h.openF (ms m0) k6_p1) ?_
            refine dx_region 14 [[], [0], [0, 1], [0, 1, 2], [0, 1, 2], [0, 1, 2, 3, 4], [0, 1, 2, 3, 4, 5], [0, 1, 2], [0, 1, 2], [0, 1, 2, 8], [0, 1, 2, 7, 8, 9], [0, 1, 2, 7, 8, 9, 10], [0, 1, 2, 3, 4, 5, 6, 7, 8, 9, 10, 11], [0, 1, 2, 3, 4, 5, 6, 7, 8, 9, 10, 11, 12]] mixed (ord := (.det 0 (.det 1 (.det 2 (.det 3 (.det 4 (.det 5 (.det 6 (.det 7 (.det 8 (.det 9 (.det 10 (.det 11 (.det 12 (.det 13 .done))))))))))))))) (by kernel_rfl) ?_   -- region 6
            refine hx_det rfl rfl rfl nofun (det_move rfl) rfl ?_
            refine hx_det rfl rfl rfl nofun (det_gtr rfl rfl) rfl ?_
            refine hx_det rfl rfl rfl nofun (det_move rfl) rfl ?_
            refine hx_on rfl rfl rfl rfl rfl hg6_g30 nofun (det_move rfl) rfl ?_
            refine hx_on rfl rfl rfl rfl rfl hg6_g30 nofun (det_move rfl) rfl ?_
            refine hx_on rfl rfl rfl rfl rfl hg6_g30 nofun (det_indexP rfl rfl (ms (ms m0)) k4_2 (ms m0) un23 sz3) rfl ?_
            refine hx_on rfl rfl rfl rfl rfl hg6_g30 nofun (det_loadP (off := 0) rfl (ms m0) (by rfl) (by rfl) (loaded_1 na3 us3)) rfl ?_
            refine hx_on rfl rfl rfl rfl rfl hg6_g30 nofun (det_move rfl) rfl ?_
            refine hx_on rfl rfl rfl rfl rfl hg6_g30 nofun (det_move rfl) rfl ?_
            refine hx_on rfl rfl rfl rfl rfl hg6_g30 nofun (det_sub rfl rfl) rfl ?_
            refine hx_on rfl rfl rfl rfl rfl hg6_g30 nofun (det_indexP rfl rfl (ms (ms m0)) k6_p1 m0 un23 sz3) rfl ?_
            refine hx_on rfl rfl rfl rfl rfl hg6_g30 nofun (det_loadP (off := 0) rfl m0 (by rfl) (by rfl) (loaded_1 na3 us3)) rfl ?_
            refine hx_on rfl rfl rfl rfl rfl hg6_g30 nofun (det_leq rfl rfl) rfl ?_
            refine hx_det rfl rfl rfl nofun (det_pick_on rfl hg6_g30 rfl rfl) rfl ?_
            refine hx_end ?_
            refine wl_nil ?_
            replace h := Option.some.inj h
            subst h
            exact pn_meetG ((decide ((ix a0 s6) ≤ (ix a0 (w64 (s6 - 1))))), ()) rfl ⟨rfl, rfl, rfl, rfl, rfl, trivial⟩ (fun _ h => h.to trivial ⟨(ms (ms m0)), trivial⟩)
          · have h := ifF h hg6_g30
            refine dx_region 14 [[], [0], [0, 1], [0, 1, 2], [0, 1, 2], [0, 1, 2, 3, 4], [0, 1, 2, 3, 4, 5], [0, 1, 2], [0, 1, 2], [0, 1, 2, 8], [0, 1, 2, 7, 8, 9], [0, 1, 2, 7, 8, 9, 10], [0, 1, 2, 3, 4, 5, 6, 7, 8, 9, 10, 11], [0, 1, 2, 3, 4, 5, 6, 7, 8, 9, 10, 11, 12]] mixed (ord := (.det 0 (.det 1 (.det 2 (.det 3 (.det 4 (.det 5 (.det 6 (.det 7 (.det 8 (.det 9 (.det 10 (.det 11 (.det 12 (.det 13 .done))))))))))))))) (by kernel_rfl) ?_   -- region 6
            refine hx_det rfl rfl rfl nofun (det_move rfl) rfl ?_
            refine hx_det rfl rfl rfl nofun (det_gtr rfl rfl) rfl ?_
            refine hx_det rfl rfl rfl nofun (det_move rfl) rfl ?_
            refine hx_off rfl rfl rfl rfl rfl hg6_g30 rfl ?_
            refine hx_off rfl rfl rfl rfl rfl hg6_g30 rfl ?_
            refine hx_off rfl rfl rfl rfl rfl hg6_g30 rfl ?_
            refine hx_off rfl rfl rfl rfl rfl hg6_g30 rfl ?_
            refine hx_off rfl rfl rfl rfl rfl hg6_g30 rfl ?_
            refine hx_off rfl rfl rfl rfl rfl hg6_g30 rfl ?_
            refine hx_off rfl rfl rfl rfl rfl hg6_g30 rfl ?_
            refine hx_off rfl rfl rfl rfl rfl hg6_g30 rfl ?_
            refine hx_off rfl rfl rfl rfl rfl hg6_g30 rfl ?_
            refine hx_off rfl rfl rfl rfl rfl hg6_g30 rfl ?_
            refine hx_det rfl rfl rfl nofun (det_pick_off rfl hg6_g30 rfl rfl) rfl ?_
            refine hx_end ?_
            refine wl_nil ?_
            replace h := Option.some.inj h
            subst h
            exact pn_meetG (false, ()) rfl ⟨rfl, rfl, rfl, rfl, rfl, trivial⟩ (fun _ h => h.to trivial ⟨(ms m0), trivial⟩)
        rintro ⟨s20, _⟩ e20
        dsimp only at e20 ⊢
        subst e20
        have h := ho20
        refine wc_cond rfl (fun cd22 => ?_) (fun cd22 => ?_)
        · have h := ifT h cd22
          refine wc_seq ?_
          refine wc_region ?_   -- region 7
          refine wl_det rfl rfl (det_assign rfl) rfl ?_
          refine wl_nil ?_
          refine pn_then ?_
          refine wc_ret ?_
          refine pr_block ?_
          refine pr_then ?_
          refine pr_then ?_
          refine pr_block ?_
          refine pr_then ?_
          replace h := Option.some.inj h
          subst h
          replace g6 := nextR g6
          subst g6
          have h := (elimL ho6)
          replace h := Option.some.inj h
          subst h
          have h := (elimR ho2)
          replace h := Option.some.inj h
          subst h
          refine pn_ret (vs := [_]) rfl ⟨rfl, trivial⟩ ⟨rfl, rfl, rfl⟩ (fun _ h => h.to trivial trivial)
        · have h := ifF h cd22
          refine wc_skip ?_
          refine pn_block ?_
          refine pn_then ?_
          refine wc_region ?_   -- region 3
          refine wl_det rfl rfl (det_move rfl) rfl ?_
          refine wl_det rfl rfl (det_add rfl rfl) rfl ?_
          refine wl_det rfl rfl (det_assign rfl) rfl ?_
          refine wl_nil ?_
          replace h := Option.some.inj h
          subst h
          exact pn_some (k6, (w64 (s6 + 1)), ()) ⟨nextL g6, Nat.lt_succ_self _⟩ ⟨rfl, rfl, rfl, rfl, trivial⟩ (fun _ h => h.to trivial ⟨m0, trivial⟩)
    · have h := ifF h cd10
      refine wc_exit ?_
      refine px_then ?_
      refine px_then ?_
      refine px_block ?_
      replace h := Option.some.inj h
      subst h
      replace g6 := nextR g6
      subst g6
      have h := (elimR ho6)
      replace h := Option.some.inj h
      subst h
      exact pn_meetG ((), ()) rfl trivial (fun _ h => h.to trivial trivial)
  rintro ⟨s2, _⟩ e2
  dsimp only at e2 ⊢
  subst e2
  have h := (elimL ho2)
  refine wc_seq ?_
  refine wc_region ?_   -- region 8
  refine wl_det rfl rfl (det_assign rfl) rfl ?_
  refine wl_nil ?_
  refine pn_then ?_
  refine wc_ret ?_
  replace h := Option.some.inj h
  subst h
  refine pn_ret (vs := [_]) rfl ⟨rfl, trivial⟩ ⟨rfl, rfl, rfl⟩ (fun _ h => h.to trivial trivial)
def Q_treatyref20_numbers (r : (List Int)) : Value → List Ent → List Fact → Prop := fun v θ κ => ∃ (pA0 : Option Addr), ∃ (pn0 : Nat), ∃ (pc0 : Nat), v = .slice pA0 pn0 pc0 ∧ θ = [eS (lInt .i64) 3 pA0 pn0 pc0 r] ∧ κ = []
theorem plains_treatyref20_numbers {r : (List Int)} : ∀ v θ κ, Q_treatyref20_numbers r v θ κ → Plains θ := by
  rintro _ _ _ ⟨_, _, _, rfl, rfl, rfl⟩
  exact ⟨plain_eS, trivial⟩
set_option maxHeartbeats 4000000 in
set_option maxRecDepth 100000 in
theorem W_treatyref20_numbers (a0 : GTreaty) (A0 : Option Addr) (n0 : Nat) (c0 : Nat) (A3 : Option Addr) (n3 : Nat) (c3 : Nat) (A6 : Option Addr) (n6 : Nat) (c6 : Nat) (A9 : Option Addr) (n9 : Nat) (c9 : Nat) (A12 : Option Addr) (n12 : Nat) (c12 : Nat) (r : (List Int)) (h : treatyref20_numbers a0 = some r) : Spec Try.prog 77 [.agg #[.int .i64 a0.ID, .int .i64 a0.Kind, .int .i64 a0.Period.From, .int .i64 a0.Period.To, .slice A0 n0 c0, .slice A3 n3 c3, .int .i64 a0.Risk, .int .i64 a0.Cession, .int .i64 a0.Line, .int .i64 a0.Lines, .int .i64 a0.Retention, .int .i64 a0.Limit, .int .i64 a0.Window, .int .i64 a0.Deductible, .int .i64 a0.Aggregate, .int .i64 a0.Premium, .slice A6 n6 c6, .bool a0.Timed, .int .i64 a0.Base, .slice A9 n9 c9, .slice A12 n12 c12]] [] [fV (lSlice (lInt .i64)) (.slice A0 n0 c0) a0.Perils, fV (lSlice (lInt .i64)) (.slice A3 n3 c3) a0.Areas, fV (lSlice (lInt .i64)) (.slice A6 n6 c6) a0.Reinstatements, fV (lSlice (lInt .i64)) (.slice A9 n9 c9) a0.Inures, fV (lSlice lGPart) (.slice A12 n12 c12) a0.Parts] (Q_treatyref20_numbers r) := by
  unfold treatyref20_numbers at h
  refine spec_of (σ := [(0, _)]) Try.func77 rfl rfl rfl rfl ?_
  intro C
  refine wc_know (fun _ h => h.lenF m0) (fun e => ?_)
  subst e
  refine wc_know (fun _ h => h.lenF (ms m0)) (fun e => ?_)
  subst e
  refine wc_know (fun _ h => h.lenF (ms (ms m0))) (fun e => ?_)
  subst e
  refine wc_know (fun _ h => h.lenF (ms (ms (ms m0)))) (fun e => ?_)
  subst e
  refine wc_know (fun _ h => h.lenF (ms (ms (ms (ms m0))))) (fun e => ?_)
  subst e
  refine wc_seq ?_
  refine wc_region ?_   -- region 0
  refine wl_act (act_box (cs := [_, _, _, _, _, _, _, _, _, _, _, _, _, _, _, _, _, _, _, _, _]) rfl rfl) rfl rfl rfl ?_
  rintro _ _ _ ⟨b0_0, rfl, rfl, rfl⟩
  refine wl_det rfl rfl (det_assign rfl) rfl ?_
  refine wl_nil ?_
  refine pn_then ?_
  refine wc_seq ?_
  refine wc_region ?_   -- region 1
  refine wl_det rfl rfl (det_field rfl fd49_5 rfl) rfl ?_
  refine wl_det rfl rfl (det_load rfl m0 (by rfl) na3 us3) rfl ?_
  refine wl_det rfl rfl (det_field rfl fd49_6 rfl) rfl ?_
  refine wl_det rfl rfl (det_load rfl m0 (by rfl) na3 us3) rfl ?_
  refine wl_det rfl rfl (det_field rfl fd49_7 rfl) rfl ?_
  refine wl_det rfl rfl (det_load rfl m0 (by rfl) na3 us3) rfl ?_
  refine wl_det rfl rfl (det_field rfl fd49_8 rfl) rfl ?_
  refine wl_det rfl rfl (det_load rfl m0 (by rfl) na3 us3) rfl ?_
  refine wl_det rfl rfl (det_field rfl fd49_9 rfl) rfl ?_
  refine wl_det rfl rfl (det_load rfl m0 (by rfl) na3 us3) rfl ?_
  refine wl_det rfl rfl (det_field rfl fd49_10 rfl) rfl ?_
  refine wl_det rfl rfl (det_load rfl m0 (by rfl) na3 us3) rfl ?_
  refine wl_det rfl rfl (det_field rfl fd49_11 rfl) rfl ?_
  refine wl_det rfl rfl (det_load rfl m0 (by rfl) na3 us3) rfl ?_
  refine wl_det rfl rfl (det_field rfl fd49_12 rfl) rfl ?_
  refine wl_det rfl rfl (det_load rfl m0 (by rfl) na3 us3) rfl ?_
  refine wl_det rfl rfl (det_field rfl fd49_13 rfl) rfl ?_
  refine wl_det rfl rfl (det_load rfl m0 (by rfl) na3 us3) rfl ?_
  refine wl_det rfl rfl (det_field rfl fd49_17 rfl) rfl ?_
  refine wl_det rfl rfl (det_load rfl m0 (by rfl) na3 us3) rfl ?_
  refine wl_act (act_litS (lInt .i64) (vs := [_, _, _, _, _, _, _, _, _, _]) (cs := [_, _, _, _, _, _, _, _, _, _]) [a0.Risk, a0.Cession, a0.Line, a0.Lines, a0.Retention, a0.Limit, a0.Window, a0.Deductible, a0.Aggregate, a0.Base] un23 in3 rfl rfl rfl rfl rfl ⟨rfl, rfl, rfl, rfl, rfl, rfl, rfl, rfl, rfl, rfl, trivial⟩ (by rfl) rfl (litR_flat rfl)) rfl rfl rfl ?_
  rintro _ _ _ ⟨A1_20, rfl, rfl, rfl⟩
  refine wl_det rfl rfl (det_assign rfl) rfl ?_
  refine wl_nil ?_
  refine pn_then ?_
  refine wc_ret ?_
  replace h := Option.some.inj h
  subst h
  refine pn_ret (vs := [_]) rfl ⟨rfl, trivial⟩ ⟨A1_20, 10, 10, rfl, rfl, rfl⟩ (fun _ h => h.to ⟨_, r0, trivial⟩ trivial)
def Q_treatyref20_least (r : (List Int)) : Value → List Ent → List Fact → Prop := fun v θ κ => ∃ (pA0 : Option Addr), ∃ (pn0 : Nat), ∃ (pc0 : Nat), v = .slice pA0 pn0 pc0 ∧ θ = [eS (lInt .i64) 3 pA0 pn0 pc0 r] ∧ κ = []
theorem plains_treatyref20_least {r : (List Int)} : ∀ v θ κ, Q_treatyref20_least r v θ κ → Plains θ := by
  rintro _ _ _ ⟨_, _, _, rfl, rfl, rfl⟩
  exact ⟨plain_eS, trivial⟩
set_option maxHeartbeats 4000000 in
set_option maxRecDepth 100000 in
theorem W_treatyref20_least (a0 : Int) (r : (List Int)) (h : treatyref20_least a0 = some r) : Spec Try.prog 78 [.int .i64 a0] [] [] (Q_treatyref20_least r) := by
  unfold treatyref20_least at h
  refine spec_of (σ := [(0, _)]) Try.func78 rfl rfl rfl rfl ?_
  intro C
  refine wc_seq ?_
  refine wc_region ?_   -- region 0
  refine wl_det rfl rfl (det_assign rfl) rfl ?_
  refine wl_nil ?_
  refine pn_then ?_
  refine wc_seq ?_
  refine wc_seq ?_
  refine wc_region ?_   -- region 1
  refine wl_det rfl rfl (det_move rfl) rfl ?_
  refine wl_nil ?_
  refine pn_then ?_
  refine wc_block ?_
  refine wc_seq ?_
  refine wc_region ?_   -- region 2
  refine wl_det rfl rfl (det_eql rfl rfl) rfl ?_
  refine wl_det rfl rfl (det_assign rfl) rfl ?_
  refine wl_nil ?_
  refine pn_then ?_
  refine wc_cond rfl (fun cd8 => ?_) (fun cd8 => ?_)
  · have h := ifT h cd8
    refine wc_seq ?_
    refine wc_region ?_   -- region 3
    refine wl_act (act_litS (lInt .i64) (vs := [_, _, _, _, _, _, _, _, _, _]) (cs := [_, _, _, _, _, _, _, _, _, _]) [(-1), 1, (-1), (-1), (-1), 0, (-1), (-1), (-1), (-1)] un23 in3 rfl rfl rfl rfl rfl ⟨rfl, rfl, rfl, rfl, rfl, rfl, rfl, rfl, rfl, rfl, trivial⟩ (by rfl) rfl (litR_flat rfl)) rfl rfl rfl ?_
    rintro _ _ _ ⟨A3_0, rfl, rfl, rfl⟩
    refine wl_det rfl rfl (det_assign rfl) rfl ?_
    refine wl_nil ?_
    refine pn_then ?_
    refine wc_ret ?_
    refine pr_block ?_
    refine pr_then ?_
    replace h := Option.some.inj h
    subst h
    refine pn_ret (vs := [_]) rfl ⟨rfl, trivial⟩ ⟨A3_0, 10, 10, rfl, rfl, rfl⟩ (fun _ h => h.to ⟨_, r0, trivial⟩ trivial)
  · have h := ifF h cd8
    refine wc_seq ?_
    refine wc_region ?_   -- region 4
    refine wl_det rfl rfl (det_eql rfl rfl) rfl ?_
    refine wl_det rfl rfl (det_assign rfl) rfl ?_
    refine wl_nil ?_
    refine pn_then ?_
    refine wc_cond rfl (fun cd13 => ?_) (fun cd13 => ?_)
    · have h := ifT h cd13
      refine wc_seq ?_
      refine wc_region ?_   -- region 5
      refine wl_act (act_litS (lInt .i64) (vs := [_, _, _, _, _, _, _, _, _, _]) (cs := [_, _, _, _, _, _, _, _, _, _]) [(-1), (-1), 1, 1, (-1), (-1), (-1), (-1), (-1), (-1)] un23 in3 rfl rfl rfl rfl rfl ⟨rfl, rfl, rfl, rfl, rfl, rfl, rfl, rfl, rfl, rfl, trivial⟩ (by rfl) rfl (litR_flat rfl)) rfl rfl rfl ?_
      rintro _ _ _ ⟨A5_0, rfl, rfl, rfl⟩
      refine wl_det rfl rfl (det_assign rfl) rfl ?_
      refine wl_nil ?_
      refine pn_then ?_
      refine wc_ret ?_
      refine pr_block ?_
      refine pr_then ?_
      replace h := Option.some.inj h
      subst h
      refine pn_ret (vs := [_]) rfl ⟨rfl, trivial⟩ ⟨A5_0, 10, 10, rfl, rfl, rfl⟩ (fun _ h => h.to ⟨_, r0, trivial⟩ trivial)
    · have h := ifF h cd13
      refine wc_seq ?_
      refine wc_region ?_   -- region 6
      refine wl_det rfl rfl (det_eql rfl rfl) rfl ?_
      refine wl_det rfl rfl (det_assign rfl) rfl ?_
      refine wl_nil ?_
      refine pn_then ?_
      refine wc_cond rfl (fun cd18 => ?_) (fun cd18 => ?_)
      · have h := ifT h cd18
        refine wc_seq ?_
        refine wc_region ?_   -- region 7
        refine wl_act (act_litS (lInt .i64) (vs := [_, _, _, _, _, _, _, _, _, _]) (cs := [_, _, _, _, _, _, _, _, _, _]) [1, 1, (-1), (-1), (-1), (-1), (-1), (-1), (-1), (-1)] un23 in3 rfl rfl rfl rfl rfl ⟨rfl, rfl, rfl, rfl, rfl, rfl, rfl, rfl, rfl, rfl, trivial⟩ (by rfl) rfl (litR_flat rfl)) rfl rfl rfl ?_
        rintro _ _ _ ⟨A7_0, rfl, rfl, rfl⟩
        refine wl_det rfl rfl (det_assign rfl) rfl ?_
        refine wl_nil ?_
        refine pn_then ?_
        refine wc_ret ?_
        refine pr_block ?_
        refine pr_then ?_
        replace h := Option.some.inj h
        subst h
        refine pn_ret (vs := [_]) rfl ⟨rfl, trivial⟩ ⟨A7_0, 10, 10, rfl, rfl, rfl⟩ (fun _ h => h.to ⟨_, r0, trivial⟩ trivial)
      · have h := ifF h cd18
        refine wc_seq ?_
        refine wc_region ?_   -- region 8
        refine wl_det rfl rfl (det_eql rfl rfl) rfl ?_
        refine wl_det rfl rfl (det_assign rfl) rfl ?_
        refine wl_nil ?_
        refine pn_then ?_
        refine wc_cond rfl (fun cd23 => ?_) (fun cd23 => ?_)
        · have h := ifT h cd23
          refine wc_seq ?_
          refine wc_region ?_   -- region 9
          refine wl_act (act_litS (lInt .i64) (vs := [_, _, _, _, _, _, _, _, _, _]) (cs := [_, _, _, _, _, _, _, _, _, _]) [(-1), (-1), (-1), (-1), 0, 1, (-1), 0, 0, 0] un23 in3 rfl rfl rfl rfl rfl ⟨rfl, rfl, rfl, rfl, rfl, rfl, rfl, rfl, rfl, rfl, trivial⟩ (by rfl) rfl (litR_flat rfl)) rfl rfl rfl ?_
          rintro _ _ _ ⟨A9_0, rfl, rfl, rfl⟩
          refine wl_det rfl rfl (det_assign rfl) rfl ?_
          refine wl_nil ?_
          refine pn_then ?_
          refine wc_ret ?_
          refine pr_block ?_
          refine pr_then ?_
          replace h := Option.some.inj h
          subst h
          refine pn_ret (vs := [_]) rfl ⟨rfl, trivial⟩ ⟨A9_0, 10, 10, rfl, rfl, rfl⟩ (fun _ h => h.to ⟨_, r0, trivial⟩ trivial)
        · have h := ifF h cd23
          refine wc_seq ?_
          refine wc_region ?_   -- region 10
          refine wl_det rfl rfl (det_eql rfl rfl) rfl ?_
          refine wl_det rfl rfl (det_assign rfl) rfl ?_
          refine wl_nil ?_
          refine pn_then ?_
          refine wc_cond rfl (fun cd28 => ?_) (fun cd28 => ?_)
          · have h := ifT h cd28
            refine wc_seq ?_
            refine wc_region ?_   -- region 11
            refine wl_act (act_litS (lInt .i64) (vs := [_, _, _, _, _, _, _, _, _, _]) (cs := [_, _, _, _, _, _, _, _, _, _]) [(-1), (-1), (-1), (-1), 0, 1, 1, 0, 0, (-1)] un23 in3 rfl rfl rfl rfl rfl ⟨rfl, rfl, rfl, rfl, rfl, rfl, rfl, rfl, rfl, rfl, trivial⟩ (by rfl) rfl (litR_flat rfl)) rfl rfl rfl ?_
            rintro _ _ _ ⟨A11_0, rfl, rfl, rfl⟩
            refine wl_det rfl rfl (det_assign rfl) rfl ?_
            refine wl_nil ?_
            refine pn_then ?_
            refine wc_ret ?_
            refine pr_block ?_
            refine pr_then ?_
            replace h := Option.some.inj h
            subst h
            refine pn_ret (vs := [_]) rfl ⟨rfl, trivial⟩ ⟨A11_0, 10, 10, rfl, rfl, rfl⟩ (fun _ h => h.to ⟨_, r0, trivial⟩ trivial)
          · have h := ifF h cd28
            refine wc_skip ?_
            refine pn_block ?_
            refine pn_then ?_
            refine wc_seq ?_
            refine wc_region ?_   -- region 12
            refine wl_act (act_litS (lInt .i64) (vs := [_, _, _, _, _, _, _, _, _, _]) (cs := [_, _, _, _, _, _, _, _, _, _]) [(-1), (-1), (-1), (-1), 0, 1, (-1), (-1), (-1), (-1)] un23 in3 rfl rfl rfl rfl rfl ⟨rfl, rfl, rfl, rfl, rfl, rfl, rfl, rfl, rfl, rfl, trivial⟩ (by rfl) rfl (litR_flat rfl)) rfl rfl rfl ?_
            rintro _ _ _ ⟨A12_0, rfl, rfl, rfl⟩
            refine wl_det rfl rfl (det_assign rfl) rfl ?_
            refine wl_nil ?_
            refine pn_then ?_
            refine wc_ret ?_
            replace h := Option.some.inj h
            subst h
            refine pn_ret (vs := [_]) rfl ⟨rfl, trivial⟩ ⟨A12_0, 10, 10, rfl, rfl, rfl⟩ (fun _ h => h.to ⟨_, r0, trivial⟩ trivial)
def Q_treatyref20_holds (r : Bool) : Value → List Ent → List Fact → Prop := fun v θ κ => v = .bool r ∧ θ = [] ∧ κ = []
theorem plains_treatyref20_holds {r : Bool} : ∀ v θ κ, Q_treatyref20_holds r v θ κ → Plains θ := by
  rintro _ _ _ ⟨rfl, rfl, rfl⟩
  exact trivial
set_option maxHeartbeats 4000000 in
set_option maxRecDepth 100000 in
theorem W_treatyref20_holds (a0 : (List Int)) (a1 : Int) (A0 : Option Addr) (n0 : Nat) (c0 : Nat) (r : Bool) (h : treatyref20_holds a0 a1 = some r) : Spec Try.prog 65 [.slice A0 n0 c0, .int .i64 a1] [] [fV (lSlice (lInt .i64)) (.slice A0 n0 c0) a0] (Q_treatyref20_holds r) := by
  unfold treatyref20_holds at h
  refine spec_of (σ := [(0, _), (1, _)]) Try.func65 rfl rfl rfl rfl ?_
  intro C
  refine wc_know (fun _ h => h.lenF m0) (fun e => ?_)
  subst e
  refine wc_seq ?_
  refine wc_region ?_   -- region 0
  refine wl_det rfl rfl (det_assign rfl) rfl ?_
  refine wl_nil ?_
  refine pn_then ?_
  obtain ⟨q2, h, ho2⟩ := bind_some h
  refine wc_meetG (G := Unit × Unit) (fun (s2, _) => (.inl s2) = q2) (fun (_, _) => []) (fun (_, _) => []) (fun (_, _) => []) ?_ ?_
  · refine wc_seq ?_
    refine wc_region ?_   -- region 1
    refine wl_det rfl rfl (det_assign rfl) rfl ?_
    refine wl_nil ?_
    refine pn_then ?_
    refine wc_block ?_
    obtain ⟨o6, h, ho6⟩ := bind_some h
    obtain ⟨k6, hk6⟩ := loopV_some.1 h
    refine wc_loop (G := Nat × Int × Unit) (fun g => IterN (treatyref20_holds_l6 a0 a1) g.1 g.2.1 o6) (fun g => g.1) (fun (_, s6, _) => [(0, .slice A0 a0.length c0), (1, .int .i64 a1), (5, .int .i64 s6)]) (fun (_, _, _) => []) (fun (_, _, _) => [fV (lSlice (lInt .i64)) (.slice A0 a0.length c0) a0]) (k6, 0, ()) hk6 ⟨rfl, rfl, rfl, trivial⟩ (fun _ h => h.to trivial ⟨m0, trivial⟩) ?_
    rintro ⟨k6, s6, _⟩ hI
    obtain ⟨k6, rfl, q6, h, g6⟩ := IterN.pos hI
    dsimp only at h ⊢
    unfold treatyref20_holds_l6 at h
    refine wc_seq ?_
    refine wc_seq ?_
    refine wc_region ?_   -- region 2
    refine wl_det rfl rfl (det_move rfl) rfl ?_
    refine wl_det rfl rfl (det_move rfl) rfl ?_
    refine wl_det rfl rfl (det_len rfl un23) rfl ?_
    refine wl_det rfl rfl (det_lss rfl rfl) rfl ?_
    refine wl_nil ?_
    refine pn_then ?_
    refine wc_cond rfl (fun cd10 => ?_) (fun cd10 => ?_)
    · have h := ifT h cd10
      refine wc_skip ?_
      refine pn_then ?_
      refine wc_seq ?_
      refine wc_block ?_
      refine wc_seq ?_
      refine wc_region ?_   -- region 4
      refine wl_det rfl rfl (det_move rfl) rfl ?_
      refine wl_det rfl rfl (det_move rfl) rfl ?_
      obtain ⟨k4_2, h⟩ := chk_some h
      refine wl_st (fun _ h => h.openF m0 k4_2) ?_
      refine wl_det rfl rfl (det_indexP rfl rfl (ms m0) k4_2 m0 un23 sz3) rfl ?_
      refine wl_det rfl rfl (det_loadP (off := 0) rfl m0 (by rfl) (by rfl) (loaded_1 na3 us3)) rfl ?_
      refine wl_det rfl rfl (det_move rfl) rfl ?_
      refine wl_det rfl rfl (det_eql rfl rfl) rfl ?_
      refine wl_nil ?_
      refine pn_then ?_
      refine wc_cond rfl (fun cd16 => ?_) (fun cd16 => ?_)
      · have h := ifT h cd16
        refine wc_seq ?_
        refine wc_region ?_   -- region 5
        refine wl_det rfl rfl (det_assign rfl) rfl ?_
        refine wl_nil ?_
        refine pn_then ?_
        refine wc_ret ?_
        refine pr_block ?_
        refine pr_then ?_
        refine pr_then ?_
        refine pr_block ?_
        refine pr_then ?_
        replace h := Option.some.inj h
        subst h
        replace g6 := nextR g6
        subst g6
        have h := (elimL ho6)
        replace h := Option.some.inj h
        subst h
        have h := (elimR ho2)
        replace h := Option.some.inj h
        subst h
        refine pn_ret (vs := [_]) rfl ⟨rfl, trivial⟩ ⟨rfl, rfl, rfl⟩ (fun _ h => h.to trivial trivial)
      · have h := ifF h cd16
        refine wc_skip ?_
        refine pn_block ?_
        refine pn_then ?_
        refine wc_region ?_   -- region 3
        refine wl_det rfl rfl (det_move rfl) rfl ?_
        refine wl_det rfl rfl (det_add rfl rfl) rfl ?_
        refine wl_det rfl rfl (det_assign rfl) rfl ?_
        refine wl_nil ?_
        replace h := Option.some.inj h
        subst h
        exact pn_some (k6, (w64 (s6 + 1)), ()) ⟨nextL g6, Nat.lt_succ_self _⟩ ⟨rfl, rfl, rfl, trivial⟩ (fun _ h => h.to trivial ⟨(ms m0), trivial⟩)
    · have h := ifF h cd10
      refine wc_exit ?_
      refine px_then ?_
      refine px_then ?_
      refine px_block ?_
      replace h := Option.some.inj h
      subst h
      replace g6 := nextR g6
      subst g6
      have h := (elimR ho6)
      replace h := Option.some.inj h
      subst h
      exact pn_meetG ((), ()) rfl trivial (fun _ h => h.to trivial trivial)
  rintro ⟨s2, _⟩ e2
  dsimp only at e2 ⊢
  subst e2
  have h := (elimL ho2)
  refine wc_seq ?_
  refine wc_region ?_   -- region 6
  refine wl_det rfl rfl (det_assign rfl) rfl ?_
  refine wl_nil ?_
  refine pn_then ?_
  refine wc_ret ?_
  replace h := Option.some.inj h
  subst h
  refine pn_ret (vs := [_]) rfl ⟨rfl, trivial⟩ ⟨rfl, rfl, rfl⟩ (fun _ h => h.to trivial trivial)
def Q_treatyref20_parts (r : Int × Int) : Value → List Ent → List Fact → Prop := fun v θ κ => v = .tuple #[.int .i64 r.1, .int .i64 r.2] ∧ θ = [] ∧ κ = []
theorem plains_treatyref20_parts {r : Int × Int} : ∀ v θ κ, Q_treatyref20_parts r v θ κ → Plains θ := by
  rintro _ _ _ ⟨rfl, rfl, rfl⟩
  exact trivial
set_option maxHeartbeats 4000000 in
set_option maxRecDepth 100000 in
theorem W_treatyref20_parts (a0 : (List GPart)) (A0 : Option Addr) (n0 : Nat) (c0 : Nat) (r : Int × Int) (h : treatyref20_parts a0 = some r) : Spec Try.prog 47 [.slice A0 n0 c0] [] [fV (lSlice lGPart) (.slice A0 n0 c0) a0] (Q_treatyref20_parts r) := by
  unfold treatyref20_parts at h
  refine spec_of (σ := [(0, _)]) Try.func47 rfl rfl rfl rfl ?_
  intro C
  refine wc_know (fun _ h => h.lenF m0) (fun e => ?_)
  subst e
  refine wc_seq ?_
  refine wc_region ?_   -- region 0
  refine wl_det rfl rfl (det_assign rfl) rfl ?_
  refine wl_det rfl rfl (det_assign rfl) rfl ?_
  refine wl_nil ?_
  refine pn_then ?_
  refine wc_seq ?_
  refine wc_seq ?_
  refine wc_region ?_   -- region 1
  refine wl_det rfl rfl (det_move rfl) rfl ?_
  refine wl_det rfl rfl (det_len rfl un22) rfl ?_
  refine wl_det rfl rfl (det_gtr rfl rfl) rfl ?_
  refine wl_nil ?_
  refine pn_then ?_
  refine wc_cond rfl (fun cd5 => ?_) (fun cd5 => ?_)
  · have h := ifT h cd5
    refine wc_seq ?_
    refine wc_region ?_   -- region 2
    refine wl_det rfl rfl (det_assign rfl) rfl ?_
    refine wl_det rfl rfl (det_assign rfl) rfl ?_
    refine wl_nil ?_
    refine pn_then ?_
    refine wc_ret ?_
    refine pr_then ?_
    replace h := Option.some.inj h
    subst h
    refine pn_ret (vs := [_, _]) rfl ⟨rfl, rfl, trivial⟩ ⟨rfl, rfl, rfl⟩ (fun _ h => h.to trivial trivial)
  · have h := ifF h cd5
    refine wc_skip ?_
    refine pn_then ?_
    refine wc_seq ?_
    refine wc_region ?_   -- region 3
    refine wl_det rfl rfl (det_assign rfl) rfl ?_
    refine wl_nil ?_
    refine pn_then ?_
    obtain ⟨q10, h, ho10⟩ := bind_some h
    refine wc_meetG (G := Int × Unit) (fun (s10, _) => (.inl s10) = q10) (fun (s10, _) => [(4, .int .i64 s10)]) (fun (_, _) => []) (fun (_, _) => []) ?_ ?_
    · refine wc_seq ?_
      refine wc_region ?_   -- region 4
      refine wl_det rfl rfl (det_assign rfl) rfl ?_
      refine wl_nil ?_
      refine pn_then ?_
      refine wc_block ?_
      obtain ⟨o14, h, ho14⟩ := bind_some h
      obtain ⟨k14, hk14⟩ := loopV_some.1 h
      refine wc_loop (G := Nat × (Int × Int) × Unit) (fun g => IterN (treatyref20_parts_l14 a0) g.1 g.2.1 o14) (fun g => g.1) (fun (_, s14, _) => [(0, .slice A0 a0.length c0), (4, .int .i64 s14.1), (5, .int .i64 s14.2)]) (fun (_, _, _) => []) (fun (_, _, _) => [fV (lSlice lGPart) (.slice A0 a0.length c0) a0]) (k14, (0, 0), ()) hk14 ⟨rfl, rfl, rfl, trivial⟩ (fun _ h => h.to trivial ⟨m0, trivial⟩) ?_
      rintro ⟨k14, s14, _⟩ hI
      obtain ⟨k14, rfl, q14, h, g14⟩ := IterN.pos hI
      dsimp only at h ⊢
      unfold treatyref20_parts_l14 at h
      refine wc_seq ?_
      refine wc_seq ?_
      refine wc_region ?_   -- region 5
      refine wl_det rfl rfl (det_move rfl) rfl ?_
      refine wl_det rfl rfl (det_move rfl) rfl ?_
      refine wl_det rfl rfl (det_len rfl un22) rfl ?_
      refine wl_det rfl rfl (det_lss rfl rfl) rfl ?_
      refine wl_nil ?_
      refine pn_then ?_
      refine wc_cond rfl (fun cd18 => ?_) (fun cd18 => ?_)
      · have h := ifT h cd18
        refine wc_skip ?_
        refine pn_then ?_
        refine wc_seq ?_
        refine wc_block ?_
        refine wc_seq ?_
        refine wc_seq ?_
        refine wc_region ?_   -- region 7
        refine wl_det rfl rfl (det_move rfl) rfl ?_
        refine wl_det rfl rfl (det_move rfl) rfl ?_
        obtain ⟨k7_2, h⟩ := chk_some h
        refine wl_st (fun _ h => h.openF m0 k7_2) ?_
        refine wl_det rfl rfl (det_indexP rfl rfl (ms m0) k7_2 m0 un22 sz25) rfl ?_
        refine wl_det rfl rfl (det_fieldP rfl m0 fd25_0 rfl) rfl ?_
        refine wl_det rfl rfl (det_loadP (off := 0) rfl m0 (by rfl) (by rfl) (loaded_1 na3 us3)) rfl ?_
        refine wl_det rfl rfl (det_lss rfl rfl) rfl ?_
        refine wl_det rfl rfl (det_move rfl) rfl ?_
        refine wl_way (decide ((ix a0 s14.2).Party < 1)) ((decide ((ix a0 s14.2).Party < 1)) || (decide (15 < (ix a0 s14.2).Party))) 7 28 (fun hg => ?_) (fun hg => ?_) ?_
        · have hg7_13 := hg
          refine wl_off rfl rfl rfl rfl rfl hg7_13 rfl ?_
          refine wl_off rfl rfl rfl rfl rfl hg7_13 rfl ?_
          refine wl_off rfl rfl rfl rfl rfl hg7_13 rfl ?_
          refine wl_off rfl rfl rfl rfl rfl hg7_13 rfl ?_
          refine wl_off rfl rfl rfl rfl rfl hg7_13 rfl ?_
          refine wl_off rfl rfl rfl rfl rfl hg7_13 rfl ?_
          refine wl_det rfl rfl (det_or_on (r := (decide (15 < (ix a0 s14.2).Party))) rfl rfl rfl hg7_13) rfl ?_
          exact wl_nil (pn_qnE (ext_cons rfl (ext_skip rfl (ext_skip rfl (ext_skip rfl (ext_skip rfl (ext_skip rfl (ext_skip rfl (ext_skip rfl ext_refl)))))))) (fun _ h => h))
        · have hg7_13a := hg
          refine wl_on rfl rfl rfl rfl hg7_13a ?_
          refine wl_det rfl rfl (det_move rfl) rfl ?_
          refine wl_on rfl rfl rfl rfl hg7_13a ?_
          refine wl_det rfl rfl (det_move rfl) rfl ?_
          refine wl_on rfl rfl rfl rfl hg7_13a ?_
          refine wl_det rfl rfl (det_indexP rfl rfl (ms m0) k7_2 m0 un22 sz25) rfl ?_
          refine wl_on rfl rfl rfl rfl hg7_13a ?_
          refine wl_det rfl rfl (det_fieldP rfl m0 fd25_0 rfl) rfl ?_
          refine wl_on rfl rfl rfl rfl hg7_13a ?_
          refine wl_det rfl rfl (det_loadP (off := 0) rfl m0 (by rfl) (by rfl) (loaded_1 na3 us3)) rfl ?_
          refine wl_on rfl rfl rfl rfl hg7_13a ?_
          refine wl_det rfl rfl (det_gtr rfl rfl) rfl ?_
          refine wl_det rfl rfl (det_or_off rfl rfl rfl hg7_13a) rfl ?_
          exact wl_nil (pn_qnE (ext_cons rfl (ext_skip rfl (ext_skip rfl (ext_skip rfl (ext_skip rfl (ext_skip rfl (ext_skip rfl (ext_skip rfl ext_refl)))))))) (fun _ h => h))
        refine wl_det rfl rfl (det_move rfl) rfl ?_
        refine wl_way ((decide ((ix a0 s14.2).Party < 1)) || (decide (15 < (ix a0 s14.2).Party))) (((decide ((ix a0 s14.2).Party < 1)) || (decide (15 < (ix a0 s14.2).Party))) || (decide ((ix a0 s14.2).Share < 1))) 7 36 (fun hg => ?_) (fun hg => ?_) ?_
        · have hg7_21 := hg
          refine wl_off rfl rfl rfl rfl rfl hg7_21 rfl ?_
          refine wl_off rfl rfl rfl rfl rfl hg7_21 rfl ?_
          refine wl_off rfl rfl rfl rfl rfl hg7_21 rfl ?_
          refine wl_off rfl rfl rfl rfl rfl hg7_21 rfl ?_
          refine wl_off rfl rfl rfl rfl rfl hg7_21 rfl ?_
          refine wl_off rfl rfl rfl rfl rfl hg7_21 rfl ?_
          refine wl_det rfl rfl (det_or_on (r := (decide ((ix a0 s14.2).Share < 1))) rfl rfl rfl hg7_21) rfl ?_
          exact wl_nil (pn_qnE (ext_cons rfl (ext_skip rfl (ext_skip rfl (ext_skip rfl (ext_skip rfl (ext_skip rfl (ext_skip rfl (ext_skip rfl ext_refl)))))))) (fun _ h => h))
        · have hg7_21a := hg
          refine wl_on rfl rfl rfl rfl hg7_21a ?_
          refine wl_det rfl rfl (det_move rfl) rfl ?_
          refine wl_on rfl rfl rfl rfl hg7_21a ?_
          refine wl_det rfl rfl (det_move rfl) rfl ?_
          refine wl_on rfl rfl rfl rfl hg7_21a ?_
          refine wl_det rfl rfl (det_indexP rfl rfl (ms m0) k7_2 m0 un22 sz25) rfl ?_
          refine wl_on rfl rfl rfl rfl hg7_21a ?_
          refine wl_det rfl rfl (det_fieldP rfl m0 fd25_1 rfl) rfl ?_
          refine wl_on rfl rfl rfl rfl hg7_21a ?_
          refine wl_det rfl rfl (det_loadP (off := 1) rfl m0 (by rfl) (by rfl) (loaded_1 na3 us3)) rfl ?_
          refine wl_on rfl rfl rfl rfl hg7_21a ?_
          refine wl_det rfl rfl (det_lss rfl rfl) rfl ?_
          refine wl_det rfl rfl (det_or_off rfl rfl rfl hg7_21a) rfl ?_
          exact wl_nil (pn_qnE (ext_cons rfl (ext_skip rfl (ext_skip rfl (ext_skip rfl (ext_skip rfl (ext_skip rfl (ext_skip rfl (ext_skip rfl ext_refl)))))))) (fun _ h => h))
        refine wl_det rfl rfl (det_move rfl) rfl ?_
        refine wl_way (((decide ((ix a0 s14.2).Party < 1)) || (decide (15 < (ix a0 s14.2).Party))) || (decide ((ix a0 s14.2).Share < 1))) ((((decide ((ix a0 s14.2).Party < 1)) || (decide (15 < (ix a0 s14.2).Party))) || (decide ((ix a0 s14.2).Share < 1))) || (decide (1000000 < (ix a0 s14.2).Share))) 7 44 (fun hg => ?_) (fun hg => ?_) ?_
        · have hg7_29 := hg
          refine wl_off rfl rfl rfl rfl rfl hg7_29 rfl ?_
          refine wl_off rfl rfl rfl rfl rfl hg7_29 rfl ?_
          refine wl_off rfl rfl rfl rfl rfl hg7_29 rfl ?_
          refine wl_off rfl rfl rfl rfl rfl hg7_29 rfl ?_
          refine wl_off rfl rfl rfl rfl rfl hg7_29 rfl ?_
          refine wl_off rfl rfl rfl rfl rfl hg7_29 rfl ?_
          refine wl_det rfl rfl (det_or_on (r := (decide (1000000 < (ix a0 s14.2).Share))) rfl rfl rfl hg7_29) rfl ?_
          exact wl_nil (pn_qnE (ext_cons rfl (ext_skip rfl (ext_skip rfl (ext_skip rfl (ext_skip rfl (ext_skip rfl (ext_skip rfl (ext_skip rfl ext_refl)))))))) (fun _ h => h))
        · have hg7_29a := hg
          refine wl_on rfl rfl rfl rfl hg7_29a ?_
          refine wl_det rfl rfl (det_move rfl) rfl ?_
          refine wl_on rfl rfl rfl rfl hg7_29a ?_
          refine wl_det rfl rfl (det_move rfl) rfl ?_
          refine wl_on rfl rfl rfl rfl hg7_29a ?_
          refine wl_det rfl rfl (det_indexP rfl rfl (ms m0) k7_2 m0 un22 sz25) rfl ?_
          refine wl_on rfl rfl rfl rfl hg7_29a ?_
          refine wl_det rfl rfl (det_fieldP rfl m0 fd25_1 rfl) rfl ?_
          refine wl_on rfl rfl rfl rfl hg7_29a ?_
          refine wl_det rfl rfl (det_loadP (off := 1) rfl m0 (by rfl) (by rfl) (loaded_1 na3 us3)) rfl ?_
          refine wl_on rfl rfl rfl rfl hg7_29a ?_
          refine wl_det rfl rfl (det_gtr rfl rfl) rfl ?_
          refine wl_det rfl rfl (det_or_off rfl rfl rfl hg7_29a) rfl ?_
          exact wl_nil (pn_qnE (ext_cons rfl (ext_skip rfl (ext_skip rfl (ext_skip rfl (ext_skip rfl (ext_skip rfl (ext_skip rfl (ext_skip rfl ext_refl)))))))) (fun _ h => h))
        refine wl_nil ?_
        refine pn_then ?_
        refine wc_cond rfl (fun cd25 => ?_) (fun cd25 => ?_)
        · have h := ifT h cd25
          refine wc_seq ?_
          refine wc_region ?_   -- region 8
          refine wl_det rfl rfl (det_assign rfl) rfl ?_
          refine wl_det rfl rfl (det_assign rfl) rfl ?_
          refine wl_nil ?_
          refine pn_then ?_
          refine wc_ret ?_
          refine pr_then ?_
          refine pr_block ?_
          refine pr_then ?_
          refine pr_then ?_
          refine pr_block ?_
          refine pr_then ?_
          replace h := Option.some.inj h
          subst h
          replace g14 := nextR g14
          subst g14
          have h := (elimL ho14)
          replace h := Option.some.inj h
          subst h
          have h := (elimR ho10)
          replace h := Option.some.inj h
          subst h
          refine pn_ret (vs := [_, _]) rfl ⟨rfl, rfl, trivial⟩ ⟨rfl, rfl, rfl⟩ (fun _ h => h.to trivial trivial)
        · have h := ifF h cd25
          refine wc_skip ?_
          refine pn_then ?_
          refine wc_seq ?_
          obtain ⟨q29, h, ho29⟩ := bind_some h
          refine wc_meetG (G := Bool × Unit) (fun (s29, _) => s29 = q29) (fun (s29, _) => [(0, .slice A0 a0.length c0), (4, .int .i64 s14.1), (5, .int .i64 s14.2), (60, .bool s29)]) (fun (_, _) => []) (fun (_, _) => [fV (lSlice lGPart) (.slice A0 a0.length c0) a0]) ?_ ?_
          · rcases Bool.eq_false_or_eq_true (decide (0 < s14.2)) with hg9_g47 | hg9_g47
            · have h := ifT h hg9_g47
              obtain ⟨k9_p1, h⟩ := chk_some h
              refine wc_st (fun _ h => h.openF (ms m0) k9_p1) ?_
              refine dx_region 16 [[], [0], [0, 1], [0, 1, 2], [0, 1, 2], [0, 1, 2, 3, 4], [0, 1, 2, 3, 4, 5], [0, 1, 2, 3, 4, 5, 6], [0, 1, 2], [0, 1, 2], [0, 1, 2, 9], [0, 1, 2, 8, 9, 10], [0, 1, 2, 8, 9, 10, 11], [0, 1, 2, 8, 9, 10, 11, 12], [0, 1, 2, 3, 4, 5, 6, 7, 8, 9, 10, 11, 12, 13], [0, 1, 2, 3, 4, 5, 6, 7, 8, 9, 10, 11, 12, 13, 14]] mixed (ord := (.det 0 (.det 1 (.det 2 (.det 3 (.det 4 (.det 5 (.det 6 (.det 7 (.det 8 (.det 9 (.det 10 (.det 11 (.det 12 (.det 13 (.det 14 (.det 15 .done))))))))))))))))) (by kernel_rfl) ?_   -- region 9
              refine hx_det rfl rfl rfl nofun (det_move rfl) rfl ?_
              refine hx_det rfl rfl rfl nofun (det_gtr rfl rfl) rfl ?_
              refine hx_det rfl rfl rfl nofun (det_move rfl) rfl ?_
              refine hx_on rfl rfl rfl rfl rfl hg9_g47 nofun (det_move rfl) rfl ?_
              refine hx_on rfl rfl rfl rfl rfl hg9_g47 nofun (det_move rfl) rfl ?_
              refine hx_on rfl rfl rfl rfl rfl hg9_g47 nofun (det_indexP rfl rfl (ms (ms m0)) k7_2 (ms m0) un22 sz25) rfl ?_
              refine hx_on rfl rfl rfl rfl rfl hg9_g47 nofun (det_fieldP rfl (ms m0) fd25_0 rfl) rfl ?_
              refine hx_on rfl rfl rfl rfl rfl hg9_g47 nofun (det_loadP (off := 0) rfl (ms m0) (by rfl) (by rfl) (loaded_1 na3 us3)) rfl ?_
              refine hx_on rfl rfl rfl rfl rfl hg9_g47 nofun (det_move rfl) rfl ?_
              refine hx_on rfl rfl rfl rfl rfl hg9_g47 nofun (det_move rfl) rfl ?_
              refine hx_on rfl rfl rfl rfl rfl hg9_g47 nofun (det_sub rfl rfl) rfl ?_
              refine hx_on rfl rfl rfl rfl rfl hg9_g47 nofun (det_indexP rfl rfl (ms (ms m0)) k9_p1 m0 un22 sz25) rfl ?_
              refine hx_on rfl rfl rfl rfl rfl hg9_g47 nofun (det_fieldP rfl m0 fd25_0 rfl) rfl ?_
              refine hx_on rfl rfl rfl rfl rfl hg9_g47 nofun (det_loadP (off := 0) rfl m0 (by rfl) (by rfl) (loaded_1 na3 us3)) rfl ?_
              refine hx_on rfl rfl rfl rfl rfl hg9_g47 nofun (det_leq rfl rfl) rfl ?_
              refine hx_det rfl rfl rfl nofun (det_pick_on rfl hg9_g47 rfl rfl) rfl ?_
              refine hx_end ?_
              refine wl_nil ?_
              replace h := Option.some.inj h
              subst h
              exact pn_meetG ((decide ((ix a0 s14.2).Party ≤ (ix a0 (w64 (s14.2 - 1))).Party)), ()) rfl ⟨rfl, rfl, rfl, rfl, trivial⟩ (fun _ h => h.to trivial ⟨(ms (ms m0)), trivial⟩)
            · have h := ifF h hg9_g47
              refine dx_region 16 [[], [0], [0, 1], [0, 1, 2], [0, 1, 2], [0, 1, 2, 3, 4], [0, 1, 2, 3, 4, 5], [0, 1, 2, 3, 4, 5, 6], [0, 1, 2], [0, 1, 2], [0, 1, 2, 9], [0, 1, 2, 8, 9, 10], [0, 1, 2, 8, 9, 10, 11], [0, 1, 2, 8, 9, 10, 11, 12], [0, 1, 2, 3, 4, 5, 6, 7, 8, 9, 10, 11, 12, 13], [0, 1, 2, 3, 4, 5, 6, 7, 8, 9, 10, 11, 12, 13, 14]] mixed (ord := (.det 0 (.det 1 (.det 2 (.det 3 (.det 4 (.det 5 (.det 6 (.det 7 (.det 8 (.det 9 (.det 10 (.det 11 (.det 12 (.det 13 (.det 14 (.det 15 .done))))))))))))))))) (by kernel_rfl) ?_   -- region 9
              refine hx_det rfl rfl rfl nofun (det_move rfl) rfl ?_
              refine hx_det rfl rfl rfl nofun (det_gtr rfl rfl) rfl ?_
              refine hx_det rfl rfl rfl nofun (det_move rfl) rfl ?_
              refine hx_off rfl rfl rfl rfl rfl hg9_g47 rfl ?_
              refine hx_off rfl rfl rfl rfl rfl hg9_g47 rfl ?_
              refine hx_off rfl rfl rfl rfl rfl hg9_g47 rfl ?_
              refine hx_off rfl rfl rfl rfl rfl hg9_g47 rfl ?_
              refine hx_off rfl rfl rfl rfl rfl hg9_g47 rfl ?_
              refine hx_off rfl rfl rfl rfl rfl hg9_g47 rfl ?_
              refine hx_off rfl rfl rfl rfl rfl hg9_g47 rfl ?_
              refine hx_off rfl rfl rfl rfl rfl hg9_g47 rfl ?_
              refine hx_off rfl rfl rfl rfl rfl hg9_g47 rfl ?_
              refine hx_off rfl rfl rfl rfl rfl hg9_g47 rfl ?_
              refine hx_off rfl rfl rfl rfl rfl hg9_g47 rfl ?_
              refine hx_off rfl rfl rfl rfl rfl hg9_g47 rfl ?_
              refine hx_det rfl rfl rfl nofun (det_pick_off rfl hg9_g47 rfl rfl) rfl ?_
              refine hx_end ?_
              refine wl_nil ?_
              replace h := Option.some.inj h
              subst h
              exact pn_meetG (false, ()) rfl ⟨rfl, rfl, rfl, rfl, trivial⟩ (fun _ h => h.to trivial ⟨(ms m0), trivial⟩)
          rintro ⟨s29, _⟩ e29
          dsimp only at e29 ⊢
          subst e29
          have h := ho29
          refine wc_cond rfl (fun cd31 => ?_) (fun cd31 => ?_)
          · have h := ifT h cd31
            refine wc_seq ?_
            refine wc_region ?_   -- region 10
            refine wl_det rfl rfl (det_assign rfl) rfl ?_
            refine wl_det rfl rfl (det_assign rfl) rfl ?_
            refine wl_nil ?_
            refine pn_then ?_
            refine wc_ret ?_
            refine pr_then ?_
            refine pr_block ?_
            refine pr_then ?_
            refine pr_then ?_
            refine pr_block ?_
            refine pr_then ?_
            replace h := Option.some.inj h
            subst h
            replace g14 := nextR g14
            subst g14
            have h := (elimL ho14)
            replace h := Option.some.inj h
            subst h
            have h := (elimR ho10)
            replace h := Option.some.inj h
            subst h
            refine pn_ret (vs := [_, _]) rfl ⟨rfl, rfl, trivial⟩ ⟨rfl, rfl, rfl⟩ (fun _ h => h.to trivial trivial)
          · have h := ifF h cd31
            refine wc_skip ?_
            refine pn_then ?_
            refine wc_region ?_   -- region 11
            refine wl_det rfl rfl (det_move rfl) rfl ?_
            refine wl_det rfl rfl (det_move rfl) rfl ?_
            refine wl_det rfl rfl (det_move rfl) rfl ?_
            refine wl_st (fun _ h => h.openF m0 k7_2) ?_
            refine wl_det rfl rfl (det_indexP rfl rfl (ms m0) k7_2 m0 un22 sz25) rfl ?_
            refine wl_det rfl rfl (det_fieldP rfl m0 fd25_1 rfl) rfl ?_
            refine wl_det rfl rfl (det_loadP (off := 1) rfl m0 (by rfl) (by rfl) (loaded_1 na3 us3)) rfl ?_
            refine wl_det rfl rfl (det_add rfl rfl) rfl ?_
            refine wl_det rfl rfl (det_assign rfl) rfl ?_
            refine wl_nil ?_
            refine pn_block ?_
            refine pn_then ?_
            refine wc_region ?_   -- region 6
            refine wl_det rfl rfl (det_move rfl) rfl ?_
            refine wl_det rfl rfl (det_add rfl rfl) rfl ?_
            refine wl_det rfl rfl (det_assign rfl) rfl ?_
            refine wl_nil ?_
            replace h := Option.some.inj h
            subst h
            exact pn_some (k14, ((w64 (s14.1 + (ix a0 s14.2).Share)), (w64 (s14.2 + 1))), ()) ⟨nextL g14, Nat.lt_succ_self _⟩ ⟨rfl, rfl, rfl, trivial⟩ (fun _ h => h.to trivial ⟨(ms m0), trivial⟩)
      · have h := ifF h cd18
        refine wc_exit ?_
        refine px_then ?_
        refine px_then ?_
        refine px_block ?_
        replace h := Option.some.inj h
        subst h
        replace g14 := nextR g14
        subst g14
        have h := (elimR ho14)
        replace h := Option.some.inj h
        subst h
        exact pn_meetG (s14.1, ()) rfl ⟨rfl, trivial⟩ (fun _ h => h.to trivial trivial)
    rintro ⟨s10, _⟩ e10
    dsimp only at e10 ⊢
    subst e10
    have h := (elimL ho10)
    refine wc_seq ?_
    refine wc_region ?_   -- region 12
    refine wl_det rfl rfl (det_move rfl) rfl ?_
    refine wl_det rfl rfl (det_assign rfl) rfl ?_
    refine wl_det rfl rfl (det_assign rfl) rfl ?_
    refine wl_nil ?_
    refine pn_then ?_
    refine wc_ret ?_
    replace h := Option.some.inj h
    subst h
    refine pn_ret (vs := [_, _]) rfl ⟨rfl, rfl, trivial⟩ ⟨rfl, rfl, rfl⟩ (fun _ h => h.to trivial trivial)
def Q_treatyref20_Parts (r : Int) : Value → List Ent → List Fact → Prop := fun v θ κ => v = .int .i64 r ∧ θ = [] ∧ κ = []
theorem plains_treatyref20_Parts {r : Int} : ∀ v θ κ, Q_treatyref20_Parts r v θ κ → Plains θ := by
  rintro _ _ _ ⟨rfl, rfl, rfl⟩
  exact trivial
set_option maxHeartbeats 4000000 in
set_option maxRecDepth 100000 in
theorem W_treatyref20_Parts (a0 : (List GPart)) (A0 : Option Addr) (n0 : Nat) (c0 : Nat) (r : Int) (h : treatyref20_Parts a0 = some r) : Spec Try.prog 20 [.slice A0 n0 c0] [] [fV (lSlice lGPart) (.slice A0 n0 c0) a0] (Q_treatyref20_Parts r) := by
  unfold treatyref20_Parts at h
  refine spec_of (σ := [(0, _)]) Try.func20 rfl rfl rfl rfl ?_
  intro C
  refine wc_know (fun _ h => h.lenF m0) (fun e => ?_)
  subst e
  refine wc_seq ?_
  refine wc_region ?_   -- region 0
  refine wl_det rfl rfl (det_assign rfl) rfl ?_
  refine wl_nil ?_
  refine pn_then ?_
  refine wc_seq ?_
  refine wc_region ?_   -- region 1
  refine wl_det rfl rfl (det_move rfl) rfl ?_
  obtain ⟨r1_1, hr1_1, h⟩ := bind_some h
  refine wl_act (act_callS (cap := []) (W_treatyref20_parts a0 A0 a0.length c0 r1_1 hr1_1) rfl rfl rfl bd47 rfl ⟨m0, trivial⟩) rfl rfl rfl ?_
  rintro _ _ _ ⟨_, _, ⟨rfl, rfl, rfl⟩, rfl, rfl⟩
  dsimp only [List.nil_append, List.cons_append]
  refine wl_det rfl rfl (det_move rfl) rfl ?_
  refine wl_det rfl rfl (det_extract rfl rfl) rfl ?_
  refine wl_det rfl rfl (det_extract rfl rfl) rfl ?_
  refine wl_det rfl rfl (det_assign rfl) rfl ?_
  refine wl_det rfl rfl (det_assign rfl) rfl ?_
  refine wl_nil ?_
  refine pn_then ?_
  refine wc_seq ?_
  refine wc_seq ?_
  refine wc_region ?_   -- region 2
  refine wl_det rfl rfl (det_move rfl) rfl ?_
  refine wl_det rfl rfl (det_eql rfl rfl) rfl ?_
  refine wl_det rfl rfl (det_move rfl) rfl ?_
  refine wl_way (decide (r1_1.2 = 0)) ((decide (r1_1.2 = 0)) && (decide (1000000 < r1_1.1))) 3 15 (fun hg => ?_) (fun hg => ?_) ?_
  · have hg2_5 := hg
    refine wl_on rfl rfl rfl rfl hg2_5 ?_
    refine wl_det rfl rfl (det_move rfl) rfl ?_
    refine wl_on rfl rfl rfl rfl hg2_5 ?_
    refine wl_det rfl rfl (det_gtr rfl rfl) rfl ?_
    refine wl_det rfl rfl (det_and_on rfl rfl rfl hg2_5) rfl ?_
    exact wl_nil (pn_qnE (ext_cons rfl (ext_skip rfl (ext_skip rfl (ext_skip rfl ext_refl)))) (fun _ h => h))
  · have hg2_5a := hg
    refine wl_off rfl rfl rfl rfl rfl hg2_5a rfl ?_
    refine wl_off rfl rfl rfl rfl rfl hg2_5a rfl ?_
    refine wl_det rfl rfl (det_and_off (q := (decide (1000000 < r1_1.1))) rfl rfl rfl hg2_5a) rfl ?_
    exact wl_nil (pn_qnE (ext_cons rfl (ext_skip rfl (ext_skip rfl (ext_skip rfl ext_refl)))) (fun _ h => h))
  refine wl_nil ?_
  refine pn_then ?_
  refine wc_cond rfl (fun cd7 => ?_) (fun cd7 => ?_)
  · have h := ifT h cd7
    refine wc_seq ?_
    refine wc_region ?_   -- region 3
    refine wl_det rfl rfl (det_assign rfl) rfl ?_
    refine wl_nil ?_
    refine pn_then ?_
    refine wc_ret ?_
    refine pr_then ?_
    replace h := Option.some.inj h
    subst h
    refine pn_ret (vs := [_]) rfl ⟨rfl, trivial⟩ ⟨rfl, rfl, rfl⟩ (fun _ h => h.to trivial trivial)
  · have h := ifF h cd7
    refine wc_skip ?_
    refine pn_then ?_
    refine wc_seq ?_
    refine wc_region ?_   -- region 4
    refine wl_det rfl rfl (det_move rfl) rfl ?_
    refine wl_det rfl rfl (det_assign rfl) rfl ?_
    refine wl_nil ?_
    refine pn_then ?_
    refine wc_ret ?_
    replace h := Option.some.inj h
    subst h
    refine pn_ret (vs := [_]) rfl ⟨rfl, trivial⟩ ⟨rfl, rfl, rfl⟩ (fun _ h => h.to trivial trivial)
def Q_treatyref20_Validate (r : Int) : Value → List Ent → List Fact → Prop := fun v θ κ => v = .int .i64 r ∧ θ = [] ∧ κ = []
theorem plains_treatyref20_Validate {r : Int} : ∀ v θ κ, Q_treatyref20_Validate r v θ κ → Plains θ := by
  rintro _ _ _ ⟨rfl, rfl, rfl⟩
  exact trivial
set_option maxHeartbeats 4000000 in
set_option maxRecDepth 100000 in
theorem W_treatyref20_Validate (a0 : GTreaty) (A0 : Option Addr) (n0 : Nat) (c0 : Nat) (A3 : Option Addr) (n3 : Nat) (c3 : Nat) (A6 : Option Addr) (n6 : Nat) (c6 : Nat) (A9 : Option Addr) (n9 : Nat) (c9 : Nat) (A12 : Option Addr) (n12 : Nat) (c12 : Nat) (r : Int) (h : treatyref20_Validate a0 = some r) : Spec Try.prog 59 [.agg #[.int .i64 a0.ID, .int .i64 a0.Kind, .int .i64 a0.Period.From, .int .i64 a0.Period.To, .slice A0 n0 c0, .slice A3 n3 c3, .int .i64 a0.Risk, .int .i64 a0.Cession, .int .i64 a0.Line, .int .i64 a0.Lines, .int .i64 a0.Retention, .int .i64 a0.Limit, .int .i64 a0.Window, .int .i64 a0.Deductible, .int .i64 a0.Aggregate, .int .i64 a0.Premium, .slice A6 n6 c6, .bool a0.Timed, .int .i64 a0.Base, .slice A9 n9 c9, .slice A12 n12 c12]] [] [fV (lSlice (lInt .i64)) (.slice A0 n0 c0) a0.Perils, fV (lSlice (lInt .i64)) (.slice A3 n3 c3) a0.Areas, fV (lSlice (lInt .i64)) (.slice A6 n6 c6) a0.Reinstatements, fV (lSlice (lInt .i64)) (.slice A9 n9 c9) a0.Inures, fV (lSlice lGPart) (.slice A12 n12 c12) a0.Parts] (Q_treatyref20_Validate r) := by
  unfold treatyref20_Validate at h
  refine spec_of (σ := [(0, _)]) Try.func59 rfl rfl rfl rfl ?_
  intro C
  refine wc_know (fun _ h => h.lenF m0) (fun e => ?_)
  subst e
  refine wc_know (fun _ h => h.lenF (ms m0)) (fun e => ?_)
  subst e
  refine wc_know (fun _ h => h.lenF (ms (ms m0))) (fun e => ?_)
  subst e
  refine wc_know (fun _ h => h.lenF (ms (ms (ms m0)))) (fun e => ?_)
  subst e
  refine wc_know (fun _ h => h.lenF (ms (ms (ms (ms m0))))) (fun e => ?_)
  subst e
  refine wc_seq ?_
  refine wc_region ?_   -- region 0
  refine wl_act (act_box (cs := [_, _, _, _, _, _, _, _, _, _, _, _, _, _, _, _, _, _, _, _, _]) rfl rfl) rfl rfl rfl ?_
  rintro _ _ _ ⟨b0_0, rfl, rfl, rfl⟩
  refine wl_det rfl rfl (det_assign rfl) rfl ?_
  refine wl_nil ?_
  refine pn_then ?_
  refine wc_seq ?_
  refine wc_block ?_
  refine wc_seq ?_
  refine wc_region ?_   -- region 1
  refine wl_det rfl rfl (det_field rfl fd49_0 rfl) rfl ?_
  refine wl_det rfl rfl (det_load rfl m0 (by rfl) na3 us3) rfl ?_
  refine wl_det rfl rfl (det_lss rfl rfl) rfl ?_
  refine wl_det rfl rfl (det_move rfl) rfl ?_
  refine wl_way (decide (a0.ID < 1)) ((decide (a0.ID < 1)) || (decide (1048576 < a0.ID))) 4 21 (fun hg => ?_) (fun hg => ?_) ?_
  · have hg1_7 := hg
    refine wl_off rfl rfl rfl rfl rfl hg1_7 rfl ?_
    refine wl_off rfl rfl rfl rfl rfl hg1_7 rfl ?_
    refine wl_off rfl rfl rfl rfl rfl hg1_7 rfl ?_
    refine wl_det rfl rfl (det_or_on (r := (decide (1048576 < a0.ID))) rfl rfl rfl hg1_7) rfl ?_
    exact wl_nil (pn_qnE (ext_cons rfl (ext_skip rfl (ext_skip rfl (ext_skip rfl (ext_skip rfl ext_refl))))) (fun _ h => h))
  · have hg1_7a := hg
    refine wl_on rfl rfl rfl rfl hg1_7a ?_
    refine wl_det rfl rfl (det_field rfl fd49_0 rfl) rfl ?_
    refine wl_on rfl rfl rfl rfl hg1_7a ?_
    refine wl_det rfl rfl (det_load rfl m0 (by rfl) na3 us3) rfl ?_
    refine wl_on rfl rfl rfl rfl hg1_7a ?_
    refine wl_det rfl rfl (det_gtr rfl rfl) rfl ?_
    refine wl_det rfl rfl (det_or_off rfl rfl rfl hg1_7a) rfl ?_
    exact wl_nil (pn_qnE (ext_cons rfl (ext_skip rfl (ext_skip rfl (ext_skip rfl (ext_skip rfl ext_refl))))) (fun _ h => h))
  refine wl_det rfl rfl (det_assign rfl) rfl ?_
  refine wl_nil ?_
  refine pn_then ?_
  refine wc_cond rfl (fun cd6 => ?_) (fun cd6 => ?_)
  · have h := ifT h cd6
    refine wc_seq ?_
    refine wc_region ?_   -- region 2
    refine wl_det rfl rfl (det_assign rfl) rfl ?_
    refine wl_nil ?_
    refine pn_then ?_
    refine wc_ret ?_
    refine pr_block ?_
    refine pr_then ?_
    replace h := Option.some.inj h
    subst h
    refine pn_ret (vs := [_]) rfl ⟨rfl, trivial⟩ ⟨rfl, rfl, rfl⟩ (fun _ h => h.to trivial trivial)
  · have h := ifF h cd6
    refine wc_seq ?_
    refine wc_region ?_   -- region 3
    refine wl_det rfl rfl (det_field rfl fd49_1 rfl) rfl ?_
    refine wl_det rfl rfl (det_load rfl m0 (by rfl) na3 us3) rfl ?_
    refine wl_det rfl rfl (det_lss rfl rfl) rfl ?_
    refine wl_det rfl rfl (det_move rfl) rfl ?_
    refine wl_way (decide (a0.Kind < 1)) ((decide (a0.Kind < 1)) || (decide (6 < a0.Kind))) 4 30 (fun hg => ?_) (fun hg => ?_) ?_
    · have hg3_7 := hg
      refine wl_off rfl rfl rfl rfl rfl hg3_7 rfl ?_
      refine wl_off rfl rfl rfl rfl rfl hg3_7 rfl ?_
      refine wl_off rfl rfl rfl rfl rfl hg3_7 rfl ?_
      refine wl_det rfl rfl (det_or_on (r := (decide (6 < a0.Kind))) rfl rfl rfl hg3_7) rfl ?_
      exact wl_nil (pn_qnE (ext_cons rfl (ext_skip rfl (ext_skip rfl (ext_skip rfl (ext_skip rfl ext_refl))))) (fun _ h => h))
    · have hg3_7a := hg
      refine wl_on rfl rfl rfl rfl hg3_7a ?_
      refine wl_det rfl rfl (det_field rfl fd49_1 rfl) rfl ?_
      refine wl_on rfl rfl rfl rfl hg3_7a ?_
      refine wl_det rfl rfl (det_load rfl m0 (by rfl) na3 us3) rfl ?_
      refine wl_on rfl rfl rfl rfl hg3_7a ?_
      refine wl_det rfl rfl (det_gtr rfl rfl) rfl ?_
      refine wl_det rfl rfl (det_or_off rfl rfl rfl hg3_7a) rfl ?_
      exact wl_nil (pn_qnE (ext_cons rfl (ext_skip rfl (ext_skip rfl (ext_skip rfl (ext_skip rfl ext_refl))))) (fun _ h => h))
    refine wl_det rfl rfl (det_assign rfl) rfl ?_
    refine wl_nil ?_
    refine pn_then ?_
    refine wc_cond rfl (fun cd11 => ?_) (fun cd11 => ?_)
    · have h := ifT h cd11
      refine wc_seq ?_
      refine wc_region ?_   -- region 4
      refine wl_det rfl rfl (det_assign rfl) rfl ?_
      refine wl_nil ?_
      refine pn_then ?_
      refine wc_ret ?_
      refine pr_block ?_
      refine pr_then ?_
      replace h := Option.some.inj h
      subst h
      refine pn_ret (vs := [_]) rfl ⟨rfl, trivial⟩ ⟨rfl, rfl, rfl⟩ (fun _ h => h.to trivial trivial)
    · have h := ifF h cd11
      refine wc_seq ?_
      refine wc_region ?_   -- region 5
      refine wl_det rfl rfl (det_field rfl fd49_2 rfl) rfl ?_
      refine wl_det rfl rfl (det_loadN (cells := [_, _]) rfl m0 (by rfl) ag47 sz47) rfl ?_
      obtain ⟨r5_2, hr5_2, h⟩ := bind_some h
      refine wl_act (act_callS (cap := []) (W_treatyref01_PeriodValid a0.Period r5_2 hr5_2) rfl rfl rfl bd75 rfl trivial) rfl rfl rfl ?_
      rintro _ _ _ ⟨_, _, ⟨rfl, rfl, rfl⟩, rfl, rfl⟩
      dsimp only [List.nil_append, List.cons_append]
      refine wl_det rfl rfl (det_not rfl) rfl ?_
      refine wl_det rfl rfl (det_assign rfl) rfl ?_
      refine wl_nil ?_
      refine pn_then ?_
      refine wc_cond rfl (fun cd16 => ?_) (fun cd16 => ?_)
      · have h := ifT h cd16
        refine wc_seq ?_
        refine wc_region ?_   -- region 6
        refine wl_det rfl rfl (det_assign rfl) rfl ?_
        refine wl_nil ?_
        refine pn_then ?_
        refine wc_ret ?_
        refine pr_block ?_
        refine pr_then ?_
        replace h := Option.some.inj h
        subst h
        refine pn_ret (vs := [_]) rfl ⟨rfl, trivial⟩ ⟨rfl, rfl, rfl⟩ (fun _ h => h.to trivial trivial)
      · have h := ifF h cd16
        refine wc_skip ?_
        refine pn_block ?_
        refine pn_then ?_
        refine wc_seq ?_
        refine wc_seq ?_
        refine wc_region ?_   -- region 7
        refine wl_det rfl rfl (det_field rfl fd49_3 rfl) rfl ?_
        refine wl_det rfl rfl (det_load rfl m0 (by rfl) na23 us23) rfl ?_
        obtain ⟨r7_2, hr7_2, h⟩ := bind_some h
        refine wl_act (act_callS (cap := []) (W_treatyref20_ascending a0.Perils 0 15 A0 a0.Perils.length c0 r7_2 hr7_2) rfl rfl rfl bd76 rfl ⟨m0, trivial⟩) rfl rfl rfl ?_
        rintro _ _ _ ⟨_, _, ⟨rfl, rfl, rfl⟩, rfl, rfl⟩
        dsimp only [List.nil_append, List.cons_append]
        refine wl_det rfl rfl (det_assign rfl) rfl ?_
        refine wl_nil ?_
        refine pn_then ?_
        refine wc_seq ?_
        refine wc_region ?_   -- region 8
        refine wl_det rfl rfl (det_move rfl) rfl ?_
        refine wl_det rfl rfl (det_neq rfl rfl) rfl ?_
        refine wl_nil ?_
        refine pn_then ?_
        refine wc_cond rfl (fun cd24 => ?_) (fun cd24 => ?_)
        · have h := ifT h cd24
          refine wc_seq ?_
          refine wc_region ?_   -- region 9
          refine wl_det rfl rfl (det_move rfl) rfl ?_
          refine wl_det rfl rfl (det_assign rfl) rfl ?_
          refine wl_nil ?_
          refine pn_then ?_
          refine wc_ret ?_
          refine pr_then ?_
          replace h := Option.some.inj h
          subst h
          refine pn_ret (vs := [_]) rfl ⟨rfl, trivial⟩ ⟨rfl, rfl, rfl⟩ (fun _ h => h.to trivial trivial)
        · have h := ifF h cd24
          refine wc_skip ?_
          refine pn_then ?_
          refine wc_seq ?_
          refine wc_seq ?_
          refine wc_region ?_   -- region 10
          refine wl_det rfl rfl (det_field rfl fd49_4 rfl) rfl ?_
          refine wl_det rfl rfl (det_load rfl m0 (by rfl) na23 us23) rfl ?_
          obtain ⟨r10_2, hr10_2, h⟩ := bind_some h
          refine wl_act (act_callS (cap := []) (W_treatyref20_ascending a0.Areas 0 15 A3 a0.Areas.length c3 r10_2 hr10_2) rfl rfl rfl bd76 rfl ⟨(ms m0), trivial⟩) rfl rfl rfl ?_
          rintro _ _ _ ⟨_, _, ⟨rfl, rfl, rfl⟩, rfl, rfl⟩
          dsimp only [List.nil_append, List.cons_append]
          refine wl_det rfl rfl (det_assign rfl) rfl ?_
          refine wl_nil ?_
          refine pn_then ?_
          refine wc_seq ?_
          refine wc_region ?_   -- region 11
          refine wl_det rfl rfl (det_move rfl) rfl ?_
          refine wl_det rfl rfl (det_neq rfl rfl) rfl ?_
          refine wl_nil ?_
          refine pn_then ?_
          refine wc_cond rfl (fun cd32 => ?_) (fun cd32 => ?_)
          · have h := ifT h cd32
            refine wc_seq ?_
            refine wc_region ?_   -- region 12
            refine wl_det rfl rfl (det_move rfl) rfl ?_
            refine wl_det rfl rfl (det_assign rfl) rfl ?_
            refine wl_nil ?_
            refine pn_then ?_
            refine wc_ret ?_
            refine pr_then ?_
            replace h := Option.some.inj h
            subst h
            refine pn_ret (vs := [_]) rfl ⟨rfl, trivial⟩ ⟨rfl, rfl, rfl⟩ (fun _ h => h.to trivial trivial)
          · have h := ifF h cd32
            refine wc_skip ?_
            refine pn_then ?_
            refine wc_seq ?_
            refine dx_region 5 [[], [0], [], [2], [0, 1, 2, 3], [0, 1, 2, 3, 4], [0, 1, 2, 3, 4, 5]] mixed (ord := (.det 0 (.det 2 (.det 3 (.alt 1 (.alt 4 .done .dead) .dead))))) (by kernel_rfl) ?_   -- region 13
            refine hx_det rfl rfl rfl nofun (det_loadN (cells := [_, _, _, _, _, _, _, _, _, _, _, _, _, _, _, _, _, _, _, _, _]) rfl m0 (by rfl) ag49 sz49) rfl ?_
            refine hx_det rfl rfl rfl nofun (det_field rfl fd49_1 rfl) rfl ?_
            refine hx_det rfl rfl rfl nofun (det_load rfl m0 (by rfl) na3 us3) rfl ?_
            obtain ⟨r13_1, hr13_1, h⟩ := bind_some h
            refine hx_act rfl rfl rfl (act_callS (cap := []) (W_treatyref20_numbers a0 A0 a0.Perils.length c0 A3 a0.Areas.length c3 A6 a0.Reinstatements.length c6 A9 a0.Inures.length c9 A12 a0.Parts.length c12 r13_1 hr13_1) rfl rfl rfl bd77 rfl ⟨m0, ⟨(ms m0), ⟨(ms (ms m0)), ⟨(ms (ms (ms m0))), ⟨(ms (ms (ms (ms m0)))), trivial⟩⟩⟩⟩⟩) rfl (by rintro _ _ _ ⟨_, _, _, rfl, rfl⟩; first | exact ⟨_, _, rfl, rfl⟩ | exact ⟨_, [], rfl, rfl⟩) ?_
            rintro _ _ _ ⟨_, _, ⟨y13_1A0, y13_1n0, y13_1c0, rfl, rfl, rfl⟩, rfl, rfl⟩
            dsimp only [List.nil_append, List.cons_append]
            obtain ⟨r13_4, hr13_4, h⟩ := bind_some h
            refine hx_act rfl rfl rfl (act_callS (cap := []) (W_treatyref20_least a0.Kind r13_4 hr13_4) rfl rfl rfl bd78 rfl trivial) rfl (by rintro _ _ _ ⟨_, _, _, rfl, rfl⟩; first | exact ⟨_, _, rfl, rfl⟩ | exact ⟨_, [], rfl, rfl⟩) ?_
            rintro _ _ _ ⟨_, _, ⟨y13_4A0, y13_4n0, y13_4c0, rfl, rfl, rfl⟩, rfl, rfl⟩
            dsimp only [List.nil_append, List.cons_append]
            refine hx_end ?_
            refine wl_know (fun _ h => h.lenO (ms m0)) (fun e => ?_)
            subst e
            refine wl_know (fun _ h => h.lenO m0) (fun e => ?_)
            subst e
            refine wl_det rfl rfl (det_assign rfl) rfl ?_
            refine wl_det rfl rfl (det_assign rfl) rfl ?_
            refine wl_nil ?_
            refine pn_then ?_
            refine wc_seq ?_
            refine wc_region ?_   -- region 14
            refine wl_act (act_litS (lInt .i64) (vs := [_, _, _, _, _, _, _, _, _, _]) (cs := [_, _, _, _, _, _, _, _, _, _]) [1048576, 1000000, 1073741824, 100, 1073741824, 1073741824, 8784, 1073741824, 1073741824, 1000000000] un23 in3 rfl rfl rfl rfl rfl ⟨rfl, rfl, rfl, rfl, rfl, rfl, rfl, rfl, rfl, rfl, trivial⟩ (by rfl) rfl (litR_flat rfl)) rfl rfl rfl ?_
            rintro _ _ _ ⟨A14_0, rfl, rfl, rfl⟩
            refine wl_det rfl rfl (det_assign rfl) rfl ?_
            refine wl_nil ?_
            refine pn_then ?_
            obtain ⟨q39, h, ho39⟩ := bind_some h
            refine wc_meetG (G := Unit × Unit) (fun (s39, _) => (.inl s39) = q39) (fun (_, _) => [(1, .pointer (some ⟨b0_0, 0, none⟩)), (5, .slice y13_1A0 r13_1.length y13_1c0), (6, .slice y13_4A0 r13_4.length y13_4c0), (7, .slice A14_0 10 10)]) (fun (_, _) => [eBlk b0_0 49 [.int .i64 a0.ID, .int .i64 a0.Kind, .int .i64 a0.Period.From, .int .i64 a0.Period.To, .slice A0 a0.Perils.length c0, .slice A3 a0.Areas.length c3, .int .i64 a0.Risk, .int .i64 a0.Cession, .int .i64 a0.Line, .int .i64 a0.Lines, .int .i64 a0.Retention, .int .i64 a0.Limit, .int .i64 a0.Window, .int .i64 a0.Deductible, .int .i64 a0.Aggregate, .int .i64 a0.Premium, .slice A6 a0.Reinstatements.length c6, .bool a0.Timed, .int .i64 a0.Base, .slice A9 a0.Inures.length c9, .slice A12 a0.Parts.length c12], eS (lInt .i64) 3 y13_1A0 r13_1.length y13_1c0 r13_1, eS (lInt .i64) 3 y13_4A0 r13_4.length y13_4c0 r13_4, eS (lInt .i64) 3 A14_0 10 10 [1048576, 1000000, 1073741824, 100, 1073741824, 1073741824, 8784, 1073741824, 1073741824, 1000000000]]) (fun (_, _) => [fV (lSlice (lInt .i64)) (.slice A0 a0.Perils.length c0) a0.Perils, fV (lSlice (lInt .i64)) (.slice A3 a0.Areas.length c3) a0.Areas, fV (lSlice (lInt .i64)) (.slice A6 a0.Reinstatements.length c6) a0.Reinstatements, fV (lSlice (lInt .i64)) (.slice A9 a0.Inures.length c9) a0.Inures, fV (lSlice lGPart) (.slice A12 a0.Parts.length c12) a0.Parts]) ?_ ?_
            · refine wc_seq ?_
              refine wc_region ?_   -- region 15
              refine wl_det rfl rfl (det_assign rfl) rfl ?_
              refine wl_nil ?_
              refine pn_then ?_
              refine wc_block ?_
              obtain ⟨o43, h, ho43⟩ := bind_some h
              obtain ⟨k43, hk43⟩ := loopV_some.1 h
              refine wc_loop (G := Nat × Int × Unit) (fun g => IterN (treatyref20_Validate_l43 r13_1 r13_4) g.1 g.2.1 o43) (fun g => g.1) (fun (_, s43, _) => [(1, .pointer (some ⟨b0_0, 0, none⟩)), (5, .slice y13_1A0 r13_1.length y13_1c0), (6, .slice y13_4A0 r13_4.length y13_4c0), (7, .slice A14_0 10 10), (8, .int .i64 s43)]) (fun (_, _, _) => [eBlk b0_0 49 [.int .i64 a0.ID, .int .i64 a0.Kind, .int .i64 a0.Period.From, .int .i64 a0.Period.To, .slice A0 a0.Perils.length c0, .slice A3 a0.Areas.length c3, .int .i64 a0.Risk, .int .i64 a0.Cession, .int .i64 a0.Line, .int .i64 a0.Lines, .int .i64 a0.Retention, .int .i64 a0.Limit, .int .i64 a0.Window, .int .i64 a0.Deductible, .int .i64 a0.Aggregate, .int .i64 a0.Premium, .slice A6 a0.Reinstatements.length c6, .bool a0.Timed, .int .i64 a0.Base, .slice A9 a0.Inures.length c9, .slice A12 a0.Parts.length c12], eS (lInt .i64) 3 y13_1A0 r13_1.length y13_1c0 r13_1, eS (lInt .i64) 3 y13_4A0 r13_4.length y13_4c0 r13_4, eS (lInt .i64) 3 A14_0 10 10 [1048576, 1000000, 1073741824, 100, 1073741824, 1073741824, 8784, 1073741824, 1073741824, 1000000000]]) (fun (_, _, _) => [fV (lSlice (lInt .i64)) (.slice A0 a0.Perils.length c0) a0.Perils, fV (lSlice (lInt .i64)) (.slice A3 a0.Areas.length c3) a0.Areas, fV (lSlice (lInt .i64)) (.slice A6 a0.Reinstatements.length c6) a0.Reinstatements, fV (lSlice (lInt .i64)) (.slice A9 a0.Inures.length c9) a0.Inures, fV (lSlice lGPart) (.slice A12 a0.Parts.length c12) a0.Parts]) (k43, 0, ()) hk43 ⟨rfl, rfl, rfl, rfl, rfl, trivial⟩ (fun _ h => h.to ⟨_, (rs (rs (rs r0))), ⟨_, (rs (rs r0)), ⟨_, (rs r0), ⟨_, r0, trivial⟩⟩⟩⟩ ⟨m0, ⟨(ms m0), ⟨(ms (ms m0)), ⟨(ms (ms (ms m0))), ⟨(ms (ms (ms (ms m0)))), trivial⟩⟩⟩⟩⟩) ?_
              rintro ⟨k43, s43, _⟩ hI
              obtain ⟨k43, rfl, q43, h, g43⟩ := IterN.pos hI
              dsimp only at h ⊢
              unfold treatyref20_Validate_l43 at h
              refine wc_seq ?_
              refine wc_seq ?_
              refine wc_region ?_   -- region 16
              refine wl_det rfl rfl (det_move rfl) rfl ?_
              refine wl_det rfl rfl (det_move rfl) rfl ?_
              refine wl_det rfl rfl (det_len rfl un23) rfl ?_
              refine wl_det rfl rfl (det_lss rfl rfl) rfl ?_
              refine wl_nil ?_
              refine pn_then ?_
              refine wc_cond rfl (fun cd47 => ?_) (fun cd47 => ?_)
              · have h := ifT h cd47
                refine wc_skip ?_
                refine pn_then ?_
                refine wc_seq ?_
                refine wc_block ?_
                refine wc_seq ?_
                refine wc_region ?_   -- region 18
                refine wl_det rfl rfl (det_move rfl) rfl ?_
                refine wl_det rfl rfl (det_move rfl) rfl ?_
                obtain ⟨k18_2, h⟩ := chk_some h
                refine wl_det rfl rfl (det_indexO rfl rfl (ms (ms m0)) k18_2 un23 sz3) rfl ?_
                refine wl_det rfl rfl (det_loadO (off := 0) rfl (ms (ms m0)) k18_2 (by rfl) (by rfl) (loaded_1 na3 us3)) rfl ?_
                refine wl_det rfl rfl (det_lss rfl rfl) rfl ?_
                refine wl_det rfl rfl (det_move rfl) rfl ?_
                obtain ⟨q18_11, hq18_11, h⟩ := bind_some h
                have ho18_11 := h
                refine wl_way (decide ((ix r13_4 s43) < 0)) q18_11 6 71 (fun hg => ?_) (fun hg => ?_) ?_
                · have hg18_11 := hg
                  have h := ifT hq18_11 hg
                  refine wl_on rfl rfl rfl rfl hg18_11 ?_
                  refine wl_det rfl rfl (det_move rfl) rfl ?_
                  refine wl_on rfl rfl rfl rfl hg18_11 ?_
                  refine wl_det rfl rfl (det_move rfl) rfl ?_
                  refine wl_on rfl rfl rfl rfl hg18_11 ?_
                  obtain ⟨k18_8, h⟩ := chk_some h
                  refine wl_det rfl rfl (det_indexO rfl rfl (ms m0) k18_8 un23 sz3) rfl ?_
                  refine wl_on rfl rfl rfl rfl hg18_11 ?_
                  refine wl_det rfl rfl (det_loadO (off := 0) rfl (ms m0) k18_8 (by rfl) (by rfl) (loaded_1 na3 us3)) rfl ?_
                  refine wl_on rfl rfl rfl rfl hg18_11 ?_
                  refine wl_det rfl rfl (det_neq rfl rfl) rfl ?_
                  replace h := Option.some.inj h
                  subst h
                  refine wl_det rfl rfl (det_pick_on rfl hg18_11 rfl rfl) rfl ?_
                  exact wl_nil (pn_qnE (ext_cons rfl (ext_skip rfl (ext_skip rfl (ext_skip rfl (ext_skip rfl (ext_skip rfl (ext_skip rfl ext_refl))))))) (fun _ h => h))
                · have hg18_11a := hg
                  have h := ifF hq18_11 hg
                  refine wl_off rfl rfl rfl rfl rfl hg18_11a rfl ?_
                  refine wl_off rfl rfl rfl rfl rfl hg18_11a rfl ?_
                  refine wl_off rfl rfl rfl rfl rfl hg18_11a rfl ?_
                  refine wl_off rfl rfl rfl rfl rfl hg18_11a rfl ?_
                  refine wl_off rfl rfl rfl rfl rfl hg18_11a rfl ?_
                  replace h := Option.some.inj h
                  subst h
                  refine wl_det rfl rfl (det_pick_off rfl hg18_11a rfl rfl) rfl ?_
                  exact wl_nil (pn_qnE (ext_cons rfl (ext_skip rfl (ext_skip rfl (ext_skip rfl (ext_skip rfl (ext_skip rfl (ext_skip rfl ext_refl))))))) (fun _ h => h))
                have h := ho18_11
                refine wl_nil ?_
                refine pn_then ?_
                refine wc_cond rfl (fun cd53 => ?_) (fun cd53 => ?_)
                · have h := ifT h cd53
                  refine wc_seq ?_
                  refine wc_region ?_   -- region 19
                  refine wl_det rfl rfl (det_assign rfl) rfl ?_
                  refine wl_nil ?_
                  refine pn_then ?_
                  refine wc_ret ?_
                  refine pr_block ?_
                  refine pr_then ?_
                  refine pr_then ?_
                  refine pr_block ?_
                  refine pr_then ?_
                  replace h := Option.some.inj h
                  subst h
                  replace g43 := nextR g43
                  subst g43
                  have h := (elimL ho43)
                  replace h := Option.some.inj h
                  subst h
                  have h := (elimR ho39)
                  replace h := Option.some.inj h
                  subst h
                  refine pn_ret (vs := [_]) rfl ⟨rfl, trivial⟩ ⟨rfl, rfl, rfl⟩ (fun _ h => h.to trivial trivial)
                · have h := ifF h cd53
                  refine wc_skip ?_
                  refine pn_block ?_
                  refine pn_then ?_
                  refine wc_region ?_   -- region 17
                  refine wl_det rfl rfl (det_move rfl) rfl ?_
                  refine wl_det rfl rfl (det_add rfl rfl) rfl ?_
                  refine wl_det rfl rfl (det_assign rfl) rfl ?_
                  refine wl_nil ?_
                  replace h := Option.some.inj h
                  subst h
                  exact pn_some (k43, (w64 (s43 + 1)), ()) ⟨nextL g43, Nat.lt_succ_self _⟩ ⟨rfl, rfl, rfl, rfl, rfl, trivial⟩ (fun _ h => h.to ⟨_, r0, ⟨_, r0, ⟨_, r0, ⟨_, r0, trivial⟩⟩⟩⟩ ⟨m0, ⟨(ms m0), ⟨(ms (ms m0)), ⟨(ms (ms (ms m0))), ⟨(ms (ms (ms (ms m0)))), trivial⟩⟩⟩⟩⟩)
              · have h := ifF h cd47
                refine wc_exit ?_
                refine px_then ?_
                refine px_then ?_
                refine px_block ?_
                replace h := Option.some.inj h
                subst h
                replace g43 := nextR g43
                subst g43
                have h := (elimR ho43)
                replace h := Option.some.inj h
                subst h
                exact pn_meetG ((), ()) rfl ⟨rfl, rfl, rfl, rfl, trivial⟩ (fun _ h => h.to ⟨_, r0, ⟨_, r0, ⟨_, r0, ⟨_, r0, trivial⟩⟩⟩⟩ ⟨m0, ⟨(ms m0), ⟨(ms (ms m0)), ⟨(ms (ms (ms m0))), ⟨(ms (ms (ms (ms m0)))), trivial⟩⟩⟩⟩⟩)
            rintro ⟨s39, _⟩ e39
            dsimp only at e39 ⊢
            subst e39
            have h := (elimL ho39)
            refine wc_seq ?_
            refine wc_region ?_   -- region 20
            refine wl_det rfl rfl (det_field rfl fd49_1 rfl) rfl ?_
            refine wl_det rfl rfl (det_load rfl m0 (by rfl) na3 us3) rfl ?_
            refine wl_det rfl rfl (det_eql rfl rfl) rfl ?_
            refine wl_det rfl rfl (det_move rfl) rfl ?_
            refine wl_way (decide (a0.Kind = 4)) ((decide (a0.Kind = 4)) || (decide (a0.Kind = 5))) 4 79 (fun hg => ?_) (fun hg => ?_) ?_
            · have hg20_7 := hg
              refine wl_off rfl rfl rfl rfl rfl hg20_7 rfl ?_
              refine wl_off rfl rfl rfl rfl rfl hg20_7 rfl ?_
              refine wl_off rfl rfl rfl rfl rfl hg20_7 rfl ?_
              refine wl_det rfl rfl (det_or_on (r := (decide (a0.Kind = 5))) rfl rfl rfl hg20_7) rfl ?_
              exact wl_nil (pn_qnE (ext_cons rfl (ext_skip rfl (ext_skip rfl (ext_skip rfl (ext_skip rfl ext_refl))))) (fun _ h => h))
            · have hg20_7a := hg
              refine wl_on rfl rfl rfl rfl hg20_7a ?_
              refine wl_det rfl rfl (det_field rfl fd49_1 rfl) rfl ?_
              refine wl_on rfl rfl rfl rfl hg20_7a ?_
              refine wl_det rfl rfl (det_load rfl m0 (by rfl) na3 us3) rfl ?_
              refine wl_on rfl rfl rfl rfl hg20_7a ?_
              refine wl_det rfl rfl (det_eql rfl rfl) rfl ?_
              refine wl_det rfl rfl (det_or_off rfl rfl rfl hg20_7a) rfl ?_
              exact wl_nil (pn_qnE (ext_cons rfl (ext_skip rfl (ext_skip rfl (ext_skip rfl (ext_skip rfl ext_refl))))) (fun _ h => h))
            refine wl_det rfl rfl (det_assign rfl) rfl ?_
            refine wl_nil ?_
            refine pn_then ?_
            refine wc_seq ?_
            refine wc_seq ?_
            refine wc_region ?_   -- region 21
            refine wl_det rfl rfl (det_move rfl) rfl ?_
            refine wl_det rfl rfl (det_not rfl) rfl ?_
            refine wl_det rfl rfl (det_move rfl) rfl ?_
            refine wl_way (!((decide (a0.Kind = 4)) || (decide (a0.Kind = 5)))) ((!((decide (a0.Kind = 4)) || (decide (a0.Kind = 5)))) && (decide (0 < (a0.Reinstatements.length : Int)))) 5 87 (fun hg => ?_) (fun hg => ?_) ?_
            · have hg21_7 := hg
              refine wl_on rfl rfl rfl rfl hg21_7 ?_
              refine wl_det rfl rfl (det_field rfl fd49_15 rfl) rfl ?_
              refine wl_on rfl rfl rfl rfl hg21_7 ?_
              refine wl_det rfl rfl (det_load rfl m0 (by rfl) na23 us23) rfl ?_
              refine wl_on rfl rfl rfl rfl hg21_7 ?_
              refine wl_det rfl rfl (det_len rfl un23) rfl ?_
              refine wl_on rfl rfl rfl rfl hg21_7 ?_
              refine wl_det rfl rfl (det_gtr rfl rfl) rfl ?_
              refine wl_det rfl rfl (det_and_on rfl rfl rfl hg21_7) rfl ?_
              exact wl_nil (pn_qnE (ext_cons rfl (ext_skip rfl (ext_skip rfl (ext_skip rfl (ext_skip rfl (ext_skip rfl ext_refl)))))) (fun _ h => h))
            · have hg21_7a := hg
              refine wl_off rfl rfl rfl rfl rfl hg21_7a rfl ?_
              refine wl_off rfl rfl rfl rfl rfl hg21_7a rfl ?_
              refine wl_off rfl rfl rfl rfl rfl hg21_7a rfl ?_
              refine wl_off rfl rfl rfl rfl rfl hg21_7a rfl ?_
              refine wl_det rfl rfl (det_and_off (q := (decide (0 < (a0.Reinstatements.length : Int)))) rfl rfl rfl hg21_7a) rfl ?_
              exact wl_nil (pn_qnE (ext_cons rfl (ext_skip rfl (ext_skip rfl (ext_skip rfl (ext_skip rfl (ext_skip rfl ext_refl)))))) (fun _ h => h))
            refine wl_det rfl rfl (det_move rfl) rfl ?_
            refine wl_way ((!((decide (a0.Kind = 4)) || (decide (a0.Kind = 5)))) && (decide (0 < (a0.Reinstatements.length : Int)))) (((!((decide (a0.Kind = 4)) || (decide (a0.Kind = 5)))) && (decide (0 < (a0.Reinstatements.length : Int)))) || (a0.Timed && (decide ((a0.Reinstatements.length : Int) = 0)))) 9 97 (fun hg => ?_) (fun hg => ?_) ?_
            · have hg21_17 := hg
              refine wl_off rfl rfl rfl rfl rfl hg21_17 rfl ?_
              refine wl_off rfl rfl rfl rfl rfl hg21_17 rfl ?_
              refine wl_off rfl rfl rfl rfl rfl hg21_17 rfl ?_
              refine wl_none rfl rfl rfl rfl rfl rfl ?_
              refine wl_none rfl rfl rfl rfl rfl rfl ?_
              refine wl_none rfl rfl rfl rfl rfl rfl ?_
              refine wl_none rfl rfl rfl rfl rfl rfl ?_
              refine wl_off rfl rfl rfl rfl rfl hg21_17 rfl ?_
              refine wl_det rfl rfl (det_or_on (r := (a0.Timed && (decide ((a0.Reinstatements.length : Int) = 0)))) rfl rfl rfl hg21_17) rfl ?_
              exact wl_nil (pn_qnE (ext_cons rfl (ext_skip rfl (ext_skip rfl (ext_skip rfl (ext_skip rfl (ext_skip rfl (ext_skip rfl (ext_skip rfl (ext_skip rfl (ext_skip rfl ext_refl)))))))))) (fun _ h => h))
            · have hg21_17a := hg
              refine wl_on rfl rfl rfl rfl hg21_17a ?_
              refine wl_det rfl rfl (det_field rfl fd49_16 rfl) rfl ?_
              refine wl_on rfl rfl rfl rfl hg21_17a ?_
              refine wl_det rfl rfl (det_load rfl m0 (by rfl) na4 us4) rfl ?_
              refine wl_on rfl rfl rfl rfl hg21_17a ?_
              refine wl_det rfl rfl (det_move rfl) rfl ?_
              refine wl_way a0.Timed (a0.Timed && (decide ((a0.Reinstatements.length : Int) = 0))) 5 96 (fun hg => ?_) (fun hg => ?_) ?_
              · have hg21_16 := hg
                refine wl_on rfl rfl rfl rfl hg21_16 ?_
                refine wl_det rfl rfl (det_field rfl fd49_15 rfl) rfl ?_
                refine wl_on rfl rfl rfl rfl hg21_16 ?_
                refine wl_det rfl rfl (det_load rfl m0 (by rfl) na23 us23) rfl ?_
                refine wl_on rfl rfl rfl rfl hg21_16 ?_
                refine wl_det rfl rfl (det_len rfl un23) rfl ?_
                refine wl_on rfl rfl rfl rfl hg21_16 ?_
                refine wl_det rfl rfl (det_eql rfl rfl) rfl ?_
                refine wl_on rfl rfl rfl rfl hg21_17a ?_
                refine wl_det rfl rfl (det_and_on rfl rfl rfl hg21_16) rfl ?_
                exact wl_nil (pn_qnE (ext_cons rfl (ext_skip rfl (ext_skip rfl (ext_skip rfl (ext_skip rfl (ext_skip rfl ext_refl)))))) (fun _ h => h))
              · have hg21_16a := hg
                refine wl_off rfl rfl rfl rfl rfl hg21_16a rfl ?_
                refine wl_off rfl rfl rfl rfl rfl hg21_16a rfl ?_
                refine wl_off rfl rfl rfl rfl rfl hg21_16a rfl ?_
                refine wl_off rfl rfl rfl rfl rfl hg21_16a rfl ?_
                refine wl_on rfl rfl rfl rfl hg21_17a ?_
                refine wl_det rfl rfl (det_and_off (q := (decide ((a0.Reinstatements.length : Int) = 0))) rfl rfl rfl hg21_16a) rfl ?_
                exact wl_nil (pn_qnE (ext_cons rfl (ext_skip rfl (ext_skip rfl (ext_skip rfl (ext_skip rfl (ext_skip rfl ext_refl)))))) (fun _ h => h))
              refine wl_det rfl rfl (det_or_off rfl rfl rfl hg21_17a) rfl ?_
              exact wl_nil (pn_qnE (ext_cons rfl (ext_skip rfl (ext_skip rfl (ext_skip rfl (ext_skip rfl (ext_skip rfl ext_refl)))))) (fun _ h => h))
            refine wl_nil ?_
            refine pn_then ?_
            refine wc_cond rfl (fun cd62 => ?_) (fun cd62 => ?_)
            · have h := ifT h cd62
              refine wc_seq ?_
              refine wc_region ?_   -- region 22
              refine wl_det rfl rfl (det_assign rfl) rfl ?_
              refine wl_nil ?_
              refine pn_then ?_
              refine wc_ret ?_
              refine pr_then ?_
              replace h := Option.some.inj h
              subst h
              refine pn_ret (vs := [_]) rfl ⟨rfl, trivial⟩ ⟨rfl, rfl, rfl⟩ (fun _ h => h.to trivial trivial)
            · have h := ifF h cd62
              refine wc_skip ?_
              refine pn_then ?_
              obtain ⟨q65, h, ho65⟩ := bind_some h
              refine wc_meetG (G := Unit × Unit) (fun (s65, _) => (.inl s65) = q65) (fun (_, _) => [(1, .pointer (some ⟨b0_0, 0, none⟩))]) (fun (_, _) => [eBlk b0_0 49 [.int .i64 a0.ID, .int .i64 a0.Kind, .int .i64 a0.Period.From, .int .i64 a0.Period.To, .slice A0 a0.Perils.length c0, .slice A3 a0.Areas.length c3, .int .i64 a0.Risk, .int .i64 a0.Cession, .int .i64 a0.Line, .int .i64 a0.Lines, .int .i64 a0.Retention, .int .i64 a0.Limit, .int .i64 a0.Window, .int .i64 a0.Deductible, .int .i64 a0.Aggregate, .int .i64 a0.Premium, .slice A6 a0.Reinstatements.length c6, .bool a0.Timed, .int .i64 a0.Base, .slice A9 a0.Inures.length c9, .slice A12 a0.Parts.length c12]]) (fun (_, _) => [fV (lSlice (lInt .i64)) (.slice A0 a0.Perils.length c0) a0.Perils, fV (lSlice (lInt .i64)) (.slice A3 a0.Areas.length c3) a0.Areas, fV (lSlice (lInt .i64)) (.slice A6 a0.Reinstatements.length c6) a0.Reinstatements, fV (lSlice (lInt .i64)) (.slice A9 a0.Inures.length c9) a0.Inures, fV (lSlice lGPart) (.slice A12 a0.Parts.length c12) a0.Parts]) ?_ ?_
              · refine wc_seq ?_
                refine wc_region ?_   -- region 23
                refine wl_det rfl rfl (det_assign rfl) rfl ?_
                refine wl_nil ?_
                refine pn_then ?_
                refine wc_block ?_
                obtain ⟨o69, h, ho69⟩ := bind_some h
                obtain ⟨k69, hk69⟩ := loopV_some.1 h
                refine wc_loop (G := Nat × Int × Unit) (fun g => IterN (treatyref20_Validate_l69 r13_1 r13_4) g.1 g.2.1 o69) (fun g => g.1) (fun (_, s69, _) => [(1, .pointer (some ⟨b0_0, 0, none⟩)), (5, .slice y13_1A0 r13_1.length y13_1c0), (6, .slice y13_4A0 r13_4.length y13_4c0), (7, .slice A14_0 10 10), (10, .int .i64 s69)]) (fun (_, _, _) => [eBlk b0_0 49 [.int .i64 a0.ID, .int .i64 a0.Kind, .int .i64 a0.Period.From, .int .i64 a0.Period.To, .slice A0 a0.Perils.length c0, .slice A3 a0.Areas.length c3, .int .i64 a0.Risk, .int .i64 a0.Cession, .int .i64 a0.Line, .int .i64 a0.Lines, .int .i64 a0.Retention, .int .i64 a0.Limit, .int .i64 a0.Window, .int .i64 a0.Deductible, .int .i64 a0.Aggregate, .int .i64 a0.Premium, .slice A6 a0.Reinstatements.length c6, .bool a0.Timed, .int .i64 a0.Base, .slice A9 a0.Inures.length c9, .slice A12 a0.Parts.length c12], eS (lInt .i64) 3 y13_1A0 r13_1.length y13_1c0 r13_1, eS (lInt .i64) 3 y13_4A0 r13_4.length y13_4c0 r13_4, eS (lInt .i64) 3 A14_0 10 10 [1048576, 1000000, 1073741824, 100, 1073741824, 1073741824, 8784, 1073741824, 1073741824, 1000000000]]) (fun (_, _, _) => [fV (lSlice (lInt .i64)) (.slice A0 a0.Perils.length c0) a0.Perils, fV (lSlice (lInt .i64)) (.slice A3 a0.Areas.length c3) a0.Areas, fV (lSlice (lInt .i64)) (.slice A6 a0.Reinstatements.length c6) a0.Reinstatements, fV (lSlice (lInt .i64)) (.slice A9 a0.Inures.length c9) a0.Inures, fV (lSlice lGPart) (.slice A12 a0.Parts.length c12) a0.Parts]) (k69, 0, ()) hk69 ⟨rfl, rfl, rfl, rfl, rfl, trivial⟩ (fun _ h => h.to ⟨_, r0, ⟨_, r0, ⟨_, r0, ⟨_, r0, trivial⟩⟩⟩⟩ ⟨m0, ⟨(ms m0), ⟨(ms (ms m0)), ⟨(ms (ms (ms m0))), ⟨(ms (ms (ms (ms m0)))), trivial⟩⟩⟩⟩⟩) ?_
                rintro ⟨k69, s69, _⟩ hI
                obtain ⟨k69, rfl, q69, h, g69⟩ := IterN.pos hI
                dsimp only at h ⊢
                unfold treatyref20_Validate_l69 at h
                refine wc_seq ?_
                refine wc_seq ?_
                refine wc_region ?_   -- region 24
                refine wl_det rfl rfl (det_move rfl) rfl ?_
                refine wl_det rfl rfl (det_move rfl) rfl ?_
                refine wl_det rfl rfl (det_len rfl un23) rfl ?_
                refine wl_det rfl rfl (det_lss rfl rfl) rfl ?_
                refine wl_nil ?_
                refine pn_then ?_
                refine wc_cond rfl (fun cd73 => ?_) (fun cd73 => ?_)
                · have h := ifT h cd73
                  refine wc_skip ?_
                  refine pn_then ?_
                  refine wc_seq ?_
                  refine wc_block ?_
                  obtain ⟨q77, h, ho77⟩ := bind_some h
                  refine wc_meetG (G := Bool × Unit) (fun (s77, _) => s77 = q77) (fun (s77, _) => [(1, .pointer (some ⟨b0_0, 0, none⟩)), (5, .slice y13_1A0 r13_1.length y13_1c0), (6, .slice y13_4A0 r13_4.length y13_4c0), (7, .slice A14_0 10 10), (10, .int .i64 s69), (130, .bool s77)]) (fun (_, _) => [eBlk b0_0 49 [.int .i64 a0.ID, .int .i64 a0.Kind, .int .i64 a0.Period.From, .int .i64 a0.Period.To, .slice A0 a0.Perils.length c0, .slice A3 a0.Areas.length c3, .int .i64 a0.Risk, .int .i64 a0.Cession, .int .i64 a0.Line, .int .i64 a0.Lines, .int .i64 a0.Retention, .int .i64 a0.Limit, .int .i64 a0.Window, .int .i64 a0.Deductible, .int .i64 a0.Aggregate, .int .i64 a0.Premium, .slice A6 a0.Reinstatements.length c6, .bool a0.Timed, .int .i64 a0.Base, .slice A9 a0.Inures.length c9, .slice A12 a0.Parts.length c12], eS (lInt .i64) 3 y13_1A0 r13_1.length y13_1c0 r13_1, eS (lInt .i64) 3 y13_4A0 r13_4.length y13_4c0 r13_4, eS (lInt .i64) 3 A14_0 10 10 [1048576, 1000000, 1073741824, 100, 1073741824, 1073741824, 8784, 1073741824, 1073741824, 1000000000]]) (fun (_, _) => [fV (lSlice (lInt .i64)) (.slice A0 a0.Perils.length c0) a0.Perils, fV (lSlice (lInt .i64)) (.slice A3 a0.Areas.length c3) a0.Areas, fV (lSlice (lInt .i64)) (.slice A6 a0.Reinstatements.length c6) a0.Reinstatements, fV (lSlice (lInt .i64)) (.slice A9 a0.Inures.length c9) a0.Inures, fV (lSlice lGPart) (.slice A12 a0.Parts.length c12) a0.Parts]) ?_ ?_
                  · rcases Bool.eq_false_or_eq_true (decide (0 ≤ (ix r13_4 s69))) with hg26_g109 | hg26_g109
                    · have h := ifT h hg26_g109
                      rcases Bool.eq_false_or_eq_true (decide ((ix r13_1 s69) < (ix r13_4 s69))) with hg26_g119 | hg26_g119
                      · have h := ifT h hg26_g119
                        obtain ⟨k26_p1, h⟩ := chk_some h
                        obtain ⟨k26_p2, h⟩ := chk_some h
                        refine dx_region 27 [[], [], [0, 1], [0, 1, 2], [0, 1, 2, 3], [0, 1, 2, 3, 4], [0, 1, 2, 3, 4, 5], [0, 1, 2, 3, 4, 5], [0, 1, 2, 3, 4, 5, 6, 7], [0, 1, 2, 3, 4, 5, 6, 7, 8], [0, 1, 2, 3, 4, 5], [0, 1, 2, 3, 4, 5], [0, 1, 2, 3, 4, 5, 10, 11], [0, 1, 2, 3, 4, 5, 10, 11, 12], [0, 1, 2, 3, 4, 5, 6, 7, 8, 9, 10, 11, 12, 13], [0, 1, 2, 3, 4, 5, 6, 7, 8, 9, 10, 11, 12, 13, 14], [0, 1, 2, 3, 4, 5, 6, 7, 8, 9, 10, 11, 12, 13, 14, 15], [0, 1, 2, 3, 4, 5, 6, 7, 8, 9, 10, 11, 12, 13, 14, 15], [0, 1, 2, 3, 4, 5, 6, 7, 8, 9, 10, 11, 12, 13, 14, 15, 16, 17], [0, 1, 2, 3, 4, 5, 6, 7, 8, 9, 10, 11, 12, 13, 14, 15, 16, 17, 18], [0, 1, 2, 3, 4, 5, 6, 7, 8, 9, 10, 11, 12, 13, 14, 15], [0, 1, 2, 3, 4, 5, 6, 7, 8, 9, 10, 11, 12, 13, 14, 15], [0, 1, 2, 3, 4, 5, 6, 7, 8, 9, 10, 11, 12, 13, 14, 15, 20, 21], [0, 1, 2, 3, 4, 5, 6, 7, 8, 9, 10, 11, 12, 13, 14, 15, 20, 21, 22], [0, 1, 2, 3, 4, 5, 6, 7, 8, 9, 10, 11, 12, 13, 14, 15, 16, 17, 18, 19, 20, 21, 22, 23], [0, 1, 2, 3, 4, 5, 6, 7, 8, 9, 10, 11, 12, 13, 14, 15, 16, 17, 18, 19, 20, 21, 22, 23, 24], [0, 1, 2, 3, 4, 5, 6, 7, 8, 9, 10, 11, 12, 13, 14, 15, 16, 17, 18, 19, 20, 21, 22, 23, 24, 25]] mixed (ord := (.det 0 (.det 1 (.det 2 (.det 3 (.det 4 (.det 5 (.det 6 (.det 7 (.det 8 (.det 9 (.det 10 (.det 11 (.det 12 (.det 13 (.det 14 (.det 15 (.det 16 (.det 17 (.det 18 (.det 19 (.det 20 (.det 21 (.det 22 (.det 23 (.det 24 (.det 25 (.det 26 .done)))))))))))))))))))))))))))) (by kernel_rfl) ?_   -- region 26
                        refine hx_det rfl rfl rfl nofun (det_move rfl) rfl ?_
                        refine hx_det rfl rfl rfl nofun (det_move rfl) rfl ?_
                        refine hx_det rfl rfl rfl nofun (det_indexO rfl rfl (ms (ms m0)) k26_p1 un23 sz3) rfl ?_
                        refine hx_det rfl rfl rfl nofun (det_loadO (off := 0) rfl (ms (ms m0)) k26_p1 (by rfl) (by rfl) (loaded_1 na3 us3)) rfl ?_
                        refine hx_det rfl rfl rfl nofun (det_geq rfl rfl) rfl ?_
                        refine hx_det rfl rfl rfl nofun (det_move rfl) rfl ?_
                        refine hx_on rfl rfl rfl rfl rfl hg26_g109 nofun (det_move rfl) rfl ?_
                        refine hx_on rfl rfl rfl rfl rfl hg26_g109 nofun (det_move rfl) rfl ?_
                        refine hx_on rfl rfl rfl rfl rfl hg26_g109 nofun (det_indexO rfl rfl (ms m0) k26_p2 un23 sz3) rfl ?_
                        refine hx_on rfl rfl rfl rfl rfl hg26_g109 nofun (det_loadO (off := 0) rfl (ms m0) k26_p2 (by rfl) (by rfl) (loaded_1 na3 us3)) rfl ?_
                        refine hx_on rfl rfl rfl rfl rfl hg26_g109 nofun (det_move rfl) rfl ?_
                        refine hx_on rfl rfl rfl rfl rfl hg26_g109 nofun (det_move rfl) rfl ?_
                        refine hx_on rfl rfl rfl rfl rfl hg26_g109 nofun (det_indexO rfl rfl (ms (ms m0)) k26_p1 un23 sz3) rfl ?_
                        refine hx_on rfl rfl rfl rfl rfl hg26_g109 nofun (det_loadO (off := 0) rfl (ms (ms m0)) k26_p1 (by rfl) (by rfl) (loaded_1 na3 us3)) rfl ?_
                        refine hx_on rfl rfl rfl rfl rfl hg26_g109 nofun (det_lss rfl rfl) rfl ?_
                        refine hx_on rfl rfl rfl rfl rfl hg26_g109 nofun (det_move rfl) rfl ?_
                        refine hx_off rfl rfl rfl rfl rfl hg26_g119 rfl ?_
                        refine hx_off rfl rfl rfl rfl rfl hg26_g119 rfl ?_
                        refine hx_off rfl rfl rfl rfl rfl hg26_g119 rfl ?_
                        refine hx_off rfl rfl rfl rfl rfl hg26_g119 rfl ?_
                        refine hx_off rfl rfl rfl rfl rfl hg26_g119 rfl ?_
                        refine hx_off rfl rfl rfl rfl rfl hg26_g119 rfl ?_
                        refine hx_off rfl rfl rfl rfl rfl hg26_g119 rfl ?_
                        refine hx_off rfl rfl rfl rfl rfl hg26_g119 rfl ?_
                        refine hx_off rfl rfl rfl rfl rfl hg26_g119 rfl ?_
                        refine hx_on rfl rfl rfl rfl rfl hg26_g109 nofun (det_pick_on rfl hg26_g119 rfl rfl) rfl ?_
                        refine hx_det rfl rfl rfl nofun (det_pick_on rfl hg26_g109 rfl rfl) rfl ?_
                        refine hx_end ?_
                        refine wl_nil ?_
                        replace h := Option.some.inj h
                        subst h
                        exact pn_meetG (true, ()) rfl ⟨rfl, rfl, rfl, rfl, rfl, rfl, trivial⟩ (fun _ h => h.to ⟨_, r0, ⟨_, r0, ⟨_, r0, ⟨_, r0, trivial⟩⟩⟩⟩ ⟨m0, ⟨(ms m0), ⟨(ms (ms m0)), ⟨(ms (ms (ms m0))), ⟨(ms (ms (ms (ms m0)))), trivial⟩⟩⟩⟩⟩)
                      · have h := ifF h hg26_g119
                        obtain ⟨k26_p3, h⟩ := chk_some h
                        obtain ⟨k26_p4, h⟩ := chk_some h
                        obtain ⟨k26_p5, h⟩ := chk_some h
                        refine dx_region 27 [[], [], [0, 1], [0, 1, 2], [0, 1, 2, 3], [0, 1, 2, 3, 4], [0, 1, 2, 3, 4, 5], [0, 1, 2, 3, 4, 5], [0, 1, 2, 3, 4, 5, 6, 7], [0, 1, 2, 3, 4, 5, 6, 7, 8], [0, 1, 2, 3, 4, 5], [0, 1, 2, 3, 4, 5], [0, 1, 2, 3, 4, 5, 10, 11], [0, 1, 2, 3, 4, 5, 10, 11, 12], [0, 1, 2, 3, 4, 5, 6, 7, 8, 9, 10, 11, 12, 13], [0, 1, 2, 3, 4, 5, 6, 7, 8, 9, 10, 11, 12, 13, 14], [0, 1, 2, 3, 4, 5, 6, 7, 8, 9, 10, 11, 12, 13, 14, 15], [0, 1, 2, 3, 4, 5, 6, 7, 8, 9, 10, 11, 12, 13, 14, 15], [0, 1, 2, 3, 4, 5, 6, 7, 8, 9, 10, 11, 12, 13, 14, 15, 16, 17], [0, 1, 2, 3, 4, 5, 6, 7, 8, 9, 10, 11, 12, 13, 14, 15, 16, 17, 18], [0, 1, 2, 3, 4, 5, 6, 7, 8, 9, 10, 11, 12, 13, 14, 15], [0, 1, 2, 3, 4, 5, 6, 7, 8, 9, 10, 11, 12, 13, 14, 15], [0, 1, 2, 3, 4, 5, 6, 7, 8, 9, 10, 11, 12, 13, 14, 15, 20, 21], [0, 1, 2, 3, 4, 5, 6, 7, 8, 9, 10, 11, 12, 13, 14, 15, 20, 21, 22], [0, 1, 2, 3, 4, 5, 6, 7, 8, 9, 10, 11, 12, 13, 14, 15, 16, 17, 18, 19, 20, 21, 22, 23], [0, 1, 2, 3, 4, 5, 6, 7, 8, 9, 10, 11, 12, 13, 14, 15, 16, 17, 18, 19, 20, 21, 22, 23, 24], [0, 1, 2, 3, 4, 5, 6, 7, 8, 9, 10, 11, 12, 13, 14, 15, 16, 17, 18, 19, 20, 21, 22, 23, 24, 25]] mixed (ord := (.det 0 (.det 1 (.det 2 (.det 3 (.det 4 (.det 5 (.det 6 (.det 7 (.det 8 (.det 9 (.det 10 (.det 11 (.det 12 (.det 13 (.det 14 (.det 15 (.det 16 (.det 17 (.det 18 (.det 19 (.det 20 (.det 21 (.det 22 (.det 23 (.det 24 (.det 25 (.det 26 .done)))))))))))))))))))))))))))) (by kernel_rfl) ?_   -- region 26
                        refine hx_det rfl rfl rfl nofun (det_move rfl) rfl ?_
                        refine hx_det rfl rfl rfl nofun (det_move rfl) rfl ?_
                        refine hx_det rfl rfl rfl nofun (det_indexO rfl rfl (ms (ms m0)) k26_p3 un23 sz3) rfl ?_
                        refine hx_det rfl rfl rfl nofun (det_loadO (off := 0) rfl (ms (ms m0)) k26_p3 (by rfl) (by rfl) (loaded_1 na3 us3)) rfl ?_
                        refine hx_det rfl rfl rfl nofun (det_geq rfl rfl) rfl ?_
                        refine hx_det rfl rfl rfl nofun (det_move rfl) rfl ?_
                        refine hx_on rfl rfl rfl rfl rfl hg26_g109 nofun (det_move rfl) rfl ?_
                        refine hx_on rfl rfl rfl rfl rfl hg26_g109 nofun (det_move rfl) rfl ?_
                        refine hx_on rfl rfl rfl rfl rfl hg26_g109 nofun (det_indexO rfl rfl (ms m0) k26_p4 un23 sz3) rfl ?_
                        refine hx_on rfl rfl rfl rfl rfl hg26_g109 nofun (det_loadO (off := 0) rfl (ms m0) k26_p4 (by rfl) (by rfl) (loaded_1 na3 us3)) rfl ?_
                        refine hx_on rfl rfl rfl rfl rfl hg26_g109 nofun (det_move rfl) rfl ?_
                        refine hx_on rfl rfl rfl rfl rfl hg26_g109 nofun (det_move rfl) rfl ?_
                        refine hx_on rfl rfl rfl rfl rfl hg26_g109 nofun (det_indexO rfl rfl (ms (ms m0)) k26_p3 un23 sz3) rfl ?_
                        refine hx_on rfl rfl rfl rfl rfl hg26_g109 nofun (det_loadO (off := 0) rfl (ms (ms m0)) k26_p3 (by rfl) (by rfl) (loaded_1 na3 us3)) rfl ?_
                        refine hx_on rfl rfl rfl rfl rfl hg26_g109 nofun (det_lss rfl rfl) rfl ?_
                        refine hx_on rfl rfl rfl rfl rfl hg26_g109 nofun (det_move rfl) rfl ?_
                        refine hx_on rfl rfl rfl rfl rfl hg26_g119 nofun (det_move rfl) rfl ?_
                        refine hx_on rfl rfl rfl rfl rfl hg26_g119 nofun (det_move rfl) rfl ?_
                        refine hx_on rfl rfl rfl rfl rfl hg26_g119 nofun (det_indexO rfl rfl (ms m0) k26_p4 un23 sz3) rfl ?_
                        refine hx_on rfl rfl rfl rfl rfl hg26_g119 nofun (det_loadO (off := 0) rfl (ms m0) k26_p4 (by rfl) (by rfl) (loaded_1 na3 us3)) rfl ?_
                        refine hx_on rfl rfl rfl rfl rfl hg26_g119 nofun (det_move rfl) rfl ?_
                        refine hx_on rfl rfl rfl rfl rfl hg26_g119 nofun (det_move rfl) rfl ?_
                        refine hx_on rfl rfl rfl rfl rfl hg26_g119 nofun (det_indexO rfl rfl (ms (ms (ms m0))) k26_p5 un23 sz3) rfl ?_
                        refine hx_on rfl rfl rfl rfl rfl hg26_g119 nofun (det_loadO (off := 0) rfl (ms (ms (ms m0))) k26_p5 (by rfl) (by rfl) (loaded_1 na3 us3)) rfl ?_
                        refine hx_on rfl rfl rfl rfl rfl hg26_g119 nofun (det_gtr rfl rfl) rfl ?_
                        refine hx_on rfl rfl rfl rfl rfl hg26_g109 nofun (det_pick_off rfl hg26_g119 rfl rfl) rfl ?_
                        refine hx_det rfl rfl rfl nofun (det_pick_on rfl hg26_g109 rfl rfl) rfl ?_
                        refine hx_end ?_
                        refine wl_nil ?_
                        replace h := Option.some.inj h
                        subst h
                        exact pn_meetG ((decide ((ix [1048576, 1000000, 1073741824, 100, 1073741824, 1073741824, 8784, 1073741824, 1073741824, 1000000000] s69) < (ix r13_1 s69))), ()) rfl ⟨rfl, rfl, rfl, rfl, rfl, rfl, trivial⟩ (fun _ h => h.to ⟨_, r0, ⟨_, r0, ⟨_, r0, ⟨_, r0, trivial⟩⟩⟩⟩ ⟨m0, ⟨(ms m0), ⟨(ms (ms m0)), ⟨(ms (ms (ms m0))), ⟨(ms (ms (ms (ms m0)))), trivial⟩⟩⟩⟩⟩)
                    · have h := ifF h hg26_g109
                      obtain ⟨k26_p6, h⟩ := chk_some h
                      refine dx_region 27 [[], [], [0, 1], [0, 1, 2], [0, 1, 2, 3], [0, 1, 2, 3, 4], [0, 1, 2, 3, 4, 5], [0, 1, 2, 3, 4, 5], [0, 1, 2, 3, 4, 5, 6, 7], [0, 1, 2, 3, 4, 5, 6, 7, 8], [0, 1, 2, 3, 4, 5], [0, 1, 2, 3, 4, 5], [0, 1, 2, 3, 4, 5, 10, 11], [0, 1, 2, 3, 4, 5, 10, 11, 12], [0, 1, 2, 3, 4, 5, 6, 7, 8, 9, 10, 11, 12, 13], [0, 1, 2, 3, 4, 5, 6, 7, 8, 9, 10, 11, 12, 13, 14], [0, 1, 2, 3, 4, 5, 6, 7, 8, 9, 10, 11, 12, 13, 14, 15], [0, 1, 2, 3, 4, 5, 6, 7, 8, 9, 10, 11, 12, 13, 14, 15], [0, 1, 2, 3, 4, 5, 6, 7, 8, 9, 10, 11, 12, 13, 14, 15, 16, 17], [0, 1, 2, 3, 4, 5, 6, 7, 8, 9, 10, 11, 12, 13, 14, 15, 16, 17, 18], [0, 1, 2, 3, 4, 5, 6, 7, 8, 9, 10, 11, 12, 13, 14, 15], [0, 1, 2, 3, 4, 5, 6, 7, 8, 9, 10, 11, 12, 13, 14, 15], [0, 1, 2, 3, 4, 5, 6, 7, 8, 9, 10, 11, 12, 13, 14, 15, 20, 21], [0, 1, 2, 3, 4, 5, 6, 7, 8, 9, 10, 11, 12, 13, 14, 15, 20, 21, 22], [0, 1, 2, 3, 4, 5, 6, 7, 8, 9, 10, 11, 12, 13, 14, 15, 16, 17, 18, 19, 20, 21, 22, 23], [0, 1, 2, 3, 4, 5, 6, 7, 8, 9, 10, 11, 12, 13, 14, 15, 16, 17, 18, 19, 20, 21, 22, 23, 24], [0, 1, 2, 3, 4, 5, 6, 7, 8, 9, 10, 11, 12, 13, 14, 15, 16, 17, 18, 19, 20, 21, 22, 23, 24, 25]] mixed (ord := (.det 0 (.det 1 (.det 2 (.det 3 (.det 4 (.det 5 (.det 6 (.det 7 (.det 8 (.det 9 (.det 10 (.det 11 (.det 12 (.det 13 (.det 14 (.det 15 (.det 16 (.det 17 (.det 18 (.det 19 (.det 20 (.det 21 (.det 22 (.det 23 (.det 24 (.det 25 (.det 26 .done)))))))))))))))))))))))))))) (by kernel_rfl) ?_   -- region 26
                      refine hx_det rfl rfl rfl nofun (det_move rfl) rfl ?_
                      refine hx_det rfl rfl rfl nofun (det_move rfl) rfl ?_
                      refine hx_det rfl rfl rfl nofun (det_indexO rfl rfl (ms (ms m0)) k26_p6 un23 sz3) rfl ?_
                      refine hx_det rfl rfl rfl nofun (det_loadO (off := 0) rfl (ms (ms m0)) k26_p6 (by rfl) (by rfl) (loaded_1 na3 us3)) rfl ?_
                      refine hx_det rfl rfl rfl nofun (det_geq rfl rfl) rfl ?_
                      refine hx_det rfl rfl rfl nofun (det_move rfl) rfl ?_
                      refine hx_off rfl rfl rfl rfl rfl hg26_g109 rfl ?_
                      refine hx_off rfl rfl rfl rfl rfl hg26_g109 rfl ?_
                      refine hx_off rfl rfl rfl rfl rfl hg26_g109 rfl ?_
                      refine hx_off rfl rfl rfl rfl rfl hg26_g109 rfl ?_
                      refine hx_off rfl rfl rfl rfl rfl hg26_g109 rfl ?_
                      refine hx_off rfl rfl rfl rfl rfl hg26_g109 rfl ?_
                      refine hx_off rfl rfl rfl rfl rfl hg26_g109 rfl ?_
                      refine hx_off rfl rfl rfl rfl rfl hg26_g109 rfl ?_
                      refine hx_off rfl rfl rfl rfl rfl hg26_g109 rfl ?_
                      refine hx_off rfl rfl rfl rfl rfl hg26_g109 rfl ?_
                      refine hx_none rfl rfl rfl rfl rfl rfl ?_
                      refine hx_none rfl rfl rfl rfl rfl rfl ?_
                      refine hx_none rfl rfl rfl rfl rfl rfl ?_
                      refine hx_none rfl rfl rfl rfl rfl rfl ?_
                      refine hx_none rfl rfl rfl rfl rfl rfl ?_
                      refine hx_none rfl rfl rfl rfl rfl rfl ?_
                      refine hx_none rfl rfl rfl rfl rfl rfl ?_
                      refine hx_none rfl rfl rfl rfl rfl rfl ?_
                      refine hx_none rfl rfl rfl rfl rfl rfl ?_
                      refine hx_off rfl rfl rfl rfl rfl hg26_g109 rfl ?_
                      refine hx_det rfl rfl rfl nofun (det_pick_off rfl hg26_g109 rfl rfl) rfl ?_
                      refine hx_end ?_
                      refine wl_nil ?_
                      replace h := Option.some.inj h
                      subst h
                      exact pn_meetG (false, ()) rfl ⟨rfl, rfl, rfl, rfl, rfl, rfl, trivial⟩ (fun _ h => h.to ⟨_, r0, ⟨_, r0, ⟨_, r0, ⟨_, r0, trivial⟩⟩⟩⟩ ⟨m0, ⟨(ms m0), ⟨(ms (ms m0)), ⟨(ms (ms (ms m0))), ⟨(ms (ms (ms (ms m0)))), trivial⟩⟩⟩⟩⟩)
                  rintro ⟨s77, _⟩ e77
                  dsimp only at e77 ⊢
                  subst e77
                  have h := ho77
                  refine wc_cond rfl (fun cd79 => ?_) (fun cd79 => ?_)
                  · have h := ifT h cd79
                    refine wc_seq ?_
                    refine wc_region ?_   -- region 27
                    refine wl_det rfl rfl (det_assign rfl) rfl ?_
                    refine wl_nil ?_
                    refine pn_then ?_
                    refine wc_ret ?_
                    refine pr_block ?_
                    refine pr_then ?_
                    refine pr_then ?_
                    refine pr_block ?_
                    refine pr_then ?_
                    replace h := Option.some.inj h
                    subst h
                    replace g69 := nextR g69
                    subst g69
                    have h := (elimL ho69)
                    replace h := Option.some.inj h
                    subst h
                    have h := (elimR ho65)
                    replace h := Option.some.inj h
                    subst h
                    refine pn_ret (vs := [_]) rfl ⟨rfl, trivial⟩ ⟨rfl, rfl, rfl⟩ (fun _ h => h.to trivial trivial)
                  · have h := ifF h cd79
                    refine wc_skip ?_
                    refine pn_block ?_
                    refine pn_then ?_
                    refine wc_region ?_   -- region 25
                    refine wl_det rfl rfl (det_move rfl) rfl ?_
                    refine wl_det rfl rfl (det_add rfl rfl) rfl ?_
                    refine wl_det rfl rfl (det_assign rfl) rfl ?_
                    refine wl_nil ?_
                    replace h := Option.some.inj h
                    subst h
                    exact pn_some (k69, (w64 (s69 + 1)), ()) ⟨nextL g69, Nat.lt_succ_self _⟩ ⟨rfl, rfl, rfl, rfl, rfl, trivial⟩ (fun _ h => h.to ⟨_, r0, ⟨_, r0, ⟨_, r0, ⟨_, r0, trivial⟩⟩⟩⟩ ⟨m0, ⟨(ms m0), ⟨(ms (ms m0)), ⟨(ms (ms (ms m0))), ⟨(ms (ms (ms (ms m0)))), trivial⟩⟩⟩⟩⟩)
                · have h := ifF h cd73
                  refine wc_exit ?_
                  refine px_then ?_
                  refine px_then ?_
                  refine px_block ?_
                  replace h := Option.some.inj h
                  subst h
                  replace g69 := nextR g69
                  subst g69
                  have h := (elimR ho69)
                  replace h := Option.some.inj h
                  subst h
                  exact pn_meetG ((), ()) rfl ⟨rfl, trivial⟩ (fun _ h => h.to ⟨_, r0, trivial⟩ ⟨m0, ⟨(ms m0), ⟨(ms (ms m0)), ⟨(ms (ms (ms m0))), ⟨(ms (ms (ms (ms m0)))), trivial⟩⟩⟩⟩⟩)
              rintro ⟨s65, _⟩ e65
              dsimp only at e65 ⊢
              subst e65
              have h := (elimL ho65)
              refine wc_seq ?_
              refine wc_seq ?_
              refine wc_region ?_   -- region 28
              refine wl_det rfl rfl (det_field rfl fd49_14 rfl) rfl ?_
              refine wl_det rfl rfl (det_load rfl m0 (by rfl) na3 us3) rfl ?_
              refine wl_det rfl rfl (det_lss rfl rfl) rfl ?_
              refine wl_det rfl rfl (det_move rfl) rfl ?_
              refine wl_way (decide (a0.Premium < 0)) ((decide (a0.Premium < 0)) || (decide (1073741824 < a0.Premium))) 4 138 (fun hg => ?_) (fun hg => ?_) ?_
              · have hg28_7 := hg
                refine wl_off rfl rfl rfl rfl rfl hg28_7 rfl ?_
                refine wl_off rfl rfl rfl rfl rfl hg28_7 rfl ?_
                refine wl_off rfl rfl rfl rfl rfl hg28_7 rfl ?_
                refine wl_det rfl rfl (det_or_on (r := (decide (1073741824 < a0.Premium))) rfl rfl rfl hg28_7) rfl ?_
                exact wl_nil (pn_qnE (ext_cons rfl (ext_skip rfl (ext_skip rfl (ext_skip rfl (ext_skip rfl ext_refl))))) (fun _ h => h))
              · have hg28_7a := hg
                refine wl_on rfl rfl rfl rfl hg28_7a ?_
                refine wl_det rfl rfl (det_field rfl fd49_14 rfl) rfl ?_
                refine wl_on rfl rfl rfl rfl hg28_7a ?_
                refine wl_det rfl rfl (det_load rfl m0 (by rfl) na3 us3) rfl ?_
                refine wl_on rfl rfl rfl rfl hg28_7a ?_
                refine wl_det rfl rfl (det_gtr rfl rfl) rfl ?_
                refine wl_det rfl rfl (det_or_off rfl rfl rfl hg28_7a) rfl ?_
                exact wl_nil (pn_qnE (ext_cons rfl (ext_skip rfl (ext_skip rfl (ext_skip rfl (ext_skip rfl ext_refl))))) (fun _ h => h))
              refine wl_nil ?_
              refine pn_then ?_
              refine wc_cond rfl (fun cd86 => ?_) (fun cd86 => ?_)
              · have h := ifT h cd86
                refine wc_seq ?_
                refine wc_region ?_   -- region 29
                refine wl_det rfl rfl (det_assign rfl) rfl ?_
                refine wl_nil ?_
                refine pn_then ?_
                refine wc_ret ?_
                refine pr_then ?_
                replace h := Option.some.inj h
                subst h
                refine pn_ret (vs := [_]) rfl ⟨rfl, trivial⟩ ⟨rfl, rfl, rfl⟩ (fun _ h => h.to trivial trivial)
              · have h := ifF h cd86
                refine wc_skip ?_
                refine pn_then ?_
                refine wc_seq ?_
                refine wc_seq ?_
                refine wc_region ?_   -- region 30
                refine wl_det rfl rfl (det_field rfl fd49_15 rfl) rfl ?_
                refine wl_det rfl rfl (det_load rfl m0 (by rfl) na23 us23) rfl ?_
                refine wl_det rfl rfl (det_len rfl un23) rfl ?_
                refine wl_det rfl rfl (det_gtr rfl rfl) rfl ?_
                refine wl_nil ?_
                refine pn_then ?_
                refine wc_cond rfl (fun cd92 => ?_) (fun cd92 => ?_)
                · have h := ifT h cd92
                  refine wc_seq ?_
                  refine wc_region ?_   -- region 31
                  refine wl_det rfl rfl (det_assign rfl) rfl ?_
                  refine wl_nil ?_
                  refine pn_then ?_
                  refine wc_ret ?_
                  refine pr_then ?_
                  replace h := Option.some.inj h
                  subst h
                  refine pn_ret (vs := [_]) rfl ⟨rfl, trivial⟩ ⟨rfl, rfl, rfl⟩ (fun _ h => h.to trivial trivial)
                · have h := ifF h cd92
                  refine wc_skip ?_
                  refine pn_then ?_
                  obtain ⟨q95, h, ho95⟩ := bind_some h
                  refine wc_meetG (G := Unit × Unit) (fun (s95, _) => (.inl s95) = q95) (fun (_, _) => [(1, .pointer (some ⟨b0_0, 0, none⟩))]) (fun (_, _) => [eBlk b0_0 49 [.int .i64 a0.ID, .int .i64 a0.Kind, .int .i64 a0.Period.From, .int .i64 a0.Period.To, .slice A0 a0.Perils.length c0, .slice A3 a0.Areas.length c3, .int .i64 a0.Risk, .int .i64 a0.Cession, .int .i64 a0.Line, .int .i64 a0.Lines, .int .i64 a0.Retention, .int .i64 a0.Limit, .int .i64 a0.Window, .int .i64 a0.Deductible, .int .i64 a0.Aggregate, .int .i64 a0.Premium, .slice A6 a0.Reinstatements.length c6, .bool a0.Timed, .int .i64 a0.Base, .slice A9 a0.Inures.length c9, .slice A12 a0.Parts.length c12]]) (fun (_, _) => [fV (lSlice (lInt .i64)) (.slice A0 a0.Perils.length c0) a0.Perils, fV (lSlice (lInt .i64)) (.slice A3 a0.Areas.length c3) a0.Areas, fV (lSlice (lInt .i64)) (.slice A6 a0.Reinstatements.length c6) a0.Reinstatements, fV (lSlice (lInt .i64)) (.slice A9 a0.Inures.length c9) a0.Inures, fV (lSlice lGPart) (.slice A12 a0.Parts.length c12) a0.Parts]) ?_ ?_
                  · refine wc_seq ?_
                    refine wc_region ?_   -- region 32
                    refine wl_det rfl rfl (det_assign rfl) rfl ?_
                    refine wl_nil ?_
                    refine pn_then ?_
                    refine wc_block ?_
                    obtain ⟨o99, h, ho99⟩ := bind_some h
                    obtain ⟨k99, hk99⟩ := loopV_some.1 h
                    refine wc_loop (G := Nat × Int × Unit) (fun g => IterN (treatyref20_Validate_l99 a0) g.1 g.2.1 o99) (fun g => g.1) (fun (_, s99, _) => [(1, .pointer (some ⟨b0_0, 0, none⟩)), (11, .int .i64 s99)]) (fun (_, _, _) => [eBlk b0_0 49 [.int .i64 a0.ID, .int .i64 a0.Kind, .int .i64 a0.Period.From, .int .i64 a0.Period.To, .slice A0 a0.Perils.length c0, .slice A3 a0.Areas.length c3, .int .i64 a0.Risk, .int .i64 a0.Cession, .int .i64 a0.Line, .int .i64 a0.Lines, .int .i64 a0.Retention, .int .i64 a0.Limit, .int .i64 a0.Window, .int .i64 a0.Deductible, .int .i64 a0.Aggregate, .int .i64 a0.Premium, .slice A6 a0.Reinstatements.length c6, .bool a0.Timed, .int .i64 a0.Base, .slice A9 a0.Inures.length c9, .slice A12 a0.Parts.length c12]]) (fun (_, _, _) => [fV (lSlice (lInt .i64)) (.slice A0 a0.Perils.length c0) a0.Perils, fV (lSlice (lInt .i64)) (.slice A3 a0.Areas.length c3) a0.Areas, fV (lSlice (lInt .i64)) (.slice A6 a0.Reinstatements.length c6) a0.Reinstatements, fV (lSlice (lInt .i64)) (.slice A9 a0.Inures.length c9) a0.Inures, fV (lSlice lGPart) (.slice A12 a0.Parts.length c12) a0.Parts]) (k99, 0, ()) hk99 ⟨rfl, rfl, trivial⟩ (fun _ h => h.to ⟨_, r0, trivial⟩ ⟨m0, ⟨(ms m0), ⟨(ms (ms m0)), ⟨(ms (ms (ms m0))), ⟨(ms (ms (ms (ms m0)))), trivial⟩⟩⟩⟩⟩) ?_
                    rintro ⟨k99, s99, _⟩ hI
                    obtain ⟨k99, rfl, q99, h, g99⟩ := IterN.pos hI
                    dsimp only at h ⊢
                    unfold treatyref20_Validate_l99 at h
                    refine wc_seq ?_
                    refine wc_seq ?_
                    refine wc_region ?_   -- region 33
                    refine wl_det rfl rfl (det_move rfl) rfl ?_
                    refine wl_det rfl rfl (det_field rfl fd49_15 rfl) rfl ?_
                    refine wl_det rfl rfl (det_load rfl m0 (by rfl) na23 us23) rfl ?_
                    refine wl_det rfl rfl (det_len rfl un23) rfl ?_
                    refine wl_det rfl rfl (det_lss rfl rfl) rfl ?_
                    refine wl_nil ?_
                    refine pn_then ?_
                    refine wc_cond rfl (fun cd103 => ?_) (fun cd103 => ?_)
                    · have h := ifT h cd103
                      refine wc_skip ?_
                      refine pn_then ?_
                      refine wc_seq ?_
                      refine wc_block ?_
                      refine wc_seq ?_
                      refine wc_region ?_   -- region 35
                      refine wl_det rfl rfl (det_field rfl fd49_15 rfl) rfl ?_
                      refine wl_det rfl rfl (det_load rfl m0 (by rfl) na23 us23) rfl ?_
                      refine wl_det rfl rfl (det_move rfl) rfl ?_
                      obtain ⟨k35_3, h⟩ := chk_some h
                      refine wl_st (fun _ h => h.openF (ms (ms m0)) k35_3) ?_
                      refine wl_det rfl rfl (det_indexP rfl rfl (ms (ms (ms m0))) k35_3 m0 un23 sz3) rfl ?_
                      refine wl_det rfl rfl (det_loadP (off := 0) rfl m0 (by rfl) (by rfl) (loaded_1 na3 us3)) rfl ?_
                      refine wl_det rfl rfl (det_lss rfl rfl) rfl ?_
                      refine wl_det rfl rfl (det_move rfl) rfl ?_
                      refine wl_way (decide ((ix a0.Reinstatements s99) < 0)) ((decide ((ix a0.Reinstatements s99) < 0)) || (decide (2000000 < (ix a0.Reinstatements s99)))) 7 163 (fun hg => ?_) (fun hg => ?_) ?_
                      · have hg35_13 := hg
                        refine wl_off rfl rfl rfl rfl rfl hg35_13 rfl ?_
                        refine wl_off rfl rfl rfl rfl rfl hg35_13 rfl ?_
                        refine wl_off rfl rfl rfl rfl rfl hg35_13 rfl ?_
                        refine wl_off rfl rfl rfl rfl rfl hg35_13 rfl ?_
                        refine wl_off rfl rfl rfl rfl rfl hg35_13 rfl ?_
                        refine wl_off rfl rfl rfl rfl rfl hg35_13 rfl ?_
                        refine wl_det rfl rfl (det_or_on (r := (decide (2000000 < (ix a0.Reinstatements s99)))) rfl rfl rfl hg35_13) rfl ?_
                        exact wl_nil (pn_qnE (ext_cons rfl (ext_skip rfl (ext_skip rfl (ext_skip rfl (ext_skip rfl (ext_skip rfl (ext_skip rfl (ext_skip rfl ext_refl)))))))) (fun _ h => h))
                      · have hg35_13a := hg
                        refine wl_on rfl rfl rfl rfl hg35_13a ?_
                        refine wl_det rfl rfl (det_field rfl fd49_15 rfl) rfl ?_
                        refine wl_on rfl rfl rfl rfl hg35_13a ?_
                        refine wl_det rfl rfl (det_load rfl m0 (by rfl) na23 us23) rfl ?_
                        refine wl_on rfl rfl rfl rfl hg35_13a ?_
                        refine wl_det rfl rfl (det_move rfl) rfl ?_
                        refine wl_on rfl rfl rfl rfl hg35_13a ?_
                        refine wl_det rfl rfl (det_indexP rfl rfl (ms (ms (ms m0))) k35_3 m0 un23 sz3) rfl ?_
                        refine wl_on rfl rfl rfl rfl hg35_13a ?_
                        refine wl_det rfl rfl (det_loadP (off := 0) rfl m0 (by rfl) (by rfl) (loaded_1 na3 us3)) rfl ?_
                        refine wl_on rfl rfl rfl rfl hg35_13a ?_
                        refine wl_det rfl rfl (det_gtr rfl rfl) rfl ?_
                        refine wl_det rfl rfl (det_or_off rfl rfl rfl hg35_13a) rfl ?_
                        exact wl_nil (pn_qnE (ext_cons rfl (ext_skip rfl (ext_skip rfl (ext_skip rfl (ext_skip rfl (ext_skip rfl (ext_skip rfl (ext_skip rfl ext_refl)))))))) (fun _ h => h))
                      refine wl_nil ?_
                      refine pn_then ?_
                      refine wc_cond rfl (fun cd109 => ?_) (fun cd109 => ?_)
                      · have h := ifT h cd109
                        refine wc_seq ?_
                        refine wc_region ?_   -- region 36
                        refine wl_det rfl rfl (det_assign rfl) rfl ?_
                        refine wl_nil ?_
                        refine pn_then ?_
                        refine wc_ret ?_
                        refine pr_block ?_
                        refine pr_then ?_
                        refine pr_then ?_
                        refine pr_block ?_
                        refine pr_then ?_
                        replace h := Option.some.inj h
                        subst h
                        replace g99 := nextR g99
                        subst g99
                        have h := (elimL ho99)
                        replace h := Option.some.inj h
                        subst h
                        have h := (elimR ho95)
                        replace h := Option.some.inj h
                        subst h
                        refine pn_ret (vs := [_]) rfl ⟨rfl, trivial⟩ ⟨rfl, rfl, rfl⟩ (fun _ h => h.to trivial trivial)
                      · have h := ifF h cd109
                        refine wc_skip ?_
                        refine pn_block ?_
                        refine pn_then ?_
                        refine wc_region ?_   -- region 34
                        refine wl_det rfl rfl (det_move rfl) rfl ?_
                        refine wl_det rfl rfl (det_add rfl rfl) rfl ?_
                        refine wl_det rfl rfl (det_assign rfl) rfl ?_
                        refine wl_nil ?_
                        replace h := Option.some.inj h
                        subst h
                        exact pn_some (k99, (w64 (s99 + 1)), ()) ⟨nextL g99, Nat.lt_succ_self _⟩ ⟨rfl, rfl, trivial⟩ (fun _ h => h.to ⟨_, r0, trivial⟩ ⟨(ms m0), ⟨(ms (ms m0)), ⟨(ms (ms (ms m0))), ⟨(ms (ms (ms (ms m0)))), ⟨(ms (ms (ms (ms (ms m0))))), trivial⟩⟩⟩⟩⟩)
                    · have h := ifF h cd103
                      refine wc_exit ?_
                      refine px_then ?_
                      refine px_then ?_
                      refine px_block ?_
                      replace h := Option.some.inj h
                      subst h
                      replace g99 := nextR g99
                      subst g99
                      have h := (elimR ho99)
                      replace h := Option.some.inj h
                      subst h
                      exact pn_meetG ((), ()) rfl ⟨rfl, trivial⟩ (fun _ h => h.to ⟨_, r0, trivial⟩ ⟨m0, ⟨(ms m0), ⟨(ms (ms m0)), ⟨(ms (ms (ms m0))), ⟨(ms (ms (ms (ms m0)))), trivial⟩⟩⟩⟩⟩)
                  rintro ⟨s95, _⟩ e95
                  dsimp only at e95 ⊢
                  subst e95
                  have h := (elimL ho95)
                  refine wc_seq ?_
                  refine wc_seq ?_
                  refine wc_region ?_   -- region 37
                  refine wl_det rfl rfl (det_field rfl fd49_18 rfl) rfl ?_
                  refine wl_det rfl rfl (det_load rfl m0 (by rfl) na23 us23) rfl ?_
                  refine wl_det rfl rfl (det_len rfl un23) rfl ?_
                  refine wl_det rfl rfl (det_gtr rfl rfl) rfl ?_
                  refine wl_nil ?_
                  refine pn_then ?_
                  refine wc_cond rfl (fun cd116 => ?_) (fun cd116 => ?_)
                  · have h := ifT h cd116
                    refine wc_seq ?_
                    refine wc_region ?_   -- region 38
                    refine wl_det rfl rfl (det_assign rfl) rfl ?_
                    refine wl_nil ?_
                    refine pn_then ?_
                    refine wc_ret ?_
                    refine pr_then ?_
                    replace h := Option.some.inj h
                    subst h
                    refine pn_ret (vs := [_]) rfl ⟨rfl, trivial⟩ ⟨rfl, rfl, rfl⟩ (fun _ h => h.to trivial trivial)
                  · have h := ifF h cd116
                    refine wc_skip ?_
                    refine pn_then ?_
                    refine wc_seq ?_
                    refine wc_seq ?_
                    refine wc_region ?_   -- region 39
                    refine wl_det rfl rfl (det_field rfl fd49_18 rfl) rfl ?_
                    refine wl_det rfl rfl (det_load rfl m0 (by rfl) na23 us23) rfl ?_
                    obtain ⟨r39_2, hr39_2, h⟩ := bind_some h
                    refine wl_act (act_callS (cap := []) (W_treatyref20_ascending a0.Inures 1 1048576 A9 a0.Inures.length c9 r39_2 hr39_2) rfl rfl rfl bd76 rfl ⟨(ms (ms (ms m0))), trivial⟩) rfl rfl rfl ?_
                    rintro _ _ _ ⟨_, _, ⟨rfl, rfl, rfl⟩, rfl, rfl⟩
                    dsimp only [List.nil_append, List.cons_append]
                    refine wl_det rfl rfl (det_assign rfl) rfl ?_
                    refine wl_nil ?_
                    refine pn_then ?_
                    refine wc_seq ?_
                    refine wc_region ?_   -- region 40
                    refine wl_det rfl rfl (det_move rfl) rfl ?_
                    refine wl_det rfl rfl (det_neq rfl rfl) rfl ?_
                    refine wl_nil ?_
                    refine pn_then ?_
                    refine wc_cond rfl (fun cd124 => ?_) (fun cd124 => ?_)
                    · have h := ifT h cd124
                      refine wc_seq ?_
                      refine wc_region ?_   -- region 41
                      refine wl_det rfl rfl (det_move rfl) rfl ?_
                      refine wl_det rfl rfl (det_assign rfl) rfl ?_
                      refine wl_nil ?_
                      refine pn_then ?_
                      refine wc_ret ?_
                      refine pr_then ?_
                      replace h := Option.some.inj h
                      subst h
                      refine pn_ret (vs := [_]) rfl ⟨rfl, trivial⟩ ⟨rfl, rfl, rfl⟩ (fun _ h => h.to trivial trivial)
                    · have h := ifF h cd124
                      refine wc_skip ?_
                      refine pn_then ?_
                      refine wc_seq ?_
                      refine wc_seq ?_
                      refine wc_region ?_   -- region 42
                      refine wl_det rfl rfl (det_field rfl fd49_18 rfl) rfl ?_
                      refine wl_det rfl rfl (det_load rfl m0 (by rfl) na23 us23) rfl ?_
                      refine wl_det rfl rfl (det_field rfl fd49_0 rfl) rfl ?_
                      refine wl_det rfl rfl (det_load rfl m0 (by rfl) na3 us3) rfl ?_
                      obtain ⟨r42_4, hr42_4, h⟩ := bind_some h
                      refine wl_act (act_callS (cap := []) (W_treatyref20_holds a0.Inures a0.ID A9 a0.Inures.length c9 r42_4 hr42_4) rfl rfl rfl bd65 rfl ⟨(ms (ms (ms m0))), trivial⟩) rfl rfl rfl ?_
                      rintro _ _ _ ⟨_, _, ⟨rfl, rfl, rfl⟩, rfl, rfl⟩
                      dsimp only [List.nil_append, List.cons_append]
                      refine wl_nil ?_
                      refine pn_then ?_
                      refine wc_cond rfl (fun cd130 => ?_) (fun cd130 => ?_)
                      · have h := ifT h cd130
                        refine wc_seq ?_
                        refine wc_region ?_   -- region 43
                        refine wl_det rfl rfl (det_assign rfl) rfl ?_
                        refine wl_nil ?_
                        refine pn_then ?_
                        refine wc_ret ?_
                        refine pr_then ?_
                        replace h := Option.some.inj h
                        subst h
                        refine pn_ret (vs := [_]) rfl ⟨rfl, trivial⟩ ⟨rfl, rfl, rfl⟩ (fun _ h => h.to trivial trivial)
                      · have h := ifF h cd130
                        refine wc_skip ?_
                        refine pn_then ?_
                        refine wc_seq ?_
                        refine wc_region ?_   -- region 44
                        refine wl_det rfl rfl (det_field rfl fd49_19 rfl) rfl ?_
                        refine wl_det rfl rfl (det_load rfl m0 (by rfl) na22 us22) rfl ?_
                        obtain ⟨r44_2, hr44_2, h⟩ := bind_some h
                        refine wl_act (act_callS (cap := []) (W_treatyref20_Parts a0.Parts A12 a0.Parts.length c12 r44_2 hr44_2) rfl rfl rfl bd20 rfl ⟨(ms (ms (ms (ms m0)))), trivial⟩) rfl rfl rfl ?_
                        rintro _ _ _ ⟨_, _, ⟨rfl, rfl, rfl⟩, rfl, rfl⟩
                        dsimp only [List.nil_append, List.cons_append]
                        refine wl_det rfl rfl (det_assign rfl) rfl ?_
                        refine wl_nil ?_
                        refine pn_then ?_
                        refine wc_ret ?_
                        replace h := Option.some.inj h
                        subst h
                        refine pn_ret (vs := [_]) rfl ⟨rfl, trivial⟩ ⟨rfl, rfl, rfl⟩ (fun _ h => h.to trivial trivial)
def Q_treatyref20_Applies (r : Bool) : Value → List Ent → List Fact → Prop := fun v θ κ => v = .bool r ∧ θ = [] ∧ κ = []
theorem plains_treatyref20_Applies {r : Bool} : ∀ v θ κ, Q_treatyref20_Applies r v θ κ → Plains θ := by
  rintro _ _ _ ⟨rfl, rfl, rfl⟩
  exact trivial
set_option maxHeartbeats 4000000 in
set_option maxRecDepth 100000 in
theorem W_treatyref20_Applies (a0 : GTreaty) (a1 : GLoss) (A0 : Option Addr) (n0 : Nat) (c0 : Nat) (A3 : Option Addr) (n3 : Nat) (c3 : Nat) (A6 : Option Addr) (n6 : Nat) (c6 : Nat) (A9 : Option Addr) (n9 : Nat) (c9 : Nat) (A12 : Option Addr) (n12 : Nat) (c12 : Nat) (r : Bool) (h : treatyref20_Applies a0 a1 = some r) : Spec Try.prog 44 [.agg #[.int .i64 a0.ID, .int .i64 a0.Kind, .int .i64 a0.Period.From, .int .i64 a0.Period.To, .slice A0 n0 c0, .slice A3 n3 c3, .int .i64 a0.Risk, .int .i64 a0.Cession, .int .i64 a0.Line, .int .i64 a0.Lines, .int .i64 a0.Retention, .int .i64 a0.Limit, .int .i64 a0.Window, .int .i64 a0.Deductible, .int .i64 a0.Aggregate, .int .i64 a0.Premium, .slice A6 n6 c6, .bool a0.Timed, .int .i64 a0.Base, .slice A9 n9 c9, .slice A12 n12 c12], .agg #[.int .i64 a1.ID, .int .i64 a1.Policy, .int .i64 a1.Risk, .int .i64 a1.Hour, .int .i64 a1.Peril, .int .i64 a1.Area, .int .i64 a1.Currency, .int .i64 a1.Sum, .int .i64 a1.Amount, .int .i64 a1.Paid]] [] [fV (lSlice (lInt .i64)) (.slice A0 n0 c0) a0.Perils, fV (lSlice (lInt .i64)) (.slice A3 n3 c3) a0.Areas, fV (lSlice (lInt .i64)) (.slice A6 n6 c6) a0.Reinstatements, fV (lSlice (lInt .i64)) (.slice A9 n9 c9) a0.Inures, fV (lSlice lGPart) (.slice A12 n12 c12) a0.Parts] (Q_treatyref20_Applies r) := by
  unfold treatyref20_Applies at h
  refine spec_of (σ := [(0, _), (1, _)]) Try.func44 rfl rfl rfl rfl ?_
  intro C
  refine wc_know (fun _ h => h.lenF m0) (fun e => ?_)
  subst e
  refine wc_know (fun _ h => h.lenF (ms m0)) (fun e => ?_)
  subst e
  refine wc_know (fun _ h => h.lenF (ms (ms m0))) (fun e => ?_)
  subst e
  refine wc_know (fun _ h => h.lenF (ms (ms (ms m0)))) (fun e => ?_)
  subst e
  refine wc_know (fun _ h => h.lenF (ms (ms (ms (ms m0))))) (fun e => ?_)
  subst e
  refine wc_seq ?_
  refine wc_region ?_   -- region 0
  refine wl_act (act_box (cs := [_, _, _, _, _, _, _, _, _, _, _, _, _, _, _, _, _, _, _, _, _]) rfl rfl) rfl rfl rfl ?_
  rintro _ _ _ ⟨b0_0, rfl, rfl, rfl⟩
  refine wl_act (act_box (cs := [_, _, _, _, _, _, _, _, _, _]) rfl rfl) rfl rfl rfl ?_
  rintro _ _ _ ⟨b0_1, rfl, rfl, rfl⟩
  refine wl_det rfl rfl (det_assign rfl) rfl ?_
  refine wl_nil ?_
  refine pn_then ?_
  refine wc_seq ?_
  refine wc_region ?_   -- region 1
  refine wl_det rfl rfl (det_loadN (cells := [_, _, _, _, _, _, _, _, _, _, _, _, _, _, _, _, _, _, _, _, _]) rfl (ms m0) (by rfl) ag49 sz49) rfl ?_
  obtain ⟨r1_1, hr1_1, h⟩ := bind_some h
  refine wl_act (act_callS (cap := []) (W_treatyref20_Validate a0 A0 a0.Perils.length c0 A3 a0.Areas.length c3 A6 a0.Reinstatements.length c6 A9 a0.Inures.length c9 A12 a0.Parts.length c12 r1_1 hr1_1) rfl rfl rfl bd59 rfl ⟨m0, ⟨(ms m0), ⟨(ms (ms m0)), ⟨(ms (ms (ms m0))), ⟨(ms (ms (ms (ms m0)))), trivial⟩⟩⟩⟩⟩) rfl rfl rfl ?_
  rintro _ _ _ ⟨_, _, ⟨rfl, rfl, rfl⟩, rfl, rfl⟩
  dsimp only [List.nil_append, List.cons_append]
  refine wl_det rfl rfl (det_eql rfl rfl) rfl ?_
  refine wl_det rfl rfl (det_move rfl) rfl ?_
  refine wl_way (decide (r1_1 = 0)) ((decide (r1_1 = 0)) && (decide (a0.Period.From ≤ a1.Hour))) 7 15 (fun hg => ?_) (fun hg => ?_) ?_
  · have hg1_10 := hg
    refine wl_on rfl rfl rfl rfl hg1_10 ?_
    refine wl_det rfl rfl (det_field rfl fd65_3 rfl) rfl ?_
    refine wl_on rfl rfl rfl rfl hg1_10 ?_
    refine wl_det rfl rfl (det_load rfl m0 (by rfl) na3 us3) rfl ?_
    refine wl_on rfl rfl rfl rfl hg1_10 ?_
    refine wl_det rfl rfl (det_field rfl fd49_2 rfl) rfl ?_
    refine wl_on rfl rfl rfl rfl hg1_10 ?_
    refine wl_det rfl rfl (det_field rfl fd47_0 rfl) rfl ?_
    refine wl_on rfl rfl rfl rfl hg1_10 ?_
    refine wl_det rfl rfl (det_load rfl (ms m0) (by rfl) na3 us3) rfl ?_
    refine wl_on rfl rfl rfl rfl hg1_10 ?_
    refine wl_det rfl rfl (det_geq rfl rfl) rfl ?_
    refine wl_det rfl rfl (det_and_on rfl rfl rfl hg1_10) rfl ?_
    exact wl_nil (pn_qnE (ext_cons rfl (ext_skip rfl (ext_skip rfl (ext_skip rfl (ext_skip rfl (ext_skip rfl (ext_skip rfl (ext_skip rfl ext_refl)))))))) (fun _ h => h))
  · have hg1_10a := hg
    refine wl_off rfl rfl rfl rfl rfl hg1_10a rfl ?_
    refine wl_off rfl rfl rfl rfl rfl hg1_10a rfl ?_
    refine wl_off rfl rfl rfl rfl rfl hg1_10a rfl ?_
    refine wl_off rfl rfl rfl rfl rfl hg1_10a rfl ?_
    refine wl_off rfl rfl rfl rfl rfl hg1_10a rfl ?_
    refine wl_off rfl rfl rfl rfl rfl hg1_10a rfl ?_
    refine wl_det rfl rfl (det_and_off (q := (decide (a0.Period.From ≤ a1.Hour))) rfl rfl rfl hg1_10a) rfl ?_
    exact wl_nil (pn_qnE (ext_cons rfl (ext_skip rfl (ext_skip rfl (ext_skip rfl (ext_skip rfl (ext_skip rfl (ext_skip rfl (ext_skip rfl ext_refl)))))))) (fun _ h => h))
  refine wl_det rfl rfl (det_move rfl) rfl ?_
  refine wl_way ((decide (r1_1 = 0)) && (decide (a0.Period.From ≤ a1.Hour))) (((decide (r1_1 = 0)) && (decide (a0.Period.From ≤ a1.Hour))) && (decide (a1.Hour < a0.Period.To))) 7 23 (fun hg => ?_) (fun hg => ?_) ?_
  · have hg1_18 := hg
    refine wl_on rfl rfl rfl rfl hg1_18 ?_
    refine wl_det rfl rfl (det_field rfl fd65_3 rfl) rfl ?_
    refine wl_on rfl rfl rfl rfl hg1_18 ?_
    refine wl_det rfl rfl (det_load rfl m0 (by rfl) na3 us3) rfl ?_
    refine wl_on rfl rfl rfl rfl hg1_18 ?_
    refine wl_det rfl rfl (det_field rfl fd49_2 rfl) rfl ?_
    refine wl_on rfl rfl rfl rfl hg1_18 ?_
    refine wl_det rfl rfl (det_field rfl fd47_1 rfl) rfl ?_
    refine wl_on rfl rfl rfl rfl hg1_18 ?_
    refine wl_det rfl rfl (det_load rfl (ms m0) (by rfl) na3 us3) rfl ?_
    refine wl_on rfl rfl rfl rfl hg1_18 ?_
    refine wl_det rfl rfl (det_lss rfl rfl) rfl ?_
    refine wl_det rfl rfl (det_and_on rfl rfl rfl hg1_18) rfl ?_
    exact wl_nil (pn_qnE (ext_cons rfl (ext_skip rfl (ext_skip rfl (ext_skip rfl (ext_skip rfl (ext_skip rfl (ext_skip rfl (ext_skip rfl ext_refl)))))))) (fun _ h => h))
  · have hg1_18a := hg
    refine wl_off rfl rfl rfl rfl rfl hg1_18a rfl ?_
    refine wl_off rfl rfl rfl rfl rfl hg1_18a rfl ?_
    refine wl_off rfl rfl rfl rfl rfl hg1_18a rfl ?_
    refine wl_off rfl rfl rfl rfl rfl hg1_18a rfl ?_
    refine wl_off rfl rfl rfl rfl rfl hg1_18a rfl ?_
    refine wl_off rfl rfl rfl rfl rfl hg1_18a rfl ?_
    refine wl_det rfl rfl (det_and_off (q := (decide (a1.Hour < a0.Period.To))) rfl rfl rfl hg1_18a) rfl ?_
    exact wl_nil (pn_qnE (ext_cons rfl (ext_skip rfl (ext_skip rfl (ext_skip rfl (ext_skip rfl (ext_skip rfl (ext_skip rfl (ext_skip rfl ext_refl)))))))) (fun _ h => h))
  refine wl_det rfl rfl (det_move rfl) rfl ?_
  obtain ⟨q1_31, hq1_31, h⟩ := bind_some h
  have ho1_31 := h
  refine wl_way (((decide (r1_1 = 0)) && (decide (a0.Period.From ≤ a1.Hour))) && (decide (a1.Hour < a0.Period.To))) q1_31 12 36 (fun hg => ?_) (fun hg => ?_) ?_
  · have hg1_31 := hg
    have h := ifT hq1_31 hg
    refine wl_on rfl rfl rfl rfl hg1_31 ?_
    refine wl_det rfl rfl (det_field rfl fd49_3 rfl) rfl ?_
    refine wl_on rfl rfl rfl rfl hg1_31 ?_
    refine wl_det rfl rfl (det_load rfl (ms m0) (by rfl) na23 us23) rfl ?_
    refine wl_on rfl rfl rfl rfl hg1_31 ?_
    refine wl_det rfl rfl (det_len rfl un23) rfl ?_
    refine wl_on rfl rfl rfl rfl hg1_31 ?_
    refine wl_det rfl rfl (det_eql rfl rfl) rfl ?_
    refine wl_on rfl rfl rfl rfl hg1_31 ?_
    refine wl_det rfl rfl (det_move rfl) rfl ?_
    obtain ⟨q1_30, hq1_30, h⟩ := bind_some h
    have ho1_30 := h
    refine wl_way (decide ((a0.Perils.length : Int) = 0)) q1_30 6 35 (fun hg => ?_) (fun hg => ?_) ?_
    · have hg1_30 := hg
      have h := ifT hq1_30 hg
      refine wl_off rfl rfl rfl rfl rfl hg1_30 rfl ?_
      refine wl_off rfl rfl rfl rfl rfl hg1_30 rfl ?_
      refine wl_off rfl rfl rfl rfl rfl hg1_30 rfl ?_
      refine wl_off rfl rfl rfl rfl rfl hg1_30 rfl ?_
      refine wl_off rfl rfl rfl rfl rfl hg1_30 rfl ?_
      refine wl_on rfl rfl rfl rfl hg1_31 ?_
      replace h := Option.some.inj h
      subst h
      refine wl_det rfl rfl (det_pick_on rfl hg1_30 rfl rfl) rfl ?_
      exact wl_nil (pn_qnE (ext_cons rfl (ext_skip rfl (ext_skip rfl (ext_skip rfl (ext_skip rfl (ext_skip rfl (ext_skip rfl ext_refl))))))) (fun _ h => h))
    · have hg1_30a := hg
      have h := ifF hq1_30 hg
      refine wl_on rfl rfl rfl rfl hg1_30a ?_
      refine wl_det rfl rfl (det_field rfl fd49_3 rfl) rfl ?_
      refine wl_on rfl rfl rfl rfl hg1_30a ?_
      refine wl_det rfl rfl (det_load rfl (ms m0) (by rfl) na23 us23) rfl ?_
      refine wl_on rfl rfl rfl rfl hg1_30a ?_
      refine wl_det rfl rfl (det_field rfl fd65_4 rfl) rfl ?_
      refine wl_on rfl rfl rfl rfl hg1_30a ?_
      refine wl_det rfl rfl (det_load rfl m0 (by rfl) na3 us3) rfl ?_
      refine wl_on rfl rfl rfl rfl hg1_30a ?_
      obtain ⟨r1_29, hr1_29, h⟩ := bind_some h
      refine wl_act (act_callS (cap := []) (W_treatyref20_holds a0.Perils a1.Peril A0 a0.Perils.length c0 r1_29 hr1_29) rfl rfl rfl bd65 rfl ⟨m0, trivial⟩) rfl rfl rfl ?_
      rintro _ _ _ ⟨_, _, ⟨rfl, rfl, rfl⟩, rfl, rfl⟩
      dsimp only [List.nil_append, List.cons_append]
      refine wl_on rfl rfl rfl rfl hg1_31 ?_
      replace h := Option.some.inj h
      subst h
      refine wl_det rfl rfl (det_pick_off rfl hg1_30a rfl rfl) rfl ?_
      exact wl_nil (pn_qnE (ext_cons rfl (ext_skip rfl (ext_skip rfl (ext_skip rfl (ext_skip rfl (ext_skip rfl (ext_skip rfl ext_refl))))))) (fun _ h => h))
    have h := ho1_30
    replace h := Option.some.inj h
    subst h
    refine wl_det rfl rfl (det_pick_on rfl hg1_31 rfl rfl) rfl ?_
    exact wl_nil (pn_qnE (ext_cons rfl (ext_skip rfl (ext_skip rfl (ext_skip rfl (ext_skip rfl (ext_skip rfl (ext_skip rfl (ext_skip rfl ext_refl)))))))) (fun _ h => h))
  · have hg1_31a := hg
    have h := ifF hq1_31 hg
    refine wl_off rfl rfl rfl rfl rfl hg1_31a rfl ?_
    refine wl_off rfl rfl rfl rfl rfl hg1_31a rfl ?_
    refine wl_off rfl rfl rfl rfl rfl hg1_31a rfl ?_
    refine wl_off rfl rfl rfl rfl rfl hg1_31a rfl ?_
    refine wl_off rfl rfl rfl rfl rfl hg1_31a rfl ?_
    refine wl_none rfl rfl rfl rfl rfl rfl ?_
    refine wl_none rfl rfl rfl rfl rfl rfl ?_
    refine wl_none rfl rfl rfl rfl rfl rfl ?_
    refine wl_none rfl rfl rfl rfl rfl rfl ?_
    refine wl_none rfl rfl rfl rfl rfl rfl ?_
    refine wl_off rfl rfl rfl rfl rfl hg1_31a rfl ?_
    replace h := Option.some.inj h
    subst h
    refine wl_det rfl rfl (det_pick_off rfl hg1_31a rfl rfl) rfl ?_
    exact wl_nil (pn_qnE (ext_cons rfl (ext_skip rfl (ext_skip rfl (ext_skip rfl (ext_skip rfl (ext_skip rfl (ext_skip rfl (ext_skip rfl (ext_skip rfl (ext_skip rfl (ext_skip rfl (ext_skip rfl (ext_skip rfl ext_refl))))))))))))) (fun _ h => h))
  have h := ho1_31
  refine wl_det rfl rfl (det_move rfl) rfl ?_
  obtain ⟨q1_44, hq1_44, h⟩ := bind_some h
  have ho1_44 := h
  refine wl_way q1_31 q1_44 12 49 (fun hg => ?_) (fun hg => ?_) ?_
  · have hg1_44 := hg
    have h := ifT hq1_44 hg
    refine wl_on rfl rfl rfl rfl hg1_44 ?_
    refine wl_det rfl rfl (det_field rfl fd49_4 rfl) rfl ?_
    refine wl_on rfl rfl rfl rfl hg1_44 ?_
    refine wl_det rfl rfl (det_load rfl (ms m0) (by rfl) na23 us23) rfl ?_
    refine wl_on rfl rfl rfl rfl hg1_44 ?_
    refine wl_det rfl rfl (det_len rfl un23) rfl ?_
    refine wl_on rfl rfl rfl rfl hg1_44 ?_
    refine wl_det rfl rfl (det_eql rfl rfl) rfl ?_
    refine wl_on rfl rfl rfl rfl hg1_44 ?_
    refine wl_det rfl rfl (det_move rfl) rfl ?_
    obtain ⟨q1_43, hq1_43, h⟩ := bind_some h
    have ho1_43 := h
    refine wl_way (decide ((a0.Areas.length : Int) = 0)) q1_43 6 48 (fun hg => ?_) (fun hg => ?_) ?_
    · have hg1_43 := hg
      have h := ifT hq1_43 hg
      refine wl_off rfl rfl rfl rfl rfl hg1_43 rfl ?_
      refine wl_off rfl rfl rfl rfl rfl hg1_43 rfl ?_
      refine wl_off rfl rfl rfl rfl rfl hg1_43 rfl ?_
      refine wl_off rfl rfl rfl rfl rfl hg1_43 rfl ?_
      refine wl_off rfl rfl rfl rfl rfl hg1_43 rfl ?_
      refine wl_on rfl rfl rfl rfl hg1_44 ?_
      replace h := Option.some.inj h
      subst h
      refine wl_det rfl rfl (det_pick_on rfl hg1_43 rfl rfl) rfl ?_
      exact wl_nil (pn_qnE (ext_cons rfl (ext_skip rfl (ext_skip rfl (ext_skip rfl (ext_skip rfl (ext_skip rfl (ext_skip rfl ext_refl))))))) (fun _ h => h))
    · have hg1_43a := hg
      have h := ifF hq1_43 hg
      refine wl_on rfl rfl rfl rfl hg1_43a ?_
      refine wl_det rfl rfl (det_field rfl fd49_4 rfl) rfl ?_
      refine wl_on rfl rfl rfl rfl hg1_43a ?_
      refine wl_det rfl rfl (det_load rfl (ms m0) (by rfl) na23 us23) rfl ?_
      refine wl_on rfl rfl rfl rfl hg1_43a ?_
      refine wl_det rfl rfl (det_field rfl fd65_5 rfl) rfl ?_
      refine wl_on rfl rfl rfl rfl hg1_43a ?_
      refine wl_det rfl rfl (det_load rfl m0 (by rfl) na3 us3) rfl ?_
      refine wl_on rfl rfl rfl rfl hg1_43a ?_
      obtain ⟨r1_42, hr1_42, h⟩ := bind_some h
      refine wl_act (act_callS (cap := []) (W_treatyref20_holds a0.Areas a1.Area A3 a0.Areas.length c3 r1_42 hr1_42) rfl rfl rfl bd65 rfl ⟨(ms m0), trivial⟩) rfl rfl rfl ?_
      rintro _ _ _ ⟨_, _, ⟨rfl, rfl, rfl⟩, rfl, rfl⟩
      dsimp only [List.nil_append, List.cons_append]
      refine wl_on rfl rfl rfl rfl hg1_44 ?_
      replace h := Option.some.inj h
      subst h
      refine wl_det rfl rfl (det_pick_off rfl hg1_43a rfl rfl) rfl ?_
      exact wl_nil (pn_qnE (ext_cons rfl (ext_skip rfl (ext_skip rfl (ext_skip rfl (ext_skip rfl (ext_skip rfl (ext_skip rfl ext_refl))))))) (fun _ h => h))
    have h := ho1_43
    replace h := Option.some.inj h
    subst h
    refine wl_det rfl rfl (det_pick_on rfl hg1_44 rfl rfl) rfl ?_
    exact wl_nil (pn_qnE (ext_cons rfl (ext_skip rfl (ext_skip rfl (ext_skip rfl (ext_skip rfl (ext_skip rfl (ext_skip rfl (ext_skip rfl ext_refl)))))))) (fun _ h => h))
  · have hg1_44a := hg
    have h := ifF hq1_44 hg
    refine wl_off rfl rfl rfl rfl rfl hg1_44a rfl ?_
    refine wl_off rfl rfl rfl rfl rfl hg1_44a rfl ?_
    refine wl_off rfl rfl rfl rfl rfl hg1_44a rfl ?_
    refine wl_off rfl rfl rfl rfl rfl hg1_44a rfl ?_
    refine wl_off rfl rfl rfl rfl rfl hg1_44a rfl ?_
    refine wl_none rfl rfl rfl rfl rfl rfl ?_
    refine wl_none rfl rfl rfl rfl rfl rfl ?_
    refine wl_none rfl rfl rfl rfl rfl rfl ?_
    refine wl_none rfl rfl rfl rfl rfl rfl ?_
    refine wl_none rfl rfl rfl rfl rfl rfl ?_
    refine wl_off rfl rfl rfl rfl rfl hg1_44a rfl ?_
    replace h := Option.some.inj h
    subst h
    refine wl_det rfl rfl (det_pick_off rfl hg1_44a rfl rfl) rfl ?_
    exact wl_nil (pn_qnE (ext_cons rfl (ext_skip rfl (ext_skip rfl (ext_skip rfl (ext_skip rfl (ext_skip rfl (ext_skip rfl (ext_skip rfl (ext_skip rfl (ext_skip rfl (ext_skip rfl (ext_skip rfl (ext_skip rfl ext_refl))))))))))))) (fun _ h => h))
  have h := ho1_44
  refine wl_det rfl rfl (det_move rfl) rfl ?_
  refine wl_way q1_44 (q1_44 && ((!decide (a0.Kind = 3)) || (decide (a0.Risk = a1.Risk)))) 11 61 (fun hg => ?_) (fun hg => ?_) ?_
  · have hg1_56 := hg
    refine wl_on rfl rfl rfl rfl hg1_56 ?_
    refine wl_det rfl rfl (det_field rfl fd49_1 rfl) rfl ?_
    refine wl_on rfl rfl rfl rfl hg1_56 ?_
    refine wl_det rfl rfl (det_load rfl (ms m0) (by rfl) na3 us3) rfl ?_
    refine wl_on rfl rfl rfl rfl hg1_56 ?_
    refine wl_det rfl rfl (det_neq rfl rfl) rfl ?_
    refine wl_on rfl rfl rfl rfl hg1_56 ?_
    refine wl_det rfl rfl (det_move rfl) rfl ?_
    refine wl_way (!decide (a0.Kind = 3)) ((!decide (a0.Kind = 3)) || (decide (a0.Risk = a1.Risk))) 6 60 (fun hg => ?_) (fun hg => ?_) ?_
    · have hg1_55 := hg
      refine wl_off rfl rfl rfl rfl rfl hg1_55 rfl ?_
      refine wl_off rfl rfl rfl rfl rfl hg1_55 rfl ?_
      refine wl_off rfl rfl rfl rfl rfl hg1_55 rfl ?_
      refine wl_off rfl rfl rfl rfl rfl hg1_55 rfl ?_
      refine wl_off rfl rfl rfl rfl rfl hg1_55 rfl ?_
      refine wl_on rfl rfl rfl rfl hg1_56 ?_
      refine wl_det rfl rfl (det_or_on (r := (decide (a0.Risk = a1.Risk))) rfl rfl rfl hg1_55) rfl ?_
      exact wl_nil (pn_qnE (ext_cons rfl (ext_skip rfl (ext_skip rfl (ext_skip rfl (ext_skip rfl (ext_skip rfl (ext_skip rfl ext_refl))))))) (fun _ h => h))
    · have hg1_55a := hg
      refine wl_on rfl rfl rfl rfl hg1_55a ?_
      refine wl_det rfl rfl (det_field rfl fd49_5 rfl) rfl ?_
      refine wl_on rfl rfl rfl rfl hg1_55a ?_
      refine wl_det rfl rfl (det_load rfl (ms m0) (by rfl) na3 us3) rfl ?_
      refine wl_on rfl rfl rfl rfl hg1_55a ?_
      refine wl_det rfl rfl (det_field rfl fd65_2 rfl) rfl ?_
      refine wl_on rfl rfl rfl rfl hg1_55a ?_
      refine wl_det rfl rfl (det_load rfl m0 (by rfl) na3 us3) rfl ?_
      refine wl_on rfl rfl rfl rfl hg1_55a ?_
      refine wl_det rfl rfl (det_eql rfl rfl) rfl ?_
      refine wl_on rfl rfl rfl rfl hg1_56 ?_
      refine wl_det rfl rfl (det_or_off rfl rfl rfl hg1_55a) rfl ?_
      exact wl_nil (pn_qnE (ext_cons rfl (ext_skip rfl (ext_skip rfl (ext_skip rfl (ext_skip rfl (ext_skip rfl (ext_skip rfl ext_refl))))))) (fun _ h => h))
    refine wl_det rfl rfl (det_and_on rfl rfl rfl hg1_56) rfl ?_
    exact wl_nil (pn_qnE (ext_cons rfl (ext_skip rfl (ext_skip rfl (ext_skip rfl (ext_skip rfl (ext_skip rfl (ext_skip rfl ext_refl))))))) (fun _ h => h))
  · have hg1_56a := hg
    refine wl_off rfl rfl rfl rfl rfl hg1_56a rfl ?_
    refine wl_off rfl rfl rfl rfl rfl hg1_56a rfl ?_
    refine wl_off rfl rfl rfl rfl rfl hg1_56a rfl ?_
    refine wl_off rfl rfl rfl rfl rfl hg1_56a rfl ?_
    refine wl_none rfl rfl rfl rfl rfl rfl ?_
    refine wl_none rfl rfl rfl rfl rfl rfl ?_
    refine wl_none rfl rfl rfl rfl rfl rfl ?_
    refine wl_none rfl rfl rfl rfl rfl rfl ?_
    refine wl_none rfl rfl rfl rfl rfl rfl ?_
    refine wl_off rfl rfl rfl rfl rfl hg1_56a rfl ?_
    refine wl_det rfl rfl (det_and_off (q := ((!decide (a0.Kind = 3)) || (decide (a0.Risk = a1.Risk)))) rfl rfl rfl hg1_56a) rfl ?_
    exact wl_nil (pn_qnE (ext_cons rfl (ext_skip rfl (ext_skip rfl (ext_skip rfl (ext_skip rfl (ext_skip rfl (ext_skip rfl (ext_skip rfl (ext_skip rfl (ext_skip rfl (ext_skip rfl (ext_skip rfl ext_refl)))))))))))) (fun _ h => h))
  refine wl_det rfl rfl (det_assign rfl) rfl ?_
  refine wl_nil ?_
  refine pn_then ?_
  refine wc_ret ?_
  replace h := Option.some.inj h
  subst h
  refine pn_ret (vs := [_]) rfl ⟨rfl, trivial⟩ ⟨rfl, rfl, rfl⟩ (fun _ h => h.to trivial trivial)
end Go.Proofs.Ytlmhmpngjfjfhaa
