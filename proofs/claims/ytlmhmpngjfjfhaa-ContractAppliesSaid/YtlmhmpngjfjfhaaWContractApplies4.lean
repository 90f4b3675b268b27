/- That functions of the program compute the plain programs of P. Written by a small program. -/
import Derived.Test.YtlmhmpngjfjfhaaWContractApplies3
namespace Go.Proofs.Ytlmhmpngjfjfhaa
open Go.RowKit
def Q_treatylaw20_ContractApplies (r : Bool) : Value → List Ent → List Fact → Prop := fun v θ κ => v = .bool r ∧ θ = [] ∧ κ = []
theorem plains_treatylaw20_ContractApplies {r : Bool} : ∀ v θ κ, Q_treatylaw20_ContractApplies r v θ κ → Plains θ := by
  rintro _ _ _ ⟨rfl, rfl, rfl⟩
  exact trivial
set_option maxHeartbeats 4000000 in
set_option maxRecDepth 100000 in
theorem W_treatylaw20_ContractApplies (a0 : GTreaty) (a1 : GLoss) (a2 : (List Int)) (a3 : (List Int)) (a4 : Int) (A0 : Option Addr) (n0 : Nat) (c0 : Nat) (A3 : Option Addr) (n3 : Nat) (c3 : Nat) (A6 : Option Addr) (n6 : Nat) (c6 : Nat) (A9 : Option Addr) (n9 : Nat) (c9 : Nat) (A12 : Option Addr) (n12 : Nat) (c12 : Nat) (A15 : Option Addr) (n15 : Nat) (c15 : Nat) (A18 : Option Addr) (n18 : Nat) (c18 : Nat) (r : Bool) (h : treatylaw20_ContractApplies a0 a1 a2 a3 a4 = some r) : Spec Try.prog 14 [.agg #[.int .i64 a0.ID, .int .i64 a0.Kind, .int .i64 a0.Period.From, .int .i64 a0.Period.To, .slice A0 n0 c0, .slice A3 n3 c3, .int .i64 a0.Risk, .int .i64 a0.Cession, .int .i64 a0.Line, .int .i64 a0.Lines, .int .i64 a0.Retention, .int .i64 a0.Limit, .int .i64 a0.Window, .int .i64 a0.Deductible, .int .i64 a0.Aggregate, .int .i64 a0.Premium, .slice A6 n6 c6, .bool a0.Timed, .int .i64 a0.Base, .slice A9 n9 c9, .slice A12 n12 c12], .agg #[.int .i64 a1.ID, .int .i64 a1.Policy, .int .i64 a1.Risk, .int .i64 a1.Hour, .int .i64 a1.Peril, .int .i64 a1.Area, .int .i64 a1.Currency, .int .i64 a1.Sum, .int .i64 a1.Amount, .int .i64 a1.Paid], .slice A15 n15 c15, .slice A18 n18 c18, .int .i64 a4] [] [fV (lSlice (lInt .i64)) (.slice A0 n0 c0) a0.Perils, fV (lSlice (lInt .i64)) (.slice A3 n3 c3) a0.Areas, fV (lSlice (lInt .i64)) (.slice A6 n6 c6) a0.Reinstatements, fV (lSlice (lInt .i64)) (.slice A9 n9 c9) a0.Inures, fV (lSlice lGPart) (.slice A12 n12 c12) a0.Parts, fV (lSlice (lInt .i64)) (.slice A15 n15 c15) a2, fV (lSlice (lInt .i64)) (.slice A18 n18 c18) a3] (Q_treatylaw20_ContractApplies r) := by
  unfold treatylaw20_ContractApplies at h
  refine spec_of (σ := [(0, _), (1, _), (2, _), (3, _), (4, _)]) Try.func14 rfl rfl rfl rfl ?_
  intro C
  refine wc_know (fun _ h => h.lenF m0) (fun e => ?_)
  subst e
  refine wc_know (fun _ h => h.lenF (ms m0)) (fun e => ?_)
  subst e
  refine wc_know (fun _ h => h.lenF (ms (ms m0))) (fun e => ?_)
  subst e
  refine wc_know (fun _ h => h.lenF (ms (ms (ms m0)))) (fun e => ?_)
  subst e
  refine wc_know (fun _ h => h.lenF (ms (ms (ms (ms m0))))) (fun e => ?_)
  subst e
  refine wc_know (fun _ h => h.lenF (ms (ms (ms (ms (ms m0)))))) (fun e => ?_)
  subst e
  refine wc_know (fun _ h => h.lenF (ms (ms (ms (ms (ms (ms m0))))))) (fun e => ?_)
  subst e
  refine wc_seq ?_
  refine wc_region ?_   -- region 0
  refine wl_act (act_box (cs := [_, _, _, _, _, _, _, _, _, _, _, _, _, _, _, _, _, _, _, _, _]) rfl rfl) rfl rfl rfl ?_
  rintro _ _ _ ⟨b0_0, rfl, rfl, rfl⟩
  refine wl_act (act_box (cs := [_, _, _, _, _, _, _, _, _, _]) rfl rfl) rfl rfl rfl ?_
  rintro _ _ _ ⟨b0_1, rfl, rfl, rfl⟩
  refine wl_det rfl rfl (det_assign rfl) rfl ?_
  refine wl_nil ?_
  refine pn_then ?_
  refine wc_seq ?_
  refine wc_seq ?_
  refine wc_region ?_   -- region 1
  refine wl_det rfl rfl (det_field rfl fd49_3 rfl) rfl ?_
  refine wl_det rfl rfl (det_load rfl (ms m0) (by rfl) na23 us23) rfl ?_
  refine wl_det rfl rfl (det_len rfl un23) rfl ?_
  refine wl_det rfl rfl (det_gtr rfl rfl) rfl ?_
  refine wl_det rfl rfl (det_move rfl) rfl ?_
  refine wl_way (decide (60 < (a0.Perils.length : Int))) ((decide (60 < (a0.Perils.length : Int))) || (decide (60 < (a0.Areas.length : Int)))) 5 24 (fun hg => ?_) (fun hg => ?_) ?_
  · have hg1_9 := hg
    refine wl_off rfl rfl rfl rfl rfl hg1_9 rfl ?_
    refine wl_off rfl rfl rfl rfl rfl hg1_9 rfl ?_
    refine wl_off rfl rfl rfl rfl rfl hg1_9 rfl ?_
    refine wl_off rfl rfl rfl rfl rfl hg1_9 rfl ?_
    refine wl_det rfl rfl (det_or_on (r := (decide (60 < (a0.Areas.length : Int)))) rfl rfl rfl hg1_9) rfl ?_
    exact wl_nil (pn_qnE (ext_cons rfl (ext_skip rfl (ext_skip rfl (ext_skip rfl (ext_skip rfl (ext_skip rfl ext_refl)))))) (fun _ h => h))
  · have hg1_9a := hg
    refine wl_on rfl rfl rfl rfl hg1_9a ?_
    refine wl_det rfl rfl (det_field rfl fd49_4 rfl) rfl ?_
    refine wl_on rfl rfl rfl rfl hg1_9a ?_
    refine wl_det rfl rfl (det_load rfl (ms m0) (by rfl) na23 us23) rfl ?_
    refine wl_on rfl rfl rfl rfl hg1_9a ?_
    refine wl_det rfl rfl (det_len rfl un23) rfl ?_
    refine wl_on rfl rfl rfl rfl hg1_9a ?_
    refine wl_det rfl rfl (det_gtr rfl rfl) rfl ?_
    refine wl_det rfl rfl (det_or_off rfl rfl rfl hg1_9a) rfl ?_
    exact wl_nil (pn_qnE (ext_cons rfl (ext_skip rfl (ext_skip rfl (ext_skip rfl (ext_skip rfl (ext_skip rfl ext_refl)))))) (fun _ h => h))
  refine wl_det rfl rfl (det_move rfl) rfl ?_
  refine wl_way ((decide (60 < (a0.Perils.length : Int))) || (decide (60 < (a0.Areas.length : Int)))) (((decide (60 < (a0.Perils.length : Int))) || (decide (60 < (a0.Areas.length : Int)))) || (decide (60 < (a0.Reinstatements.length : Int)))) 5 30 (fun hg => ?_) (fun hg => ?_) ?_
  · have hg1_15 := hg
    refine wl_off rfl rfl rfl rfl rfl hg1_15 rfl ?_
    refine wl_off rfl rfl rfl rfl rfl hg1_15 rfl ?_
    refine wl_off rfl rfl rfl rfl rfl hg1_15 rfl ?_
    refine wl_off rfl rfl rfl rfl rfl hg1_15 rfl ?_
    refine wl_det rfl rfl (det_or_on (r := (decide (60 < (a0.Reinstatements.length : Int)))) rfl rfl rfl hg1_15) rfl ?_
    exact wl_nil (pn_qnE (ext_cons rfl (ext_skip rfl (ext_skip rfl (ext_skip rfl (ext_skip rfl (ext_skip rfl ext_refl)))))) (fun _ h => h))
  · have hg1_15a := hg
    refine wl_on rfl rfl rfl rfl hg1_15a ?_
    refine wl_det rfl rfl (det_field rfl fd49_15 rfl) rfl ?_
    refine wl_on rfl rfl rfl rfl hg1_15a ?_
    refine wl_det rfl rfl (det_load rfl (ms m0) (by rfl) na23 us23) rfl ?_
    refine wl_on rfl rfl rfl rfl hg1_15a ?_
    refine wl_det rfl rfl (det_len rfl un23) rfl ?_
    refine wl_on rfl rfl rfl rfl hg1_15a ?_
    refine wl_det rfl rfl (det_gtr rfl rfl) rfl ?_
    refine wl_det rfl rfl (det_or_off rfl rfl rfl hg1_15a) rfl ?_
    exact wl_nil (pn_qnE (ext_cons rfl (ext_skip rfl (ext_skip rfl (ext_skip rfl (ext_skip rfl (ext_skip rfl ext_refl)))))) (fun _ h => h))
  refine wl_det rfl rfl (det_move rfl) rfl ?_
  refine wl_way (((decide (60 < (a0.Perils.length : Int))) || (decide (60 < (a0.Areas.length : Int)))) || (decide (60 < (a0.Reinstatements.length : Int)))) ((((decide (60 < (a0.Perils.length : Int))) || (decide (60 < (a0.Areas.length : Int)))) || (decide (60 < (a0.Reinstatements.length : Int)))) || (decide (60 < (a0.Inures.length : Int)))) 5 36 (fun hg => ?_) (fun hg => ?_) ?_
  · have hg1_21 := hg
    refine wl_off rfl rfl rfl rfl rfl hg1_21 rfl ?_
    refine wl_off rfl rfl rfl rfl rfl hg1_21 rfl ?_
    refine wl_off rfl rfl rfl rfl rfl hg1_21 rfl ?_
    refine wl_off rfl rfl rfl rfl rfl hg1_21 rfl ?_
    refine wl_det rfl rfl (det_or_on (r := (decide (60 < (a0.Inures.length : Int)))) rfl rfl rfl hg1_21) rfl ?_
    exact wl_nil (pn_qnE (ext_cons rfl (ext_skip rfl (ext_skip rfl (ext_skip rfl (ext_skip rfl (ext_skip rfl ext_refl)))))) (fun _ h => h))
  · have hg1_21a := hg
    refine wl_on rfl rfl rfl rfl hg1_21a ?_
    refine wl_det rfl rfl (det_field rfl fd49_18 rfl) rfl ?_
    refine wl_on rfl rfl rfl rfl hg1_21a ?_
    refine wl_det rfl rfl (det_load rfl (ms m0) (by rfl) na23 us23) rfl ?_
    refine wl_on rfl rfl rfl rfl hg1_21a ?_
    refine wl_det rfl rfl (det_len rfl un23) rfl ?_
    refine wl_on rfl rfl rfl rfl hg1_21a ?_
    refine wl_det rfl rfl (det_gtr rfl rfl) rfl ?_
    refine wl_det rfl rfl (det_or_off rfl rfl rfl hg1_21a) rfl ?_
    exact wl_nil (pn_qnE (ext_cons rfl (ext_skip rfl (ext_skip rfl (ext_skip rfl (ext_skip rfl (ext_skip rfl ext_refl)))))) (fun _ h => h))
  refine wl_det rfl rfl (det_move rfl) rfl ?_
  refine wl_way ((((decide (60 < (a0.Perils.length : Int))) || (decide (60 < (a0.Areas.length : Int)))) || (decide (60 < (a0.Reinstatements.length : Int)))) || (decide (60 < (a0.Inures.length : Int)))) (((((decide (60 < (a0.Perils.length : Int))) || (decide (60 < (a0.Areas.length : Int)))) || (decide (60 < (a0.Reinstatements.length : Int)))) || (decide (60 < (a0.Inures.length : Int)))) || (decide (60 < (a0.Parts.length : Int)))) 5 42 (fun hg => ?_) (fun hg => ?_) ?_
  · have hg1_27 := hg
    refine wl_off rfl rfl rfl rfl rfl hg1_27 rfl ?_
    refine wl_off rfl rfl rfl rfl rfl hg1_27 rfl ?_
    refine wl_off rfl rfl rfl rfl rfl hg1_27 rfl ?_
    refine wl_off rfl rfl rfl rfl rfl hg1_27 rfl ?_
    refine wl_det rfl rfl (det_or_on (r := (decide (60 < (a0.Parts.length : Int)))) rfl rfl rfl hg1_27) rfl ?_
    exact wl_nil (pn_qnE (ext_cons rfl (ext_skip rfl (ext_skip rfl (ext_skip rfl (ext_skip rfl (ext_skip rfl ext_refl)))))) (fun _ h => h))
  · have hg1_27a := hg
    refine wl_on rfl rfl rfl rfl hg1_27a ?_
    refine wl_det rfl rfl (det_field rfl fd49_19 rfl) rfl ?_
    refine wl_on rfl rfl rfl rfl hg1_27a ?_
    refine wl_det rfl rfl (det_load rfl (ms m0) (by rfl) na22 us22) rfl ?_
    refine wl_on rfl rfl rfl rfl hg1_27a ?_
    refine wl_det rfl rfl (det_len rfl un22) rfl ?_
    refine wl_on rfl rfl rfl rfl hg1_27a ?_
    refine wl_det rfl rfl (det_gtr rfl rfl) rfl ?_
    refine wl_det rfl rfl (det_or_off rfl rfl rfl hg1_27a) rfl ?_
    exact wl_nil (pn_qnE (ext_cons rfl (ext_skip rfl (ext_skip rfl (ext_skip rfl (ext_skip rfl (ext_skip rfl ext_refl)))))) (fun _ h => h))
  refine wl_nil ?_
  refine pn_then ?_
  refine wc_cond rfl (fun cd5 => ?_) (fun cd5 => ?_)
  · have h := ifT h cd5
    refine wc_seq ?_
    refine wc_region ?_   -- region 2
    obtain ⟨r2_0, hr2_0, h⟩ := bind_some h
    refine wl_act (act_callS (cap := []) (W_treatylaw20_awake r2_0 hr2_0) rfl rfl rfl bd15 rfl trivial) rfl rfl rfl ?_
    rintro _ _ _ ⟨_, _, ⟨rfl, rfl, rfl⟩, rfl, rfl⟩
    dsimp only [List.nil_append, List.cons_append]
    refine wl_det rfl rfl (det_assign rfl) rfl ?_
    refine wl_nil ?_
    refine pn_then ?_
    refine wc_ret ?_
    refine pr_then ?_
    replace h := Option.some.inj h
    subst h
    refine pn_ret (vs := [_]) rfl ⟨rfl, trivial⟩ ⟨rfl, rfl, rfl⟩ (fun _ h => h.to trivial trivial)
  · have h := ifF h cd5
    refine wc_skip ?_
    refine pn_then ?_
    refine wc_seq ?_
    refine wc_region ?_   -- region 3
    refine wl_det rfl rfl (det_move rfl) rfl ?_
    obtain ⟨r3_1, hr3_1, h⟩ := bind_some h
    refine wl_act (act_callS (cap := []) (W_treatylaw20_made a2 A15 a2.length c15 r3_1 hr3_1) rfl rfl rfl bd40 rfl ⟨(ms (ms (ms (ms (ms m0))))), trivial⟩) rfl rfl rfl ?_
    rintro _ _ _ ⟨_, _, ⟨y3_1A0, y3_1n0, y3_1c0, y3_1A1, y3_1n1, y3_1c1, y3_1A2, y3_1n2, y3_1c2, y3_1A3, y3_1n3, y3_1c3, y3_1A4, y3_1n4, y3_1c4, y3_1b5, y3_1A6, y3_1n6, y3_1c6, rfl, rfl, rfl⟩, rfl, rfl⟩
    dsimp only [List.nil_append, List.cons_append]
    refine wl_know (fun _ h => h.lenO m0) (fun e => ?_)
    subst e
    refine wl_know (fun _ h => h.lenO (ms m0)) (fun e => ?_)
    subst e
    refine wl_know (fun _ h => h.lenO (ms (ms m0))) (fun e => ?_)
    subst e
    refine wl_know (fun _ h => h.lenO (ms (ms (ms m0)))) (fun e => ?_)
    subst e
    refine wl_know (fun _ h => h.lenO (ms (ms (ms (ms m0))))) (fun e => ?_)
    subst e
    refine wl_know (fun _ h => h.lenF m0) (fun e => ?_)
    subst e
    refine wl_det rfl rfl (det_move rfl) rfl ?_
    refine wl_det rfl rfl (det_extract rfl rfl) rfl ?_
    refine wl_det rfl rfl (det_extract rfl rfl) rfl ?_
    refine wl_act (act_alloc (cs := [_, _, _, _, _, _, _, _, _, _, _, _, _, _, _, _, _, _, _, _, _]) zr49 rfl) rfl rfl rfl ?_
    rintro _ _ _ ⟨b3_5, rfl, rfl, rfl⟩
    refine wl_act0 (act_store (cells := [_, _, _, _, _, _, _, _, _, _, _, _, _, _, _, _, _, _, _, _, _]) (cs' := [_, _, _, _, _, _, _, _, _, _, _, _, _, _, _, _, _, _, _, _, _]) rfl rfl rfl s0 (by rfl) (of_decide_eq_true rfl) sz49 ⟨rfl, rfl, rfl, rfl, rfl, rfl, rfl, rfl, rfl, rfl, rfl, rfl, rfl, rfl, rfl, rfl, rfl, rfl, rfl, rfl, rfl, trivial⟩) rfl rfl ?_
    rintro _ _ _ ⟨rfl, rfl⟩
    refine wl_det rfl rfl (det_assign rfl) rfl ?_
    refine wl_nil ?_
    refine pn_then ?_
    refine wc_seq ?_
    refine wc_region ?_   -- region 4
    refine wl_det rfl rfl (det_move rfl) rfl ?_
    obtain ⟨r4_1, hr4_1, h⟩ := bind_some h
    refine wl_act (act_callS (cap := []) (W_treatymade_Deck_Loss r3_1.2 1 y3_1b5 y3_1A6 r3_1.2.L.length y3_1c6 r4_1 hr4_1) rfl rfl rfl bd41 ⟨_, (rs (rs (rs (rs (rs (rs r0)))))), rfl⟩ ⟨m0, trivial⟩) rfl rfl rfl ?_
    rintro _ _ _ ⟨_, _, ⟨y4_1A0, y4_1n0, y4_1c0, rfl, rfl, rfl⟩, rfl, rfl⟩
    dsimp only [List.nil_append, List.cons_append]
    refine wl_know (fun _ h => h.lenF m0) (fun e => ?_)
    subst e
    refine wl_act (act_alloc (cs := [_, _, _, _, _, _, _, _, _, _]) zr65 rfl) rfl rfl rfl ?_
    rintro _ _ _ ⟨b4_2, rfl, rfl, rfl⟩
    refine wl_act0 (act_store (cells := [_, _, _, _, _, _, _, _, _, _]) (cs' := [_, _, _, _, _, _, _, _, _, _]) rfl rfl rfl s0 (by rfl) (of_decide_eq_true rfl) sz65 ⟨rfl, rfl, rfl, rfl, rfl, rfl, rfl, rfl, rfl, rfl, trivial⟩) rfl rfl ?_
    rintro _ _ _ ⟨rfl, rfl⟩
    refine wl_nil ?_
    refine pn_then ?_
    obtain ⟨q12, h, ho12⟩ := bind_some h
    refine wc_meetG (G := (Int × Int × Int × Int × (List Int) × (List Int) × Int × Int × Int × Int × Int × Int × Int × Int × Int × Int × (List Int) × Bool × Int × (List Int) × (List GPart)) × Nat × Option Addr × Nat × Nat × Option Addr × Nat × Nat × Option Addr × Nat × Nat × Option Addr × Nat × Nat × Option Addr × Nat × Nat × Unit) (fun (s12, _, _, _, _, _, _, _, _, _, _, _, _, _, _, _, _, _) => s12 = q12) (fun (_, B12_0, _, _, _, _, _, _, _, _, _, _, _, _, _, _, _, _) => [(5, .pointer (some ⟨b0_0, 0, none⟩)), (6, .pointer (some ⟨b0_1, 0, none⟩)), (11, .pointer (some ⟨b3_5, 0, none⟩)), (13, .pointer (some ⟨b4_2, 0, none⟩)), (14, .pointer (some ⟨B12_0, 0, none⟩))]) (fun (s12, B12_0, A12_1, n12_1, c12_1, A12_4, n12_4, c12_4, A12_7, n12_7, c12_7, A12_10, n12_10, c12_10, A12_13, n12_13, c12_13, _) => [eBlk b0_0 49 [.int .i64 a0.ID, .int .i64 a0.Kind, .int .i64 a0.Period.From, .int .i64 a0.Period.To, .slice A0 a0.Perils.length c0, .slice A3 a0.Areas.length c3, .int .i64 a0.Risk, .int .i64 a0.Cession, .int .i64 a0.Line, .int .i64 a0.Lines, .int .i64 a0.Retention, .int .i64 a0.Limit, .int .i64 a0.Window, .int .i64 a0.Deductible, .int .i64 a0.Aggregate, .int .i64 a0.Premium, .slice A6 a0.Reinstatements.length c6, .bool a0.Timed, .int .i64 a0.Base, .slice A9 a0.Inures.length c9, .slice A12 a0.Parts.length c12], eBlk b0_1 65 [.int .i64 a1.ID, .int .i64 a1.Policy, .int .i64 a1.Risk, .int .i64 a1.Hour, .int .i64 a1.Peril, .int .i64 a1.Area, .int .i64 a1.Currency, .int .i64 a1.Sum, .int .i64 a1.Amount, .int .i64 a1.Paid], eBlk b3_5 49 [.int .i64 r3_1.1.ID, .int .i64 r3_1.1.Kind, .int .i64 r3_1.1.Period.From, .int .i64 r3_1.1.Period.To, .slice y3_1A0 r3_1.1.Perils.length y3_1c0, .slice y3_1A1 r3_1.1.Areas.length y3_1c1, .int .i64 r3_1.1.Risk, .int .i64 r3_1.1.Cession, .int .i64 r3_1.1.Line, .int .i64 r3_1.1.Lines, .int .i64 r3_1.1.Retention, .int .i64 r3_1.1.Limit, .int .i64 r3_1.1.Window, .int .i64 r3_1.1.Deductible, .int .i64 r3_1.1.Aggregate, .int .i64 r3_1.1.Premium, .slice y3_1A2 r3_1.1.Reinstatements.length y3_1c2, .bool r3_1.1.Timed, .int .i64 r3_1.1.Base, .slice y3_1A3 r3_1.1.Inures.length y3_1c3, .slice y3_1A4 r3_1.1.Parts.length y3_1c4], eBlk b4_2 65 [.int .i64 r4_1.1.ID, .int .i64 r4_1.1.Policy, .int .i64 r4_1.1.Risk, .int .i64 r4_1.1.Hour, .int .i64 r4_1.1.Peril, .int .i64 r4_1.1.Area, .int .i64 r4_1.1.Currency, .int .i64 r4_1.1.Sum, .int .i64 r4_1.1.Amount, .int .i64 r4_1.1.Paid], eBlk B12_0 49 [.int .i64 s12.1, .int .i64 s12.2.1, .int .i64 s12.2.2.1, .int .i64 s12.2.2.2.1, .slice A12_1 n12_1 c12_1, .slice A12_4 n12_4 c12_4, .int .i64 s12.2.2.2.2.2.2.1, .int .i64 s12.2.2.2.2.2.2.2.1, .int .i64 s12.2.2.2.2.2.2.2.2.1, .int .i64 s12.2.2.2.2.2.2.2.2.2.1, .int .i64 s12.2.2.2.2.2.2.2.2.2.2.1, .int .i64 s12.2.2.2.2.2.2.2.2.2.2.2.1, .int .i64 s12.2.2.2.2.2.2.2.2.2.2.2.2.1, .int .i64 s12.2.2.2.2.2.2.2.2.2.2.2.2.2.1, .int .i64 s12.2.2.2.2.2.2.2.2.2.2.2.2.2.2.1, .int .i64 s12.2.2.2.2.2.2.2.2.2.2.2.2.2.2.2.1, .slice A12_7 n12_7 c12_7, .bool s12.2.2.2.2.2.2.2.2.2.2.2.2.2.2.2.2.2.1, .int .i64 s12.2.2.2.2.2.2.2.2.2.2.2.2.2.2.2.2.2.2.1, .slice A12_10 n12_10 c12_10, .slice A12_13 n12_13 c12_13]]) (fun (s12, _, A12_1, n12_1, c12_1, A12_4, n12_4, c12_4, A12_7, n12_7, c12_7, A12_10, n12_10, c12_10, A12_13, n12_13, c12_13, _) => [fV (lSlice (lInt .i64)) (.slice A0 a0.Perils.length c0) a0.Perils, fV (lSlice (lInt .i64)) (.slice A3 a0.Areas.length c3) a0.Areas, fV (lSlice (lInt .i64)) (.slice A6 a0.Reinstatements.length c6) a0.Reinstatements, fV (lSlice (lInt .i64)) (.slice A9 a0.Inures.length c9) a0.Inures, fV (lSlice lGPart) (.slice A12 a0.Parts.length c12) a0.Parts, fV (lSlice (lInt .i64)) (.slice y3_1A0 r3_1.1.Perils.length y3_1c0) r3_1.1.Perils, fV (lSlice (lInt .i64)) (.slice y3_1A1 r3_1.1.Areas.length y3_1c1) r3_1.1.Areas, fV (lSlice (lInt .i64)) (.slice y3_1A2 r3_1.1.Reinstatements.length y3_1c2) r3_1.1.Reinstatements, fV (lSlice (lInt .i64)) (.slice y3_1A3 r3_1.1.Inures.length y3_1c3) r3_1.1.Inures, fV (lSlice lGPart) (.slice y3_1A4 r3_1.1.Parts.length y3_1c4) r3_1.1.Parts, fV (lSlice (lInt .i64)) (.slice A12_1 n12_1 c12_1) s12.2.2.2.2.1, fV (lSlice (lInt .i64)) (.slice A12_4 n12_4 c12_4) s12.2.2.2.2.2.1, fV (lSlice (lInt .i64)) (.slice A12_7 n12_7 c12_7) s12.2.2.2.2.2.2.2.2.2.2.2.2.2.2.2.2.1, fV (lSlice (lInt .i64)) (.slice A12_10 n12_10 c12_10) s12.2.2.2.2.2.2.2.2.2.2.2.2.2.2.2.2.2.2.2.1, fV (lSlice lGPart) (.slice A12_13 n12_13 c12_13) s12.2.2.2.2.2.2.2.2.2.2.2.2.2.2.2.2.2.2.2.2]) ?_ ?_
    · refine wc_st (fun _ h => h.shutS (rs (rs (rs r0)))) ?_
      refine wc_st (fun _ h => h.shutS (rs (rs (rs r0)))) ?_
      refine wc_st (fun _ h => h.shutS (rs (rs (rs r0)))) ?_
      refine wc_st (fun _ h => h.shutS (rs (rs (rs r0)))) ?_
      refine wc_st (fun _ h => h.shutS (rs (rs (rs r0)))) ?_
      refine dx_regionZ (Z := St C [_, _, _, _, _] [_, _, _, _, _, _, _, _, _, _, _, _, _, _]) 6 [[], [], [1], [], [0, 1, 2, 3], [], [0, 1, 2, 3, 4, 5]] mixed (ord := (.det 0 (.det 1 (.det 3 (.alt 2 (.alt 4 (.alt 5 .done .dead) (.alt 5 (.alt 4 .done .dead) .dead)) (.alt 5 (.alt 2 (.alt 4 .done .dead) .dead) .dead)))))) (by kernel_rfl) (fun _ h => h.to ⟨_, r0, ⟨_, r0, ⟨_, r0, ⟨_, r0, ⟨_, r0, trivial⟩⟩⟩⟩⟩ ⟨m0, ⟨(ms m0), ⟨(ms (ms m0)), ⟨(ms (ms (ms m0))), ⟨(ms (ms (ms (ms m0)))), ⟨(ms (ms (ms (ms (ms m0))))), ⟨(ms (ms (ms (ms (ms (ms m0)))))), ⟨(ms (ms (ms (ms (ms (ms (ms m0))))))), ⟨(ms (ms (ms (ms (ms (ms (ms (ms m0)))))))), ⟨(ms (ms (ms (ms (ms (ms (ms (ms (ms m0))))))))), ⟨(ms (ms (ms (ms (ms (ms (ms (ms (ms (ms m0)))))))))), ⟨(ms (ms (ms (ms (ms (ms (ms (ms (ms (ms (ms m0))))))))))), ⟨(ms (ms (ms (ms (ms (ms (ms (ms (ms (ms (ms (ms m0)))))))))))), ⟨(ms (ms (ms (ms (ms (ms (ms (ms (ms (ms (ms (ms (ms m0))))))))))))), trivial⟩⟩⟩⟩⟩⟩⟩⟩⟩⟩⟩⟩⟩⟩) ?_   -- region 5
      refine hx_det rfl rfl rfl nofun (det_loadN (cells := [_, _, _, _, _, _, _, _, _, _, _, _, _, _, _, _, _, _, _, _, _]) rfl (ms (ms m0)) (by rfl) ag49 sz49) rfl ?_
      refine hx_det rfl rfl rfl nofun (det_move rfl) rfl ?_
      refine hx_det rfl rfl rfl nofun (det_move rfl) rfl ?_
      refine hx_or ?_ ?_
      · obtain ⟨r5_2, hr5_2, h⟩ := bind_some h
        refine hx_mut rfl rfl rfl (act_callS (cap := []) (W_treatymade_New a3 A18 a3.length c18 r5_2 hr5_2) rfl rfl rfl bd16 rfl ⟨(ms (ms (ms (ms (ms (ms (ms (ms (ms (ms (ms (ms (ms m0))))))))))))), trivial⟩) rfl (by rintro _ _ _ ⟨_, _, ⟨y5_2b0, y5_2A1, y5_2n1, y5_2c1, rfl, rfl, rfl⟩, rfl, rfl⟩ w hs; exact hs.to ⟨_, (rs r0), ⟨_, (rs r0), ⟨_, (rs r0), ⟨_, (rs r0), ⟨_, (rs r0), trivial⟩⟩⟩⟩⟩ ⟨(ms m0), ⟨(ms (ms m0)), ⟨(ms (ms (ms m0))), ⟨(ms (ms (ms (ms m0)))), ⟨(ms (ms (ms (ms (ms m0))))), ⟨(ms (ms (ms (ms (ms (ms m0)))))), ⟨(ms (ms (ms (ms (ms (ms (ms m0))))))), ⟨(ms (ms (ms (ms (ms (ms (ms (ms m0)))))))), ⟨(ms (ms (ms (ms (ms (ms (ms (ms (ms m0))))))))), ⟨(ms (ms (ms (ms (ms (ms (ms (ms (ms (ms m0)))))))))), ⟨(ms (ms (ms (ms (ms (ms (ms (ms (ms (ms (ms m0))))))))))), ⟨(ms (ms (ms (ms (ms (ms (ms (ms (ms (ms (ms (ms m0)))))))))))), ⟨(ms (ms (ms (ms (ms (ms (ms (ms (ms (ms (ms (ms (ms m0))))))))))))), ⟨(ms (ms (ms (ms (ms (ms (ms (ms (ms (ms (ms (ms (ms (ms m0)))))))))))))), trivial⟩⟩⟩⟩⟩⟩⟩⟩⟩⟩⟩⟩⟩⟩) ?_
        rintro _ _ _ ⟨_, _, ⟨y5_2b0, y5_2A1, y5_2n1, y5_2c1, rfl, rfl, rfl⟩, rfl, rfl⟩
        dsimp only [List.nil_append, List.cons_append]
        refine hx_or ?_ ?_
        · obtain ⟨r5_4, hr5_4, h⟩ := bind_some h
          refine hx_mut rfl rfl rfl (act_callS (cap := []) (W_treatylaw20_spoilt r3_1.1 r5_2 a4 y3_1A0 r3_1.1.Perils.length y3_1c0 y3_1A1 r3_1.1.Areas.length y3_1c1 y3_1A2 r3_1.1.Reinstatements.length y3_1c2 y3_1A3 r3_1.1.Inures.length y3_1c3 y3_1A4 r3_1.1.Parts.length y3_1c4 y5_2b0 y5_2A1 y5_2n1 y5_2c1 r5_4 hr5_4) rfl rfl rfl bd42 ⟨_, r0, rfl⟩ ⟨(ms (ms (ms (ms (ms m0))))), ⟨(ms (ms (ms (ms m0)))), ⟨(ms (ms (ms m0))), ⟨(ms (ms m0)), ⟨(ms m0), ⟨m0, trivial⟩⟩⟩⟩⟩⟩) rfl (by rintro _ _ _ ⟨_, _, ⟨y5_4A0, y5_4n0, y5_4c0, y5_4A1, y5_4n1, y5_4c1, y5_4A2, y5_4n2, y5_4c2, y5_4A3, y5_4n3, y5_4c3, y5_4A4, y5_4n4, y5_4c4, y5_4A5, y5_4n5, y5_4c5, rfl, rfl, rfl⟩, rfl, rfl⟩ w hs; exact hs.to ⟨_, (rs r0), ⟨_, (rs r0), ⟨_, (rs r0), ⟨_, (rs r0), ⟨_, (rs r0), trivial⟩⟩⟩⟩⟩ ⟨(ms (ms (ms (ms (ms (ms (ms m0))))))), ⟨(ms (ms (ms (ms (ms (ms (ms (ms m0)))))))), ⟨(ms (ms (ms (ms (ms (ms (ms (ms (ms m0))))))))), ⟨(ms (ms (ms (ms (ms (ms (ms (ms (ms (ms m0)))))))))), ⟨(ms (ms (ms (ms (ms (ms (ms (ms (ms (ms (ms m0))))))))))), ⟨(ms (ms (ms (ms (ms (ms (ms (ms (ms (ms (ms (ms m0)))))))))))), ⟨(ms (ms (ms (ms (ms (ms (ms (ms (ms (ms (ms (ms (ms m0))))))))))))), ⟨(ms (ms (ms (ms (ms (ms (ms (ms (ms (ms (ms (ms (ms (ms m0)))))))))))))), ⟨(ms (ms (ms (ms (ms (ms (ms (ms (ms (ms (ms (ms (ms (ms (ms m0))))))))))))))), ⟨(ms (ms (ms (ms (ms (ms (ms (ms (ms (ms (ms (ms (ms (ms (ms (ms m0)))))))))))))))), ⟨(ms (ms (ms (ms (ms (ms (ms (ms (ms (ms (ms (ms (ms (ms (ms (ms (ms m0))))))))))))))))), ⟨(ms (ms (ms (ms (ms (ms (ms (ms (ms (ms (ms (ms (ms (ms (ms (ms (ms (ms m0)))))))))))))))))), ⟨(ms (ms (ms (ms (ms (ms (ms (ms (ms (ms (ms (ms (ms (ms (ms (ms (ms (ms (ms m0))))))))))))))))))), ⟨(ms (ms (ms (ms (ms (ms (ms (ms (ms (ms (ms (ms (ms (ms (ms (ms (ms (ms (ms (ms m0)))))))))))))))))))), trivial⟩⟩⟩⟩⟩⟩⟩⟩⟩⟩⟩⟩⟩⟩) ?_
          rintro _ _ _ ⟨_, _, ⟨y5_4A0, y5_4n0, y5_4c0, y5_4A1, y5_4n1, y5_4c1, y5_4A2, y5_4n2, y5_4c2, y5_4A3, y5_4n3, y5_4c3, y5_4A4, y5_4n4, y5_4c4, y5_4A5, y5_4n5, y5_4c5, rfl, rfl, rfl⟩, rfl, rfl⟩
          dsimp only [List.nil_append, List.cons_append]
          refine hx_mut rfl rfl rfl (act_alloc (cs := [_, _, _, _, _, _, _, _, _, _, _, _, _, _, _, _, _, _, _, _, _]) zr49 rfl) rfl (by rintro _ _ _ ⟨b5_5, rfl, rfl, rfl⟩ w hs; exact hs.to ⟨_, (rs (rs r0)), ⟨_, (rs (rs r0)), ⟨_, (rs (rs r0)), ⟨_, (rs (rs r0)), ⟨_, (rs (rs r0)), trivial⟩⟩⟩⟩⟩ ⟨(ms (ms (ms (ms (ms (ms (ms m0))))))), ⟨(ms (ms (ms (ms (ms (ms (ms (ms m0)))))))), ⟨(ms (ms (ms (ms (ms (ms (ms (ms (ms m0))))))))), ⟨(ms (ms (ms (ms (ms (ms (ms (ms (ms (ms m0)))))))))), ⟨(ms (ms (ms (ms (ms (ms (ms (ms (ms (ms (ms m0))))))))))), ⟨(ms (ms (ms (ms (ms (ms (ms (ms (ms (ms (ms (ms m0)))))))))))), ⟨(ms (ms (ms (ms (ms (ms (ms (ms (ms (ms (ms (ms (ms m0))))))))))))), ⟨(ms (ms (ms (ms (ms (ms (ms (ms (ms (ms (ms (ms (ms (ms m0)))))))))))))), ⟨(ms (ms (ms (ms (ms (ms (ms (ms (ms (ms (ms (ms (ms (ms (ms m0))))))))))))))), ⟨(ms (ms (ms (ms (ms (ms (ms (ms (ms (ms (ms (ms (ms (ms (ms (ms m0)))))))))))))))), ⟨(ms (ms (ms (ms (ms (ms (ms (ms (ms (ms (ms (ms (ms (ms (ms (ms (ms m0))))))))))))))))), ⟨(ms (ms (ms (ms (ms (ms (ms (ms (ms (ms (ms (ms (ms (ms (ms (ms (ms (ms m0)))))))))))))))))), ⟨(ms (ms (ms (ms (ms (ms (ms (ms (ms (ms (ms (ms (ms (ms (ms (ms (ms (ms (ms m0))))))))))))))))))), ⟨(ms (ms (ms (ms (ms (ms (ms (ms (ms (ms (ms (ms (ms (ms (ms (ms (ms (ms (ms (ms m0)))))))))))))))))))), trivial⟩⟩⟩⟩⟩⟩⟩⟩⟩⟩⟩⟩⟩⟩) ?_
          rintro _ _ _ ⟨b5_5, rfl, rfl, rfl⟩
          refine hx_end ?_
          refine wl_know (fun _ h => h.lenF (ms (ms (ms (ms (ms (ms m0))))))) (fun e => ?_)
          subst e
          refine wl_know (fun _ h => h.lenF m0) (fun e => ?_)
          subst e
          refine wl_know (fun _ h => h.lenF (ms m0)) (fun e => ?_)
          subst e
          refine wl_know (fun _ h => h.lenF (ms (ms m0))) (fun e => ?_)
          subst e
          refine wl_know (fun _ h => h.lenF (ms (ms (ms m0)))) (fun e => ?_)
          subst e
          refine wl_know (fun _ h => h.lenF (ms (ms (ms (ms m0))))) (fun e => ?_)
          subst e
          refine wl_know (fun _ h => h.lenF (ms (ms (ms (ms (ms m0)))))) (fun e => ?_)
          subst e
          refine wl_act0 (act_store (cells := [_, _, _, _, _, _, _, _, _, _, _, _, _, _, _, _, _, _, _, _, _]) (cs' := [_, _, _, _, _, _, _, _, _, _, _, _, _, _, _, _, _, _, _, _, _]) rfl rfl rfl s0 (by rfl) (of_decide_eq_true rfl) sz49 ⟨rfl, rfl, rfl, rfl, rfl, rfl, rfl, rfl, rfl, rfl, rfl, rfl, rfl, rfl, rfl, rfl, rfl, rfl, rfl, rfl, rfl, trivial⟩) rfl rfl ?_
          rintro _ _ _ ⟨rfl, rfl⟩
          refine wl_nil ?_
          replace h := Option.some.inj h
          subst h
          exact pn_meetG ((r5_4.1.ID, r5_4.1.Kind, r5_4.1.Period.From, r5_4.1.Period.To, r5_4.1.Perils, r5_4.1.Areas, r5_4.1.Risk, r5_4.1.Cession, r5_4.1.Line, r5_4.1.Lines, r5_4.1.Retention, r5_4.1.Limit, r5_4.1.Window, r5_4.1.Deductible, r5_4.1.Aggregate, r5_4.1.Premium, r5_4.1.Reinstatements, r5_4.1.Timed, r5_4.1.Base, r5_4.1.Inures, r5_4.1.Parts), b5_5, y5_4A0, r5_4.1.Perils.length, y5_4c0, y5_4A1, r5_4.1.Areas.length, y5_4c1, y5_4A2, r5_4.1.Reinstatements.length, y5_4c2, y5_4A3, r5_4.1.Inures.length, y5_4c3, y5_4A4, r5_4.1.Parts.length, y5_4c4, ()) rfl ⟨rfl, rfl, rfl, rfl, rfl, trivial⟩ (fun _ h => h.to ⟨_, (rs (rs (rs (rs (rs (rs r0)))))), ⟨_, (rs (rs (rs (rs (rs r0))))), ⟨_, (rs (rs (rs (rs r0)))), ⟨_, (rs (rs r0)), ⟨_, r0, trivial⟩⟩⟩⟩⟩ ⟨(ms (ms (ms (ms (ms (ms (ms (ms (ms (ms (ms (ms (ms (ms m0)))))))))))))), ⟨(ms (ms (ms (ms (ms (ms (ms (ms (ms (ms (ms (ms (ms (ms (ms m0))))))))))))))), ⟨(ms (ms (ms (ms (ms (ms (ms (ms (ms (ms (ms (ms (ms (ms (ms (ms m0)))))))))))))))), ⟨(ms (ms (ms (ms (ms (ms (ms (ms (ms (ms (ms (ms (ms (ms (ms (ms (ms m0))))))))))))))))), ⟨(ms (ms (ms (ms (ms (ms (ms (ms (ms (ms (ms (ms (ms (ms (ms (ms (ms (ms m0)))))))))))))))))), ⟨(ms (ms (ms (ms (ms (ms (ms (ms (ms (ms (ms m0))))))))))), ⟨(ms (ms (ms (ms (ms (ms (ms (ms (ms (ms m0)))))))))), ⟨(ms (ms (ms (ms (ms (ms (ms (ms (ms m0))))))))), ⟨(ms (ms (ms (ms (ms (ms (ms (ms m0)))))))), ⟨(ms (ms (ms (ms (ms (ms (ms m0))))))), ⟨m0, ⟨(ms m0), ⟨(ms (ms m0)), ⟨(ms (ms (ms m0))), ⟨(ms (ms (ms (ms m0)))), trivial⟩⟩⟩⟩⟩⟩⟩⟩⟩⟩⟩⟩⟩⟩⟩)
        refine hx_or ?_ trivial
        refine hx_mut rfl rfl rfl (act_alloc (cs := [_, _, _, _, _, _, _, _, _, _, _, _, _, _, _, _, _, _, _, _, _]) zr49 rfl) rfl (by rintro _ _ _ ⟨b5_5, rfl, rfl, rfl⟩ w hs; exact hs.to ⟨_, (rs (rs r0)), ⟨_, (rs (rs r0)), ⟨_, (rs (rs r0)), ⟨_, (rs (rs r0)), ⟨_, (rs (rs r0)), trivial⟩⟩⟩⟩⟩ ⟨(ms m0), ⟨(ms (ms m0)), ⟨(ms (ms (ms m0))), ⟨(ms (ms (ms (ms m0)))), ⟨(ms (ms (ms (ms (ms m0))))), ⟨(ms (ms (ms (ms (ms (ms m0)))))), ⟨(ms (ms (ms (ms (ms (ms (ms m0))))))), ⟨(ms (ms (ms (ms (ms (ms (ms (ms m0)))))))), ⟨(ms (ms (ms (ms (ms (ms (ms (ms (ms m0))))))))), ⟨(ms (ms (ms (ms (ms (ms (ms (ms (ms (ms m0)))))))))), ⟨(ms (ms (ms (ms (ms (ms (ms (ms (ms (ms (ms m0))))))))))), ⟨(ms (ms (ms (ms (ms (ms (ms (ms (ms (ms (ms (ms m0)))))))))))), ⟨(ms (ms (ms (ms (ms (ms (ms (ms (ms (ms (ms (ms (ms m0))))))))))))), ⟨(ms (ms (ms (ms (ms (ms (ms (ms (ms (ms (ms (ms (ms (ms m0)))))))))))))), trivial⟩⟩⟩⟩⟩⟩⟩⟩⟩⟩⟩⟩⟩⟩) ?_
        rintro _ _ _ ⟨b5_5, rfl, rfl, rfl⟩
        obtain ⟨r5_4, hr5_4, h⟩ := bind_some h
        refine hx_mut rfl rfl rfl (act_callS (cap := []) (W_treatylaw20_spoilt r3_1.1 r5_2 a4 y3_1A0 r3_1.1.Perils.length y3_1c0 y3_1A1 r3_1.1.Areas.length y3_1c1 y3_1A2 r3_1.1.Reinstatements.length y3_1c2 y3_1A3 r3_1.1.Inures.length y3_1c3 y3_1A4 r3_1.1.Parts.length y3_1c4 y5_2b0 y5_2A1 y5_2n1 y5_2c1 r5_4 hr5_4) rfl rfl rfl bd42 ⟨_, (rs r0), rfl⟩ ⟨(ms (ms (ms (ms (ms m0))))), ⟨(ms (ms (ms (ms m0)))), ⟨(ms (ms (ms m0))), ⟨(ms (ms m0)), ⟨(ms m0), ⟨m0, trivial⟩⟩⟩⟩⟩⟩) rfl (by rintro _ _ _ ⟨_, _, ⟨y5_4A0, y5_4n0, y5_4c0, y5_4A1, y5_4n1, y5_4c1, y5_4A2, y5_4n2, y5_4c2, y5_4A3, y5_4n3, y5_4c3, y5_4A4, y5_4n4, y5_4c4, y5_4A5, y5_4n5, y5_4c5, rfl, rfl, rfl⟩, rfl, rfl⟩ w hs; exact hs.to ⟨_, (rs (rs r0)), ⟨_, (rs (rs r0)), ⟨_, (rs (rs r0)), ⟨_, (rs (rs r0)), ⟨_, (rs (rs r0)), trivial⟩⟩⟩⟩⟩ ⟨(ms (ms (ms (ms (ms (ms (ms m0))))))), ⟨(ms (ms (ms (ms (ms (ms (ms (ms m0)))))))), ⟨(ms (ms (ms (ms (ms (ms (ms (ms (ms m0))))))))), ⟨(ms (ms (ms (ms (ms (ms (ms (ms (ms (ms m0)))))))))), ⟨(ms (ms (ms (ms (ms (ms (ms (ms (ms (ms (ms m0))))))))))), ⟨(ms (ms (ms (ms (ms (ms (ms (ms (ms (ms (ms (ms m0)))))))))))), ⟨(ms (ms (ms (ms (ms (ms (ms (ms (ms (ms (ms (ms (ms m0))))))))))))), ⟨(ms (ms (ms (ms (ms (ms (ms (ms (ms (ms (ms (ms (ms (ms m0)))))))))))))), ⟨(ms (ms (ms (ms (ms (ms (ms (ms (ms (ms (ms (ms (ms (ms (ms m0))))))))))))))), ⟨(ms (ms (ms (ms (ms (ms (ms (ms (ms (ms (ms (ms (ms (ms (ms (ms m0)))))))))))))))), ⟨(ms (ms (ms (ms (ms (ms (ms (ms (ms (ms (ms (ms (ms (ms (ms (ms (ms m0))))))))))))))))), ⟨(ms (ms (ms (ms (ms (ms (ms (ms (ms (ms (ms (ms (ms (ms (ms (ms (ms (ms m0)))))))))))))))))), ⟨(ms (ms (ms (ms (ms (ms (ms (ms (ms (ms (ms (ms (ms (ms (ms (ms (ms (ms (ms m0))))))))))))))))))), ⟨(ms (ms (ms (ms (ms (ms (ms (ms (ms (ms (ms (ms (ms (ms (ms (ms (ms (ms (ms (ms m0)))))))))))))))))))), trivial⟩⟩⟩⟩⟩⟩⟩⟩⟩⟩⟩⟩⟩⟩) ?_
        rintro _ _ _ ⟨_, _, ⟨y5_4A0, y5_4n0, y5_4c0, y5_4A1, y5_4n1, y5_4c1, y5_4A2, y5_4n2, y5_4c2, y5_4A3, y5_4n3, y5_4c3, y5_4A4, y5_4n4, y5_4c4, y5_4A5, y5_4n5, y5_4c5, rfl, rfl, rfl⟩, rfl, rfl⟩
        dsimp only [List.nil_append, List.cons_append]
        refine hx_end ?_
        refine wl_know (fun _ h => h.lenF (ms (ms (ms (ms (ms (ms m0))))))) (fun e => ?_)
        subst e
        refine wl_know (fun _ h => h.lenF m0) (fun e => ?_)
        subst e
        refine wl_know (fun _ h => h.lenF (ms m0)) (fun e => ?_)
        subst e
        refine wl_know (fun _ h => h.lenF (ms (ms m0))) (fun e => ?_)
        subst e
        refine wl_know (fun _ h => h.lenF (ms (ms (ms m0)))) (fun e => ?_)
        subst e
        refine wl_know (fun _ h => h.lenF (ms (ms (ms (ms m0))))) (fun e => ?_)
        subst e
        refine wl_know (fun _ h => h.lenF (ms (ms (ms (ms (ms m0)))))) (fun e => ?_)
        subst e
        refine wl_act0 (act_store (cells := [_, _, _, _, _, _, _, _, _, _, _, _, _, _, _, _, _, _, _, _, _]) (cs' := [_, _, _, _, _, _, _, _, _, _, _, _, _, _, _, _, _, _, _, _, _]) rfl rfl rfl (ss s0) (by rfl) (of_decide_eq_true rfl) sz49 ⟨rfl, rfl, rfl, rfl, rfl, rfl, rfl, rfl, rfl, rfl, rfl, rfl, rfl, rfl, rfl, rfl, rfl, rfl, rfl, rfl, rfl, trivial⟩) rfl rfl ?_
        rintro _ _ _ ⟨rfl, rfl⟩
        refine wl_nil ?_
        replace h := Option.some.inj h
        subst h
        exact pn_meetG ((r5_4.1.ID, r5_4.1.Kind, r5_4.1.Period.From, r5_4.1.Period.To, r5_4.1.Perils, r5_4.1.Areas, r5_4.1.Risk, r5_4.1.Cession, r5_4.1.Line, r5_4.1.Lines, r5_4.1.Retention, r5_4.1.Limit, r5_4.1.Window, r5_4.1.Deductible, r5_4.1.Aggregate, r5_4.1.Premium, r5_4.1.Reinstatements, r5_4.1.Timed, r5_4.1.Base, r5_4.1.Inures, r5_4.1.Parts), b5_5, y5_4A0, r5_4.1.Perils.length, y5_4c0, y5_4A1, r5_4.1.Areas.length, y5_4c1, y5_4A2, r5_4.1.Reinstatements.length, y5_4c2, y5_4A3, r5_4.1.Inures.length, y5_4c3, y5_4A4, r5_4.1.Parts.length, y5_4c4, ()) rfl ⟨rfl, rfl, rfl, rfl, rfl, trivial⟩ (fun _ h => h.to ⟨_, (rs (rs (rs (rs (rs (rs r0)))))), ⟨_, (rs (rs (rs (rs (rs r0))))), ⟨_, (rs (rs (rs (rs r0)))), ⟨_, (rs (rs r0)), ⟨_, (rs r0), trivial⟩⟩⟩⟩⟩ ⟨(ms (ms (ms (ms (ms (ms (ms (ms (ms (ms (ms (ms (ms (ms m0)))))))))))))), ⟨(ms (ms (ms (ms (ms (ms (ms (ms (ms (ms (ms (ms (ms (ms (ms m0))))))))))))))), ⟨(ms (ms (ms (ms (ms (ms (ms (ms (ms (ms (ms (ms (ms (ms (ms (ms m0)))))))))))))))), ⟨(ms (ms (ms (ms (ms (ms (ms (ms (ms (ms (ms (ms (ms (ms (ms (ms (ms m0))))))))))))))))), ⟨(ms (ms (ms (ms (ms (ms (ms (ms (ms (ms (ms (ms (ms (ms (ms (ms (ms (ms m0)))))))))))))))))), ⟨(ms (ms (ms (ms (ms (ms (ms (ms (ms (ms (ms m0))))))))))), ⟨(ms (ms (ms (ms (ms (ms (ms (ms (ms (ms m0)))))))))), ⟨(ms (ms (ms (ms (ms (ms (ms (ms (ms m0))))))))), ⟨(ms (ms (ms (ms (ms (ms (ms (ms m0)))))))), ⟨(ms (ms (ms (ms (ms (ms (ms m0))))))), ⟨m0, ⟨(ms m0), ⟨(ms (ms m0)), ⟨(ms (ms (ms m0))), ⟨(ms (ms (ms (ms m0)))), trivial⟩⟩⟩⟩⟩⟩⟩⟩⟩⟩⟩⟩⟩⟩⟩)
      refine hx_or ?_ trivial
      refine hx_mut rfl rfl rfl (act_alloc (cs := [_, _, _, _, _, _, _, _, _, _, _, _, _, _, _, _, _, _, _, _, _]) zr49 rfl) rfl (by rintro _ _ _ ⟨b5_5, rfl, rfl, rfl⟩ w hs; exact hs.to ⟨_, (rs r0), ⟨_, (rs r0), ⟨_, (rs r0), ⟨_, (rs r0), ⟨_, (rs r0), trivial⟩⟩⟩⟩⟩ ⟨m0, ⟨(ms m0), ⟨(ms (ms m0)), ⟨(ms (ms (ms m0))), ⟨(ms (ms (ms (ms m0)))), ⟨(ms (ms (ms (ms (ms m0))))), ⟨(ms (ms (ms (ms (ms (ms m0)))))), ⟨(ms (ms (ms (ms (ms (ms (ms m0))))))), ⟨(ms (ms (ms (ms (ms (ms (ms (ms m0)))))))), ⟨(ms (ms (ms (ms (ms (ms (ms (ms (ms m0))))))))), ⟨(ms (ms (ms (ms (ms (ms (ms (ms (ms (ms m0)))))))))), ⟨(ms (ms (ms (ms (ms (ms (ms (ms (ms (ms (ms m0))))))))))), ⟨(ms (ms (ms (ms (ms (ms (ms (ms (ms (ms (ms (ms m0)))))))))))), ⟨(ms (ms (ms (ms (ms (ms (ms (ms (ms (ms (ms (ms (ms m0))))))))))))), trivial⟩⟩⟩⟩⟩⟩⟩⟩⟩⟩⟩⟩⟩⟩) ?_
      rintro _ _ _ ⟨b5_5, rfl, rfl, rfl⟩
      obtain ⟨r5_2, hr5_2, h⟩ := bind_some h
      refine hx_mut rfl rfl rfl (act_callS (cap := []) (W_treatymade_New a3 A18 a3.length c18 r5_2 hr5_2) rfl rfl rfl bd16 rfl ⟨(ms (ms (ms (ms (ms (ms (ms (ms (ms (ms (ms (ms (ms m0))))))))))))), trivial⟩) rfl (by rintro _ _ _ ⟨_, _, ⟨y5_2b0, y5_2A1, y5_2n1, y5_2c1, rfl, rfl, rfl⟩, rfl, rfl⟩ w hs; exact hs.to ⟨_, (rs (rs r0)), ⟨_, (rs (rs r0)), ⟨_, (rs (rs r0)), ⟨_, (rs (rs r0)), ⟨_, (rs (rs r0)), trivial⟩⟩⟩⟩⟩ ⟨(ms m0), ⟨(ms (ms m0)), ⟨(ms (ms (ms m0))), ⟨(ms (ms (ms (ms m0)))), ⟨(ms (ms (ms (ms (ms m0))))), ⟨(ms (ms (ms (ms (ms (ms m0)))))), ⟨(ms (ms (ms (ms (ms (ms (ms m0))))))), ⟨(ms (ms (ms (ms (ms (ms (ms (ms m0)))))))), ⟨(ms (ms (ms (ms (ms (ms (ms (ms (ms m0))))))))), ⟨(ms (ms (ms (ms (ms (ms (ms (ms (ms (ms m0)))))))))), ⟨(ms (ms (ms (ms (ms (ms (ms (ms (ms (ms (ms m0))))))))))), ⟨(ms (ms (ms (ms (ms (ms (ms (ms (ms (ms (ms (ms m0)))))))))))), ⟨(ms (ms (ms (ms (ms (ms (ms (ms (ms (ms (ms (ms (ms m0))))))))))))), ⟨(ms (ms (ms (ms (ms (ms (ms (ms (ms (ms (ms (ms (ms (ms m0)))))))))))))), trivial⟩⟩⟩⟩⟩⟩⟩⟩⟩⟩⟩⟩⟩⟩) ?_
      rintro _ _ _ ⟨_, _, ⟨y5_2b0, y5_2A1, y5_2n1, y5_2c1, rfl, rfl, rfl⟩, rfl, rfl⟩
      dsimp only [List.nil_append, List.cons_append]
      obtain ⟨r5_4, hr5_4, h⟩ := bind_some h
      refine hx_mut rfl rfl rfl (act_callS (cap := []) (W_treatylaw20_spoilt r3_1.1 r5_2 a4 y3_1A0 r3_1.1.Perils.length y3_1c0 y3_1A1 r3_1.1.Areas.length y3_1c1 y3_1A2 r3_1.1.Reinstatements.length y3_1c2 y3_1A3 r3_1.1.Inures.length y3_1c3 y3_1A4 r3_1.1.Parts.length y3_1c4 y5_2b0 y5_2A1 y5_2n1 y5_2c1 r5_4 hr5_4) rfl rfl rfl bd42 ⟨_, r0, rfl⟩ ⟨(ms (ms (ms (ms (ms m0))))), ⟨(ms (ms (ms (ms m0)))), ⟨(ms (ms (ms m0))), ⟨(ms (ms m0)), ⟨(ms m0), ⟨m0, trivial⟩⟩⟩⟩⟩⟩) rfl (by rintro _ _ _ ⟨_, _, ⟨y5_4A0, y5_4n0, y5_4c0, y5_4A1, y5_4n1, y5_4c1, y5_4A2, y5_4n2, y5_4c2, y5_4A3, y5_4n3, y5_4c3, y5_4A4, y5_4n4, y5_4c4, y5_4A5, y5_4n5, y5_4c5, rfl, rfl, rfl⟩, rfl, rfl⟩ w hs; exact hs.to ⟨_, (rs (rs r0)), ⟨_, (rs (rs r0)), ⟨_, (rs (rs r0)), ⟨_, (rs (rs r0)), ⟨_, (rs (rs r0)), trivial⟩⟩⟩⟩⟩ ⟨(ms (ms (ms (ms (ms (ms (ms m0))))))), ⟨(ms (ms (ms (ms (ms (ms (ms (ms m0)))))))), ⟨(ms (ms (ms (ms (ms (ms (ms (ms (ms m0))))))))), ⟨(ms (ms (ms (ms (ms (ms (ms (ms (ms (ms m0)))))))))), ⟨(ms (ms (ms (ms (ms (ms (ms (ms (ms (ms (ms m0))))))))))), ⟨(ms (ms (ms (ms (ms (ms (ms (ms (ms (ms (ms (ms m0)))))))))))), ⟨(ms (ms (ms (ms (ms (ms (ms (ms (ms (ms (ms (ms (ms m0))))))))))))), ⟨(ms (ms (ms (ms (ms (ms (ms (ms (ms (ms (ms (ms (ms (ms m0)))))))))))))), ⟨(ms (ms (ms (ms (ms (ms (ms (ms (ms (ms (ms (ms (ms (ms (ms m0))))))))))))))), ⟨(ms (ms (ms (ms (ms (ms (ms (ms (ms (ms (ms (ms (ms (ms (ms (ms m0)))))))))))))))), ⟨(ms (ms (ms (ms (ms (ms (ms (ms (ms (ms (ms (ms (ms (ms (ms (ms (ms m0))))))))))))))))), ⟨(ms (ms (ms (ms (ms (ms (ms (ms (ms (ms (ms (ms (ms (ms (ms (ms (ms (ms m0)))))))))))))))))), ⟨(ms (ms (ms (ms (ms (ms (ms (ms (ms (ms (ms (ms (ms (ms (ms (ms (ms (ms (ms m0))))))))))))))))))), ⟨(ms (ms (ms (ms (ms (ms (ms (ms (ms (ms (ms (ms (ms (ms (ms (ms (ms (ms (ms (ms m0)))))))))))))))))))), trivial⟩⟩⟩⟩⟩⟩⟩⟩⟩⟩⟩⟩⟩⟩) ?_
      rintro _ _ _ ⟨_, _, ⟨y5_4A0, y5_4n0, y5_4c0, y5_4A1, y5_4n1, y5_4c1, y5_4A2, y5_4n2, y5_4c2, y5_4A3, y5_4n3, y5_4c3, y5_4A4, y5_4n4, y5_4c4, y5_4A5, y5_4n5, y5_4c5, rfl, rfl, rfl⟩, rfl, rfl⟩
      dsimp only [List.nil_append, List.cons_append]
      refine hx_end ?_
      refine wl_know (fun _ h => h.lenF (ms (ms (ms (ms (ms (ms m0))))))) (fun e => ?_)
      subst e
      refine wl_know (fun _ h => h.lenF m0) (fun e => ?_)
      subst e
      refine wl_know (fun _ h => h.lenF (ms m0)) (fun e => ?_)
      subst e
      refine wl_know (fun _ h => h.lenF (ms (ms m0))) (fun e => ?_)
      subst e
      refine wl_know (fun _ h => h.lenF (ms (ms (ms m0)))) (fun e => ?_)
      subst e
      refine wl_know (fun _ h => h.lenF (ms (ms (ms (ms m0))))) (fun e => ?_)
      subst e
      refine wl_know (fun _ h => h.lenF (ms (ms (ms (ms (ms m0)))))) (fun e => ?_)
      subst e
      refine wl_act0 (act_store (cells := [_, _, _, _, _, _, _, _, _, _, _, _, _, _, _, _, _, _, _, _, _]) (cs' := [_, _, _, _, _, _, _, _, _, _, _, _, _, _, _, _, _, _, _, _, _]) rfl rfl rfl (ss s0) (by rfl) (of_decide_eq_true rfl) sz49 ⟨rfl, rfl, rfl, rfl, rfl, rfl, rfl, rfl, rfl, rfl, rfl, rfl, rfl, rfl, rfl, rfl, rfl, rfl, rfl, rfl, rfl, trivial⟩) rfl rfl ?_
      rintro _ _ _ ⟨rfl, rfl⟩
      refine wl_nil ?_
      replace h := Option.some.inj h
      subst h
      exact pn_meetG ((r5_4.1.ID, r5_4.1.Kind, r5_4.1.Period.From, r5_4.1.Period.To, r5_4.1.Perils, r5_4.1.Areas, r5_4.1.Risk, r5_4.1.Cession, r5_4.1.Line, r5_4.1.Lines, r5_4.1.Retention, r5_4.1.Limit, r5_4.1.Window, r5_4.1.Deductible, r5_4.1.Aggregate, r5_4.1.Premium, r5_4.1.Reinstatements, r5_4.1.Timed, r5_4.1.Base, r5_4.1.Inures, r5_4.1.Parts), b5_5, y5_4A0, r5_4.1.Perils.length, y5_4c0, y5_4A1, r5_4.1.Areas.length, y5_4c1, y5_4A2, r5_4.1.Reinstatements.length, y5_4c2, y5_4A3, r5_4.1.Inures.length, y5_4c3, y5_4A4, r5_4.1.Parts.length, y5_4c4, ()) rfl ⟨rfl, rfl, rfl, rfl, rfl, trivial⟩ (fun _ h => h.to ⟨_, (rs (rs (rs (rs (rs (rs r0)))))), ⟨_, (rs (rs (rs (rs (rs r0))))), ⟨_, (rs (rs (rs (rs r0)))), ⟨_, (rs (rs r0)), ⟨_, (rs r0), trivial⟩⟩⟩⟩⟩ ⟨(ms (ms (ms (ms (ms (ms (ms (ms (ms (ms (ms (ms (ms (ms m0)))))))))))))), ⟨(ms (ms (ms (ms (ms (ms (ms (ms (ms (ms (ms (ms (ms (ms (ms m0))))))))))))))), ⟨(ms (ms (ms (ms (ms (ms (ms (ms (ms (ms (ms (ms (ms (ms (ms (ms m0)))))))))))))))), ⟨(ms (ms (ms (ms (ms (ms (ms (ms (ms (ms (ms (ms (ms (ms (ms (ms (ms m0))))))))))))))))), ⟨(ms (ms (ms (ms (ms (ms (ms (ms (ms (ms (ms (ms (ms (ms (ms (ms (ms (ms m0)))))))))))))))))), ⟨(ms (ms (ms (ms (ms (ms (ms (ms (ms (ms (ms m0))))))))))), ⟨(ms (ms (ms (ms (ms (ms (ms (ms (ms (ms m0)))))))))), ⟨(ms (ms (ms (ms (ms (ms (ms (ms (ms m0))))))))), ⟨(ms (ms (ms (ms (ms (ms (ms (ms m0)))))))), ⟨(ms (ms (ms (ms (ms (ms (ms m0))))))), ⟨m0, ⟨(ms m0), ⟨(ms (ms m0)), ⟨(ms (ms (ms m0))), ⟨(ms (ms (ms (ms m0)))), trivial⟩⟩⟩⟩⟩⟩⟩⟩⟩⟩⟩⟩⟩⟩⟩)
    rintro ⟨s12, B12_0, A12_1, n12_1, c12_1, A12_4, n12_4, c12_4, A12_7, n12_7, c12_7, A12_10, n12_10, c12_10, A12_13, n12_13, c12_13, _⟩ e12
    dsimp only at e12 ⊢
    subst e12
    have h := ho12
    refine wc_know (fun _ h => h.lenF (ms (ms (ms (ms (ms (ms (ms (ms (ms (ms m0))))))))))) (fun e => ?_)
    subst e
    refine wc_know (fun _ h => h.lenF (ms (ms (ms (ms (ms (ms (ms (ms (ms (ms (ms m0)))))))))))) (fun e => ?_)
    subst e
    refine wc_know (fun _ h => h.lenF (ms (ms (ms (ms (ms (ms (ms (ms (ms (ms (ms (ms m0))))))))))))) (fun e => ?_)
    subst e
    refine wc_know (fun _ h => h.lenF (ms (ms (ms (ms (ms (ms (ms (ms (ms (ms (ms (ms (ms m0)))))))))))))) (fun e => ?_)
    subst e
    refine wc_know (fun _ h => h.lenF (ms (ms (ms (ms (ms (ms (ms (ms (ms (ms (ms (ms (ms (ms m0))))))))))))))) (fun e => ?_)
    subst e
    obtain ⟨q14, h, ho14⟩ := bind_some h
    refine wc_meetG (G := Bool × Unit) (fun (s14, _) => s14 = q14) (fun (s14, _) => [(10, .bool s14)]) (fun (_, _) => []) (fun (_, _) => []) ?_ ?_
    · obtain ⟨r6_2, hr6_2, h⟩ := bind_some h
      obtain ⟨r6_5, hr6_5, h⟩ := bind_some h
      rcases Bool.eq_false_or_eq_true (r6_2 == r6_5) with hg6_g63 | hg6_g63
      · have h := ifT h hg6_g63
        obtain ⟨r6_10, hr6_10, h⟩ := bind_some h
        obtain ⟨r6_13, hr6_13, h⟩ := bind_some h
        rcases Bool.eq_false_or_eq_true (r6_10 == r6_13) with hg6_g72 | hg6_g72
        · have h := ifT h hg6_g72
          obtain ⟨r6_19, hr6_19, h⟩ := bind_some h
          obtain ⟨r6_22, hr6_22, h⟩ := bind_some h
          rcases Bool.eq_false_or_eq_true (r6_19 == r6_22) with hg6_g81 | hg6_g81
          · have h := ifT h hg6_g81
            obtain ⟨r6_28, hr6_28, h⟩ := bind_some h
            obtain ⟨r6_31, hr6_31, h⟩ := bind_some h
            rcases Bool.eq_false_or_eq_true (r6_28 == r6_31) with hg6_g90 | hg6_g90
            · have h := ifT h hg6_g90
              refine dx_region 37 [[], [], [0, 1], [], [], [0, 1, 2, 3, 4], [0, 1, 2, 3, 4, 5], [0, 1, 2, 3, 4, 5, 6], [0, 1, 2, 3, 4, 5, 6, 7], [0, 1, 2, 3, 4, 5, 6, 7], [0, 1, 2, 3, 4, 5, 6, 7, 8, 9], [0, 1, 2, 3, 4, 5, 6, 7], [0, 1, 2, 3, 4, 5, 6, 7], [0, 1, 2, 3, 4, 5, 6, 7, 8, 9, 10, 11, 12], [0, 1, 2, 3, 4, 5, 6, 7, 8, 9, 10, 11, 12, 13], [0, 1, 2, 3, 4, 5, 6, 7, 8, 9, 10, 11, 12, 13, 14], [0, 1, 2, 3, 4, 5, 6, 7, 8, 9, 10, 11, 12, 13, 14, 15], [0, 1, 2, 3, 4, 5, 6, 7, 8, 9, 10, 11, 12, 13, 14, 15, 16], [0, 1, 2, 3, 4, 5, 6, 7, 8, 9, 10, 11, 12, 13, 14, 15, 16], [0, 1, 2, 3, 4, 5, 6, 7, 8, 9, 10, 11, 12, 13, 14, 15, 16, 17, 18], [0, 1, 2, 3, 4, 5, 6, 7, 8, 9, 10, 11, 12, 13, 14, 15, 16], [0, 1, 2, 3, 4, 5, 6, 7, 8, 9, 10, 11, 12, 13, 14, 15, 16], [0, 1, 2, 3, 4, 5, 6, 7, 8, 9, 10, 11, 12, 13, 14, 15, 16, 17, 18, 19, 20, 21], [0, 1, 2, 3, 4, 5, 6, 7, 8, 9, 10, 11, 12, 13, 14, 15, 16, 17, 18, 19, 20, 21, 22], [0, 1, 2, 3, 4, 5, 6, 7, 8, 9, 10, 11, 12, 13, 14, 15, 16, 17, 18, 19, 20, 21, 22, 23], [0, 1, 2, 3, 4, 5, 6, 7, 8, 9, 10, 11, 12, 13, 14, 15, 16, 17, 18, 19, 20, 21, 22, 23, 24], [0, 1, 2, 3, 4, 5, 6, 7, 8, 9, 10, 11, 12, 13, 14, 15, 16, 17, 18, 19, 20, 21, 22, 23, 24, 25], [0, 1, 2, 3, 4, 5, 6, 7, 8, 9, 10, 11, 12, 13, 14, 15, 16, 17, 18, 19, 20, 21, 22, 23, 24, 25], [0, 1, 2, 3, 4, 5, 6, 7, 8, 9, 10, 11, 12, 13, 14, 15, 16, 17, 18, 19, 20, 21, 22, 23, 24, 25, 26, 27], [0, 1, 2, 3, 4, 5, 6, 7, 8, 9, 10, 11, 12, 13, 14, 15, 16, 17, 18, 19, 20, 21, 22, 23, 24, 25], [0, 1, 2, 3, 4, 5, 6, 7, 8, 9, 10, 11, 12, 13, 14, 15, 16, 17, 18, 19, 20, 21, 22, 23, 24, 25], [0, 1, 2, 3, 4, 5, 6, 7, 8, 9, 10, 11, 12, 13, 14, 15, 16, 17, 18, 19, 20, 21, 22, 23, 24, 25, 26, 27, 28, 29, 30], [0, 1, 2, 3, 4, 5, 6, 7, 8, 9, 10, 11, 12, 13, 14, 15, 16, 17, 18, 19, 20, 21, 22, 23, 24, 25, 26, 27, 28, 29, 30, 31], [0, 1, 2, 3, 4, 5, 6, 7, 8, 9, 10, 11, 12, 13, 14, 15, 16, 17, 18, 19, 20, 21, 22, 23, 24, 25, 26, 27, 28, 29, 30, 31, 32], [0, 1, 2, 3, 4, 5, 6, 7, 8, 9, 10, 11, 12, 13, 14, 15, 16, 17, 18, 19, 20, 21, 22, 23, 24, 25, 26, 27, 28, 29, 30, 31, 32, 33], [0, 1, 2, 3, 4, 5, 6, 7, 8, 9, 10, 11, 12, 13, 14, 15, 16, 17, 18, 19, 20, 21, 22, 23, 24, 25, 26, 27, 28, 29, 30, 31, 32, 33, 34], [0, 1, 2, 3, 4, 5, 6, 7, 8, 9, 10, 11, 12, 13, 14, 15, 16, 17, 18, 19, 20, 21, 22, 23, 24, 25, 26, 27, 28, 29, 30, 31, 32, 33, 34, 35], [0, 1, 2, 3, 4, 5, 6, 7, 8, 9, 10, 11, 12, 13, 14, 15, 16, 17, 18, 19, 20, 21, 22, 23, 24, 25, 26, 27, 28, 29, 30, 31, 32, 33, 34, 35, 36]] mixed (ord := (.det 0 (.det 1 (.det 3 (.det 4 (.alt 2 (.alt 5 (.det 6 (.det 7 (.det 8 (.det 9 (.det 11 (.det 12 (.alt 10 (.alt 13 (.det 14 (.det 15 (.det 16 (.det 17 (.det 18 (.det 20 (.det 21 (.alt 19 (.alt 22 (.det 23 (.det 24 (.det 25 (.det 26 (.det 27 (.det 29 (.det 30 (.alt 28 (.alt 31 (.det 32 (.det 33 (.det 34 (.alt 35 (.det 36 .done) .dead)))) .dead) .dead)))))))) .dead) .dead)))))))) .dead) .dead))))))) .dead) .dead)))))) (by kernel_rfl) ?_   -- region 6
              refine hx_det rfl rfl rfl nofun (det_loadN (cells := [_, _, _, _, _, _, _, _, _, _, _, _, _, _, _, _, _, _, _, _, _]) rfl m0 (by rfl) ag49 sz49) rfl ?_
              refine hx_det rfl rfl rfl nofun (det_loadN (cells := [_, _, _, _, _, _, _, _, _, _]) rfl (ms m0) (by rfl) ag65 sz65) rfl ?_
              refine hx_det rfl rfl rfl nofun (det_loadN (cells := [_, _, _, _, _, _, _, _, _, _, _, _, _, _, _, _, _, _, _, _, _]) rfl m0 (by rfl) ag49 sz49) rfl ?_
              refine hx_det rfl rfl rfl nofun (det_loadN (cells := [_, _, _, _, _, _, _, _, _, _]) rfl (ms m0) (by rfl) ag65 sz65) rfl ?_
              refine hx_act rfl rfl rfl (act_callS (cap := []) (W_contract_Applies a0 a1 A0 a0.Perils.length c0 A3 a0.Areas.length c3 A6 a0.Reinstatements.length c6 A9 a0.Inures.length c9 A12 a0.Parts.length c12 r6_2 hr6_2) rfl rfl rfl bd43 rfl ⟨m0, ⟨(ms m0), ⟨(ms (ms m0)), ⟨(ms (ms (ms m0))), ⟨(ms (ms (ms (ms m0)))), trivial⟩⟩⟩⟩⟩) rfl (by rintro _ _ _ ⟨_, _, _, rfl, rfl⟩; first | exact ⟨_, _, rfl, rfl⟩ | exact ⟨_, [], rfl, rfl⟩) ?_
              rintro _ _ _ ⟨_, _, ⟨rfl, rfl, rfl⟩, rfl, rfl⟩
              dsimp only [List.nil_append, List.cons_append]
              refine hx_act rfl rfl rfl (act_callS (cap := []) (W_treatyref20_Applies a0 a1 A0 a0.Perils.length c0 A3 a0.Areas.length c3 A6 a0.Reinstatements.length c6 A9 a0.Inures.length c9 A12 a0.Parts.length c12 r6_5 hr6_5) rfl rfl rfl bd44 rfl ⟨m0, ⟨(ms m0), ⟨(ms (ms m0)), ⟨(ms (ms (ms m0))), ⟨(ms (ms (ms (ms m0)))), trivial⟩⟩⟩⟩⟩) rfl (by rintro _ _ _ ⟨_, _, _, rfl, rfl⟩; first | exact ⟨_, _, rfl, rfl⟩ | exact ⟨_, [], rfl, rfl⟩) ?_
              rintro _ _ _ ⟨_, _, ⟨rfl, rfl, rfl⟩, rfl, rfl⟩
              dsimp only [List.nil_append, List.cons_append]
              refine hx_det rfl rfl rfl nofun (det_beql rfl rfl un4) rfl ?_
              refine hx_det rfl rfl rfl nofun (det_move rfl) rfl ?_
              refine hx_on rfl rfl rfl rfl rfl hg6_g63 nofun (det_loadN (cells := [_, _, _, _, _, _, _, _, _, _, _, _, _, _, _, _, _, _, _, _, _]) rfl (ms (ms m0)) (by rfl) ag49 sz49) rfl ?_
              refine hx_on rfl rfl rfl rfl rfl hg6_g63 nofun (det_loadN (cells := [_, _, _, _, _, _, _, _, _, _]) rfl (ms m0) (by rfl) ag65 sz65) rfl ?_
              refine hx_on rfl rfl rfl rfl rfl hg6_g63 nofun (det_loadN (cells := [_, _, _, _, _, _, _, _, _, _, _, _, _, _, _, _, _, _, _, _, _]) rfl (ms (ms m0)) (by rfl) ag49 sz49) rfl ?_
              refine hx_on rfl rfl rfl rfl rfl hg6_g63 nofun (det_loadN (cells := [_, _, _, _, _, _, _, _, _, _]) rfl (ms m0) (by rfl) ag65 sz65) rfl ?_
              refine hx_actG rfl rfl rfl rfl rfl hg6_g63 (act_callS (cap := []) (W_contract_Applies r3_1.1 a1 y3_1A0 r3_1.1.Perils.length y3_1c0 y3_1A1 r3_1.1.Areas.length y3_1c1 y3_1A2 r3_1.1.Reinstatements.length y3_1c2 y3_1A3 r3_1.1.Inures.length y3_1c3 y3_1A4 r3_1.1.Parts.length y3_1c4 r6_10 hr6_10) rfl rfl rfl bd43 rfl ⟨(ms (ms (ms (ms (ms m0))))), ⟨(ms (ms (ms (ms (ms (ms m0)))))), ⟨(ms (ms (ms (ms (ms (ms (ms m0))))))), ⟨(ms (ms (ms (ms (ms (ms (ms (ms m0)))))))), ⟨(ms (ms (ms (ms (ms (ms (ms (ms (ms m0))))))))), trivial⟩⟩⟩⟩⟩) rfl (by rintro _ _ _ ⟨_, _, _, rfl, rfl⟩; first | exact ⟨_, _, rfl, rfl⟩ | exact ⟨_, [], rfl, rfl⟩) ?_
              rintro _ _ _ ⟨_, _, ⟨rfl, rfl, rfl⟩, rfl, rfl⟩
              dsimp only [List.nil_append, List.cons_append]
              refine hx_actG rfl rfl rfl rfl rfl hg6_g63 (act_callS (cap := []) (W_treatyref20_Applies r3_1.1 a1 y3_1A0 r3_1.1.Perils.length y3_1c0 y3_1A1 r3_1.1.Areas.length y3_1c1 y3_1A2 r3_1.1.Reinstatements.length y3_1c2 y3_1A3 r3_1.1.Inures.length y3_1c3 y3_1A4 r3_1.1.Parts.length y3_1c4 r6_13 hr6_13) rfl rfl rfl bd44 rfl ⟨(ms (ms (ms (ms (ms m0))))), ⟨(ms (ms (ms (ms (ms (ms m0)))))), ⟨(ms (ms (ms (ms (ms (ms (ms m0))))))), ⟨(ms (ms (ms (ms (ms (ms (ms (ms m0)))))))), ⟨(ms (ms (ms (ms (ms (ms (ms (ms (ms m0))))))))), trivial⟩⟩⟩⟩⟩) rfl (by rintro _ _ _ ⟨_, _, _, rfl, rfl⟩; first | exact ⟨_, _, rfl, rfl⟩ | exact ⟨_, [], rfl, rfl⟩) ?_
              rintro _ _ _ ⟨_, _, ⟨rfl, rfl, rfl⟩, rfl, rfl⟩
              dsimp only [List.nil_append, List.cons_append]
              refine hx_on rfl rfl rfl rfl rfl hg6_g63 nofun (det_beql rfl rfl un4) rfl ?_
              refine hx_det rfl rfl rfl nofun (det_pick_on rfl hg6_g63 rfl rfl) rfl ?_
              refine hx_det rfl rfl rfl nofun (det_move rfl) rfl ?_
              refine hx_on rfl rfl rfl rfl rfl hg6_g72 nofun (det_loadN (cells := [_, _, _, _, _, _, _, _, _, _, _, _, _, _, _, _, _, _, _, _, _]) rfl (ms (ms m0)) (by rfl) ag49 sz49) rfl ?_
              refine hx_on rfl rfl rfl rfl rfl hg6_g72 nofun (det_loadN (cells := [_, _, _, _, _, _, _, _, _, _]) rfl (ms (ms (ms m0))) (by rfl) ag65 sz65) rfl ?_
              refine hx_on rfl rfl rfl rfl rfl hg6_g72 nofun (det_loadN (cells := [_, _, _, _, _, _, _, _, _, _, _, _, _, _, _, _, _, _, _, _, _]) rfl (ms (ms m0)) (by rfl) ag49 sz49) rfl ?_
              refine hx_on rfl rfl rfl rfl rfl hg6_g72 nofun (det_loadN (cells := [_, _, _, _, _, _, _, _, _, _]) rfl (ms (ms (ms m0))) (by rfl) ag65 sz65) rfl ?_
              refine hx_actG rfl rfl rfl rfl rfl hg6_g72 (act_callS (cap := []) (W_contract_Applies r3_1.1 r4_1.1 y3_1A0 r3_1.1.Perils.length y3_1c0 y3_1A1 r3_1.1.Areas.length y3_1c1 y3_1A2 r3_1.1.Reinstatements.length y3_1c2 y3_1A3 r3_1.1.Inures.length y3_1c3 y3_1A4 r3_1.1.Parts.length y3_1c4 r6_19 hr6_19) rfl rfl rfl bd43 rfl ⟨(ms (ms (ms (ms (ms m0))))), ⟨(ms (ms (ms (ms (ms (ms m0)))))), ⟨(ms (ms (ms (ms (ms (ms (ms m0))))))), ⟨(ms (ms (ms (ms (ms (ms (ms (ms m0)))))))), ⟨(ms (ms (ms (ms (ms (ms (ms (ms (ms m0))))))))), trivial⟩⟩⟩⟩⟩) rfl (by rintro _ _ _ ⟨_, _, _, rfl, rfl⟩; first | exact ⟨_, _, rfl, rfl⟩ | exact ⟨_, [], rfl, rfl⟩) ?_
              rintro _ _ _ ⟨_, _, ⟨rfl, rfl, rfl⟩, rfl, rfl⟩
              dsimp only [List.nil_append, List.cons_append]
              refine hx_actG rfl rfl rfl rfl rfl hg6_g72 (act_callS (cap := []) (W_treatyref20_Applies r3_1.1 r4_1.1 y3_1A0 r3_1.1.Perils.length y3_1c0 y3_1A1 r3_1.1.Areas.length y3_1c1 y3_1A2 r3_1.1.Reinstatements.length y3_1c2 y3_1A3 r3_1.1.Inures.length y3_1c3 y3_1A4 r3_1.1.Parts.length y3_1c4 r6_22 hr6_22) rfl rfl rfl bd44 rfl ⟨(ms (ms (ms (ms (ms m0))))), ⟨(ms (ms (ms (ms (ms (ms m0)))))), ⟨(ms (ms (ms (ms (ms (ms (ms m0))))))), ⟨(ms (ms (ms (ms (ms (ms (ms (ms m0)))))))), ⟨(ms (ms (ms (ms (ms (ms (ms (ms (ms m0))))))))), trivial⟩⟩⟩⟩⟩) rfl (by rintro _ _ _ ⟨_, _, _, rfl, rfl⟩; first | exact ⟨_, _, rfl, rfl⟩ | exact ⟨_, [], rfl, rfl⟩) ?_
              rintro _ _ _ ⟨_, _, ⟨rfl, rfl, rfl⟩, rfl, rfl⟩
              dsimp only [List.nil_append, List.cons_append]
              refine hx_on rfl rfl rfl rfl rfl hg6_g72 nofun (det_beql rfl rfl un4) rfl ?_
              refine hx_det rfl rfl rfl nofun (det_pick_on rfl hg6_g72 rfl rfl) rfl ?_
              refine hx_det rfl rfl rfl nofun (det_move rfl) rfl ?_
              refine hx_on rfl rfl rfl rfl rfl hg6_g81 nofun (det_loadN (cells := [_, _, _, _, _, _, _, _, _, _, _, _, _, _, _, _, _, _, _, _, _]) rfl (ms (ms (ms (ms m0)))) (by rfl) ag49 sz49) rfl ?_
              refine hx_on rfl rfl rfl rfl rfl hg6_g81 nofun (det_loadN (cells := [_, _, _, _, _, _, _, _, _, _]) rfl (ms (ms (ms m0))) (by rfl) ag65 sz65) rfl ?_
              refine hx_on rfl rfl rfl rfl rfl hg6_g81 nofun (det_loadN (cells := [_, _, _, _, _, _, _, _, _, _, _, _, _, _, _, _, _, _, _, _, _]) rfl (ms (ms (ms (ms m0)))) (by rfl) ag49 sz49) rfl ?_
              refine hx_on rfl rfl rfl rfl rfl hg6_g81 nofun (det_loadN (cells := [_, _, _, _, _, _, _, _, _, _]) rfl (ms (ms (ms m0))) (by rfl) ag65 sz65) rfl ?_
              refine hx_actG rfl rfl rfl rfl rfl hg6_g81 (act_callS (cap := []) (W_contract_Applies (GTreaty.mk s12.1 s12.2.1 (GPeriod.mk s12.2.2.1 s12.2.2.2.1) s12.2.2.2.2.1 s12.2.2.2.2.2.1 s12.2.2.2.2.2.2.1 s12.2.2.2.2.2.2.2.1 s12.2.2.2.2.2.2.2.2.1 s12.2.2.2.2.2.2.2.2.2.1 s12.2.2.2.2.2.2.2.2.2.2.1 s12.2.2.2.2.2.2.2.2.2.2.2.1 s12.2.2.2.2.2.2.2.2.2.2.2.2.1 s12.2.2.2.2.2.2.2.2.2.2.2.2.2.1 s12.2.2.2.2.2.2.2.2.2.2.2.2.2.2.1 s12.2.2.2.2.2.2.2.2.2.2.2.2.2.2.2.1 s12.2.2.2.2.2.2.2.2.2.2.2.2.2.2.2.2.1 s12.2.2.2.2.2.2.2.2.2.2.2.2.2.2.2.2.2.1 s12.2.2.2.2.2.2.2.2.2.2.2.2.2.2.2.2.2.2.1 s12.2.2.2.2.2.2.2.2.2.2.2.2.2.2.2.2.2.2.2.1 s12.2.2.2.2.2.2.2.2.2.2.2.2.2.2.2.2.2.2.2.2) r4_1.1 A12_1 s12.2.2.2.2.1.length c12_1 A12_4 s12.2.2.2.2.2.1.length c12_4 A12_7 s12.2.2.2.2.2.2.2.2.2.2.2.2.2.2.2.2.1.length c12_7 A12_10 s12.2.2.2.2.2.2.2.2.2.2.2.2.2.2.2.2.2.2.2.1.length c12_10 A12_13 s12.2.2.2.2.2.2.2.2.2.2.2.2.2.2.2.2.2.2.2.2.length c12_13 r6_28 hr6_28) rfl rfl rfl bd43 rfl ⟨(ms (ms (ms (ms (ms (ms (ms (ms (ms (ms m0)))))))))), ⟨(ms (ms (ms (ms (ms (ms (ms (ms (ms (ms (ms m0))))))))))), ⟨(ms (ms (ms (ms (ms (ms (ms (ms (ms (ms (ms (ms m0)))))))))))), ⟨(ms (ms (ms (ms (ms (ms (ms (ms (ms (ms (ms (ms (ms m0))))))))))))), ⟨(ms (ms (ms (ms (ms (ms (ms (ms (ms (ms (ms (ms (ms (ms m0)))))))))))))), trivial⟩⟩⟩⟩⟩) rfl (by rintro _ _ _ ⟨_, _, _, rfl, rfl⟩; first | exact ⟨_, _, rfl, rfl⟩ | exact ⟨_, [], rfl, rfl⟩) ?_
              rintro _ _ _ ⟨_, _, ⟨rfl, rfl, rfl⟩, rfl, rfl⟩
              dsimp only [List.nil_append, List.cons_append]
              refine hx_actG rfl rfl rfl rfl rfl hg6_g81 (act_callS (cap := []) (W_treatyref20_Applies (GTreaty.mk s12.1 s12.2.1 (GPeriod.mk s12.2.2.1 s12.2.2.2.1) s12.2.2.2.2.1 s12.2.2.2.2.2.1 s12.2.2.2.2.2.2.1 s12.2.2.2.2.2.2.2.1 s12.2.2.2.2.2.2.2.2.1 s12.2.2.2.2.2.2.2.2.2.1 s12.2.2.2.2.2.2.2.2.2.2.1 s12.2.2.2.2.2.2.2.2.2.2.2.1 s12.2.2.2.2.2.2.2.2.2.2.2.2.1 s12.2.2.2.2.2.2.2.2.2.2.2.2.2.1 s12.2.2.2.2.2.2.2.2.2.2.2.2.2.2.1 s12.2.2.2.2.2.2.2.2.2.2.2.2.2.2.2.1 s12.2.2.2.2.2.2.2.2.2.2.2.2.2.2.2.2.1 s12.2.2.2.2.2.2.2.2.2.2.2.2.2.2.2.2.2.1 s12.2.2.2.2.2.2.2.2.2.2.2.2.2.2.2.2.2.2.1 s12.2.2.2.2.2.2.2.2.2.2.2.2.2.2.2.2.2.2.2.1 s12.2.2.2.2.2.2.2.2.2.2.2.2.2.2.2.2.2.2.2.2) r4_1.1 A12_1 s12.2.2.2.2.1.length c12_1 A12_4 s12.2.2.2.2.2.1.length c12_4 A12_7 s12.2.2.2.2.2.2.2.2.2.2.2.2.2.2.2.2.1.length c12_7 A12_10 s12.2.2.2.2.2.2.2.2.2.2.2.2.2.2.2.2.2.2.2.1.length c12_10 A12_13 s12.2.2.2.2.2.2.2.2.2.2.2.2.2.2.2.2.2.2.2.2.length c12_13 r6_31 hr6_31) rfl rfl rfl bd44 rfl ⟨(ms (ms (ms (ms (ms (ms (ms (ms (ms (ms m0)))))))))), ⟨(ms (ms (ms (ms (ms (ms (ms (ms (ms (ms (ms m0))))))))))), ⟨(ms (ms (ms (ms (ms (ms (ms (ms (ms (ms (ms (ms m0)))))))))))), ⟨(ms (ms (ms (ms (ms (ms (ms (ms (ms (ms (ms (ms (ms m0))))))))))))), ⟨(ms (ms (ms (ms (ms (ms (ms (ms (ms (ms (ms (ms (ms (ms m0)))))))))))))), trivial⟩⟩⟩⟩⟩) rfl (by rintro _ _ _ ⟨_, _, _, rfl, rfl⟩; first | exact ⟨_, _, rfl, rfl⟩ | exact ⟨_, [], rfl, rfl⟩) ?_
              rintro _ _ _ ⟨_, _, ⟨rfl, rfl, rfl⟩, rfl, rfl⟩
              dsimp only [List.nil_append, List.cons_append]
              refine hx_on rfl rfl rfl rfl rfl hg6_g81 nofun (det_beql rfl rfl un4) rfl ?_
              refine hx_det rfl rfl rfl nofun (det_pick_on rfl hg6_g81 rfl rfl) rfl ?_
              refine hx_det rfl rfl rfl nofun (det_move rfl) rfl ?_
              obtain ⟨r6_35, hr6_35, h⟩ := bind_some h
              refine hx_actG rfl rfl rfl rfl rfl hg6_g90 (act_callS (cap := []) (W_treatylaw20_awake r6_35 hr6_35) rfl rfl rfl bd15 rfl trivial) rfl (by rintro _ _ _ ⟨_, _, _, rfl, rfl⟩; first | exact ⟨_, _, rfl, rfl⟩ | exact ⟨_, [], rfl, rfl⟩) ?_
              rintro _ _ _ ⟨_, _, ⟨rfl, rfl, rfl⟩, rfl, rfl⟩
              dsimp only [List.nil_append, List.cons_append]
              refine hx_det rfl rfl rfl nofun (det_pick_on rfl hg6_g90 rfl rfl) rfl ?_
              refine hx_end ?_
              refine wl_det rfl rfl (det_assign rfl) rfl ?_
              refine wl_nil ?_
              replace h := Option.some.inj h
              subst h
              exact pn_meetG (r6_35, ()) rfl ⟨rfl, trivial⟩ (fun _ h => h.to trivial trivial)
            · have h := ifF h hg6_g90
              refine dx_region 37 [[], [], [0, 1], [], [], [0, 1, 2, 3, 4], [0, 1, 2, 3, 4, 5], [0, 1, 2, 3, 4, 5, 6], [0, 1, 2, 3, 4, 5, 6, 7], [0, 1, 2, 3, 4, 5, 6, 7], [0, 1, 2, 3, 4, 5, 6, 7, 8, 9], [0, 1, 2, 3, 4, 5, 6, 7], [0, 1, 2, 3, 4, 5, 6, 7], [0, 1, 2, 3, 4, 5, 6, 7, 8, 9, 10, 11, 12], [0, 1, 2, 3, 4, 5, 6, 7, 8, 9, 10, 11, 12, 13], [0, 1, 2, 3, 4, 5, 6, 7, 8, 9, 10, 11, 12, 13, 14], [0, 1, 2, 3, 4, 5, 6, 7, 8, 9, 10, 11, 12, 13, 14, 15], [0, 1, 2, 3, 4, 5, 6, 7, 8, 9, 10, 11, 12, 13, 14, 15, 16], [0, 1, 2, 3, 4, 5, 6, 7, 8, 9, 10, 11, 12, 13, 14, 15, 16], [0, 1, 2, 3, 4, 5, 6, 7, 8, 9, 10, 11, 12, 13, 14, 15, 16, 17, 18], [0, 1, 2, 3, 4, 5, 6, 7, 8, 9, 10, 11, 12, 13, 14, 15, 16], [0, 1, 2, 3, 4, 5, 6, 7, 8, 9, 10, 11, 12, 13, 14, 15, 16], [0, 1, 2, 3, 4, 5, 6, 7, 8, 9, 10, 11, 12, 13, 14, 15, 16, 17, 18, 19, 20, 21], [0, 1, 2, 3, 4, 5, 6, 7, 8, 9, 10, 11, 12, 13, 14, 15, 16, 17, 18, 19, 20, 21, 22], [0, 1, 2, 3, 4, 5, 6, 7, 8, 9, 10, 11, 12, 13, 14, 15, 16, 17, 18, 19, 20, 21, 22, 23], [0, 1, 2, 3, 4, 5, 6, 7, 8, 9, 10, 11, 12, 13, 14, 15, 16, 17, 18, 19, 20, 21, 22, 23, 24], [0, 1, 2, 3, 4, 5, 6, 7, 8, 9, 10, 11, 12, 13, 14, 15, 16, 17, 18, 19, 20, 21, 22, 23, 24, 25], [0, 1, 2, 3, 4, 5, 6, 7, 8, 9, 10, 11, 12, 13, 14, 15, 16, 17, 18, 19, 20, 21, 22, 23, 24, 25], [0, 1, 2, 3, 4, 5, 6, 7, 8, 9, 10, 11, 12, 13, 14, 15, 16, 17, 18, 19, 20, 21, 22, 23, 24, 25, 26, 27], [0, 1, 2, 3, 4, 5, 6, 7, 8, 9, 10, 11, 12, 13, 14, 15, 16, 17, 18, 19, 20, 21, 22, 23, 24, 25], [0, 1, 2, 3, 4, 5, 6, 7, 8, 9, 10, 11, 12, 13, 14, 15, 16, 17, 18, 19, 20, 21, 22, 23, 24, 25], [0, 1, 2, 3, 4, 5, 6, 7, 8, 9, 10, 11, 12, 13, 14, 15, 16, 17, 18, 19, 20, 21, 22, 23, 24, 25, 26, 27, 28, 29, 30], [0, 1, 2, 3, 4, 5, 6, 7, 8, 9, 10, 11, 12, 13, 14, 15, 16, 17, 18, 19, 20, 21, 22, 23, 24, 25, 26, 27, 28, 29, 30, 31], [0, 1, 2, 3, 4, 5, 6, 7, 8, 9, 10, 11, 12, 13, 14, 15, 16, 17, 18, 19, 20, 21, 22, 23, 24, 25, 26, 27, 28, 29, 30, 31, 32], [0, 1, 2, 3, 4, 5, 6, 7, 8, 9, 10, 11, 12, 13, 14, 15, 16, 17, 18, 19, 20, 21, 22, 23, 24, 25, 26, 27, 28, 29, 30, 31, 32, 33], [0, 1, 2, 3, 4, 5, 6, 7, 8, 9, 10, 11, 12, 13, 14, 15, 16, 17, 18, 19, 20, 21, 22, 23, 24, 25, 26, 27, 28, 29, 30, 31, 32, 33, 34], [0, 1, 2, 3, 4, 5, 6, 7, 8, 9, 10, 11, 12, 13, 14, 15, 16, 17, 18, 19, 20, 21, 22, 23, 24, 25, 26, 27, 28, 29, 30, 31, 32, 33, 34, 35], [0, 1, 2, 3, 4, 5, 6, 7, 8, 9, 10, 11, 12, 13, 14, 15, 16, 17, 18, 19, 20, 21, 22, 23, 24, 25, 26, 27, 28, 29, 30, 31, 32, 33, 34, 35, 36]] mixed (ord := (.det 0 (.det 1 (.det 3 (.det 4 (.alt 2 (.alt 5 (.det 6 (.det 7 (.det 8 (.det 9 (.det 11 (.det 12 (.alt 10 (.alt 13 (.det 14 (.det 15 (.det 16 (.det 17 (.det 18 (.det 20 (.det 21 (.alt 19 (.alt 22 (.det 23 (.det 24 (.det 25 (.det 26 (.det 27 (.det 29 (.det 30 (.alt 28 (.alt 31 (.det 32 (.det 33 (.det 34 (.det 35 (.det 36 .done))))) .dead) .dead)))))))) .dead) .dead)))))))) .dead) .dead))))))) .dead) .dead)))))) (by kernel_rfl) ?_   -- region 6
              refine hx_det rfl rfl rfl nofun (det_loadN (cells := [_, _, _, _, _, _, _, _, _, _, _, _, _, _, _, _, _, _, _, _, _]) rfl m0 (by rfl) ag49 sz49) rfl ?_
              refine hx_det rfl rfl rfl nofun (det_loadN (cells := [_, _, _, _, _, _, _, _, _, _]) rfl (ms m0) (by rfl) ag65 sz65) rfl ?_
              refine hx_det rfl rfl rfl nofun (det_loadN (cells := [_, _, _, _, _, _, _, _, _, _, _, _, _, _, _, _, _, _, _, _, _]) rfl m0 (by rfl) ag49 sz49) rfl ?_
              refine hx_det rfl rfl rfl nofun (det_loadN (cells := [_, _, _, _, _, _, _, _, _, _]) rfl (ms m0) (by rfl) ag65 sz65) rfl ?_
              refine hx_act rfl rfl rfl (act_callS (cap := []) (W_contract_Applies a0 a1 A0 a0.Perils.length c0 A3 a0.Areas.length c3 A6 a0.Reinstatements.length c6 A9 a0.Inures.length c9 A12 a0.Parts.length c12 r6_2 hr6_2) rfl rfl rfl bd43 rfl ⟨m0, ⟨(ms m0), ⟨(ms (ms m0)), ⟨(ms (ms (ms m0))), ⟨(ms (ms (ms (ms m0)))), trivial⟩⟩⟩⟩⟩) rfl (by rintro _ _ _ ⟨_, _, _, rfl, rfl⟩; first | exact ⟨_, _, rfl, rfl⟩ | exact ⟨_, [], rfl, rfl⟩) ?_
              rintro _ _ _ ⟨_, _, ⟨rfl, rfl, rfl⟩, rfl, rfl⟩
              dsimp only [List.nil_append, List.cons_append]
              refine hx_act rfl rfl rfl (act_callS (cap := []) (W_treatyref20_Applies a0 a1 A0 a0.Perils.length c0 A3 a0.Areas.length c3 A6 a0.Reinstatements.length c6 A9 a0.Inures.length c9 A12 a0.Parts.length c12 r6_5 hr6_5) rfl rfl rfl bd44 rfl ⟨m0, ⟨(ms m0), ⟨(ms (ms m0)), ⟨(ms (ms (ms m0))), ⟨(ms (ms (ms (ms m0)))), trivial⟩⟩⟩⟩⟩) rfl (by rintro _ _ _ ⟨_, _, _, rfl, rfl⟩; first | exact ⟨_, _, rfl, rfl⟩ | exact ⟨_, [], rfl, rfl⟩) ?_
              rintro _ _ _ ⟨_, _, ⟨rfl, rfl, rfl⟩, rfl, rfl⟩
              dsimp only [List.nil_append, List.cons_append]
              refine hx_det rfl rfl rfl nofun (det_beql rfl rfl un4) rfl ?_
              refine hx_det rfl rfl rfl nofun (det_move rfl) rfl ?_
              refine hx_on rfl rfl rfl rfl rfl hg6_g63 nofun (det_loadN (cells := [_, _, _, _, _, _, _, _, _, _, _, _, _, _, _, _, _, _, _, _, _]) rfl (ms (ms m0)) (by rfl) ag49 sz49) rfl ?_
              refine hx_on rfl rfl rfl rfl rfl hg6_g63 nofun (det_loadN (cells := [_, _, _, _, _, _, _, _, _, _]) rfl (ms m0) (by rfl) ag65 sz65) rfl ?_
              refine hx_on rfl rfl rfl rfl rfl hg6_g63 nofun (det_loadN (cells := [_, _, _, _, _, _, _, _, _, _, _, _, _, _, _, _, _, _, _, _, _]) rfl (ms (ms m0)) (by rfl) ag49 sz49) rfl ?_
              refine hx_on rfl rfl rfl rfl rfl hg6_g63 nofun (det_loadN (cells := [_, _, _, _, _, _, _, _, _, _]) rfl (ms m0) (by rfl) ag65 sz65) rfl ?_
              refine hx_actG rfl rfl rfl rfl rfl hg6_g63 (act_callS (cap := []) (W_contract_Applies r3_1.1 a1 y3_1A0 r3_1.1.Perils.length y3_1c0 y3_1A1 r3_1.1.Areas.length y3_1c1 y3_1A2 r3_1.1.Reinstatements.length y3_1c2 y3_1A3 r3_1.1.Inures.length y3_1c3 y3_1A4 r3_1.1.Parts.length y3_1c4 r6_10 hr6_10) rfl rfl rfl bd43 rfl ⟨(ms (ms (ms (ms (ms m0))))), ⟨(ms (ms (ms (ms (ms (ms m0)))))), ⟨(ms (ms (ms (ms (ms (ms (ms m0))))))), ⟨(ms (ms (ms (ms (ms (ms (ms (ms m0)))))))), ⟨(ms (ms (ms (ms (ms (ms (ms (ms (ms m0))))))))), trivial⟩⟩⟩⟩⟩) rfl (by rintro _ _ _ ⟨_, _, _, rfl, rfl⟩; first | exact ⟨_, _, rfl, rfl⟩ | exact ⟨_, [], rfl, rfl⟩) ?_
              rintro _ _ _ ⟨_, _, ⟨rfl, rfl, rfl⟩, rfl, rfl⟩
              dsimp only [List.nil_append, List.cons_append]
              refine hx_actG rfl rfl rfl rfl rfl hg6_g63 (act_callS (cap := []) (W_treatyref20_Applies r3_1.1 a1 y3_1A0 r3_1.1.Perils.length y3_1c0 y3_1A1 r3_1.1.Areas.length y3_1c1 y3_1A2 r3_1.1.Reinstatements.length y3_1c2 y3_1A3 r3_1.1.Inures.length y3_1c3 y3_1A4 r3_1.1.Parts.length y3_1c4 r6_13 hr6_13) rfl rfl rfl bd44 rfl ⟨(ms (ms (ms (ms (ms m0))))), ⟨(ms (ms (ms (ms (ms (ms m0)))))), ⟨(ms (ms (ms (ms (ms (ms (ms m0))))))), ⟨(ms (ms (ms (ms (ms (ms (ms (ms m0)))))))), ⟨(ms (ms (ms (ms (ms (ms (ms (ms (ms m0))))))))), trivial⟩⟩⟩⟩⟩) rfl (by rintro _ _ _ ⟨_, _, _, rfl, rfl⟩; first | exact ⟨_, _, rfl, rfl⟩ | exact ⟨_, [], rfl, rfl⟩) ?_
              rintro _ _ _ ⟨_, _, ⟨rfl, rfl, rfl⟩, rfl, rfl⟩
              dsimp only [List.nil_append, List.cons_append]
              refine hx_on rfl rfl rfl rfl rfl hg6_g63 nofun (det_beql rfl rfl un4) rfl ?_
              refine hx_det rfl rfl rfl nofun (det_pick_on rfl hg6_g63 rfl rfl) rfl ?_
              refine hx_det rfl rfl rfl nofun (det_move rfl) rfl ?_
              refine hx_on rfl rfl rfl rfl rfl hg6_g72 nofun (det_loadN (cells := [_, _, _, _, _, _, _, _, _, _, _, _, _, _, _, _, _, _, _, _, _]) rfl (ms (ms m0)) (by rfl) ag49 sz49) rfl ?_
              refine hx_on rfl rfl rfl rfl rfl hg6_g72 nofun (det_loadN (cells := [_, _, _, _, _, _, _, _, _, _]) rfl (ms (ms (ms m0))) (by rfl) ag65 sz65) rfl ?_
              refine hx_on rfl rfl rfl rfl rfl hg6_g72 nofun (det_loadN (cells := [_, _, _, _, _, _, _, _, _, _, _, _, _, _, _, _, _, _, _, _, _]) rfl (ms (ms m0)) (by rfl) ag49 sz49) rfl ?_
              refine hx_on rfl rfl rfl rfl rfl hg6_g72 nofun (det_loadN (cells := [_, _, _, _, _, _, _, _, _, _]) rfl (ms (ms (ms m0))) (by rfl) ag65 sz65) rfl ?_
              refine hx_actG rfl rfl rfl rfl rfl hg6_g72 (act_callS (cap := []) (W_contract_Applies r3_1.1 r4_1.1 y3_1A0 r3_1.1.Perils.length y3_1c0 y3_1A1 r3_1.1.Areas.length y3_1c1 y3_1A2 r3_1.1.Reinstatements.length y3_1c2 y3_1A3 r3_1.1.Inures.length y3_1c3 y3_1A4 r3_1.1.Parts.length y3_1c4 r6_19 hr6_19) rfl rfl rfl bd43 rfl ⟨(ms (ms (ms (ms (ms m0))))), ⟨(ms (ms (ms (ms (ms (ms m0)))))), ⟨(ms (ms (ms (ms (ms (ms (ms m0))))))), ⟨(ms (ms (ms (ms (ms (ms (ms (ms m0)))))))), ⟨(ms (ms (ms (ms (ms (ms (ms (ms (ms m0))))))))), trivial⟩⟩⟩⟩⟩) rfl (by rintro _ _ _ ⟨_, _, _, rfl, rfl⟩; first | exact ⟨_, _, rfl, rfl⟩ | exact ⟨_, [], rfl, rfl⟩) ?_
              rintro _ _ _ ⟨_, _, ⟨rfl, rfl, rfl⟩, rfl, rfl⟩
              dsimp only [List.nil_append, List.cons_append]
              refine hx_actG rfl rfl rfl rfl rfl hg6_g72 (act_callS (cap := []) (W_treatyref20_Applies r3_1.1 r4_1.1 y3_1A0 r3_1.1.Perils.length y3_1c0 y3_1A1 r3_1.1.Areas.length y3_1c1 y3_1A2 r3_1.1.Reinstatements.length y3_1c2 y3_1A3 r3_1.1.Inures.length y3_1c3 y3_1A4 r3_1.1.Parts.length y3_1c4 r6_22 hr6_22) rfl rfl rfl bd44 rfl ⟨(ms (ms (ms (ms (ms m0))))), ⟨(ms (ms (ms (ms (ms (ms m0)))))), ⟨(ms (ms (ms (ms (ms (ms (ms m0))))))), ⟨(ms (ms (ms (ms (ms (ms (ms (ms m0)))))))), ⟨(ms (ms (ms (ms (ms (ms (ms (ms (ms m0))))))))), trivial⟩⟩⟩⟩⟩) rfl (by rintro _ _ _ ⟨_, _, _, rfl, rfl⟩; first | exact ⟨_, _, rfl, rfl⟩ | exact ⟨_, [], rfl, rfl⟩) ?_
              rintro _ _ _ ⟨_, _, ⟨rfl, rfl, rfl⟩, rfl, rfl⟩
              dsimp only [List.nil_append, List.cons_append]
              refine hx_on rfl rfl rfl rfl rfl hg6_g72 nofun (det_beql rfl rfl un4) rfl ?_
              refine hx_det rfl rfl rfl nofun (det_pick_on rfl hg6_g72 rfl rfl) rfl ?_
              refine hx_det rfl rfl rfl nofun (det_move rfl) rfl ?_
              refine hx_on rfl rfl rfl rfl rfl hg6_g81 nofun (det_loadN (cells := [_, _, _, _, _, _, _, _, _, _, _, _, _, _, _, _, _, _, _, _, _]) rfl (ms (ms (ms (ms m0)))) (by rfl) ag49 sz49) rfl ?_
              refine hx_on rfl rfl rfl rfl rfl hg6_g81 nofun (det_loadN (cells := [_, _, _, _, _, _, _, _, _, _]) rfl (ms (ms (ms m0))) (by rfl) ag65 sz65) rfl ?_
              refine hx_on rfl rfl rfl rfl rfl hg6_g81 nofun (det_loadN (cells := [_, _, _, _, _, _, _, _, _, _, _, _, _, _, _, _, _, _, _, _, _]) rfl (ms (ms (ms (ms m0)))) (by rfl) ag49 sz49) rfl ?_
              refine hx_on rfl rfl rfl rfl rfl hg6_g81 nofun (det_loadN (cells := [_, _, _, _, _, _, _, _, _, _]) rfl (ms (ms (ms m0))) (by rfl) ag65 sz65) rfl ?_
              refine hx_actG rfl rfl rfl rfl rfl hg6_g81 (act_callS (cap := []) (W_contract_Applies (GTreaty.mk s12.1 s12.2.1 (GPeriod.mk s12.2.2.1 s12.2.2.2.1) s12.2.2.2.2.1 s12.2.2.2.2.2.1 s12.2.2.2.2.2.2.1 s12.2.2.2.2.2.2.2.1 s12.2.2.2.2.2.2.2.2.1 s12.2.2.2.2.2.2.2.2.2.1 s12.2.2.2.2.2.2.2.2.2.2.1 s12.2.2.2.2.2.2.2.2.2.2.2.1 s12.2.2.2.2.2.2.2.2.2.2.2.2.1 s12.2.2.2.2.2.2.2.2.2.2.2.2.2.1 s12.2.2.2.2.2.2.2.2.2.2.2.2.2.2.1 s12.2.2.2.2.2.2.2.2.2.2.2.2.2.2.2.1 s12.2.2.2.2.2.2.2.2.2.2.2.2.2.2.2.2.1 s12.2.2.2.2.2.2.2.2.2.2.2.2.2.2.2.2.2.1 s12.2.2.2.2.2.2.2.2.2.2.2.2.2.2.2.2.2.2.1 s12.2.2.2.2.2.2.2.2.2.2.2.2.2.2.2.2.2.2.2.1 s12.2.2.2.2.2.2.2.2.2.2.2.2.2.2.2.2.2.2.2.2) r4_1.1 A12_1 s12.2.2.2.2.1.length c12_1 A12_4 s12.2.2.2.2.2.1.length c12_4 A12_7 s12.2.2.2.2.2.2.2.2.2.2.2.2.2.2.2.2.1.length c12_7 A12_10 s12.2.2.2.2.2.2.2.2.2.2.2.2.2.2.2.2.2.2.2.1.length c12_10 A12_13 s12.2.2.2.2.2.2.2.2.2.2.2.2.2.2.2.2.2.2.2.2.length c12_13 r6_28 hr6_28) rfl rfl rfl bd43 rfl ⟨(ms (ms (ms (ms (ms (ms (ms (ms (ms (ms m0)))))))))), ⟨(ms (ms (ms (ms (ms (ms (ms (ms (ms (ms (ms m0))))))))))), ⟨(ms (ms (ms (ms (ms (ms (ms (ms (ms (ms (ms (ms m0)))))))))))), ⟨(ms (ms (ms (ms (ms (ms (ms (ms (ms (ms (ms (ms (ms m0))))))))))))), ⟨(ms (ms (ms (ms (ms (ms (ms (ms (ms (ms (ms (ms (ms (ms m0)))))))))))))), trivial⟩⟩⟩⟩⟩) rfl (by rintro _ _ _ ⟨_, _, _, rfl, rfl⟩; first | exact ⟨_, _, rfl, rfl⟩ | exact ⟨_, [], rfl, rfl⟩) ?_
              rintro _ _ _ ⟨_, _, ⟨rfl, rfl, rfl⟩, rfl, rfl⟩
              dsimp only [List.nil_append, List.cons_append]
              refine hx_actG rfl rfl rfl rfl rfl hg6_g81 (act_callS (cap := []) (W_treatyref20_Applies (GTreaty.mk s12.1 s12.2.1 (GPeriod.mk s12.2.2.1 s12.2.2.2.1) s12.2.2.2.2.1 s12.2.2.2.2.2.1 s12.2.2.2.2.2.2.1 s12.2.2.2.2.2.2.2.1 s12.2.2.2.2.2.2.2.2.1 s12.2.2.2.2.2.2.2.2.2.1 s12.2.2.2.2.2.2.2.2.2.2.1 s12.2.2.2.2.2.2.2.2.2.2.2.1 s12.2.2.2.2.2.2.2.2.2.2.2.2.1 s12.2.2.2.2.2.2.2.2.2.2.2.2.2.1 s12.2.2.2.2.2.2.2.2.2.2.2.2.2.2.1 s12.2.2.2.2.2.2.2.2.2.2.2.2.2.2.2.1 s12.2.2.2.2.2.2.2.2.2.2.2.2.2.2.2.2.1 s12.2.2.2.2.2.2.2.2.2.2.2.2.2.2.2.2.2.1 s12.2.2.2.2.2.2.2.2.2.2.2.2.2.2.2.2.2.2.1 s12.2.2.2.2.2.2.2.2.2.2.2.2.2.2.2.2.2.2.2.1 s12.2.2.2.2.2.2.2.2.2.2.2.2.2.2.2.2.2.2.2.2) r4_1.1 A12_1 s12.2.2.2.2.1.length c12_1 A12_4 s12.2.2.2.2.2.1.length c12_4 A12_7 s12.2.2.2.2.2.2.2.2.2.2.2.2.2.2.2.2.1.length c12_7 A12_10 s12.2.2.2.2.2.2.2.2.2.2.2.2.2.2.2.2.2.2.2.1.length c12_10 A12_13 s12.2.2.2.2.2.2.2.2.2.2.2.2.2.2.2.2.2.2.2.2.length c12_13 r6_31 hr6_31) rfl rfl rfl bd44 rfl ⟨(ms (ms (ms (ms (ms (ms (ms (ms (ms (ms m0)))))))))), ⟨(ms (ms (ms (ms (ms (ms (ms (ms (ms (ms (ms m0))))))))))), ⟨(ms (ms (ms (ms (ms (ms (ms (ms (ms (ms (ms (ms m0)))))))))))), ⟨(ms (ms (ms (ms (ms (ms (ms (ms (ms (ms (ms (ms (ms m0))))))))))))), ⟨(ms (ms (ms (ms (ms (ms (ms (ms (ms (ms (ms (ms (ms (ms m0)))))))))))))), trivial⟩⟩⟩⟩⟩) rfl (by rintro _ _ _ ⟨_, _, _, rfl, rfl⟩; first | exact ⟨_, _, rfl, rfl⟩ | exact ⟨_, [], rfl, rfl⟩) ?_
              rintro _ _ _ ⟨_, _, ⟨rfl, rfl, rfl⟩, rfl, rfl⟩
              dsimp only [List.nil_append, List.cons_append]
              refine hx_on rfl rfl rfl rfl rfl hg6_g81 nofun (det_beql rfl rfl un4) rfl ?_
              refine hx_det rfl rfl rfl nofun (det_pick_on rfl hg6_g81 rfl rfl) rfl ?_
              refine hx_det rfl rfl rfl nofun (det_move rfl) rfl ?_
              refine hx_off rfl rfl rfl rfl rfl hg6_g90 rfl ?_
              refine hx_det rfl rfl rfl nofun (det_pick_off rfl hg6_g90 rfl rfl) rfl ?_
              refine hx_end ?_
              refine wl_det rfl rfl (det_assign rfl) rfl ?_
              refine wl_nil ?_
              replace h := Option.some.inj h
              subst h
              exact pn_meetG (false, ()) rfl ⟨rfl, trivial⟩ (fun _ h => h.to trivial trivial)
          · have h := ifF h hg6_g81
            refine dx_region 37 [[], [], [0, 1], [], [], [0, 1, 2, 3, 4], [0, 1, 2, 3, 4, 5], [0, 1, 2, 3, 4, 5, 6], [0, 1, 2, 3, 4, 5, 6, 7], [0, 1, 2, 3, 4, 5, 6, 7], [0, 1, 2, 3, 4, 5, 6, 7, 8, 9], [0, 1, 2, 3, 4, 5, 6, 7], [0, 1, 2, 3, 4, 5, 6, 7], [0, 1, 2, 3, 4, 5, 6, 7, 8, 9, 10, 11, 12], [0, 1, 2, 3, 4, 5, 6, 7, 8, 9, 10, 11, 12, 13], [0, 1, 2, 3, 4, 5, 6, 7, 8, 9, 10, 11, 12, 13, 14], [0, 1, 2, 3, 4, 5, 6, 7, 8, 9, 10, 11, 12, 13, 14, 15], [0, 1, 2, 3, 4, 5, 6, 7, 8, 9, 10, 11, 12, 13, 14, 15, 16], [0, 1, 2, 3, 4, 5, 6, 7, 8, 9, 10, 11, 12, 13, 14, 15, 16], [0, 1, 2, 3, 4, 5, 6, 7, 8, 9, 10, 11, 12, 13, 14, 15, 16, 17, 18], [0, 1, 2, 3, 4, 5, 6, 7, 8, 9, 10, 11, 12, 13, 14, 15, 16], [0, 1, 2, 3, 4, 5, 6, 7, 8, 9, 10, 11, 12, 13, 14, 15, 16], [0, 1, 2, 3, 4, 5, 6, 7, 8, 9, 10, 11, 12, 13, 14, 15, 16, 17, 18, 19, 20, 21], [0, 1, 2, 3, 4, 5, 6, 7, 8, 9, 10, 11, 12, 13, 14, 15, 16, 17, 18, 19, 20, 21, 22], [0, 1, 2, 3, 4, 5, 6, 7, 8, 9, 10, 11, 12, 13, 14, 15, 16, 17, 18, 19, 20, 21, 22, 23], [0, 1, 2, 3, 4, 5, 6, 7, 8, 9, 10, 11, 12, 13, 14, 15, 16, 17, 18, 19, 20, 21, 22, 23, 24], [0, 1, 2, 3, 4, 5, 6, 7, 8, 9, 10, 11, 12, 13, 14, 15, 16, 17, 18, 19, 20, 21, 22, 23, 24, 25], [0, 1, 2, 3, 4, 5, 6, 7, 8, 9, 10, 11, 12, 13, 14, 15, 16, 17, 18, 19, 20, 21, 22, 23, 24, 25], [0, 1, 2, 3, 4, 5, 6, 7, 8, 9, 10, 11, 12, 13, 14, 15, 16, 17, 18, 19, 20, 21, 22, 23, 24, 25, 26, 27], [0, 1, 2, 3, 4, 5, 6, 7, 8, 9, 10, 11, 12, 13, 14, 15, 16, 17, 18, 19, 20, 21, 22, 23, 24, 25], [0, 1, 2, 3, 4, 5, 6, 7, 8, 9, 10, 11, 12, 13, 14, 15, 16, 17, 18, 19, 20, 21, 22, 23, 24, 25], [0, 1, 2, 3, 4, 5, 6, 7, 8, 9, 10, 11, 12, 13, 14, 15, 16, 17, 18, 19, 20, 21, 22, 23, 24, 25, 26, 27, 28, 29, 30], [0, 1, 2, 3, 4, 5, 6, 7, 8, 9, 10, 11, 12, 13, 14, 15, 16, 17, 18, 19, 20, 21, 22, 23, 24, 25, 26, 27, 28, 29, 30, 31], [0, 1, 2, 3, 4, 5, 6, 7, 8, 9, 10, 11, 12, 13, 14, 15, 16, 17, 18, 19, 20, 21, 22, 23, 24, 25, 26, 27, 28, 29, 30, 31, 32], [0, 1, 2, 3, 4, 5, 6, 7, 8, 9, 10, 11, 12, 13, 14, 15, 16, 17, 18, 19, 20, 21, 22, 23, 24, 25, 26, 27, 28, 29, 30, 31, 32, 33], [0, 1, 2, 3, 4, 5, 6, 7, 8, 9, 10, 11, 12, 13, 14, 15, 16, 17, 18, 19, 20, 21, 22, 23, 24, 25, 26, 27, 28, 29, 30, 31, 32, 33, 34], [0, 1, 2, 3, 4, 5, 6, 7, 8, 9, 10, 11, 12, 13, 14, 15, 16, 17, 18, 19, 20, 21, 22, 23, 24, 25, 26, 27, 28, 29, 30, 31, 32, 33, 34, 35], [0, 1, 2, 3, 4, 5, 6, 7, 8, 9, 10, 11, 12, 13, 14, 15, 16, 17, 18, 19, 20, 21, 22, 23, 24, 25, 26, 27, 28, 29, 30, 31, 32, 33, 34, 35, 36]] mixed (ord := (.det 0 (.det 1 (.det 3 (.det 4 (.alt 2 (.alt 5 (.det 6 (.det 7 (.det 8 (.det 9 (.det 11 (.det 12 (.alt 10 (.alt 13 (.det 14 (.det 15 (.det 16 (.det 17 (.det 18 (.det 20 (.det 21 (.alt 19 (.alt 22 (.det 23 (.det 24 (.det 25 (.det 26 (.det 27 (.det 28 (.det 29 (.det 30 (.det 31 (.det 32 (.det 33 (.det 34 (.det 35 (.det 36 .done)))))))))))))) .dead) .dead)))))))) .dead) .dead))))))) .dead) .dead)))))) (by kernel_rfl) ?_   -- region 6
            refine hx_det rfl rfl rfl nofun (det_loadN (cells := [_, _, _, _, _, _, _, _, _, _, _, _, _, _, _, _, _, _, _, _, _]) rfl m0 (by rfl) ag49 sz49) rfl ?_
            refine hx_det rfl rfl rfl nofun (det_loadN (cells := [_, _, _, _, _, _, _, _, _, _]) rfl (ms m0) (by rfl) ag65 sz65) rfl ?_
            refine hx_det rfl rfl rfl nofun (det_loadN (cells := [_, _, _, _, _, _, _, _, _, _, _, _, _, _, _, _, _, _, _, _, _]) rfl m0 (by rfl) ag49 sz49) rfl ?_
            refine hx_det rfl rfl rfl nofun (det_loadN (cells := [_, _, _, _, _, _, _, _, _, _]) rfl (ms m0) (by rfl) ag65 sz65) rfl ?_
            refine hx_act rfl rfl rfl (act_callS (cap := []) (W_contract_Applies a0 a1 A0 a0.Perils.length c0 A3 a0.Areas.length c3 A6 a0.Reinstatements.length c6 A9 a0.Inures.length c9 A12 a0.Parts.length c12 r6_2 hr6_2) rfl rfl rfl bd43 rfl ⟨m0, ⟨(ms m0), ⟨(ms (ms m0)), ⟨(ms (ms (ms m0))), ⟨(ms (ms (ms (ms m0)))), trivial⟩⟩⟩⟩⟩) rfl (by rintro _ _ _ ⟨_, _, _, rfl, rfl⟩; first | exact ⟨_, _, rfl, rfl⟩ | exact ⟨_, [], rfl, rfl⟩) ?_
            rintro _ _ _ ⟨_, _, ⟨rfl, rfl, rfl⟩, rfl, rfl⟩
            dsimp only [List.nil_append, List.cons_append]
            refine hx_act rfl rfl rfl (act_callS (cap := []) (W_treatyref20_Applies a0 a1 A0 a0.Perils.length c0 A3 a0.Areas.length c3 A6 a0.Reinstatements.length c6 A9 a0.Inures.length c9 A12 a0.Parts.length c12 r6_5 hr6_5) rfl rfl rfl bd44 rfl ⟨m0, ⟨(ms m0), ⟨(ms (ms m0)), ⟨(ms (ms (ms m0))), ⟨(ms (ms (ms (ms m0)))), trivial⟩⟩⟩⟩⟩) rfl (by rintro _ _ _ ⟨_, _, _, rfl, rfl⟩; first | exact ⟨_, _, rfl, rfl⟩ | exact ⟨_, [], rfl, rfl⟩) ?_
            rintro _ _ _ ⟨_, _, ⟨rfl, rfl, rfl⟩, rfl, rfl⟩
            dsimp only [List.nil_append, List.cons_append]
            refine hx_det rfl rfl rfl nofun (det_beql rfl rfl un4) rfl ?_
            refine hx_det rfl rfl rfl nofun (det_move rfl) rfl ?_
            refine hx_on rfl rfl rfl rfl rfl hg6_g63 nofun (det_loadN (cells := [_, _, _, _, _, _, _, _, _, _, _, _, _, _, _, _, _, _, _, _, _]) rfl (ms (ms m0)) (by rfl) ag49 sz49) rfl ?_
            refine hx_on rfl rfl rfl rfl rfl hg6_g63 nofun (det_loadN (cells := [_, _, _, _, _, _, _, _, _, _]) rfl (ms m0) (by rfl) ag65 sz65) rfl ?_
            refine hx_on rfl rfl rfl rfl rfl hg6_g63 nofun (det_loadN (cells := [_, _, _, _, _, _, _, _, _, _, _, _, _, _, _, _, _, _, _, _, _]) rfl (ms (ms m0)) (by rfl) ag49 sz49) rfl ?_
            refine hx_on rfl rfl rfl rfl rfl hg6_g63 nofun (det_loadN (cells := [_, _, _, _, _, _, _, _, _, _]) rfl (ms m0) (by rfl) ag65 sz65) rfl ?_
            refine hx_actG rfl rfl rfl rfl rfl hg6_g63 (act_callS (cap := []) (W_contract_Applies r3_1.1 a1 y3_1A0 r3_1.1.Perils.length y3_1c0 y3_1A1 r3_1.1.Areas.length y3_1c1 y3_1A2 r3_1.1.Reinstatements.length y3_1c2 y3_1A3 r3_1.1.Inures.length y3_1c3 y3_1A4 r3_1.1.Parts.length y3_1c4 r6_10 hr6_10) rfl rfl rfl bd43 rfl ⟨(ms (ms (ms (ms (ms m0))))), ⟨(ms (ms (ms (ms (ms (ms m0)))))), ⟨(ms (ms (ms (ms (ms (ms (ms m0))))))), ⟨(ms (ms (ms (ms (ms (ms (ms (ms m0)))))))), ⟨(ms (ms (ms (ms (ms (ms (ms (ms (ms m0))))))))), trivial⟩⟩⟩⟩⟩) rfl (by rintro _ _ _ ⟨_, _, _, rfl, rfl⟩; first | exact ⟨_, _, rfl, rfl⟩ | exact ⟨_, [], rfl, rfl⟩) ?_
            rintro _ _ _ ⟨_, _, ⟨rfl, rfl, rfl⟩, rfl, rfl⟩
            dsimp only [List.nil_append, List.cons_append]
            refine hx_actG rfl rfl rfl rfl rfl hg6_g63 (act_callS (cap := []) (W_treatyref20_Applies r3_1.1 a1 y3_1A0 r3_1.1.Perils.length y3_1c0 y3_1A1 r3_1.1.Areas.length y3_1c1 y3_1A2 r3_1.1.Reinstatements.length y3_1c2 y3_1A3 r3_1.1.Inures.length y3_1c3 y3_1A4 r3_1.1.Parts.length y3_1c4 r6_13 hr6_13) rfl rfl rfl bd44 rfl ⟨(ms (ms (ms (ms (ms m0))))), ⟨(ms (ms (ms (ms (ms (ms m0)))))), ⟨(ms (ms (ms (ms (ms (ms (ms m0))))))), ⟨(ms (ms (ms (ms (ms (ms (ms (ms m0)))))))), ⟨(ms (ms (ms (ms (ms (ms (ms (ms (ms m0))))))))), trivial⟩⟩⟩⟩⟩) rfl (by rintro _ _ _ ⟨_, _, _, rfl, rfl⟩; first | exact ⟨_, _, rfl, rfl⟩ | exact ⟨_, [], rfl, rfl⟩) ?_
            rintro _ _ _ ⟨_, _, ⟨rfl, rfl, rfl⟩, rfl, rfl⟩
            dsimp only [List.nil_append, List.cons_append]
            refine hx_on rfl rfl rfl rfl rfl hg6_g63 nofun (det_beql rfl rfl un4) rfl ?_
            refine hx_det rfl rfl rfl nofun (det_pick_on rfl hg6_g63 rfl rfl) rfl ?_
            refine hx_det rfl rfl rfl nofun (det_move rfl) rfl ?_
            refine hx_on rfl rfl rfl rfl rfl hg6_g72 nofun (det_loadN (cells := [_, _, _, _, _, _, _, _, _, _, _, _, _, _, _, _, _, _, _, _, _]) rfl (ms (ms m0)) (by rfl) ag49 sz49) rfl ?_
            refine hx_on rfl rfl rfl rfl rfl hg6_g72 nofun (det_loadN (cells := [_, _, _, _, _, _, _, _, _, _]) rfl (ms (ms (ms m0))) (by rfl) ag65 sz65) rfl ?_
            refine hx_on rfl rfl rfl rfl rfl hg6_g72 nofun (det_loadN (cells := [_, _, _, _, _, _, _, _, _, _, _, _, _, _, _, _, _, _, _, _, _]) rfl (ms (ms m0)) (by rfl) ag49 sz49) rfl ?_
            refine hx_on rfl rfl rfl rfl rfl hg6_g72 nofun (det_loadN (cells := [_, _, _, _, _, _, _, _, _, _]) rfl (ms (ms (ms m0))) (by rfl) ag65 sz65) rfl ?_
            refine hx_actG rfl rfl rfl rfl rfl hg6_g72 (act_callS (cap := []) (W_contract_Applies r3_1.1 r4_1.1 y3_1A0 r3_1.1.Perils.length y3_1c0 y3_1A1 r3_1.1.Areas.length y3_1c1 y3_1A2 r3_1.1.Reinstatements.length y3_1c2 y3_1A3 r3_1.1.Inures.length y3_1c3 y3_1A4 r3_1.1.Parts.length y3_1c4 r6_19 hr6_19) rfl rfl rfl bd43 rfl ⟨(ms (ms (ms (ms (ms m0))))), ⟨(ms (ms (ms (ms (ms (ms m0)))))), ⟨(ms (ms (ms (ms (ms (ms (ms m0))))))), ⟨(ms (ms (ms (ms (ms (ms (ms (ms m0)))))))), ⟨(ms (ms (ms (ms (ms (ms (ms (ms (ms m0))))))))), trivial⟩⟩⟩⟩⟩) rfl (by rintro _ _ _ ⟨_, _, _, rfl, rfl⟩; first | exact ⟨_, _, rfl, rfl⟩ | exact ⟨_, [], rfl, rfl⟩) ?_
            rintro _ _ _ ⟨_, _, ⟨rfl, rfl, rfl⟩, rfl, rfl⟩
            dsimp only [List.nil_append, List.cons_append]
            refine hx_actG rfl rfl rfl rfl rfl hg6_g72 (act_callS (cap := []) (W_treatyref20_Applies r3_1.1 r4_1.1 y3_1A0 r3_1.1.Perils.length y3_1c0 y3_1A1 r3_1.1.Areas.length y3_1c1 y3_1A2 r3_1.1.Reinstatements.length y3_1c2 y3_1A3 r3_1.1.Inures.length y3_1c3 y3_1A4 r3_1.1.Parts.length y3_1c4 r6_22 hr6_22) rfl rfl rfl bd44 rfl ⟨(ms (ms (ms (ms (ms m0))))), ⟨(ms (ms (ms (ms (ms (ms m0)))))), ⟨(ms (ms (ms (ms (ms (ms (ms m0))))))), ⟨(ms (ms (ms (ms (ms (ms (ms (ms m0)))))))), ⟨(ms (ms (ms (ms (ms (ms (ms (ms (ms m0))))))))), trivial⟩⟩⟩⟩⟩) rfl (by rintro _ _ _ ⟨_, _, _, rfl, rfl⟩; first | exact ⟨_, _, rfl, rfl⟩ | exact ⟨_, [], rfl, rfl⟩) ?_
            rintro _ _ _ ⟨_, _, ⟨rfl, rfl, rfl⟩, rfl, rfl⟩
            dsimp only [List.nil_append, List.cons_append]
            refine hx_on rfl rfl rfl rfl rfl hg6_g72 nofun (det_beql rfl rfl un4) rfl ?_
            refine hx_det rfl rfl rfl nofun (det_pick_on rfl hg6_g72 rfl rfl) rfl ?_
            refine hx_det rfl rfl rfl nofun (det_move rfl) rfl ?_
            refine hx_off rfl rfl rfl rfl rfl hg6_g81 rfl ?_
            refine hx_off rfl rfl rfl rfl rfl hg6_g81 rfl ?_
            refine hx_off rfl rfl rfl rfl rfl hg6_g81 rfl ?_
            refine hx_off rfl rfl rfl rfl rfl hg6_g81 rfl ?_
            refine hx_off rfl rfl rfl rfl rfl hg6_g81 rfl ?_
            refine hx_off rfl rfl rfl rfl rfl hg6_g81 rfl ?_
            refine hx_off rfl rfl rfl rfl rfl hg6_g81 rfl ?_
            refine hx_det rfl rfl rfl nofun (det_pick_off rfl hg6_g81 rfl rfl) rfl ?_
            refine hx_det rfl rfl rfl nofun (det_move rfl) rfl ?_
            refine hx_off rfl rfl rfl rfl rfl rfl rfl ?_
            refine hx_det rfl rfl rfl nofun (det_pick_off rfl rfl rfl rfl) rfl ?_
            refine hx_end ?_
            refine wl_det rfl rfl (det_assign rfl) rfl ?_
            refine wl_nil ?_
            replace h := Option.some.inj h
            subst h
            exact pn_meetG (false, ()) rfl ⟨rfl, trivial⟩ (fun _ h => h.to trivial trivial)
        · have h := ifF h hg6_g72
          refine dx_region 37 [[], [], [0, 1], [], [], [0, 1, 2, 3, 4], [0, 1, 2, 3, 4, 5], [0, 1, 2, 3, 4, 5, 6], [0, 1, 2, 3, 4, 5, 6, 7], [0, 1, 2, 3, 4, 5, 6, 7], [0, 1, 2, 3, 4, 5, 6, 7, 8, 9], [0, 1, 2, 3, 4, 5, 6, 7], [0, 1, 2, 3, 4, 5, 6, 7], [0, 1, 2, 3, 4, 5, 6, 7, 8, 9, 10, 11, 12], [0, 1, 2, 3, 4, 5, 6, 7, 8, 9, 10, 11, 12, 13], [0, 1, 2, 3, 4, 5, 6, 7, 8, 9, 10, 11, 12, 13, 14], [0, 1, 2, 3, 4, 5, 6, 7, 8, 9, 10, 11, 12, 13, 14, 15], [0, 1, 2, 3, 4, 5, 6, 7, 8, 9, 10, 11, 12, 13, 14, 15, 16], [0, 1, 2, 3, 4, 5, 6, 7, 8, 9, 10, 11, 12, 13, 14, 15, 16], [0, 1, 2, 3, 4, 5, 6, 7, 8, 9, 10, 11, 12, 13, 14, 15, 16, 17, 18], [0, 1, 2, 3, 4, 5, 6, 7, 8, 9, 10, 11, 12, 13, 14, 15, 16], [0, 1, 2, 3, 4, 5, 6, 7, 8, 9, 10, 11, 12, 13, 14, 15, 16], [0, 1, 2, 3, 4, 5, 6, 7, 8, 9, 10, 11, 12, 13, 14, 15, 16, 17, 18, 19, 20, 21], [0, 1, 2, 3, 4, 5, 6, 7, 8, 9, 10, 11, 12, 13, 14, 15, 16, 17, 18, 19, 20, 21, 22], [0, 1, 2, 3, 4, 5, 6, 7, 8, 9, 10, 11, 12, 13, 14, 15, 16, 17, 18, 19, 20, 21, 22, 23], [0, 1, 2, 3, 4, 5, 6, 7, 8, 9, 10, 11, 12, 13, 14, 15, 16, 17, 18, 19, 20, 21, 22, 23, 24], [0, 1, 2, 3, 4, 5, 6, 7, 8, 9, 10, 11, 12, 13, 14, 15, 16, 17, 18, 19, 20, 21, 22, 23, 24, 25], [0, 1, 2, 3, 4, 5, 6, 7, 8, 9, 10, 11, 12, 13, 14, 15, 16, 17, 18, 19, 20, 21, 22, 23, 24, 25], [0, 1, 2, 3, 4, 5, 6, 7, 8, 9, 10, 11, 12, 13, 14, 15, 16, 17, 18, 19, 20, 21, 22, 23, 24, 25, 26, 27], [0, 1, 2, 3, 4, 5, 6, 7, 8, 9, 10, 11, 12, 13, 14, 15, 16, 17, 18, 19, 20, 21, 22, 23, 24, 25], [0, 1, 2, 3, 4, 5, 6, 7, 8, 9, 10, 11, 12, 13, 14, 15, 16, 17, 18, 19, 20, 21, 22, 23, 24, 25], [0, 1, 2, 3, 4, 5, 6, 7, 8, 9, 10, 11, 12, 13, 14, 15, 16, 17, 18, 19, 20, 21, 22, 23, 24, 25, 26, 27, 28, 29, 30], [0, 1, 2, 3, 4, 5, 6, 7, 8, 9, 10, 11, 12, 13, 14, 15, 16, 17, 18, 19, 20, 21, 22, 23, 24, 25, 26, 27, 28, 29, 30, 31], [0, 1, 2, 3, 4, 5, 6, 7, 8, 9, 10, 11, 12, 13, 14, 15, 16, 17, 18, 19, 20, 21, 22, 23, 24, 25, 26, 27, 28, 29, 30, 31, 32], [0, 1, 2, 3, 4, 5, 6, 7, 8, 9, 10, 11, 12, 13, 14, 15, 16, 17, 18, 19, 20, 21, 22, 23, 24, 25, 26, 27, 28, 29, 30, 31, 32, 33], [0, 1, 2, 3, 4, 5, 6, 7, 8, 9, 10, 11, 12, 13, 14, 15, 16, 17, 18, 19, 20, 21, 22, 23, 24, 25, 26, 27, 28, 29, 30, 31, 32, 33, 34], [0, 1, 2, 3, 4, 5, 6, 7, 8, 9, 10, 11, 12, 13, 14, 15, 16, 17, 18, 19, 20, 21, 22, 23, 24, 25, 26, 27, 28, 29, 30, 31, 32, 33, 34, 35], [0, 1, 2, 3, 4, 5, 6, 7, 8, 9, 10, 11, 12, 13, 14, 15, 16, 17, 18, 19, 20, 21, 22, 23, 24, 25, 26, 27, 28, 29, 30, 31, 32, 33, 34, 35, 36]] mixed (ord := (.det 0 (.det 1 (.det 3 (.det 4 (.alt 2 (.alt 5 (.det 6 (.det 7 (.det 8 (.det 9 (.det 11 (.det 12 (.alt 10 (.alt 13 (.det 14 (.det 15 (.det 16 (.det 17 (.det 18 (.det 19 (.det 20 (.det 21 (.det 22 (.det 23 (.det 24 (.det 25 (.det 26 (.det 27 (.det 28 (.det 29 (.det 30 (.det 31 (.det 32 (.det 33 (.det 34 (.det 35 (.det 36 .done))))))))))))))))))))))) .dead) .dead))))))) .dead) .dead)))))) (by kernel_rfl) ?_   -- region 6
          refine hx_det rfl rfl rfl nofun (det_loadN (cells := [_, _, _, _, _, _, _, _, _, _, _, _, _, _, _, _, _, _, _, _, _]) rfl m0 (by rfl) ag49 sz49) rfl ?_
          refine hx_det rfl rfl rfl nofun (det_loadN (cells := [_, _, _, _, _, _, _, _, _, _]) rfl (ms m0) (by rfl) ag65 sz65) rfl ?_
          refine hx_det rfl rfl rfl nofun (det_loadN (cells := [_, _, _, _, _, _, _, _, _, _, _, _, _, _, _, _, _, _, _, _, _]) rfl m0 (by rfl) ag49 sz49) rfl ?_
          refine hx_det rfl rfl rfl nofun (det_loadN (cells := [_, _, _, _, _, _, _, _, _, _]) rfl (ms m0) (by rfl) ag65 sz65) rfl ?_
          refine hx_act rfl rfl rfl (act_callS (cap := []) (W_contract_Applies a0 a1 A0 a0.Perils.length c0 A3 a0.Areas.length c3 A6 a0.Reinstatements.length c6 A9 a0.Inures.length c9 A12 a0.Parts.length c12 r6_2 hr6_2) rfl rfl rfl bd43 rfl ⟨m0, ⟨(ms m0), ⟨(ms (ms m0)), ⟨(ms (ms (ms m0))), ⟨(ms (ms (ms (ms m0)))), trivial⟩⟩⟩⟩⟩) rfl (by rintro _ _ _ ⟨_, _, _, rfl, rfl⟩; first | exact ⟨_, _, rfl, rfl⟩ | exact ⟨_, [], rfl, rfl⟩) ?_
          rintro _ _ _ ⟨_, _, ⟨rfl, rfl, rfl⟩, rfl, rfl⟩
          dsimp only [List.nil_append, List.cons_append]
          refine hx_act rfl rfl rfl (act_callS (cap := []) (W_treatyref20_Applies a0 a1 A0 a0.Perils.length c0 A3 a0.Areas.length c3 A6 a0.Reinstatements.length c6 A9 a0.Inures.length c9 A12 a0.Parts.length c12 r6_5 hr6_5) rfl rfl rfl bd44 rfl ⟨m0, ⟨(ms m0), ⟨(ms (ms m0)), ⟨(ms (ms (ms m0))), ⟨(ms (ms (ms (ms m0)))), trivial⟩⟩⟩⟩⟩) rfl (by rintro _ _ _ ⟨_, _, _, rfl, rfl⟩; first | exact ⟨_, _, rfl, rfl⟩ | exact ⟨_, [], rfl, rfl⟩) ?_
          rintro _ _ _ ⟨_, _, ⟨rfl, rfl, rfl⟩, rfl, rfl⟩
          dsimp only [List.nil_append, List.cons_append]
          refine hx_det rfl rfl rfl nofun (det_beql rfl rfl un4) rfl ?_
          refine hx_det rfl rfl rfl nofun (det_move rfl) rfl ?_
          refine hx_on rfl rfl rfl rfl rfl hg6_g63 nofun (det_loadN (cells := [_, _, _, _, _, _, _, _, _, _, _, _, _, _, _, _, _, _, _, _, _]) rfl (ms (ms m0)) (by rfl) ag49 sz49) rfl ?_
          refine hx_on rfl rfl rfl rfl rfl hg6_g63 nofun (det_loadN (cells := [_, _, _, _, _, _, _, _, _, _]) rfl (ms m0) (by rfl) ag65 sz65) rfl ?_
          refine hx_on rfl rfl rfl rfl rfl hg6_g63 nofun (det_loadN (cells := [_, _, _, _, _, _, _, _, _, _, _, _, _, _, _, _, _, _, _, _, _]) rfl (ms (ms m0)) (by rfl) ag49 sz49) rfl ?_
          refine hx_on rfl rfl rfl rfl rfl hg6_g63 nofun (det_loadN (cells := [_, _, _, _, _, _, _, _, _, _]) rfl (ms m0) (by rfl) ag65 sz65) rfl ?_
          refine hx_actG rfl rfl rfl rfl rfl hg6_g63 (act_callS (cap := []) (W_contract_Applies r3_1.1 a1 y3_1A0 r3_1.1.Perils.length y3_1c0 y3_1A1 r3_1.1.Areas.length y3_1c1 y3_1A2 r3_1.1.Reinstatements.length y3_1c2 y3_1A3 r3_1.1.Inures.length y3_1c3 y3_1A4 r3_1.1.Parts.length y3_1c4 r6_10 hr6_10) rfl rfl rfl bd43 rfl ⟨(ms (ms (ms (ms (ms m0))))), ⟨(ms (ms (ms (ms (ms (ms m0)))))), ⟨(ms (ms (ms (ms (ms (ms (ms m0))))))), ⟨(ms (ms (ms (ms (ms (ms (ms (ms m0)))))))), ⟨(ms (ms (ms (ms (ms (ms (ms (ms (ms m0))))))))), trivial⟩⟩⟩⟩⟩) rfl (by rintro _ _ _ ⟨_, _, _, rfl, rfl⟩; first | exact ⟨_, _, rfl, rfl⟩ | exact ⟨_, [], rfl, rfl⟩) ?_
          rintro _ _ _ ⟨_, _, ⟨rfl, rfl, rfl⟩, rfl, rfl⟩
          dsimp only [List.nil_append, List.cons_append]
          refine hx_actG rfl rfl rfl rfl rfl hg6_g63 (act_callS (cap := []) (W_treatyref20_Applies r3_1.1 a1 y3_1A0 r3_1.1.Perils.length y3_1c0 y3_1A1 r3_1.1.Areas.length y3_1c1 y3_1A2 r3_1.1.Reinstatements.length y3_1c2 y3_1A3 r3_1.1.Inures.length y3_1c3 y3_1A4 r3_1.1.Parts.length y3_1c4 r6_13 hr6_13) rfl rfl rfl bd44 rfl ⟨(ms (ms (ms (ms (ms m0))))), ⟨(ms (ms (ms (ms (ms (ms m0)))))), ⟨(ms (ms (ms (ms (ms (ms (ms m0))))))), ⟨(ms (ms (ms (ms (ms (ms (ms (ms m0)))))))), ⟨(ms (ms (ms (ms (ms (ms (ms (ms (ms m0))))))))), trivial⟩⟩⟩⟩⟩) rfl (by rintro _ _ _ ⟨_, _, _, rfl, rfl⟩; first | exact ⟨_, _, rfl, rfl⟩ | exact ⟨_, [], rfl, rfl⟩) ?_
          rintro _ _ _ ⟨_, _, ⟨rfl, rfl, rfl⟩, rfl, rfl⟩
          dsimp only [List.nil_append, List.cons_append]
          refine hx_on rfl rfl rfl rfl rfl hg6_g63 nofun (det_beql rfl rfl un4) rfl ?_
          refine hx_det rfl rfl rfl nofun (det_pick_on rfl hg6_g63 rfl rfl) rfl ?_
          refine hx_det rfl rfl rfl nofun (det_move rfl) rfl ?_
          refine hx_off rfl rfl rfl rfl rfl hg6_g72 rfl ?_
          refine hx_off rfl rfl rfl rfl rfl hg6_g72 rfl ?_
          refine hx_off rfl rfl rfl rfl rfl hg6_g72 rfl ?_
          refine hx_off rfl rfl rfl rfl rfl hg6_g72 rfl ?_
          refine hx_off rfl rfl rfl rfl rfl hg6_g72 rfl ?_
          refine hx_off rfl rfl rfl rfl rfl hg6_g72 rfl ?_
          refine hx_off rfl rfl rfl rfl rfl hg6_g72 rfl ?_
          refine hx_det rfl rfl rfl nofun (det_pick_off rfl hg6_g72 rfl rfl) rfl ?_
          refine hx_det rfl rfl rfl nofun (det_move rfl) rfl ?_
          refine hx_off rfl rfl rfl rfl rfl rfl rfl ?_
          refine hx_off rfl rfl rfl rfl rfl rfl rfl ?_
          refine hx_off rfl rfl rfl rfl rfl rfl rfl ?_
          refine hx_off rfl rfl rfl rfl rfl rfl rfl ?_
          refine hx_off rfl rfl rfl rfl rfl rfl rfl ?_
          refine hx_off rfl rfl rfl rfl rfl rfl rfl ?_
          refine hx_off rfl rfl rfl rfl rfl rfl rfl ?_
          refine hx_det rfl rfl rfl nofun (det_pick_off rfl rfl rfl rfl) rfl ?_
          refine hx_det rfl rfl rfl nofun (det_move rfl) rfl ?_
          refine hx_off rfl rfl rfl rfl rfl rfl rfl ?_
          refine hx_det rfl rfl rfl nofun (det_pick_off rfl rfl rfl rfl) rfl ?_
          refine hx_end ?_
          refine wl_det rfl rfl (det_assign rfl) rfl ?_
          refine wl_nil ?_
          replace h := Option.some.inj h
          subst h
          exact pn_meetG (false, ()) rfl ⟨rfl, trivial⟩ (fun _ h => h.to trivial trivial)
      · have h := ifF h hg6_g63
        refine dx_region 37 [[], [], [0, 1], [], [], [0, 1, 2, 3, 4], [0, 1, 2, 3, 4, 5], [0, 1, 2, 3, 4, 5, 6], [0, 1, 2, 3, 4, 5, 6, 7], [0, 1, 2, 3, 4, 5, 6, 7], [0, 1, 2, 3, 4, 5, 6, 7, 8, 9], [0, 1, 2, 3, 4, 5, 6, 7], [0, 1, 2, 3, 4, 5, 6, 7], [0, 1, 2, 3, 4, 5, 6, 7, 8, 9, 10, 11, 12], [0, 1, 2, 3, 4, 5, 6, 7, 8, 9, 10, 11, 12, 13], [0, 1, 2, 3, 4, 5, 6, 7, 8, 9, 10, 11, 12, 13, 14], [0, 1, 2, 3, 4, 5, 6, 7, 8, 9, 10, 11, 12, 13, 14, 15], [0, 1, 2, 3, 4, 5, 6, 7, 8, 9, 10, 11, 12, 13, 14, 15, 16], [0, 1, 2, 3, 4, 5, 6, 7, 8, 9, 10, 11, 12, 13, 14, 15, 16], [0, 1, 2, 3, 4, 5, 6, 7, 8, 9, 10, 11, 12, 13, 14, 15, 16, 17, 18], [0, 1, 2, 3, 4, 5, 6, 7, 8, 9, 10, 11, 12, 13, 14, 15, 16], [0, 1, 2, 3, 4, 5, 6, 7, 8, 9, 10, 11, 12, 13, 14, 15, 16], [0, 1, 2, 3, 4, 5, 6, 7, 8, 9, 10, 11, 12, 13, 14, 15, 16, 17, 18, 19, 20, 21], [0, 1, 2, 3, 4, 5, 6, 7, 8, 9, 10, 11, 12, 13, 14, 15, 16, 17, 18, 19, 20, 21, 22], [0, 1, 2, 3, 4, 5, 6, 7, 8, 9, 10, 11, 12, 13, 14, 15, 16, 17, 18, 19, 20, 21, 22, 23], [0, 1, 2, 3, 4, 5, 6, 7, 8, 9, 10, 11, 12, 13, 14, 15, 16, 17, 18, 19, 20, 21, 22, 23, 24], [0, 1, 2, 3, 4, 5, 6, 7, 8, 9, 10, 11, 12, 13, 14, 15, 16, 17, 18, 19, 20, 21, 22, 23, 24, 25], [0, 1, 2, 3, 4, 5, 6, 7, 8, 9, 10, 11, 12, 13, 14, 15, 16, 17, 18, 19, 20, 21, 22, 23, 24, 25], [0, 1, 2, 3, 4, 5, 6, 7, 8, 9, 10, 11, 12, 13, 14, 15, 16, 17, 18, 19, 20, 21, 22, 23, 24, 25, 26, 27], [0, 1, 2, 3, 4, 5, 6, 7, 8, 9, 10, 11, 12, 13, 14, 15, 16, 17, 18, 19, 20, 21, 22, 23, 24, 25], [0, 1, 2, 3, 4, 5, 6, 7, 8, 9, 10, 11, 12, 13, 14, 15, 16, 17, 18, 19, 20, 21, 22, 23, 24, 25], [0, 1, 2, 3, 4, 5, 6, 7, 8, 9, 10, 11, 12, 13, 14, 15, 16, 17, 18, 19, 20, 21, 22, 23, 24, 25, 26, 27, 28, 29, 30], [0, 1, 2, 3, 4, 5, 6, 7, 8, 9, 10, 11, 12, 13, 14, 15, 16, 17, 18, 19, 20, 21, 22, 23, 24, 25, 26, 27, 28, 29, 30, 31], [0, 1, 2, 3, 4, 5, 6, 7, 8, 9, 10, 11, 12, 13, 14, 15, 16, 17, 18, 19, 20, 21, 22, 23, 24, 25, 26, 27, 28, 29, 30, 31, 32], [0, 1, 2, 3, 4, 5, 6, 7, 8, 9, 10, 11, 12, 13, 14, 15, 16, 17, 18, 19, 20, 21, 22, 23, 24, 25, 26, 27, 28, 29, 30, 31, 32, 33], [0, 1, 2, 3, 4, 5, 6, 7, 8, 9, 10, 11, 12, 13, 14, 15, 16, 17, 18, 19, 20, 21, 22, 23, 24, 25, 26, 27, 28, 29, 30, 31, 32, 33, 34], [0, 1, 2, 3, 4, 5, 6, 7, 8, 9, 10, 11, 12, 13, 14, 15, 16, 17, 18, 19, 20, 21, 22, 23, 24, 25, 26, 27, 28, 29, 30, 31, 32, 33, 34, 35], [0, 1, 2, 3, 4, 5, 6, 7, 8, 9, 10, 11, 12, 13, 14, 15, 16, 17, 18, 19, 20, 21, 22, 23, 24, 25, 26, 27, 28, 29, 30, 31, 32, 33, 34, 35, 36]] mixed (ord := (.det 0 (.det 1 (.det 3 (.det 4 (.alt 2 (.alt 5 (.det 6 (.det 7 (.det 8 (.det 9 (.det 10 (.det 11 (.det 12 (.det 13 (.det 14 (.det 15 (.det 16 (.det 17 (.det 18 (.det 19 (.det 20 (.det 21 (.det 22 (.det 23 (.det 24 (.det 25 (.det 26 (.det 27 (.det 28 (.det 29 (.det 30 (.det 31 (.det 32 (.det 33 (.det 34 (.det 35 (.det 36 .done))))))))))))))))))))))))))))))) .dead) .dead)))))) (by kernel_rfl) ?_   -- region 6
        refine hx_det rfl rfl rfl nofun (det_loadN (cells := [_, _, _, _, _, _, _, _, _, _, _, _, _, _, _, _, _, _, _, _, _]) rfl m0 (by rfl) ag49 sz49) rfl ?_
        refine hx_det rfl rfl rfl nofun (det_loadN (cells := [_, _, _, _, _, _, _, _, _, _]) rfl (ms m0) (by rfl) ag65 sz65) rfl ?_
        refine hx_det rfl rfl rfl nofun (det_loadN (cells := [_, _, _, _, _, _, _, _, _, _, _, _, _, _, _, _, _, _, _, _, _]) rfl m0 (by rfl) ag49 sz49) rfl ?_
        refine hx_det rfl rfl rfl nofun (det_loadN (cells := [_, _, _, _, _, _, _, _, _, _]) rfl (ms m0) (by rfl) ag65 sz65) rfl ?_
        refine hx_act rfl rfl rfl (act_callS (cap := []) (W_contract_Applies a0 a1 A0 a0.Perils.length c0 A3 a0.Areas.length c3 A6 a0.Reinstatements.length c6 A9 a0.Inures.length c9 A12 a0.Parts.length c12 r6_2 hr6_2) rfl rfl rfl bd43 rfl ⟨m0, ⟨(ms m0), ⟨(ms (ms m0)), ⟨(ms (ms (ms m0))), ⟨(ms (ms (ms (ms m0)))), trivial⟩⟩⟩⟩⟩) rfl (by rintro _ _ _ ⟨_, _, _, rfl, rfl⟩; first | exact ⟨_, _, rfl, rfl⟩ | exact ⟨_, [], rfl, rfl⟩) ?_
        rintro _ _ _ ⟨_, _, ⟨rfl, rfl, rfl⟩, rfl, rfl⟩
        dsimp only [List.nil_append, List.cons_append]
        refine hx_act rfl rfl rfl (act_callS (cap := []) (W_treatyref20_Applies a0 a1 A0 a0.Perils.length c0 A3 a0.Areas.length c3 A6 a0.Reinstatements.length c6 A9 a0.Inures.length c9 A12 a0.Parts.length c12 r6_5 hr6_5) rfl rfl rfl bd44 rfl ⟨m0, ⟨(ms m0), ⟨(ms (ms m0)), ⟨(ms (ms (ms m0))), ⟨(ms (ms (ms (ms m0)))), trivial⟩⟩⟩⟩⟩) rfl (by rintro _ _ _ ⟨_, _, _, rfl, rfl⟩; first | exact ⟨_, _, rfl, rfl⟩ | exact ⟨_, [], rfl, rfl⟩) ?_
        rintro _ _ _ ⟨_, _, ⟨rfl, rfl, rfl⟩, rfl, rfl⟩
        dsimp only [List.nil_append, List.cons_append]
        refine hx_det rfl rfl rfl nofun (det_beql rfl rfl un4) rfl ?_
        refine hx_det rfl rfl rfl nofun (det_move rfl) rfl ?_
        refine hx_off rfl rfl rfl rfl rfl hg6_g63 rfl ?_
        refine hx_off rfl rfl rfl rfl rfl hg6_g63 rfl ?_
        refine hx_off rfl rfl rfl rfl rfl hg6_g63 rfl ?_
        refine hx_off rfl rfl rfl rfl rfl hg6_g63 rfl ?_
        refine hx_off rfl rfl rfl rfl rfl hg6_g63 rfl ?_
        refine hx_off rfl rfl rfl rfl rfl hg6_g63 rfl ?_
        refine hx_off rfl rfl rfl rfl rfl hg6_g63 rfl ?_
        refine hx_det rfl rfl rfl nofun (det_pick_off rfl hg6_g63 rfl rfl) rfl ?_
        refine hx_det rfl rfl rfl nofun (det_move rfl) rfl ?_
        refine hx_off rfl rfl rfl rfl rfl rfl rfl ?_
        refine hx_off rfl rfl rfl rfl rfl rfl rfl ?_
        refine hx_off rfl rfl rfl rfl rfl rfl rfl ?_
        refine hx_off rfl rfl rfl rfl rfl rfl rfl ?_
        refine hx_off rfl rfl rfl rfl rfl rfl rfl ?_
        refine hx_off rfl rfl rfl rfl rfl rfl rfl ?_
        refine hx_off rfl rfl rfl rfl rfl rfl rfl ?_
        refine hx_det rfl rfl rfl nofun (det_pick_off rfl rfl rfl rfl) rfl ?_
        refine hx_det rfl rfl rfl nofun (det_move rfl) rfl ?_
        refine hx_off rfl rfl rfl rfl rfl rfl rfl ?_
        refine hx_off rfl rfl rfl rfl rfl rfl rfl ?_
        refine hx_off rfl rfl rfl rfl rfl rfl rfl ?_
        refine hx_off rfl rfl rfl rfl rfl rfl rfl ?_
        refine hx_off rfl rfl rfl rfl rfl rfl rfl ?_
        refine hx_off rfl rfl rfl rfl rfl rfl rfl ?_
        refine hx_off rfl rfl rfl rfl rfl rfl rfl ?_
        refine hx_det rfl rfl rfl nofun (det_pick_off rfl rfl rfl rfl) rfl ?_
        refine hx_det rfl rfl rfl nofun (det_move rfl) rfl ?_
        refine hx_off rfl rfl rfl rfl rfl rfl rfl ?_
        refine hx_det rfl rfl rfl nofun (det_pick_off rfl rfl rfl rfl) rfl ?_
        refine hx_end ?_
        refine wl_det rfl rfl (det_assign rfl) rfl ?_
        refine wl_nil ?_
        replace h := Option.some.inj h
        subst h
        exact pn_meetG (false, ()) rfl ⟨rfl, trivial⟩ (fun _ h => h.to trivial trivial)
    rintro ⟨s14, _⟩ e14
    dsimp only at e14 ⊢
    subst e14
    have h := ho14
    refine wc_ret ?_
    replace h := Option.some.inj h
    subst h
    refine pn_ret (vs := [_]) rfl ⟨rfl, trivial⟩ ⟨rfl, rfl, rfl⟩ (fun _ h => h.to trivial trivial)
end Go.Proofs.Ytlmhmpngjfjfhaa
