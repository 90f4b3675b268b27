/- That functions of the program compute the plain programs of P. Written by a small program. -/
import Derived.Test.YtlmhmpngjfjfhaaWProportionalPremium2
namespace Go.Proofs.Ytlmhmpngjfjfhaa
open Go.RowKit
def Q_treatyref20_Validate (r : Int) : Value → List Ent → List Fact → Prop := fun v θ κ => v = .int .i64 r ∧ θ = [] ∧ κ = []
theorem plains_treatyref20_Validate {r : Int} : ∀ v θ κ, Q_treatyref20_Validate r v θ κ → Plains θ := by
  rintro _ _ _ ⟨rfl, rfl, rfl⟩
  exact trivial
set_option maxHeartbeats 4000000 in
set_option maxRecDepth 100000 in
theorem W_treatyref20_Validate (a0 : GTreaty) (A0 : Option Addr) (n0 : Nat) (c0 : Nat) (A3 : Option Addr) (n3 : Nat) (c3 : Nat) (A6 : Option Addr) (n6 : Nat) (c6 : Nat) (A9 : Option Addr) (n9 : Nat) (c9 : Nat) (A12 : Option Addr) (n12 : Nat) (c12 : Nat) (r : Int) (h : treatyref20_Validate a0 = some r) : Spec Try.prog 59 [.agg #[.int .i64 a0.ID, .int .i64 a0.Kind, .int .i64 a0.Period.From, .int .i64 a0.Period.To, .slice A0 n0 c0, .slice A3 n3 c3, .int .i64 a0.Risk, .int .i64 a0.Cession, .int .i64 a0.Line, .int .i64 a0.Lines, .int .i64 a0.Retention, .int .i64 a0.Limit, .int .i64 a0.Window, .int .i64 a0.Deductible, .int .i64 a0.Aggregate, .int .i64 a0.Premium, .slice A6 n6 c6, .bool a0.Timed, .int .i64 a0.Base, .slice A9 n9 c9, .slice A12 n12 c12]] [] [fV (lSlice (lInt .i64)) (.slice A0 n0 c0) a0.Perils, fV (lSlice (lInt .i64)) (.slice A3 n3 c3) a0.Areas, fV (lSlice (lInt .i64)) (.slice A6 n6 c6) a0.Reinstatements, fV (lSlice (lInt .i64)) (.slice A9 n9 c9) a0.Inures, fV (lSlice lGPart) (.slice A12 n12 c12) a0.Parts] (Q_treatyref20_Validate r) := by
  unfold treatyref20_Validate at h
  refine spec_of (σ := [(0, _)]) Try.func59 rfl rfl rfl rfl ?_
  intro C
  refine wc_know (fun _ h => h.lenF m0) (fun e => ?_)
  subst e
  refine wc_know (fun _ h => h.lenF (ms m0)) (fun e => ?_)
  subst e
  refine wc_know (fun _ h => h.lenF (ms (ms m0))) (fun e => ?_)
  subst e
  refine wc_know (fun _ h => h.lenF (ms (ms (ms m0)))) (fun e => ?_)
  subst e
  refine wc_know (fun _ h => h.lenF (ms (ms (ms (ms m0))))) (fun e => ?_)
  subst e
  refine wc_seq ?_
  refine wc_region ?_   -- region 0
  refine wl_act (act_box (cs := [_, _, _, _, _, _, _, _, _, _, _, _, _, _, _, _, _, _, _, _, _]) rfl rfl) rfl rfl rfl ?_
  rintro _ _ _ ⟨b0_0, rfl, rfl, rfl⟩
  refine wl_det rfl rfl (det_assign rfl) rfl ?_
  refine wl_nil ?_
  refine pn_then ?_
  refine wc_seq ?_
  refine wc_block ?_
  refine wc_seq ?_
  refine wc_region ?_   -- region 1
  refine wl_det rfl rfl (det_field rfl fd49_0 rfl) rfl ?_
  refine wl_det rfl rfl (det_load rfl m0 (by rfl) na3 us3) rfl ?_
  refine wl_det rfl rfl (det_lss rfl rfl) rfl ?_
  refine wl_det rfl rfl (det_move rfl) rfl ?_
  refine wl_way (decide (a0.ID < 1)) ((decide (a0.ID < 1)) || (decide (1048576 < a0.ID))) 4 21 (fun hg => ?_) (fun hg => ?_) ?_
  · have hg1_7 := hg
    refine wl_off rfl rfl rfl rfl rfl hg1_7 rfl ?_
    refine wl_off rfl rfl rfl rfl rfl hg1_7 rfl ?_
    refine wl_off rfl rfl rfl rfl rfl hg1_7 rfl ?_
    refine wl_det rfl rfl (det_or_on (r := (decide (1048576 < a0.ID))) rfl rfl rfl hg1_7) rfl ?_
    exact wl_nil (pn_qnE (ext_cons rfl (ext_skip rfl (ext_skip rfl (ext_skip rfl (ext_skip rfl ext_refl))))) (fun _ h => h))
  · have hg1_7a := hg
    refine wl_on rfl rfl rfl rfl hg1_7a ?_
    refine wl_det rfl rfl (det_field rfl fd49_0 rfl) rfl ?_
    refine wl_on rfl rfl rfl rfl hg1_7a ?_
    refine wl_det rfl rfl (det_load rfl m0 (by rfl) na3 us3) rfl ?_
    refine wl_on rfl rfl rfl rfl hg1_7a ?_
    refine wl_det rfl rfl (det_gtr rfl rfl) rfl ?_
    refine wl_det rfl rfl (det_or_off rfl rfl rfl hg1_7a) rfl ?_
    exact wl_nil (pn_qnE (ext_cons rfl (ext_skip rfl (ext_skip rfl (ext_skip rfl (ext_skip rfl ext_refl))))) (fun _ h => h))
  refine wl_det rfl rfl (det_assign rfl) rfl ?_
  refine wl_nil ?_
  refine pn_then ?_
  refine wc_cond rfl (fun cd6 => ?_) (fun cd6 => ?_)
  · have h := ifT h cd6
    refine wc_seq ?_
    refine wc_region ?_   -- region 2
    refine wl_det rfl rfl (det_assign rfl) rfl ?_
    refine wl_nil ?_
    refine pn_then ?_
    refine wc_ret ?_
    refine pr_block ?_
    refine pr_then ?_
    replace h := Option.some.inj h
    subst h
    refine pn_ret (vs := [_]) rfl ⟨rfl, trivial⟩ ⟨rfl, rfl, rfl⟩ (fun _ h => h.to trivial trivial)
  · have h := ifF h cd6
    refine wc_seq ?_
    refine wc_region ?_   -- region 3
    refine wl_det rfl rfl (det_field rfl fd49_1 rfl) rfl ?_
    refine wl_det rfl rfl (det_load rfl m0 (by rfl) na3 us3) rfl ?_
    refine wl_det rfl rfl (det_lss rfl rfl) rfl ?_
    refine wl_det rfl rfl (det_move rfl) rfl ?_
    refine wl_way (decide (a0.Kind < 1)) ((decide (a0.Kind < 1)) || (decide (6 < a0.Kind))) 4 30 (fun hg => ?_) (fun hg => ?_) ?_
    · have hg3_7 := hg
      refine wl_off rfl rfl rfl rfl rfl hg3_7 rfl ?_
      refine wl_off rfl rfl rfl rfl rfl hg3_7 rfl ?_
      refine wl_off rfl rfl rfl rfl rfl hg3_7 rfl ?_
      refine wl_det rfl rfl (det_or_on (r := (decide (6 < a0.Kind))) rfl rfl rfl hg3_7) rfl ?_
      exact wl_nil (pn_qnE (ext_cons rfl (ext_skip rfl (ext_skip rfl (ext_skip rfl (ext_skip rfl ext_refl))))) (fun _ h => h))
    · have hg3_7a := hg
      refine wl_on rfl rfl rfl rfl hg3_7a ?_
      refine wl_det rfl rfl (det_field rfl fd49_1 rfl) rfl ?_
      refine wl_on rfl rfl rfl rfl hg3_7a ?_
      refine wl_det rfl rfl (det_load rfl m0 (by rfl) na3 us3) rfl ?_
      refine wl_on rfl rfl rfl rfl hg3_7a ?_
      refine wl_det rfl rfl (det_gtr rfl rfl) rfl ?_
      refine wl_det rfl rfl (det_or_off rfl rfl rfl hg3_7a) rfl ?_
      exact wl_nil (pn_qnE (ext_cons rfl (ext_skip rfl (ext_skip rfl (ext_skip rfl (ext_skip rfl ext_refl))))) (fun _ h => h))
    refine wl_det rfl rfl (det_assign rfl) rfl ?_
    refine wl_nil ?_
    refine pn_then ?_
    refine wc_cond rfl (fun cd11 => ?_) (fun cd11 => ?_)
    · have h := ifT h cd11
      refine wc_seq ?_
      refine wc_region ?_   -- region 4
      refine wl_det rfl rfl (det_assign rfl) rfl ?_
      refine wl_nil ?_
      refine pn_then ?_
      refine wc_ret ?_
      refine pr_block ?_
      refine pr_then ?_
      replace h := Option.some.inj h
      subst h
      refine pn_ret (vs := [_]) rfl ⟨rfl, trivial⟩ ⟨rfl, rfl, rfl⟩ (fun _ h => h.to trivial trivial)
    · have h := ifF h cd11
      refine wc_seq ?_
      refine wc_region ?_   -- region 5
      refine wl_det rfl rfl (det_field rfl fd49_2 rfl) rfl ?_
      refine wl_det rfl rfl (det_loadN (cells := [_, _]) rfl m0 (by rfl) ag47 sz47) rfl ?_
      obtain ⟨r5_2, hr5_2, h⟩ := bind_some h
      refine wl_act (act_callS (cap := []) (W_treatyref01_PeriodValid a0.Period r5_2 hr5_2) rfl rfl rfl bd75 rfl trivial) rfl rfl rfl ?_
      rintro _ _ _ ⟨_, _, ⟨rfl, rfl, rfl⟩, rfl, rfl⟩
      dsimp only [List.nil_append, List.cons_append]
      refine wl_det rfl rfl (det_not rfl) rfl ?_
      refine wl_det rfl rfl (det_assign rfl) rfl ?_
      refine wl_nil ?_
      refine pn_then ?_
      refine wc_cond rfl (fun cd16 => ?_) (fun cd16 => ?_)
      · have h := ifT h cd16
        refine wc_seq ?_
        refine wc_region ?_   -- region 6
        refine wl_det rfl rfl (det_assign rfl) rfl ?_
        refine wl_nil ?_
        refine pn_then ?_
        refine wc_ret ?_
        refine pr_block ?_
        refine pr_then ?_
        replace h := Option.some.inj h
        subst h
        refine pn_ret (vs := [_]) rfl ⟨rfl, trivial⟩ ⟨rfl, rfl, rfl⟩ (fun _ h => h.to trivial trivial)
      · have h := ifF h cd16
        refine wc_skip ?_
        refine pn_block ?_
        refine pn_then ?_
        refine wc_seq ?_
        refine wc_seq ?_
        refine wc_region ?_   -- region 7
        refine wl_det rfl rfl (det_field rfl fd49_3 rfl) rfl ?_
        refine wl_det rfl rfl (det_load rfl m0 (by rfl) na23 us23) rfl ?_
        obtain ⟨r7_2, hr7_2, h⟩ := bind_some h
        refine wl_act (act_callS (cap := []) (W_treatyref20_ascending a0.Perils 0 15 A0 a0.Perils.length c0 r7_2 hr7_2) rfl rfl rfl bd76 rfl ⟨m0, trivial⟩) rfl rfl rfl ?_
        rintro _ _ _ ⟨_, _, ⟨rfl, rfl, rfl⟩, rfl, rfl⟩
        dsimp only [List.nil_append, List.cons_append]
        refine wl_det rfl rfl (det_assign rfl) rfl ?_
        refine wl_nil ?_
        refine pn_then ?_
        refine wc_seq ?_
        refine wc_region ?_   -- region 8
        refine wl_det rfl rfl (det_move rfl) rfl ?_
        refine wl_det rfl rfl (det_neq rfl rfl) rfl ?_
        refine wl_nil ?_
        refine pn_then ?_
        refine wc_cond rfl (fun cd24 => ?_) (fun cd24 => ?_)
        · have h := ifT h cd24
          refine wc_seq ?_
          refine wc_region ?_   -- region 9
          refine wl_det rfl rfl (det_move rfl) rfl ?_
          refine wl_det rfl rfl (det_assign rfl) rfl ?_
          refine wl_nil ?_
          refine pn_then ?_
          refine wc_ret ?_
          refine pr_then ?_
          replace h := Option.some.inj h
          subst h
          refine pn_ret (vs := [_]) rfl ⟨rfl, trivial⟩ ⟨rfl, rfl, rfl⟩ (fun _ h => h.to trivial trivial)
        · have h := ifF h cd24
          refine wc_skip ?_
          refine pn_then ?_
          refine wc_seq ?_
          refine wc_seq ?_
          refine wc_region ?_   -- region 10
          refine wl_det rfl rfl (det_field rfl fd49_4 rfl) rfl ?_
          refine wl_det rfl rfl (det_load rfl m0 (by rfl) na23 us23) rfl ?_
          obtain ⟨r10_2, hr10_2, h⟩ := bind_some h
          refine wl_act (act_callS (cap := []) (W_treatyref20_ascending a0.Areas 0 15 A3 a0.Areas.length c3 r10_2 hr10_2) rfl rfl rfl bd76 rfl ⟨(ms m0), trivial⟩) rfl rfl rfl ?_
          rintro _ _ _ ⟨_, _, ⟨rfl, rfl, rfl⟩, rfl, rfl⟩
          dsimp only [List.nil_append, List.cons_append]
          refine wl_det rfl rfl (det_assign rfl) rfl ?_
          refine wl_nil ?_
          refine pn_then ?_
          refine wc_seq ?_
          refine wc_region ?_   -- region 11
          refine wl_det rfl rfl (det_move rfl) rfl ?_
          refine wl_det rfl rfl (det_neq rfl rfl) rfl ?_
          refine wl_nil ?_
          refine pn_then ?_
          refine wc_cond rfl (fun cd32 => ?_) (fun cd32 => ?_)
          · have h := ifT h cd32
            refine wc_seq ?_
            refine wc_region ?_   -- region 12
            refine wl_det rfl rfl (det_move rfl) rfl ?_
            refine wl_det rfl rfl (det_assign rfl) rfl ?_
            refine wl_nil ?_
            refine pn_then ?_
            refine wc_ret ?_
            refine pr_then ?_
            replace h := Option.some.inj h
            subst h
            refine pn_ret (vs := [_]) rfl ⟨rfl, trivial⟩ ⟨rfl, rfl, rfl⟩ (fun _ h => h.to trivial trivial)
          · have h := ifF h cd32
            refine wc_skip ?_
            refine pn_then ?_
            refine wc_seq ?_
            refine dx_region 5 [[], [0], [], [2], [0, 1, 2, 3], [0, 1, 2, 3, 4], [0, 1, 2, 3, 4, 5]] mixed (ord := (.det 0 (.det 2 (.det 3 (.alt 1 (.alt 4 .done .dead) .dead))))) (by kernel_rfl) ?_   -- region 13
            refine hx_det rfl rfl rfl nofun (det_loadN (cells := [_, _, _, _, _, _, _, _, _, _, _, _, _, _, _, _, _, _, _, _, _]) rfl m0 (by rfl) ag49 sz49) rfl ?_
            refine hx_det rfl rfl rfl nofun (det_field rfl fd49_1 rfl) rfl ?_
            refine hx_det rfl rfl rfl nofun (det_load rfl m0 (by rfl) na3 us3) rfl ?_
            obtain ⟨r13_1, hr13_1, h⟩ := bind_some h
            refine hx_act rfl rfl rfl (act_callS (cap := []) (W_treatyref20_numbers a0 A0 a0.Perils.length c0 A3 a0.Areas.length c3 A6 a0.Reinstatements.length c6 A9 a0.Inures.length c9 A12 a0.Parts.length c12 r13_1 hr13_1) rfl rfl rfl bd77 rfl ⟨m0, ⟨(ms m0), ⟨(ms (ms m0)), ⟨(ms (ms (ms m0))), ⟨(ms (ms (ms (ms m0)))), trivial⟩⟩⟩⟩⟩) rfl (by rintro _ _ _ ⟨_, _, _, rfl, rfl⟩; first | exact ⟨_, _, rfl, rfl⟩ | exact ⟨_, [], rfl, rfl⟩) ?_
            rintro _ _ _ ⟨_, _, ⟨y13_1A0, y13_1n0, y13_1c0, rfl, rfl, rfl⟩, rfl, rfl⟩
            dsimp only [List.nil_append, List.cons_append]
            obtain ⟨r13_4, hr13_4, h⟩ := bind_some h
            refine hx_act rfl rfl rfl (act_callS (cap := []) (W_treatyref20_least a0.Kind r13_4 hr13_4) rfl rfl rfl bd78 rfl trivial) rfl (by rintro _ _ _ ⟨_, _, _, rfl, rfl⟩; first | exact ⟨_, _, rfl, rfl⟩ | exact ⟨_, [], rfl, rfl⟩) ?_
            rintro _ _ _ ⟨_, _, ⟨y13_4A0, y13_4n0, y13_4c0, rfl, rfl, rfl⟩, rfl, rfl⟩
            dsimp only [List.nil_append, List.cons_append]
            refine hx_end ?_
            refine wl_know (fun _ h => h.lenO (ms m0)) (fun e => ?_)
            subst e
            refine wl_know (fun _ h => h.lenO m0) (fun e => ?_)
            subst e
            refine wl_det rfl rfl (det_assign rfl) rfl ?_
            refine wl_det rfl rfl (det_assign rfl) rfl ?_
            refine wl_nil ?_
            refine pn_then ?_
            refine wc_seq ?_
            refine wc_region ?_   -- region 14
            refine wl_act (act_litS (lInt .i64) (vs := [_, _, _, _, _, _, _, _, _, _]) (cs := [_, _, _, _, _, _, _, _, _, _]) [1048576, 1000000, 1073741824, 100, 1073741824, 1073741824, 8784, 1073741824, 1073741824, 1000000000] un23 in3 rfl rfl rfl rfl rfl ⟨rfl, rfl, rfl, rfl, rfl, rfl, rfl, rfl, rfl, rfl, trivial⟩ (by rfl) rfl (litR_flat rfl)) rfl rfl rfl ?_
            rintro _ _ _ ⟨A14_0, rfl, rfl, rfl⟩
            refine wl_det rfl rfl (det_assign rfl) rfl ?_
            refine wl_nil ?_
            refine pn_then ?_
            obtain ⟨q39, h, ho39⟩ := bind_some h
            refine wc_meetG (G := Unit × Unit) (fun (s39, _) => (.inl s39) = q39) (fun (_, _) => [(1, .pointer (some ⟨b0_0, 0, none⟩)), (5, .slice y13_1A0 r13_1.length y13_1c0), (6, .slice y13_4A0 r13_4.length y13_4c0), (7, .slice A14_0 10 10)]) (fun (_, _) => [eBlk b0_0 49 [.int .i64 a0.ID, .int .i64 a0.Kind, .int .i64 a0.Period.From, .int .i64 a0.Period.To, .slice A0 a0.Perils.length c0, .slice A3 a0.Areas.length c3, .int .i64 a0.Risk, .int .i64 a0.Cession, .int .i64 a0.Line, .int .i64 a0.Lines, .int .i64 a0.Retention, .int .i64 a0.Limit, .int .i64 a0.Window, .int .i64 a0.Deductible, .int .i64 a0.Aggregate, .int .i64 a0.Premium, .slice A6 a0.Reinstatements.length c6, .bool a0.Timed, .int .i64 a0.Base, .slice A9 a0.Inures.length c9, .slice A12 a0.Parts.length c12], eS (lInt .i64) 3 y13_1A0 r13_1.length y13_1c0 r13_1, eS (lInt .i64) 3 y13_4A0 r13_4.length y13_4c0 r13_4, eS (lInt .i64) 3 A14_0 10 10 [1048576, 1000000, 1073741824, 100, 1073741824, 1073741824, 8784, 1073741824, 1073741824, 1000000000]]) (fun (_, _) => [fV (lSlice (lInt .i64)) (.slice A0 a0.Perils.length c0) a0.Perils, fV (lSlice (lInt .i64)) (.slice A3 a0.Areas.length c3) a0.Areas, fV (lSlice (lInt .i64)) (.slice A6 a0.Reinstatements.length c6) a0.Reinstatements, fV (lSlice (lInt .i64)) (.slice A9 a0.Inures.length c9) a0.Inures, fV (lSlice lGPart) (.slice A12 a0.Parts.length c12) a0.Parts]) ?_ ?_
            · refine wc_seq ?_
              refine wc_region ?_   -- region 15
              refine wl_det rfl rfl (det_assign rfl) rfl ?_
              refine wl_nil ?_
              refine pn_then ?_
              refine wc_block ?_
              obtain ⟨o43, h, ho43⟩ := bind_some h
              obtain ⟨k43, hk43⟩ := loopV_some.1 h
              refine wc_loop (G := Nat × Int × Unit) (fun g => IterN (treatyref20_Validate_l43 r13_1 r13_4) g.1 g.2.1 o43) (fun g => g.1) (fun (_, s43, _) => [(1, .pointer (some ⟨b0_0, 0, none⟩)), (5, .slice y13_1A0 r13_1.length y13_1c0), (6, .slice y13_4A0 r13_4.length y13_4c0), (7, .slice A14_0 10 10), (8, .int .i64 s43)]) (fun (_, _, _) => [eBlk b0_0 49 [.int .i64 a0.ID, .int .i64 a0.Kind, .int .i64 a0.Period.From, .int .i64 a0.Period.To, .slice A0 a0.Perils.length c0, .slice A3 a0.Areas.length c3, .int .i64 a0.Risk, .int .i64 a0.Cession, .int .i64 a0.Line, .int .i64 a0.Lines, .int .i64 a0.Retention, .int .i64 a0.Limit, .int .i64 a0.Window, .int .i64 a0.Deductible, .int .i64 a0.Aggregate, .int .i64 a0.Premium, .slice A6 a0.Reinstatements.length c6, .bool a0.Timed, .int .i64 a0.Base, .slice A9 a0.Inures.length c9, .slice A12 a0.Parts.length c12], eS (lInt .i64) 3 y13_1A0 r13_1.length y13_1c0 r13_1, eS (lInt .i64) 3 y13_4A0 r13_4.length y13_4c0 r13_4, eS (lInt .i64) 3 A14_0 10 10 [1048576, 1000000, 1073741824, 100, 1073741824, 1073741824, 8784, 1073741824, 1073741824, 1000000000]]) (fun (_, _, _) => [fV (lSlice (lInt .i64)) (.slice A0 a0.Perils.length c0) a0.Perils, fV (lSlice (lInt .i64)) (.slice A3 a0.Areas.length c3) a0.Areas, fV (lSlice (lInt .i64)) (.slice A6 a0.Reinstatements.length c6) a0.Reinstatements, fV (lSlice (lInt .i64)) (.slice A9 a0.Inures.length c9) a0.Inures, fV (lSlice lGPart) (.slice A12 a0.Parts.length c12) a0.Parts]) (k43, 0, ()) hk43 ⟨rfl, rfl, rfl, rfl, rfl, trivial⟩ (fun _ h => h.to ⟨_, (rs (rs (rs r0))), ⟨_, (rs (rs r0)), ⟨_, (rs r0), ⟨_, r0, trivial⟩⟩⟩⟩ ⟨m0, ⟨(ms m0), ⟨(ms (ms m0)), ⟨(ms (ms (ms m0))), ⟨(ms (ms (ms (ms m0)))), trivial⟩⟩⟩⟩⟩) ?_
              rintro ⟨k43, s43, _⟩ hI
              obtain ⟨k43, rfl, q43, h, g43⟩ := IterN.pos hI
              dsimp only at h ⊢
              unfold treatyref20_Validate_l43 at h
              refine wc_seq ?_
              refine wc_seq ?_
              refine wc_region ?_   -- region 16
              refine wl_det rfl rfl (det_move rfl) rfl ?_
              refine wl_det rfl rfl (det_move rfl) rfl ?_
              refine wl_det rfl rfl (det_len rfl un23) rfl ?_
              refine wl_det rfl rfl (det_lss rfl rfl) rfl ?_
              refine wl_nil ?_
              refine pn_then ?_
              refine wc_cond rfl (fun cd47 => ?_) (fun cd47 => ?_)
              · have h := ifT h cd47
                refine wc_skip ?_
                refine pn_then ?_
                refine wc_seq ?_
                refine wc_block ?_
                refine wc_seq ?_
                refine wc_region ?_   -- region 18
                refine wl_det rfl rfl (det_move rfl) rfl ?_
                refine wl_det rfl rfl (det_move rfl) rfl ?_
                obtain ⟨k18_2, h⟩ := chk_some h
                refine wl_det rfl rfl (det_indexO rfl rfl (ms (ms m0)) k18_2 un23 sz3) rfl ?_
                refine wl_det rfl rfl (det_loadO (off := 0) rfl (ms (ms m0)) k18_2 (by rfl) (by rfl) (loaded_1 na3 us3)) rfl ?_
                refine wl_det rfl rfl (det_lss rfl rfl) rfl ?_
                refine wl_det rfl rfl (det_move rfl) rfl ?_
                obtain ⟨q18_11, hq18_11, h⟩ := bind_some h
                have ho18_11 := h
                refine wl_way (decide ((ix r13_4 s43) < 0)) q18_11 6 71 (fun hg => ?_) (fun hg => ?_) ?_
                · have hg18_11 := hg
                  have h := ifT hq18_11 hg
                  refine wl_on rfl rfl rfl rfl hg18_11 ?_
                  refine wl_det rfl rfl (det_move rfl) rfl ?_
                  refine wl_on rfl rfl rfl rfl hg18_11 ?_
                  refine wl_det rfl rfl (det_move rfl) rfl ?_
                  refine wl_on rfl rfl rfl rfl hg18_11 ?_
                  obtain ⟨k18_8, h⟩ := chk_some h
                  refine wl_det rfl rfl (det_indexO rfl rfl (ms m0) k18_8 un23 sz3) rfl ?_
                  refine wl_on rfl rfl rfl rfl hg18_11 ?_
                  refine wl_det rfl rfl (det_loadO (off := 0) rfl (ms m0) k18_8 (by rfl) (by rfl) (loaded_1 na3 us3)) rfl ?_
                  refine wl_on rfl rfl rfl rfl hg18_11 ?_
                  refine wl_det rfl rfl (det_neq rfl rfl) rfl ?_
                  replace h := Option.some.inj h
                  subst h
                  refine wl_det rfl rfl (det_pick_on rfl hg18_11 rfl rfl) rfl ?_
                  exact wl_nil (pn_qnE (ext_cons rfl (ext_skip rfl (ext_skip rfl (ext_skip rfl (ext_skip rfl (ext_skip rfl (ext_skip rfl ext_refl))))))) (fun _ h => h))
                · have hg18_11a := hg
                  have h := ifF hq18_11 hg
                  refine wl_off rfl rfl rfl rfl rfl hg18_11a rfl ?_
                  refine wl_off rfl rfl rfl rfl rfl hg18_11a rfl ?_
                  refine wl_off rfl rfl rfl rfl rfl hg18_11a rfl ?_
                  refine wl_off rfl rfl rfl rfl rfl hg18_11a rfl ?_
                  refine wl_off rfl rfl rfl rfl rfl hg18_11a rfl ?_
                  replace h := Option.some.inj h
                  subst h
                  refine wl_det rfl rfl (det_pick_off rfl hg18_11a rfl rfl) rfl ?_
                  exact wl_nil (pn_qnE (ext_cons rfl (ext_skip rfl (ext_skip rfl (ext_skip rfl (ext_skip rfl (ext_skip rfl (ext_skip rfl ext_refl))))))) (fun _ h => h))
                have h := ho18_11
                refine wl_nil ?_
                refine pn_then ?_
                refine wc_cond rfl (fun cd53 => ?_) (fun cd53 => ?_)
                · have h := ifT h cd53
                  refine wc_seq ?_
                  refine wc_region ?_   -- region 19
                  refine wl_det rfl rfl (det_assign rfl) rfl ?_
                  refine wl_nil ?_
                  refine pn_then ?_
                  refine wc_ret ?_
                  refine pr_block ?_
                  refine pr_then ?_
                  refine pr_then ?_
                  refine pr_block ?_
                  refine pr_then ?_
                  replace h := Option.some.inj h
                  subst h
                  replace g43 := nextR g43
                  subst g43
                  have h := (elimL ho43)
                  replace h := Option.some.inj h
                  subst h
                  have h := (elimR ho39)
                  replace h := Option.some.inj h
                  subst h
                  refine pn_ret (vs := [_]) rfl ⟨rfl, trivial⟩ ⟨rfl, rfl, rfl⟩ (fun _ h => h.to trivial trivial)
                · have h := ifF h cd53
                  refine wc_skip ?_
                  refine pn_block ?_
                  refine pn_then ?_
                  refine wc_region ?_   -- region 17
                  refine wl_det rfl rfl (det_move rfl) rfl ?_
                  refine wl_det rfl rfl (det_add rfl rfl) rfl ?_
                  refine wl_det rfl rfl (det_assign rfl) rfl ?_
                  refine wl_nil ?_
                  replace h := Option.some.inj h
                  subst h
                  exact pn_some (k43, (w64 (s43 + 1)), ()) ⟨nextL g43, Nat.lt_succ_self _⟩ ⟨rfl, rfl, rfl, rfl, rfl, trivial⟩ (fun _ h => h.to ⟨_, r0, ⟨_, r0, ⟨_, r0, ⟨_, r0, trivial⟩⟩⟩⟩ ⟨m0, ⟨(ms m0), ⟨(ms (ms m0)), ⟨(ms (ms (ms m0))), ⟨(ms (ms (ms (ms m0)))), trivial⟩⟩⟩⟩⟩)
              · have h := ifF h cd47
                refine wc_exit ?_
                refine px_then ?_
                refine px_then ?_
                refine px_block ?_
                replace h := Option.some.inj h
                subst h
                replace g43 := nextR g43
                subst g43
                have h := (elimR ho43)
                replace h := Option.some.inj h
                subst h
                exact pn_meetG ((), ()) rfl ⟨rfl, rfl, rfl, rfl, trivial⟩ (fun _ h => h.to ⟨_, r0, ⟨_, r0, ⟨_, r0, ⟨_, r0, trivial⟩⟩⟩⟩ ⟨m0, ⟨(ms m0), ⟨(ms (ms m0)), ⟨(ms (ms (ms m0))), ⟨(ms (ms (ms (ms m0)))), trivial⟩⟩⟩⟩⟩)
            rintro ⟨s39, _⟩ e39
            dsimp only at e39 ⊢
            subst e39
            have h := (elimL ho39)
            refine wc_seq ?_
            refine wc_region ?_   -- region 20
            refine wl_det rfl rfl (det_field rfl fd49_1 rfl) rfl ?_
            refine wl_det rfl rfl (det_load rfl m0 (by rfl) na3 us3) rfl ?_
            refine wl_det rfl rfl (det_eql rfl rfl) rfl ?_
            refine wl_det rfl rfl (det_move rfl) rfl ?_
            refine wl_way (decide (a0.Kind = 4)) ((decide (a0.Kind = 4)) || (decide (a0.Kind = 5))) 4 79 (fun hg => ?_) (fun hg => ?_) ?_
            · have hg20_7 := hg
              refine wl_off rfl rfl rfl rfl rfl hg20_7 rfl ?_
              refine wl_off rfl rfl rfl rfl rfl hg20_7 rfl ?_
              refine wl_off rfl rfl rfl rfl rfl hg20_7 rfl ?_
              refine wl_det rfl rfl (det_or_on (r := (decide (a0.Kind = 5))) rfl rfl rfl hg20_7) rfl ?_
              exact wl_nil (pn_qnE (ext_cons rfl (ext_skip rfl (ext_skip rfl (ext_skip rfl (ext_skip rfl ext_refl))))) (fun _ h => h))
            · have hg20_7a := hg
              refine wl_on rfl rfl rfl rfl hg20_7a ?_
              refine wl_det rfl rfl (det_field rfl fd49_1 rfl) rfl ?_
              refine wl_on rfl rfl rfl rfl hg20_7a ?_
              refine wl_det rfl rfl (det_load rfl m0 (by rfl) na3 us3) rfl ?_
              refine wl_on rfl rfl rfl rfl hg20_7a ?_
              refine wl_det rfl rfl (det_eql rfl rfl) rfl ?_
              refine wl_det rfl rfl (det_or_off rfl rfl rfl hg20_7a) rfl ?_
              exact wl_nil (pn_qnE (ext_cons rfl (ext_skip rfl (ext_skip rfl (ext_skip rfl (ext_skip rfl ext_refl))))) (fun _ h => h))
            refine wl_det rfl rfl (det_assign rfl) rfl ?_
            refine wl_nil ?_
            refine pn_then ?_
            refine wc_seq ?_
            refine wc_seq ?_
            refine wc_region ?_   -- region 21
            refine wl_det rfl rfl (det_move rfl) rfl ?_
            refine wl_det rfl rfl (det_not rfl) rfl ?_
            refine wl_det rfl rfl (det_move rfl) rfl ?_
            refine wl_way (!((decide (a0.Kind = 4)) || (decide (a0.Kind = 5)))) ((!((decide (a0.Kind = 4)) || (decide (a0.Kind = 5)))) && (decide (0 < (a0.Reinstatements.length : Int)))) 5 87 (fun hg => ?_) (fun hg => ?_) ?_
            · have hg21_7 := hg
              refine wl_on rfl rfl rfl rfl hg21_7 ?_
              refine wl_det rfl rfl (det_field rfl fd49_15 rfl) rfl ?_
              refine wl_on rfl rfl rfl rfl hg21_7 ?_
              refine wl_det rfl rfl (det_load rfl m0 (by rfl) na23 us23) rfl ?_
              refine wl_on rfl rfl rfl rfl hg21_7 ?_
              refine wl_det rfl rfl (det_len rfl un23) rfl ?_
              refine wl_on rfl rfl rfl rfl hg21_7 ?_
              refine wl_det rfl rfl (det_gtr rfl rfl) rfl ?_
              refine wl_det rfl rfl (det_and_on rfl rfl rfl hg21_7) rfl ?_
              exact wl_nil (pn_qnE (ext_cons rfl (ext_skip rfl (ext_skip rfl (ext_skip rfl (ext_skip rfl (ext_skip rfl ext_refl)))))) (fun _ h => h))
            · have hg21_7a := hg
              refine wl_off rfl rfl rfl rfl rfl hg21_7a rfl ?_
              refine wl_off rfl rfl rfl rfl rfl hg21_7a rfl ?_
              refine wl_off rfl rfl rfl rfl rfl hg21_7a rfl ?_
              refine wl_off rfl rfl rfl rfl rfl hg21_7a rfl ?_
              refine wl_det rfl rfl (det_and_off (q := (decide (0 < (a0.Reinstatements.length : Int)))) rfl rfl rfl hg21_7a) rfl ?_
              exact wl_nil (pn_qnE (ext_cons rfl (ext_skip rfl (ext_skip rfl (ext_skip rfl (ext_skip rfl (ext_skip rfl ext_refl)))))) (fun _ h => h))
            refine wl_det rfl rfl (det_move rfl) rfl ?_
            refine wl_way ((!((decide (a0.Kind = 4)) || (decide (a0.Kind = 5)))) && (decide (0 < (a0.Reinstatements.length : Int)))) (((!((decide (a0.Kind = 4)) || (decide (a0.Kind = 5)))) && (decide (0 < (a0.Reinstatements.length : Int)))) || (a0.Timed && (decide ((a0.Reinstatements.length : Int) = 0)))) 9 97 (fun hg => ?_) (fun hg => ?_) ?_
            · have hg21_17 := hg
              refine wl_off rfl rfl rfl rfl rfl hg21_17 rfl ?_
              refine wl_off rfl rfl rfl rfl rfl hg21_17 rfl ?_
              refine wl_off rfl rfl rfl rfl rfl hg21_17 rfl ?_
              refine wl_none rfl rfl rfl rfl rfl rfl ?_
              refine wl_none rfl rfl rfl rfl rfl rfl ?_
              refine wl_none rfl rfl rfl rfl rfl rfl ?_
              refine wl_none rfl rfl rfl rfl rfl rfl ?_
              refine wl_off rfl rfl rfl rfl rfl hg21_17 rfl ?_
              refine wl_det rfl rfl (det_or_on (r := (a0.Timed && (decide ((a0.Reinstatements.length : Int) = 0)))) rfl rfl rfl hg21_17) rfl ?_
              exact wl_nil (pn_qnE (ext_cons rfl (ext_skip rfl (ext_skip rfl (ext_skip rfl (ext_skip rfl (ext_skip rfl (ext_skip rfl (ext_skip rfl (ext_skip rfl (ext_skip rfl ext_refl)))))))))) (fun _ h => h))
            · have hg21_17a := hg
              refine wl_on rfl rfl rfl rfl hg21_17a ?_
              refine wl_det rfl rfl (det_field rfl fd49_16 rfl) rfl ?_
              refine wl_on rfl rfl rfl rfl hg21_17a ?_
              refine wl_det rfl rfl (det_load rfl m0 (by rfl) na4 us4) rfl ?_
              refine wl_on rfl rfl rfl rfl hg21_17a ?_
              refine wl_det rfl rfl (det_move rfl) rfl ?_
              refine wl_way a0.Timed (a0.Timed && (decide ((a0.Reinstatements.length : Int) = 0))) 5 96 (fun hg => ?_) (fun hg => ?_) ?_
              · have hg21_16 := hg
                refine wl_on rfl rfl rfl rfl hg21_16 ?_
                refine wl_det rfl rfl (det_field rfl fd49_15 rfl) rfl ?_
                refine wl_on rfl rfl rfl rfl hg21_16 ?_
                refine wl_det rfl rfl (det_load rfl m0 (by rfl) na23 us23) rfl ?_
                refine wl_on rfl rfl rfl rfl hg21_16 ?_
                refine wl_det rfl rfl (det_len rfl un23) rfl ?_
                refine wl_on rfl rfl rfl rfl hg21_16 ?_
                refine wl_det rfl rfl (det_eql rfl rfl) rfl ?_
                refine wl_on rfl rfl rfl rfl hg21_17a ?_
                refine wl_det rfl rfl (det_and_on rfl rfl rfl hg21_16) rfl ?_
                exact wl_nil (pn_qnE (ext_cons rfl (ext_skip rfl (ext_skip rfl (ext_skip rfl (ext_skip rfl (ext_skip rfl ext_refl)))))) (fun _ h => h))
              · have hg21_16a := hg
                refine wl_off rfl rfl rfl rfl rfl hg21_16a rfl ?_
                refine wl_off rfl rfl rfl rfl rfl hg21_16a rfl ?_
                refine wl_off rfl rfl rfl rfl rfl hg21_16a rfl ?_
                refine wl_off rfl rfl rfl rfl rfl hg21_16a rfl ?_
                refine wl_on rfl rfl rfl rfl hg21_17a ?_
                refine wl_det rfl rfl (det_and_off (q := (decide ((a0.Reinstatements.length : Int) = 0))) rfl rfl rfl hg21_16a) rfl ?_
                exact wl_nil (pn_qnE (ext_cons rfl (ext_skip rfl (ext_skip rfl (ext_skip rfl (ext_skip rfl (ext_skip rfl ext_refl)))))) (fun _ h => h))
              refine wl_det rfl rfl (det_or_off rfl rfl rfl hg21_17a) rfl ?_
              exact wl_nil (pn_qnE (ext_cons rfl (ext_skip rfl (ext_skip rfl (ext_skip rfl (ext_skip rfl (ext_skip rfl ext_refl)))))) (fun _ h => h))
            refine wl_nil ?_
            refine pn_then ?_
            refine wc_cond rfl (fun cd62 => ?_) (fun cd62 => ?_)
            · have h := ifT h cd62
              refine wc_seq ?_
              refine wc_region ?_   -- region 22
              refine wl_det rfl rfl (det_assign rfl) rfl ?_
              refine wl_nil ?_
              refine pn_then ?_
              refine wc_ret ?_
              refine pr_then ?_
              replace h := Option.some.inj h
              subst h
              refine pn_ret (vs := [_]) rfl ⟨rfl, trivial⟩ ⟨rfl, rfl, rfl⟩ (fun _ h => h.to trivial trivial)
            · have h := ifF h cd62
              refine wc_skip ?_
              refine pn_then ?_
              obtain ⟨q65, h, ho65⟩ := bind_some h
              refine wc_meetG (G := Unit × Unit) (fun (s65, _) => (.inl s65) = q65) (fun (_, _) => [(1, .pointer (some ⟨b0_0, 0, none⟩))]) (fun (_, _) => [eBlk b0_0 49 [.int .i64 a0.ID, .int .i64 a0.Kind, .int .i64 a0.Period.From, .int .i64 a0.Period.To, .slice A0 a0.Perils.length c0, .slice A3 a0.Areas.length c3, .int .i64 a0.Risk, .int .i64 a0.Cession, .int .i64 a0.Line, .int .i64 a0.Lines, .int .i64 a0.Retention, .int .i64 a0.Limit, .int .i64 a0.Window, .int .i64 a0.Deductible, .int .i64 a0.Aggregate, .int .i64 a0.Premium, .slice A6 a0.Reinstatements.length c6, .bool a0.Timed, .int .i64 a0.Base, .slice A9 a0.Inures.length c9, .slice A12 a0.Parts.length c12]]) (fun (_, _) => [fV (lSlice (lInt .i64)) (.slice A0 a0.Perils.length c0) a0.Perils, fV (lSlice (lInt .i64)) (.slice A3 a0.Areas.length c3) a0.Areas, fV (lSlice (lInt .i64)) (.slice A6 a0.Reinstatements.length c6) a0.Reinstatements, fV (lSlice (lInt .i64)) (.slice A9 a0.Inures.length c9) a0.Inures, fV (lSlice lGPart) (.slice A12 a0.Parts.length c12) a0.Parts]) ?_ ?_
              · refine wc_seq ?_
                refine wc_region ?_   -- region 23
                refine wl_det rfl rfl (det_assign rfl) rfl ?_
                refine wl_nil ?_
                refine pn_then ?_
                refine wc_block ?_
                obtain ⟨o69, h, ho69⟩ := bind_some h
                obtain ⟨k69, hk69⟩ := loopV_some.1 h
                refine wc_loop (G := Nat × Int × Unit) (fun g => IterN (treatyref20_Validate_l69 r13_1 r13_4) g.1 g.2.1 o69) (fun g => g.1) (fun (_, s69, _) => [(1, .pointer (some ⟨b0_0, 0, none⟩)), (5, .slice y13_1A0 r13_1.length y13_1c0), (6, .slice y13_4A0 r13_4.length y13_4c0), (7, .slice A14_0 10 10), (10, .int .i64 s69)]) (fun (_, _, _) => [eBlk b0_0 49 [.int .i64 a0.ID, .int .i64 a0.Kind, .int .i64 a0.Period.From, .int .i64 a0.Period.To, .slice A0 a0.Perils.length c0, .slice A3 a0.Areas.length c3, .int .i64 a0.Risk, .int .i64 a0.Cession, .int .i64 a0.Line, .int .i64 a0.Lines, .int .i64 a0.Retention, .int .i64 a0.Limit, .int .i64 a0.Window, .int .i64 a0.Deductible, .int .i64 a0.Aggregate, .int .i64 a0.Premium, .slice A6 a0.Reinstatements.length c6, .bool a0.Timed, .int .i64 a0.Base, .slice A9 a0.Inures.length c9, .slice A12 a0.Parts.length c12], eS (lInt .i64) 3 y13_1A0 r13_1.length y13_1c0 r13_1, eS (lInt .i64) 3 y13_4A0 r13_4.length y13_4c0 r13_4, eS (lInt .i64) 3 A14_0 10 10 [1048576, 1000000, 1073741824, 100, 1073741824, 1073741824, 8784, 1073741824, 1073741824, 1000000000]]) (fun (_, _, _) => [fV (lSlice (lInt .i64)) (.slice A0 a0.Perils.length c0) a0.Perils, fV (lSlice (lInt .i64)) (.slice A3 a0.Areas.length c3) a0.Areas, fV (lSlice (lInt .i64)) (.slice A6 a0.Reinstatements.length c6) a0.Reinstatements, fV (lSlice (lInt .i64)) (.slice A9 a0.Inures.length c9) a0.Inures, fV (lSlice lGPart) (.slice A12 a0.Parts.length c12) a0.Parts]) (k69, 0, ()) hk69 ⟨rfl, rfl, rfl, rfl, rfl, trivial⟩ (fun _ h => h.to ⟨_, r0, ⟨_, r0, ⟨_, r0, ⟨_, r0, trivial⟩⟩⟩⟩ ⟨m0, ⟨(ms m0), ⟨(ms (ms m0)), ⟨(ms (ms (ms m0))), ⟨(ms (ms (ms (ms m0)))), trivial⟩⟩⟩⟩⟩) ?_
                rintro ⟨k69, s69, _⟩ hI
                obtain ⟨k69, rfl, q69, h, g69⟩ := IterN.pos hI
                dsimp only at h ⊢
                unfold treatyref20_Validate_l69 at h
                refine wc_seq ?_
                refine wc_seq ?_
                refine wc_region ?_   -- region 24
                refine wl_det rfl rfl (det_move rfl) rfl ?_
                refine wl_det rfl rfl (det_move rfl) rfl ?_
                refine wl_det rfl rfl (det_len rfl un23) rfl ?_
                refine wl_det rfl rfl (det_lss rfl rfl) rfl ?_
                refine wl_nil ?_
                refine pn_then ?_
                refine wc_cond rfl (fun cd73 => ?_) (fun cd73 => ?_)
                · have h := ifT h cd73
                  refine wc_skip ?_
                  refine pn_then ?_
                  refine wc_seq ?_
                  refine wc_block ?_
                  obtain ⟨q77, h, ho77⟩ := bind_some h
                  refine wc_meetG (G := Bool × Unit) (fun (s77, _) => s77 = q77) (fun (s77, _) => [(1, .pointer (some ⟨b0_0, 0, none⟩)), (5, .slice y13_1A0 r13_1.length y13_1c0), (6, .slice y13_4A0 r13_4.length y13_4c0), (7, .slice A14_0 10 10), (10, .int .i64 s69), (130, .bool s77)]) (fun (_, _) => [eBlk b0_0 49 [.int .i64 a0.ID, .int .i64 a0.Kind, .int .i64 a0.Period.From, .int .i64 a0.Period.To, .slice A0 a0.Perils.length c0, .slice A3 a0.Areas.length c3, .int .i64 a0.Risk, .int .i64 a0.Cession, .int .i64 a0.Line, .int .i64 a0.Lines, .int .i64 a0.Retention, .int .i64 a0.Limit, .int .i64 a0.Window, .int .i64 a0.Deductible, .int .i64 a0.Aggregate, .int .i64 a0.Premium, .slice A6 a0.Reinstatements.length c6, .bool a0.Timed, .int .i64 a0.Base, .slice A9 a0.Inures.length c9, .slice A12 a0.Parts.length c12], eS (lInt .i64) 3 y13_1A0 r13_1.length y13_1c0 r13_1, eS (lInt .i64) 3 y13_4A0 r13_4.length y13_4c0 r13_4, eS (lInt .i64) 3 A14_0 10 10 [1048576, 1000000, 1073741824, 100, 1073741824, 1073741824, 8784, 1073741824, 1073741824, 1000000000]]) (fun (_, _) => [fV (lSlice (lInt .i64)) (.slice A0 a0.Perils.length c0) a0.Perils, fV (lSlice (lInt .i64)) (.slice A3 a0.Areas.length c3) a0.Areas, fV (lSlice (lInt .i64)) (.slice A6 a0.Reinstatements.length c6) a0.Reinstatements, fV (lSlice (lInt .i64)) (.slice A9 a0.Inures.length c9) a0.Inures, fV (lSlice lGPart) (.slice A12 a0.Parts.length c12) a0.Parts]) ?_ ?_
                  · rcases Bool.eq_false_or_eq_true (decide (0 ≤ (ix r13_4 s69))) with hg26_g109 | hg26_g109
                    · have h := ifT h hg26_g109
                      rcases Bool.eq_false_or_eq_true (decide ((ix r13_1 s69) < (ix r13_4 s69))) with hg26_g119 | hg26_g119
                      · have h := ifT h hg26_g119
                        obtain ⟨k26_p1, h⟩ := chk_some h
                        obtain ⟨k26_p2, h⟩ := chk_some h
                        refine dx_region 27 [[], [], [0, 1], [0, 1, 2], [0, 1, 2, 3], [0, 1, 2, 3, 4], [0, 1, 2, 3, 4, 5], [0, 1, 2, 3, 4, 5], [0, 1, 2, 3, 4, 5, 6, 7], [0, 1, 2, 3, 4, 5, 6, 7, 8], [0, 1, 2, 3, 4, 5], [0, 1, 2, 3, 4, 5], [0, 1, 2, 3, 4, 5, 10, 11], [0, 1, 2, 3, 4, 5, 10, 11, 12], [0, 1, 2, 3, 4, 5, 6, 7, 8, 9, 10, 11, 12, 13], [0, 1, 2, 3, 4, 5, 6, 7, 8, 9, 10, 11, 12, 13, 14], [0, 1, 2, 3, 4, 5, 6, 7, 8, 9, 10, 11, 12, 13, 14, 15], [0, 1, 2, 3, 4, 5, 6, 7, 8, 9, 10, 11, 12, 13, 14, 15], [0, 1, 2, 3, 4, 5, 6, 7, 8, 9, 10, 11, 12, 13, 14, 15, 16, 17], [0, 1, 2, 3, 4, 5, 6, 7, 8, 9, 10, 11, 12, 13, 14, 15, 16, 17, 18], [0, 1, 2, 3, 4, 5, 6, 7, 8, 9, 10, 11, 12, 13, 14, 15], [0, 1, 2, 3, 4, 5, 6, 7, 8, 9, 10, 11, 12, 13, 14, 15], [0, 1, 2, 3, 4, 5, 6, 7, 8, 9, 10, 11, 12, 13, 14, 15, 20, 21], [0, 1, 2, 3, 4, 5, 6, 7, 8, 9, 10, 11, 12, 13, 14, 15, 20, 21, 22], [0, 1, 2, 3, 4, 5, 6, 7, 8, 9, 10, 11, 12, 13, 14, 15, 16, 17, 18, 19, 20, 21, 22, 23], [0, 1, 2, 3, 4, 5, 6, 7, 8, 9, 10, 11, 12, 13, 14, 15, 16, 17, 18, 19, 20, 21, 22, 23, 24], [0, 1, 2, 3, 4, 5, 6, 7, 8, 9, 10, 11, 12, 13, 14, 15, 16, 17, 18, 19, 20, 21, 22, 23, 24, 25]] mixed (ord := (.det 0 (.det 1 (.det 2 (.det 3 (.det 4 (.det 5 (.det 6 (.det 7 (.det 8 (.det 9 (.det 10 (.det 11 (.det 12 (.det 13 (.det 14 (.det 15 (.det 16 (.det 17 (.det 18 (.det 19 (.det 20 (.det 21 (.det 22 (.det 23 (.det 24 (.det 25 (.det 26 .done)))))))))))))))))))))))))))) (by kernel_rfl) ?_   -- region 26
                        refine hx_det rfl rfl rfl nofun (det_move rfl) rfl ?_
                        refine hx_det rfl rfl rfl nofun (det_move rfl) rfl ?_
                        refine hx_det rfl rfl rfl nofun (det_indexO rfl rfl (ms (ms m0)) k26_p1 un23 sz3) rfl ?_
                        refine hx_det rfl rfl rfl nofun (det_loadO (off := 0) rfl (ms (ms m0)) k26_p1 (by rfl) (by rfl) (loaded_1 na3 us3)) rfl ?_
                        refine hx_det rfl rfl rfl nofun (det_geq rfl rfl) rfl ?_
                        refine hx_det rfl rfl rfl nofun (det_move rfl) rfl ?_
                        refine hx_on rfl rfl rfl rfl rfl hg26_g109 nofun (det_move rfl) rfl ?_
                        refine hx_on rfl rfl rfl rfl rfl hg26_g109 nofun (det_move rfl) rfl ?_
                        refine hx_on rfl rfl rfl rfl rfl hg26_g109 nofun (det_indexO rfl rfl (ms m0) k26_p2 un23 sz3) rfl ?_
                        refine hx_on rfl rfl rfl rfl rfl hg26_g109 nofun (det_loadO (off := 0) rfl (ms m0) k26_p2 (by rfl) (by rfl) (loaded_1 na3 us3)) rfl ?_
                        refine hx_on rfl rfl rfl rfl rfl hg26_g109 nofun (det_move rfl) rfl ?_
                        refine hx_on rfl rfl rfl rfl rfl hg26_g109 nofun (det_move rfl) rfl ?_
                        refine hx_on rfl rfl rfl rfl rfl hg26_g109 nofun (det_indexO rfl rfl (ms (ms m0)) k26_p1 un23 sz3) rfl ?_
                        refine hx_on rfl rfl rfl rfl rfl hg26_g109 nofun (det_loadO (off := 0) rfl (ms (ms m0)) k26_p1 (by rfl) (by rfl) (loaded_1 na3 us3)) rfl ?_
                        refine hx_on rfl rfl rfl rfl rfl hg26_g109 nofun (det_lss rfl rfl) rfl ?_
                        refine hx_on rfl rfl rfl rfl rfl hg26_g109 nofun (det_move rfl) rfl ?_
                        refine hx_off rfl rfl rfl rfl rfl hg26_g119 rfl ?_
                        refine hx_off rfl rfl rfl rfl rfl hg26_g119 rfl ?_
                        refine hx_off rfl rfl rfl rfl rfl hg26_g119 rfl ?_
                        refine hx_off rfl rfl rfl rfl rfl hg26_g119 rfl ?_
                        refine hx_off rfl rfl rfl rfl rfl hg26_g119 rfl ?_
                        refine hx_off rfl rfl rfl rfl rfl hg26_g119 rfl ?_
                        refine hx_off rfl rfl rfl rfl rfl hg26_g119 rfl ?_
                        refine hx_off rfl rfl rfl rfl rfl hg26_g119 rfl ?_
                        refine hx_off rfl rfl rfl rfl rfl hg26_g119 rfl ?_
                        refine hx_on rfl rfl rfl rfl rfl hg26_g109 nofun (det_pick_on rfl hg26_g119 rfl rfl) rfl ?_
                        refine hx_det rfl rfl rfl nofun (det_pick_on rfl hg26_g109 rfl rfl) rfl ?_
                        refine hx_end ?_
                        refine wl_nil ?_
                        replace h := Option.some.inj h
                        subst h
                        exact pn_meetG (true, ()) rfl ⟨rfl, rfl, rfl, rfl, rfl, rfl, trivial⟩ (fun _ h => h.to ⟨_, r0, ⟨_, r0, ⟨_, r0, ⟨_, r0, trivial⟩⟩⟩⟩ ⟨m0, ⟨(ms m0), ⟨(ms (ms m0)), ⟨(ms (ms (ms m0))), ⟨(ms (ms (ms (ms m0)))), trivial⟩⟩⟩⟩⟩)
                      · have h := ifF h hg26_g119
                        obtain ⟨k26_p3, h⟩ := chk_some h
                        obtain ⟨k26_p4, h⟩ := chk_some h
                        obtain ⟨k26_p5, h⟩ := chk_some h
                        refine dx_region 27 [[], [], [0, 1], [0, 1, 2], [0, 1, 2, 3], [0, 1, 2, 3, 4], [0, 1, 2, 3, 4, 5], [0, 1, 2, 3, 4, 5], [0, 1, 2, 3, 4, 5, 6, 7], [0, 1, 2, 3, 4, 5, 6, 7, 8], [0, 1, 2, 3, 4, 5], [0, 1, 2, 3, 4, 5], [0, 1, 2, 3, 4, 5, 10, 11], [0, 1, 2, 3, 4, 5, 10, 11, 12], [0, 1, 2, 3, 4, 5, 6, 7, 8, 9, 10, 11, 12, 13], [0, 1, 2, 3, 4, 5, 6, 7, 8, 9, 10, 11, 12, 13, 14], [0, 1, 2, 3, 4, 5, 6, 7, 8, 9, 10, 11, 12, 13, 14, 15], [0, 1, 2, 3, 4, 5, 6, 7, 8, 9, 10, 11, 12, 13, 14, 15], [0, 1, 2, 3, 4, 5, 6, 7, 8, 9, 10, 11, 12, 13, 14, 15, 16, 17], [0, 1, 2, 3, 4, 5, 6, 7, 8, 9, 10, 11, 12, 13, 14, 15, 16, 17, 18], [0, 1, 2, 3, 4, 5, 6, 7, 8, 9, 10, 11, 12, 13, 14, 15], [0, 1, 2, 3, 4, 5, 6, 7, 8, 9, 10, 11, 12, 13, 14, 15], [0, 1, 2, 3, 4, 5, 6, 7, 8, 9, 10, 11, 12, 13, 14, 15, 20, 21], [0, 1, 2, 3, 4, 5, 6, 7, 8, 9, 10, 11, 12, 13, 14, 15, 20, 21, 22], [0, 1, 2, 3, 4, 5, 6, 7, 8, 9, 10, 11, 12, 13, 14, 15, 16, 17, 18, 19, 20, 21, 22, 23], [0, 1, 2, 3, 4, 5, 6, 7, 8, 9, 10, 11, 12, 13, 14, 15, 16, 17, 18, 19, 20, 21, 22, 23, 24], [0, 1, 2, 3, 4, 5, 6, 7, 8, 9, 10, 11, 12, 13, 14, 15, 16, 17, 18, 19, 20, 21, 22, 23, 24, 25]] mixed (ord := (.det 0 (.det 1 (.det 2 (.det 3 (.det 4 (.det 5 (.det 6 (.det 7 (.det 8 (.det 9 (.det 10 (.det 11 (.det 12 (.det 13 (.det 14 (.det 15 (.det 16 (.det 17 (.det 18 (.det 19 (.det 20 (.det 21 (.det 22 (.det 23 (.det 24 (.det 25 (.det 26 .done)))))))))))))))))))))))))))) (by kernel_rfl) ?_   -- region 26
                        refine hx_det rfl rfl rfl nofun (det_move rfl) rfl ?_
                        refine hx_det rfl rfl rfl nofun (det_move rfl) rfl ?_
                        refine hx_det rfl rfl rfl nofun (det_indexO rfl rfl (ms (ms m0)) k26_p3 un23 sz3) rfl ?_
                        refine hx_det rfl rfl rfl nofun (det_loadO (off := 0) rfl (ms (ms m0)) k26_p3 (by rfl) (by rfl) (loaded_1 na3 us3)) rfl ?_
                        refine hx_det rfl rfl rfl nofun (det_geq rfl rfl) rfl ?_
                        refine hx_det rfl rfl rfl nofun (det_move rfl) rfl ?_
                        refine hx_on rfl rfl rfl rfl rfl hg26_g109 nofun (det_move rfl) rfl ?_
                        refine hx_on rfl rfl rfl rfl rfl hg26_g109 nofun (det_move rfl) rfl ?_
                        refine hx_on rfl rfl rfl rfl rfl hg26_g109 nofun (det_indexO rfl rfl (ms m0) k26_p4 un23 sz3) rfl ?_
                        refine hx_on rfl rfl rfl rfl rfl hg26_g109 nofun (det_loadO (off := 0) rfl (ms m0) k26_p4 (by rfl) (by rfl) (loaded_1 na3 us3)) rfl ?_
                        refine hx_on rfl rfl rfl rfl rfl hg26_g109 nofun (det_move rfl) rfl ?_
                        refine hx_on rfl rfl rfl rfl rfl hg26_g109 nofun (det_move rfl) rfl ?_
                        refine hx_on rfl rfl rfl rfl rfl hg26_g109 nofun (det_indexO rfl rfl (ms (ms m0)) k26_p3 un23 sz3) rfl ?_
                        refine hx_on rfl rfl rfl rfl rfl hg26_g109 nofun (det_loadO (off := 0) rfl (ms (ms m0)) k26_p3 (by rfl) (by rfl) (loaded_1 na3 us3)) rfl ?_
                        refine hx_on rfl rfl rfl rfl rfl hg26_g109 nofun (det_lss rfl rfl) rfl ?_
                        refine hx_on rfl rfl rfl rfl rfl hg26_g109 nofun (det_move rfl) rfl ?_
                        refine hx_on rfl rfl rfl rfl rfl hg26_g119 nofun (det_move rfl) rfl ?_
                        refine hx_on rfl rfl rfl rfl rfl hg26_g119 nofun (det_move rfl) rfl ?_
                        refine hx_on rfl rfl rfl rfl rfl hg26_g119 nofun (det_indexO rfl rfl (ms m0) k26_p4 un23 sz3) rfl ?_
                        refine hx_on rfl rfl rfl rfl rfl hg26_g119 nofun (det_loadO (off := 0) rfl (ms m0) k26_p4 (by rfl) (by rfl) (loaded_1 na3 us3)) rfl ?_
                        refine hx_on rfl rfl rfl rfl rfl hg26_g119 nofun (det_move rfl) rfl ?_
                        refine hx_on rfl rfl rfl rfl rfl hg26_g119 nofun (det_move rfl) rfl ?_
                        refine hx_on rfl rfl rfl rfl rfl hg26_g119 nofun (det_indexO rfl rfl (ms (ms (ms m0))) k26_p5 un23 sz3) rfl ?_
                        refine hx_on rfl rfl rfl rfl rfl hg26_g119 nofun (det_loadO (off := 0) rfl (ms (ms (ms m0))) k26_p5 (by rfl) (by rfl) (loaded_1 na3 us3)) rfl ?_
                        refine hx_on rfl rfl rfl rfl rfl hg26_g119 nofun (det_gtr rfl rfl) rfl ?_
                        refine hx_on rfl rfl rfl rfl rfl hg26_g109 nofun (det_pick_off rfl hg26_g119 rfl rfl) rfl ?_
                        refine hx_det rfl rfl rfl nofun (det_pick_on rfl hg26_g109 rfl rfl) rfl ?_
                        refine hx_end ?_
                        refine wl_nil ?_
                        replace h := Option.some.inj h
                        subst h
                        exact pn_meetG ((decide ((ix [1048576, 1000000, 1073741824, 100, 1073741824, 1073741824, 8784, 1073741824, 1073741824, 1000000000] s69) < (ix r13_1 s69))), ()) rfl ⟨rfl, rfl, rfl, rfl, rfl, rfl, trivial⟩ (fun _ h => h.to ⟨_, r0, ⟨_, r0, ⟨_, r0, ⟨_, r0, trivial⟩⟩⟩⟩ ⟨m0, ⟨(ms m0), ⟨(ms (ms m0)), ⟨(ms (ms (ms m0))), ⟨(ms (ms (ms (ms m0)))), trivial⟩⟩⟩⟩⟩)
                    · have h := ifF h hg26_g109
                      obtain ⟨k26_p6, h⟩ := chk_some h
                      refine dx_region 27 [[], [], [0, 1], [0, 1, 2], [0, 1, 2, 3], [0, 1, 2, 3, 4], [0, 1, 2, 3, 4, 5], [0, 1, 2, 3, 4, 5], [0, 1, 2, 3, 4, 5, 6, 7], [0, 1, 2, 3, 4, 5, 6, 7, 8], [0, 1, 2, 3, 4, 5], [0, 1, 2, 3, 4, 5], [0, 1, 2, 3, 4, 5, 10, 11], [0, 1, 2, 3, 4, 5, 10, 11, 12], [0, 1, 2, 3, 4, 5, 6, 7, 8, 9, 10, 11, 12, 13], [0, 1, 2, 3, 4, 5, 6, 7, 8, 9, 10, 11, 12, 13, 14], [0, 1, 2, 3, 4, 5, 6, 7, 8, 9, 10, 11, 12, 13, 14, 15], [0, 1, 2, 3, 4, 5, 6, 7, 8, 9, 10, 11, 12, 13, 14, 15], [0, 1, 2, 3, 4, 5, 6, 7, 8, 9, 10, 11, 12, 13, 14, 15, 16, 17], [0, 1, 2, 3, 4, 5, 6, 7, 8, 9, 10, 11, 12, 13, 14, 15, 16, 17, 18], [0, 1, 2, 3, 4, 5, 6, 7, 8, 9, 10, 11, 12, 13, 14, 15], [0, 1, 2, 3, 4, 5, 6, 7, 8, 9, 10, 11, 12, 13, 14, 15], [0, 1, 2, 3, 4, 5, 6, 7, 8, 9, 10, 11, 12, 13, 14, 15, 20, 21], [0, 1, 2, 3, 4, 5, 6, 7, 8, 9, 10, 11, 12, 13, 14, 15, 20, 21, 22], [0, 1, 2, 3, 4, 5, 6, 7, 8, 9, 10, 11, 12, 13, 14, 15, 16, 17, 18, 19, 20, 21, 22, 23], [0, 1, 2, 3, 4, 5, 6, 7, 8, 9, 10, 11, 12, 13, 14, 15, 16, 17, 18, 19, 20, 21, 22, 23, 24], [0, 1, 2, 3, 4, 5, 6, 7, 8, 9, 10, 11, 12, 13, 14, 15, 16, 17, 18, 19, 20, 21, 22, 23, 24, 25]] mixed (ord := (.det 0 (.det 1 (.det 2 (.det 3 (.det 4 (.det 5 (.det 6 (.det 7 (.det 8 (.det 9 (.det 10 (.det 11 (.det 12 (.det 13 (.det 14 (.det 15 (.det 16 (.det 17 (.det 18 (.det 19 (.det 20 (.det 21 (.det 22 (.det 23 (.det 24 (.det 25 (.det 26 .done)))))))))))))))))))))))))))) (by kernel_rfl) ?_   -- region 26
                      refine hx_det rfl rfl rfl nofun (det_move rfl) rfl ?_
                      refine hx_det rfl rfl rfl nofun (det_move rfl) rfl ?_
                      refine hx_det rfl rfl rfl nofun (det_indexO rfl rfl (ms (ms m0)) k26_p6 un23 sz3) rfl ?_
                      refine hx_det rfl rfl rfl nofun (det_loadO (off := 0) rfl (ms (ms m0)) k26_p6 (by rfl) (by rfl) (loaded_1 na3 us3)) rfl ?_
                      refine hx_det rfl rfl rfl nofun (det_geq rfl rfl) rfl ?_
                      refine hx_det rfl rfl rfl nofun (det_move rfl) rfl ?_
                      refine hx_off rfl rfl rfl rfl rfl hg26_g109 rfl ?_
                      refine hx_off rfl rfl rfl rfl rfl hg26_g109 rfl ?_
                      refine hx_off rfl rfl rfl rfl rfl hg26_g109 rfl ?_
                      refine hx_off rfl rfl rfl rfl rfl hg26_g109 rfl ?_
                      refine hx_off rfl rfl rfl rfl rfl hg26_g109 rfl ?_
                      refine hx_off rfl rfl rfl rfl rfl hg26_g109 rfl ?_
                      refine hx_off rfl rfl rfl rfl rfl hg26_g109 rfl ?_
                      refine hx_off rfl rfl rfl rfl rfl hg26_g109 rfl ?_
                      refine hx_off rfl rfl rfl rfl rfl hg26_g109 rfl ?_
                      refine hx_off rfl rfl rfl rfl rfl hg26_g109 rfl ?_
                      refine hx_none rfl rfl rfl rfl rfl rfl ?_
                      refine hx_none rfl rfl rfl rfl rfl rfl ?_
                      refine hx_none rfl rfl rfl rfl rfl rfl ?_
                      refine hx_none rfl rfl rfl rfl rfl rfl ?_
                      refine hx_none rfl rfl rfl rfl rfl rfl ?_
                      refine hx_none rfl rfl rfl rfl rfl rfl ?_
                      refine hx_none rfl rfl rfl rfl rfl rfl ?_
                      refine hx_none rfl rfl rfl rfl rfl rfl ?_
                      refine hx_none rfl rfl rfl rfl rfl rfl ?_
                      refine hx_off rfl rfl rfl rfl rfl hg26_g109 rfl ?_
                      refine hx_det rfl rfl rfl nofun (det_pick_off rfl hg26_g109 rfl rfl) rfl ?_
                      refine hx_end ?_
                      refine wl_nil ?_
                      replace h := Option.some.inj h
                      subst h
                      exact pn_meetG (false, ()) rfl ⟨rfl, rfl, rfl, rfl, rfl, rfl, trivial⟩ (fun _ h => h.to ⟨_, r0, ⟨_, r0, ⟨_, r0, ⟨_, r0, trivial⟩⟩⟩⟩ ⟨m0, ⟨(ms m0), ⟨(ms (ms m0)), ⟨(ms (ms (ms m0))), ⟨(ms (ms (ms (ms m0)))), trivial⟩⟩⟩⟩⟩)
                  rintro ⟨s77, _⟩ e77
                  dsimp only at e77 ⊢
                  subst e77
                  have h := ho77
                  refine wc_cond rfl (fun cd79 => ?_) (fun cd79 => ?_)
                  · have h := ifT h cd79
                    refine wc_seq ?_
                    refine wc_region ?_   -- region 27
                    refine wl_det rfl rfl (det_assign rfl) rfl ?_
                    refine wl_nil ?_
                    refine pn_then ?_
                    refine wc_ret ?_
                    refine pr_block ?_
                    refine pr_then ?_
                    refine pr_then ?_
                    refine pr_block ?_
                    refine pr_then ?_
                    replace h := Option.some.inj h
                    subst h
                    replace g69 := nextR g69
                    subst g69
                    have h := (elimL ho69)
                    replace h := Option.some.inj h
                    subst h
                    have h := (elimR ho65)
                    replace h := Option.some.inj h
                    subst h
                    refine pn_ret (vs := [_]) rfl ⟨rfl, trivial⟩ ⟨rfl, rfl, rfl⟩ (fun _ h => h.to trivial trivial)
                  · have h := ifF h cd79
                    refine wc_skip ?_
                    refine pn_block ?_
                    refine pn_then ?_
                    refine wc_region ?_   -- region 25
                    refine wl_det rfl rfl (det_move rfl) rfl ?_
                    refine wl_det rfl rfl (det_add rfl rfl) rfl ?_
                    refine wl_det rfl rfl (det_assign rfl) rfl ?_
                    refine wl_nil ?_
                    replace h := Option.some.inj h
                    subst h
                    exact pn_some (k69, (w64 (s69 + 1)), ()) ⟨nextL g69, Nat.lt_succ_self _⟩ ⟨rfl, rfl, rfl, rfl, rfl, trivial⟩ (fun _ h => h.to ⟨_, r0, ⟨_, r0, ⟨_, r0, ⟨_, r0, trivial⟩⟩⟩⟩ ⟨m0, ⟨(ms m0), ⟨(ms (ms m0)), ⟨(ms (ms (ms m0))), ⟨(ms (ms (ms (ms m0)))), trivial⟩⟩⟩⟩⟩)
                · have h := ifF h cd73
                  refine wc_exit ?_
                  refine px_then ?_
                  refine px_then ?_
                  refine px_block ?_
                  replace h := Option.some.inj h
                  subst h
                  replace g69 := nextR g69
                  subst g69
                  have h := (elimR ho69)
                  replace h := Option.some.inj h
                  subst h
                  exact pn_meetG ((), ()) rfl ⟨rfl, trivial⟩ (fun _ h => h.to ⟨_, r0, trivial⟩ ⟨m0, ⟨(ms m0), ⟨(ms (ms m0)), ⟨(ms (ms (ms m0))), ⟨(ms (ms (ms (ms m0)))), trivial⟩⟩⟩⟩⟩)
              rintro ⟨s65, _⟩ e65
              dsimp only at e65 ⊢
              subst e65
              have h := (elimL ho65)
              refine wc_seq ?_
              refine wc_seq ?_
              refine wc_region ?_   -- region 28
              refine wl_det rfl rfl (det_field rfl fd49_14 rfl) rfl ?_
              refine wl_det rfl rfl (det_load rfl m0 (by rfl) na3 us3) rfl ?_
              refine wl_det rfl rfl (det_lss rfl rfl) rfl ?_
              refine wl_det rfl rfl (det_move rfl) rfl ?_
              refine wl_way (decide (a0.Premium < 0)) ((decide (a0.Premium < 0)) || (decide (1073741824 < a0.Premium))) 4 138 (fun hg => ?_) (fun hg => ?_) ?_
              · have hg28_7 := hg
                refine wl_off rfl rfl rfl rfl rfl hg28_7 rfl ?_
                refine wl_off rfl rfl rfl rfl rfl hg28_7 rfl ?_
                refine wl_off rfl rfl rfl rfl rfl hg28_7 rfl ?_
                refine wl_det rfl rfl (det_or_on (r := (decide (1073741824 < a0.Premium))) rfl rfl rfl hg28_7) rfl ?_
                exact wl_nil (pn_qnE (ext_cons rfl (ext_skip rfl (ext_skip rfl (ext_skip rfl (ext_skip rfl ext_refl))))) (fun _ h => h))
              · have hg28_7a := hg
                refine wl_on rfl rfl rfl rfl hg28_7a ?_
                refine wl_det rfl rfl (det_field rfl fd49_14 rfl) rfl ?_
                refine wl_on rfl rfl rfl rfl hg28_7a ?_
                refine wl_det rfl rfl (det_load rfl m0 (by rfl) na3 us3) rfl ?_
                refine wl_on rfl rfl rfl rfl hg28_7a ?_
                refine wl_det rfl rfl (det_gtr rfl rfl) rfl ?_
                refine wl_det rfl rfl (det_or_off rfl rfl rfl hg28_7a) rfl ?_
                exact wl_nil (pn_qnE (ext_cons rfl (ext_skip rfl (ext_skip rfl (ext_skip rfl (ext_skip rfl ext_refl))))) (fun _ h => h))
              refine wl_nil ?_
              refine pn_then ?_
              refine wc_cond rfl (fun cd86 => ?_) (fun cd86 => ?_)
              · have h := ifT h cd86
                refine wc_seq ?_
                refine wc_region ?_   -- region 29
                refine wl_det rfl rfl (det_assign rfl) rfl ?_
                refine wl_nil ?_
                refine pn_then ?_
                refine wc_ret ?_
                refine pr_then ?_
                replace h := Option.some.inj h
                subst h
                refine pn_ret (vs := [_]) rfl ⟨rfl, trivial⟩ ⟨rfl, rfl, rfl⟩ (fun _ h => h.to trivial trivial)
              · have h := ifF h cd86
                refine wc_skip ?_
                refine pn_then ?_
                refine wc_seq ?_
                refine wc_seq ?_
                refine wc_region ?_   -- region 30
                refine wl_det rfl rfl (det_field rfl fd49_15 rfl) rfl ?_
                refine wl_det rfl rfl (det_load rfl m0 (by rfl) na23 us23) rfl ?_
                refine wl_det rfl rfl (det_len rfl un23) rfl ?_
                refine wl_det rfl rfl (det_gtr rfl rfl) rfl ?_
                refine wl_nil ?_
                refine pn_then ?_
                refine wc_cond rfl (fun cd92 => ?_) (fun cd92 => ?_)
                · have h := ifT h cd92
                  refine wc_seq ?_
                  refine wc_region ?_   -- region 31
                  refine wl_det rfl rfl (det_assign rfl) rfl ?_
                  refine wl_nil ?_
                  refine pn_then ?_
                  refine wc_ret ?_
                  refine pr_then ?_
                  replace h := Option.some.inj h
                  subst h
                  refine pn_ret (vs := [_]) rfl ⟨rfl, trivial⟩ ⟨rfl, rfl, rfl⟩ (fun _ h => h.to trivial trivial)
                · have h := ifF h cd92
                  refine wc_skip ?_
                  refine pn_then ?_
                  obtain ⟨q95, h, ho95⟩ := bind_some h
                  refine wc_meetG (G := Unit × Unit) (fun (s95, _) => (.inl s95) = q95) (fun (_, _) => [(1, .pointer (some ⟨b0_0, 0, none⟩))]) (fun (_, _) => [eBlk b0_0 49 [.int .i64 a0.ID, .int .i64 a0.Kind, .int .i64 a0.Period.From, .int .i64 a0.Period.To, .slice A0 a0.Perils.length c0, .slice A3 a0.Areas.length c3, .int .i64 a0.Risk, .int .i64 a0.Cession, .int .i64 a0.Line, .int .i64 a0.Lines, .int .i64 a0.Retention, .int .i64 a0.Limit, .int .i64 a0.Window, .int .i64 a0.Deductible, .int .i64 a0.Aggregate, .int .i64 a0.Premium, .slice A6 a0.Reinstatements.length c6, .bool a0.Timed, .int .i64 a0.Base, .slice A9 a0.Inures.length c9, .slice A12 a0.Parts.length c12]]) (fun (_, _) => [fV (lSlice (lInt .i64)) (.slice A0 a0.Perils.length c0) a0.Perils, fV (lSlice (lInt .i64)) (.slice A3 a0.Areas.length c3) a0.Areas, fV (lSlice (lInt .i64)) (.slice A6 a0.Reinstatements.length c6) a0.Reinstatements, fV (lSlice (lInt .i64)) (.slice A9 a0.Inures.length c9) a0.Inures, fV (lSlice lGPart) (.slice A12 a0.Parts.length c12) a0.Parts]) ?_ ?_
                  · refine wc_seq ?_
                    refine wc_region ?_   -- region 32
                    refine wl_det rfl rfl (det_assign rfl) rfl ?_
                    refine wl_nil ?_
                    refine pn_then ?_
                    refine wc_block ?_
                    obtain ⟨o99, h, ho99⟩ := bind_some h
                    obtain ⟨k99, hk99⟩ := loopV_some.1 h
                    refine wc_loop (G := Nat × Int × Unit) (fun g => IterN (treatyref20_Validate_l99 a0) g.1 g.2.1 o99) (fun g => g.1) (fun (_, s99, _) => [(1, .pointer (some ⟨b0_0, 0, none⟩)), (11, .int .i64 s99)]) (fun (_, _, _) => [eBlk b0_0 49 [.int .i64 a0.ID, .int .i64 a0.Kind, .int .i64 a0.Period.From, .int .i64 a0.Period.To, .slice A0 a0.Perils.length c0, .slice A3 a0.Areas.length c3, .int .i64 a0.Risk, .int .i64 a0.Cession, .int .i64 a0.Line, .int .i64 a0.Lines, .int .i64 a0.Retention, .int .i64 a0.Limit, .int .i64 a0.Window, .int .i64 a0.Deductible, .int .i64 a0.Aggregate, .int .i64 a0.Premium, .slice A6 a0.Reinstatements.length c6, .bool a0.Timed, .int .i64 a0.Base, .slice A9 a0.Inures.length c9, .slice A12 a0.Parts.length c12]]) (fun (_, _, _) => [fV (lSlice (lInt .i64)) (.slice A0 a0.Perils.length c0) a0.Perils, fV (lSlice (lInt .i64)) (.slice A3 a0.Areas.length c3) a0.Areas, fV (lSlice (lInt .i64)) (.slice A6 a0.Reinstatements.length c6) a0.Reinstatements, fV (lSlice (lInt .i64)) (.slice A9 a0.Inures.length c9) a0.Inures, fV (lSlice lGPart) (.slice A12 a0.Parts.length c12) a0.Parts]) (k99, 0, ()) hk99 ⟨rfl, rfl, trivial⟩ (fun _ h => h.to ⟨_, r0, trivial⟩ ⟨m0, ⟨(ms m0), ⟨(ms (ms m0)), ⟨(ms (ms (ms m0))), ⟨(ms (ms (ms (ms m0)))), trivial⟩⟩⟩⟩⟩) ?_
                    rintro ⟨k99, s99, _⟩ hI
                    obtain ⟨k99, rfl, q99, h, g99⟩ := IterN.pos hI
                    dsimp only at h ⊢
                    unfold treatyref20_Validate_l99 at h
                    refine wc_seq ?_
                    refine wc_seq ?_
                    refine wc_region ?_   -- region 33
                    refine wl_det rfl rfl (det_move rfl) rfl ?_
                    refine wl_det rfl rfl (det_field rfl fd49_15 rfl) rfl ?_
                    refine wl_det rfl rfl (det_load rfl m0 (by rfl) na23 us23) rfl ?_
                    refine wl_det rfl rfl (det_len rfl un23) rfl ?_
                    refine wl_det rfl rfl (det_lss rfl rfl) rfl ?_
                    refine wl_nil ?_
                    refine pn_then ?_
                    refine wc_cond rfl (fun cd103 => ?_) (fun cd103 => ?_)
                    · have h := ifT h cd103
                      refine wc_skip ?_
                      refine pn_then ?_
                      refine wc_seq ?_
                      refine wc_block ?_
                      refine wc_seq ?_
                      refine wc_region ?_   -- region 35
                      refine wl_det rfl rfl (det_field rfl fd49_15 rfl) rfl ?_
                      refine wl_det rfl rfl (det_load rfl m0 (by rfl) na23 us23) rfl ?_
                      refine wl_det rfl rfl (det_move rfl) rfl ?_
                      obtain ⟨k35_3, h⟩ := chk_some h
                      refine wl_st (fun _ h => h.openF (ms (ms m0)) k35_3) ?_
                      refine wl_det rfl rfl (det_indexP rfl rfl (ms (ms (ms m0))) k35_3 m0 un23 sz3) rfl ?_
                      refine wl_det rfl rfl (det_loadP (off := 0) rfl m0 (by rfl) (by rfl) (loaded_1 na3 us3)) rfl ?_
                      refine wl_det rfl rfl (det_lss rfl rfl) rfl ?_
                      refine wl_det rfl rfl (det_move rfl) rfl ?_
                      refine wl_way (decide ((ix a0.Reinstatements s99) < 0)) ((decide ((ix a0.Reinstatements s99) < 0)) || (decide (2000000 < (ix a0.Reinstatements s99)))) 7 163 (fun hg => ?_) (fun hg => ?_) ?_
                      · have hg35_13 := hg
                        refine wl_off rfl rfl rfl rfl rfl hg35_13 rfl ?_
                        refine wl_off rfl rfl rfl rfl rfl hg35_13 rfl ?_
                        refine wl_off rfl rfl rfl rfl rfl hg35_13 rfl ?_
                        refine wl_off rfl rfl rfl rfl rfl hg35_13 rfl ?_
                        refine wl_off rfl rfl rfl rfl rfl hg35_13 rfl ?_
                        refine wl_off rfl rfl rfl rfl rfl hg35_13 rfl ?_
                        refine wl_det rfl rfl (det_or_on (r := (decide (2000000 < (ix a0.Reinstatements s99)))) rfl rfl rfl hg35_13) rfl ?_
                        exact wl_nil (pn_qnE (ext_cons rfl (ext_skip rfl (ext_skip rfl (ext_skip rfl (ext_skip rfl (ext_skip rfl (ext_skip rfl (ext_skip rfl ext_refl)))))))) (fun _ h => h))
                      · have hg35_13a := hg
                        refine wl_on rfl rfl rfl rfl hg35_13a ?_
                        refine wl_det rfl rfl (det_field rfl fd49_15 rfl) rfl ?_
                        refine wl_on rfl rfl rfl rfl hg35_13a ?_
                        refine wl_det rfl rfl (det_load rfl m0 (by rfl) na23 us23) rfl ?_
                        refine wl_on rfl rfl rfl rfl hg35_13a ?_
                        refine wl_det rfl rfl (det_move rfl) rfl ?_
                        refine wl_on rfl rfl rfl rfl hg35_13a ?_
                        refine wl_det rfl rfl (det_indexP rfl rfl (ms (ms (ms m0))) k35_3 m0 un23 sz3) rfl ?_
                        refine wl_on rfl rfl rfl rfl hg35_13a ?_
                        refine wl_det rfl rfl (det_loadP (off := 0) rfl m0 (by rfl) (by rfl) (loaded_1 na3 us3)) rfl ?_
                        refine wl_on rfl rfl rfl rfl hg35_13a ?_
                        refine wl_det rfl rfl (det_gtr rfl rfl) rfl ?_
                        refine wl_det rfl rfl (det_or_off rfl rfl rfl hg35_13a) rfl ?_
                        exact wl_nil (pn_qnE (ext_cons rfl (ext_skip rfl (ext_skip rfl (ext_skip rfl (ext_skip rfl (ext_skip rfl (ext_skip rfl (ext_skip rfl ext_refl)))))))) (fun _ h => h))
                      refine wl_nil ?_
                      refine pn_then ?_
                      refine wc_cond rfl (fun cd109 => ?_) (fun cd109 => ?_)
                      · have h := ifT h cd109
                        refine wc_seq ?_
                        refine wc_region ?_   -- region 36
                        refine wl_det rfl rfl (det_assign rfl) rfl ?_
                        refine wl_nil ?_
                        refine pn_then ?_
                        refine wc_ret ?_
                        refine pr_block ?_
                        refine pr_then ?_
                        refine pr_then ?_
                        refine pr_block ?_
                        refine pr_then ?_
                        replace h := Option.some.inj h
                        subst h
                        replace g99 := nextR g99
                        subst g99
                        have h := (elimL ho99)
                        replace h := Option.some.inj h
                        subst h
                        have h := (elimR ho95)
                        replace h := Option.some.inj h
                        subst h
                        refine pn_ret (vs := [_]) rfl ⟨rfl, trivial⟩ ⟨rfl, rfl, rfl⟩ (fun _ h => h.to trivial trivial)
                      · have h := ifF h cd109
                        refine wc_skip ?_
                        refine pn_block ?_
                        refine pn_then ?_
                        refine wc_region ?_   -- region 34
                        refine wl_det rfl rfl (det_move rfl) rfl ?_
                        refine wl_det rfl rfl (det_add rfl rfl) rfl ?_
                        refine wl_det rfl rfl (det_assign rfl) rfl ?_
                        refine wl_nil ?_
                        replace h := Option.some.inj h
                        subst h
                        exact pn_some (k99, (w64 (s99 + 1)), ()) ⟨nextL g99, Nat.lt_succ_self _⟩ ⟨rfl, rfl, trivial⟩ (fun _ h => h.to ⟨_, r0, trivial⟩ ⟨(ms m0), ⟨(ms (ms m0)), ⟨(ms (ms (ms m0))), ⟨(ms (ms (ms (ms m0)))), ⟨(ms (ms (ms (ms (ms m0))))), trivial⟩⟩⟩⟩⟩)
                    · have h := ifF h cd103
                      refine wc_exit ?_
                      refine px_then ?_
                      refine px_then ?_
                      refine px_block ?_
                      replace h := Option.some.inj h
                      subst h
                      replace g99 := nextR g99
                      subst g99
                      have h := (elimR ho99)
                      replace h := Option.some.inj h
                      subst h
                      exact pn_meetG ((), ()) rfl ⟨rfl, trivial⟩ (fun _ h => h.to ⟨_, r0, trivial⟩ ⟨m0, ⟨(ms m0), ⟨(ms (ms m0)), ⟨(ms (ms (ms m0))), ⟨(ms (ms (ms (ms m0)))), trivial⟩⟩⟩⟩⟩)
                  rintro ⟨s95, _⟩ e95
                  dsimp only at e95 ⊢
                  subst e95
                  have h := (elimL ho95)
                  refine wc_seq ?_
                  refine wc_seq ?_
                  refine wc_region ?_   -- region 37
                  refine wl_det rfl rfl (det_field rfl fd49_18 rfl) rfl ?_
                  refine wl_det rfl rfl (det_load rfl m0 (by rfl) na23 us23) rfl ?_
                  refine wl_det rfl rfl (det_len rfl un23) rfl ?_
                  refine wl_det rfl rfl (det_gtr rfl rfl) rfl ?_
                  refine wl_nil ?_
                  refine pn_then ?_
                  refine wc_cond rfl (fun cd116 => ?_) (fun cd116 => ?_)
                  · have h := ifT h cd116
                    refine wc_seq ?_
                    refine wc_region ?_   -- region 38
                    refine wl_det rfl rfl (det_assign rfl) rfl ?_
                    refine wl_nil ?_
                    refine pn_then ?_
                    refine wc_ret ?_
                    refine pr_then ?_
                    replace h := Option.some.inj h
                    subst h
                    refine pn_ret (vs := [_]) rfl ⟨rfl, trivial⟩ ⟨rfl, rfl, rfl⟩ (fun _ h => h.to trivial trivial)
                  · have h := ifF h cd116
                    refine wc_skip ?_
                    refine pn_then ?_
                    refine wc_seq ?_
                    refine wc_seq ?_
                    refine wc_region ?_   -- region 39
                    refine wl_det rfl rfl (det_field rfl fd49_18 rfl) rfl ?_
                    refine wl_det rfl rfl (det_load rfl m0 (by rfl) na23 us23) rfl ?_
                    obtain ⟨r39_2, hr39_2, h⟩ := bind_some h
                    refine wl_act (act_callS (cap := []) (W_treatyref20_ascending a0.Inures 1 1048576 A9 a0.Inures.length c9 r39_2 hr39_2) rfl rfl rfl bd76 rfl ⟨(ms (ms (ms m0))), trivial⟩) rfl rfl rfl ?_
                    rintro _ _ _ ⟨_, _, ⟨rfl, rfl, rfl⟩, rfl, rfl⟩
                    dsimp only [List.nil_append, List.cons_append]
                    refine wl_det rfl rfl (det_assign rfl) rfl ?_
                    refine wl_nil ?_
                    refine pn_then ?_
                    refine wc_seq ?_
                    refine wc_region ?_   -- region 40
                    refine wl_det rfl rfl (det_move rfl) rfl ?_
                    refine wl_det rfl rfl (det_neq rfl rfl) rfl ?_
                    refine wl_nil ?_
                    refine pn_then ?_
                    refine wc_cond rfl (fun cd124 => ?_) (fun cd124 => ?_)
                    · have h := ifT h cd124
                      refine wc_seq ?_
                      refine wc_region ?_   -- region 41
                      refine wl_det rfl rfl (det_move rfl) rfl ?_
                      refine wl_det rfl rfl (det_assign rfl) rfl ?_
                      refine wl_nil ?_
                      refine pn_then ?_
                      refine wc_ret ?_
                      refine pr_then ?_
                      replace h := Option.some.inj h
                      subst h
                      refine pn_ret (vs := [_]) rfl ⟨rfl, trivial⟩ ⟨rfl, rfl, rfl⟩ (fun _ h => h.to trivial trivial)
                    · have h := ifF h cd124
                      refine wc_skip ?_
                      refine pn_then ?_
                      refine wc_seq ?_
                      refine wc_seq ?_
                      refine wc_region ?_   -- region 42
                      refine wl_det rfl rfl (det_field rfl fd49_18 rfl) rfl ?_
                      refine wl_det rfl rfl (det_load rfl m0 (by rfl) na23 us23) rfl ?_
                      refine wl_det rfl rfl (det_field rfl fd49_0 rfl) rfl ?_
                      refine wl_det rfl rfl (det_load rfl m0 (by rfl) na3 us3) rfl ?_
                      obtain ⟨r42_4, hr42_4, h⟩ := bind_some h
                      refine wl_act (act_callS (cap := []) (W_treatyref20_holds a0.Inures a0.ID A9 a0.Inures.length c9 r42_4 hr42_4) rfl rfl rfl bd65 rfl ⟨(ms (ms (ms m0))), trivial⟩) rfl rfl rfl ?_
                      rintro _ _ _ ⟨_, _, ⟨rfl, rfl, rfl⟩, rfl, rfl⟩
                      dsimp only [List.nil_append, List.cons_append]
                      refine wl_nil ?_
                      refine pn_then ?_
                      refine wc_cond rfl (fun cd130 => ?_) (fun cd130 => ?_)
                      · have h := ifT h cd130
                        refine wc_seq ?_
                        refine wc_region ?_   -- region 43
                        refine wl_det rfl rfl (det_assign rfl) rfl ?_
                        refine wl_nil ?_
                        refine pn_then ?_
                        refine wc_ret ?_
                        refine pr_then ?_
                        replace h := Option.some.inj h
                        subst h
                        refine pn_ret (vs := [_]) rfl ⟨rfl, trivial⟩ ⟨rfl, rfl, rfl⟩ (fun _ h => h.to trivial trivial)
                      · have h := ifF h cd130
                        refine wc_skip ?_
                        refine pn_then ?_
                        refine wc_seq ?_
                        refine wc_region ?_   -- region 44
                        refine wl_det rfl rfl (det_field rfl fd49_19 rfl) rfl ?_
                        refine wl_det rfl rfl (det_load rfl m0 (by rfl) na22 us22) rfl ?_
                        obtain ⟨r44_2, hr44_2, h⟩ := bind_some h
                        refine wl_act (act_callS (cap := []) (W_treatyref20_Parts a0.Parts A12 a0.Parts.length c12 r44_2 hr44_2) rfl rfl rfl bd20 rfl ⟨(ms (ms (ms (ms m0)))), trivial⟩) rfl rfl rfl ?_
                        rintro _ _ _ ⟨_, _, ⟨rfl, rfl, rfl⟩, rfl, rfl⟩
                        dsimp only [List.nil_append, List.cons_append]
                        refine wl_det rfl rfl (det_assign rfl) rfl ?_
                        refine wl_nil ?_
                        refine pn_then ?_
                        refine wc_ret ?_
                        replace h := Option.some.inj h
                        subst h
                        refine pn_ret (vs := [_]) rfl ⟨rfl, trivial⟩ ⟨rfl, rfl, rfl⟩ (fun _ h => h.to trivial trivial)
def Q_treatyref20_Weights (r : (List Int) × Int) : Value → List Ent → List Fact → Prop := fun v θ κ => ∃ (pA0 : Option Addr), ∃ (pn0 : Nat), ∃ (pc0 : Nat), v = .tuple #[.slice pA0 pn0 pc0, .int .i64 r.2] ∧ θ = [eS (lInt .i64) 3 pA0 pn0 pc0 r.1] ∧ κ = []
theorem plains_treatyref20_Weights {r : (List Int) × Int} : ∀ v θ κ, Q_treatyref20_Weights r v θ κ → Plains θ := by
  rintro _ _ _ ⟨_, _, _, rfl, rfl, rfl⟩
  exact ⟨plain_eS, trivial⟩
set_option maxHeartbeats 4000000 in
set_option maxRecDepth 100000 in
theorem W_treatyref20_Weights (a0 : GTreaty) (a1 : Int) (A0 : Option Addr) (n0 : Nat) (c0 : Nat) (A3 : Option Addr) (n3 : Nat) (c3 : Nat) (A6 : Option Addr) (n6 : Nat) (c6 : Nat) (A9 : Option Addr) (n9 : Nat) (c9 : Nat) (A12 : Option Addr) (n12 : Nat) (c12 : Nat) (r : (List Int) × Int) (h : treatyref20_Weights a0 a1 = some r) : Spec Try.prog 32 [.agg #[.int .i64 a0.ID, .int .i64 a0.Kind, .int .i64 a0.Period.From, .int .i64 a0.Period.To, .slice A0 n0 c0, .slice A3 n3 c3, .int .i64 a0.Risk, .int .i64 a0.Cession, .int .i64 a0.Line, .int .i64 a0.Lines, .int .i64 a0.Retention, .int .i64 a0.Limit, .int .i64 a0.Window, .int .i64 a0.Deductible, .int .i64 a0.Aggregate, .int .i64 a0.Premium, .slice A6 n6 c6, .bool a0.Timed, .int .i64 a0.Base, .slice A9 n9 c9, .slice A12 n12 c12], .int .i64 a1] [] [fV (lSlice (lInt .i64)) (.slice A0 n0 c0) a0.Perils, fV (lSlice (lInt .i64)) (.slice A3 n3 c3) a0.Areas, fV (lSlice (lInt .i64)) (.slice A6 n6 c6) a0.Reinstatements, fV (lSlice (lInt .i64)) (.slice A9 n9 c9) a0.Inures, fV (lSlice lGPart) (.slice A12 n12 c12) a0.Parts] (Q_treatyref20_Weights r) := by
  unfold treatyref20_Weights at h
  refine spec_of (σ := [(0, _), (1, _)]) Try.func32 rfl rfl rfl rfl ?_
  intro C
  refine wc_know (fun _ h => h.lenF m0) (fun e => ?_)
  subst e
  refine wc_know (fun _ h => h.lenF (ms m0)) (fun e => ?_)
  subst e
  refine wc_know (fun _ h => h.lenF (ms (ms m0))) (fun e => ?_)
  subst e
  refine wc_know (fun _ h => h.lenF (ms (ms (ms m0)))) (fun e => ?_)
  subst e
  refine wc_know (fun _ h => h.lenF (ms (ms (ms (ms m0))))) (fun e => ?_)
  subst e
  refine wc_seq ?_
  refine wc_region ?_   -- region 0
  refine wl_act (act_box (cs := [_, _, _, _, _, _, _, _, _, _, _, _, _, _, _, _, _, _, _, _, _]) rfl rfl) rfl rfl rfl ?_
  rintro _ _ _ ⟨b0_0, rfl, rfl, rfl⟩
  refine wl_det rfl rfl (det_assign rfl) rfl ?_
  refine wl_det rfl rfl (det_assign rfl) rfl ?_
  refine wl_nil ?_
  refine pn_then ?_
  refine wc_seq ?_
  refine wc_seq ?_
  refine wc_region ?_   -- region 1
  refine wl_det rfl rfl (det_loadN (cells := [_, _, _, _, _, _, _, _, _, _, _, _, _, _, _, _, _, _, _, _, _]) rfl m0 (by rfl) ag49 sz49) rfl ?_
  obtain ⟨r1_1, hr1_1, h⟩ := bind_some h
  refine wl_act (act_callS (cap := []) (W_treatyref20_Validate a0 A0 a0.Perils.length c0 A3 a0.Areas.length c3 A6 a0.Reinstatements.length c6 A9 a0.Inures.length c9 A12 a0.Parts.length c12 r1_1 hr1_1) rfl rfl rfl bd59 rfl ⟨m0, ⟨(ms m0), ⟨(ms (ms m0)), ⟨(ms (ms (ms m0))), ⟨(ms (ms (ms (ms m0)))), trivial⟩⟩⟩⟩⟩) rfl rfl rfl ?_
  rintro _ _ _ ⟨_, _, ⟨rfl, rfl, rfl⟩, rfl, rfl⟩
  dsimp only [List.nil_append, List.cons_append]
  refine wl_det rfl rfl (det_assign rfl) rfl ?_
  refine wl_nil ?_
  refine pn_then ?_
  refine wc_seq ?_
  refine wc_region ?_   -- region 2
  refine wl_det rfl rfl (det_move rfl) rfl ?_
  refine wl_det rfl rfl (det_neq rfl rfl) rfl ?_
  refine wl_nil ?_
  refine pn_then ?_
  refine wc_cond rfl (fun cd7 => ?_) (fun cd7 => ?_)
  · have h := ifT h cd7
    refine wc_seq ?_
    refine wc_region ?_   -- region 3
    refine wl_det rfl rfl (det_move rfl) rfl ?_
    refine wl_det rfl rfl (det_assign rfl) rfl ?_
    refine wl_det rfl rfl (det_assign rfl) rfl ?_
    refine wl_nil ?_
    refine pn_then ?_
    refine wc_ret ?_
    refine pr_then ?_
    refine pn_st (fun _ h => h.zeroS (lInt .i64) 3 none) ?_
    replace h := Option.some.inj h
    subst h
    refine pn_ret (vs := [_, _]) rfl ⟨rfl, rfl, trivial⟩ ⟨none, 0, 0, rfl, rfl, rfl⟩ (fun _ h => h.to ⟨_, r0, trivial⟩ trivial)
  · have h := ifF h cd7
    refine wc_skip ?_
    refine pn_then ?_
    refine wc_seq ?_
    refine wc_seq ?_
    refine wc_region ?_   -- region 4
    refine wl_det rfl rfl (det_field rfl fd49_1 rfl) rfl ?_
    refine wl_det rfl rfl (det_load rfl m0 (by rfl) na3 us3) rfl ?_
    refine wl_det rfl rfl (det_gtr rfl rfl) rfl ?_
    refine wl_nil ?_
    refine pn_then ?_
    refine wc_cond rfl (fun cd13 => ?_) (fun cd13 => ?_)
    · have h := ifT h cd13
      refine wc_seq ?_
      refine wc_region ?_   -- region 5
      refine wl_det rfl rfl (det_assign rfl) rfl ?_
      refine wl_det rfl rfl (det_assign rfl) rfl ?_
      refine wl_nil ?_
      refine pn_then ?_
      refine wc_ret ?_
      refine pr_then ?_
      refine pn_st (fun _ h => h.zeroS (lInt .i64) 3 none) ?_
      replace h := Option.some.inj h
      subst h
      refine pn_ret (vs := [_, _]) rfl ⟨rfl, rfl, trivial⟩ ⟨none, 0, 0, rfl, rfl, rfl⟩ (fun _ h => h.to ⟨_, r0, trivial⟩ trivial)
    · have h := ifF h cd13
      refine wc_skip ?_
      refine pn_then ?_
      refine wc_seq ?_
      refine wc_seq ?_
      refine wc_region ?_   -- region 6
      refine wl_det rfl rfl (det_move rfl) rfl ?_
      refine wl_det rfl rfl (det_lss rfl rfl) rfl ?_
      refine wl_det rfl rfl (det_move rfl) rfl ?_
      refine wl_way (decide (a1 < 0)) ((decide (a1 < 0)) || (decide (68719476736 < a1))) 3 22 (fun hg => ?_) (fun hg => ?_) ?_
      · have hg6_5 := hg
        refine wl_off rfl rfl rfl rfl rfl hg6_5 rfl ?_
        refine wl_off rfl rfl rfl rfl rfl hg6_5 rfl ?_
        refine wl_det rfl rfl (det_or_on (r := (decide (68719476736 < a1))) rfl rfl rfl hg6_5) rfl ?_
        exact wl_nil (pn_qnE (ext_cons rfl (ext_skip rfl (ext_skip rfl (ext_skip rfl ext_refl)))) (fun _ h => h))
      · have hg6_5a := hg
        refine wl_on rfl rfl rfl rfl hg6_5a ?_
        refine wl_det rfl rfl (det_move rfl) rfl ?_
        refine wl_on rfl rfl rfl rfl hg6_5a ?_
        refine wl_det rfl rfl (det_gtr rfl rfl) rfl ?_
        refine wl_det rfl rfl (det_or_off rfl rfl rfl hg6_5a) rfl ?_
        exact wl_nil (pn_qnE (ext_cons rfl (ext_skip rfl (ext_skip rfl (ext_skip rfl ext_refl)))) (fun _ h => h))
      refine wl_nil ?_
      refine pn_then ?_
      refine wc_cond rfl (fun cd19 => ?_) (fun cd19 => ?_)
      · have h := ifT h cd19
        refine wc_seq ?_
        refine wc_region ?_   -- region 7
        refine wl_det rfl rfl (det_assign rfl) rfl ?_
        refine wl_det rfl rfl (det_assign rfl) rfl ?_
        refine wl_nil ?_
        refine pn_then ?_
        refine wc_ret ?_
        refine pr_then ?_
        refine pn_st (fun _ h => h.zeroS (lInt .i64) 3 none) ?_
        replace h := Option.some.inj h
        subst h
        refine pn_ret (vs := [_, _]) rfl ⟨rfl, rfl, trivial⟩ ⟨none, 0, 0, rfl, rfl, rfl⟩ (fun _ h => h.to ⟨_, r0, trivial⟩ trivial)
      · have h := ifF h cd19
        refine wc_skip ?_
        refine pn_then ?_
        refine wc_seq ?_
        refine wc_seq ?_
        refine wc_region ?_   -- region 8
        refine wl_det rfl rfl (det_field rfl fd49_1 rfl) rfl ?_
        refine wl_det rfl rfl (det_load rfl m0 (by rfl) na3 us3) rfl ?_
        refine wl_det rfl rfl (det_neq rfl rfl) rfl ?_
        refine wl_nil ?_
        refine pn_then ?_
        refine wc_cond rfl (fun cd25 => ?_) (fun cd25 => ?_)
        · have h := ifT h cd25
          refine wc_seq ?_
          refine wc_region ?_   -- region 9
          refine wl_det rfl rfl (det_field rfl fd49_6 rfl) rfl ?_
          refine wl_det rfl rfl (det_load rfl m0 (by rfl) na3 us3) rfl ?_
          refine wl_det rfl rfl (det_sub rfl rfl) rfl ?_
          refine wl_det rfl rfl (det_field rfl fd49_6 rfl) rfl ?_
          refine wl_det rfl rfl (det_load rfl m0 (by rfl) na3 us3) rfl ?_
          refine wl_act (act_litS (lInt .i64) (vs := [_, _, _]) (cs := [_, _, _]) [(w64 (1000000 - a0.Cession)), a0.Cession, 0] un23 in3 rfl rfl rfl rfl rfl ⟨rfl, rfl, rfl, trivial⟩ (by rfl) rfl (litR_flat rfl)) rfl rfl rfl ?_
          rintro _ _ _ ⟨A9_5, rfl, rfl, rfl⟩
          refine wl_det rfl rfl (det_assign rfl) rfl ?_
          refine wl_det rfl rfl (det_assign rfl) rfl ?_
          refine wl_nil ?_
          refine pn_then ?_
          refine wc_ret ?_
          refine pr_then ?_
          replace h := Option.some.inj h
          subst h
          refine pn_ret (vs := [_, _]) rfl ⟨rfl, rfl, trivial⟩ ⟨A9_5, 3, 3, rfl, rfl, rfl⟩ (fun _ h => h.to ⟨_, r0, trivial⟩ trivial)
        · have h := ifF h cd25
          refine wc_skip ?_
          refine pn_then ?_
          refine wc_seq ?_
          refine wc_seq ?_
          refine wc_region ?_   -- region 10
          refine wl_det rfl rfl (det_move rfl) rfl ?_
          refine wl_det rfl rfl (det_eql rfl rfl) rfl ?_
          refine wl_nil ?_
          refine pn_then ?_
          refine wc_cond rfl (fun cd31 => ?_) (fun cd31 => ?_)
          · have h := ifT h cd31
            refine wc_seq ?_
            refine wc_region ?_   -- region 11
            refine wl_act (act_litS (lInt .i64) (vs := [_, _, _]) (cs := [_, _, _]) [1, 0, 0] un23 in3 rfl rfl rfl rfl rfl ⟨rfl, rfl, rfl, trivial⟩ (by rfl) rfl (litR_flat rfl)) rfl rfl rfl ?_
            rintro _ _ _ ⟨A11_0, rfl, rfl, rfl⟩
            refine wl_det rfl rfl (det_assign rfl) rfl ?_
            refine wl_det rfl rfl (det_assign rfl) rfl ?_
            refine wl_nil ?_
            refine pn_then ?_
            refine wc_ret ?_
            refine pr_then ?_
            replace h := Option.some.inj h
            subst h
            refine pn_ret (vs := [_, _]) rfl ⟨rfl, rfl, trivial⟩ ⟨A11_0, 3, 3, rfl, rfl, rfl⟩ (fun _ h => h.to ⟨_, r0, trivial⟩ trivial)
          · have h := ifF h cd31
            refine wc_skip ?_
            refine pn_then ?_
            refine wc_seq ?_
            refine wc_region ?_   -- region 12
            refine wl_det rfl rfl (det_move rfl) rfl ?_
            refine wl_det rfl rfl (det_field rfl fd49_7 rfl) rfl ?_
            refine wl_det rfl rfl (det_load rfl m0 (by rfl) na3 us3) rfl ?_
            refine wl_det rfl rfl (det_minI rfl rfl) rfl ?_
            refine wl_det rfl rfl (det_assign rfl) rfl ?_
            refine wl_nil ?_
            refine pn_then ?_
            refine wc_seq ?_
            refine wc_region ?_   -- region 13
            refine wl_det rfl rfl (det_move rfl) rfl ?_
            refine wl_det rfl rfl (det_move rfl) rfl ?_
            refine wl_det rfl rfl (det_sub rfl rfl) rfl ?_
            refine wl_det rfl rfl (det_field rfl fd49_8 rfl) rfl ?_
            refine wl_det rfl rfl (det_load rfl m0 (by rfl) na3 us3) rfl ?_
            refine wl_det rfl rfl (det_field rfl fd49_7 rfl) rfl ?_
            refine wl_det rfl rfl (det_load rfl m0 (by rfl) na3 us3) rfl ?_
            refine wl_det rfl rfl (det_mul rfl rfl) rfl ?_
            refine wl_det rfl rfl (det_minI rfl rfl) rfl ?_
            refine wl_det rfl rfl (det_assign rfl) rfl ?_
            refine wl_nil ?_
            refine pn_then ?_
            refine wc_seq ?_
            refine wc_region ?_   -- region 14
            refine wl_det rfl rfl (det_move rfl) rfl ?_
            refine wl_det rfl rfl (det_move rfl) rfl ?_
            refine wl_det rfl rfl (det_move rfl) rfl ?_
            refine wl_det rfl rfl (det_move rfl) rfl ?_
            refine wl_det rfl rfl (det_sub rfl rfl) rfl ?_
            refine wl_det rfl rfl (det_move rfl) rfl ?_
            refine wl_det rfl rfl (det_sub rfl rfl) rfl ?_
            refine wl_act (act_litS (lInt .i64) (vs := [_, _, _]) (cs := [_, _, _]) [(minI a1 a0.Line), (minI (w64 (a1 - (minI a1 a0.Line))) (w64 (a0.Lines * a0.Line))), (w64 ((w64 (a1 - (minI a1 a0.Line))) - (minI (w64 (a1 - (minI a1 a0.Line))) (w64 (a0.Lines * a0.Line)))))] un23 in3 rfl rfl rfl rfl rfl ⟨rfl, rfl, rfl, trivial⟩ (by rfl) rfl (litR_flat rfl)) rfl rfl rfl ?_
            rintro _ _ _ ⟨A14_7, rfl, rfl, rfl⟩
            refine wl_det rfl rfl (det_assign rfl) rfl ?_
            refine wl_det rfl rfl (det_assign rfl) rfl ?_
            refine wl_nil ?_
            refine pn_then ?_
            refine wc_ret ?_
            replace h := Option.some.inj h
            subst h
            refine pn_ret (vs := [_, _]) rfl ⟨rfl, rfl, trivial⟩ ⟨A14_7, 3, 3, rfl, rfl, rfl⟩ (fun _ h => h.to ⟨_, r0, trivial⟩ trivial)
def Q_treatyref01_weights (r : Int × Int) : Value → List Ent → List Fact → Prop := fun v θ κ => v = .tuple #[.int .i64 r.1, .int .i64 r.2] ∧ θ = [] ∧ κ = []
theorem plains_treatyref01_weights {r : Int × Int} : ∀ v θ κ, Q_treatyref01_weights r v θ κ → Plains θ := by
  rintro _ _ _ ⟨rfl, rfl, rfl⟩
  exact trivial
set_option maxHeartbeats 4000000 in
set_option maxRecDepth 100000 in
theorem W_treatyref01_weights (a0 : (List Int)) (A0 : Option Addr) (n0 : Nat) (c0 : Nat) (r : Int × Int) (h : treatyref01_weights a0 = some r) : Spec Try.prog 69 [.slice A0 n0 c0] [] [fV (lSlice (lInt .i64)) (.slice A0 n0 c0) a0] (Q_treatyref01_weights r) := by
  unfold treatyref01_weights at h
  refine spec_of (σ := [(0, _)]) Try.func69 rfl rfl rfl rfl ?_
  intro C
  refine wc_know (fun _ h => h.lenF m0) (fun e => ?_)
  subst e
  refine wc_seq ?_
  refine wc_region ?_   -- region 0
  refine wl_det rfl rfl (det_assign rfl) rfl ?_
  refine wl_det rfl rfl (det_assign rfl) rfl ?_
  refine wl_nil ?_
  refine pn_then ?_
  refine wc_seq ?_
  refine wc_region ?_   -- region 1
  refine wl_det rfl rfl (det_assign rfl) rfl ?_
  refine wl_nil ?_
  refine pn_then ?_
  obtain ⟨q4, h, ho4⟩ := bind_some h
  refine wc_meetG (G := Int × Unit) (fun (s4, _) => (.inl s4) = q4) (fun (s4, _) => [(4, .int .i64 s4)]) (fun (_, _) => []) (fun (_, _) => []) ?_ ?_
  · refine wc_seq ?_
    refine wc_region ?_   -- region 2
    refine wl_det rfl rfl (det_assign rfl) rfl ?_
    refine wl_nil ?_
    refine pn_then ?_
    refine wc_block ?_
    obtain ⟨o8, h, ho8⟩ := bind_some h
    obtain ⟨k8, hk8⟩ := loopV_some.1 h
    refine wc_loop (G := Nat × (Int × Int) × Unit) (fun g => IterN (treatyref01_weights_l8 a0) g.1 g.2.1 o8) (fun g => g.1) (fun (_, s8, _) => [(0, .slice A0 a0.length c0), (4, .int .i64 s8.1), (5, .int .i64 s8.2)]) (fun (_, _, _) => []) (fun (_, _, _) => [fV (lSlice (lInt .i64)) (.slice A0 a0.length c0) a0]) (k8, (0, 0), ()) hk8 ⟨rfl, rfl, rfl, trivial⟩ (fun _ h => h.to trivial ⟨m0, trivial⟩) ?_
    rintro ⟨k8, s8, _⟩ hI
    obtain ⟨k8, rfl, q8, h, g8⟩ := IterN.pos hI
    dsimp only at h ⊢
    unfold treatyref01_weights_l8 at h
    refine wc_seq ?_
    refine wc_seq ?_
    refine wc_region ?_   -- region 3
    refine wl_det rfl rfl (det_move rfl) rfl ?_
    refine wl_det rfl rfl (det_move rfl) rfl ?_
    refine wl_det rfl rfl (det_len rfl un23) rfl ?_
    refine wl_det rfl rfl (det_lss rfl rfl) rfl ?_
    refine wl_nil ?_
    refine pn_then ?_
    refine wc_cond rfl (fun cd12 => ?_) (fun cd12 => ?_)
    · have h := ifT h cd12
      refine wc_skip ?_
      refine pn_then ?_
      refine wc_seq ?_
      refine wc_block ?_
      refine wc_seq ?_
      refine wc_seq ?_
      refine wc_region ?_   -- region 5
      refine wl_det rfl rfl (det_move rfl) rfl ?_
      refine wl_det rfl rfl (det_move rfl) rfl ?_
      obtain ⟨k5_2, h⟩ := chk_some h
      refine wl_st (fun _ h => h.openF m0 k5_2) ?_
      refine wl_det rfl rfl (det_indexP rfl rfl (ms m0) k5_2 m0 un23 sz3) rfl ?_
      refine wl_det rfl rfl (det_loadP (off := 0) rfl m0 (by rfl) (by rfl) (loaded_1 na3 us3)) rfl ?_
      refine wl_det rfl rfl (det_lss rfl rfl) rfl ?_
      refine wl_det rfl rfl (det_move rfl) rfl ?_
      refine wl_way (decide ((ix a0 s8.2) < 0)) ((decide ((ix a0 s8.2) < 0)) || (decide (17592186044416 < (ix a0 s8.2)))) 6 23 (fun hg => ?_) (fun hg => ?_) ?_
      · have hg5_11 := hg
        refine wl_off rfl rfl rfl rfl rfl hg5_11 rfl ?_
        refine wl_off rfl rfl rfl rfl rfl hg5_11 rfl ?_
        refine wl_off rfl rfl rfl rfl rfl hg5_11 rfl ?_
        refine wl_off rfl rfl rfl rfl rfl hg5_11 rfl ?_
        refine wl_off rfl rfl rfl rfl rfl hg5_11 rfl ?_
        refine wl_det rfl rfl (det_or_on (r := (decide (17592186044416 < (ix a0 s8.2)))) rfl rfl rfl hg5_11) rfl ?_
        exact wl_nil (pn_qnE (ext_cons rfl (ext_skip rfl (ext_skip rfl (ext_skip rfl (ext_skip rfl (ext_skip rfl (ext_skip rfl ext_refl))))))) (fun _ h => h))
      · have hg5_11a := hg
        refine wl_on rfl rfl rfl rfl hg5_11a ?_
        refine wl_det rfl rfl (det_move rfl) rfl ?_
        refine wl_on rfl rfl rfl rfl hg5_11a ?_
        refine wl_det rfl rfl (det_move rfl) rfl ?_
        refine wl_on rfl rfl rfl rfl hg5_11a ?_
        refine wl_det rfl rfl (det_indexP rfl rfl (ms m0) k5_2 m0 un23 sz3) rfl ?_
        refine wl_on rfl rfl rfl rfl hg5_11a ?_
        refine wl_det rfl rfl (det_loadP (off := 0) rfl m0 (by rfl) (by rfl) (loaded_1 na3 us3)) rfl ?_
        refine wl_on rfl rfl rfl rfl hg5_11a ?_
        refine wl_det rfl rfl (det_gtr rfl rfl) rfl ?_
        refine wl_det rfl rfl (det_or_off rfl rfl rfl hg5_11a) rfl ?_
        exact wl_nil (pn_qnE (ext_cons rfl (ext_skip rfl (ext_skip rfl (ext_skip rfl (ext_skip rfl (ext_skip rfl (ext_skip rfl ext_refl))))))) (fun _ h => h))
      refine wl_nil ?_
      refine pn_then ?_
      refine wc_cond rfl (fun cd19 => ?_) (fun cd19 => ?_)
      · have h := ifT h cd19
        refine wc_seq ?_
        refine wc_region ?_   -- region 6
        refine wl_det rfl rfl (det_assign rfl) rfl ?_
        refine wl_det rfl rfl (det_assign rfl) rfl ?_
        refine wl_nil ?_
        refine pn_then ?_
        refine wc_ret ?_
        refine pr_then ?_
        refine pr_block ?_
        refine pr_then ?_
        refine pr_then ?_
        refine pr_block ?_
        refine pr_then ?_
        replace h := Option.some.inj h
        subst h
        replace g8 := nextR g8
        subst g8
        have h := (elimL ho8)
        replace h := Option.some.inj h
        subst h
        have h := (elimR ho4)
        replace h := Option.some.inj h
        subst h
        refine pn_ret (vs := [_, _]) rfl ⟨rfl, rfl, trivial⟩ ⟨rfl, rfl, rfl⟩ (fun _ h => h.to trivial trivial)
      · have h := ifF h cd19
        refine wc_skip ?_
        refine pn_then ?_
        refine wc_region ?_   -- region 7
        refine wl_det rfl rfl (det_move rfl) rfl ?_
        refine wl_det rfl rfl (det_move rfl) rfl ?_
        refine wl_det rfl rfl (det_move rfl) rfl ?_
        refine wl_det rfl rfl (det_indexP rfl rfl (ms m0) k5_2 m0 un23 sz3) rfl ?_
        refine wl_det rfl rfl (det_loadP (off := 0) rfl m0 (by rfl) (by rfl) (loaded_1 na3 us3)) rfl ?_
        refine wl_det rfl rfl (det_add rfl rfl) rfl ?_
        refine wl_det rfl rfl (det_assign rfl) rfl ?_
        refine wl_nil ?_
        refine pn_block ?_
        refine pn_then ?_
        refine wc_region ?_   -- region 4
        refine wl_det rfl rfl (det_move rfl) rfl ?_
        refine wl_det rfl rfl (det_add rfl rfl) rfl ?_
        refine wl_det rfl rfl (det_assign rfl) rfl ?_
        refine wl_nil ?_
        replace h := Option.some.inj h
        subst h
        exact pn_some (k8, ((w64 (s8.1 + (ix a0 s8.2))), (w64 (s8.2 + 1))), ()) ⟨nextL g8, Nat.lt_succ_self _⟩ ⟨rfl, rfl, rfl, trivial⟩ (fun _ h => h.to trivial ⟨(ms m0), trivial⟩)
    · have h := ifF h cd12
      refine wc_exit ?_
      refine px_then ?_
      refine px_then ?_
      refine px_block ?_
      replace h := Option.some.inj h
      subst h
      replace g8 := nextR g8
      subst g8
      have h := (elimR ho8)
      replace h := Option.some.inj h
      subst h
      exact pn_meetG (s8.1, ()) rfl ⟨rfl, trivial⟩ (fun _ h => h.to trivial trivial)
  rintro ⟨s4, _⟩ e4
  dsimp only at e4 ⊢
  subst e4
  have h := (elimL ho4)
  refine wc_seq ?_
  refine wc_region ?_   -- region 8
  refine wl_det rfl rfl (det_move rfl) rfl ?_
  refine wl_det rfl rfl (det_assign rfl) rfl ?_
  refine wl_det rfl rfl (det_assign rfl) rfl ?_
  refine wl_nil ?_
  refine pn_then ?_
  refine wc_ret ?_
  replace h := Option.some.inj h
  subst h
  refine pn_ret (vs := [_, _]) rfl ⟨rfl, rfl, trivial⟩ ⟨rfl, rfl, rfl⟩ (fun _ h => h.to trivial trivial)
def Q_treatyref01_Valid (r : Bool) : Value → List Ent → List Fact → Prop := fun v θ κ => v = .bool r ∧ θ = [] ∧ κ = []
theorem plains_treatyref01_Valid {r : Bool} : ∀ v θ κ, Q_treatyref01_Valid r v θ κ → Plains θ := by
  rintro _ _ _ ⟨rfl, rfl, rfl⟩
  exact trivial
set_option maxHeartbeats 4000000 in
set_option maxRecDepth 100000 in
theorem W_treatyref01_Valid (a0 : Int) (r : Bool) (h : treatyref01_Valid a0 = some r) : Spec Try.prog 51 [.int .i64 a0] [] [] (Q_treatyref01_Valid r) := by
  unfold treatyref01_Valid at h
  refine spec_of (σ := [(0, _)]) Try.func51 rfl rfl rfl rfl ?_
  intro C
  refine wc_seq ?_
  refine wc_region ?_   -- region 0
  refine wl_det rfl rfl (det_assign rfl) rfl ?_
  refine wl_nil ?_
  refine pn_then ?_
  refine wc_seq ?_
  refine wc_region ?_   -- region 1
  refine wl_det rfl rfl (det_move rfl) rfl ?_
  refine wl_det rfl rfl (det_geq rfl rfl) rfl ?_
  refine wl_det rfl rfl (det_move rfl) rfl ?_
  refine wl_way (decide ((-17592186044416) ≤ a0)) ((decide ((-17592186044416) ≤ a0)) && (decide (a0 ≤ 17592186044416))) 3 8 (fun hg => ?_) (fun hg => ?_) ?_
  · have hg1_5 := hg
    refine wl_on rfl rfl rfl rfl hg1_5 ?_
    refine wl_det rfl rfl (det_move rfl) rfl ?_
    refine wl_on rfl rfl rfl rfl hg1_5 ?_
    refine wl_det rfl rfl (det_leq rfl rfl) rfl ?_
    refine wl_det rfl rfl (det_and_on rfl rfl rfl hg1_5) rfl ?_
    exact wl_nil (pn_qnE (ext_cons rfl (ext_skip rfl (ext_skip rfl (ext_skip rfl ext_refl)))) (fun _ h => h))
  · have hg1_5a := hg
    refine wl_off rfl rfl rfl rfl rfl hg1_5a rfl ?_
    refine wl_off rfl rfl rfl rfl rfl hg1_5a rfl ?_
    refine wl_det rfl rfl (det_and_off (q := (decide (a0 ≤ 17592186044416))) rfl rfl rfl hg1_5a) rfl ?_
    exact wl_nil (pn_qnE (ext_cons rfl (ext_skip rfl (ext_skip rfl (ext_skip rfl ext_refl)))) (fun _ h => h))
  refine wl_det rfl rfl (det_assign rfl) rfl ?_
  refine wl_nil ?_
  refine pn_then ?_
  refine wc_ret ?_
  replace h := Option.some.inj h
  subst h
  refine pn_ret (vs := [_]) rfl ⟨rfl, trivial⟩ ⟨rfl, rfl, rfl⟩ (fun _ h => h.to trivial trivial)
def Q_treatyref01_Divide (r : Int × Int × Bool) : Value → List Ent → List Fact → Prop := fun v θ κ => v = .tuple #[.int .i64 r.1, .int .i64 r.2.1, .bool r.2.2] ∧ θ = [] ∧ κ = []
theorem plains_treatyref01_Divide {r : Int × Int × Bool} : ∀ v θ κ, Q_treatyref01_Divide r v θ κ → Plains θ := by
  rintro _ _ _ ⟨rfl, rfl, rfl⟩
  exact trivial
set_option maxHeartbeats 4000000 in
set_option maxRecDepth 100000 in
theorem W_treatyref01_Divide (a0 : Int) (a1 : Int) (a2 : Int) (r : Int × Int × Bool) (h : treatyref01_Divide a0 a1 a2 = some r) : Spec Try.prog 70 [.int .i64 a0, .int .i64 a1, .int .i64 a2] [] [] (Q_treatyref01_Divide r) := by
  unfold treatyref01_Divide at h
  refine spec_of (σ := [(0, _), (1, _), (2, _)]) Try.func70 rfl rfl rfl rfl ?_
  intro C
  refine wc_seq ?_
  refine wc_region ?_   -- region 0
  refine wl_det rfl rfl (det_assign rfl) rfl ?_
  refine wl_det rfl rfl (det_assign rfl) rfl ?_
  refine wl_det rfl rfl (det_assign rfl) rfl ?_
  refine wl_nil ?_
  refine pn_then ?_
  refine wc_seq ?_
  refine wc_region ?_   -- region 1
  refine wl_det rfl rfl (det_assign rfl) rfl ?_
  refine wl_det rfl rfl (det_assign rfl) rfl ?_
  refine wl_nil ?_
  refine pn_then ?_
  obtain ⟨q4, h, ho4⟩ := bind_some h
  refine wc_meetG (G := (Int × Int) × Unit) (fun (s4, _) => (.inl s4) = q4) (fun (s4, _) => [(9, .int .i64 s4.1), (10, .int .i64 s4.2)]) (fun (_, _) => []) (fun (_, _) => []) ?_ ?_
  · refine wc_seq ?_
    refine wc_region ?_   -- region 2
    refine wl_det rfl rfl (det_assign rfl) rfl ?_
    refine wl_nil ?_
    refine pn_then ?_
    refine wc_block ?_
    obtain ⟨o8, h, ho8⟩ := bind_some h
    obtain ⟨k8, hk8⟩ := loopV_some.1 h
    refine wc_loop (G := Nat × (Int × Int × Int) × Unit) (fun g => IterN (treatyref01_Divide_l8 a0 a1 a2) g.1 g.2.1 o8) (fun g => g.1) (fun (_, s8, _) => [(0, .int .i64 a0), (1, .int .i64 a1), (2, .int .i64 a2), (9, .int .i64 s8.1), (10, .int .i64 s8.2.1), (11, .int .i64 s8.2.2)]) (fun (_, _, _) => []) (fun (_, _, _) => []) (k8, (0, 0, 45), ()) hk8 ⟨rfl, rfl, rfl, rfl, rfl, rfl, trivial⟩ (fun _ h => h.to trivial trivial) ?_
    rintro ⟨k8, s8, _⟩ hI
    obtain ⟨k8, rfl, q8, h, g8⟩ := IterN.pos hI
    dsimp only at h ⊢
    unfold treatyref01_Divide_l8 at h
    refine wc_seq ?_
    refine wc_seq ?_
    refine wc_region ?_   -- region 3
    refine wl_det rfl rfl (det_move rfl) rfl ?_
    refine wl_det rfl rfl (det_geq rfl rfl) rfl ?_
    refine wl_nil ?_
    refine pn_then ?_
    refine wc_cond rfl (fun cd12 => ?_) (fun cd12 => ?_)
    · have h := ifT h cd12
      refine wc_skip ?_
      refine pn_then ?_
      refine wc_seq ?_
      refine wc_block ?_
      refine wc_seq ?_
      refine wc_region ?_   -- region 5
      refine wl_det rfl rfl (det_move rfl) rfl ?_
      refine wl_det rfl rfl (det_mul rfl rfl) rfl ?_
      refine wl_det rfl rfl (det_move rfl) rfl ?_
      refine wl_det rfl rfl (det_mul rfl rfl) rfl ?_
      refine wl_det rfl rfl (det_assign rfl) rfl ?_
      refine wl_det rfl rfl (det_assign rfl) rfl ?_
      refine wl_nil ?_
      refine pn_then ?_
      obtain ⟨q18, h, ho18⟩ := bind_some h
      refine wc_meetG (G := Int × Unit) (fun (s18, _) => s18 = q18) (fun (s18, _) => [(0, .int .i64 a0), (1, .int .i64 a1), (2, .int .i64 a2), (9, .int .i64 (w64 (2 * s8.1))), (10, .int .i64 s18), (11, .int .i64 s8.2.2)]) (fun (_, _) => []) (fun (_, _) => []) ?_ ?_
      · refine wc_seq ?_
        refine wc_region ?_   -- region 6
        refine wl_det rfl rfl (det_move rfl) rfl ?_
        refine wl_det rfl rfl (det_move rfl) rfl ?_
        refine wl_det rfl rfl (det_conv rfl us3 un107) rfl ?_
        obtain ⟨k6_3, h⟩ := chk_some h
        refine wl_det rfl rfl (det_shr rfl rfl k6_3) rfl ?_
        refine wl_det rfl rfl (det_band rfl rfl) rfl ?_
        refine wl_det rfl rfl (det_eql rfl rfl) rfl ?_
        refine wl_nil ?_
        refine pn_then ?_
        refine wc_cond rfl (fun cd21 => ?_) (fun cd21 => ?_)
        · have h := ifT h cd21
          refine wc_region ?_   -- region 7
          refine wl_det rfl rfl (det_move rfl) rfl ?_
          refine wl_det rfl rfl (det_move rfl) rfl ?_
          refine wl_det rfl rfl (det_add rfl rfl) rfl ?_
          refine wl_det rfl rfl (det_assign rfl) rfl ?_
          refine wl_nil ?_
          replace h := Option.some.inj h
          subst h
          exact pn_meetG ((w64 ((w64 (2 * s8.2.1)) + a1)), ()) rfl ⟨rfl, rfl, rfl, rfl, rfl, rfl, trivial⟩ (fun _ h => h.to trivial trivial)
        · have h := ifF h cd21
          refine wc_skip ?_
          replace h := Option.some.inj h
          subst h
          exact pn_meetG ((w64 (2 * s8.2.1)), ()) rfl ⟨rfl, rfl, rfl, rfl, rfl, rfl, trivial⟩ (fun _ h => h.to trivial trivial)
      rintro ⟨s18, _⟩ e18
      dsimp only at e18 ⊢
      subst e18
      have h := ho18
      refine wc_seq ?_
      obtain ⟨k8_p1, h⟩ := chk_some h
      refine dx_region 9 [[], [], [], [1, 2], [0, 1, 2, 3], [], [], [5, 6], [0, 1, 2, 3, 4], [0, 1, 2, 3, 4, 5, 6, 7, 8]] mixed (ord := (.det 0 (.det 1 (.det 2 (.det 3 (.det 4 (.det 5 (.det 6 (.det 7 (.det 8 .done)))))))))) (by kernel_rfl) ?_   -- region 8
      refine hx_det rfl rfl rfl nofun (det_move rfl) rfl ?_
      refine hx_det rfl rfl rfl nofun (det_move rfl) rfl ?_
      refine hx_det rfl rfl rfl nofun (det_move rfl) rfl ?_
      refine hx_det rfl rfl rfl nofun (det_quoB rfl rfl k8_p1) rfl ?_
      refine hx_det rfl rfl rfl nofun (det_add rfl rfl) rfl ?_
      refine hx_det rfl rfl rfl nofun (det_move rfl) rfl ?_
      refine hx_det rfl rfl rfl nofun (det_move rfl) rfl ?_
      refine hx_det rfl rfl rfl nofun (det_remB rfl rfl k8_p1) rfl ?_
      refine hx_det rfl rfl rfl nofun (det_assign rfl) rfl ?_
      refine hx_end ?_
      refine wl_det rfl rfl (det_assign rfl) rfl ?_
      refine wl_nil ?_
      refine pn_then ?_
      refine wc_seq ?_
      refine wc_region ?_   -- region 9
      refine wl_det rfl rfl (det_move rfl) rfl ?_
      refine wl_det rfl rfl (det_gtr rfl rfl) rfl ?_
      refine wl_nil ?_
      refine pn_then ?_
      refine wc_cond rfl (fun cd27 => ?_) (fun cd27 => ?_)
      · have h := ifT h cd27
        refine wc_seq ?_
        refine wc_region ?_   -- region 10
        refine wl_det rfl rfl (det_assign rfl) rfl ?_
        refine wl_det rfl rfl (det_assign rfl) rfl ?_
        refine wl_det rfl rfl (det_assign rfl) rfl ?_
        refine wl_nil ?_
        refine pn_then ?_
        refine wc_ret ?_
        refine pr_block ?_
        refine pr_then ?_
        refine pr_then ?_
        refine pr_block ?_
        refine pr_then ?_
        replace h := Option.some.inj h
        subst h
        replace g8 := nextR g8
        subst g8
        have h := (elimL ho8)
        replace h := Option.some.inj h
        subst h
        have h := (elimR ho4)
        replace h := Option.some.inj h
        subst h
        refine pn_ret (vs := [_, _, _]) rfl ⟨rfl, rfl, rfl, trivial⟩ ⟨rfl, rfl, rfl⟩ (fun _ h => h.to trivial trivial)
      · have h := ifF h cd27
        refine wc_skip ?_
        refine pn_block ?_
        refine pn_then ?_
        refine wc_region ?_   -- region 4
        refine wl_det rfl rfl (det_move rfl) rfl ?_
        refine wl_det rfl rfl (det_sub rfl rfl) rfl ?_
        refine wl_det rfl rfl (det_assign rfl) rfl ?_
        refine wl_nil ?_
        replace h := Option.some.inj h
        subst h
        exact pn_some (k8, ((w64 ((w64 (2 * s8.1)) + (w64 (s18.tdiv a2)))), (s18.tmod a2), (w64 (s8.2.2 - 1))), ()) ⟨nextL g8, Nat.lt_succ_self _⟩ ⟨rfl, rfl, rfl, rfl, rfl, rfl, trivial⟩ (fun _ h => h.to trivial trivial)
    · have h := ifF h cd12
      refine wc_exit ?_
      refine px_then ?_
      refine px_then ?_
      refine px_block ?_
      replace h := Option.some.inj h
      subst h
      replace g8 := nextR g8
      subst g8
      have h := (elimR ho8)
      replace h := Option.some.inj h
      subst h
      exact pn_meetG ((s8.1, s8.2.1), ()) rfl ⟨rfl, rfl, trivial⟩ (fun _ h => h.to trivial trivial)
  rintro ⟨s4, _⟩ e4
  dsimp only at e4 ⊢
  subst e4
  have h := (elimL ho4)
  refine wc_seq ?_
  refine wc_region ?_   -- region 11
  refine wl_det rfl rfl (det_move rfl) rfl ?_
  refine wl_det rfl rfl (det_move rfl) rfl ?_
  refine wl_det rfl rfl (det_assign rfl) rfl ?_
  refine wl_det rfl rfl (det_assign rfl) rfl ?_
  refine wl_det rfl rfl (det_assign rfl) rfl ?_
  refine wl_nil ?_
  refine pn_then ?_
  refine wc_ret ?_
  replace h := Option.some.inj h
  subst h
  refine pn_ret (vs := [_, _, _]) rfl ⟨rfl, rfl, rfl, trivial⟩ ⟨rfl, rfl, rfl⟩ (fun _ h => h.to trivial trivial)
def Q_treatyref01_Split (r : (List Int) × Int) : Value → List Ent → List Fact → Prop := fun v θ κ => ∃ (pA0 : Option Addr), ∃ (pn0 : Nat), ∃ (pc0 : Nat), v = .tuple #[.slice pA0 pn0 pc0, .int .i64 r.2] ∧ θ = [eS (lInt .i64) 3 pA0 pn0 pc0 r.1] ∧ κ = []
theorem plains_treatyref01_Split {r : (List Int) × Int} : ∀ v θ κ, Q_treatyref01_Split r v θ κ → Plains θ := by
  rintro _ _ _ ⟨_, _, _, rfl, rfl, rfl⟩
  exact ⟨plain_eS, trivial⟩
set_option maxHeartbeats 4000000 in
set_option maxRecDepth 100000 in
theorem W_treatyref01_Split (a0 : Int) (a1 : (List Int)) (A0 : Option Addr) (n0 : Nat) (c0 : Nat) (r : (List Int) × Int) (h : treatyref01_Split a0 a1 = some r) : Spec Try.prog 52 [.int .i64 a0, .slice A0 n0 c0] [] [fV (lSlice (lInt .i64)) (.slice A0 n0 c0) a1] (Q_treatyref01_Split r) := by
  unfold treatyref01_Split at h
  refine spec_of (σ := [(0, _), (1, _)]) Try.func52 rfl rfl rfl rfl ?_
  intro C
  refine wc_know (fun _ h => h.lenF m0) (fun e => ?_)
  subst e
  refine wc_seq ?_
  refine wc_region ?_   -- region 0
  refine wl_det rfl rfl (det_assign rfl) rfl ?_
  refine wl_det rfl rfl (det_assign rfl) rfl ?_
  refine wl_nil ?_
  refine pn_then ?_
  refine wc_seq ?_
  refine wc_seq ?_
  refine wc_region ?_   -- region 1
  refine wl_det rfl rfl (det_move rfl) rfl ?_
  refine wl_det rfl rfl (det_len rfl un23) rfl ?_
  refine wl_det rfl rfl (det_eql rfl rfl) rfl ?_
  refine wl_nil ?_
  refine pn_then ?_
  refine wc_cond rfl (fun cd5 => ?_) (fun cd5 => ?_)
  · have h := ifT h cd5
    refine wc_seq ?_
    refine wc_region ?_   -- region 2
    refine wl_det rfl rfl (det_assign rfl) rfl ?_
    refine wl_det rfl rfl (det_assign rfl) rfl ?_
    refine wl_nil ?_
    refine pn_then ?_
    refine wc_ret ?_
    refine pr_then ?_
    refine pn_st (fun _ h => h.zeroS (lInt .i64) 3 none) ?_
    replace h := Option.some.inj h
    subst h
    refine pn_ret (vs := [_, _]) rfl ⟨rfl, rfl, trivial⟩ ⟨none, 0, 0, rfl, rfl, rfl⟩ (fun _ h => h.to ⟨_, r0, trivial⟩ trivial)
  · have h := ifF h cd5
    refine wc_skip ?_
    refine pn_then ?_
    refine wc_seq ?_
    refine wc_seq ?_
    refine wc_region ?_   -- region 3
    refine wl_det rfl rfl (det_move rfl) rfl ?_
    refine wl_det rfl rfl (det_len rfl un23) rfl ?_
    refine wl_det rfl rfl (det_gtr rfl rfl) rfl ?_
    refine wl_nil ?_
    refine pn_then ?_
    refine wc_cond rfl (fun cd11 => ?_) (fun cd11 => ?_)
    · have h := ifT h cd11
      refine wc_seq ?_
      refine wc_region ?_   -- region 4
      refine wl_det rfl rfl (det_assign rfl) rfl ?_
      refine wl_det rfl rfl (det_assign rfl) rfl ?_
      refine wl_nil ?_
      refine pn_then ?_
      refine wc_ret ?_
      refine pr_then ?_
      refine pn_st (fun _ h => h.zeroS (lInt .i64) 3 none) ?_
      replace h := Option.some.inj h
      subst h
      refine pn_ret (vs := [_, _]) rfl ⟨rfl, rfl, trivial⟩ ⟨none, 0, 0, rfl, rfl, rfl⟩ (fun _ h => h.to ⟨_, r0, trivial⟩ trivial)
    · have h := ifF h cd11
      refine wc_skip ?_
      refine pn_then ?_
      refine wc_seq ?_
      refine wc_region ?_   -- region 5
      refine wl_det rfl rfl (det_move rfl) rfl ?_
      obtain ⟨r5_1, hr5_1, h⟩ := bind_some h
      refine wl_act (act_callS (cap := []) (W_treatyref01_weights a1 A0 a1.length c0 r5_1 hr5_1) rfl rfl rfl bd69 rfl ⟨m0, trivial⟩) rfl rfl rfl ?_
      rintro _ _ _ ⟨_, _, ⟨rfl, rfl, rfl⟩, rfl, rfl⟩
      dsimp only [List.nil_append, List.cons_append]
      refine wl_det rfl rfl (det_move rfl) rfl ?_
      refine wl_det rfl rfl (det_extract rfl rfl) rfl ?_
      refine wl_det rfl rfl (det_extract rfl rfl) rfl ?_
      refine wl_det rfl rfl (det_assign rfl) rfl ?_
      refine wl_det rfl rfl (det_assign rfl) rfl ?_
      refine wl_nil ?_
      refine pn_then ?_
      refine wc_seq ?_
      refine wc_seq ?_
      refine wc_region ?_   -- region 6
      refine wl_det rfl rfl (det_move rfl) rfl ?_
      refine wl_det rfl rfl (det_neq rfl rfl) rfl ?_
      refine wl_det rfl rfl (det_move rfl) rfl ?_
      obtain ⟨q6_6, hq6_6, h⟩ := bind_some h
      have ho6_6 := h
      refine wl_way (!decide (r5_1.2 = 0)) q6_6 4 33 (fun hg => ?_) (fun hg => ?_) ?_
      · have hg6_6 := hg
        have h := ifT hq6_6 hg
        refine wl_off rfl rfl rfl rfl rfl hg6_6 rfl ?_
        refine wl_off rfl rfl rfl rfl rfl hg6_6 rfl ?_
        refine wl_off rfl rfl rfl rfl rfl hg6_6 rfl ?_
        replace h := Option.some.inj h
        subst h
        refine wl_det rfl rfl (det_pick_on rfl hg6_6 rfl rfl) rfl ?_
        exact wl_nil (pn_qnE (ext_cons rfl (ext_skip rfl (ext_skip rfl (ext_skip rfl (ext_skip rfl ext_refl))))) (fun _ h => h))
      · have hg6_6a := hg
        have h := ifF hq6_6 hg
        refine wl_on rfl rfl rfl rfl hg6_6a ?_
        refine wl_det rfl rfl (det_move rfl) rfl ?_
        refine wl_on rfl rfl rfl rfl hg6_6a ?_
        obtain ⟨r6_4, hr6_4, h⟩ := bind_some h
        refine wl_act (act_callS (cap := []) (W_treatyref01_Valid a0 r6_4 hr6_4) rfl rfl rfl bd51 rfl trivial) rfl rfl rfl ?_
        rintro _ _ _ ⟨_, _, ⟨rfl, rfl, rfl⟩, rfl, rfl⟩
        dsimp only [List.nil_append, List.cons_append]
        refine wl_on rfl rfl rfl rfl hg6_6a ?_
        refine wl_det rfl rfl (det_not rfl) rfl ?_
        replace h := Option.some.inj h
        subst h
        refine wl_det rfl rfl (det_pick_off rfl hg6_6a rfl rfl) rfl ?_
        exact wl_nil (pn_qnE (ext_cons rfl (ext_skip rfl (ext_skip rfl (ext_skip rfl (ext_skip rfl ext_refl))))) (fun _ h => h))
      have h := ho6_6
      refine wl_nil ?_
      refine pn_then ?_
      refine wc_cond rfl (fun cd19 => ?_) (fun cd19 => ?_)
      · have h := ifT h cd19
        refine wc_seq ?_
        refine wc_region ?_   -- region 7
        refine wl_det rfl rfl (det_assign rfl) rfl ?_
        refine wl_det rfl rfl (det_assign rfl) rfl ?_
        refine wl_nil ?_
        refine pn_then ?_
        refine wc_ret ?_
        refine pr_then ?_
        refine pn_st (fun _ h => h.zeroS (lInt .i64) 3 none) ?_
        replace h := Option.some.inj h
        subst h
        refine pn_ret (vs := [_, _]) rfl ⟨rfl, rfl, trivial⟩ ⟨none, 0, 0, rfl, rfl, rfl⟩ (fun _ h => h.to ⟨_, r0, trivial⟩ trivial)
      · have h := ifF h cd19
        refine wc_skip ?_
        refine pn_then ?_
        refine wc_seq ?_
        refine wc_seq ?_
        refine wc_region ?_   -- region 8
        refine wl_det rfl rfl (det_move rfl) rfl ?_
        refine wl_det rfl rfl (det_eql rfl rfl) rfl ?_
        refine wl_nil ?_
        refine pn_then ?_
        refine wc_cond rfl (fun cd25 => ?_) (fun cd25 => ?_)
        · have h := ifT h cd25
          refine wc_seq ?_
          refine wc_region ?_   -- region 9
          refine wl_det rfl rfl (det_assign rfl) rfl ?_
          refine wl_det rfl rfl (det_assign rfl) rfl ?_
          refine wl_nil ?_
          refine pn_then ?_
          refine wc_ret ?_
          refine pr_then ?_
          refine pn_st (fun _ h => h.zeroS (lInt .i64) 3 none) ?_
          replace h := Option.some.inj h
          subst h
          refine pn_ret (vs := [_, _]) rfl ⟨rfl, rfl, trivial⟩ ⟨none, 0, 0, rfl, rfl, rfl⟩ (fun _ h => h.to ⟨_, r0, trivial⟩ trivial)
        · have h := ifF h cd25
          refine wc_skip ?_
          refine pn_then ?_
          refine wc_seq ?_
          refine wc_region ?_   -- region 10
          refine wl_det rfl rfl (det_move rfl) rfl ?_
          refine wl_det rfl rfl (det_assign rfl) rfl ?_
          refine wl_nil ?_
          refine pn_then ?_
          obtain ⟨q30, h, ho30⟩ := bind_some h
          refine wc_meetG (G := Int × Unit) (fun (s30, _) => s30 = q30) (fun (s30, _) => [(0, .int .i64 a0), (1, .slice A0 a1.length c0), (6, .int .i64 r5_1.1), (8, .int .i64 s30)]) (fun (_, _) => []) (fun (_, _) => [fV (lSlice (lInt .i64)) (.slice A0 a1.length c0) a1]) ?_ ?_
          · refine wc_seq ?_
            refine wc_region ?_   -- region 11
            refine wl_det rfl rfl (det_move rfl) rfl ?_
            refine wl_det rfl rfl (det_lss rfl rfl) rfl ?_
            refine wl_nil ?_
            refine pn_then ?_
            refine wc_cond rfl (fun cd33 => ?_) (fun cd33 => ?_)
            · have h := ifT h cd33
              refine wc_region ?_   -- region 12
              refine wl_det rfl rfl (det_move rfl) rfl ?_
              refine wl_det rfl rfl (det_neg rfl) rfl ?_
              refine wl_det rfl rfl (det_assign rfl) rfl ?_
              refine wl_nil ?_
              replace h := Option.some.inj h
              subst h
              exact pn_meetG ((w64 (0 - a0)), ()) rfl ⟨rfl, rfl, rfl, rfl, trivial⟩ (fun _ h => h.to trivial ⟨m0, trivial⟩)
            · have h := ifF h cd33
              refine wc_skip ?_
              replace h := Option.some.inj h
              subst h
              exact pn_meetG (a0, ()) rfl ⟨rfl, rfl, rfl, rfl, trivial⟩ (fun _ h => h.to trivial ⟨m0, trivial⟩)
          rintro ⟨s30, _⟩ e30
          dsimp only at e30 ⊢
          subst e30
          have h := ho30
          obtain ⟨q35, h, ho35⟩ := bind_some h
          refine wc_meetG (G := Unit × Option Addr × Nat × Nat × Option Addr × Nat × Nat × Unit) (fun (s35, _, _, _, _, _, _, _) => s35 = q35) (fun (_, A35_0, n35_0, c35_0, A35_3, n35_3, c35_3, _) => [(0, .int .i64 a0), (1, .slice A0 a1.length c0), (6, .int .i64 r5_1.1), (8, .int .i64 s30), (9, .slice A35_0 n35_0 c35_0), (10, .slice A35_3 n35_3 c35_3)]) (fun (_, A35_0, n35_0, c35_0, A35_3, n35_3, c35_3, _) => [eS (lInt .i64) 3 A35_0 n35_0 c35_0 (List.replicate (a1.length : Int).toNat (0 : Int)), eS (lInt .i64) 3 A35_3 n35_3 c35_3 (List.replicate (a1.length : Int).toNat (0 : Int))]) (fun (_, _, _, _, _, _, _, _) => [fV (lSlice (lInt .i64)) (.slice A0 a1.length c0) a1]) ?_ ?_
          · obtain ⟨k13_p1, h⟩ := chk_some h
            obtain ⟨k13_p2, h⟩ := chk_some h
            refine dx_regionZ (Z := St C [] [_]) 7 [[], [0], [0, 1], [], [3], [3, 4], [0, 1, 2], [0, 1, 2, 3, 4, 5, 6]] mixed (ord := (.det 0 (.det 1 (.det 3 (.det 4 (.alt 2 (.det 6 (.alt 5 .done .dead)) (.alt 5 (.alt 2 (.det 6 .done) .dead) .dead))))))) (by kernel_rfl) (fun _ h => h.to trivial ⟨m0, trivial⟩) ?_   -- region 13
            refine hx_det rfl rfl rfl nofun (det_move rfl) rfl ?_
            refine hx_det rfl rfl rfl nofun (det_len rfl un23) rfl ?_
            refine hx_det rfl rfl rfl nofun (det_move rfl) rfl ?_
            refine hx_det rfl rfl rfl nofun (det_len rfl un23) rfl ?_
            refine hx_or ?_ ?_
            · refine hx_mut rfl rfl rfl (act_makeS (L := (lInt .i64)) (x0 := (0 : Int)) rfl rfl un23 in3 (by refine ⟨rfl, fun _ _ => ?_⟩; first | exact rfl | exact ⟨_, _, _, rfl, rfl, Nat.zero_le _, .inl rfl⟩) rfl rfl k13_p1 (decide_eq_true (Int.le_refl _)) k13_p2) rfl (by rintro _ _ _ ⟨A13_2, c13_2, rfl, rfl, rfl⟩ w hs; exact hs.to trivial ⟨m0, trivial⟩) ?_
              rintro _ _ _ ⟨A13_2, c13_2, rfl, rfl, rfl⟩
              refine hx_det rfl rfl rfl nofun (det_assign rfl) rfl ?_
              refine hx_mut rfl rfl rfl (act_makeS (L := (lInt .i64)) (x0 := (0 : Int)) rfl rfl un23 in3 (by refine ⟨rfl, fun _ _ => ?_⟩; first | exact rfl | exact ⟨_, _, _, rfl, rfl, Nat.zero_le _, .inl rfl⟩) rfl rfl k13_p1 (decide_eq_true (Int.le_refl _)) k13_p2) rfl (by rintro _ _ _ ⟨A13_5, c13_5, rfl, rfl, rfl⟩ w hs; exact hs.to trivial ⟨m0, trivial⟩) ?_
              rintro _ _ _ ⟨A13_5, c13_5, rfl, rfl, rfl⟩
              refine hx_end ?_
              refine wl_det rfl rfl (det_assign rfl) rfl ?_
              refine wl_nil ?_
              replace h := Option.some.inj h
              subst h
              exact pn_meetG ((), A13_2, (List.replicate (a1.length : Int).toNat (0 : Int)).length, c13_2, A13_5, (List.replicate (a1.length : Int).toNat (0 : Int)).length, c13_5, ()) rfl ⟨rfl, rfl, rfl, rfl, rfl, rfl, trivial⟩ (fun _ h => h.to ⟨_, (rs r0), ⟨_, r0, trivial⟩⟩ ⟨m0, trivial⟩)
            refine hx_or ?_ trivial
            refine hx_mut rfl rfl rfl (act_makeS (L := (lInt .i64)) (x0 := (0 : Int)) rfl rfl un23 in3 (by refine ⟨rfl, fun _ _ => ?_⟩; first | exact rfl | exact ⟨_, _, _, rfl, rfl, Nat.zero_le _, .inl rfl⟩) rfl rfl k13_p1 (decide_eq_true (Int.le_refl _)) k13_p2) rfl (by rintro _ _ _ ⟨A13_5, c13_5, rfl, rfl, rfl⟩ w hs; exact hs.to trivial ⟨m0, trivial⟩) ?_
            rintro _ _ _ ⟨A13_5, c13_5, rfl, rfl, rfl⟩
            refine hx_mut rfl rfl rfl (act_makeS (L := (lInt .i64)) (x0 := (0 : Int)) rfl rfl un23 in3 (by refine ⟨rfl, fun _ _ => ?_⟩; first | exact rfl | exact ⟨_, _, _, rfl, rfl, Nat.zero_le _, .inl rfl⟩) rfl rfl k13_p1 (decide_eq_true (Int.le_refl _)) k13_p2) rfl (by rintro _ _ _ ⟨A13_2, c13_2, rfl, rfl, rfl⟩ w hs; exact hs.to trivial ⟨m0, trivial⟩) ?_
            rintro _ _ _ ⟨A13_2, c13_2, rfl, rfl, rfl⟩
            refine hx_det rfl rfl rfl nofun (det_assign rfl) rfl ?_
            refine hx_end ?_
            refine wl_det rfl rfl (det_assign rfl) rfl ?_
            refine wl_nil ?_
            replace h := Option.some.inj h
            subst h
            exact pn_meetG ((), A13_2, (List.replicate (a1.length : Int).toNat (0 : Int)).length, c13_2, A13_5, (List.replicate (a1.length : Int).toNat (0 : Int)).length, c13_5, ()) rfl ⟨rfl, rfl, rfl, rfl, rfl, rfl, trivial⟩ (fun _ h => h.to ⟨_, r0, ⟨_, r0, trivial⟩⟩ ⟨m0, trivial⟩)
          rintro ⟨s35, A35_0, n35_0, c35_0, A35_3, n35_3, c35_3, _⟩ e35
          dsimp only at e35 ⊢
          subst e35
          have h := ho35
          refine wc_know (fun _ h => h.lenO m0) (fun e => ?_)
          subst e
          refine wc_know (fun _ h => h.lenO (ms m0)) (fun e => ?_)
          subst e
          refine wc_seq ?_
          refine wc_region ?_   -- region 14
          refine wl_det rfl rfl (det_move rfl) rfl ?_
          refine wl_det rfl rfl (det_assign rfl) rfl ?_
          refine wl_nil ?_
          refine pn_then ?_
          obtain ⟨q39, h, ho39⟩ := bind_some h
          refine wc_meetG (G := ((List Int) × (List Int) × Int) × Unit) (fun (s39, _) => s39 = q39) (fun (s39, _) => [(0, .int .i64 a0), (1, .slice A0 a1.length c0), (9, .slice A35_0 (List.replicate (a1.length : Int).toNat (0 : Int)).length c35_0), (10, .slice A35_3 (List.replicate (a1.length : Int).toNat (0 : Int)).length c35_3), (11, .int .i64 s39.2.2)]) (fun (s39, _) => [eS (lInt .i64) 3 A35_0 (List.replicate (a1.length : Int).toNat (0 : Int)).length c35_0 s39.1, eS (lInt .i64) 3 A35_3 (List.replicate (a1.length : Int).toNat (0 : Int)).length c35_3 s39.2.1]) (fun (_, _) => [fV (lSlice (lInt .i64)) (.slice A0 a1.length c0) a1]) ?_ ?_
          · refine wc_seq ?_
            refine wc_region ?_   -- region 15
            refine wl_det rfl rfl (det_assign rfl) rfl ?_
            refine wl_nil ?_
            refine pn_then ?_
            refine wc_block ?_
            obtain ⟨k43, hk43⟩ := loopV_some.1 h
            refine wc_loop (G := Nat × ((List Int) × (List Int) × Int × Int) × Unit) (fun g => IterN (treatyref01_Split_l43 a1 r5_1 s30) g.1 g.2.1 q39) (fun g => g.1) (fun (_, s43, _) => [(0, .int .i64 a0), (1, .slice A0 a1.length c0), (6, .int .i64 r5_1.1), (8, .int .i64 s30), (9, .slice A35_0 (List.replicate (a1.length : Int).toNat (0 : Int)).length c35_0), (10, .slice A35_3 (List.replicate (a1.length : Int).toNat (0 : Int)).length c35_3), (11, .int .i64 s43.2.2.1), (12, .int .i64 s43.2.2.2)]) (fun (_, s43, _) => [eS (lInt .i64) 3 A35_0 (List.replicate (a1.length : Int).toNat (0 : Int)).length c35_0 s43.1, eS (lInt .i64) 3 A35_3 (List.replicate (a1.length : Int).toNat (0 : Int)).length c35_3 s43.2.1]) (fun (_, _, _) => [fV (lSlice (lInt .i64)) (.slice A0 a1.length c0) a1]) (k43, ((List.replicate (a1.length : Int).toNat (0 : Int)), (List.replicate (a1.length : Int).toNat (0 : Int)), s30, 0), ()) hk43 ⟨rfl, rfl, rfl, rfl, rfl, rfl, rfl, rfl, trivial⟩ (fun _ h => h.to ⟨_, r0, ⟨_, r0, trivial⟩⟩ ⟨m0, trivial⟩) ?_
            rintro ⟨k43, s43, _⟩ hI
            obtain ⟨k43, rfl, q43, h, g43⟩ := IterN.pos hI
            dsimp only at h ⊢
            unfold treatyref01_Split_l43 at h
            refine wc_seq ?_
            refine wc_seq ?_
            refine wc_region ?_   -- region 16
            refine wl_det rfl rfl (det_move rfl) rfl ?_
            refine wl_det rfl rfl (det_move rfl) rfl ?_
            refine wl_det rfl rfl (det_len rfl un23) rfl ?_
            refine wl_det rfl rfl (det_lss rfl rfl) rfl ?_
            refine wl_nil ?_
            refine pn_then ?_
            refine wc_cond rfl (fun cd47 => ?_) (fun cd47 => ?_)
            · have h := ifT h cd47
              refine wc_skip ?_
              refine pn_then ?_
              refine wc_seq ?_
              refine wc_block ?_
              refine wc_seq ?_
              refine wc_region ?_   -- region 18
              refine wl_det rfl rfl (det_move rfl) rfl ?_
              refine wl_det rfl rfl (det_move rfl) rfl ?_
              refine wl_det rfl rfl (det_move rfl) rfl ?_
              refine wl_det rfl rfl (det_move rfl) rfl ?_
              refine wl_det rfl rfl (det_move rfl) rfl ?_
              refine wl_det rfl rfl (det_move rfl) rfl ?_
              refine wl_det rfl rfl (det_move rfl) rfl ?_
              obtain ⟨k18_7, h⟩ := chk_some h
              refine wl_st (fun _ h => h.openF m0 k18_7) ?_
              refine wl_det rfl rfl (det_indexP rfl rfl (ms m0) k18_7 m0 un23 sz3) rfl ?_
              refine wl_det rfl rfl (det_loadP (off := 0) rfl m0 (by rfl) (by rfl) (loaded_1 na3 us3)) rfl ?_
              refine wl_det rfl rfl (det_move rfl) rfl ?_
              obtain ⟨r18_10, hr18_10, h⟩ := bind_some h
              refine wl_act (act_callS (cap := []) (W_treatyref01_Divide s30 (ix a1 s43.2.2.2) r5_1.1 r18_10 hr18_10) rfl rfl rfl bd70 rfl trivial) rfl rfl rfl ?_
              rintro _ _ _ ⟨_, _, ⟨rfl, rfl, rfl⟩, rfl, rfl⟩
              dsimp only [List.nil_append, List.cons_append]
              refine wl_det rfl rfl (det_move rfl) rfl ?_
              refine wl_det rfl rfl (det_extract rfl rfl) rfl ?_
              refine wl_det rfl rfl (det_extract rfl rfl) rfl ?_
              refine wl_det rfl rfl (det_extract rfl rfl) rfl ?_
              obtain ⟨k18_15, h⟩ := chk_some h
              refine wl_det rfl rfl (det_indexO rfl rfl m0 k18_15 un23 sz3) rfl ?_
              refine wl_act0 (act_storeO (cells := [_]) (off := 0) r18_10.1 rfl rfl rfl s0 k18_15 (by rfl) sz3 (by intro u hu; simp at hu; rcases hu with rfl <;> rfl) (stR_flat rfl rfl)) rfl rfl ?_
              rintro _ _ _ ⟨rfl, rfl⟩
              obtain ⟨k18_17, h⟩ := chk_some h
              refine wl_det rfl rfl (det_indexO rfl rfl (ms m0) k18_17 un23 sz3) rfl ?_
              refine wl_act0 (act_storeO (cells := [_]) (off := 0) r18_10.2.1 rfl rfl rfl (ss s0) k18_17 (by rfl) sz3 (by intro u hu; simp at hu; rcases hu with rfl <;> rfl) (stR_flat rfl rfl)) rfl rfl ?_
              rintro _ _ _ ⟨rfl, rfl⟩
              refine wl_nil ?_
              refine pn_then ?_
              refine wc_region ?_   -- region 19
              refine wl_det rfl rfl (det_move rfl) rfl ?_
              refine wl_det rfl rfl (det_move rfl) rfl ?_
              refine wl_det rfl rfl (det_move rfl) rfl ?_
              obtain ⟨k19_3, h⟩ := chk_some h
              refine wl_det rfl rfl (det_indexO rfl rfl m0 k19_3 un23 sz3) rfl ?_
              refine wl_det rfl rfl (det_loadO (off := 0) rfl m0 k19_3 (by rfl) (by rfl) (loaded_1 na3 us3)) rfl ?_
              refine wl_det rfl rfl (det_sub rfl rfl) rfl ?_
              refine wl_det rfl rfl (det_assign rfl) rfl ?_
              refine wl_nil ?_
              refine pn_block ?_
              refine pn_then ?_
              refine wc_region ?_   -- region 17
              refine wl_det rfl rfl (det_move rfl) rfl ?_
              refine wl_det rfl rfl (det_add rfl rfl) rfl ?_
              refine wl_det rfl rfl (det_assign rfl) rfl ?_
              refine wl_nil ?_
              replace h := Option.some.inj h
              subst h
              exact pn_some (k43, ((upd s43.1 s43.2.2.2 r18_10.1), (upd s43.2.1 s43.2.2.2 r18_10.2.1), (w64 (s43.2.2.1 - (ix (upd s43.1 s43.2.2.2 r18_10.1) s43.2.2.2))), (w64 (s43.2.2.2 + 1))), ()) ⟨nextL g43, Nat.lt_succ_self _⟩ ⟨rfl, rfl, rfl, rfl, rfl, rfl, rfl, rfl, trivial⟩ (fun _ h => h.to ⟨_, r0, ⟨_, r0, trivial⟩⟩ ⟨(ms m0), trivial⟩)
            · have h := ifF h cd47
              refine wc_exit ?_
              refine px_then ?_
              refine px_then ?_
              refine px_block ?_
              replace h := Option.some.inj h
              subst h
              replace g43 := nextR g43
              subst g43
              exact pn_meetG ((s43.1, s43.2.1, s43.2.2.1), ()) rfl ⟨rfl, rfl, rfl, rfl, rfl, trivial⟩ (fun _ h => h.to ⟨_, r0, ⟨_, r0, trivial⟩⟩ ⟨m0, trivial⟩)
          rintro ⟨s39, _⟩ e39
          dsimp only at e39 ⊢
          subst e39
          have h := ho39
          obtain ⟨q55, h, ho55⟩ := bind_some h
          refine wc_meetG (G := (List Int) × Unit) (fun (s55, _) => s55 = q55) (fun (_, _) => [(0, .int .i64 a0), (9, .slice A35_0 (List.replicate (a1.length : Int).toNat (0 : Int)).length c35_0)]) (fun (s55, _) => [eS (lInt .i64) 3 A35_0 (List.replicate (a1.length : Int).toNat (0 : Int)).length c35_0 s55]) (fun (_, _) => []) ?_ ?_
          · refine wc_block ?_
            obtain ⟨k57, hk57⟩ := loopV_some.1 h
            refine wc_loop (G := Nat × ((List Int) × (List Int) × Int) × Unit) (fun g => IterN (treatyref01_Split_l57 a1) g.1 g.2.1 q55) (fun g => g.1) (fun (_, s57, _) => [(0, .int .i64 a0), (1, .slice A0 a1.length c0), (9, .slice A35_0 (List.replicate (a1.length : Int).toNat (0 : Int)).length c35_0), (10, .slice A35_3 (List.replicate (a1.length : Int).toNat (0 : Int)).length c35_3), (11, .int .i64 s57.2.2)]) (fun (_, s57, _) => [eS (lInt .i64) 3 A35_0 (List.replicate (a1.length : Int).toNat (0 : Int)).length c35_0 s57.1, eS (lInt .i64) 3 A35_3 (List.replicate (a1.length : Int).toNat (0 : Int)).length c35_3 s57.2.1]) (fun (_, _, _) => [fV (lSlice (lInt .i64)) (.slice A0 a1.length c0) a1]) (k57, (s39.1, s39.2.1, s39.2.2), ()) hk57 ⟨rfl, rfl, rfl, rfl, rfl, trivial⟩ (fun _ h => h.to ⟨_, r0, ⟨_, r0, trivial⟩⟩ ⟨m0, trivial⟩) ?_
            rintro ⟨k57, s57, _⟩ hI
            obtain ⟨k57, rfl, q57, h, g57⟩ := IterN.pos hI
            dsimp only at h ⊢
            unfold treatyref01_Split_l57 at h
            refine wc_seq ?_
            refine wc_seq ?_
            refine wc_region ?_   -- region 20
            refine wl_det rfl rfl (det_move rfl) rfl ?_
            refine wl_det rfl rfl (det_gtr rfl rfl) rfl ?_
            refine wl_nil ?_
            refine pn_then ?_
            refine wc_cond rfl (fun cd61 => ?_) (fun cd61 => ?_)
            · have h := ifT h cd61
              refine wc_skip ?_
              refine pn_then ?_
              obtain ⟨q63, h, ho63⟩ := bind_some h
              refine wc_meetG (G := ((List Int) × (List Int)) × Unit) (fun (s63, _) => s63 = q63) (fun (_, _) => [(0, .int .i64 a0), (1, .slice A0 a1.length c0), (9, .slice A35_0 (List.replicate (a1.length : Int).toNat (0 : Int)).length c35_0), (10, .slice A35_3 (List.replicate (a1.length : Int).toNat (0 : Int)).length c35_3), (11, .int .i64 s57.2.2)]) (fun (s63, _) => [eS (lInt .i64) 3 A35_0 (List.replicate (a1.length : Int).toNat (0 : Int)).length c35_0 s63.1, eS (lInt .i64) 3 A35_3 (List.replicate (a1.length : Int).toNat (0 : Int)).length c35_3 s63.2]) (fun (_, _) => [fV (lSlice (lInt .i64)) (.slice A0 a1.length c0) a1]) ?_ ?_
              · refine wc_block ?_
                refine wc_seq ?_
                refine wc_region ?_   -- region 22
                refine wl_det rfl rfl (det_assign rfl) rfl ?_
                refine wl_nil ?_
                refine pn_then ?_
                obtain ⟨q67, h, ho67⟩ := bind_some h
                refine wc_meetG (G := Int × Unit) (fun (s67, _) => s67 = q67) (fun (s67, _) => [(0, .int .i64 a0), (1, .slice A0 a1.length c0), (9, .slice A35_0 (List.replicate (a1.length : Int).toNat (0 : Int)).length c35_0), (10, .slice A35_3 (List.replicate (a1.length : Int).toNat (0 : Int)).length c35_3), (11, .int .i64 s57.2.2), (13, .int .i64 s67)]) (fun (_, _) => [eS (lInt .i64) 3 A35_0 (List.replicate (a1.length : Int).toNat (0 : Int)).length c35_0 s57.1, eS (lInt .i64) 3 A35_3 (List.replicate (a1.length : Int).toNat (0 : Int)).length c35_3 s57.2.1]) (fun (_, _) => [fV (lSlice (lInt .i64)) (.slice A0 a1.length c0) a1]) ?_ ?_
                · refine wc_seq ?_
                  refine wc_region ?_   -- region 23
                  refine wl_det rfl rfl (det_assign rfl) rfl ?_
                  refine wl_nil ?_
                  refine pn_then ?_
                  refine wc_block ?_
                  obtain ⟨k71, hk71⟩ := loopV_some.1 h
                  refine wc_loop (G := Nat × (Int × Int) × Unit) (fun g => IterN (treatyref01_Split_l71 a1 s57) g.1 g.2.1 q67) (fun g => g.1) (fun (_, s71, _) => [(0, .int .i64 a0), (1, .slice A0 a1.length c0), (9, .slice A35_0 (List.replicate (a1.length : Int).toNat (0 : Int)).length c35_0), (10, .slice A35_3 (List.replicate (a1.length : Int).toNat (0 : Int)).length c35_3), (11, .int .i64 s57.2.2), (13, .int .i64 s71.1), (14, .int .i64 s71.2)]) (fun (_, _, _) => [eS (lInt .i64) 3 A35_0 (List.replicate (a1.length : Int).toNat (0 : Int)).length c35_0 s57.1, eS (lInt .i64) 3 A35_3 (List.replicate (a1.length : Int).toNat (0 : Int)).length c35_3 s57.2.1]) (fun (_, _, _) => [fV (lSlice (lInt .i64)) (.slice A0 a1.length c0) a1]) (k71, (0, 1), ()) hk71 ⟨rfl, rfl, rfl, rfl, rfl, rfl, rfl, trivial⟩ (fun _ h => h.to ⟨_, r0, ⟨_, r0, trivial⟩⟩ ⟨m0, trivial⟩) ?_
                  rintro ⟨k71, s71, _⟩ hI
                  obtain ⟨k71, rfl, q71, h, g71⟩ := IterN.pos hI
                  dsimp only at h ⊢
                  unfold treatyref01_Split_l71 at h
                  refine wc_seq ?_
                  refine wc_seq ?_
                  refine wc_region ?_   -- region 24
                  refine wl_det rfl rfl (det_move rfl) rfl ?_
                  refine wl_det rfl rfl (det_move rfl) rfl ?_
                  refine wl_det rfl rfl (det_len rfl un23) rfl ?_
                  refine wl_det rfl rfl (det_lss rfl rfl) rfl ?_
                  refine wl_nil ?_
                  refine pn_then ?_
                  refine wc_cond rfl (fun cd75 => ?_) (fun cd75 => ?_)
                  · have h := ifT h cd75
                    refine wc_skip ?_
                    refine pn_then ?_
                    obtain ⟨q77, h, ho77⟩ := bind_some h
                    refine wc_meetG (G := Int × Unit) (fun (s77, _) => s77 = q77) (fun (s77, _) => [(0, .int .i64 a0), (1, .slice A0 a1.length c0), (9, .slice A35_0 (List.replicate (a1.length : Int).toNat (0 : Int)).length c35_0), (10, .slice A35_3 (List.replicate (a1.length : Int).toNat (0 : Int)).length c35_3), (11, .int .i64 s57.2.2), (13, .int .i64 s77), (14, .int .i64 s71.2)]) (fun (_, _) => [eS (lInt .i64) 3 A35_0 (List.replicate (a1.length : Int).toNat (0 : Int)).length c35_0 s57.1, eS (lInt .i64) 3 A35_3 (List.replicate (a1.length : Int).toNat (0 : Int)).length c35_3 s57.2.1]) (fun (_, _) => [fV (lSlice (lInt .i64)) (.slice A0 a1.length c0) a1]) ?_ ?_
                    · refine wc_block ?_
                      refine wc_seq ?_
                      obtain ⟨k26_p1, h⟩ := chk_some h
                      obtain ⟨k26_p2, h⟩ := chk_some h
                      refine dx_region 9 [[], [], [0, 1], [0, 1, 2], [], [], [4, 5], [4, 5, 6], [0, 1, 2, 3, 4, 5, 6, 7]] mixed (ord := (.det 0 (.det 1 (.det 2 (.det 3 (.det 4 (.det 5 (.det 6 (.det 7 (.det 8 .done)))))))))) (by kernel_rfl) ?_   -- region 26
                      refine hx_det rfl rfl rfl nofun (det_move rfl) rfl ?_
                      refine hx_det rfl rfl rfl nofun (det_move rfl) rfl ?_
                      refine hx_det rfl rfl rfl nofun (det_indexO rfl rfl (ms m0) k26_p1 un23 sz3) rfl ?_
                      refine hx_det rfl rfl rfl nofun (det_loadO (off := 0) rfl (ms m0) k26_p1 (by rfl) (by rfl) (loaded_1 na3 us3)) rfl ?_
                      refine hx_det rfl rfl rfl nofun (det_move rfl) rfl ?_
                      refine hx_det rfl rfl rfl nofun (det_move rfl) rfl ?_
                      refine hx_det rfl rfl rfl nofun (det_indexO rfl rfl (ms m0) k26_p2 un23 sz3) rfl ?_
                      refine hx_det rfl rfl rfl nofun (det_loadO (off := 0) rfl (ms m0) k26_p2 (by rfl) (by rfl) (loaded_1 na3 us3)) rfl ?_
                      refine hx_det rfl rfl rfl nofun (det_gtr rfl rfl) rfl ?_
                      refine hx_end ?_
                      refine wl_nil ?_
                      refine pn_then ?_
                      refine wc_cond rfl (fun cd81 => ?_) (fun cd81 => ?_)
                      · have h := ifT h cd81
                        refine wc_region ?_   -- region 27
                        refine wl_det rfl rfl (det_move rfl) rfl ?_
                        refine wl_det rfl rfl (det_assign rfl) rfl ?_
                        refine wl_nil ?_
                        refine pn_block ?_
                        replace h := Option.some.inj h
                        subst h
                        exact pn_meetG (s71.2, ()) rfl ⟨rfl, rfl, rfl, rfl, rfl, rfl, rfl, trivial⟩ (fun _ h => h.to ⟨_, r0, ⟨_, r0, trivial⟩⟩ ⟨m0, trivial⟩)
                      · have h := ifF h cd81
                        refine wc_skip ?_
                        refine pn_block ?_
                        replace h := Option.some.inj h
                        subst h
                        exact pn_meetG (s71.1, ()) rfl ⟨rfl, rfl, rfl, rfl, rfl, rfl, rfl, trivial⟩ (fun _ h => h.to ⟨_, r0, ⟨_, r0, trivial⟩⟩ ⟨m0, trivial⟩)
                    rintro ⟨s77, _⟩ e77
                    dsimp only at e77 ⊢
                    subst e77
                    have h := ho77
                    refine wc_region ?_   -- region 25
                    refine wl_det rfl rfl (det_move rfl) rfl ?_
                    refine wl_det rfl rfl (det_add rfl rfl) rfl ?_
                    refine wl_det rfl rfl (det_assign rfl) rfl ?_
                    refine wl_nil ?_
                    replace h := Option.some.inj h
                    subst h
                    exact pn_some (k71, (s77, (w64 (s71.2 + 1))), ()) ⟨nextL g71, Nat.lt_succ_self _⟩ ⟨rfl, rfl, rfl, rfl, rfl, rfl, rfl, trivial⟩ (fun _ h => h.to ⟨_, r0, ⟨_, r0, trivial⟩⟩ ⟨m0, trivial⟩)
                  · have h := ifF h cd75
                    refine wc_exit ?_
                    refine px_then ?_
                    refine px_then ?_
                    refine px_block ?_
                    replace h := Option.some.inj h
                    subst h
                    replace g71 := nextR g71
                    subst g71
                    exact pn_meetG (s71.1, ()) rfl ⟨rfl, rfl, rfl, rfl, rfl, rfl, trivial⟩ (fun _ h => h.to ⟨_, r0, ⟨_, r0, trivial⟩⟩ ⟨m0, trivial⟩)
                rintro ⟨s67, _⟩ e67
                dsimp only at e67 ⊢
                subst e67
                have h := ho67
                refine wc_region ?_   -- region 28
                refine wl_det rfl rfl (det_move rfl) rfl ?_
                refine wl_det rfl rfl (det_move rfl) rfl ?_
                refine wl_det rfl rfl (det_move rfl) rfl ?_
                refine wl_det rfl rfl (det_move rfl) rfl ?_
                refine wl_det rfl rfl (det_move rfl) rfl ?_
                refine wl_det rfl rfl (det_move rfl) rfl ?_
                obtain ⟨k28_6, h⟩ := chk_some h
                refine wl_det rfl rfl (det_indexO rfl rfl m0 k28_6 un23 sz3) rfl ?_
                refine wl_det rfl rfl (det_loadO (off := 0) rfl m0 k28_6 (by rfl) (by rfl) (loaded_1 na3 us3)) rfl ?_
                refine wl_det rfl rfl (det_add rfl rfl) rfl ?_
                refine wl_det rfl rfl (det_indexO rfl rfl m0 k28_6 un23 sz3) rfl ?_
                refine wl_act0 (act_storeO (cells := [_]) (off := 0) (w64 ((ix s57.1 s67) + 1)) rfl rfl rfl s0 k28_6 (by rfl) sz3 (by intro u hu; simp at hu; rcases hu with rfl <;> rfl) (stR_flat rfl rfl)) rfl rfl ?_
                rintro _ _ _ ⟨rfl, rfl⟩
                obtain ⟨k28_11, h⟩ := chk_some h
                refine wl_det rfl rfl (det_indexO rfl rfl (ms m0) k28_11 un23 sz3) rfl ?_
                refine wl_act0 (act_storeO (cells := [_]) (off := 0) (-1) rfl rfl rfl (ss s0) k28_11 (by rfl) sz3 (by intro u hu; simp at hu; rcases hu with rfl <;> rfl) (stR_flat rfl rfl)) rfl rfl ?_
                rintro _ _ _ ⟨rfl, rfl⟩
                refine wl_nil ?_
                refine pn_block ?_
                replace h := Option.some.inj h
                subst h
                exact pn_meetG (((upd s57.1 s67 (w64 ((ix s57.1 s67) + 1))), (upd s57.2.1 s67 (-1))), ()) rfl ⟨rfl, rfl, rfl, rfl, rfl, trivial⟩ (fun _ h => h.to ⟨_, r0, ⟨_, r0, trivial⟩⟩ ⟨m0, trivial⟩)
              rintro ⟨s63, _⟩ e63
              dsimp only at e63 ⊢
              subst e63
              have h := ho63
              refine wc_region ?_   -- region 21
              refine wl_det rfl rfl (det_move rfl) rfl ?_
              refine wl_det rfl rfl (det_sub rfl rfl) rfl ?_
              refine wl_det rfl rfl (det_assign rfl) rfl ?_
              refine wl_nil ?_
              replace h := Option.some.inj h
              subst h
              exact pn_some (k57, (s63.1, s63.2, (w64 (s57.2.2 - 1))), ()) ⟨nextL g57, Nat.lt_succ_self _⟩ ⟨rfl, rfl, rfl, rfl, rfl, trivial⟩ (fun _ h => h.to ⟨_, r0, ⟨_, r0, trivial⟩⟩ ⟨m0, trivial⟩)
            · have h := ifF h cd61
              refine wc_exit ?_
              refine px_then ?_
              refine px_then ?_
              refine px_block ?_
              replace h := Option.some.inj h
              subst h
              replace g57 := nextR g57
              subst g57
              exact pn_meetG (s57.1, ()) rfl ⟨rfl, rfl, trivial⟩ (fun _ h => h.to ⟨_, r0, trivial⟩ trivial)
          rintro ⟨s55, _⟩ e55
          dsimp only at e55 ⊢
          subst e55
          have h := ho55
          obtain ⟨q86, h, ho86⟩ := bind_some h
          refine wc_meetG (G := (List Int) × Unit) (fun (s86, _) => s86 = q86) (fun (_, _) => [(9, .slice A35_0 (List.replicate (a1.length : Int).toNat (0 : Int)).length c35_0)]) (fun (s86, _) => [eS (lInt .i64) 3 A35_0 (List.replicate (a1.length : Int).toNat (0 : Int)).length c35_0 s86]) (fun (_, _) => []) ?_ ?_
          · refine wc_seq ?_
            refine wc_region ?_   -- region 29
            refine wl_det rfl rfl (det_move rfl) rfl ?_
            refine wl_det rfl rfl (det_lss rfl rfl) rfl ?_
            refine wl_nil ?_
            refine pn_then ?_
            refine wc_cond rfl (fun cd89 => ?_) (fun cd89 => ?_)
            · have h := ifT h cd89
              refine wc_seq ?_
              refine wc_region ?_   -- region 30
              refine wl_det rfl rfl (det_assign rfl) rfl ?_
              refine wl_nil ?_
              refine pn_then ?_
              refine wc_block ?_
              obtain ⟨k93, hk93⟩ := loopV_some.1 h
              refine wc_loop (G := Nat × ((List Int) × Int) × Unit) (fun g => IterN (treatyref01_Split_l93 a1) g.1 g.2.1 q86) (fun g => g.1) (fun (_, s93, _) => [(9, .slice A35_0 (List.replicate (a1.length : Int).toNat (0 : Int)).length c35_0), (15, .int .i64 s93.2)]) (fun (_, s93, _) => [eS (lInt .i64) 3 A35_0 (List.replicate (a1.length : Int).toNat (0 : Int)).length c35_0 s93.1]) (fun (_, _, _) => []) (k93, (s55, 0), ()) hk93 ⟨rfl, rfl, trivial⟩ (fun _ h => h.to ⟨_, r0, trivial⟩ trivial) ?_
              rintro ⟨k93, s93, _⟩ hI
              obtain ⟨k93, rfl, q93, h, g93⟩ := IterN.pos hI
              dsimp only at h ⊢
              unfold treatyref01_Split_l93 at h
              refine wc_seq ?_
              refine wc_seq ?_
              refine wc_region ?_   -- region 31
              refine wl_det rfl rfl (det_move rfl) rfl ?_
              refine wl_det rfl rfl (det_move rfl) rfl ?_
              refine wl_det rfl rfl (det_len rfl un23) rfl ?_
              refine wl_det rfl rfl (det_lss rfl rfl) rfl ?_
              refine wl_nil ?_
              refine pn_then ?_
              refine wc_cond rfl (fun cd97 => ?_) (fun cd97 => ?_)
              · have h := ifT h cd97
                refine wc_skip ?_
                refine pn_then ?_
                refine wc_seq ?_
                refine wc_block ?_
                refine wc_region ?_   -- region 33
                refine wl_det rfl rfl (det_move rfl) rfl ?_
                refine wl_det rfl rfl (det_move rfl) rfl ?_
                refine wl_det rfl rfl (det_move rfl) rfl ?_
                refine wl_det rfl rfl (det_move rfl) rfl ?_
                obtain ⟨k33_4, h⟩ := chk_some h
                refine wl_det rfl rfl (det_indexO rfl rfl m0 k33_4 un23 sz3) rfl ?_
                refine wl_det rfl rfl (det_loadO (off := 0) rfl m0 k33_4 (by rfl) (by rfl) (loaded_1 na3 us3)) rfl ?_
                refine wl_det rfl rfl (det_neg rfl) rfl ?_
                refine wl_det rfl rfl (det_indexO rfl rfl m0 k33_4 un23 sz3) rfl ?_
                refine wl_act0 (act_storeO (cells := [_]) (off := 0) (w64 (0 - (ix s93.1 s93.2))) rfl rfl rfl s0 k33_4 (by rfl) sz3 (by intro u hu; simp at hu; rcases hu with rfl <;> rfl) (stR_flat rfl rfl)) rfl rfl ?_
                rintro _ _ _ ⟨rfl, rfl⟩
                refine wl_nil ?_
                refine pn_block ?_
                refine pn_then ?_
                refine wc_region ?_   -- region 32
                refine wl_det rfl rfl (det_move rfl) rfl ?_
                refine wl_det rfl rfl (det_add rfl rfl) rfl ?_
                refine wl_det rfl rfl (det_assign rfl) rfl ?_
                refine wl_nil ?_
                replace h := Option.some.inj h
                subst h
                exact pn_some (k93, ((upd s93.1 s93.2 (w64 (0 - (ix s93.1 s93.2)))), (w64 (s93.2 + 1))), ()) ⟨nextL g93, Nat.lt_succ_self _⟩ ⟨rfl, rfl, trivial⟩ (fun _ h => h.to ⟨_, r0, trivial⟩ trivial)
              · have h := ifF h cd97
                refine wc_exit ?_
                refine px_then ?_
                refine px_then ?_
                refine px_block ?_
                replace h := Option.some.inj h
                subst h
                replace g93 := nextR g93
                subst g93
                exact pn_meetG (s93.1, ()) rfl ⟨rfl, trivial⟩ (fun _ h => h.to ⟨_, r0, trivial⟩ trivial)
            · have h := ifF h cd89
              refine wc_skip ?_
              replace h := Option.some.inj h
              subst h
              exact pn_meetG (s55, ()) rfl ⟨rfl, trivial⟩ (fun _ h => h.to ⟨_, r0, trivial⟩ trivial)
          rintro ⟨s86, _⟩ e86
          dsimp only at e86 ⊢
          subst e86
          have h := ho86
          refine wc_seq ?_
          refine wc_region ?_   -- region 34
          refine wl_det rfl rfl (det_move rfl) rfl ?_
          refine wl_det rfl rfl (det_assign rfl) rfl ?_
          refine wl_det rfl rfl (det_assign rfl) rfl ?_
          refine wl_nil ?_
          refine pn_then ?_
          refine wc_ret ?_
          replace h := Option.some.inj h
          subst h
          refine pn_ret (vs := [_, _]) rfl ⟨rfl, rfl, trivial⟩ ⟨A35_0, (List.replicate (a1.length : Int).toNat (0 : Int)).length, c35_0, rfl, rfl, rfl⟩ (fun _ h => h.to ⟨_, r0, trivial⟩ trivial)
def Q_treatyref20_Premium (r : Int × Int) : Value → List Ent → List Fact → Prop := fun v θ κ => v = .tuple #[.int .i64 r.1, .int .i64 r.2] ∧ θ = [] ∧ κ = []
theorem plains_treatyref20_Premium {r : Int × Int} : ∀ v θ κ, Q_treatyref20_Premium r v θ κ → Plains θ := by
  rintro _ _ _ ⟨rfl, rfl, rfl⟩
  exact trivial
set_option maxHeartbeats 4000000 in
set_option maxRecDepth 100000 in
theorem W_treatyref20_Premium (a0 : GTreaty) (a1 : Int) (a2 : Int) (A0 : Option Addr) (n0 : Nat) (c0 : Nat) (A3 : Option Addr) (n3 : Nat) (c3 : Nat) (A6 : Option Addr) (n6 : Nat) (c6 : Nat) (A9 : Option Addr) (n9 : Nat) (c9 : Nat) (A12 : Option Addr) (n12 : Nat) (c12 : Nat) (r : Int × Int) (h : treatyref20_Premium a0 a1 a2 = some r) : Spec Try.prog 39 [.agg #[.int .i64 a0.ID, .int .i64 a0.Kind, .int .i64 a0.Period.From, .int .i64 a0.Period.To, .slice A0 n0 c0, .slice A3 n3 c3, .int .i64 a0.Risk, .int .i64 a0.Cession, .int .i64 a0.Line, .int .i64 a0.Lines, .int .i64 a0.Retention, .int .i64 a0.Limit, .int .i64 a0.Window, .int .i64 a0.Deductible, .int .i64 a0.Aggregate, .int .i64 a0.Premium, .slice A6 n6 c6, .bool a0.Timed, .int .i64 a0.Base, .slice A9 n9 c9, .slice A12 n12 c12], .int .i64 a1, .int .i64 a2] [] [fV (lSlice (lInt .i64)) (.slice A0 n0 c0) a0.Perils, fV (lSlice (lInt .i64)) (.slice A3 n3 c3) a0.Areas, fV (lSlice (lInt .i64)) (.slice A6 n6 c6) a0.Reinstatements, fV (lSlice (lInt .i64)) (.slice A9 n9 c9) a0.Inures, fV (lSlice lGPart) (.slice A12 n12 c12) a0.Parts] (Q_treatyref20_Premium r) := by
  unfold treatyref20_Premium at h
  refine spec_of (σ := [(0, _), (1, _), (2, _)]) Try.func39 rfl rfl rfl rfl ?_
  intro C
  refine wc_know (fun _ h => h.lenF m0) (fun e => ?_)
  subst e
  refine wc_know (fun _ h => h.lenF (ms m0)) (fun e => ?_)
  subst e
  refine wc_know (fun _ h => h.lenF (ms (ms m0))) (fun e => ?_)
  subst e
  refine wc_know (fun _ h => h.lenF (ms (ms (ms m0)))) (fun e => ?_)
  subst e
  refine wc_know (fun _ h => h.lenF (ms (ms (ms (ms m0))))) (fun e => ?_)
  subst e
  refine wc_seq ?_
  refine wc_region ?_   -- region 0
  refine wl_act (act_box (cs := [_, _, _, _, _, _, _, _, _, _, _, _, _, _, _, _, _, _, _, _, _]) rfl rfl) rfl rfl rfl ?_
  rintro _ _ _ ⟨b0_0, rfl, rfl, rfl⟩
  refine wl_det rfl rfl (det_assign rfl) rfl ?_
  refine wl_det rfl rfl (det_assign rfl) rfl ?_
  refine wl_nil ?_
  refine pn_then ?_
  refine wc_seq ?_
  refine wc_region ?_   -- region 1
  refine wl_det rfl rfl (det_loadN (cells := [_, _, _, _, _, _, _, _, _, _, _, _, _, _, _, _, _, _, _, _, _]) rfl m0 (by rfl) ag49 sz49) rfl ?_
  refine wl_det rfl rfl (det_move rfl) rfl ?_
  obtain ⟨r1_2, hr1_2, h⟩ := bind_some h
  refine wl_act (act_callS (cap := []) (W_treatyref20_Weights a0 a1 A0 a0.Perils.length c0 A3 a0.Areas.length c3 A6 a0.Reinstatements.length c6 A9 a0.Inures.length c9 A12 a0.Parts.length c12 r1_2 hr1_2) rfl rfl rfl bd32 rfl ⟨m0, ⟨(ms m0), ⟨(ms (ms m0)), ⟨(ms (ms (ms m0))), ⟨(ms (ms (ms (ms m0)))), trivial⟩⟩⟩⟩⟩) rfl rfl rfl ?_
  rintro _ _ _ ⟨_, _, ⟨y1_2A0, y1_2n0, y1_2c0, rfl, rfl, rfl⟩, rfl, rfl⟩
  dsimp only [List.nil_append, List.cons_append]
  refine wl_know (fun _ h => h.lenO m0) (fun e => ?_)
  subst e
  refine wl_det rfl rfl (det_move rfl) rfl ?_
  refine wl_det rfl rfl (det_extract rfl rfl) rfl ?_
  refine wl_det rfl rfl (det_extract rfl rfl) rfl ?_
  refine wl_det rfl rfl (det_assign rfl) rfl ?_
  refine wl_det rfl rfl (det_assign rfl) rfl ?_
  refine wl_nil ?_
  refine pn_then ?_
  refine wc_seq ?_
  refine wc_seq ?_
  refine wc_region ?_   -- region 2
  refine wl_det rfl rfl (det_move rfl) rfl ?_
  refine wl_det rfl rfl (det_neq rfl rfl) rfl ?_
  refine wl_nil ?_
  refine pn_then ?_
  refine wc_cond rfl (fun cd7 => ?_) (fun cd7 => ?_)
  · have h := ifT h cd7
    refine wc_seq ?_
    refine wc_region ?_   -- region 3
    refine wl_det rfl rfl (det_move rfl) rfl ?_
    refine wl_det rfl rfl (det_assign rfl) rfl ?_
    refine wl_det rfl rfl (det_assign rfl) rfl ?_
    refine wl_nil ?_
    refine pn_then ?_
    refine wc_ret ?_
    refine pr_then ?_
    replace h := Option.some.inj h
    subst h
    refine pn_ret (vs := [_, _]) rfl ⟨rfl, rfl, trivial⟩ ⟨rfl, rfl, rfl⟩ (fun _ h => h.to trivial trivial)
  · have h := ifF h cd7
    refine wc_skip ?_
    refine pn_then ?_
    refine wc_seq ?_
    refine wc_seq ?_
    refine wc_region ?_   -- region 4
    refine wl_det rfl rfl (det_move rfl) rfl ?_
    refine wl_det rfl rfl (det_lss rfl rfl) rfl ?_
    refine wl_det rfl rfl (det_move rfl) rfl ?_
    refine wl_way (decide (a2 < 0)) ((decide (a2 < 0)) || (decide (17592186044416 < a2))) 3 26 (fun hg => ?_) (fun hg => ?_) ?_
    · have hg4_5 := hg
      refine wl_off rfl rfl rfl rfl rfl hg4_5 rfl ?_
      refine wl_off rfl rfl rfl rfl rfl hg4_5 rfl ?_
      refine wl_det rfl rfl (det_or_on (r := (decide (17592186044416 < a2))) rfl rfl rfl hg4_5) rfl ?_
      exact wl_nil (pn_qnE (ext_cons rfl (ext_skip rfl (ext_skip rfl (ext_skip rfl ext_refl)))) (fun _ h => h))
    · have hg4_5a := hg
      refine wl_on rfl rfl rfl rfl hg4_5a ?_
      refine wl_det rfl rfl (det_move rfl) rfl ?_
      refine wl_on rfl rfl rfl rfl hg4_5a ?_
      refine wl_det rfl rfl (det_gtr rfl rfl) rfl ?_
      refine wl_det rfl rfl (det_or_off rfl rfl rfl hg4_5a) rfl ?_
      exact wl_nil (pn_qnE (ext_cons rfl (ext_skip rfl (ext_skip rfl (ext_skip rfl ext_refl)))) (fun _ h => h))
    refine wl_nil ?_
    refine pn_then ?_
    refine wc_cond rfl (fun cd13 => ?_) (fun cd13 => ?_)
    · have h := ifT h cd13
      refine wc_seq ?_
      refine wc_region ?_   -- region 5
      refine wl_det rfl rfl (det_assign rfl) rfl ?_
      refine wl_det rfl rfl (det_assign rfl) rfl ?_
      refine wl_nil ?_
      refine pn_then ?_
      refine wc_ret ?_
      refine pr_then ?_
      replace h := Option.some.inj h
      subst h
      refine pn_ret (vs := [_, _]) rfl ⟨rfl, rfl, trivial⟩ ⟨rfl, rfl, rfl⟩ (fun _ h => h.to trivial trivial)
    · have h := ifF h cd13
      refine wc_skip ?_
      refine pn_then ?_
      refine wc_seq ?_
      refine wc_region ?_   -- region 6
      refine wl_det rfl rfl (det_move rfl) rfl ?_
      refine wl_det rfl rfl (det_move rfl) rfl ?_
      obtain ⟨r6_2, hr6_2, h⟩ := bind_some h
      refine wl_act (act_callL (cap := []) [eS (lInt .i64) 3 y1_2A0 r1_2.1.length y1_2c0 r1_2.1] (W_treatyref01_Split a2 r1_2.1 y1_2A0 r1_2.1.length y1_2c0 r6_2 hr6_2) plains_treatyref01_Split rfl rfl rfl bd52 rfl ⟨m0, trivial⟩ ⟨.inr ⟨_, m0, lent_eS⟩, trivial⟩) rfl rfl rfl ?_
      rintro _ _ _ ⟨_, _, ⟨y6_2A0, y6_2n0, y6_2c0, rfl, rfl, rfl⟩, rfl, rfl⟩
      dsimp only [List.nil_append, List.cons_append]
      refine wl_know (fun _ h => h.lenO m0) (fun e => ?_)
      subst e
      refine wl_det rfl rfl (det_move rfl) rfl ?_
      refine wl_det rfl rfl (det_extract rfl rfl) rfl ?_
      refine wl_det rfl rfl (det_extract rfl rfl) rfl ?_
      refine wl_det rfl rfl (det_assign rfl) rfl ?_
      refine wl_det rfl rfl (det_assign rfl) rfl ?_
      refine wl_nil ?_
      refine pn_then ?_
      refine wc_seq ?_
      refine wc_region ?_   -- region 7
      refine wl_det rfl rfl (det_move rfl) rfl ?_
      obtain ⟨k7_1, h⟩ := chk_some h
      refine wl_det rfl rfl (det_indexO rfl rfl m0 k7_1 un23 sz3) rfl ?_
      refine wl_det rfl rfl (det_loadO (off := 0) rfl m0 k7_1 (by rfl) (by rfl) (loaded_1 na3 us3)) rfl ?_
      refine wl_det rfl rfl (det_assign rfl) rfl ?_
      refine wl_det rfl rfl (det_assign rfl) rfl ?_
      refine wl_nil ?_
      refine pn_then ?_
      refine wc_ret ?_
      replace h := Option.some.inj h
      subst h
      refine pn_ret (vs := [_, _]) rfl ⟨rfl, rfl, trivial⟩ ⟨rfl, rfl, rfl⟩ (fun _ h => h.to trivial trivial)
def Q_treatylaw21_anyTreaty (r : GTreaty) : Value → List Ent → List Fact → Prop := fun v θ κ => ∃ (pA0 : Option Addr), ∃ (pn0 : Nat), ∃ (pc0 : Nat), ∃ (pA1 : Option Addr), ∃ (pn1 : Nat), ∃ (pc1 : Nat), ∃ (pA2 : Option Addr), ∃ (pn2 : Nat), ∃ (pc2 : Nat), ∃ (pA3 : Option Addr), ∃ (pn3 : Nat), ∃ (pc3 : Nat), ∃ (pA4 : Option Addr), ∃ (pn4 : Nat), ∃ (pc4 : Nat), v = .agg #[.int .i64 r.ID, .int .i64 r.Kind, .int .i64 r.Period.From, .int .i64 r.Period.To, .slice pA0 pn0 pc0, .slice pA1 pn1 pc1, .int .i64 r.Risk, .int .i64 r.Cession, .int .i64 r.Line, .int .i64 r.Lines, .int .i64 r.Retention, .int .i64 r.Limit, .int .i64 r.Window, .int .i64 r.Deductible, .int .i64 r.Aggregate, .int .i64 r.Premium, .slice pA2 pn2 pc2, .bool r.Timed, .int .i64 r.Base, .slice pA3 pn3 pc3, .slice pA4 pn4 pc4] ∧ θ = [eS (lInt .i64) 3 pA0 pn0 pc0 r.Perils, eS (lInt .i64) 3 pA1 pn1 pc1 r.Areas, eS (lInt .i64) 3 pA2 pn2 pc2 r.Reinstatements, eS (lInt .i64) 3 pA3 pn3 pc3 r.Inures, eS lGPart 25 pA4 pn4 pc4 r.Parts] ∧ κ = []
theorem plains_treatylaw21_anyTreaty {r : GTreaty} : ∀ v θ κ, Q_treatylaw21_anyTreaty r v θ κ → Plains θ := by
  rintro _ _ _ ⟨_, _, _, _, _, _, _, _, _, _, _, _, _, _, _, rfl, rfl, rfl⟩
  exact ⟨plain_eS, plain_eS, plain_eS, plain_eS, plain_eS, trivial⟩
set_option maxHeartbeats 4000000 in
set_option maxRecDepth 100000 in
theorem W_treatylaw21_anyTreaty (a0 : (List Int)) (a1 : Int) (A0 : Option Addr) (n0 : Nat) (c0 : Nat) (r : GTreaty) (h : treatylaw21_anyTreaty a0 a1 = some r) : Spec Try.prog 33 [.slice A0 n0 c0, .int .u8 a1] [] [fV (lSlice (lInt .i64)) (.slice A0 n0 c0) a0] (Q_treatylaw21_anyTreaty r) := by
  unfold treatylaw21_anyTreaty at h
  refine spec_of (σ := [(0, _), (1, _)]) Try.func33 rfl rfl rfl rfl ?_
  intro C
  refine wc_know (fun _ h => h.lenF m0) (fun e => ?_)
  subst e
  refine wc_seq ?_
  refine wc_region ?_   -- region 0
  refine wl_act (act_alloc (cs := [_, _, _, _, _, _, _, _, _, _, _, _, _, _, _, _, _, _, _, _, _]) zr49 rfl) rfl rfl rfl ?_
  rintro _ _ _ ⟨b0_0, rfl, rfl, rfl⟩
  refine wl_nil ?_
  refine pn_then ?_
  refine wc_seq ?_
  refine wc_region ?_   -- region 1
  refine wl_det rfl rfl (det_move rfl) rfl ?_
  obtain ⟨r1_1, hr1_1, h⟩ := bind_some h
  refine wl_act (act_callS (cap := []) (W_treatymade_New a0 A0 a0.length c0 r1_1 hr1_1) rfl rfl rfl bd16 rfl ⟨m0, trivial⟩) rfl rfl rfl ?_
  rintro _ _ _ ⟨_, _, ⟨y1_1b0, y1_1A1, y1_1n1, y1_1c1, rfl, rfl, rfl⟩, rfl, rfl⟩
  dsimp only [List.nil_append, List.cons_append]
  refine wl_know (fun _ h => h.lenF m0) (fun e => ?_)
  subst e
  refine wl_det rfl rfl (det_assign rfl) rfl ?_
  refine wl_nil ?_
  refine pn_then ?_
  refine wc_seq ?_
  refine wc_region ?_   -- region 2
  refine wl_det rfl rfl (det_move rfl) rfl ?_
  refine wl_det rfl rfl (det_move rfl) rfl ?_
  obtain ⟨r2_2, hr2_2, h⟩ := bind_some h
  refine wl_act (act_callS (cap := []) (W_treatymade_Deck_Range r1_1 1 9 y1_1b0 y1_1A1 r1_1.L.length y1_1c1 r2_2 hr2_2) rfl rfl rfl bd55 ⟨_, r0, rfl⟩ ⟨m0, trivial⟩) rfl rfl rfl ?_
  rintro _ _ _ ⟨_, _, ⟨y2_2A0, y2_2n0, y2_2c0, rfl, rfl, rfl⟩, rfl, rfl⟩
  dsimp only [List.nil_append, List.cons_append]
  refine wl_know (fun _ h => h.lenF m0) (fun e => ?_)
  subst e
  refine wl_det rfl rfl (det_move rfl) rfl ?_
  obtain ⟨r2_4, hr2_4, h⟩ := bind_some h
  refine wl_act (act_callS (cap := []) (W_treatymade_Deck_Range r2_2.2 1 6 y1_1b0 y2_2A0 r2_2.2.L.length y2_2c0 r2_4 hr2_4) rfl rfl rfl bd55 ⟨_, r0, rfl⟩ ⟨m0, trivial⟩) rfl rfl rfl ?_
  rintro _ _ _ ⟨_, _, ⟨y2_4A0, y2_4n0, y2_4c0, rfl, rfl, rfl⟩, rfl, rfl⟩
  dsimp only [List.nil_append, List.cons_append]
  refine wl_know (fun _ h => h.lenF m0) (fun e => ?_)
  subst e
  obtain ⟨r2_5, hr2_5, h⟩ := bind_some h
  refine wl_act (act_callS (cap := []) (W_treatymade_Deck_Treaty r2_4.2 r2_2.1 r2_4.1 y1_1b0 y2_4A0 r2_4.2.L.length y2_4c0 r2_5 hr2_5) rfl rfl rfl bd37 ⟨_, r0, rfl⟩ ⟨m0, trivial⟩) rfl rfl rfl ?_
  rintro _ _ _ ⟨_, _, ⟨y2_5A0, y2_5n0, y2_5c0, y2_5A1, y2_5n1, y2_5c1, y2_5A2, y2_5n2, y2_5c2, y2_5A3, y2_5n3, y2_5c3, y2_5A4, y2_5n4, y2_5c4, y2_5A5, y2_5n5, y2_5c5, rfl, rfl, rfl⟩, rfl, rfl⟩
  dsimp only [List.nil_append, List.cons_append]
  refine wl_know (fun _ h => h.lenO m0) (fun e => ?_)
  subst e
  refine wl_know (fun _ h => h.lenO (ms m0)) (fun e => ?_)
  subst e
  refine wl_know (fun _ h => h.lenO (ms (ms m0))) (fun e => ?_)
  subst e
  refine wl_know (fun _ h => h.lenO (ms (ms (ms m0)))) (fun e => ?_)
  subst e
  refine wl_know (fun _ h => h.lenO (ms (ms (ms (ms m0))))) (fun e => ?_)
  subst e
  refine wl_know (fun _ h => h.lenF m0) (fun e => ?_)
  subst e
  refine wl_act (act_alloc (cs := [_, _, _, _, _, _, _, _, _, _, _, _, _, _, _, _, _, _, _, _, _]) zr49 rfl) rfl rfl rfl ?_
  rintro _ _ _ ⟨b2_6, rfl, rfl, rfl⟩
  refine wl_act0 (act_store (cells := [_, _, _, _, _, _, _, _, _, _, _, _, _, _, _, _, _, _, _, _, _]) (cs' := [_, _, _, _, _, _, _, _, _, _, _, _, _, _, _, _, _, _, _, _, _]) rfl rfl rfl s0 (by rfl) (of_decide_eq_true rfl) sz49 ⟨rfl, rfl, rfl, rfl, rfl, rfl, rfl, rfl, rfl, rfl, rfl, rfl, rfl, rfl, rfl, rfl, rfl, rfl, rfl, rfl, rfl, trivial⟩) rfl rfl ?_
  rintro _ _ _ ⟨rfl, rfl⟩
  refine wl_nil ?_
  refine pn_then ?_
  obtain ⟨q6, h, ho6⟩ := bind_some h
  refine wc_meetG (G := Int × Unit) (fun (s6, _) => s6 = q6) (fun (_, _) => [(4, .pointer (some ⟨b0_0, 0, none⟩)), (6, .pointer (some ⟨b2_6, 0, none⟩))]) (fun (s6, _) => [eBlk b0_0 49 [.int .i64 0, .int .i64 0, .int .i64 0, .int .i64 0, .slice none 0 0, .slice none 0 0, .int .i64 0, .int .i64 0, .int .i64 0, .int .i64 0, .int .i64 0, .int .i64 0, .int .i64 0, .int .i64 0, .int .i64 0, .int .i64 0, .slice none 0 0, .bool false, .int .i64 0, .slice none 0 0, .slice none 0 0], eBlk b2_6 49 [.int .i64 r2_5.1.ID, .int .i64 s6, .int .i64 r2_5.1.Period.From, .int .i64 r2_5.1.Period.To, .slice y2_5A0 r2_5.1.Perils.length y2_5c0, .slice y2_5A1 r2_5.1.Areas.length y2_5c1, .int .i64 r2_5.1.Risk, .int .i64 r2_5.1.Cession, .int .i64 r2_5.1.Line, .int .i64 r2_5.1.Lines, .int .i64 r2_5.1.Retention, .int .i64 r2_5.1.Limit, .int .i64 r2_5.1.Window, .int .i64 r2_5.1.Deductible, .int .i64 r2_5.1.Aggregate, .int .i64 r2_5.1.Premium, .slice y2_5A2 r2_5.1.Reinstatements.length y2_5c2, .bool r2_5.1.Timed, .int .i64 r2_5.1.Base, .slice y2_5A3 r2_5.1.Inures.length y2_5c3, .slice y2_5A4 r2_5.1.Parts.length y2_5c4], eS (lInt .i64) 3 y2_5A0 r2_5.1.Perils.length y2_5c0 r2_5.1.Perils, eS (lInt .i64) 3 y2_5A1 r2_5.1.Areas.length y2_5c1 r2_5.1.Areas, eS (lInt .i64) 3 y2_5A2 r2_5.1.Reinstatements.length y2_5c2 r2_5.1.Reinstatements, eS (lInt .i64) 3 y2_5A3 r2_5.1.Inures.length y2_5c3 r2_5.1.Inures, eS lGPart 25 y2_5A4 r2_5.1.Parts.length y2_5c4 r2_5.1.Parts]) (fun (_, _) => []) ?_ ?_
  · refine wc_seq ?_
    refine wc_region ?_   -- region 3
    refine wl_det rfl rfl (det_move rfl) rfl ?_
    refine wl_det rfl rfl (det_remB rfl rfl rfl) rfl ?_
    refine wl_det rfl rfl (det_eql rfl rfl) rfl ?_
    refine wl_nil ?_
    refine pn_then ?_
    refine wc_cond rfl (fun cd9 => ?_) (fun cd9 => ?_)
    · have h := ifT h cd9
      refine wc_region ?_   -- region 4
      refine wl_det rfl rfl (det_move rfl) rfl ?_
      refine wl_det rfl rfl (det_quoB rfl rfl rfl) rfl ?_
      refine wl_det rfl rfl (det_conv rfl us5 un3) rfl ?_
      refine wl_det rfl rfl (det_remB rfl rfl rfl) rfl ?_
      refine wl_det rfl rfl (det_field rfl fd49_1 rfl) rfl ?_
      refine wl_act0 (act_store (cells := [_]) (cs' := [_, _, _, _, _, _, _, _, _, _, _, _, _, _, _, _, _, _, _, _, _]) rfl rfl rfl s0 (by rfl) (of_decide_eq_true rfl) sz3 ⟨rfl, trivial⟩) rfl rfl ?_
      rintro _ _ _ ⟨rfl, rfl⟩
      refine wl_nil ?_
      replace h := Option.some.inj h
      subst h
      exact pn_meetG (((w64 (IntKind.u8.wrap (a1.tdiv 5))).tmod 8), ()) rfl ⟨rfl, rfl, trivial⟩ (fun _ h => h.to ⟨_, (rs (rs (rs (rs (rs (rs (rs r0))))))), ⟨_, r0, ⟨_, r0, ⟨_, r0, ⟨_, r0, ⟨_, r0, ⟨_, r0, trivial⟩⟩⟩⟩⟩⟩⟩ trivial)
    · have h := ifF h cd9
      refine wc_skip ?_
      replace h := Option.some.inj h
      subst h
      exact pn_meetG (r2_5.1.Kind, ()) rfl ⟨rfl, rfl, trivial⟩ (fun _ h => h.to ⟨_, (rs (rs (rs (rs (rs (rs (rs r0))))))), ⟨_, r0, ⟨_, r0, ⟨_, r0, ⟨_, r0, ⟨_, r0, ⟨_, r0, trivial⟩⟩⟩⟩⟩⟩⟩ trivial)
  rintro ⟨s6, _⟩ e6
  dsimp only at e6 ⊢
  subst e6
  have h := ho6
  refine wc_seq ?_
  refine wc_region ?_   -- region 5
  refine wl_det rfl rfl (det_loadN (cells := [_, _, _, _, _, _, _, _, _, _, _, _, _, _, _, _, _, _, _, _, _]) rfl (ms m0) (by rfl) ag49 sz49) rfl ?_
  refine wl_act0 (act_store (cells := [_, _, _, _, _, _, _, _, _, _, _, _, _, _, _, _, _, _, _, _, _]) (cs' := [_, _, _, _, _, _, _, _, _, _, _, _, _, _, _, _, _, _, _, _, _]) rfl rfl rfl s0 (by rfl) (of_decide_eq_true rfl) sz49 ⟨rfl, rfl, rfl, rfl, rfl, rfl, rfl, rfl, rfl, rfl, rfl, rfl, rfl, rfl, rfl, rfl, rfl, rfl, rfl, rfl, rfl, trivial⟩) rfl rfl ?_
  rintro _ _ _ ⟨rfl, rfl⟩
  refine wl_nil ?_
  refine pn_then ?_
  refine wc_ret ?_
  replace h := Option.some.inj h
  subst h
  refine pn_ret (vs := [_]) rfl ⟨⟨_, _, [_, _, _, _, _, _, _, _, _, _, _, _, _, _, _, _, _, _, _, _, _], rfl, m0, ag49, sz49, rfl⟩, trivial⟩ ⟨y2_5A0, r2_5.1.Perils.length, y2_5c0, y2_5A1, r2_5.1.Areas.length, y2_5c1, y2_5A2, r2_5.1.Reinstatements.length, y2_5c2, y2_5A3, r2_5.1.Inures.length, y2_5c3, y2_5A4, r2_5.1.Parts.length, y2_5c4, rfl, rfl, rfl⟩ (fun _ h => h.to ⟨_, (rs (rs r0)), ⟨_, (rs (rs r0)), ⟨_, (rs (rs r0)), ⟨_, (rs (rs r0)), ⟨_, (rs (rs r0)), trivial⟩⟩⟩⟩⟩ trivial)
def Q_proportional_Cede (r : GCession × Int) : Value → List Ent → List Fact → Prop := fun v θ κ => v = .tuple #[.agg #[.int .i64 r.1.Ceded, .int .i64 r.1.Kept, .int .i64 r.1.Excess], .int .i64 r.2] ∧ θ = [] ∧ κ = []
theorem plains_proportional_Cede {r : GCession × Int} : ∀ v θ κ, Q_proportional_Cede r v θ κ → Plains θ := by
  rintro _ _ _ ⟨rfl, rfl, rfl⟩
  exact trivial
set_option maxHeartbeats 4000000 in
set_option maxRecDepth 100000 in
theorem W_proportional_Cede (a0 : GTreaty) (a1 : Int) (a2 : Int) (A0 : Option Addr) (n0 : Nat) (c0 : Nat) (A3 : Option Addr) (n3 : Nat) (c3 : Nat) (A6 : Option Addr) (n6 : Nat) (c6 : Nat) (A9 : Option Addr) (n9 : Nat) (c9 : Nat) (A12 : Option Addr) (n12 : Nat) (c12 : Nat) (r : GCession × Int) (h : proportional_Cede a0 a1 a2 = some r) : Spec Try.prog 35 [.agg #[.int .i64 a0.ID, .int .i64 a0.Kind, .int .i64 a0.Period.From, .int .i64 a0.Period.To, .slice A0 n0 c0, .slice A3 n3 c3, .int .i64 a0.Risk, .int .i64 a0.Cession, .int .i64 a0.Line, .int .i64 a0.Lines, .int .i64 a0.Retention, .int .i64 a0.Limit, .int .i64 a0.Window, .int .i64 a0.Deductible, .int .i64 a0.Aggregate, .int .i64 a0.Premium, .slice A6 n6 c6, .bool a0.Timed, .int .i64 a0.Base, .slice A9 n9 c9, .slice A12 n12 c12], .int .i64 a1, .int .i64 a2] [] [fV (lSlice (lInt .i64)) (.slice A0 n0 c0) a0.Perils, fV (lSlice (lInt .i64)) (.slice A3 n3 c3) a0.Areas, fV (lSlice (lInt .i64)) (.slice A6 n6 c6) a0.Reinstatements, fV (lSlice (lInt .i64)) (.slice A9 n9 c9) a0.Inures, fV (lSlice lGPart) (.slice A12 n12 c12) a0.Parts] (Q_proportional_Cede r) := by
  unfold proportional_Cede at h
  refine spec_of (σ := [(0, _), (1, _), (2, _)]) Try.func35 rfl rfl rfl rfl ?_
  intro C
  refine wc_know (fun _ h => h.lenF m0) (fun e => ?_)
  subst e
  refine wc_know (fun _ h => h.lenF (ms m0)) (fun e => ?_)
  subst e
  refine wc_know (fun _ h => h.lenF (ms (ms m0))) (fun e => ?_)
  subst e
  refine wc_know (fun _ h => h.lenF (ms (ms (ms m0)))) (fun e => ?_)
  subst e
  refine wc_know (fun _ h => h.lenF (ms (ms (ms (ms m0))))) (fun e => ?_)
  subst e
  refine wc_seq ?_
  refine wc_region ?_   -- region 0
  refine wl_act (act_box (cs := [_, _, _, _, _, _, _, _, _, _, _, _, _, _, _, _, _, _, _, _, _]) rfl rfl) rfl rfl rfl ?_
  rintro _ _ _ ⟨b0_0, rfl, rfl, rfl⟩
  refine wl_act (act_alloc (cs := [_, _, _]) zr56 rfl) rfl rfl rfl ?_
  rintro _ _ _ ⟨b0_1, rfl, rfl, rfl⟩
  refine wl_det rfl rfl (det_assign rfl) rfl ?_
  refine wl_nil ?_
  refine pn_then ?_
  refine wc_seq ?_
  refine wc_region ?_   -- region 1
  refine wl_det rfl rfl (det_loadN (cells := [_, _, _, _, _, _, _, _, _, _, _, _, _, _, _, _, _, _, _, _, _]) rfl (ms m0) (by rfl) ag49 sz49) rfl ?_
  refine wl_det rfl rfl (det_move rfl) rfl ?_
  refine wl_det rfl rfl (det_move rfl) rfl ?_
  obtain ⟨r1_3, hr1_3, h⟩ := bind_some h
  refine wl_act (act_callS (cap := []) (W_proportional_divide a0 a1 a2 A0 a0.Perils.length c0 A3 a0.Areas.length c3 A6 a0.Reinstatements.length c6 A9 a0.Inures.length c9 A12 a0.Parts.length c12 r1_3 hr1_3) rfl rfl rfl bd60 rfl ⟨m0, ⟨(ms m0), ⟨(ms (ms m0)), ⟨(ms (ms (ms m0))), ⟨(ms (ms (ms (ms m0)))), trivial⟩⟩⟩⟩⟩) rfl rfl rfl ?_
  rintro _ _ _ ⟨_, _, ⟨y1_3A0, y1_3n0, y1_3c0, rfl, rfl, rfl⟩, rfl, rfl⟩
  dsimp only [List.nil_append, List.cons_append]
  refine wl_know (fun _ h => h.lenO m0) (fun e => ?_)
  subst e
  refine wl_det rfl rfl (det_move rfl) rfl ?_
  refine wl_det rfl rfl (det_extract rfl rfl) rfl ?_
  refine wl_det rfl rfl (det_extract rfl rfl) rfl ?_
  refine wl_det rfl rfl (det_assign rfl) rfl ?_
  refine wl_det rfl rfl (det_assign rfl) rfl ?_
  refine wl_nil ?_
  refine pn_then ?_
  refine wc_seq ?_
  refine wc_seq ?_
  refine wc_region ?_   -- region 2
  refine wl_det rfl rfl (det_move rfl) rfl ?_
  refine wl_det rfl rfl (det_neq rfl rfl) rfl ?_
  refine wl_nil ?_
  refine pn_then ?_
  refine wc_cond rfl (fun cd7 => ?_) (fun cd7 => ?_)
  · have h := ifT h cd7
    refine wc_seq ?_
    refine wc_region ?_   -- region 3
    refine wl_det rfl rfl (det_build (cs := [_, _, _]) pl56 zr56 rfl rfl (by rfl)) rfl ?_
    refine wl_det rfl rfl (det_move rfl) rfl ?_
    refine wl_act0 (act_store (cells := [_, _, _]) (cs' := [_, _, _]) rfl rfl rfl (ss s0) (by rfl) (of_decide_eq_true rfl) sz56 ⟨rfl, rfl, rfl, trivial⟩) rfl rfl ?_
    rintro _ _ _ ⟨rfl, rfl⟩
    refine wl_det rfl rfl (det_assign rfl) rfl ?_
    refine wl_nil ?_
    refine pn_then ?_
    refine wc_ret ?_
    refine pr_then ?_
    replace h := Option.some.inj h
    subst h
    refine pn_ret (vs := [_, _]) rfl ⟨⟨_, _, [_, _, _], rfl, (ms m0), ag56, sz56, rfl⟩, rfl, trivial⟩ ⟨rfl, rfl, rfl⟩ (fun _ h => h.to trivial trivial)
  · have h := ifF h cd7
    refine wc_skip ?_
    refine pn_then ?_
    refine wc_seq ?_
    obtain ⟨k4_p1, h⟩ := chk_some h
    obtain ⟨k4_p2, h⟩ := chk_some h
    obtain ⟨k4_p3, h⟩ := chk_some h
    refine dx_region 11 [[], [0], [0, 1], [], [3], [3, 4], [], [6], [6, 7], [0, 1, 2, 3, 4, 5, 6, 7, 8], [], [0, 1, 2, 3, 4, 5, 6, 7, 8, 9, 10]] mixed (ord := (.det 0 (.det 1 (.det 2 (.det 3 (.det 4 (.det 5 (.det 6 (.det 7 (.det 8 (.det 9 (.alt 10 .done .dead)))))))))))) (by kernel_rfl) ?_   -- region 4
    refine hx_det rfl rfl rfl nofun (det_move rfl) rfl ?_
    refine hx_det rfl rfl rfl nofun (det_indexO rfl rfl m0 k4_p1 un23 sz3) rfl ?_
    refine hx_det rfl rfl rfl nofun (det_loadO (off := 0) rfl m0 k4_p1 (by rfl) (by rfl) (loaded_1 na3 us3)) rfl ?_
    refine hx_det rfl rfl rfl nofun (det_move rfl) rfl ?_
    refine hx_det rfl rfl rfl nofun (det_indexO rfl rfl m0 k4_p2 un23 sz3) rfl ?_
    refine hx_det rfl rfl rfl nofun (det_loadO (off := 0) rfl m0 k4_p2 (by rfl) (by rfl) (loaded_1 na3 us3)) rfl ?_
    refine hx_det rfl rfl rfl nofun (det_move rfl) rfl ?_
    refine hx_det rfl rfl rfl nofun (det_indexO rfl rfl m0 k4_p3 un23 sz3) rfl ?_
    refine hx_det rfl rfl rfl nofun (det_loadO (off := 0) rfl m0 k4_p3 (by rfl) (by rfl) (loaded_1 na3 us3)) rfl ?_
    refine hx_det rfl rfl rfl nofun (det_build (cs := [_, _, _]) pl56 zr56 rfl rfl (by rfl)) rfl ?_
    refine hx_act rfl rfl rfl (act_alloc (cs := [_, _, _]) zr56 rfl) rfl (by rintro _ _ _ ⟨b4_10, rfl, rfl, rfl⟩; first | exact ⟨_ :: [], [], rfl, rfl⟩ | exact ⟨[], [_], rfl, rfl⟩ | exact ⟨[], [], rfl, rfl⟩) ?_
    rintro _ _ _ ⟨b4_10, rfl, rfl, rfl⟩
    refine hx_end ?_
    refine wl_act0 (act_store (cells := [_, _, _]) (cs' := [_, _, _]) rfl rfl rfl s0 (by rfl) (of_decide_eq_true rfl) sz56 ⟨rfl, rfl, rfl, trivial⟩) rfl rfl ?_
    rintro _ _ _ ⟨rfl, rfl⟩
    refine wl_nil ?_
    refine pn_then ?_
    obtain ⟨q12, h, ho12⟩ := bind_some h
    refine wc_meetG (G := (Int × Int) × Unit) (fun (s12, _) => s12 = q12) (fun (_, _) => [(6, .pointer (some ⟨b0_1, 0, none⟩)), (10, .pointer (some ⟨b4_10, 0, none⟩))]) (fun (s12, _) => [eBlk b0_1 56 [.int .i64 0, .int .i64 0, .int .i64 0], eBlk b4_10 56 [.int .i64 s12.1, .int .i64 (ix r1_3.1 0), .int .i64 s12.2]]) (fun (_, _) => []) ?_ ?_
    · refine wc_seq ?_
      refine wc_region ?_   -- region 5
      refine wl_det rfl rfl (det_field rfl fd49_1 rfl) rfl ?_
      refine wl_det rfl rfl (det_load rfl (ms (ms (ms m0))) (by rfl) na3 us3) rfl ?_
      refine wl_det rfl rfl (det_eql rfl rfl) rfl ?_
      refine wl_det rfl rfl (det_move rfl) rfl ?_
      refine wl_way (decide (a0.Kind = 1)) ((decide (a0.Kind = 1)) && (decide (0 < a0.Limit))) 4 39 (fun hg => ?_) (fun hg => ?_) ?_
      · have hg5_7 := hg
        refine wl_on rfl rfl rfl rfl hg5_7 ?_
        refine wl_det rfl rfl (det_field rfl fd49_10 rfl) rfl ?_
        refine wl_on rfl rfl rfl rfl hg5_7 ?_
        refine wl_det rfl rfl (det_load rfl (ms (ms (ms m0))) (by rfl) na3 us3) rfl ?_
        refine wl_on rfl rfl rfl rfl hg5_7 ?_
        refine wl_det rfl rfl (det_gtr rfl rfl) rfl ?_
        refine wl_det rfl rfl (det_and_on rfl rfl rfl hg5_7) rfl ?_
        exact wl_nil (pn_qnE (ext_cons rfl (ext_skip rfl (ext_skip rfl (ext_skip rfl (ext_skip rfl ext_refl))))) (fun _ h => h))
      · have hg5_7a := hg
        refine wl_off rfl rfl rfl rfl rfl hg5_7a rfl ?_
        refine wl_off rfl rfl rfl rfl rfl hg5_7a rfl ?_
        refine wl_off rfl rfl rfl rfl rfl hg5_7a rfl ?_
        refine wl_det rfl rfl (det_and_off (q := (decide (0 < a0.Limit))) rfl rfl rfl hg5_7a) rfl ?_
        exact wl_nil (pn_qnE (ext_cons rfl (ext_skip rfl (ext_skip rfl (ext_skip rfl (ext_skip rfl ext_refl))))) (fun _ h => h))
      refine wl_det rfl rfl (det_move rfl) rfl ?_
      refine wl_way ((decide (a0.Kind = 1)) && (decide (0 < a0.Limit))) (((decide (a0.Kind = 1)) && (decide (0 < a0.Limit))) && (decide (a0.Limit < (ix r1_3.1 1)))) 6 46 (fun hg => ?_) (fun hg => ?_) ?_
      · have hg5_14 := hg
        refine wl_on rfl rfl rfl rfl hg5_14 ?_
        refine wl_det rfl rfl (det_field rfl fd56_0 rfl) rfl ?_
        refine wl_on rfl rfl rfl rfl hg5_14 ?_
        refine wl_det rfl rfl (det_load rfl m0 (by rfl) na3 us3) rfl ?_
        refine wl_on rfl rfl rfl rfl hg5_14 ?_
        refine wl_det rfl rfl (det_field rfl fd49_10 rfl) rfl ?_
        refine wl_on rfl rfl rfl rfl hg5_14 ?_
        refine wl_det rfl rfl (det_load rfl (ms (ms (ms m0))) (by rfl) na3 us3) rfl ?_
        refine wl_on rfl rfl rfl rfl hg5_14 ?_
        refine wl_det rfl rfl (det_gtr rfl rfl) rfl ?_
        refine wl_det rfl rfl (det_and_on rfl rfl rfl hg5_14) rfl ?_
        exact wl_nil (pn_qnE (ext_cons rfl (ext_skip rfl (ext_skip rfl (ext_skip rfl (ext_skip rfl (ext_skip rfl (ext_skip rfl ext_refl))))))) (fun _ h => h))
      · have hg5_14a := hg
        refine wl_off rfl rfl rfl rfl rfl hg5_14a rfl ?_
        refine wl_off rfl rfl rfl rfl rfl hg5_14a rfl ?_
        refine wl_off rfl rfl rfl rfl rfl hg5_14a rfl ?_
        refine wl_off rfl rfl rfl rfl rfl hg5_14a rfl ?_
        refine wl_off rfl rfl rfl rfl rfl hg5_14a rfl ?_
        refine wl_det rfl rfl (det_and_off (q := (decide (a0.Limit < (ix r1_3.1 1)))) rfl rfl rfl hg5_14a) rfl ?_
        exact wl_nil (pn_qnE (ext_cons rfl (ext_skip rfl (ext_skip rfl (ext_skip rfl (ext_skip rfl (ext_skip rfl (ext_skip rfl ext_refl))))))) (fun _ h => h))
      refine wl_nil ?_
      refine pn_then ?_
      refine wc_cond rfl (fun cd15 => ?_) (fun cd15 => ?_)
      · have h := ifT h cd15
        refine wc_seq ?_
        refine wc_region ?_   -- region 6
        refine wl_det rfl rfl (det_field rfl fd56_2 rfl) rfl ?_
        refine wl_det rfl rfl (det_load rfl m0 (by rfl) na3 us3) rfl ?_
        refine wl_det rfl rfl (det_field rfl fd56_0 rfl) rfl ?_
        refine wl_det rfl rfl (det_load rfl m0 (by rfl) na3 us3) rfl ?_
        refine wl_det rfl rfl (det_field rfl fd49_10 rfl) rfl ?_
        refine wl_det rfl rfl (det_load rfl (ms (ms (ms m0))) (by rfl) na3 us3) rfl ?_
        refine wl_det rfl rfl (det_sub rfl rfl) rfl ?_
        refine wl_det rfl rfl (det_add rfl rfl) rfl ?_
        refine wl_det rfl rfl (det_field rfl fd56_2 rfl) rfl ?_
        refine wl_act0 (act_store (cells := [_]) (cs' := [_, _, _]) rfl rfl rfl s0 (by rfl) (of_decide_eq_true rfl) sz3 ⟨rfl, trivial⟩) rfl rfl ?_
        rintro _ _ _ ⟨rfl, rfl⟩
        refine wl_nil ?_
        refine pn_then ?_
        refine wc_region ?_   -- region 7
        refine wl_det rfl rfl (det_field rfl fd49_10 rfl) rfl ?_
        refine wl_det rfl rfl (det_load rfl (ms (ms (ms m0))) (by rfl) na3 us3) rfl ?_
        refine wl_det rfl rfl (det_field rfl fd56_0 rfl) rfl ?_
        refine wl_act0 (act_store (cells := [_]) (cs' := [_, _, _]) rfl rfl rfl s0 (by rfl) (of_decide_eq_true rfl) sz3 ⟨rfl, trivial⟩) rfl rfl ?_
        rintro _ _ _ ⟨rfl, rfl⟩
        refine wl_nil ?_
        replace h := Option.some.inj h
        subst h
        exact pn_meetG ((a0.Limit, (w64 ((ix r1_3.1 2) + (w64 ((ix r1_3.1 1) - a0.Limit))))), ()) rfl ⟨rfl, rfl, trivial⟩ (fun _ h => h.to ⟨_, (rs (rs r0)), ⟨_, r0, trivial⟩⟩ trivial)
      · have h := ifF h cd15
        refine wc_skip ?_
        replace h := Option.some.inj h
        subst h
        exact pn_meetG (((ix r1_3.1 1), (ix r1_3.1 2)), ()) rfl ⟨rfl, rfl, trivial⟩ (fun _ h => h.to ⟨_, (rs (rs r0)), ⟨_, r0, trivial⟩⟩ trivial)
    rintro ⟨s12, _⟩ e12
    dsimp only at e12 ⊢
    subst e12
    have h := ho12
    refine wc_seq ?_
    refine wc_region ?_   -- region 8
    refine wl_det rfl rfl (det_loadN (cells := [_, _, _]) rfl (ms m0) (by rfl) ag56 sz56) rfl ?_
    refine wl_act0 (act_store (cells := [_, _, _]) (cs' := [_, _, _]) rfl rfl rfl s0 (by rfl) (of_decide_eq_true rfl) sz56 ⟨rfl, rfl, rfl, trivial⟩) rfl rfl ?_
    rintro _ _ _ ⟨rfl, rfl⟩
    refine wl_det rfl rfl (det_assign rfl) rfl ?_
    refine wl_nil ?_
    refine pn_then ?_
    refine wc_ret ?_
    replace h := Option.some.inj h
    subst h
    refine pn_ret (vs := [_, _]) rfl ⟨⟨_, _, [_, _, _], rfl, m0, ag56, sz56, rfl⟩, rfl, trivial⟩ ⟨rfl, rfl, rfl⟩ (fun _ h => h.to trivial trivial)
def Q_treatylaw21_awake (r : Bool) : Value → List Ent → List Fact → Prop := fun v θ κ => v = .bool r ∧ θ = [] ∧ κ = []
theorem plains_treatylaw21_awake {r : Bool} : ∀ v θ κ, Q_treatylaw21_awake r v θ κ → Plains θ := by
  rintro _ _ _ ⟨rfl, rfl, rfl⟩
  exact trivial
set_option maxHeartbeats 4000000 in
set_option maxRecDepth 100000 in
theorem W_treatylaw21_awake (r : Bool) (h : treatylaw21_awake = some r) : Spec Try.prog 34 [] [] [] (Q_treatylaw21_awake r) := by
  unfold treatylaw21_awake at h
  refine spec_of (σ := []) Try.func34 rfl rfl rfl rfl ?_
  intro C
  refine wc_seq ?_
  refine wc_region ?_   -- region 0
  refine wl_det rfl rfl (det_assign rfl) rfl ?_
  refine wl_nil ?_
  refine pn_then ?_
  refine wc_seq ?_
  refine wc_region ?_   -- region 1
  refine wl_det rfl rfl (det_build (cs := [_, _]) pl47 zr47 rfl rfl (by rfl)) rfl ?_
  refine wl_det rfl rfl (det_build (cs := [_, _, _, _, _, _, _, _, _, _, _, _, _, _, _, _, _, _, _, _, _]) pl49 zr49 rfl rfl (by rfl)) rfl ?_
  refine wl_act (act_alloc (cs := [_, _, _, _, _, _, _, _, _, _, _, _, _, _, _, _, _, _, _, _, _]) zr49 rfl) rfl rfl rfl ?_
  rintro _ _ _ ⟨b1_2, rfl, rfl, rfl⟩
  refine wl_act0 (act_store (cells := [_, _, _, _, _, _, _, _, _, _, _, _, _, _, _, _, _, _, _, _, _]) (cs' := [_, _, _, _, _, _, _, _, _, _, _, _, _, _, _, _, _, _, _, _, _]) rfl rfl rfl s0 (by rfl) (of_decide_eq_true rfl) sz49 ⟨rfl, rfl, rfl, rfl, rfl, rfl, rfl, rfl, rfl, rfl, rfl, rfl, rfl, rfl, rfl, rfl, rfl, rfl, rfl, rfl, rfl, trivial⟩) rfl rfl ?_
  rintro _ _ _ ⟨rfl, rfl⟩
  refine wl_nil ?_
  refine pn_then ?_
  refine wc_seq ?_
  refine wc_region ?_   -- region 2
  refine wl_det rfl rfl (det_loadN (cells := [_, _, _, _, _, _, _, _, _, _, _, _, _, _, _, _, _, _, _, _, _]) rfl m0 (by rfl) ag49 sz49) rfl ?_
  refine wl_st (fun _ h => h.zeroF (lInt .i64) none 0) ?_
  refine wl_st (fun _ h => h.zeroF lGPart none 0) ?_
  obtain ⟨r2_1, hr2_1, h⟩ := bind_some h
  refine wl_act (act_callS (cap := []) (W_proportional_Cede (GTreaty.mk 1 2 (GPeriod.mk 0 9) [] [] 0 0 100 4 0 0 0 0 0 0 [] false 0 [] []) 1000 50 none 0 0 none 0 0 none 0 0 none 0 0 none 0 0 r2_1 hr2_1) rfl rfl rfl bd35 rfl ⟨(ms m0), ⟨(ms m0), ⟨(ms m0), ⟨(ms m0), ⟨m0, trivial⟩⟩⟩⟩⟩) rfl rfl rfl ?_
  rintro _ _ _ ⟨_, _, ⟨rfl, rfl, rfl⟩, rfl, rfl⟩
  dsimp only [List.nil_append, List.cons_append]
  refine wl_det rfl rfl (det_move rfl) rfl ?_
  refine wl_det rfl rfl (det_extract rfl rfl) rfl ?_
  refine wl_det rfl rfl (det_extract rfl rfl) rfl ?_
  refine wl_act (act_alloc (cs := [_, _, _]) zr56 rfl) rfl rfl rfl ?_
  rintro _ _ _ ⟨b2_5, rfl, rfl, rfl⟩
  refine wl_act0 (act_store (cells := [_, _, _]) (cs' := [_, _, _]) rfl rfl rfl s0 (by rfl) (of_decide_eq_true rfl) sz56 ⟨rfl, rfl, rfl, trivial⟩) rfl rfl ?_
  rintro _ _ _ ⟨rfl, rfl⟩
  refine wl_det rfl rfl (det_assign rfl) rfl ?_
  refine wl_nil ?_
  refine pn_then ?_
  refine wc_seq ?_
  refine wc_region ?_   -- region 3
  refine wl_det rfl rfl (det_loadN (cells := [_, _, _, _, _, _, _, _, _, _, _, _, _, _, _, _, _, _, _, _, _]) rfl (ms m0) (by rfl) ag49 sz49) rfl ?_
  obtain ⟨r3_1, hr3_1, h⟩ := bind_some h
  refine wl_act (act_callS (cap := []) (W_proportional_Cede (GTreaty.mk 1 2 (GPeriod.mk 0 9) [] [] 0 0 100 4 0 0 0 0 0 0 [] false 0 [] []) 80 50 none 0 0 none 0 0 none 0 0 none 0 0 none 0 0 r3_1 hr3_1) rfl rfl rfl bd35 rfl ⟨(ms m0), ⟨(ms m0), ⟨(ms m0), ⟨(ms m0), ⟨m0, trivial⟩⟩⟩⟩⟩) rfl rfl rfl ?_
  rintro _ _ _ ⟨_, _, ⟨rfl, rfl, rfl⟩, rfl, rfl⟩
  dsimp only [List.nil_append, List.cons_append]
  refine wl_det rfl rfl (det_move rfl) rfl ?_
  refine wl_det rfl rfl (det_extract rfl rfl) rfl ?_
  refine wl_det rfl rfl (det_extract rfl rfl) rfl ?_
  refine wl_act (act_alloc (cs := [_, _, _]) zr56 rfl) rfl rfl rfl ?_
  rintro _ _ _ ⟨b3_5, rfl, rfl, rfl⟩
  refine wl_act0 (act_store (cells := [_, _, _]) (cs' := [_, _, _]) rfl rfl rfl s0 (by rfl) (of_decide_eq_true rfl) sz56 ⟨rfl, rfl, rfl, trivial⟩) rfl rfl ?_
  rintro _ _ _ ⟨rfl, rfl⟩
  refine wl_det rfl rfl (det_assign rfl) rfl ?_
  refine wl_nil ?_
  refine pn_then ?_
  refine wc_seq ?_
  refine wc_region ?_   -- region 4
  refine wl_det rfl rfl (det_move rfl) rfl ?_
  refine wl_det rfl rfl (det_eql rfl rfl) rfl ?_
  refine wl_det rfl rfl (det_move rfl) rfl ?_
  refine wl_way (decide (r2_1.2 = 0)) ((decide (r2_1.2 = 0)) && (decide (r3_1.2 = 0))) 3 23 (fun hg => ?_) (fun hg => ?_) ?_
  · have hg4_5 := hg
    refine wl_on rfl rfl rfl rfl hg4_5 ?_
    refine wl_det rfl rfl (det_move rfl) rfl ?_
    refine wl_on rfl rfl rfl rfl hg4_5 ?_
    refine wl_det rfl rfl (det_eql rfl rfl) rfl ?_
    refine wl_det rfl rfl (det_and_on rfl rfl rfl hg4_5) rfl ?_
    exact wl_nil (pn_qnE (ext_cons rfl (ext_skip rfl (ext_skip rfl (ext_skip rfl ext_refl)))) (fun _ h => h))
  · have hg4_5a := hg
    refine wl_off rfl rfl rfl rfl rfl hg4_5a rfl ?_
    refine wl_off rfl rfl rfl rfl rfl hg4_5a rfl ?_
    refine wl_det rfl rfl (det_and_off (q := (decide (r3_1.2 = 0))) rfl rfl rfl hg4_5a) rfl ?_
    exact wl_nil (pn_qnE (ext_cons rfl (ext_skip rfl (ext_skip rfl (ext_skip rfl ext_refl)))) (fun _ h => h))
  refine wl_det rfl rfl (det_move rfl) rfl ?_
  refine wl_way ((decide (r2_1.2 = 0)) && (decide (r3_1.2 = 0))) (((decide (r2_1.2 = 0)) && (decide (r3_1.2 = 0))) && (decide ([r2_1.1.Ceded, r2_1.1.Kept, r2_1.1.Excess] = [20, 5, 25]))) 4 28 (fun hg => ?_) (fun hg => ?_) ?_
  · have hg4_10 := hg
    refine wl_on rfl rfl rfl rfl hg4_10 ?_
    refine wl_det rfl rfl (det_loadN (cells := [_, _, _]) rfl (ms m0) (by rfl) ag56 sz56) rfl ?_
    refine wl_on rfl rfl rfl rfl hg4_10 ?_
    refine wl_det rfl rfl (det_build (cs := [_, _, _]) pl56 zr56 rfl rfl (by rfl)) rfl ?_
    refine wl_on rfl rfl rfl rfl hg4_10 ?_
    refine wl_det rfl rfl (det_eqlS [_, _, _] [_, _, _] eq56 rfl rfl rfl rfl) rfl ?_
    refine wl_det rfl rfl (det_and_on rfl rfl rfl hg4_10) rfl ?_
    exact wl_nil (pn_qnE (ext_cons rfl (ext_skip rfl (ext_skip rfl (ext_skip rfl (ext_skip rfl ext_refl))))) (fun _ h => h))
  · have hg4_10a := hg
    refine wl_off rfl rfl rfl rfl rfl hg4_10a rfl ?_
    refine wl_off rfl rfl rfl rfl rfl hg4_10a rfl ?_
    refine wl_off rfl rfl rfl rfl rfl hg4_10a rfl ?_
    refine wl_det rfl rfl (det_and_off (q := (decide ([r2_1.1.Ceded, r2_1.1.Kept, r2_1.1.Excess] = [20, 5, 25]))) rfl rfl rfl hg4_10a) rfl ?_
    exact wl_nil (pn_qnE (ext_cons rfl (ext_skip rfl (ext_skip rfl (ext_skip rfl (ext_skip rfl ext_refl))))) (fun _ h => h))
  refine wl_det rfl rfl (det_move rfl) rfl ?_
  refine wl_way (((decide (r2_1.2 = 0)) && (decide (r3_1.2 = 0))) && (decide ([r2_1.1.Ceded, r2_1.1.Kept, r2_1.1.Excess] = [20, 5, 25]))) ((((decide (r2_1.2 = 0)) && (decide (r3_1.2 = 0))) && (decide ([r2_1.1.Ceded, r2_1.1.Kept, r2_1.1.Excess] = [20, 5, 25]))) && (decide ([r3_1.1.Ceded, r3_1.1.Kept, r3_1.1.Excess] = [0, 50, 0]))) 4 33 (fun hg => ?_) (fun hg => ?_) ?_
  · have hg4_15 := hg
    refine wl_on rfl rfl rfl rfl hg4_15 ?_
    refine wl_det rfl rfl (det_loadN (cells := [_, _, _]) rfl m0 (by rfl) ag56 sz56) rfl ?_
    refine wl_on rfl rfl rfl rfl hg4_15 ?_
    refine wl_det rfl rfl (det_build (cs := [_, _, _]) pl56 zr56 rfl rfl (by rfl)) rfl ?_
    refine wl_on rfl rfl rfl rfl hg4_15 ?_
    refine wl_det rfl rfl (det_eqlS [_, _, _] [_, _, _] eq56 rfl rfl rfl rfl) rfl ?_
    refine wl_det rfl rfl (det_and_on rfl rfl rfl hg4_15) rfl ?_
    exact wl_nil (pn_qnE (ext_cons rfl (ext_skip rfl (ext_skip rfl (ext_skip rfl (ext_skip rfl ext_refl))))) (fun _ h => h))
  · have hg4_15a := hg
    refine wl_off rfl rfl rfl rfl rfl hg4_15a rfl ?_
    refine wl_off rfl rfl rfl rfl rfl hg4_15a rfl ?_
    refine wl_off rfl rfl rfl rfl rfl hg4_15a rfl ?_
    refine wl_det rfl rfl (det_and_off (q := (decide ([r3_1.1.Ceded, r3_1.1.Kept, r3_1.1.Excess] = [0, 50, 0]))) rfl rfl rfl hg4_15a) rfl ?_
    exact wl_nil (pn_qnE (ext_cons rfl (ext_skip rfl (ext_skip rfl (ext_skip rfl (ext_skip rfl ext_refl))))) (fun _ h => h))
  refine wl_det rfl rfl (det_assign rfl) rfl ?_
  refine wl_nil ?_
  refine pn_then ?_
  refine wc_ret ?_
  replace h := Option.some.inj h
  subst h
  refine pn_ret (vs := [_]) rfl ⟨rfl, trivial⟩ ⟨rfl, rfl, rfl⟩ (fun _ h => h.to trivial trivial)
def Q_treatylaw21_ProportionalPremium (r : Bool) : Value → List Ent → List Fact → Prop := fun v θ κ => v = .bool r ∧ θ = [] ∧ κ = []
theorem plains_treatylaw21_ProportionalPremium {r : Bool} : ∀ v θ κ, Q_treatylaw21_ProportionalPremium r v θ κ → Plains θ := by
  rintro _ _ _ ⟨rfl, rfl, rfl⟩
  exact trivial
set_option maxHeartbeats 4000000 in
set_option maxRecDepth 100000 in
theorem W_treatylaw21_ProportionalPremium (a0 : (List Int)) (a1 : Int) (a2 : Int) (a3 : Int) (A0 : Option Addr) (n0 : Nat) (c0 : Nat) (r : Bool) (h : treatylaw21_ProportionalPremium a0 a1 a2 a3 = some r) : Spec Try.prog 13 [.slice A0 n0 c0, .int .i64 a1, .int .i64 a2, .int .u8 a3] [] [fV (lSlice (lInt .i64)) (.slice A0 n0 c0) a0] (Q_treatylaw21_ProportionalPremium r) := by
  unfold treatylaw21_ProportionalPremium at h
  refine spec_of (σ := [(0, _), (1, _), (2, _), (3, _)]) Try.func13 rfl rfl rfl rfl ?_
  intro C
  refine wc_know (fun _ h => h.lenF m0) (fun e => ?_)
  subst e
  refine wc_seq ?_
  refine wc_region ?_   -- region 0
  refine wl_det rfl rfl (det_assign rfl) rfl ?_
  refine wl_nil ?_
  refine pn_then ?_
  refine wc_seq ?_
  refine wc_region ?_   -- region 1
  refine wl_det rfl rfl (det_move rfl) rfl ?_
  obtain ⟨r1_1, hr1_1, h⟩ := bind_some h
  refine wl_act (act_callS (cap := []) (W_treatylaw21_made a0 A0 a0.length c0 r1_1 hr1_1) rfl rfl rfl bd30 rfl ⟨m0, trivial⟩) rfl rfl rfl ?_
  rintro _ _ _ ⟨_, _, ⟨y1_1A0, y1_1n0, y1_1c0, y1_1A1, y1_1n1, y1_1c1, y1_1A2, y1_1n2, y1_1c2, y1_1A3, y1_1n3, y1_1c3, y1_1A4, y1_1n4, y1_1c4, y1_1b5, y1_1A6, y1_1n6, y1_1c6, rfl, rfl, rfl⟩, rfl, rfl⟩
  dsimp only [List.nil_append, List.cons_append]
  refine wl_know (fun _ h => h.lenO m0) (fun e => ?_)
  subst e
  refine wl_know (fun _ h => h.lenO (ms m0)) (fun e => ?_)
  subst e
  refine wl_know (fun _ h => h.lenO (ms (ms m0))) (fun e => ?_)
  subst e
  refine wl_know (fun _ h => h.lenO (ms (ms (ms m0)))) (fun e => ?_)
  subst e
  refine wl_know (fun _ h => h.lenO (ms (ms (ms (ms m0))))) (fun e => ?_)
  subst e
  refine wl_know (fun _ h => h.lenF m0) (fun e => ?_)
  subst e
  refine wl_det rfl rfl (det_move rfl) rfl ?_
  refine wl_det rfl rfl (det_extract rfl rfl) rfl ?_
  refine wl_det rfl rfl (det_extract rfl rfl) rfl ?_
  refine wl_act (act_alloc (cs := [_, _, _, _, _, _, _, _, _, _, _, _, _, _, _, _, _, _, _, _, _]) zr49 rfl) rfl rfl rfl ?_
  rintro _ _ _ ⟨b1_5, rfl, rfl, rfl⟩
  refine wl_act0 (act_store (cells := [_, _, _, _, _, _, _, _, _, _, _, _, _, _, _, _, _, _, _, _, _]) (cs' := [_, _, _, _, _, _, _, _, _, _, _, _, _, _, _, _, _, _, _, _, _]) rfl rfl rfl s0 (by rfl) (of_decide_eq_true rfl) sz49 ⟨rfl, rfl, rfl, rfl, rfl, rfl, rfl, rfl, rfl, rfl, rfl, rfl, rfl, rfl, rfl, rfl, rfl, rfl, rfl, rfl, rfl, trivial⟩) rfl rfl ?_
  rintro _ _ _ ⟨rfl, rfl⟩
  refine wl_det rfl rfl (det_assign rfl) rfl ?_
  refine wl_nil ?_
  refine pn_then ?_
  refine wc_seq ?_
  refine wc_region ?_   -- region 2
  refine wl_det rfl rfl (det_move rfl) rfl ?_
  obtain ⟨r2_1, hr2_1, h⟩ := bind_some h
  refine wl_act (act_callS (cap := []) (W_treatymade_Deck_Upto r1_1.2 68719476736 y1_1b5 y1_1A6 r1_1.2.L.length y1_1c6 r2_1 hr2_1) rfl rfl rfl bd28 ⟨_, (rs (rs (rs (rs (rs (rs r0)))))), rfl⟩ ⟨m0, trivial⟩) rfl rfl rfl ?_
  rintro _ _ _ ⟨_, _, ⟨y2_1A0, y2_1n0, y2_1c0, rfl, rfl, rfl⟩, rfl, rfl⟩
  dsimp only [List.nil_append, List.cons_append]
  refine wl_know (fun _ h => h.lenF m0) (fun e => ?_)
  subst e
  refine wl_det rfl rfl (det_move rfl) rfl ?_
  obtain ⟨r2_3, hr2_3, h⟩ := bind_some h
  refine wl_act (act_callS (cap := []) (W_treatymade_Deck_Upto r2_1.2 68719476736 y1_1b5 y2_1A0 r2_1.2.L.length y2_1c0 r2_3 hr2_3) rfl rfl rfl bd28 ⟨_, r0, rfl⟩ ⟨m0, trivial⟩) rfl rfl rfl ?_
  rintro _ _ _ ⟨_, _, ⟨y2_3A0, y2_3n0, y2_3c0, rfl, rfl, rfl⟩, rfl, rfl⟩
  dsimp only [List.nil_append, List.cons_append]
  refine wl_know (fun _ h => h.lenF m0) (fun e => ?_)
  subst e
  refine wl_det rfl rfl (det_assign rfl) rfl ?_
  refine wl_det rfl rfl (det_assign rfl) rfl ?_
  refine wl_nil ?_
  refine pn_then ?_
  refine wc_seq ?_
  refine wc_region ?_   -- region 3
  refine wl_det rfl rfl (det_loadN (cells := [_, _, _, _, _, _, _, _, _, _, _, _, _, _, _, _, _, _, _, _, _]) rfl (ms m0) (by rfl) ag49 sz49) rfl ?_
  refine wl_det rfl rfl (det_move rfl) rfl ?_
  refine wl_det rfl rfl (det_move rfl) rfl ?_
  obtain ⟨r3_3, hr3_3, h⟩ := bind_some h
  refine wl_act (act_callL (cap := []) [eS (lInt .i64) 3 y1_1A0 r1_1.1.Perils.length y1_1c0 r1_1.1.Perils, eS (lInt .i64) 3 y1_1A1 r1_1.1.Areas.length y1_1c1 r1_1.1.Areas, eS (lInt .i64) 3 y1_1A2 r1_1.1.Reinstatements.length y1_1c2 r1_1.1.Reinstatements, eS (lInt .i64) 3 y1_1A3 r1_1.1.Inures.length y1_1c3 r1_1.1.Inures, eS lGPart 25 y1_1A4 r1_1.1.Parts.length y1_1c4 r1_1.1.Parts] (W_proportional_Premium r1_1.1 a1 a2 y1_1A0 r1_1.1.Perils.length y1_1c0 y1_1A1 r1_1.1.Areas.length y1_1c1 y1_1A2 r1_1.1.Reinstatements.length y1_1c2 y1_1A3 r1_1.1.Inures.length y1_1c3 y1_1A4 r1_1.1.Parts.length y1_1c4 r3_3 hr3_3) plains_proportional_Premium rfl rfl rfl bd38 rfl ⟨(ms (ms m0)), ⟨(ms (ms (ms m0))), ⟨(ms (ms (ms (ms m0)))), ⟨(ms (ms (ms (ms (ms m0))))), ⟨(ms (ms (ms (ms (ms (ms m0)))))), trivial⟩⟩⟩⟩⟩ ⟨.inr ⟨_, m0, lent_eS⟩, ⟨.inr ⟨_, (ms m0), lent_eS⟩, ⟨.inr ⟨_, (ms (ms m0)), lent_eS⟩, ⟨.inr ⟨_, (ms (ms (ms m0))), lent_eS⟩, ⟨.inr ⟨_, (ms (ms (ms (ms m0)))), lent_eS⟩, trivial⟩⟩⟩⟩⟩) rfl rfl rfl ?_
  rintro _ _ _ ⟨_, _, ⟨rfl, rfl, rfl⟩, rfl, rfl⟩
  dsimp only [List.nil_append, List.cons_append]
  refine wl_det rfl rfl (det_move rfl) rfl ?_
  refine wl_det rfl rfl (det_extract rfl rfl) rfl ?_
  refine wl_det rfl rfl (det_extract rfl rfl) rfl ?_
  refine wl_det rfl rfl (det_assign rfl) rfl ?_
  refine wl_det rfl rfl (det_assign rfl) rfl ?_
  refine wl_nil ?_
  refine pn_then ?_
  refine wc_seq ?_
  refine wc_region ?_   -- region 4
  refine wl_det rfl rfl (det_loadN (cells := [_, _, _, _, _, _, _, _, _, _, _, _, _, _, _, _, _, _, _, _, _]) rfl (ms m0) (by rfl) ag49 sz49) rfl ?_
  refine wl_det rfl rfl (det_move rfl) rfl ?_
  refine wl_det rfl rfl (det_move rfl) rfl ?_
  obtain ⟨r4_3, hr4_3, h⟩ := bind_some h
  refine wl_act (act_callL (cap := []) [eS (lInt .i64) 3 y1_1A0 r1_1.1.Perils.length y1_1c0 r1_1.1.Perils, eS (lInt .i64) 3 y1_1A1 r1_1.1.Areas.length y1_1c1 r1_1.1.Areas, eS (lInt .i64) 3 y1_1A2 r1_1.1.Reinstatements.length y1_1c2 r1_1.1.Reinstatements, eS (lInt .i64) 3 y1_1A3 r1_1.1.Inures.length y1_1c3 r1_1.1.Inures, eS lGPart 25 y1_1A4 r1_1.1.Parts.length y1_1c4 r1_1.1.Parts] (W_treatyref20_Premium r1_1.1 a1 a2 y1_1A0 r1_1.1.Perils.length y1_1c0 y1_1A1 r1_1.1.Areas.length y1_1c1 y1_1A2 r1_1.1.Reinstatements.length y1_1c2 y1_1A3 r1_1.1.Inures.length y1_1c3 y1_1A4 r1_1.1.Parts.length y1_1c4 r4_3 hr4_3) plains_treatyref20_Premium rfl rfl rfl bd39 rfl ⟨(ms (ms m0)), ⟨(ms (ms (ms m0))), ⟨(ms (ms (ms (ms m0)))), ⟨(ms (ms (ms (ms (ms m0))))), ⟨(ms (ms (ms (ms (ms (ms m0)))))), trivial⟩⟩⟩⟩⟩ ⟨.inr ⟨_, m0, lent_eS⟩, ⟨.inr ⟨_, (ms m0), lent_eS⟩, ⟨.inr ⟨_, (ms (ms m0)), lent_eS⟩, ⟨.inr ⟨_, (ms (ms (ms m0))), lent_eS⟩, ⟨.inr ⟨_, (ms (ms (ms (ms m0)))), lent_eS⟩, trivial⟩⟩⟩⟩⟩) rfl rfl rfl ?_
  rintro _ _ _ ⟨_, _, ⟨rfl, rfl, rfl⟩, rfl, rfl⟩
  dsimp only [List.nil_append, List.cons_append]
  refine wl_det rfl rfl (det_move rfl) rfl ?_
  refine wl_det rfl rfl (det_extract rfl rfl) rfl ?_
  refine wl_det rfl rfl (det_extract rfl rfl) rfl ?_
  refine wl_det rfl rfl (det_assign rfl) rfl ?_
  refine wl_det rfl rfl (det_assign rfl) rfl ?_
  refine wl_nil ?_
  refine pn_then ?_
  refine wc_seq ?_
  refine wc_region ?_   -- region 5
  refine wl_det rfl rfl (det_move rfl) rfl ?_
  refine wl_det rfl rfl (det_move rfl) rfl ?_
  obtain ⟨r5_2, hr5_2, h⟩ := bind_some h
  refine wl_act (act_callS (cap := []) (W_treatylaw21_anyTreaty a0 a3 A0 a0.length c0 r5_2 hr5_2) rfl rfl rfl bd33 rfl ⟨(ms (ms (ms m0))), trivial⟩) rfl rfl rfl ?_
  rintro _ _ _ ⟨_, _, ⟨y5_2A0, y5_2n0, y5_2c0, y5_2A1, y5_2n1, y5_2c1, y5_2A2, y5_2n2, y5_2c2, y5_2A3, y5_2n3, y5_2c3, y5_2A4, y5_2n4, y5_2c4, rfl, rfl, rfl⟩, rfl, rfl⟩
  dsimp only [List.nil_append, List.cons_append]
  refine wl_know (fun _ h => h.lenO m0) (fun e => ?_)
  subst e
  refine wl_know (fun _ h => h.lenO (ms m0)) (fun e => ?_)
  subst e
  refine wl_know (fun _ h => h.lenO (ms (ms m0))) (fun e => ?_)
  subst e
  refine wl_know (fun _ h => h.lenO (ms (ms (ms m0)))) (fun e => ?_)
  subst e
  refine wl_know (fun _ h => h.lenO (ms (ms (ms (ms m0))))) (fun e => ?_)
  subst e
  refine wl_act (act_alloc (cs := [_, _, _, _, _, _, _, _, _, _, _, _, _, _, _, _, _, _, _, _, _]) zr49 rfl) rfl rfl rfl ?_
  rintro _ _ _ ⟨b5_3, rfl, rfl, rfl⟩
  refine wl_act0 (act_store (cells := [_, _, _, _, _, _, _, _, _, _, _, _, _, _, _, _, _, _, _, _, _]) (cs' := [_, _, _, _, _, _, _, _, _, _, _, _, _, _, _, _, _, _, _, _, _]) rfl rfl rfl s0 (by rfl) (of_decide_eq_true rfl) sz49 ⟨rfl, rfl, rfl, rfl, rfl, rfl, rfl, rfl, rfl, rfl, rfl, rfl, rfl, rfl, rfl, rfl, rfl, rfl, rfl, rfl, rfl, trivial⟩) rfl rfl ?_
  rintro _ _ _ ⟨rfl, rfl⟩
  refine wl_nil ?_
  refine pn_then ?_
  refine wc_seq ?_
  refine wc_region ?_   -- region 6
  refine wl_det rfl rfl (det_loadN (cells := [_, _, _, _, _, _, _, _, _, _, _, _, _, _, _, _, _, _, _, _, _]) rfl m0 (by rfl) ag49 sz49) rfl ?_
  refine wl_det rfl rfl (det_move rfl) rfl ?_
  refine wl_det rfl rfl (det_move rfl) rfl ?_
  obtain ⟨r6_3, hr6_3, h⟩ := bind_some h
  refine wl_act (act_callL (cap := []) [eS (lInt .i64) 3 y5_2A0 r5_2.Perils.length y5_2c0 r5_2.Perils, eS (lInt .i64) 3 y5_2A1 r5_2.Areas.length y5_2c1 r5_2.Areas, eS (lInt .i64) 3 y5_2A2 r5_2.Reinstatements.length y5_2c2 r5_2.Reinstatements, eS (lInt .i64) 3 y5_2A3 r5_2.Inures.length y5_2c3 r5_2.Inures, eS lGPart 25 y5_2A4 r5_2.Parts.length y5_2c4 r5_2.Parts] (W_proportional_Premium r5_2 r2_1.1 a2 y5_2A0 r5_2.Perils.length y5_2c0 y5_2A1 r5_2.Areas.length y5_2c1 y5_2A2 r5_2.Reinstatements.length y5_2c2 y5_2A3 r5_2.Inures.length y5_2c3 y5_2A4 r5_2.Parts.length y5_2c4 r6_3 hr6_3) plains_proportional_Premium rfl rfl rfl bd38 rfl ⟨(ms m0), ⟨(ms (ms m0)), ⟨(ms (ms (ms m0))), ⟨(ms (ms (ms (ms m0)))), ⟨(ms (ms (ms (ms (ms m0))))), trivial⟩⟩⟩⟩⟩ ⟨.inr ⟨_, m0, lent_eS⟩, ⟨.inr ⟨_, (ms m0), lent_eS⟩, ⟨.inr ⟨_, (ms (ms m0)), lent_eS⟩, ⟨.inr ⟨_, (ms (ms (ms m0))), lent_eS⟩, ⟨.inr ⟨_, (ms (ms (ms (ms m0)))), lent_eS⟩, trivial⟩⟩⟩⟩⟩) rfl rfl rfl ?_
  rintro _ _ _ ⟨_, _, ⟨rfl, rfl, rfl⟩, rfl, rfl⟩
  dsimp only [List.nil_append, List.cons_append]
  refine wl_det rfl rfl (det_move rfl) rfl ?_
  refine wl_det rfl rfl (det_extract rfl rfl) rfl ?_
  refine wl_det rfl rfl (det_extract rfl rfl) rfl ?_
  refine wl_det rfl rfl (det_assign rfl) rfl ?_
  refine wl_det rfl rfl (det_assign rfl) rfl ?_
  refine wl_nil ?_
  refine pn_then ?_
  refine wc_seq ?_
  refine wc_region ?_   -- region 7
  refine wl_det rfl rfl (det_loadN (cells := [_, _, _, _, _, _, _, _, _, _, _, _, _, _, _, _, _, _, _, _, _]) rfl m0 (by rfl) ag49 sz49) rfl ?_
  refine wl_det rfl rfl (det_move rfl) rfl ?_
  refine wl_det rfl rfl (det_move rfl) rfl ?_
  obtain ⟨r7_3, hr7_3, h⟩ := bind_some h
  refine wl_act (act_callL (cap := []) [eS (lInt .i64) 3 y5_2A0 r5_2.Perils.length y5_2c0 r5_2.Perils, eS (lInt .i64) 3 y5_2A1 r5_2.Areas.length y5_2c1 r5_2.Areas, eS (lInt .i64) 3 y5_2A2 r5_2.Reinstatements.length y5_2c2 r5_2.Reinstatements, eS (lInt .i64) 3 y5_2A3 r5_2.Inures.length y5_2c3 r5_2.Inures, eS lGPart 25 y5_2A4 r5_2.Parts.length y5_2c4 r5_2.Parts] (W_treatyref20_Premium r5_2 r2_1.1 a2 y5_2A0 r5_2.Perils.length y5_2c0 y5_2A1 r5_2.Areas.length y5_2c1 y5_2A2 r5_2.Reinstatements.length y5_2c2 y5_2A3 r5_2.Inures.length y5_2c3 y5_2A4 r5_2.Parts.length y5_2c4 r7_3 hr7_3) plains_treatyref20_Premium rfl rfl rfl bd39 rfl ⟨(ms m0), ⟨(ms (ms m0)), ⟨(ms (ms (ms m0))), ⟨(ms (ms (ms (ms m0)))), ⟨(ms (ms (ms (ms (ms m0))))), trivial⟩⟩⟩⟩⟩ ⟨.inr ⟨_, m0, lent_eS⟩, ⟨.inr ⟨_, (ms m0), lent_eS⟩, ⟨.inr ⟨_, (ms (ms m0)), lent_eS⟩, ⟨.inr ⟨_, (ms (ms (ms m0))), lent_eS⟩, ⟨.inr ⟨_, (ms (ms (ms (ms m0)))), lent_eS⟩, trivial⟩⟩⟩⟩⟩) rfl rfl rfl ?_
  rintro _ _ _ ⟨_, _, ⟨rfl, rfl, rfl⟩, rfl, rfl⟩
  dsimp only [List.nil_append, List.cons_append]
  refine wl_det rfl rfl (det_move rfl) rfl ?_
  refine wl_det rfl rfl (det_extract rfl rfl) rfl ?_
  refine wl_det rfl rfl (det_extract rfl rfl) rfl ?_
  refine wl_det rfl rfl (det_assign rfl) rfl ?_
  refine wl_det rfl rfl (det_assign rfl) rfl ?_
  refine wl_nil ?_
  refine pn_then ?_
  refine wc_seq ?_
  refine wc_region ?_   -- region 8
  refine wl_det rfl rfl (det_field rfl fd49_10 rfl) rfl ?_
  refine wl_act0 (act_store (cells := [_]) (cs' := [_, _, _, _, _, _, _, _, _, _, _, _, _, _, _, _, _, _, _, _, _]) rfl rfl rfl (ss (ss (ss (ss (ss (ss (ss s0))))))) (by rfl) (of_decide_eq_true rfl) sz3 ⟨rfl, trivial⟩) rfl rfl ?_
  rintro _ _ _ ⟨rfl, rfl⟩
  refine wl_nil ?_
  refine pn_then ?_
  refine wc_seq ?_
  refine wc_region ?_   -- region 9
  refine wl_det rfl rfl (det_loadN (cells := [_, _, _, _, _, _, _, _, _, _, _, _, _, _, _, _, _, _, _, _, _]) rfl (ms (ms (ms (ms (ms (ms (ms m0))))))) (by rfl) ag49 sz49) rfl ?_
  refine wl_det rfl rfl (det_move rfl) rfl ?_
  refine wl_det rfl rfl (det_move rfl) rfl ?_
  obtain ⟨r9_3, hr9_3, h⟩ := bind_some h
  refine wl_act (act_callL (cap := []) [eS (lInt .i64) 3 y1_1A0 r1_1.1.Perils.length y1_1c0 r1_1.1.Perils, eS (lInt .i64) 3 y1_1A1 r1_1.1.Areas.length y1_1c1 r1_1.1.Areas, eS (lInt .i64) 3 y1_1A2 r1_1.1.Reinstatements.length y1_1c2 r1_1.1.Reinstatements, eS (lInt .i64) 3 y1_1A3 r1_1.1.Inures.length y1_1c3 r1_1.1.Inures, eS lGPart 25 y1_1A4 r1_1.1.Parts.length y1_1c4 r1_1.1.Parts] (W_proportional_Premium (GTreaty.mk r1_1.1.ID r1_1.1.Kind r1_1.1.Period r1_1.1.Perils r1_1.1.Areas r1_1.1.Risk r1_1.1.Cession r1_1.1.Line r1_1.1.Lines r1_1.1.Retention 0 r1_1.1.Window r1_1.1.Deductible r1_1.1.Aggregate r1_1.1.Premium r1_1.1.Reinstatements r1_1.1.Timed r1_1.1.Base r1_1.1.Inures r1_1.1.Parts) r2_1.1 r2_3.1 y1_1A0 r1_1.1.Perils.length y1_1c0 y1_1A1 r1_1.1.Areas.length y1_1c1 y1_1A2 r1_1.1.Reinstatements.length y1_1c2 y1_1A3 r1_1.1.Inures.length y1_1c3 y1_1A4 r1_1.1.Parts.length y1_1c4 r9_3 hr9_3) plains_proportional_Premium rfl rfl rfl bd38 rfl ⟨(ms (ms (ms (ms (ms (ms (ms (ms m0)))))))), ⟨(ms (ms (ms (ms (ms (ms (ms (ms (ms m0))))))))), ⟨(ms (ms (ms (ms (ms (ms (ms (ms (ms (ms m0)))))))))), ⟨(ms (ms (ms (ms (ms (ms (ms (ms (ms (ms (ms m0))))))))))), ⟨(ms (ms (ms (ms (ms (ms (ms (ms (ms (ms (ms (ms m0)))))))))))), trivial⟩⟩⟩⟩⟩ ⟨.inr ⟨_, m0, lent_eS⟩, ⟨.inr ⟨_, (ms m0), lent_eS⟩, ⟨.inr ⟨_, (ms (ms m0)), lent_eS⟩, ⟨.inr ⟨_, (ms (ms (ms m0))), lent_eS⟩, ⟨.inr ⟨_, (ms (ms (ms (ms m0)))), lent_eS⟩, trivial⟩⟩⟩⟩⟩) rfl rfl rfl ?_
  rintro _ _ _ ⟨_, _, ⟨rfl, rfl, rfl⟩, rfl, rfl⟩
  dsimp only [List.nil_append, List.cons_append]
  refine wl_det rfl rfl (det_move rfl) rfl ?_
  refine wl_det rfl rfl (det_extract rfl rfl) rfl ?_
  refine wl_det rfl rfl (det_extract rfl rfl) rfl ?_
  refine wl_det rfl rfl (det_assign rfl) rfl ?_
  refine wl_det rfl rfl (det_assign rfl) rfl ?_
  refine wl_nil ?_
  refine pn_then ?_
  refine wc_seq ?_
  refine wc_region ?_   -- region 10
  refine wl_det rfl rfl (det_loadN (cells := [_, _, _, _, _, _, _, _, _, _, _, _, _, _, _, _, _, _, _, _, _]) rfl (ms (ms (ms (ms (ms (ms (ms m0))))))) (by rfl) ag49 sz49) rfl ?_
  refine wl_det rfl rfl (det_move rfl) rfl ?_
  refine wl_det rfl rfl (det_move rfl) rfl ?_
  obtain ⟨r10_3, hr10_3, h⟩ := bind_some h
  refine wl_act (act_callL (cap := []) [eS (lInt .i64) 3 y1_1A0 r1_1.1.Perils.length y1_1c0 r1_1.1.Perils, eS (lInt .i64) 3 y1_1A1 r1_1.1.Areas.length y1_1c1 r1_1.1.Areas, eS (lInt .i64) 3 y1_1A2 r1_1.1.Reinstatements.length y1_1c2 r1_1.1.Reinstatements, eS (lInt .i64) 3 y1_1A3 r1_1.1.Inures.length y1_1c3 r1_1.1.Inures, eS lGPart 25 y1_1A4 r1_1.1.Parts.length y1_1c4 r1_1.1.Parts] (W_proportional_Cede (GTreaty.mk r1_1.1.ID r1_1.1.Kind r1_1.1.Period r1_1.1.Perils r1_1.1.Areas r1_1.1.Risk r1_1.1.Cession r1_1.1.Line r1_1.1.Lines r1_1.1.Retention 0 r1_1.1.Window r1_1.1.Deductible r1_1.1.Aggregate r1_1.1.Premium r1_1.1.Reinstatements r1_1.1.Timed r1_1.1.Base r1_1.1.Inures r1_1.1.Parts) r2_1.1 r2_3.1 y1_1A0 r1_1.1.Perils.length y1_1c0 y1_1A1 r1_1.1.Areas.length y1_1c1 y1_1A2 r1_1.1.Reinstatements.length y1_1c2 y1_1A3 r1_1.1.Inures.length y1_1c3 y1_1A4 r1_1.1.Parts.length y1_1c4 r10_3 hr10_3) plains_proportional_Cede rfl rfl rfl bd35 rfl ⟨(ms (ms (ms (ms (ms (ms (ms (ms m0)))))))), ⟨(ms (ms (ms (ms (ms (ms (ms (ms (ms m0))))))))), ⟨(ms (ms (ms (ms (ms (ms (ms (ms (ms (ms m0)))))))))), ⟨(ms (ms (ms (ms (ms (ms (ms (ms (ms (ms (ms m0))))))))))), ⟨(ms (ms (ms (ms (ms (ms (ms (ms (ms (ms (ms (ms m0)))))))))))), trivial⟩⟩⟩⟩⟩ ⟨.inr ⟨_, m0, lent_eS⟩, ⟨.inr ⟨_, (ms m0), lent_eS⟩, ⟨.inr ⟨_, (ms (ms m0)), lent_eS⟩, ⟨.inr ⟨_, (ms (ms (ms m0))), lent_eS⟩, ⟨.inr ⟨_, (ms (ms (ms (ms m0)))), lent_eS⟩, trivial⟩⟩⟩⟩⟩) rfl rfl rfl ?_
  rintro _ _ _ ⟨_, _, ⟨rfl, rfl, rfl⟩, rfl, rfl⟩
  dsimp only [List.nil_append, List.cons_append]
  refine wl_det rfl rfl (det_move rfl) rfl ?_
  refine wl_det rfl rfl (det_extract rfl rfl) rfl ?_
  refine wl_det rfl rfl (det_extract rfl rfl) rfl ?_
  refine wl_act (act_alloc (cs := [_, _, _]) zr56 rfl) rfl rfl rfl ?_
  rintro _ _ _ ⟨b10_7, rfl, rfl, rfl⟩
  refine wl_act0 (act_store (cells := [_, _, _]) (cs' := [_, _, _]) rfl rfl rfl s0 (by rfl) (of_decide_eq_true rfl) sz56 ⟨rfl, rfl, rfl, trivial⟩) rfl rfl ?_
  rintro _ _ _ ⟨rfl, rfl⟩
  refine wl_det rfl rfl (det_assign rfl) rfl ?_
  refine wl_nil ?_
  refine pn_then ?_
  refine wc_seq ?_
  refine wc_region ?_   -- region 11
  refine wl_det rfl rfl (det_move rfl) rfl ?_
  refine wl_det rfl rfl (det_move rfl) rfl ?_
  refine wl_det rfl rfl (det_eql rfl rfl) rfl ?_
  refine wl_det rfl rfl (det_move rfl) rfl ?_
  refine wl_way (decide (r3_3.1 = r4_3.1)) ((decide (r3_3.1 = r4_3.1)) && (decide (r3_3.2 = r4_3.2))) 4 88 (fun hg => ?_) (fun hg => ?_) ?_
  · have hg11_7 := hg
    refine wl_on rfl rfl rfl rfl hg11_7 ?_
    refine wl_det rfl rfl (det_move rfl) rfl ?_
    refine wl_on rfl rfl rfl rfl hg11_7 ?_
    refine wl_det rfl rfl (det_move rfl) rfl ?_
    refine wl_on rfl rfl rfl rfl hg11_7 ?_
    refine wl_det rfl rfl (det_eql rfl rfl) rfl ?_
    refine wl_det rfl rfl (det_and_on rfl rfl rfl hg11_7) rfl ?_
    exact wl_nil (pn_qnE (ext_cons rfl (ext_skip rfl (ext_skip rfl (ext_skip rfl (ext_skip rfl ext_refl))))) (fun _ h => h))
  · have hg11_7a := hg
    refine wl_off rfl rfl rfl rfl rfl hg11_7a rfl ?_
    refine wl_off rfl rfl rfl rfl rfl hg11_7a rfl ?_
    refine wl_off rfl rfl rfl rfl rfl hg11_7a rfl ?_
    refine wl_det rfl rfl (det_and_off (q := (decide (r3_3.2 = r4_3.2))) rfl rfl rfl hg11_7a) rfl ?_
    exact wl_nil (pn_qnE (ext_cons rfl (ext_skip rfl (ext_skip rfl (ext_skip rfl (ext_skip rfl ext_refl))))) (fun _ h => h))
  refine wl_det rfl rfl (det_move rfl) rfl ?_
  refine wl_way ((decide (r3_3.1 = r4_3.1)) && (decide (r3_3.2 = r4_3.2))) (((decide (r3_3.1 = r4_3.1)) && (decide (r3_3.2 = r4_3.2))) && (decide (r6_3.1 = r7_3.1))) 4 93 (fun hg => ?_) (fun hg => ?_) ?_
  · have hg11_12 := hg
    refine wl_on rfl rfl rfl rfl hg11_12 ?_
    refine wl_det rfl rfl (det_move rfl) rfl ?_
    refine wl_on rfl rfl rfl rfl hg11_12 ?_
    refine wl_det rfl rfl (det_move rfl) rfl ?_
    refine wl_on rfl rfl rfl rfl hg11_12 ?_
    refine wl_det rfl rfl (det_eql rfl rfl) rfl ?_
    refine wl_det rfl rfl (det_and_on rfl rfl rfl hg11_12) rfl ?_
    exact wl_nil (pn_qnE (ext_cons rfl (ext_skip rfl (ext_skip rfl (ext_skip rfl (ext_skip rfl ext_refl))))) (fun _ h => h))
  · have hg11_12a := hg
    refine wl_off rfl rfl rfl rfl rfl hg11_12a rfl ?_
    refine wl_off rfl rfl rfl rfl rfl hg11_12a rfl ?_
    refine wl_off rfl rfl rfl rfl rfl hg11_12a rfl ?_
    refine wl_det rfl rfl (det_and_off (q := (decide (r6_3.1 = r7_3.1))) rfl rfl rfl hg11_12a) rfl ?_
    exact wl_nil (pn_qnE (ext_cons rfl (ext_skip rfl (ext_skip rfl (ext_skip rfl (ext_skip rfl ext_refl))))) (fun _ h => h))
  refine wl_det rfl rfl (det_move rfl) rfl ?_
  refine wl_way (((decide (r3_3.1 = r4_3.1)) && (decide (r3_3.2 = r4_3.2))) && (decide (r6_3.1 = r7_3.1))) ((((decide (r3_3.1 = r4_3.1)) && (decide (r3_3.2 = r4_3.2))) && (decide (r6_3.1 = r7_3.1))) && (decide (r6_3.2 = r7_3.2))) 4 98 (fun hg => ?_) (fun hg => ?_) ?_
  · have hg11_17 := hg
    refine wl_on rfl rfl rfl rfl hg11_17 ?_
    refine wl_det rfl rfl (det_move rfl) rfl ?_
    refine wl_on rfl rfl rfl rfl hg11_17 ?_
    refine wl_det rfl rfl (det_move rfl) rfl ?_
    refine wl_on rfl rfl rfl rfl hg11_17 ?_
    refine wl_det rfl rfl (det_eql rfl rfl) rfl ?_
    refine wl_det rfl rfl (det_and_on rfl rfl rfl hg11_17) rfl ?_
    exact wl_nil (pn_qnE (ext_cons rfl (ext_skip rfl (ext_skip rfl (ext_skip rfl (ext_skip rfl ext_refl))))) (fun _ h => h))
  · have hg11_17a := hg
    refine wl_off rfl rfl rfl rfl rfl hg11_17a rfl ?_
    refine wl_off rfl rfl rfl rfl rfl hg11_17a rfl ?_
    refine wl_off rfl rfl rfl rfl rfl hg11_17a rfl ?_
    refine wl_det rfl rfl (det_and_off (q := (decide (r6_3.2 = r7_3.2))) rfl rfl rfl hg11_17a) rfl ?_
    exact wl_nil (pn_qnE (ext_cons rfl (ext_skip rfl (ext_skip rfl (ext_skip rfl (ext_skip rfl ext_refl))))) (fun _ h => h))
  refine wl_det rfl rfl (det_move rfl) rfl ?_
  refine wl_way ((((decide (r3_3.1 = r4_3.1)) && (decide (r3_3.2 = r4_3.2))) && (decide (r6_3.1 = r7_3.1))) && (decide (r6_3.2 = r7_3.2))) (((((decide (r3_3.1 = r4_3.1)) && (decide (r3_3.2 = r4_3.2))) && (decide (r6_3.1 = r7_3.1))) && (decide (r6_3.2 = r7_3.2))) && (decide (r9_3.2 = 0))) 3 102 (fun hg => ?_) (fun hg => ?_) ?_
  · have hg11_21 := hg
    refine wl_on rfl rfl rfl rfl hg11_21 ?_
    refine wl_det rfl rfl (det_move rfl) rfl ?_
    refine wl_on rfl rfl rfl rfl hg11_21 ?_
    refine wl_det rfl rfl (det_eql rfl rfl) rfl ?_
    refine wl_det rfl rfl (det_and_on rfl rfl rfl hg11_21) rfl ?_
    exact wl_nil (pn_qnE (ext_cons rfl (ext_skip rfl (ext_skip rfl (ext_skip rfl ext_refl)))) (fun _ h => h))
  · have hg11_21a := hg
    refine wl_off rfl rfl rfl rfl rfl hg11_21a rfl ?_
    refine wl_off rfl rfl rfl rfl rfl hg11_21a rfl ?_
    refine wl_det rfl rfl (det_and_off (q := (decide (r9_3.2 = 0))) rfl rfl rfl hg11_21a) rfl ?_
    exact wl_nil (pn_qnE (ext_cons rfl (ext_skip rfl (ext_skip rfl (ext_skip rfl ext_refl)))) (fun _ h => h))
  refine wl_det rfl rfl (det_move rfl) rfl ?_
  refine wl_way (((((decide (r3_3.1 = r4_3.1)) && (decide (r3_3.2 = r4_3.2))) && (decide (r6_3.1 = r7_3.1))) && (decide (r6_3.2 = r7_3.2))) && (decide (r9_3.2 = 0))) ((((((decide (r3_3.1 = r4_3.1)) && (decide (r3_3.2 = r4_3.2))) && (decide (r6_3.1 = r7_3.1))) && (decide (r6_3.2 = r7_3.2))) && (decide (r9_3.2 = 0))) && (decide (r10_3.2 = 0))) 3 106 (fun hg => ?_) (fun hg => ?_) ?_
  · have hg11_25 := hg
    refine wl_on rfl rfl rfl rfl hg11_25 ?_
    refine wl_det rfl rfl (det_move rfl) rfl ?_
    refine wl_on rfl rfl rfl rfl hg11_25 ?_
    refine wl_det rfl rfl (det_eql rfl rfl) rfl ?_
    refine wl_det rfl rfl (det_and_on rfl rfl rfl hg11_25) rfl ?_
    exact wl_nil (pn_qnE (ext_cons rfl (ext_skip rfl (ext_skip rfl (ext_skip rfl ext_refl)))) (fun _ h => h))
  · have hg11_25a := hg
    refine wl_off rfl rfl rfl rfl rfl hg11_25a rfl ?_
    refine wl_off rfl rfl rfl rfl rfl hg11_25a rfl ?_
    refine wl_det rfl rfl (det_and_off (q := (decide (r10_3.2 = 0))) rfl rfl rfl hg11_25a) rfl ?_
    exact wl_nil (pn_qnE (ext_cons rfl (ext_skip rfl (ext_skip rfl (ext_skip rfl ext_refl)))) (fun _ h => h))
  refine wl_det rfl rfl (det_move rfl) rfl ?_
  refine wl_way ((((((decide (r3_3.1 = r4_3.1)) && (decide (r3_3.2 = r4_3.2))) && (decide (r6_3.1 = r7_3.1))) && (decide (r6_3.2 = r7_3.2))) && (decide (r9_3.2 = 0))) && (decide (r10_3.2 = 0))) (((((((decide (r3_3.1 = r4_3.1)) && (decide (r3_3.2 = r4_3.2))) && (decide (r6_3.1 = r7_3.1))) && (decide (r6_3.2 = r7_3.2))) && (decide (r9_3.2 = 0))) && (decide (r10_3.2 = 0))) && (decide (r9_3.1 = r10_3.1.Ceded))) 5 112 (fun hg => ?_) (fun hg => ?_) ?_
  · have hg11_31 := hg
    refine wl_on rfl rfl rfl rfl hg11_31 ?_
    refine wl_det rfl rfl (det_move rfl) rfl ?_
    refine wl_on rfl rfl rfl rfl hg11_31 ?_
    refine wl_det rfl rfl (det_field rfl fd56_0 rfl) rfl ?_
    refine wl_on rfl rfl rfl rfl hg11_31 ?_
    refine wl_det rfl rfl (det_load rfl m0 (by rfl) na3 us3) rfl ?_
    refine wl_on rfl rfl rfl rfl hg11_31 ?_
    refine wl_det rfl rfl (det_eql rfl rfl) rfl ?_
    refine wl_det rfl rfl (det_and_on rfl rfl rfl hg11_31) rfl ?_
    exact wl_nil (pn_qnE (ext_cons rfl (ext_skip rfl (ext_skip rfl (ext_skip rfl (ext_skip rfl (ext_skip rfl ext_refl)))))) (fun _ h => h))
  · have hg11_31a := hg
    refine wl_off rfl rfl rfl rfl rfl hg11_31a rfl ?_
    refine wl_off rfl rfl rfl rfl rfl hg11_31a rfl ?_
    refine wl_off rfl rfl rfl rfl rfl hg11_31a rfl ?_
    refine wl_off rfl rfl rfl rfl rfl hg11_31a rfl ?_
    refine wl_det rfl rfl (det_and_off (q := (decide (r9_3.1 = r10_3.1.Ceded))) rfl rfl rfl hg11_31a) rfl ?_
    exact wl_nil (pn_qnE (ext_cons rfl (ext_skip rfl (ext_skip rfl (ext_skip rfl (ext_skip rfl (ext_skip rfl ext_refl)))))) (fun _ h => h))
  refine wl_det rfl rfl (det_move rfl) rfl ?_
  obtain ⟨q11_34, hq11_34, h⟩ := bind_some h
  have ho11_34 := h
  refine wl_way (((((((decide (r3_3.1 = r4_3.1)) && (decide (r3_3.2 = r4_3.2))) && (decide (r6_3.1 = r7_3.1))) && (decide (r6_3.2 = r7_3.2))) && (decide (r9_3.2 = 0))) && (decide (r10_3.2 = 0))) && (decide (r9_3.1 = r10_3.1.Ceded))) q11_34 2 115 (fun hg => ?_) (fun hg => ?_) ?_
  · have hg11_34 := hg
    have h := ifT hq11_34 hg
    refine wl_on rfl rfl rfl rfl hg11_34 ?_
    obtain ⟨r11_33, hr11_33, h⟩ := bind_some h
    refine wl_act (act_callS (cap := []) (W_treatylaw21_awake r11_33 hr11_33) rfl rfl rfl bd34 rfl trivial) rfl rfl rfl ?_
    rintro _ _ _ ⟨_, _, ⟨rfl, rfl, rfl⟩, rfl, rfl⟩
    dsimp only [List.nil_append, List.cons_append]
    replace h := Option.some.inj h
    subst h
    refine wl_det rfl rfl (det_pick_on rfl hg11_34 rfl rfl) rfl ?_
    exact wl_nil (pn_qnE (ext_cons rfl (ext_skip rfl (ext_skip rfl ext_refl))) (fun _ h => h))
  · have hg11_34a := hg
    have h := ifF hq11_34 hg
    refine wl_off rfl rfl rfl rfl rfl hg11_34a rfl ?_
    replace h := Option.some.inj h
    subst h
    refine wl_det rfl rfl (det_pick_off rfl hg11_34a rfl rfl) rfl ?_
    exact wl_nil (pn_qnE (ext_cons rfl (ext_skip rfl (ext_skip rfl ext_refl))) (fun _ h => h))
  have h := ho11_34
  refine wl_det rfl rfl (det_assign rfl) rfl ?_
  refine wl_nil ?_
  refine pn_then ?_
  refine wc_ret ?_
  replace h := Option.some.inj h
  subst h
  refine pn_ret (vs := [_]) rfl ⟨rfl, trivial⟩ ⟨rfl, rfl, rfl⟩ (fun _ h => h.to trivial trivial)
end Go.Proofs.Ytlmhmpngjfjfhaa
