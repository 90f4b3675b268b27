/- That functions of the program compute the plain programs of P. Written by a small program. -/
import Derived.Test.YtlmhmpngjfjfhaaWContractParts1
namespace Go.Proofs.Ytlmhmpngjfjfhaa
open Go.RowKit
def Q_treatylaw20_ContractParts (r : Bool) : Value → List Ent → List Fact → Prop := fun v θ κ => v = .bool r ∧ θ = [] ∧ κ = []
theorem plains_treatylaw20_ContractParts {r : Bool} : ∀ v θ κ, Q_treatylaw20_ContractParts r v θ κ → Plains θ := by
  rintro _ _ _ ⟨rfl, rfl, rfl⟩
  exact trivial
set_option maxRecDepth 100000 in
theorem W_treatylaw20_ContractParts (a0 : (List GPart)) (a1 : (List Int)) (a2 : GPart) (a3 : Int) (A0 : Option Addr) (n0 : Nat) (c0 : Nat) (A3 : Option Addr) (n3 : Nat) (c3 : Nat) (r : Bool) (h : treatylaw20_ContractParts a0 a1 a2 a3 = some r) : Spec Try.prog 3 [.slice A0 n0 c0, .slice A3 n3 c3, .agg #[.int .i64 a2.Party, .int .i64 a2.Share], .int .i64 a3] [] [fV (lSlice lGPart) (.slice A0 n0 c0) a0, fV (lSlice (lInt .i64)) (.slice A3 n3 c3) a1] (Q_treatylaw20_ContractParts r) := by
  unfold treatylaw20_ContractParts at h
  refine spec_of (σ := [(0, _), (1, _), (2, _), (3, _)]) Try.func3 rfl rfl rfl rfl ?_
  intro C
  refine wc_know (fun _ h => h.lenF m0) (fun e => ?_)
  subst e
  refine wc_know (fun _ h => h.lenF (ms m0)) (fun e => ?_)
  subst e
  refine wc_seq ?_
  refine wc_region ?_   -- region 0
  refine wl_act (act_box (cs := [_, _]) rfl rfl) rfl rfl rfl ?_
  rintro _ _ _ ⟨b0_0, rfl, rfl, rfl⟩
  refine wl_det rfl rfl (det_assign rfl) rfl ?_
  refine wl_nil ?_
  refine pn_then ?_
  refine wc_seq ?_
  refine wc_seq ?_
  refine wc_region ?_   -- region 1
  refine wl_det rfl rfl (det_move rfl) rfl ?_
  refine wl_det rfl rfl (det_len rfl un22) rfl ?_
  refine wl_det rfl rfl (det_gtr rfl rfl) rfl ?_
  refine wl_nil ?_
  refine pn_then ?_
  refine wc_cond rfl (fun c5 => ?_) (fun c5 => ?_)
  · have h := ifT h c5
    refine wc_seq ?_
    refine wc_region ?_   -- region 2
    obtain ⟨r2_0, hr2_0, h⟩ := bind_some h
    refine wl_act (act_callS (cap := []) (W_treatylaw20_awake r2_0 hr2_0) rfl rfl rfl bd15 rfl trivial) rfl rfl rfl ?_
    rintro _ _ _ ⟨_, _, ⟨rfl, rfl, rfl⟩, rfl, rfl⟩
    dsimp only [List.nil_append, List.cons_append]
    refine wl_det rfl rfl (det_assign rfl) rfl ?_
    refine wl_nil ?_
    refine pn_then ?_
    refine wc_ret ?_
    refine pr_then ?_
    replace h := Option.some.inj h
    subst h
    refine pn_ret (vs := [_]) rfl ⟨rfl, trivial⟩ ⟨rfl, rfl, rfl⟩ (fun _ h => h.to trivial trivial)
  · have h := ifF h c5
    refine wc_skip ?_
    refine pn_then ?_
    refine wc_seq ?_
    refine wc_region ?_   -- region 3
    refine wl_det rfl rfl (det_move rfl) rfl ?_
    obtain ⟨r3_1, hr3_1, h⟩ := bind_some h
    refine wl_act (act_callS (cap := []) (W_treatymade_New a1 A3 a1.length c3 r3_1 hr3_1) rfl rfl rfl bd16 rfl ⟨(ms m0), trivial⟩) rfl rfl rfl ?_
    rintro _ _ _ ⟨_, _, ⟨y3_1b0, y3_1A1, y3_1n1, y3_1c1, rfl, rfl, rfl⟩, rfl, rfl⟩
    dsimp only [List.nil_append, List.cons_append]
    refine wl_know (fun _ h => h.lenF m0) (fun e => ?_)
    subst e
    obtain ⟨r3_2, hr3_2, h⟩ := bind_some h
    refine wl_act (act_callS (cap := []) (W_treatymade_Deck_Parts r3_1 y3_1b0 y3_1A1 r3_1.L.length y3_1c1 r3_2 hr3_2) rfl rfl rfl bd17 ⟨_, r0, rfl⟩ ⟨m0, trivial⟩) rfl rfl rfl ?_
    rintro _ _ _ ⟨_, _, ⟨y3_2A0, y3_2n0, y3_2c0, y3_2A1, y3_2n1, y3_2c1, rfl, rfl, rfl⟩, rfl, rfl⟩
    dsimp only [List.nil_append, List.cons_append]
    refine wl_know (fun _ h => h.lenO m0) (fun e => ?_)
    subst e
    refine wl_know (fun _ h => h.lenF m0) (fun e => ?_)
    subst e
    refine wl_det rfl rfl (det_assign rfl) rfl ?_
    refine wl_nil ?_
    refine pn_then ?_
    refine wc_seq ?_
    refine wc_region ?_   -- region 4
    refine wl_act (act_lit0S lGPart un22 (by kernel_rfl)) rfl rfl rfl ?_
    rintro _ _ _ ⟨A4_0, rfl, rfl, rfl⟩
    refine wl_det rfl rfl (det_move rfl) rfl ?_
    obtain ⟨k4_2, h⟩ := chk_some h
    refine wl_act (act_appendS0 (L := lGPart) rfl rfl s0 (src_O (ms m0)) un22 in25 rfl rfl rfl k4_2) rfl rfl rfl ?_
    rintro _ _ _ ⟨A4_2, c4_2, rfl, rfl, rfl⟩
    refine wl_det rfl rfl (det_build (cs := [_, _]) pl25 zr25 rfl rfl (by rfl)) rfl ?_
    refine wl_act (act_litS lGPart (vs := [_]) (cs := [_, _]) [(GPart.mk 15 1)] un22 in25 rfl rfl rfl rfl rfl ⟨rfl, trivial⟩ (by rfl) rfl (litR_flat rfl)) rfl rfl rfl ?_
    rintro _ _ _ ⟨A4_4, rfl, rfl, rfl⟩
    obtain ⟨k4_5, h⟩ := chk_some h
    refine wl_act (act_appendS (L := lGPart) rfl rfl (ss s0) (src_O m0) un22 in25 rfl rfl rfl k4_5) rfl rfl rfl ?_
    rintro _ _ _ ⟨A4_5, c4_5, rfl, rfl, rfl⟩
    refine wl_det rfl rfl (det_assign rfl) rfl ?_
    refine wl_nil ?_
    refine pn_then ?_
    obtain ⟨q12, h, ho12⟩ := bind_some h
    refine wc_meetG (G := (Int × Int) × Unit) (fun (s12, _) => s12 = q12) (fun (_, _) => [(0, .slice A0 a0.length c0), (3, .int .i64 a3), (6, .pointer (some ⟨b0_0, 0, none⟩)), (9, .slice y3_2A0 r3_2.1.length y3_2c0), (10, .slice A4_5 (r3_2.1 ++ [(GPart.mk 15 1)]).length c4_5)]) (fun (s12, _) => [eBlk b0_0 25 [.int .i64 s12.1, .int .i64 s12.2], eS lGPart 25 y3_2A0 r3_2.1.length y3_2c0 r3_2.1, eS lGPart 25 A4_5 (r3_2.1 ++ [(GPart.mk 15 1)]).length c4_5 (r3_2.1 ++ [(GPart.mk 15 1)])]) (fun (_, _) => [fV (lSlice lGPart) (.slice A0 a0.length c0) a0]) ?_ ?_
    · refine wc_seq ?_
      refine wc_region ?_   -- region 5
      refine wl_det rfl rfl (det_move rfl) rfl ?_
      refine wl_det rfl rfl (det_remB rfl rfl rfl) rfl ?_
      refine wl_det rfl rfl (det_eql rfl rfl) rfl ?_
      refine wl_nil ?_
      refine pn_then ?_
      refine wc_cond rfl (fun c15 => ?_) (fun c15 => ?_)
      · have h := ifT h c15
        refine dx_region 8 [[], [0], [0, 1], [0, 1, 2], [], [4], [0, 1, 2, 4, 5], [0, 1, 2, 3, 4, 5, 6], [0, 1, 2, 3, 4, 5, 6, 7]] mixed (ord := (.det 0 (.det 1 (.det 4 (.det 5 (.alt 2 (.det 3 (.alt 6 (.det 7 .done) .dead)) .dead)))))) (by kernel_rfl) ?_   -- region 6
        refine hx_det rfl rfl rfl nofun (det_field rfl fd25_0 rfl) rfl ?_
        refine hx_det rfl rfl rfl nofun (det_load rfl (ms (ms (ms (ms m0)))) (by rfl) na3 us3) rfl ?_
        refine hx_det rfl rfl rfl nofun (det_field rfl fd25_1 rfl) rfl ?_
        refine hx_det rfl rfl rfl nofun (det_load rfl (ms (ms (ms (ms m0)))) (by rfl) na3 us3) rfl ?_
        obtain ⟨r6_2, hr6_2, h⟩ := bind_some h
        refine hx_act rfl rfl rfl (act_callS (cap := []) (W_treatymade_Within a2.Party 18 r6_2 hr6_2) rfl rfl rfl bd18 rfl trivial) rfl (by rintro _ _ _ ⟨_, _, _, rfl, rfl⟩; first | exact ⟨_, _, rfl, rfl⟩ | exact ⟨_, [], rfl, rfl⟩) ?_
        rintro _ _ _ ⟨_, _, ⟨rfl, rfl, rfl⟩, rfl, rfl⟩
        dsimp only [List.nil_append, List.cons_append]
        refine hx_det rfl rfl rfl nofun (det_sub rfl rfl) rfl ?_
        obtain ⟨r6_6, hr6_6, h⟩ := bind_some h
        refine hx_act rfl rfl rfl (act_callS (cap := []) (W_treatymade_Within a2.Share 1000003 r6_6 hr6_6) rfl rfl rfl bd18 rfl trivial) rfl (by rintro _ _ _ ⟨_, _, _, rfl, rfl⟩; first | exact ⟨_, _, rfl, rfl⟩ | exact ⟨_, [], rfl, rfl⟩) ?_
        rintro _ _ _ ⟨_, _, ⟨rfl, rfl, rfl⟩, rfl, rfl⟩
        dsimp only [List.nil_append, List.cons_append]
        refine hx_det rfl rfl rfl nofun (det_build (cs := [_, _]) pl25 zr25 rfl rfl (by rfl)) rfl ?_
        refine hx_end ?_
        refine wl_act0 (act_store (cells := [_, _]) (cs' := [_, _]) rfl rfl rfl (ss (ss (ss (ss s0)))) (by rfl) (of_decide_eq_true rfl) sz25 ⟨rfl, rfl, trivial⟩) rfl rfl ?_
        rintro _ _ _ ⟨rfl, rfl⟩
        refine wl_nil ?_
        replace h := Option.some.inj h
        subst h
        exact pn_meetG (((w64 (r6_2 - 1)), r6_6), ()) rfl ⟨rfl, rfl, rfl, rfl, rfl, trivial⟩ (fun _ h => h.to ⟨_, (rs (rs (rs (rs r0)))), ⟨_, (rs (rs r0)), ⟨_, (rs r0), trivial⟩⟩⟩ ⟨(ms (ms m0)), trivial⟩)
      · have h := ifF h c15
        refine wc_skip ?_
        replace h := Option.some.inj h
        subst h
        exact pn_meetG ((a2.Party, a2.Share), ()) rfl ⟨rfl, rfl, rfl, rfl, rfl, trivial⟩ (fun _ h => h.to ⟨_, (rs (rs (rs (rs r0)))), ⟨_, (rs (rs r0)), ⟨_, (rs r0), trivial⟩⟩⟩ ⟨(ms (ms m0)), trivial⟩)
    rintro ⟨s12, _⟩ e12
    dsimp only at e12 ⊢
    subst e12
    have h := ho12
    refine wc_seq ?_
    refine dx_region 8 [[], [], [1], [], [3], [1, 2, 3, 4], [], [0, 1, 2, 3, 4, 5, 6], [0, 1, 2, 3, 4, 5, 6, 7]] mixed (ord := (.det 0 (.det 1 (.det 2 (.det 3 (.det 4 (.det 6 (.alt 5 (.det 7 .done) .dead)))))))) (by kernel_rfl) ?_   -- region 7
    refine hx_det rfl rfl rfl nofun (det_move rfl) rfl ?_
    refine hx_det rfl rfl rfl nofun (det_move rfl) rfl ?_
    refine hx_det rfl rfl rfl nofun (det_quoB rfl rfl rfl) rfl ?_
    refine hx_det rfl rfl rfl nofun (det_move rfl) rfl ?_
    refine hx_det rfl rfl rfl nofun (det_len rfl un22) rfl ?_
    refine hx_det rfl rfl rfl nofun (det_loadN (cells := [_, _]) rfl m0 (by rfl) ag25 sz25) rfl ?_
    obtain ⟨r7_5, hr7_5, h⟩ := bind_some h
    refine hx_act rfl rfl rfl (act_callS (cap := []) (W_treatymade_Within (w64 (a3.tdiv 2)) ((r3_2.1 ++ [(GPart.mk 15 1)]).length : Int) r7_5 hr7_5) rfl rfl rfl bd18 rfl trivial) rfl (by rintro _ _ _ ⟨_, _, _, rfl, rfl⟩; first | exact ⟨_, _, rfl, rfl⟩ | exact ⟨_, [], rfl, rfl⟩) ?_
    rintro _ _ _ ⟨_, _, ⟨rfl, rfl, rfl⟩, rfl, rfl⟩
    dsimp only [List.nil_append, List.cons_append]
    obtain ⟨k7_7, h⟩ := chk_some h
    refine hx_det rfl rfl rfl nofun (det_indexO rfl rfl (ms (ms m0)) k7_7 un22 sz25) rfl ?_
    refine hx_end ?_
    refine wl_act0 (act_storeO (cells := [_, _]) (off := 0) (GPart.mk s12.1 s12.2) rfl rfl rfl (ss (ss s0)) k7_7 (by rfl) sz25 (by intro u hu; simp at hu; rcases hu with rfl | rfl <;> rfl) (stR_flat rfl rfl)) rfl rfl ?_
    rintro _ _ _ ⟨rfl, rfl⟩
    refine wl_nil ?_
    refine pn_then ?_
    refine wc_seq ?_
    refine wc_region ?_   -- region 8
    refine wl_det rfl rfl (det_move rfl) rfl ?_
    obtain ⟨r8_1, hr8_1, h⟩ := bind_some h
    refine wl_act (act_callL (cap := []) [eS lGPart 25 y3_2A0 r3_2.1.length y3_2c0 r3_2.1] (W_contract_Parts r3_2.1 y3_2A0 r3_2.1.length y3_2c0 r8_1 hr8_1) plains_contract_Parts rfl rfl rfl bd19 rfl ⟨(ms m0), trivial⟩ ⟨.inr ⟨_, m0, lent_eS⟩, trivial⟩) rfl rfl rfl ?_
    rintro _ _ _ ⟨_, _, ⟨rfl, rfl, rfl⟩, rfl, rfl⟩
    dsimp only [List.nil_append, List.cons_append]
    refine wl_det rfl rfl (det_eql rfl rfl) rfl ?_
    refine wl_det rfl rfl (det_move rfl) rfl ?_
    obtain ⟨q8_9, hq8_9, h⟩ := bind_some h
    have ho8_9 := h
    refine wl_way (decide (r8_1 = 0)) q8_9 6 52 (fun hg => ?_) (fun hg => ?_) ?_
    · have hg8_9 := hg
      have h := ifT hq8_9 hg
      refine wl_on rfl rfl rfl rfl hg8_9 ?_
      refine wl_det rfl rfl (det_move rfl) rfl ?_
      refine wl_on rfl rfl rfl rfl hg8_9 ?_
      obtain ⟨r8_5, hr8_5, h⟩ := bind_some h
      refine wl_act (act_callS (cap := []) (W_contract_Parts a0 A0 a0.length c0 r8_5 hr8_5) rfl rfl rfl bd19 rfl ⟨m0, trivial⟩) rfl rfl rfl ?_
      rintro _ _ _ ⟨_, _, ⟨rfl, rfl, rfl⟩, rfl, rfl⟩
      dsimp only [List.nil_append, List.cons_append]
      refine wl_on rfl rfl rfl rfl hg8_9 ?_
      refine wl_det rfl rfl (det_move rfl) rfl ?_
      refine wl_on rfl rfl rfl rfl hg8_9 ?_
      obtain ⟨r8_7, hr8_7, h⟩ := bind_some h
      refine wl_act (act_callS (cap := []) (W_treatyref20_Parts a0 A0 a0.length c0 r8_7 hr8_7) rfl rfl rfl bd20 rfl ⟨m0, trivial⟩) rfl rfl rfl ?_
      rintro _ _ _ ⟨_, _, ⟨rfl, rfl, rfl⟩, rfl, rfl⟩
      dsimp only [List.nil_append, List.cons_append]
      refine wl_on rfl rfl rfl rfl hg8_9 ?_
      refine wl_det rfl rfl (det_eql rfl rfl) rfl ?_
      replace h := Option.some.inj h
      subst h
      refine wl_det rfl rfl (det_pick_on rfl hg8_9 rfl rfl) rfl ?_
      exact wl_nil (pn_qnE (ext_cons rfl (ext_skip rfl (ext_skip rfl (ext_skip rfl (ext_skip rfl (ext_skip rfl (ext_skip rfl ext_refl))))))) (fun _ h => h))
    · have hg8_9a := hg
      have h := ifF hq8_9 hg
      refine wl_off rfl rfl rfl rfl rfl hg8_9a rfl ?_
      refine wl_off rfl rfl rfl rfl rfl hg8_9a rfl ?_
      refine wl_off rfl rfl rfl rfl rfl hg8_9a rfl ?_
      refine wl_off rfl rfl rfl rfl rfl hg8_9a rfl ?_
      refine wl_off rfl rfl rfl rfl rfl hg8_9a rfl ?_
      replace h := Option.some.inj h
      subst h
      refine wl_det rfl rfl (det_pick_off rfl hg8_9a rfl rfl) rfl ?_
      exact wl_nil (pn_qnE (ext_cons rfl (ext_skip rfl (ext_skip rfl (ext_skip rfl (ext_skip rfl (ext_skip rfl (ext_skip rfl ext_refl))))))) (fun _ h => h))
    have h := ho8_9
    refine wl_det rfl rfl (det_move rfl) rfl ?_
    obtain ⟨q8_16, hq8_16, h⟩ := bind_some h
    have ho8_16 := h
    refine wl_way q8_9 q8_16 6 59 (fun hg => ?_) (fun hg => ?_) ?_
    · have hg8_16 := hg
      have h := ifT hq8_16 hg
      refine wl_on rfl rfl rfl rfl hg8_16 ?_
      refine wl_det rfl rfl (det_move rfl) rfl ?_
      refine wl_on rfl rfl rfl rfl hg8_16 ?_
      obtain ⟨r8_12, hr8_12, h⟩ := bind_some h
      refine wl_act (act_callL (cap := []) [eS lGPart 25 A4_5 (r3_2.1 ++ [(GPart.mk 15 1)]).length c4_5 (upd (r3_2.1 ++ [(GPart.mk 15 1)]) r7_5 (GPart.mk s12.1 s12.2))] (W_contract_Parts (upd (r3_2.1 ++ [(GPart.mk 15 1)]) r7_5 (GPart.mk s12.1 s12.2)) A4_5 (r3_2.1 ++ [(GPart.mk 15 1)]).length c4_5 r8_12 hr8_12) plains_contract_Parts rfl rfl rfl bd19 rfl ⟨(ms (ms m0)), trivial⟩ ⟨.inr ⟨_, m0, lent_eS⟩, trivial⟩) rfl rfl rfl ?_
      rintro _ _ _ ⟨_, _, ⟨rfl, rfl, rfl⟩, rfl, rfl⟩
      dsimp only [List.nil_append, List.cons_append]
      refine wl_on rfl rfl rfl rfl hg8_16 ?_
      refine wl_det rfl rfl (det_move rfl) rfl ?_
      refine wl_on rfl rfl rfl rfl hg8_16 ?_
      obtain ⟨r8_14, hr8_14, h⟩ := bind_some h
      refine wl_act (act_callL (cap := []) [eS lGPart 25 A4_5 (r3_2.1 ++ [(GPart.mk 15 1)]).length c4_5 (upd (r3_2.1 ++ [(GPart.mk 15 1)]) r7_5 (GPart.mk s12.1 s12.2))] (W_treatyref20_Parts (upd (r3_2.1 ++ [(GPart.mk 15 1)]) r7_5 (GPart.mk s12.1 s12.2)) A4_5 (r3_2.1 ++ [(GPart.mk 15 1)]).length c4_5 r8_14 hr8_14) plains_treatyref20_Parts rfl rfl rfl bd20 rfl ⟨(ms (ms m0)), trivial⟩ ⟨.inr ⟨_, m0, lent_eS⟩, trivial⟩) rfl rfl rfl ?_
      rintro _ _ _ ⟨_, _, ⟨rfl, rfl, rfl⟩, rfl, rfl⟩
      dsimp only [List.nil_append, List.cons_append]
      refine wl_on rfl rfl rfl rfl hg8_16 ?_
      refine wl_det rfl rfl (det_eql rfl rfl) rfl ?_
      replace h := Option.some.inj h
      subst h
      refine wl_det rfl rfl (det_pick_on rfl hg8_16 rfl rfl) rfl ?_
      exact wl_nil (pn_qnE (ext_cons rfl (ext_skip rfl (ext_skip rfl (ext_skip rfl (ext_skip rfl (ext_skip rfl (ext_skip rfl ext_refl))))))) (fun _ h => h))
    · have hg8_16a := hg
      have h := ifF hq8_16 hg
      refine wl_off rfl rfl rfl rfl rfl hg8_16a rfl ?_
      refine wl_off rfl rfl rfl rfl rfl hg8_16a rfl ?_
      refine wl_off rfl rfl rfl rfl rfl hg8_16a rfl ?_
      refine wl_off rfl rfl rfl rfl rfl hg8_16a rfl ?_
      refine wl_off rfl rfl rfl rfl rfl hg8_16a rfl ?_
      replace h := Option.some.inj h
      subst h
      refine wl_det rfl rfl (det_pick_off rfl hg8_16a rfl rfl) rfl ?_
      exact wl_nil (pn_qnE (ext_cons rfl (ext_skip rfl (ext_skip rfl (ext_skip rfl (ext_skip rfl (ext_skip rfl (ext_skip rfl ext_refl))))))) (fun _ h => h))
    have h := ho8_16
    refine wl_det rfl rfl (det_move rfl) rfl ?_
    obtain ⟨q8_19, hq8_19, h⟩ := bind_some h
    have ho8_19 := h
    refine wl_way q8_16 q8_19 2 62 (fun hg => ?_) (fun hg => ?_) ?_
    · have hg8_19 := hg
      have h := ifT hq8_19 hg
      refine wl_on rfl rfl rfl rfl hg8_19 ?_
      obtain ⟨r8_18, hr8_18, h⟩ := bind_some h
      refine wl_act (act_callS (cap := []) (W_treatylaw20_awake r8_18 hr8_18) rfl rfl rfl bd15 rfl trivial) rfl rfl rfl ?_
      rintro _ _ _ ⟨_, _, ⟨rfl, rfl, rfl⟩, rfl, rfl⟩
      dsimp only [List.nil_append, List.cons_append]
      replace h := Option.some.inj h
      subst h
      refine wl_det rfl rfl (det_pick_on rfl hg8_19 rfl rfl) rfl ?_
      exact wl_nil (pn_qnE (ext_cons rfl (ext_skip rfl (ext_skip rfl ext_refl))) (fun _ h => h))
    · have hg8_19a := hg
      have h := ifF hq8_19 hg
      refine wl_off rfl rfl rfl rfl rfl hg8_19a rfl ?_
      replace h := Option.some.inj h
      subst h
      refine wl_det rfl rfl (det_pick_off rfl hg8_19a rfl rfl) rfl ?_
      exact wl_nil (pn_qnE (ext_cons rfl (ext_skip rfl (ext_skip rfl ext_refl))) (fun _ h => h))
    have h := ho8_19
    refine wl_det rfl rfl (det_assign rfl) rfl ?_
    refine wl_nil ?_
    refine pn_then ?_
    refine wc_ret ?_
    replace h := Option.some.inj h
    subst h
    refine pn_ret (vs := [_]) rfl ⟨rfl, trivial⟩ ⟨rfl, rfl, rfl⟩ (fun _ h => h.to trivial trivial)
end Go.Proofs.Ytlmhmpngjfjfhaa
