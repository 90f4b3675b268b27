/- That functions of the program compute the plain programs of P. Written by a small program. -/
import Derived.Test.YtoodneljjhbfhaaWInsolvencySetOff1
namespace Go.Proofs.Ytoodneljjhbfhaa
open Go.RowKit
def Q_treatylaw38_InsolvencySetOff (r : Bool) : Value → List Ent → List Fact → Prop := fun v θ κ => v = .bool r ∧ θ = [] ∧ κ = []
theorem plains_treatylaw38_InsolvencySetOff {r : Bool} : ∀ v θ κ, Q_treatylaw38_InsolvencySetOff r v θ κ → Plains θ := by
  rintro _ _ _ ⟨rfl, rfl, rfl⟩
  exact trivial
set_option maxHeartbeats 4000000 in
set_option maxRecDepth 100000 in
theorem W_treatylaw38_InsolvencySetOff (a0 : (List Int)) (a1 : Int) (A0 : Option Addr) (n0 : Nat) (c0 : Nat) (r : Bool) (h : treatylaw38_InsolvencySetOff a0 a1 = some r) : Spec Try.prog 9 [.slice A0 n0 c0, .int .u8 a1] [] [fV (lSlice (lInt .i64)) (.slice A0 n0 c0) a0] (Q_treatylaw38_InsolvencySetOff r) := by
  unfold treatylaw38_InsolvencySetOff at h
  refine spec_of (σ := [(0, _), (1, _)]) Try.func9 rfl rfl rfl rfl ?_
  intro C
  refine wc_know (fun _ h => h.lenF m0) (fun e => ?_)
  subst e
  refine wc_seq ?_
  refine wc_region ?_   -- region 0
  refine wl_det rfl rfl (det_assign rfl) rfl ?_
  refine wl_nil ?_
  refine pn_then ?_
  refine wc_seq ?_
  refine wc_region ?_   -- region 1
  refine wl_det rfl rfl (det_move rfl) rfl ?_
  obtain ⟨r1_1, hr1_1, h⟩ := bind_some h
  refine wl_act (act_callS (cap := []) (W_treatymade2_New a0 A0 a0.length c0 r1_1 hr1_1) rfl rfl rfl bd24 rfl ⟨m0, trivial⟩) rfl rfl rfl ?_
  rintro _ _ _ ⟨_, _, ⟨y1_1b0, y1_1A1, y1_1n1, y1_1c1, rfl, rfl, rfl⟩, rfl, rfl⟩
  dsimp only [List.nil_append, List.cons_append]
  refine wl_know (fun _ h => h.lenF m0) (fun e => ?_)
  subst e
  refine wl_det rfl rfl (det_assign rfl) rfl ?_
  refine wl_nil ?_
  refine pn_then ?_
  refine wc_seq ?_
  refine wc_region ?_   -- region 2
  refine wl_det rfl rfl (det_move rfl) rfl ?_
  obtain ⟨r2_1, hr2_1, h⟩ := bind_some h
  refine wl_act (act_callS (cap := []) (W_treatymade2_Mutuals r1_1 y1_1b0 y1_1A1 r1_1.L.length y1_1c1 r2_1 hr2_1) rfl rfl rfl bd25 ⟨_, r0, rfl⟩ ⟨m0, trivial⟩) rfl rfl rfl ?_
  rintro _ _ _ ⟨_, _, ⟨y2_1A0, y2_1n0, y2_1c0, y2_1A1, y2_1n1, y2_1c1, rfl, rfl, rfl⟩, rfl, rfl⟩
  dsimp only [List.nil_append, List.cons_append]
  refine wl_know (fun _ h => h.lenO m0) (fun e => ?_)
  subst e
  refine wl_know (fun _ h => h.lenF m0) (fun e => ?_)
  subst e
  refine wl_det rfl rfl (det_assign rfl) rfl ?_
  refine wl_nil ?_
  refine pn_then ?_
  refine wc_seq ?_
  refine wc_region ?_   -- region 3
  refine wl_det rfl rfl (det_move rfl) rfl ?_
  obtain ⟨r3_1, hr3_1, h⟩ := bind_some h
  refine wl_act (act_callS (cap := []) (W_treatymade2_Small r2_1.2 y1_1b0 y2_1A1 r2_1.2.L.length y2_1c1 r3_1 hr3_1) rfl rfl rfl bd26 ⟨_, (rs r0), rfl⟩ ⟨m0, trivial⟩) rfl rfl rfl ?_
  rintro _ _ _ ⟨_, _, ⟨y3_1A0, y3_1n0, y3_1c0, rfl, rfl, rfl⟩, rfl, rfl⟩
  dsimp only [List.nil_append, List.cons_append]
  refine wl_know (fun _ h => h.lenF m0) (fun e => ?_)
  subst e
  refine wl_det rfl rfl (det_assign rfl) rfl ?_
  refine wl_nil ?_
  refine pn_then ?_
  refine wc_seq ?_
  refine wc_seq ?_
  refine wc_region ?_   -- region 4
  refine wl_det rfl rfl (det_move rfl) rfl ?_
  refine wl_det rfl rfl (det_len rfl un36) rfl ?_
  refine wl_det rfl rfl (det_eql rfl rfl) rfl ?_
  refine wl_nil ?_
  refine pn_then ?_
  refine wc_cond rfl (fun c11 => ?_) (fun c11 => ?_)
  · have h := ifT h c11
    refine wc_seq ?_
    refine wc_region ?_   -- region 5
    obtain ⟨r5_0, hr5_0, h⟩ := bind_some h
    refine wl_act (act_callS (cap := []) (W_treatylaw38_awake r5_0 hr5_0) rfl rfl rfl bd23 rfl trivial) rfl rfl rfl ?_
    rintro _ _ _ ⟨_, _, ⟨rfl, rfl, rfl⟩, rfl, rfl⟩
    dsimp only [List.nil_append, List.cons_append]
    refine wl_det rfl rfl (det_assign rfl) rfl ?_
    refine wl_nil ?_
    refine pn_then ?_
    refine wc_ret ?_
    refine pr_then ?_
    replace h := Option.some.inj h
    subst h
    refine pn_ret (vs := [_]) rfl ⟨rfl, trivial⟩ ⟨rfl, rfl, rfl⟩ (fun _ h => h.to trivial trivial)
  · have h := ifF h c11
    refine wc_skip ?_
    refine pn_then ?_
    refine wc_seq ?_
    refine wc_region ?_   -- region 6
    refine wl_det rfl rfl (det_move rfl) rfl ?_
    refine wl_det rfl rfl (det_conv rfl us5 un3) rfl ?_
    refine wl_det rfl rfl (det_move rfl) rfl ?_
    refine wl_det rfl rfl (det_len rfl un36) rfl ?_
    obtain ⟨k6_4, h⟩ := chk_some h
    refine wl_det rfl rfl (det_remB rfl rfl k6_4) rfl ?_
    refine wl_det rfl rfl (det_assign rfl) rfl ?_
    refine wl_nil ?_
    refine pn_then ?_
    refine wc_seq ?_
    obtain ⟨k7_p1, h⟩ := chk_some h
    refine dx_region 15 [[], [], [], [], [2, 3], [2, 3, 4], [2, 3, 4, 5], [], [], [7, 8], [7, 8, 9], [7, 8, 9, 10], [2, 3, 4, 5, 6, 7, 8, 9, 10, 11], [0, 1, 2, 3, 4, 5, 6, 7, 8, 9, 10, 11, 12], [0, 1, 2, 3, 4, 5, 6, 7, 8, 9, 10, 11, 12, 13], [0, 1, 2, 3, 4, 5, 6, 7, 8, 9, 10, 11, 12, 13, 14]] mixed (ord := (.det 0 (.det 1 (.det 2 (.det 3 (.det 4 (.det 5 (.det 6 (.det 7 (.det 8 (.det 9 (.det 10 (.det 11 (.det 12 (.det 13 (.det 14 .done)))))))))))))))) (by kernel_rfl) ?_   -- region 7
    refine hx_det rfl rfl rfl nofun (det_move rfl) rfl ?_
    refine hx_det rfl rfl rfl nofun (det_move rfl) rfl ?_
    refine hx_det rfl rfl rfl nofun (det_move rfl) rfl ?_
    refine hx_det rfl rfl rfl nofun (det_move rfl) rfl ?_
    refine hx_det rfl rfl rfl nofun (det_indexO rfl rfl (ms m0) k7_p1 un36 sz48) rfl ?_
    refine hx_det rfl rfl rfl nofun (det_fieldO rfl (ms m0) k7_p1 fd48_2 rfl) rfl ?_
    refine hx_det rfl rfl rfl nofun (det_loadO (off := 2) rfl (ms m0) k7_p1 (by rfl) (by rfl) (loaded_1 na3 us3)) rfl ?_
    refine hx_det rfl rfl rfl nofun (det_move rfl) rfl ?_
    refine hx_det rfl rfl rfl nofun (det_move rfl) rfl ?_
    refine hx_det rfl rfl rfl nofun (det_indexO rfl rfl (ms m0) k7_p1 un36 sz48) rfl ?_
    refine hx_det rfl rfl rfl nofun (det_fieldO rfl (ms m0) k7_p1 fd48_1 rfl) rfl ?_
    refine hx_det rfl rfl rfl nofun (det_loadO (off := 1) rfl (ms m0) k7_p1 (by rfl) (by rfl) (loaded_1 na3 us3)) rfl ?_
    refine hx_det rfl rfl rfl nofun (det_minI rfl rfl) rfl ?_
    refine hx_det rfl rfl rfl nofun (det_indexO rfl rfl (ms m0) k7_p1 un36 sz48) rfl ?_
    refine hx_det rfl rfl rfl nofun (det_fieldO rfl (ms m0) k7_p1 fd48_2 rfl) rfl ?_
    refine hx_end ?_
    refine wl_act0 (act_storeO (cells := [_]) (off := 2) (GMutual.mk (ix r2_1.1 ((w64 a1).tmod (r2_1.1.length : Int))).Party (ix r2_1.1 ((w64 a1).tmod (r2_1.1.length : Int))).Owed (minI (ix r2_1.1 ((w64 a1).tmod (r2_1.1.length : Int))).Owes (ix r2_1.1 ((w64 a1).tmod (r2_1.1.length : Int))).Owed)) rfl rfl rfl (ss s0) k7_p1 (by rfl) sz3 (by intro u hu; simp at hu; rcases hu with rfl <;> rfl) (stR_flat rfl rfl)) rfl rfl ?_
    rintro _ _ _ ⟨rfl, rfl⟩
    refine wl_nil ?_
    refine pn_then ?_
    refine wc_seq ?_
    refine wc_region ?_   -- region 8
    refine wl_det rfl rfl (det_move rfl) rfl ?_
    refine wl_det rfl rfl (det_move rfl) rfl ?_
    obtain ⟨r8_2, hr8_2, h⟩ := bind_some h
    refine wl_act (act_callL (cap := []) [eS lGMutual 48 y2_1A0 r2_1.1.length y2_1c0 (upd r2_1.1 ((w64 a1).tmod (r2_1.1.length : Int)) (GMutual.mk (ix r2_1.1 ((w64 a1).tmod (r2_1.1.length : Int))).Party (ix r2_1.1 ((w64 a1).tmod (r2_1.1.length : Int))).Owed (minI (ix r2_1.1 ((w64 a1).tmod (r2_1.1.length : Int))).Owes (ix r2_1.1 ((w64 a1).tmod (r2_1.1.length : Int))).Owed)))] (W_insolvency_Distribute r3_1.1 (upd r2_1.1 ((w64 a1).tmod (r2_1.1.length : Int)) (GMutual.mk (ix r2_1.1 ((w64 a1).tmod (r2_1.1.length : Int))).Party (ix r2_1.1 ((w64 a1).tmod (r2_1.1.length : Int))).Owed (minI (ix r2_1.1 ((w64 a1).tmod (r2_1.1.length : Int))).Owes (ix r2_1.1 ((w64 a1).tmod (r2_1.1.length : Int))).Owed))) y2_1A0 r2_1.1.length y2_1c0 r8_2 hr8_2) plains_insolvency_Distribute rfl rfl rfl bd27 rfl ⟨(ms m0), trivial⟩ ⟨.inr ⟨_, m0, lent_eS⟩, trivial⟩) rfl rfl rfl ?_
    rintro _ _ _ ⟨_, _, ⟨y8_2A0, y8_2n0, y8_2c0, rfl, rfl, rfl⟩, rfl, rfl⟩
    dsimp only [List.nil_append, List.cons_append]
    refine wl_know (fun _ h => h.lenO m0) (fun e => ?_)
    subst e
    refine wl_det rfl rfl (det_move rfl) rfl ?_
    refine wl_det rfl rfl (det_extract rfl rfl) rfl ?_
    refine wl_det rfl rfl (det_extract rfl rfl) rfl ?_
    refine wl_det rfl rfl (det_extract rfl rfl) rfl ?_
    refine wl_det rfl rfl (det_assign rfl) rfl ?_
    refine wl_det rfl rfl (det_assign rfl) rfl ?_
    refine wl_det rfl rfl (det_assign rfl) rfl ?_
    refine wl_nil ?_
    refine pn_then ?_
    refine wc_seq ?_
    refine wc_region ?_   -- region 9
    refine wl_act (act_lit0S lGMutual un36 (by kernel_rfl)) rfl rfl rfl ?_
    rintro _ _ _ ⟨A9_0, rfl, rfl, rfl⟩
    refine wl_det rfl rfl (det_move rfl) rfl ?_
    obtain ⟨k9_2, h⟩ := chk_some h
    refine wl_act (act_appendS0 (L := lGMutual) rfl rfl s0 (src_O (ms (ms (ms m0)))) un36 in48 rfl rfl rfl k9_2) rfl rfl rfl ?_
    rintro _ _ _ ⟨A9_2, c9_2, rfl, rfl, rfl⟩
    refine wl_det rfl rfl (det_assign rfl) rfl ?_
    refine wl_nil ?_
    refine pn_then ?_
    refine wc_seq ?_
    refine wc_region ?_   -- region 10
    refine wl_det rfl rfl (det_move rfl) rfl ?_
    refine wl_det rfl rfl (det_move rfl) rfl ?_
    obtain ⟨k10_2, h⟩ := chk_some h
    refine wl_det rfl rfl (det_indexO rfl rfl m0 k10_2 un36 sz48) rfl ?_
    refine wl_det rfl rfl (det_fieldO rfl m0 k10_2 fd48_2 rfl) rfl ?_
    refine wl_act0 (act_storeO (cells := [_]) (off := 2) (GMutual.mk (ix (upd r2_1.1 ((w64 a1).tmod (r2_1.1.length : Int)) (GMutual.mk (ix r2_1.1 ((w64 a1).tmod (r2_1.1.length : Int))).Party (ix r2_1.1 ((w64 a1).tmod (r2_1.1.length : Int))).Owed (minI (ix r2_1.1 ((w64 a1).tmod (r2_1.1.length : Int))).Owes (ix r2_1.1 ((w64 a1).tmod (r2_1.1.length : Int))).Owed))) ((w64 a1).tmod (r2_1.1.length : Int))).Party (ix (upd r2_1.1 ((w64 a1).tmod (r2_1.1.length : Int)) (GMutual.mk (ix r2_1.1 ((w64 a1).tmod (r2_1.1.length : Int))).Party (ix r2_1.1 ((w64 a1).tmod (r2_1.1.length : Int))).Owed (minI (ix r2_1.1 ((w64 a1).tmod (r2_1.1.length : Int))).Owes (ix r2_1.1 ((w64 a1).tmod (r2_1.1.length : Int))).Owed))) ((w64 a1).tmod (r2_1.1.length : Int))).Owed 0) rfl rfl rfl s0 k10_2 (by rfl) sz3 (by intro u hu; simp at hu; rcases hu with rfl <;> rfl) (stR_flat rfl rfl)) rfl rfl ?_
    rintro _ _ _ ⟨rfl, rfl⟩
    refine wl_nil ?_
    refine pn_then ?_
    refine wc_seq ?_
    refine wc_region ?_   -- region 11
    refine wl_det rfl rfl (det_move rfl) rfl ?_
    refine wl_det rfl rfl (det_move rfl) rfl ?_
    refine wl_det rfl rfl (det_move rfl) rfl ?_
    refine wl_det rfl rfl (det_indexO rfl rfl (ms (ms (ms m0))) k10_2 un36 sz48) rfl ?_
    refine wl_det rfl rfl (det_fieldO rfl (ms (ms (ms m0))) k10_2 fd48_2 rfl) rfl ?_
    refine wl_det rfl rfl (det_loadO (off := 2) rfl (ms (ms (ms m0))) k10_2 (by rfl) (by rfl) (loaded_1 na3 us3)) rfl ?_
    refine wl_det rfl rfl (det_add rfl rfl) rfl ?_
    refine wl_det rfl rfl (det_move rfl) rfl ?_
    obtain ⟨r11_8, hr11_8, h⟩ := bind_some h
    refine wl_act (act_callL (cap := []) [eS lGMutual 48 A9_2 (upd r2_1.1 ((w64 a1).tmod (r2_1.1.length : Int)) (GMutual.mk (ix r2_1.1 ((w64 a1).tmod (r2_1.1.length : Int))).Party (ix r2_1.1 ((w64 a1).tmod (r2_1.1.length : Int))).Owed (minI (ix r2_1.1 ((w64 a1).tmod (r2_1.1.length : Int))).Owes (ix r2_1.1 ((w64 a1).tmod (r2_1.1.length : Int))).Owed))).length c9_2 (upd (upd r2_1.1 ((w64 a1).tmod (r2_1.1.length : Int)) (GMutual.mk (ix r2_1.1 ((w64 a1).tmod (r2_1.1.length : Int))).Party (ix r2_1.1 ((w64 a1).tmod (r2_1.1.length : Int))).Owed (minI (ix r2_1.1 ((w64 a1).tmod (r2_1.1.length : Int))).Owes (ix r2_1.1 ((w64 a1).tmod (r2_1.1.length : Int))).Owed))) ((w64 a1).tmod (r2_1.1.length : Int)) (GMutual.mk (ix (upd r2_1.1 ((w64 a1).tmod (r2_1.1.length : Int)) (GMutual.mk (ix r2_1.1 ((w64 a1).tmod (r2_1.1.length : Int))).Party (ix r2_1.1 ((w64 a1).tmod (r2_1.1.length : Int))).Owed (minI (ix r2_1.1 ((w64 a1).tmod (r2_1.1.length : Int))).Owes (ix r2_1.1 ((w64 a1).tmod (r2_1.1.length : Int))).Owed))) ((w64 a1).tmod (r2_1.1.length : Int))).Party (ix (upd r2_1.1 ((w64 a1).tmod (r2_1.1.length : Int)) (GMutual.mk (ix r2_1.1 ((w64 a1).tmod (r2_1.1.length : Int))).Party (ix r2_1.1 ((w64 a1).tmod (r2_1.1.length : Int))).Owed (minI (ix r2_1.1 ((w64 a1).tmod (r2_1.1.length : Int))).Owes (ix r2_1.1 ((w64 a1).tmod (r2_1.1.length : Int))).Owed))) ((w64 a1).tmod (r2_1.1.length : Int))).Owed 0))] (W_insolvency_Distribute (w64 (r3_1.1 + (ix (upd r2_1.1 ((w64 a1).tmod (r2_1.1.length : Int)) (GMutual.mk (ix r2_1.1 ((w64 a1).tmod (r2_1.1.length : Int))).Party (ix r2_1.1 ((w64 a1).tmod (r2_1.1.length : Int))).Owed (minI (ix r2_1.1 ((w64 a1).tmod (r2_1.1.length : Int))).Owes (ix r2_1.1 ((w64 a1).tmod (r2_1.1.length : Int))).Owed))) ((w64 a1).tmod (r2_1.1.length : Int))).Owes)) (upd (upd r2_1.1 ((w64 a1).tmod (r2_1.1.length : Int)) (GMutual.mk (ix r2_1.1 ((w64 a1).tmod (r2_1.1.length : Int))).Party (ix r2_1.1 ((w64 a1).tmod (r2_1.1.length : Int))).Owed (minI (ix r2_1.1 ((w64 a1).tmod (r2_1.1.length : Int))).Owes (ix r2_1.1 ((w64 a1).tmod (r2_1.1.length : Int))).Owed))) ((w64 a1).tmod (r2_1.1.length : Int)) (GMutual.mk (ix (upd r2_1.1 ((w64 a1).tmod (r2_1.1.length : Int)) (GMutual.mk (ix r2_1.1 ((w64 a1).tmod (r2_1.1.length : Int))).Party (ix r2_1.1 ((w64 a1).tmod (r2_1.1.length : Int))).Owed (minI (ix r2_1.1 ((w64 a1).tmod (r2_1.1.length : Int))).Owes (ix r2_1.1 ((w64 a1).tmod (r2_1.1.length : Int))).Owed))) ((w64 a1).tmod (r2_1.1.length : Int))).Party (ix (upd r2_1.1 ((w64 a1).tmod (r2_1.1.length : Int)) (GMutual.mk (ix r2_1.1 ((w64 a1).tmod (r2_1.1.length : Int))).Party (ix r2_1.1 ((w64 a1).tmod (r2_1.1.length : Int))).Owed (minI (ix r2_1.1 ((w64 a1).tmod (r2_1.1.length : Int))).Owes (ix r2_1.1 ((w64 a1).tmod (r2_1.1.length : Int))).Owed))) ((w64 a1).tmod (r2_1.1.length : Int))).Owed 0)) A9_2 (upd r2_1.1 ((w64 a1).tmod (r2_1.1.length : Int)) (GMutual.mk (ix r2_1.1 ((w64 a1).tmod (r2_1.1.length : Int))).Party (ix r2_1.1 ((w64 a1).tmod (r2_1.1.length : Int))).Owed (minI (ix r2_1.1 ((w64 a1).tmod (r2_1.1.length : Int))).Owes (ix r2_1.1 ((w64 a1).tmod (r2_1.1.length : Int))).Owed))).length c9_2 r11_8 hr11_8) plains_insolvency_Distribute rfl rfl rfl bd27 rfl ⟨m0, trivial⟩ ⟨.inr ⟨_, m0, lent_eS⟩, trivial⟩) rfl rfl rfl ?_
    rintro _ _ _ ⟨_, _, ⟨y11_8A0, y11_8n0, y11_8c0, rfl, rfl, rfl⟩, rfl, rfl⟩
    dsimp only [List.nil_append, List.cons_append]
    refine wl_know (fun _ h => h.lenO m0) (fun e => ?_)
    subst e
    refine wl_det rfl rfl (det_move rfl) rfl ?_
    refine wl_det rfl rfl (det_extract rfl rfl) rfl ?_
    refine wl_det rfl rfl (det_extract rfl rfl) rfl ?_
    refine wl_det rfl rfl (det_extract rfl rfl) rfl ?_
    refine wl_det rfl rfl (det_assign rfl) rfl ?_
    refine wl_det rfl rfl (det_assign rfl) rfl ?_
    refine wl_det rfl rfl (det_assign rfl) rfl ?_
    refine wl_nil ?_
    refine pn_then ?_
    obtain ⟨q26, h, ho26⟩ := bind_some h
    refine wc_meetG (G := Bool × Unit) (fun (s26, _) => s26 = q26) (fun (s26, _) => [(4, .bool s26)]) (fun (_, _) => []) (fun (_, _) => []) ?_ ?_
    · rcases Bool.eq_false_or_eq_true (decide (r8_2.2.2 = 0)) with hg12_g75 | hg12_g75
      · have h := ifT h hg12_g75
        rcases Bool.eq_false_or_eq_true (decide (r11_8.2.2 = 0)) with hg12_g79 | hg12_g79
        · have h := ifT h hg12_g79
          rcases Bool.eq_false_or_eq_true (decide ((r8_2.1.length : Int) = (r2_1.1.length : Int))) with hg12_g86 | hg12_g86
          · have h := ifT h hg12_g86
            rcases Bool.eq_false_or_eq_true (decide ((r11_8.1.length : Int) = (r2_1.1.length : Int))) with hg12_g93 | hg12_g93
            · have h := ifT h hg12_g93
              rcases Bool.eq_false_or_eq_true (decide ((w64 ((ix r11_8.1 ((w64 a1).tmod (r2_1.1.length : Int))).Gets - 1)) ≤ (w64 ((ix r8_2.1 ((w64 a1).tmod (r2_1.1.length : Int))).SetOff + (ix r8_2.1 ((w64 a1).tmod (r2_1.1.length : Int))).Gets)))) with hg12_g113 | hg12_g113
              · have h := ifT h hg12_g113
                obtain ⟨k12_p1, h⟩ := chk_some h
                obtain ⟨k12_p2, h⟩ := chk_some h
                refine dx_region 43 [[], [0], [0, 1], [0, 1, 2], [0, 1, 2, 3], [0, 1, 2, 3, 4], [0, 1, 2, 3, 4, 5], [0, 1, 2, 3, 4, 5, 6], [0, 1, 2, 3, 4, 5, 6, 7], [0, 1, 2, 3, 4, 5, 6], [0, 1, 2, 3, 4, 5, 6, 9], [0, 1, 2, 3, 4, 5, 6, 7, 8, 9, 10], [0, 1, 2, 3, 4, 5, 6, 7, 8, 9, 10, 11], [0, 1, 2, 3, 4, 5, 6, 7, 8, 9, 10, 11, 12], [0, 1, 2, 3, 4, 5, 6, 7, 8, 9, 10, 11, 12, 13], [0, 1, 2, 3, 4, 5, 6, 7, 8, 9, 10, 11, 12, 13, 14], [0, 1, 2, 3, 4, 5, 6, 7, 8, 9, 10, 11, 12, 13], [0, 1, 2, 3, 4, 5, 6, 7, 8, 9, 10, 11, 12, 13, 16], [0, 1, 2, 3, 4, 5, 6, 7, 8, 9, 10, 11, 12, 13, 14, 15, 16, 17], [0, 1, 2, 3, 4, 5, 6, 7, 8, 9, 10, 11, 12, 13, 14, 15, 16, 17, 18], [0, 1, 2, 3, 4, 5, 6, 7, 8, 9, 10, 11, 12, 13, 14, 15, 16, 17, 18, 19], [0, 1, 2, 3, 4, 5, 6, 7, 8, 9, 10, 11, 12, 13, 14, 15, 16, 17, 18, 19, 20], [0, 1, 2, 3, 4, 5, 6, 7, 8, 9, 10, 11, 12, 13, 14, 15, 16, 17, 18, 19, 20], [0, 1, 2, 3, 4, 5, 6, 7, 8, 9, 10, 11, 12, 13, 14, 15, 16, 17, 18, 19, 20, 21, 22], [0, 1, 2, 3, 4, 5, 6, 7, 8, 9, 10, 11, 12, 13, 14, 15, 16, 17, 18, 19, 20, 21, 22, 23], [0, 1, 2, 3, 4, 5, 6, 7, 8, 9, 10, 11, 12, 13, 14, 15, 16, 17, 18, 19, 20, 21, 22, 23, 24], [0, 1, 2, 3, 4, 5, 6, 7, 8, 9, 10, 11, 12, 13, 14, 15, 16, 17, 18, 19, 20], [0, 1, 2, 3, 4, 5, 6, 7, 8, 9, 10, 11, 12, 13, 14, 15, 16, 17, 18, 19, 20], [0, 1, 2, 3, 4, 5, 6, 7, 8, 9, 10, 11, 12, 13, 14, 15, 16, 17, 18, 19, 20, 26, 27], [0, 1, 2, 3, 4, 5, 6, 7, 8, 9, 10, 11, 12, 13, 14, 15, 16, 17, 18, 19, 20, 26, 27, 28], [0, 1, 2, 3, 4, 5, 6, 7, 8, 9, 10, 11, 12, 13, 14, 15, 16, 17, 18, 19, 20, 26, 27, 28, 29], [0, 1, 2, 3, 4, 5, 6, 7, 8, 9, 10, 11, 12, 13, 14, 15, 16, 17, 18, 19, 20, 21, 22, 23, 24, 25, 26, 27, 28, 29, 30], [0, 1, 2, 3, 4, 5, 6, 7, 8, 9, 10, 11, 12, 13, 14, 15, 16, 17, 18, 19, 20], [0, 1, 2, 3, 4, 5, 6, 7, 8, 9, 10, 11, 12, 13, 14, 15, 16, 17, 18, 19, 20], [0, 1, 2, 3, 4, 5, 6, 7, 8, 9, 10, 11, 12, 13, 14, 15, 16, 17, 18, 19, 20, 32, 33], [0, 1, 2, 3, 4, 5, 6, 7, 8, 9, 10, 11, 12, 13, 14, 15, 16, 17, 18, 19, 20, 32, 33, 34], [0, 1, 2, 3, 4, 5, 6, 7, 8, 9, 10, 11, 12, 13, 14, 15, 16, 17, 18, 19, 20, 32, 33, 34, 35], [0, 1, 2, 3, 4, 5, 6, 7, 8, 9, 10, 11, 12, 13, 14, 15, 16, 17, 18, 19, 20, 32, 33, 34, 35, 36], [0, 1, 2, 3, 4, 5, 6, 7, 8, 9, 10, 11, 12, 13, 14, 15, 16, 17, 18, 19, 20, 21, 22, 23, 24, 25, 26, 27, 28, 29, 30, 31, 32, 33, 34, 35, 36, 37], [0, 1, 2, 3, 4, 5, 6, 7, 8, 9, 10, 11, 12, 13, 14, 15, 16, 17, 18, 19, 20, 21, 22, 23, 24, 25, 26, 27, 28, 29, 30, 31, 32, 33, 34, 35, 36, 37, 38], [0, 1, 2, 3, 4, 5, 6, 7, 8, 9, 10, 11, 12, 13, 14, 15, 16, 17, 18, 19, 20, 21, 22, 23, 24, 25, 26, 27, 28, 29, 30, 31, 32, 33, 34, 35, 36, 37, 38, 39], [0, 1, 2, 3, 4, 5, 6, 7, 8, 9, 10, 11, 12, 13, 14, 15, 16, 17, 18, 19, 20, 21, 22, 23, 24, 25, 26, 27, 28, 29, 30, 31, 32, 33, 34, 35, 36, 37, 38, 39, 40], [0, 1, 2, 3, 4, 5, 6, 7, 8, 9, 10, 11, 12, 13, 14, 15, 16, 17, 18, 19, 20, 21, 22, 23, 24, 25, 26, 27, 28, 29, 30, 31, 32, 33, 34, 35, 36, 37, 38, 39, 40, 41], [0, 1, 2, 3, 4, 5, 6, 7, 8, 9, 10, 11, 12, 13, 14, 15, 16, 17, 18, 19, 20, 21, 22, 23, 24, 25, 26, 27, 28, 29, 30, 31, 32, 33, 34, 35, 36, 37, 38, 39, 40, 41, 42]] mixed (ord := (.det 0 (.det 1 (.det 2 (.det 3 (.det 4 (.det 5 (.det 6 (.det 7 (.det 8 (.det 9 (.det 10 (.det 11 (.det 12 (.det 13 (.det 14 (.det 15 (.det 16 (.det 17 (.det 18 (.det 19 (.det 20 (.det 21 (.det 22 (.det 23 (.det 24 (.det 25 (.det 26 (.det 27 (.det 28 (.det 29 (.det 30 (.det 31 (.det 32 (.det 33 (.det 34 (.det 35 (.det 36 (.det 37 (.det 38 (.det 39 (.det 40 (.alt 41 (.det 42 .done) .dead))))))))))))))))))))))))))))))))))))))))))) (by kernel_rfl) ?_   -- region 12
                refine hx_det rfl rfl rfl nofun (det_move rfl) rfl ?_
                refine hx_det rfl rfl rfl nofun (det_eql rfl rfl) rfl ?_
                refine hx_det rfl rfl rfl nofun (det_move rfl) rfl ?_
                refine hx_on rfl rfl rfl rfl rfl hg12_g75 nofun (det_move rfl) rfl ?_
                refine hx_on rfl rfl rfl rfl rfl hg12_g75 nofun (det_eql rfl rfl) rfl ?_
                refine hx_det rfl rfl rfl nofun (det_pick_on rfl hg12_g75 rfl rfl) rfl ?_
                refine hx_det rfl rfl rfl nofun (det_move rfl) rfl ?_
                refine hx_on rfl rfl rfl rfl rfl hg12_g79 nofun (det_move rfl) rfl ?_
                refine hx_on rfl rfl rfl rfl rfl hg12_g79 nofun (det_len rfl un39) rfl ?_
                refine hx_on rfl rfl rfl rfl rfl hg12_g79 nofun (det_move rfl) rfl ?_
                refine hx_on rfl rfl rfl rfl rfl hg12_g79 nofun (det_len rfl un36) rfl ?_
                refine hx_on rfl rfl rfl rfl rfl hg12_g79 nofun (det_eql rfl rfl) rfl ?_
                refine hx_det rfl rfl rfl nofun (det_pick_on rfl hg12_g79 rfl rfl) rfl ?_
                refine hx_det rfl rfl rfl nofun (det_move rfl) rfl ?_
                refine hx_on rfl rfl rfl rfl rfl hg12_g86 nofun (det_move rfl) rfl ?_
                refine hx_on rfl rfl rfl rfl rfl hg12_g86 nofun (det_len rfl un39) rfl ?_
                refine hx_on rfl rfl rfl rfl rfl hg12_g86 nofun (det_move rfl) rfl ?_
                refine hx_on rfl rfl rfl rfl rfl hg12_g86 nofun (det_len rfl un36) rfl ?_
                refine hx_on rfl rfl rfl rfl rfl hg12_g86 nofun (det_eql rfl rfl) rfl ?_
                refine hx_det rfl rfl rfl nofun (det_pick_on rfl hg12_g86 rfl rfl) rfl ?_
                refine hx_det rfl rfl rfl nofun (det_move rfl) rfl ?_
                refine hx_on rfl rfl rfl rfl rfl hg12_g93 nofun (det_move rfl) rfl ?_
                refine hx_on rfl rfl rfl rfl rfl hg12_g93 nofun (det_move rfl) rfl ?_
                refine hx_on rfl rfl rfl rfl rfl hg12_g93 nofun (det_indexO rfl rfl (ms (ms m0)) k12_p1 un39 sz46) rfl ?_
                refine hx_on rfl rfl rfl rfl rfl hg12_g93 nofun (det_fieldO rfl (ms (ms m0)) k12_p1 fd46_1 rfl) rfl ?_
                refine hx_on rfl rfl rfl rfl rfl hg12_g93 nofun (det_loadO (off := 1) rfl (ms (ms m0)) k12_p1 (by rfl) (by rfl) (loaded_1 na3 us3)) rfl ?_
                refine hx_on rfl rfl rfl rfl rfl hg12_g93 nofun (det_move rfl) rfl ?_
                refine hx_on rfl rfl rfl rfl rfl hg12_g93 nofun (det_move rfl) rfl ?_
                refine hx_on rfl rfl rfl rfl rfl hg12_g93 nofun (det_indexO rfl rfl (ms (ms m0)) k12_p1 un39 sz46) rfl ?_
                refine hx_on rfl rfl rfl rfl rfl hg12_g93 nofun (det_fieldO rfl (ms (ms m0)) k12_p1 fd46_2 rfl) rfl ?_
                refine hx_on rfl rfl rfl rfl rfl hg12_g93 nofun (det_loadO (off := 2) rfl (ms (ms m0)) k12_p1 (by rfl) (by rfl) (loaded_1 na3 us3)) rfl ?_
                refine hx_on rfl rfl rfl rfl rfl hg12_g93 nofun (det_add rfl rfl) rfl ?_
                refine hx_on rfl rfl rfl rfl rfl hg12_g93 nofun (det_move rfl) rfl ?_
                refine hx_on rfl rfl rfl rfl rfl hg12_g93 nofun (det_move rfl) rfl ?_
                refine hx_on rfl rfl rfl rfl rfl hg12_g93 nofun (det_indexO rfl rfl m0 k12_p2 un39 sz46) rfl ?_
                refine hx_on rfl rfl rfl rfl rfl hg12_g93 nofun (det_fieldO rfl m0 k12_p2 fd46_2 rfl) rfl ?_
                refine hx_on rfl rfl rfl rfl rfl hg12_g93 nofun (det_loadO (off := 2) rfl m0 k12_p2 (by rfl) (by rfl) (loaded_1 na3 us3)) rfl ?_
                refine hx_on rfl rfl rfl rfl rfl hg12_g93 nofun (det_sub rfl rfl) rfl ?_
                refine hx_on rfl rfl rfl rfl rfl hg12_g93 nofun (det_geq rfl rfl) rfl ?_
                refine hx_det rfl rfl rfl nofun (det_pick_on rfl hg12_g93 rfl rfl) rfl ?_
                refine hx_det rfl rfl rfl nofun (det_move rfl) rfl ?_
                obtain ⟨r12_41, hr12_41, h⟩ := bind_some h
                refine hx_actG rfl rfl rfl rfl rfl hg12_g113 (act_callS (cap := []) (W_treatylaw38_awake r12_41 hr12_41) rfl rfl rfl bd23 rfl trivial) rfl (by rintro _ _ _ ⟨_, _, _, rfl, rfl⟩; first | exact ⟨_, _, rfl, rfl⟩ | exact ⟨_, [], rfl, rfl⟩) ?_
                rintro _ _ _ ⟨_, _, ⟨rfl, rfl, rfl⟩, rfl, rfl⟩
                dsimp only [List.nil_append, List.cons_append]
                refine hx_det rfl rfl rfl nofun (det_pick_on rfl hg12_g113 rfl rfl) rfl ?_
                refine hx_end ?_
                refine wl_det rfl rfl (det_assign rfl) rfl ?_
                refine wl_nil ?_
                replace h := Option.some.inj h
                subst h
                exact pn_meetG (r12_41, ()) rfl ⟨rfl, trivial⟩ (fun _ h => h.to trivial trivial)
              · have h := ifF h hg12_g113
                obtain ⟨k12_p3, h⟩ := chk_some h
                obtain ⟨k12_p4, h⟩ := chk_some h
                refine dx_region 43 [[], [0], [0, 1], [0, 1, 2], [0, 1, 2, 3], [0, 1, 2, 3, 4], [0, 1, 2, 3, 4, 5], [0, 1, 2, 3, 4, 5, 6], [0, 1, 2, 3, 4, 5, 6, 7], [0, 1, 2, 3, 4, 5, 6], [0, 1, 2, 3, 4, 5, 6, 9], [0, 1, 2, 3, 4, 5, 6, 7, 8, 9, 10], [0, 1, 2, 3, 4, 5, 6, 7, 8, 9, 10, 11], [0, 1, 2, 3, 4, 5, 6, 7, 8, 9, 10, 11, 12], [0, 1, 2, 3, 4, 5, 6, 7, 8, 9, 10, 11, 12, 13], [0, 1, 2, 3, 4, 5, 6, 7, 8, 9, 10, 11, 12, 13, 14], [0, 1, 2, 3, 4, 5, 6, 7, 8, 9, 10, 11, 12, 13], [0, 1, 2, 3, 4, 5, 6, 7, 8, 9, 10, 11, 12, 13, 16], [0, 1, 2, 3, 4, 5, 6, 7, 8, 9, 10, 11, 12, 13, 14, 15, 16, 17], [0, 1, 2, 3, 4, 5, 6, 7, 8, 9, 10, 11, 12, 13, 14, 15, 16, 17, 18], [0, 1, 2, 3, 4, 5, 6, 7, 8, 9, 10, 11, 12, 13, 14, 15, 16, 17, 18, 19], [0, 1, 2, 3, 4, 5, 6, 7, 8, 9, 10, 11, 12, 13, 14, 15, 16, 17, 18, 19, 20], [0, 1, 2, 3, 4, 5, 6, 7, 8, 9, 10, 11, 12, 13, 14, 15, 16, 17, 18, 19, 20], [0, 1, 2, 3, 4, 5, 6, 7, 8, 9, 10, 11, 12, 13, 14, 15, 16, 17, 18, 19, 20, 21, 22], [0, 1, 2, 3, 4, 5, 6, 7, 8, 9, 10, 11, 12, 13, 14, 15, 16, 17, 18, 19, 20, 21, 22, 23], [0, 1, 2, 3, 4, 5, 6, 7, 8, 9, 10, 11, 12, 13, 14, 15, 16, 17, 18, 19, 20, 21, 22, 23, 24], [0, 1, 2, 3, 4, 5, 6, 7, 8, 9, 10, 11, 12, 13, 14, 15, 16, 17, 18, 19, 20], [0, 1, 2, 3, 4, 5, 6, 7, 8, 9, 10, 11, 12, 13, 14, 15, 16, 17, 18, 19, 20], [0, 1, 2, 3, 4, 5, 6, 7, 8, 9, 10, 11, 12, 13, 14, 15, 16, 17, 18, 19, 20, 26, 27], [0, 1, 2, 3, 4, 5, 6, 7, 8, 9, 10, 11, 12, 13, 14, 15, 16, 17, 18, 19, 20, 26, 27, 28], [0, 1, 2, 3, 4, 5, 6, 7, 8, 9, 10, 11, 12, 13, 14, 15, 16, 17, 18, 19, 20, 26, 27, 28, 29], [0, 1, 2, 3, 4, 5, 6, 7, 8, 9, 10, 11, 12, 13, 14, 15, 16, 17, 18, 19, 20, 21, 22, 23, 24, 25, 26, 27, 28, 29, 30], [0, 1, 2, 3, 4, 5, 6, 7, 8, 9, 10, 11, 12, 13, 14, 15, 16, 17, 18, 19, 20], [0, 1, 2, 3, 4, 5, 6, 7, 8, 9, 10, 11, 12, 13, 14, 15, 16, 17, 18, 19, 20], [0, 1, 2, 3, 4, 5, 6, 7, 8, 9, 10, 11, 12, 13, 14, 15, 16, 17, 18, 19, 20, 32, 33], [0, 1, 2, 3, 4, 5, 6, 7, 8, 9, 10, 11, 12, 13, 14, 15, 16, 17, 18, 19, 20, 32, 33, 34], [0, 1, 2, 3, 4, 5, 6, 7, 8, 9, 10, 11, 12, 13, 14, 15, 16, 17, 18, 19, 20, 32, 33, 34, 35], [0, 1, 2, 3, 4, 5, 6, 7, 8, 9, 10, 11, 12, 13, 14, 15, 16, 17, 18, 19, 20, 32, 33, 34, 35, 36], [0, 1, 2, 3, 4, 5, 6, 7, 8, 9, 10, 11, 12, 13, 14, 15, 16, 17, 18, 19, 20, 21, 22, 23, 24, 25, 26, 27, 28, 29, 30, 31, 32, 33, 34, 35, 36, 37], [0, 1, 2, 3, 4, 5, 6, 7, 8, 9, 10, 11, 12, 13, 14, 15, 16, 17, 18, 19, 20, 21, 22, 23, 24, 25, 26, 27, 28, 29, 30, 31, 32, 33, 34, 35, 36, 37, 38], [0, 1, 2, 3, 4, 5, 6, 7, 8, 9, 10, 11, 12, 13, 14, 15, 16, 17, 18, 19, 20, 21, 22, 23, 24, 25, 26, 27, 28, 29, 30, 31, 32, 33, 34, 35, 36, 37, 38, 39], [0, 1, 2, 3, 4, 5, 6, 7, 8, 9, 10, 11, 12, 13, 14, 15, 16, 17, 18, 19, 20, 21, 22, 23, 24, 25, 26, 27, 28, 29, 30, 31, 32, 33, 34, 35, 36, 37, 38, 39, 40], [0, 1, 2, 3, 4, 5, 6, 7, 8, 9, 10, 11, 12, 13, 14, 15, 16, 17, 18, 19, 20, 21, 22, 23, 24, 25, 26, 27, 28, 29, 30, 31, 32, 33, 34, 35, 36, 37, 38, 39, 40, 41], [0, 1, 2, 3, 4, 5, 6, 7, 8, 9, 10, 11, 12, 13, 14, 15, 16, 17, 18, 19, 20, 21, 22, 23, 24, 25, 26, 27, 28, 29, 30, 31, 32, 33, 34, 35, 36, 37, 38, 39, 40, 41, 42]] mixed (ord := (.det 0 (.det 1 (.det 2 (.det 3 (.det 4 (.det 5 (.det 6 (.det 7 (.det 8 (.det 9 (.det 10 (.det 11 (.det 12 (.det 13 (.det 14 (.det 15 (.det 16 (.det 17 (.det 18 (.det 19 (.det 20 (.det 21 (.det 22 (.det 23 (.det 24 (.det 25 (.det 26 (.det 27 (.det 28 (.det 29 (.det 30 (.det 31 (.det 32 (.det 33 (.det 34 (.det 35 (.det 36 (.det 37 (.det 38 (.det 39 (.det 40 (.det 41 (.det 42 .done)))))))))))))))))))))))))))))))))))))))))))) (by kernel_rfl) ?_   -- region 12
                refine hx_det rfl rfl rfl nofun (det_move rfl) rfl ?_
                refine hx_det rfl rfl rfl nofun (det_eql rfl rfl) rfl ?_
                refine hx_det rfl rfl rfl nofun (det_move rfl) rfl ?_
                refine hx_on rfl rfl rfl rfl rfl hg12_g75 nofun (det_move rfl) rfl ?_
                refine hx_on rfl rfl rfl rfl rfl hg12_g75 nofun (det_eql rfl rfl) rfl ?_
                refine hx_det rfl rfl rfl nofun (det_pick_on rfl hg12_g75 rfl rfl) rfl ?_
                refine hx_det rfl rfl rfl nofun (det_move rfl) rfl ?_
                refine hx_on rfl rfl rfl rfl rfl hg12_g79 nofun (det_move rfl) rfl ?_
                refine hx_on rfl rfl rfl rfl rfl hg12_g79 nofun (det_len rfl un39) rfl ?_
                refine hx_on rfl rfl rfl rfl rfl hg12_g79 nofun (det_move rfl) rfl ?_
                refine hx_on rfl rfl rfl rfl rfl hg12_g79 nofun (det_len rfl un36) rfl ?_
                refine hx_on rfl rfl rfl rfl rfl hg12_g79 nofun (det_eql rfl rfl) rfl ?_
                refine hx_det rfl rfl rfl nofun (det_pick_on rfl hg12_g79 rfl rfl) rfl ?_
                refine hx_det rfl rfl rfl nofun (det_move rfl) rfl ?_
                refine hx_on rfl rfl rfl rfl rfl hg12_g86 nofun (det_move rfl) rfl ?_
                refine hx_on rfl rfl rfl rfl rfl hg12_g86 nofun (det_len rfl un39) rfl ?_
                refine hx_on rfl rfl rfl rfl rfl hg12_g86 nofun (det_move rfl) rfl ?_
                refine hx_on rfl rfl rfl rfl rfl hg12_g86 nofun (det_len rfl un36) rfl ?_
                refine hx_on rfl rfl rfl rfl rfl hg12_g86 nofun (det_eql rfl rfl) rfl ?_
                refine hx_det rfl rfl rfl nofun (det_pick_on rfl hg12_g86 rfl rfl) rfl ?_
                refine hx_det rfl rfl rfl nofun (det_move rfl) rfl ?_
                refine hx_on rfl rfl rfl rfl rfl hg12_g93 nofun (det_move rfl) rfl ?_
                refine hx_on rfl rfl rfl rfl rfl hg12_g93 nofun (det_move rfl) rfl ?_
                refine hx_on rfl rfl rfl rfl rfl hg12_g93 nofun (det_indexO rfl rfl (ms (ms m0)) k12_p3 un39 sz46) rfl ?_
                refine hx_on rfl rfl rfl rfl rfl hg12_g93 nofun (det_fieldO rfl (ms (ms m0)) k12_p3 fd46_1 rfl) rfl ?_
                refine hx_on rfl rfl rfl rfl rfl hg12_g93 nofun (det_loadO (off := 1) rfl (ms (ms m0)) k12_p3 (by rfl) (by rfl) (loaded_1 na3 us3)) rfl ?_
                refine hx_on rfl rfl rfl rfl rfl hg12_g93 nofun (det_move rfl) rfl ?_
                refine hx_on rfl rfl rfl rfl rfl hg12_g93 nofun (det_move rfl) rfl ?_
                refine hx_on rfl rfl rfl rfl rfl hg12_g93 nofun (det_indexO rfl rfl (ms (ms m0)) k12_p3 un39 sz46) rfl ?_
                refine hx_on rfl rfl rfl rfl rfl hg12_g93 nofun (det_fieldO rfl (ms (ms m0)) k12_p3 fd46_2 rfl) rfl ?_
                refine hx_on rfl rfl rfl rfl rfl hg12_g93 nofun (det_loadO (off := 2) rfl (ms (ms m0)) k12_p3 (by rfl) (by rfl) (loaded_1 na3 us3)) rfl ?_
                refine hx_on rfl rfl rfl rfl rfl hg12_g93 nofun (det_add rfl rfl) rfl ?_
                refine hx_on rfl rfl rfl rfl rfl hg12_g93 nofun (det_move rfl) rfl ?_
                refine hx_on rfl rfl rfl rfl rfl hg12_g93 nofun (det_move rfl) rfl ?_
                refine hx_on rfl rfl rfl rfl rfl hg12_g93 nofun (det_indexO rfl rfl m0 k12_p4 un39 sz46) rfl ?_
                refine hx_on rfl rfl rfl rfl rfl hg12_g93 nofun (det_fieldO rfl m0 k12_p4 fd46_2 rfl) rfl ?_
                refine hx_on rfl rfl rfl rfl rfl hg12_g93 nofun (det_loadO (off := 2) rfl m0 k12_p4 (by rfl) (by rfl) (loaded_1 na3 us3)) rfl ?_
                refine hx_on rfl rfl rfl rfl rfl hg12_g93 nofun (det_sub rfl rfl) rfl ?_
                refine hx_on rfl rfl rfl rfl rfl hg12_g93 nofun (det_geq rfl rfl) rfl ?_
                refine hx_det rfl rfl rfl nofun (det_pick_on rfl hg12_g93 rfl rfl) rfl ?_
                refine hx_det rfl rfl rfl nofun (det_move rfl) rfl ?_
                refine hx_off rfl rfl rfl rfl rfl hg12_g113 rfl ?_
                refine hx_det rfl rfl rfl nofun (det_pick_off rfl hg12_g113 rfl rfl) rfl ?_
                refine hx_end ?_
                refine wl_det rfl rfl (det_assign rfl) rfl ?_
                refine wl_nil ?_
                replace h := Option.some.inj h
                subst h
                exact pn_meetG (false, ()) rfl ⟨rfl, trivial⟩ (fun _ h => h.to trivial trivial)
            · have h := ifF h hg12_g93
              refine dx_region 43 [[], [0], [0, 1], [0, 1, 2], [0, 1, 2, 3], [0, 1, 2, 3, 4], [0, 1, 2, 3, 4, 5], [0, 1, 2, 3, 4, 5, 6], [0, 1, 2, 3, 4, 5, 6, 7], [0, 1, 2, 3, 4, 5, 6], [0, 1, 2, 3, 4, 5, 6, 9], [0, 1, 2, 3, 4, 5, 6, 7, 8, 9, 10], [0, 1, 2, 3, 4, 5, 6, 7, 8, 9, 10, 11], [0, 1, 2, 3, 4, 5, 6, 7, 8, 9, 10, 11, 12], [0, 1, 2, 3, 4, 5, 6, 7, 8, 9, 10, 11, 12, 13], [0, 1, 2, 3, 4, 5, 6, 7, 8, 9, 10, 11, 12, 13, 14], [0, 1, 2, 3, 4, 5, 6, 7, 8, 9, 10, 11, 12, 13], [0, 1, 2, 3, 4, 5, 6, 7, 8, 9, 10, 11, 12, 13, 16], [0, 1, 2, 3, 4, 5, 6, 7, 8, 9, 10, 11, 12, 13, 14, 15, 16, 17], [0, 1, 2, 3, 4, 5, 6, 7, 8, 9, 10, 11, 12, 13, 14, 15, 16, 17, 18], [0, 1, 2, 3, 4, 5, 6, 7, 8, 9, 10, 11, 12, 13, 14, 15, 16, 17, 18, 19], [0, 1, 2, 3, 4, 5, 6, 7, 8, 9, 10, 11, 12, 13, 14, 15, 16, 17, 18, 19, 20], [0, 1, 2, 3, 4, 5, 6, 7, 8, 9, 10, 11, 12, 13, 14, 15, 16, 17, 18, 19, 20], [0, 1, 2, 3, 4, 5, 6, 7, 8, 9, 10, 11, 12, 13, 14, 15, 16, 17, 18, 19, 20, 21, 22], [0, 1, 2, 3, 4, 5, 6, 7, 8, 9, 10, 11, 12, 13, 14, 15, 16, 17, 18, 19, 20, 21, 22, 23], [0, 1, 2, 3, 4, 5, 6, 7, 8, 9, 10, 11, 12, 13, 14, 15, 16, 17, 18, 19, 20, 21, 22, 23, 24], [0, 1, 2, 3, 4, 5, 6, 7, 8, 9, 10, 11, 12, 13, 14, 15, 16, 17, 18, 19, 20], [0, 1, 2, 3, 4, 5, 6, 7, 8, 9, 10, 11, 12, 13, 14, 15, 16, 17, 18, 19, 20], [0, 1, 2, 3, 4, 5, 6, 7, 8, 9, 10, 11, 12, 13, 14, 15, 16, 17, 18, 19, 20, 26, 27], [0, 1, 2, 3, 4, 5, 6, 7, 8, 9, 10, 11, 12, 13, 14, 15, 16, 17, 18, 19, 20, 26, 27, 28], [0, 1, 2, 3, 4, 5, 6, 7, 8, 9, 10, 11, 12, 13, 14, 15, 16, 17, 18, 19, 20, 26, 27, 28, 29], [0, 1, 2, 3, 4, 5, 6, 7, 8, 9, 10, 11, 12, 13, 14, 15, 16, 17, 18, 19, 20, 21, 22, 23, 24, 25, 26, 27, 28, 29, 30], [0, 1, 2, 3, 4, 5, 6, 7, 8, 9, 10, 11, 12, 13, 14, 15, 16, 17, 18, 19, 20], [0, 1, 2, 3, 4, 5, 6, 7, 8, 9, 10, 11, 12, 13, 14, 15, 16, 17, 18, 19, 20], [0, 1, 2, 3, 4, 5, 6, 7, 8, 9, 10, 11, 12, 13, 14, 15, 16, 17, 18, 19, 20, 32, 33], [0, 1, 2, 3, 4, 5, 6, 7, 8, 9, 10, 11, 12, 13, 14, 15, 16, 17, 18, 19, 20, 32, 33, 34], [0, 1, 2, 3, 4, 5, 6, 7, 8, 9, 10, 11, 12, 13, 14, 15, 16, 17, 18, 19, 20, 32, 33, 34, 35], [0, 1, 2, 3, 4, 5, 6, 7, 8, 9, 10, 11, 12, 13, 14, 15, 16, 17, 18, 19, 20, 32, 33, 34, 35, 36], [0, 1, 2, 3, 4, 5, 6, 7, 8, 9, 10, 11, 12, 13, 14, 15, 16, 17, 18, 19, 20, 21, 22, 23, 24, 25, 26, 27, 28, 29, 30, 31, 32, 33, 34, 35, 36, 37], [0, 1, 2, 3, 4, 5, 6, 7, 8, 9, 10, 11, 12, 13, 14, 15, 16, 17, 18, 19, 20, 21, 22, 23, 24, 25, 26, 27, 28, 29, 30, 31, 32, 33, 34, 35, 36, 37, 38], [0, 1, 2, 3, 4, 5, 6, 7, 8, 9, 10, 11, 12, 13, 14, 15, 16, 17, 18, 19, 20, 21, 22, 23, 24, 25, 26, 27, 28, 29, 30, 31, 32, 33, 34, 35, 36, 37, 38, 39], [0, 1, 2, 3, 4, 5, 6, 7, 8, 9, 10, 11, 12, 13, 14, 15, 16, 17, 18, 19, 20, 21, 22, 23, 24, 25, 26, 27, 28, 29, 30, 31, 32, 33, 34, 35, 36, 37, 38, 39, 40], [0, 1, 2, 3, 4, 5, 6, 7, 8, 9, 10, 11, 12, 13, 14, 15, 16, 17, 18, 19, 20, 21, 22, 23, 24, 25, 26, 27, 28, 29, 30, 31, 32, 33, 34, 35, 36, 37, 38, 39, 40, 41], [0, 1, 2, 3, 4, 5, 6, 7, 8, 9, 10, 11, 12, 13, 14, 15, 16, 17, 18, 19, 20, 21, 22, 23, 24, 25, 26, 27, 28, 29, 30, 31, 32, 33, 34, 35, 36, 37, 38, 39, 40, 41, 42]] mixed (ord := (.det 0 (.det 1 (.det 2 (.det 3 (.det 4 (.det 5 (.det 6 (.det 7 (.det 8 (.det 9 (.det 10 (.det 11 (.det 12 (.det 13 (.det 14 (.det 15 (.det 16 (.det 17 (.det 18 (.det 19 (.det 20 (.det 21 (.det 22 (.det 23 (.det 24 (.det 25 (.det 26 (.det 27 (.det 28 (.det 29 (.det 30 (.det 31 (.det 32 (.det 33 (.det 34 (.det 35 (.det 36 (.det 37 (.det 38 (.det 39 (.det 40 (.det 41 (.det 42 .done)))))))))))))))))))))))))))))))))))))))))))) (by kernel_rfl) ?_   -- region 12
              refine hx_det rfl rfl rfl nofun (det_move rfl) rfl ?_
              refine hx_det rfl rfl rfl nofun (det_eql rfl rfl) rfl ?_
              refine hx_det rfl rfl rfl nofun (det_move rfl) rfl ?_
              refine hx_on rfl rfl rfl rfl rfl hg12_g75 nofun (det_move rfl) rfl ?_
              refine hx_on rfl rfl rfl rfl rfl hg12_g75 nofun (det_eql rfl rfl) rfl ?_
              refine hx_det rfl rfl rfl nofun (det_pick_on rfl hg12_g75 rfl rfl) rfl ?_
              refine hx_det rfl rfl rfl nofun (det_move rfl) rfl ?_
              refine hx_on rfl rfl rfl rfl rfl hg12_g79 nofun (det_move rfl) rfl ?_
              refine hx_on rfl rfl rfl rfl rfl hg12_g79 nofun (det_len rfl un39) rfl ?_
              refine hx_on rfl rfl rfl rfl rfl hg12_g79 nofun (det_move rfl) rfl ?_
              refine hx_on rfl rfl rfl rfl rfl hg12_g79 nofun (det_len rfl un36) rfl ?_
              refine hx_on rfl rfl rfl rfl rfl hg12_g79 nofun (det_eql rfl rfl) rfl ?_
              refine hx_det rfl rfl rfl nofun (det_pick_on rfl hg12_g79 rfl rfl) rfl ?_
              refine hx_det rfl rfl rfl nofun (det_move rfl) rfl ?_
              refine hx_on rfl rfl rfl rfl rfl hg12_g86 nofun (det_move rfl) rfl ?_
              refine hx_on rfl rfl rfl rfl rfl hg12_g86 nofun (det_len rfl un39) rfl ?_
              refine hx_on rfl rfl rfl rfl rfl hg12_g86 nofun (det_move rfl) rfl ?_
              refine hx_on rfl rfl rfl rfl rfl hg12_g86 nofun (det_len rfl un36) rfl ?_
              refine hx_on rfl rfl rfl rfl rfl hg12_g86 nofun (det_eql rfl rfl) rfl ?_
              refine hx_det rfl rfl rfl nofun (det_pick_on rfl hg12_g86 rfl rfl) rfl ?_
              refine hx_det rfl rfl rfl nofun (det_move rfl) rfl ?_
              refine hx_off rfl rfl rfl rfl rfl hg12_g93 rfl ?_
              refine hx_off rfl rfl rfl rfl rfl hg12_g93 rfl ?_
              refine hx_off rfl rfl rfl rfl rfl hg12_g93 rfl ?_
              refine hx_off rfl rfl rfl rfl rfl hg12_g93 rfl ?_
              refine hx_off rfl rfl rfl rfl rfl hg12_g93 rfl ?_
              refine hx_off rfl rfl rfl rfl rfl hg12_g93 rfl ?_
              refine hx_off rfl rfl rfl rfl rfl hg12_g93 rfl ?_
              refine hx_off rfl rfl rfl rfl rfl hg12_g93 rfl ?_
              refine hx_off rfl rfl rfl rfl rfl hg12_g93 rfl ?_
              refine hx_off rfl rfl rfl rfl rfl hg12_g93 rfl ?_
              refine hx_off rfl rfl rfl rfl rfl hg12_g93 rfl ?_
              refine hx_off rfl rfl rfl rfl rfl hg12_g93 rfl ?_
              refine hx_off rfl rfl rfl rfl rfl hg12_g93 rfl ?_
              refine hx_off rfl rfl rfl rfl rfl hg12_g93 rfl ?_
              refine hx_off rfl rfl rfl rfl rfl hg12_g93 rfl ?_
              refine hx_off rfl rfl rfl rfl rfl hg12_g93 rfl ?_
              refine hx_off rfl rfl rfl rfl rfl hg12_g93 rfl ?_
              refine hx_off rfl rfl rfl rfl rfl hg12_g93 rfl ?_
              refine hx_det rfl rfl rfl nofun (det_pick_off rfl hg12_g93 rfl rfl) rfl ?_
              refine hx_det rfl rfl rfl nofun (det_move rfl) rfl ?_
              refine hx_off rfl rfl rfl rfl rfl rfl rfl ?_
              refine hx_det rfl rfl rfl nofun (det_pick_off rfl rfl rfl rfl) rfl ?_
              refine hx_end ?_
              refine wl_det rfl rfl (det_assign rfl) rfl ?_
              refine wl_nil ?_
              replace h := Option.some.inj h
              subst h
              exact pn_meetG (false, ()) rfl ⟨rfl, trivial⟩ (fun _ h => h.to trivial trivial)
          · have h := ifF h hg12_g86
            refine dx_region 43 [[], [0], [0, 1], [0, 1, 2], [0, 1, 2, 3], [0, 1, 2, 3, 4], [0, 1, 2, 3, 4, 5], [0, 1, 2, 3, 4, 5, 6], [0, 1, 2, 3, 4, 5, 6, 7], [0, 1, 2, 3, 4, 5, 6], [0, 1, 2, 3, 4, 5, 6, 9], [0, 1, 2, 3, 4, 5, 6, 7, 8, 9, 10], [0, 1, 2, 3, 4, 5, 6, 7, 8, 9, 10, 11], [0, 1, 2, 3, 4, 5, 6, 7, 8, 9, 10, 11, 12], [0, 1, 2, 3, 4, 5, 6, 7, 8, 9, 10, 11, 12, 13], [0, 1, 2, 3, 4, 5, 6, 7, 8, 9, 10, 11, 12, 13, 14], [0, 1, 2, 3, 4, 5, 6, 7, 8, 9, 10, 11, 12, 13], [0, 1, 2, 3, 4, 5, 6, 7, 8, 9, 10, 11, 12, 13, 16], [0, 1, 2, 3, 4, 5, 6, 7, 8, 9, 10, 11, 12, 13, 14, 15, 16, 17], [0, 1, 2, 3, 4, 5, 6, 7, 8, 9, 10, 11, 12, 13, 14, 15, 16, 17, 18], [0, 1, 2, 3, 4, 5, 6, 7, 8, 9, 10, 11, 12, 13, 14, 15, 16, 17, 18, 19], [0, 1, 2, 3, 4, 5, 6, 7, 8, 9, 10, 11, 12, 13, 14, 15, 16, 17, 18, 19, 20], [0, 1, 2, 3, 4, 5, 6, 7, 8, 9, 10, 11, 12, 13, 14, 15, 16, 17, 18, 19, 20], [0, 1, 2, 3, 4, 5, 6, 7, 8, 9, 10, 11, 12, 13, 14, 15, 16, 17, 18, 19, 20, 21, 22], [0, 1, 2, 3, 4, 5, 6, 7, 8, 9, 10, 11, 12, 13, 14, 15, 16, 17, 18, 19, 20, 21, 22, 23], [0, 1, 2, 3, 4, 5, 6, 7, 8, 9, 10, 11, 12, 13, 14, 15, 16, 17, 18, 19, 20, 21, 22, 23, 24], [0, 1, 2, 3, 4, 5, 6, 7, 8, 9, 10, 11, 12, 13, 14, 15, 16, 17, 18, 19, 20], [0, 1, 2, 3, 4, 5, 6, 7, 8, 9, 10, 11, 12, 13, 14, 15, 16, 17, 18, 19, 20], [0, 1, 2, 3, 4, 5, 6, 7, 8, 9, 10, 11, 12, 13, 14, 15, 16, 17, 18, 19, 20, 26, 27], [0, 1, 2, 3, 4, 5, 6, 7, 8, 9, 10, 11, 12, 13, 14, 15, 16, 17, 18, 19, 20, 26, 27, 28], [0, 1, 2, 3, 4, 5, 6, 7, 8, 9, 10, 11, 12, 13, 14, 15, 16, 17, 18, 19, 20, 26, 27, 28, 29], [0, 1, 2, 3, 4, 5, 6, 7, 8, 9, 10, 11, 12, 13, 14, 15, 16, 17, 18, 19, 20, 21, 22, 23, 24, 25, 26, 27, 28, 29, 30], [0, 1, 2, 3, 4, 5, 6, 7, 8, 9, 10, 11, 12, 13, 14, 15, 16, 17, 18, 19, 20], [0, 1, 2, 3, 4, 5, 6, 7, 8, 9, 10, 11, 12, 13, 14, 15, 16, 17, 18, 19, 20], [0, 1, 2, 3, 4, 5, 6, 7, 8, 9, 10, 11, 12, 13, 14, 15, 16, 17, 18, 19, 20, 32, 33], [0, 1, 2, 3, 4, 5, 6, 7, 8, 9, 10, 11, 12, 13, 14, 15, 16, 17, 18, 19, 20, 32, 33, 34], [0, 1, 2, 3, 4, 5, 6, 7, 8, 9, 10, 11, 12, 13, 14, 15, 16, 17, 18, 19, 20, 32, 33, 34, 35], [0, 1, 2, 3, 4, 5, 6, 7, 8, 9, 10, 11, 12, 13, 14, 15, 16, 17, 18, 19, 20, 32, 33, 34, 35, 36], [0, 1, 2, 3, 4, 5, 6, 7, 8, 9, 10, 11, 12, 13, 14, 15, 16, 17, 18, 19, 20, 21, 22, 23, 24, 25, 26, 27, 28, 29, 30, 31, 32, 33, 34, 35, 36, 37], [0, 1, 2, 3, 4, 5, 6, 7, 8, 9, 10, 11, 12, 13, 14, 15, 16, 17, 18, 19, 20, 21, 22, 23, 24, 25, 26, 27, 28, 29, 30, 31, 32, 33, 34, 35, 36, 37, 38], [0, 1, 2, 3, 4, 5, 6, 7, 8, 9, 10, 11, 12, 13, 14, 15, 16, 17, 18, 19, 20, 21, 22, 23, 24, 25, 26, 27, 28, 29, 30, 31, 32, 33, 34, 35, 36, 37, 38, 39], [0, 1, 2, 3, 4, 5, 6, 7, 8, 9, 10, 11, 12, 13, 14, 15, 16, 17, 18, 19, 20, 21, 22, 23, 24, 25, 26, 27, 28, 29, 30, 31, 32, 33, 34, 35, 36, 37, 38, 39, 40], [0, 1, 2, 3, 4, 5, 6, 7, 8, 9, 10, 11, 12, 13, 14, 15, 16, 17, 18, 19, 20, 21, 22, 23, 24, 25, 26, 27, 28, 29, 30, 31, 32, 33, 34, 35, 36, 37, 38, 39, 40, 41], [0, 1, 2, 3, 4, 5, 6, 7, 8, 9, 10, 11, 12, 13, 14, 15, 16, 17, 18, 19, 20, 21, 22, 23, 24, 25, 26, 27, 28, 29, 30, 31, 32, 33, 34, 35, 36, 37, 38, 39, 40, 41, 42]] mixed (ord := (.det 0 (.det 1 (.det 2 (.det 3 (.det 4 (.det 5 (.det 6 (.det 7 (.det 8 (.det 9 (.det 10 (.det 11 (.det 12 (.det 13 (.det 14 (.det 15 (.det 16 (.det 17 (.det 18 (.det 19 (.det 20 (.det 21 (.det 22 (.det 23 (.det 24 (.det 25 (.det 26 (.det 27 (.det 28 (.det 29 (.det 30 (.det 31 (.det 32 (.det 33 (.det 34 (.det 35 (.det 36 (.det 37 (.det 38 (.det 39 (.det 40 (.det 41 (.det 42 .done)))))))))))))))))))))))))))))))))))))))))))) (by kernel_rfl) ?_   -- region 12
            refine hx_det rfl rfl rfl nofun (det_move rfl) rfl ?_
            refine hx_det rfl rfl rfl nofun (det_eql rfl rfl) rfl ?_
            refine hx_det rfl rfl rfl nofun (det_move rfl) rfl ?_
            refine hx_on rfl rfl rfl rfl rfl hg12_g75 nofun (det_move rfl) rfl ?_
            refine hx_on rfl rfl rfl rfl rfl hg12_g75 nofun (det_eql rfl rfl) rfl ?_
            refine hx_det rfl rfl rfl nofun (det_pick_on rfl hg12_g75 rfl rfl) rfl ?_
            refine hx_det rfl rfl rfl nofun (det_move rfl) rfl ?_
            refine hx_on rfl rfl rfl rfl rfl hg12_g79 nofun (det_move rfl) rfl ?_
            refine hx_on rfl rfl rfl rfl rfl hg12_g79 nofun (det_len rfl un39) rfl ?_
            refine hx_on rfl rfl rfl rfl rfl hg12_g79 nofun (det_move rfl) rfl ?_
            refine hx_on rfl rfl rfl rfl rfl hg12_g79 nofun (det_len rfl un36) rfl ?_
            refine hx_on rfl rfl rfl rfl rfl hg12_g79 nofun (det_eql rfl rfl) rfl ?_
            refine hx_det rfl rfl rfl nofun (det_pick_on rfl hg12_g79 rfl rfl) rfl ?_
            refine hx_det rfl rfl rfl nofun (det_move rfl) rfl ?_
            refine hx_off rfl rfl rfl rfl rfl hg12_g86 rfl ?_
            refine hx_off rfl rfl rfl rfl rfl hg12_g86 rfl ?_
            refine hx_off rfl rfl rfl rfl rfl hg12_g86 rfl ?_
            refine hx_off rfl rfl rfl rfl rfl hg12_g86 rfl ?_
            refine hx_off rfl rfl rfl rfl rfl hg12_g86 rfl ?_
            refine hx_det rfl rfl rfl nofun (det_pick_off rfl hg12_g86 rfl rfl) rfl ?_
            refine hx_det rfl rfl rfl nofun (det_move rfl) rfl ?_
            refine hx_off rfl rfl rfl rfl rfl rfl rfl ?_
            refine hx_off rfl rfl rfl rfl rfl rfl rfl ?_
            refine hx_off rfl rfl rfl rfl rfl rfl rfl ?_
            refine hx_off rfl rfl rfl rfl rfl rfl rfl ?_
            refine hx_off rfl rfl rfl rfl rfl rfl rfl ?_
            refine hx_off rfl rfl rfl rfl rfl rfl rfl ?_
            refine hx_off rfl rfl rfl rfl rfl rfl rfl ?_
            refine hx_off rfl rfl rfl rfl rfl rfl rfl ?_
            refine hx_off rfl rfl rfl rfl rfl rfl rfl ?_
            refine hx_off rfl rfl rfl rfl rfl rfl rfl ?_
            refine hx_off rfl rfl rfl rfl rfl rfl rfl ?_
            refine hx_off rfl rfl rfl rfl rfl rfl rfl ?_
            refine hx_off rfl rfl rfl rfl rfl rfl rfl ?_
            refine hx_off rfl rfl rfl rfl rfl rfl rfl ?_
            refine hx_off rfl rfl rfl rfl rfl rfl rfl ?_
            refine hx_off rfl rfl rfl rfl rfl rfl rfl ?_
            refine hx_off rfl rfl rfl rfl rfl rfl rfl ?_
            refine hx_off rfl rfl rfl rfl rfl rfl rfl ?_
            refine hx_det rfl rfl rfl nofun (det_pick_off rfl rfl rfl rfl) rfl ?_
            refine hx_det rfl rfl rfl nofun (det_move rfl) rfl ?_
            refine hx_off rfl rfl rfl rfl rfl rfl rfl ?_
            refine hx_det rfl rfl rfl nofun (det_pick_off rfl rfl rfl rfl) rfl ?_
            refine hx_end ?_
            refine wl_det rfl rfl (det_assign rfl) rfl ?_
            refine wl_nil ?_
            replace h := Option.some.inj h
            subst h
            exact pn_meetG (false, ()) rfl ⟨rfl, trivial⟩ (fun _ h => h.to trivial trivial)
        · have h := ifF h hg12_g79
          refine dx_region 43 [[], [0], [0, 1], [0, 1, 2], [0, 1, 2, 3], [0, 1, 2, 3, 4], [0, 1, 2, 3, 4, 5], [0, 1, 2, 3, 4, 5, 6], [0, 1, 2, 3, 4, 5, 6, 7], [0, 1, 2, 3, 4, 5, 6], [0, 1, 2, 3, 4, 5, 6, 9], [0, 1, 2, 3, 4, 5, 6, 7, 8, 9, 10], [0, 1, 2, 3, 4, 5, 6, 7, 8, 9, 10, 11], [0, 1, 2, 3, 4, 5, 6, 7, 8, 9, 10, 11, 12], [0, 1, 2, 3, 4, 5, 6, 7, 8, 9, 10, 11, 12, 13], [0, 1, 2, 3, 4, 5, 6, 7, 8, 9, 10, 11, 12, 13, 14], [0, 1, 2, 3, 4, 5, 6, 7, 8, 9, 10, 11, 12, 13], [0, 1, 2, 3, 4, 5, 6, 7, 8, 9, 10, 11, 12, 13, 16], [0, 1, 2, 3, 4, 5, 6, 7, 8, 9, 10, 11, 12, 13, 14, 15, 16, 17], [0, 1, 2, 3, 4, 5, 6, 7, 8, 9, 10, 11, 12, 13, 14, 15, 16, 17, 18], [0, 1, 2, 3, 4, 5, 6, 7, 8, 9, 10, 11, 12, 13, 14, 15, 16, 17, 18, 19], [0, 1, 2, 3, 4, 5, 6, 7, 8, 9, 10, 11, 12, 13, 14, 15, 16, 17, 18, 19, 20], [0, 1, 2, 3, 4, 5, 6, 7, 8, 9, 10, 11, 12, 13, 14, 15, 16, 17, 18, 19, 20], [0, 1, 2, 3, 4, 5, 6, 7, 8, 9, 10, 11, 12, 13, 14, 15, 16, 17, 18, 19, 20, 21, 22], [0, 1, 2, 3, 4, 5, 6, 7, 8, 9, 10, 11, 12, 13, 14, 15, 16, 17, 18, 19, 20, 21, 22, 23], [0, 1, 2, 3, 4, 5, 6, 7, 8, 9, 10, 11, 12, 13, 14, 15, 16, 17, 18, 19, 20, 21, 22, 23, 24], [0, 1, 2, 3, 4, 5, 6, 7, 8, 9, 10, 11, 12, 13, 14, 15, 16, 17, 18, 19, 20], [0, 1, 2, 3, 4, 5, 6, 7, 8, 9, 10, 11, 12, 13, 14, 15, 16, 17, 18, 19, 20], [0, 1, 2, 3, 4, 5, 6, 7, 8, 9, 10, 11, 12, 13, 14, 15, 16, 17, 18, 19, 20, 26, 27], [0, 1, 2, 3, 4, 5, 6, 7, 8, 9, 10, 11, 12, 13, 14, 15, 16, 17, 18, 19, 20, 26, 27, 28], [0, 1, 2, 3, 4, 5, 6, 7, 8, 9, 10, 11, 12, 13, 14, 15, 16, 17, 18, 19, 20, 26, 27, 28, 29], [0, 1, 2, 3, 4, 5, 6, 7, 8, 9, 10, 11, 12, 13, 14, 15, 16, 17, 18, 19, 20, 21, 22, 23, 24, 25, 26, 27, 28, 29, 30], [0, 1, 2, 3, 4, 5, 6, 7, 8, 9, 10, 11, 12, 13, 14, 15, 16, 17, 18, 19, 20], [0, 1, 2, 3, 4, 5, 6, 7, 8, 9, 10, 11, 12, 13, 14, 15, 16, 17, 18, 19, 20], [0, 1, 2, 3, 4, 5, 6, 7, 8, 9, 10, 11, 12, 13, 14, 15, 16, 17, 18, 19, 20, 32, 33], [0, 1, 2, 3, 4, 5, 6, 7, 8, 9, 10, 11, 12, 13, 14, 15, 16, 17, 18, 19, 20, 32, 33, 34], [0, 1, 2, 3, 4, 5, 6, 7, 8, 9, 10, 11, 12, 13, 14, 15, 16, 17, 18, 19, 20, 32, 33, 34, 35], [0, 1, 2, 3, 4, 5, 6, 7, 8, 9, 10, 11, 12, 13, 14, 15, 16, 17, 18, 19, 20, 32, 33, 34, 35, 36], [0, 1, 2, 3, 4, 5, 6, 7, 8, 9, 10, 11, 12, 13, 14, 15, 16, 17, 18, 19, 20, 21, 22, 23, 24, 25, 26, 27, 28, 29, 30, 31, 32, 33, 34, 35, 36, 37], [0, 1, 2, 3, 4, 5, 6, 7, 8, 9, 10, 11, 12, 13, 14, 15, 16, 17, 18, 19, 20, 21, 22, 23, 24, 25, 26, 27, 28, 29, 30, 31, 32, 33, 34, 35, 36, 37, 38], [0, 1, 2, 3, 4, 5, 6, 7, 8, 9, 10, 11, 12, 13, 14, 15, 16, 17, 18, 19, 20, 21, 22, 23, 24, 25, 26, 27, 28, 29, 30, 31, 32, 33, 34, 35, 36, 37, 38, 39], [0, 1, 2, 3, 4, 5, 6, 7, 8, 9, 10, 11, 12, 13, 14, 15, 16, 17, 18, 19, 20, 21, 22, 23, 24, 25, 26, 27, 28, 29, 30, 31, 32, 33, 34, 35, 36, 37, 38, 39, 40], [0, 1, 2, 3, 4, 5, 6, 7, 8, 9, 10, 11, 12, 13, 14, 15, 16, 17, 18, 19, 20, 21, 22, 23, 24, 25, 26, 27, 28, 29, 30, 31, 32, 33, 34, 35, 36, 37, 38, 39, 40, 41], [0, 1, 2, 3, 4, 5, 6, 7, 8, 9, 10, 11, 12, 13, 14, 15, 16, 17, 18, 19, 20, 21, 22, 23, 24, 25, 26, 27, 28, 29, 30, 31, 32, 33, 34, 35, 36, 37, 38, 39, 40, 41, 42]] mixed (ord := (.det 0 (.det 1 (.det 2 (.det 3 (.det 4 (.det 5 (.det 6 (.det 7 (.det 8 (.det 9 (.det 10 (.det 11 (.det 12 (.det 13 (.det 14 (.det 15 (.det 16 (.det 17 (.det 18 (.det 19 (.det 20 (.det 21 (.det 22 (.det 23 (.det 24 (.det 25 (.det 26 (.det 27 (.det 28 (.det 29 (.det 30 (.det 31 (.det 32 (.det 33 (.det 34 (.det 35 (.det 36 (.det 37 (.det 38 (.det 39 (.det 40 (.det 41 (.det 42 .done)))))))))))))))))))))))))))))))))))))))))))) (by kernel_rfl) ?_   -- region 12
          refine hx_det rfl rfl rfl nofun (det_move rfl) rfl ?_
          refine hx_det rfl rfl rfl nofun (det_eql rfl rfl) rfl ?_
          refine hx_det rfl rfl rfl nofun (det_move rfl) rfl ?_
          refine hx_on rfl rfl rfl rfl rfl hg12_g75 nofun (det_move rfl) rfl ?_
          refine hx_on rfl rfl rfl rfl rfl hg12_g75 nofun (det_eql rfl rfl) rfl ?_
          refine hx_det rfl rfl rfl nofun (det_pick_on rfl hg12_g75 rfl rfl) rfl ?_
          refine hx_det rfl rfl rfl nofun (det_move rfl) rfl ?_
          refine hx_off rfl rfl rfl rfl rfl hg12_g79 rfl ?_
          refine hx_off rfl rfl rfl rfl rfl hg12_g79 rfl ?_
          refine hx_off rfl rfl rfl rfl rfl hg12_g79 rfl ?_
          refine hx_off rfl rfl rfl rfl rfl hg12_g79 rfl ?_
          refine hx_off rfl rfl rfl rfl rfl hg12_g79 rfl ?_
          refine hx_det rfl rfl rfl nofun (det_pick_off rfl hg12_g79 rfl rfl) rfl ?_
          refine hx_det rfl rfl rfl nofun (det_move rfl) rfl ?_
          refine hx_off rfl rfl rfl rfl rfl rfl rfl ?_
          refine hx_off rfl rfl rfl rfl rfl rfl rfl ?_
          refine hx_off rfl rfl rfl rfl rfl rfl rfl ?_
          refine hx_off rfl rfl rfl rfl rfl rfl rfl ?_
          refine hx_off rfl rfl rfl rfl rfl rfl rfl ?_
          refine hx_det rfl rfl rfl nofun (det_pick_off rfl rfl rfl rfl) rfl ?_
          refine hx_det rfl rfl rfl nofun (det_move rfl) rfl ?_
          refine hx_off rfl rfl rfl rfl rfl rfl rfl ?_
          refine hx_off rfl rfl rfl rfl rfl rfl rfl ?_
          refine hx_off rfl rfl rfl rfl rfl rfl rfl ?_
          refine hx_off rfl rfl rfl rfl rfl rfl rfl ?_
          refine hx_off rfl rfl rfl rfl rfl rfl rfl ?_
          refine hx_off rfl rfl rfl rfl rfl rfl rfl ?_
          refine hx_off rfl rfl rfl rfl rfl rfl rfl ?_
          refine hx_off rfl rfl rfl rfl rfl rfl rfl ?_
          refine hx_off rfl rfl rfl rfl rfl rfl rfl ?_
          refine hx_off rfl rfl rfl rfl rfl rfl rfl ?_
          refine hx_off rfl rfl rfl rfl rfl rfl rfl ?_
          refine hx_off rfl rfl rfl rfl rfl rfl rfl ?_
          refine hx_off rfl rfl rfl rfl rfl rfl rfl ?_
          refine hx_off rfl rfl rfl rfl rfl rfl rfl ?_
          refine hx_off rfl rfl rfl rfl rfl rfl rfl ?_
          refine hx_off rfl rfl rfl rfl rfl rfl rfl ?_
          refine hx_off rfl rfl rfl rfl rfl rfl rfl ?_
          refine hx_off rfl rfl rfl rfl rfl rfl rfl ?_
          refine hx_det rfl rfl rfl nofun (det_pick_off rfl rfl rfl rfl) rfl ?_
          refine hx_det rfl rfl rfl nofun (det_move rfl) rfl ?_
          refine hx_off rfl rfl rfl rfl rfl rfl rfl ?_
          refine hx_det rfl rfl rfl nofun (det_pick_off rfl rfl rfl rfl) rfl ?_
          refine hx_end ?_
          refine wl_det rfl rfl (det_assign rfl) rfl ?_
          refine wl_nil ?_
          replace h := Option.some.inj h
          subst h
          exact pn_meetG (false, ()) rfl ⟨rfl, trivial⟩ (fun _ h => h.to trivial trivial)
      · have h := ifF h hg12_g75
        refine dx_region 43 [[], [0], [0, 1], [0, 1, 2], [0, 1, 2, 3], [0, 1, 2, 3, 4], [0, 1, 2, 3, 4, 5], [0, 1, 2, 3, 4, 5, 6], [0, 1, 2, 3, 4, 5, 6, 7], [0, 1, 2, 3, 4, 5, 6], [0, 1, 2, 3, 4, 5, 6, 9], [0, 1, 2, 3, 4, 5, 6, 7, 8, 9, 10], [0, 1, 2, 3, 4, 5, 6, 7, 8, 9, 10, 11], [0, 1, 2, 3, 4, 5, 6, 7, 8, 9, 10, 11, 12], [0, 1, 2, 3, 4, 5, 6, 7, 8, 9, 10, 11, 12, 13], [0, 1, 2, 3, 4, 5, 6, 7, 8, 9, 10, 11, 12, 13, 14], [0, 1, 2, 3, 4, 5, 6, 7, 8, 9, 10, 11, 12, 13], [0, 1, 2, 3, 4, 5, 6, 7, 8, 9, 10, 11, 12, 13, 16], [0, 1, 2, 3, 4, 5, 6, 7, 8, 9, 10, 11, 12, 13, 14, 15, 16, 17], [0, 1, 2, 3, 4, 5, 6, 7, 8, 9, 10, 11, 12, 13, 14, 15, 16, 17, 18], [0, 1, 2, 3, 4, 5, 6, 7, 8, 9, 10, 11, 12, 13, 14, 15, 16, 17, 18, 19], [0, 1, 2, 3, 4, 5, 6, 7, 8, 9, 10, 11, 12, 13, 14, 15, 16, 17, 18, 19, 20], [0, 1, 2, 3, 4, 5, 6, 7, 8, 9, 10, 11, 12, 13, 14, 15, 16, 17, 18, 19, 20], [0, 1, 2, 3, 4, 5, 6, 7, 8, 9, 10, 11, 12, 13, 14, 15, 16, 17, 18, 19, 20, 21, 22], [0, 1, 2, 3, 4, 5, 6, 7, 8, 9, 10, 11, 12, 13, 14, 15, 16, 17, 18, 19, 20, 21, 22, 23], [0, 1, 2, 3, 4, 5, 6, 7, 8, 9, 10, 11, 12, 13, 14, 15, 16, 17, 18, 19, 20, 21, 22, 23, 24], [0, 1, 2, 3, 4, 5, 6, 7, 8, 9, 10, 11, 12, 13, 14, 15, 16, 17, 18, 19, 20], [0, 1, 2, 3, 4, 5, 6, 7, 8, 9, 10, 11, 12, 13, 14, 15, 16, 17, 18, 19, 20], [0, 1, 2, 3, 4, 5, 6, 7, 8, 9, 10, 11, 12, 13, 14, 15, 16, 17, 18, 19, 20, 26, 27], [0, 1, 2, 3, 4, 5, 6, 7, 8, 9, 10, 11, 12, 13, 14, 15, 16, 17, 18, 19, 20, 26, 27, 28], [0, 1, 2, 3, 4, 5, 6, 7, 8, 9, 10, 11, 12, 13, 14, 15, 16, 17, 18, 19, 20, 26, 27, 28, 29], [0, 1, 2, 3, 4, 5, 6, 7, 8, 9, 10, 11, 12, 13, 14, 15, 16, 17, 18, 19, 20, 21, 22, 23, 24, 25, 26, 27, 28, 29, 30], [0, 1, 2, 3, 4, 5, 6, 7, 8, 9, 10, 11, 12, 13, 14, 15, 16, 17, 18, 19, 20], [0, 1, 2, 3, 4, 5, 6, 7, 8, 9, 10, 11, 12, 13, 14, 15, 16, 17, 18, 19, 20], [0, 1, 2, 3, 4, 5, 6, 7, 8, 9, 10, 11, 12, 13, 14, 15, 16, 17, 18, 19, 20, 32, 33], [0, 1, 2, 3, 4, 5, 6, 7, 8, 9, 10, 11, 12, 13, 14, 15, 16, 17, 18, 19, 20, 32, 33, 34], [0, 1, 2, 3, 4, 5, 6, 7, 8, 9, 10, 11, 12, 13, 14, 15, 16, 17, 18, 19, 20, 32, 33, 34, 35], [0, 1, 2, 3, 4, 5, 6, 7, 8, 9, 10, 11, 12, 13, 14, 15, 16, 17, 18, 19, 20, 32, 33, 34, 35, 36], [0, 1, 2, 3, 4, 5, 6, 7, 8, 9, 10, 11, 12, 13, 14, 15, 16, 17, 18, 19, 20, 21, 22, 23, 24, 25, 26, 27, 28, 29, 30, 31, 32, 33, 34, 35, 36, 37], [0, 1, 2, 3, 4, 5, 6, 7, 8, 9, 10, 11, 12, 13, 14, 15, 16, 17, 18, 19, 20, 21, 22, 23, 24, 25, 26, 27, 28, 29, 30, 31, 32, 33, 34, 35, 36, 37, 38], [0, 1, 2, 3, 4, 5, 6, 7, 8, 9, 10, 11, 12, 13, 14, 15, 16, 17, 18, 19, 20, 21, 22, 23, 24, 25, 26, 27, 28, 29, 30, 31, 32, 33, 34, 35, 36, 37, 38, 39], [0, 1, 2, 3, 4, 5, 6, 7, 8, 9, 10, 11, 12, 13, 14, 15, 16, 17, 18, 19, 20, 21, 22, 23, 24, 25, 26, 27, 28, 29, 30, 31, 32, 33, 34, 35, 36, 37, 38, 39, 40], [0, 1, 2, 3, 4, 5, 6, 7, 8, 9, 10, 11, 12, 13, 14, 15, 16, 17, 18, 19, 20, 21, 22, 23, 24, 25, 26, 27, 28, 29, 30, 31, 32, 33, 34, 35, 36, 37, 38, 39, 40, 41], [0, 1, 2, 3, 4, 5, 6, 7, 8, 9, 10, 11, 12, 13, 14, 15, 16, 17, 18, 19, 20, 21, 22, 23, 24, 25, 26, 27, 28, 29, 30, 31, 32, 33, 34, 35, 36, 37, 38, 39, 40, 41, 42]] mixed (ord := (.det 0 (.det 1 (.det 2 (.det 3 (.det 4 (.det 5 (.det 6 (.det 7 (.det 8 (.det 9 (.det 10 (.det 11 (.det 12 (.det 13 (.det 14 (.det 15 (.det 16 (.det 17 (.det 18 (.det 19 (.det 20 (.det 21 (.det 22 (.det 23 (.det 24 (.det 25 (.det 26 (.det 27 (.det 28 (.det 29 (.det 30 (.det 31 (.det 32 (.det 33 (.det 34 (.det 35 (.det 36 (.det 37 (.det 38 (.det 39 (.det 40 (.det 41 (.det 42 .done)))))))))))))))))))))))))))))))))))))))))))) (by kernel_rfl) ?_   -- region 12
        refine hx_det rfl rfl rfl nofun (det_move rfl) rfl ?_
        refine hx_det rfl rfl rfl nofun (det_eql rfl rfl) rfl ?_
        refine hx_det rfl rfl rfl nofun (det_move rfl) rfl ?_
        refine hx_off rfl rfl rfl rfl rfl hg12_g75 rfl ?_
        refine hx_off rfl rfl rfl rfl rfl hg12_g75 rfl ?_
        refine hx_det rfl rfl rfl nofun (det_pick_off rfl hg12_g75 rfl rfl) rfl ?_
        refine hx_det rfl rfl rfl nofun (det_move rfl) rfl ?_
        refine hx_off rfl rfl rfl rfl rfl rfl rfl ?_
        refine hx_off rfl rfl rfl rfl rfl rfl rfl ?_
        refine hx_off rfl rfl rfl rfl rfl rfl rfl ?_
        refine hx_off rfl rfl rfl rfl rfl rfl rfl ?_
        refine hx_off rfl rfl rfl rfl rfl rfl rfl ?_
        refine hx_det rfl rfl rfl nofun (det_pick_off rfl rfl rfl rfl) rfl ?_
        refine hx_det rfl rfl rfl nofun (det_move rfl) rfl ?_
        refine hx_off rfl rfl rfl rfl rfl rfl rfl ?_
        refine hx_off rfl rfl rfl rfl rfl rfl rfl ?_
        refine hx_off rfl rfl rfl rfl rfl rfl rfl ?_
        refine hx_off rfl rfl rfl rfl rfl rfl rfl ?_
        refine hx_off rfl rfl rfl rfl rfl rfl rfl ?_
        refine hx_det rfl rfl rfl nofun (det_pick_off rfl rfl rfl rfl) rfl ?_
        refine hx_det rfl rfl rfl nofun (det_move rfl) rfl ?_
        refine hx_off rfl rfl rfl rfl rfl rfl rfl ?_
        refine hx_off rfl rfl rfl rfl rfl rfl rfl ?_
        refine hx_off rfl rfl rfl rfl rfl rfl rfl ?_
        refine hx_off rfl rfl rfl rfl rfl rfl rfl ?_
        refine hx_off rfl rfl rfl rfl rfl rfl rfl ?_
        refine hx_off rfl rfl rfl rfl rfl rfl rfl ?_
        refine hx_off rfl rfl rfl rfl rfl rfl rfl ?_
        refine hx_off rfl rfl rfl rfl rfl rfl rfl ?_
        refine hx_off rfl rfl rfl rfl rfl rfl rfl ?_
        refine hx_off rfl rfl rfl rfl rfl rfl rfl ?_
        refine hx_off rfl rfl rfl rfl rfl rfl rfl ?_
        refine hx_off rfl rfl rfl rfl rfl rfl rfl ?_
        refine hx_off rfl rfl rfl rfl rfl rfl rfl ?_
        refine hx_off rfl rfl rfl rfl rfl rfl rfl ?_
        refine hx_off rfl rfl rfl rfl rfl rfl rfl ?_
        refine hx_off rfl rfl rfl rfl rfl rfl rfl ?_
        refine hx_off rfl rfl rfl rfl rfl rfl rfl ?_
        refine hx_off rfl rfl rfl rfl rfl rfl rfl ?_
        refine hx_det rfl rfl rfl nofun (det_pick_off rfl rfl rfl rfl) rfl ?_
        refine hx_det rfl rfl rfl nofun (det_move rfl) rfl ?_
        refine hx_off rfl rfl rfl rfl rfl rfl rfl ?_
        refine hx_det rfl rfl rfl nofun (det_pick_off rfl rfl rfl rfl) rfl ?_
        refine hx_end ?_
        refine wl_det rfl rfl (det_assign rfl) rfl ?_
        refine wl_nil ?_
        replace h := Option.some.inj h
        subst h
        exact pn_meetG (false, ()) rfl ⟨rfl, trivial⟩ (fun _ h => h.to trivial trivial)
    rintro ⟨s26, _⟩ e26
    dsimp only at e26 ⊢
    subst e26
    have h := ho26
    refine wc_ret ?_
    replace h := Option.some.inj h
    subst h
    refine pn_ret (vs := [_]) rfl ⟨rfl, trivial⟩ ⟨rfl, rfl, rfl⟩ (fun _ h => h.to trivial trivial)
end Go.Proofs.Ytoodneljjhbfhaa
