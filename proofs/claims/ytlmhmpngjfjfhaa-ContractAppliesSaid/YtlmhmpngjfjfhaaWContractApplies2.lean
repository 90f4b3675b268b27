/- That functions of the program compute the plain programs of P. Written by a small program. -/
import Derived.Test.YtlmhmpngjfjfhaaWContractApplies1
namespace Go.Proofs.Ytlmhmpngjfjfhaa
open Go.RowKit
def Q_treatymade_Deck_Treaty (Ba0 : Nat) (r : GTreaty × GDeck) : Value → List Ent → List Fact → Prop := fun v θ κ => ∃ (pA0 : Option Addr), ∃ (pn0 : Nat), ∃ (pc0 : Nat), ∃ (pA1 : Option Addr), ∃ (pn1 : Nat), ∃ (pc1 : Nat), ∃ (pA2 : Option Addr), ∃ (pn2 : Nat), ∃ (pc2 : Nat), ∃ (pA3 : Option Addr), ∃ (pn3 : Nat), ∃ (pc3 : Nat), ∃ (pA4 : Option Addr), ∃ (pn4 : Nat), ∃ (pc4 : Nat), ∃ (pA5 : Option Addr), ∃ (pn5 : Nat), ∃ (pc5 : Nat), v = .agg #[.int .i64 r.1.ID, .int .i64 r.1.Kind, .int .i64 r.1.Period.From, .int .i64 r.1.Period.To, .slice pA0 pn0 pc0, .slice pA1 pn1 pc1, .int .i64 r.1.Risk, .int .i64 r.1.Cession, .int .i64 r.1.Line, .int .i64 r.1.Lines, .int .i64 r.1.Retention, .int .i64 r.1.Limit, .int .i64 r.1.Window, .int .i64 r.1.Deductible, .int .i64 r.1.Aggregate, .int .i64 r.1.Premium, .slice pA2 pn2 pc2, .bool r.1.Timed, .int .i64 r.1.Base, .slice pA3 pn3 pc3, .slice pA4 pn4 pc4] ∧ θ = [eS (lInt .i64) 3 pA0 pn0 pc0 r.1.Perils, eS (lInt .i64) 3 pA1 pn1 pc1 r.1.Areas, eS (lInt .i64) 3 pA2 pn2 pc2 r.1.Reinstatements, eS (lInt .i64) 3 pA3 pn3 pc3 r.1.Inures, eS lGPart 25 pA4 pn4 pc4 r.1.Parts, eBlk Ba0 71 [.slice pA5 pn5 pc5, .int .i64 r.2.At]] ∧ κ = [fV (lSlice (lInt .i64)) (.slice pA5 pn5 pc5) r.2.L]
set_option maxHeartbeats 4000000 in
set_option maxRecDepth 100000 in
theorem W_treatymade_Deck_Treaty (a0 : GDeck) (a1 : Int) (a2 : Int) (Ba0 : Nat) (A1 : Option Addr) (n1 : Nat) (c1 : Nat) (r : GTreaty × GDeck) (h : treatymade_Deck_Treaty a0 a1 a2 = some r) : Spec Try.prog 37 [.pointer (some ⟨Ba0, 0, none⟩), .int .i64 a1, .int .i64 a2] [eBlk Ba0 71 [.slice A1 n1 c1, .int .i64 a0.At]] [fV (lSlice (lInt .i64)) (.slice A1 n1 c1) a0.L] (Q_treatymade_Deck_Treaty Ba0 r) := by
  unfold treatymade_Deck_Treaty at h
  refine spec_of (σ := [(0, _), (1, _), (2, _)]) Try.func37 rfl rfl rfl rfl ?_
  intro C
  refine wc_know (fun _ h => h.lenF m0) (fun e => ?_)
  subst e
  refine wc_seq ?_
  refine wc_region ?_   -- region 0
  refine wl_act (act_alloc (cs := [_, _, _, _, _, _, _, _, _, _, _, _, _, _, _, _, _, _, _, _, _]) zr49 rfl) rfl rfl rfl ?_
  rintro _ _ _ ⟨b0_0, rfl, rfl, rfl⟩
  refine wl_nil ?_
  refine pn_then ?_
  refine wc_seq ?_
  refine wc_region ?_   -- region 1
  refine wl_det rfl rfl (det_move rfl) rfl ?_
  refine wl_det rfl rfl (det_move rfl) rfl ?_
  refine wl_det rfl rfl (det_move rfl) rfl ?_
  obtain ⟨r1_3, hr1_3, h⟩ := bind_some h
  refine wl_act (act_callS (cap := []) (W_treatymade_Deck_Next a0 10 Ba0 A1 a0.L.length c1 r1_3 hr1_3) rfl rfl rfl bd45 ⟨_, (rs r0), rfl⟩ ⟨m0, trivial⟩) rfl rfl rfl ?_
  rintro _ _ _ ⟨_, _, ⟨y1_3A0, y1_3n0, y1_3c0, rfl, rfl, rfl⟩, rfl, rfl⟩
  dsimp only [List.nil_append, List.cons_append]
  refine wl_know (fun _ h => h.lenF m0) (fun e => ?_)
  subst e
  refine wl_det rfl rfl (det_move rfl) rfl ?_
  obtain ⟨r1_5, hr1_5, h⟩ := bind_some h
  refine wl_act (act_callS (cap := []) (W_treatymade_Deck_Next r1_3.2 60 Ba0 y1_3A0 r1_3.2.L.length y1_3c0 r1_5 hr1_5) rfl rfl rfl bd45 ⟨_, r0, rfl⟩ ⟨m0, trivial⟩) rfl rfl rfl ?_
  rintro _ _ _ ⟨_, _, ⟨y1_5A0, y1_5n0, y1_5c0, rfl, rfl, rfl⟩, rfl, rfl⟩
  dsimp only [List.nil_append, List.cons_append]
  refine wl_know (fun _ h => h.lenF m0) (fun e => ?_)
  subst e
  refine wl_det rfl rfl (det_add rfl rfl) rfl ?_
  refine wl_det rfl rfl (det_build (cs := [_, _]) pl47 zr47 rfl rfl (by rfl)) rfl ?_
  refine wl_det rfl rfl (det_move rfl) rfl ?_
  obtain ⟨r1_9, hr1_9, h⟩ := bind_some h
  refine wl_act (act_callS (cap := []) (W_treatymade_Deck_subset r1_5.2 0 2 Ba0 y1_5A0 r1_5.2.L.length y1_5c0 r1_9 hr1_9) rfl rfl rfl bd61 ⟨_, r0, rfl⟩ ⟨m0, trivial⟩) rfl rfl rfl ?_
  rintro _ _ _ ⟨_, _, ⟨y1_9A0, y1_9n0, y1_9c0, y1_9A1, y1_9n1, y1_9c1, rfl, rfl, rfl⟩, rfl, rfl⟩
  dsimp only [List.nil_append, List.cons_append]
  refine wl_know (fun _ h => h.lenO m0) (fun e => ?_)
  subst e
  refine wl_know (fun _ h => h.lenF m0) (fun e => ?_)
  subst e
  refine wl_det rfl rfl (det_move rfl) rfl ?_
  obtain ⟨r1_11, hr1_11, h⟩ := bind_some h
  refine wl_act (act_callS (cap := []) (W_treatymade_Deck_subset r1_9.2 0 2 Ba0 y1_9A1 r1_9.2.L.length y1_9c1 r1_11 hr1_11) rfl rfl rfl bd61 ⟨_, (rs r0), rfl⟩ ⟨m0, trivial⟩) rfl rfl rfl ?_
  rintro _ _ _ ⟨_, _, ⟨y1_11A0, y1_11n0, y1_11c0, y1_11A1, y1_11n1, y1_11c1, rfl, rfl, rfl⟩, rfl, rfl⟩
  dsimp only [List.nil_append, List.cons_append]
  refine wl_know (fun _ h => h.lenO m0) (fun e => ?_)
  subst e
  refine wl_know (fun _ h => h.lenF m0) (fun e => ?_)
  subst e
  refine wl_det rfl rfl (det_move rfl) rfl ?_
  obtain ⟨r1_13, hr1_13, h⟩ := bind_some h
  refine wl_act (act_callS (cap := []) (W_treatymade_Deck_Money r1_11.2 Ba0 y1_11A1 r1_11.2.L.length y1_11c1 r1_13 hr1_13) rfl rfl rfl bd62 ⟨_, (rs r0), rfl⟩ ⟨m0, trivial⟩) rfl rfl rfl ?_
  rintro _ _ _ ⟨_, _, ⟨y1_13A0, y1_13n0, y1_13c0, rfl, rfl, rfl⟩, rfl, rfl⟩
  dsimp only [List.nil_append, List.cons_append]
  refine wl_know (fun _ h => h.lenF m0) (fun e => ?_)
  subst e
  refine wl_det rfl rfl (det_move rfl) rfl ?_
  obtain ⟨r1_15, hr1_15, h⟩ := bind_some h
  refine wl_act (act_callS (cap := []) (W_treatymade_Deck_Parts r1_13.2 Ba0 y1_13A0 r1_13.2.L.length y1_13c0 r1_15 hr1_15) rfl rfl rfl bd17 ⟨_, r0, rfl⟩ ⟨m0, trivial⟩) rfl rfl rfl ?_
  rintro _ _ _ ⟨_, _, ⟨y1_15A0, y1_15n0, y1_15c0, y1_15A1, y1_15n1, y1_15c1, rfl, rfl, rfl⟩, rfl, rfl⟩
  dsimp only [List.nil_append, List.cons_append]
  refine wl_know (fun _ h => h.lenO m0) (fun e => ?_)
  subst e
  refine wl_know (fun _ h => h.lenF m0) (fun e => ?_)
  subst e
  refine wl_det rfl rfl (det_build (cs := [_, _, _, _, _, _, _, _, _, _, _, _, _, _, _, _, _, _, _, _, _]) pl49 zr49 rfl rfl (by rfl)) rfl ?_
  refine wl_act (act_alloc (cs := [_, _, _, _, _, _, _, _, _, _, _, _, _, _, _, _, _, _, _, _, _]) zr49 rfl) rfl rfl rfl ?_
  rintro _ _ _ ⟨b1_17, rfl, rfl, rfl⟩
  refine wl_act0 (act_store (cells := [_, _, _, _, _, _, _, _, _, _, _, _, _, _, _, _, _, _, _, _, _]) (cs' := [_, _, _, _, _, _, _, _, _, _, _, _, _, _, _, _, _, _, _, _, _]) rfl rfl rfl s0 (by rfl) (of_decide_eq_true rfl) sz49 ⟨rfl, rfl, rfl, rfl, rfl, rfl, rfl, rfl, rfl, rfl, rfl, rfl, rfl, rfl, rfl, rfl, rfl, rfl, rfl, rfl, rfl, trivial⟩) rfl rfl ?_
  rintro _ _ _ ⟨rfl, rfl⟩
  refine wl_nil ?_
  refine pn_then ?_
  obtain ⟨q4, h, ho4⟩ := bind_some h
  refine wc_meetG (G := ((List Int) × Int × Int × Int × Int × Int × Int × Int) × Option Addr × Nat × Nat × Unit) (fun (s4, _, _, _, _) => s4 = q4) (fun (_, _, _, _, _) => [(0, .pointer (some ⟨Ba0, 0, none⟩)), (2, .int .i64 a2), (6, .pointer (some ⟨b0_0, 0, none⟩)), (7, .pointer (some ⟨b1_17, 0, none⟩))]) (fun (s4, A4_0, n4_0, c4_0, _) => [eBlk Ba0 71 [.slice A4_0 n4_0 c4_0, .int .i64 s4.2.1], eBlk b0_0 49 [.int .i64 0, .int .i64 0, .int .i64 0, .int .i64 0, .slice none 0 0, .slice none 0 0, .int .i64 0, .int .i64 0, .int .i64 0, .int .i64 0, .int .i64 0, .int .i64 0, .int .i64 0, .int .i64 0, .int .i64 0, .int .i64 0, .slice none 0 0, .bool false, .int .i64 0, .slice none 0 0, .slice none 0 0], eBlk b1_17 49 [.int .i64 a1, .int .i64 a2, .int .i64 r1_3.1, .int .i64 (w64 (60 + r1_5.1)), .slice y1_9A0 r1_9.1.length y1_9c0, .slice y1_11A0 r1_11.1.length y1_11c0, .int .i64 s4.2.2.1, .int .i64 s4.2.2.2.1, .int .i64 s4.2.2.2.2.1, .int .i64 s4.2.2.2.2.2.1, .int .i64 s4.2.2.2.2.2.2.1, .int .i64 s4.2.2.2.2.2.2.2, .int .i64 0, .int .i64 0, .int .i64 0, .int .i64 r1_13.1, .slice none 0 0, .bool false, .int .i64 0, .slice none 0 0, .slice y1_15A0 r1_15.1.length y1_15c0], eS (lInt .i64) 3 y1_9A0 r1_9.1.length y1_9c0 r1_9.1, eS (lInt .i64) 3 y1_11A0 r1_11.1.length y1_11c0 r1_11.1, eS lGPart 25 y1_15A0 r1_15.1.length y1_15c0 r1_15.1]) (fun (s4, A4_0, n4_0, c4_0, _) => [fV (lSlice (lInt .i64)) (.slice A4_0 n4_0 c4_0) s4.1]) ?_ ?_
  · refine wc_seq ?_
    refine wc_region ?_   -- region 2
    refine wl_det rfl rfl (det_move rfl) rfl ?_
    refine wl_nil ?_
    refine pn_then ?_
    refine wc_block ?_
    refine wc_seq ?_
    refine wc_region ?_   -- region 4
    refine wl_det rfl rfl (det_eql rfl rfl) rfl ?_
    refine wl_det rfl rfl (det_assign rfl) rfl ?_
    refine wl_nil ?_
    refine pn_then ?_
    refine wc_cond rfl (fun cd10 => ?_) (fun cd10 => ?_)
    · have h := ifT h cd10
      refine wc_seq ?_
      refine wc_region ?_   -- region 5
      refine wl_det rfl rfl (det_move rfl) rfl ?_
      obtain ⟨r5_1, hr5_1, h⟩ := bind_some h
      refine wl_act (act_callS (cap := []) (W_treatymade_Deck_Upto r1_15.2 999999 Ba0 y1_15A1 r1_15.2.L.length y1_15c1 r5_1 hr5_1) rfl rfl rfl bd28 ⟨_, (rs (rs r0)), rfl⟩ ⟨m0, trivial⟩) rfl rfl rfl ?_
      rintro _ _ _ ⟨_, _, ⟨y5_1A0, y5_1n0, y5_1c0, rfl, rfl, rfl⟩, rfl, rfl⟩
      dsimp only [List.nil_append, List.cons_append]
      refine wl_know (fun _ h => h.lenF m0) (fun e => ?_)
      subst e
      refine wl_det rfl rfl (det_add rfl rfl) rfl ?_
      refine wl_det rfl rfl (det_field rfl fd49_6 rfl) rfl ?_
      refine wl_act0 (act_store (cells := [_]) (cs' := [_, _, _, _, _, _, _, _, _, _, _, _, _, _, _, _, _, _, _, _, _]) rfl rfl rfl (ss s0) (by rfl) (of_decide_eq_true rfl) sz3 ⟨rfl, trivial⟩) rfl rfl ?_
      rintro _ _ _ ⟨rfl, rfl⟩
      refine wl_nil ?_
      refine pn_then ?_
      refine wc_seq ?_
      refine wc_region ?_   -- region 6
      refine wl_det rfl rfl (det_move rfl) rfl ?_
      obtain ⟨r6_1, hr6_1, h⟩ := bind_some h
      refine wl_act (act_callS (cap := []) (W_treatymade_Deck_Next r5_1.2 2 Ba0 y5_1A0 r5_1.2.L.length y5_1c0 r6_1 hr6_1) rfl rfl rfl bd45 ⟨_, r0, rfl⟩ ⟨m0, trivial⟩) rfl rfl rfl ?_
      rintro _ _ _ ⟨_, _, ⟨y6_1A0, y6_1n0, y6_1c0, rfl, rfl, rfl⟩, rfl, rfl⟩
      dsimp only [List.nil_append, List.cons_append]
      refine wl_know (fun _ h => h.lenF m0) (fun e => ?_)
      subst e
      refine wl_det rfl rfl (det_eql rfl rfl) rfl ?_
      refine wl_nil ?_
      refine pn_then ?_
      refine wc_cond rfl (fun cd15 => ?_) (fun cd15 => ?_)
      · have h := ifT h cd15
        refine wc_region ?_   -- region 7
        refine wl_det rfl rfl (det_move rfl) rfl ?_
        obtain ⟨r7_1, hr7_1, h⟩ := bind_some h
        refine wl_act (act_callS (cap := []) (W_treatymade_Deck_Money r6_1.2 Ba0 y6_1A0 r6_1.2.L.length y6_1c0 r7_1 hr7_1) rfl rfl rfl bd62 ⟨_, r0, rfl⟩ ⟨m0, trivial⟩) rfl rfl rfl ?_
        rintro _ _ _ ⟨_, _, ⟨y7_1A0, y7_1n0, y7_1c0, rfl, rfl, rfl⟩, rfl, rfl⟩
        dsimp only [List.nil_append, List.cons_append]
        refine wl_know (fun _ h => h.lenF m0) (fun e => ?_)
        subst e
        refine wl_det rfl rfl (det_field rfl fd49_10 rfl) rfl ?_
        refine wl_act0 (act_store (cells := [_]) (cs' := [_, _, _, _, _, _, _, _, _, _, _, _, _, _, _, _, _, _, _, _, _]) rfl rfl rfl (ss s0) (by rfl) (of_decide_eq_true rfl) sz3 ⟨rfl, trivial⟩) rfl rfl ?_
        rintro _ _ _ ⟨rfl, rfl⟩
        refine wl_nil ?_
        refine pn_block ?_
        replace h := Option.some.inj h
        subst h
        exact pn_meetG ((r7_1.2.L, r7_1.2.At, 0, (w64 (1 + r5_1.1)), 0, 0, 0, r7_1.1), y7_1A0, r7_1.2.L.length, y7_1c0, ()) rfl ⟨rfl, rfl, rfl, rfl, trivial⟩ (fun _ h => h.to ⟨_, r0, ⟨_, (rs (rs (rs (rs r0)))), ⟨_, r0, ⟨_, (rs (rs r0)), ⟨_, (rs r0), ⟨_, r0, trivial⟩⟩⟩⟩⟩⟩ ⟨m0, trivial⟩)
      · have h := ifF h cd15
        refine wc_skip ?_
        refine pn_block ?_
        replace h := Option.some.inj h
        subst h
        exact pn_meetG ((r6_1.2.L, r6_1.2.At, 0, (w64 (1 + r5_1.1)), 0, 0, 0, 0), y6_1A0, r6_1.2.L.length, y6_1c0, ()) rfl ⟨rfl, rfl, rfl, rfl, trivial⟩ (fun _ h => h.to ⟨_, r0, ⟨_, (rs (rs (rs (rs r0)))), ⟨_, r0, ⟨_, (rs (rs r0)), ⟨_, (rs r0), ⟨_, r0, trivial⟩⟩⟩⟩⟩⟩ ⟨m0, trivial⟩)
    · have h := ifF h cd10
      refine wc_seq ?_
      refine wc_region ?_   -- region 8
      refine wl_det rfl rfl (det_eql rfl rfl) rfl ?_
      refine wl_det rfl rfl (det_assign rfl) rfl ?_
      refine wl_nil ?_
      refine pn_then ?_
      refine wc_cond rfl (fun cd19 => ?_) (fun cd19 => ?_)
      · have h := ifT h cd19
        refine wc_region ?_   -- region 9
        refine wl_det rfl rfl (det_move rfl) rfl ?_
        obtain ⟨r9_1, hr9_1, h⟩ := bind_some h
        refine wl_act (act_callS (cap := []) (W_treatymade_Deck_Upto r1_15.2 1073741823 Ba0 y1_15A1 r1_15.2.L.length y1_15c1 r9_1 hr9_1) rfl rfl rfl bd28 ⟨_, (rs (rs r0)), rfl⟩ ⟨m0, trivial⟩) rfl rfl rfl ?_
        rintro _ _ _ ⟨_, _, ⟨y9_1A0, y9_1n0, y9_1c0, rfl, rfl, rfl⟩, rfl, rfl⟩
        dsimp only [List.nil_append, List.cons_append]
        refine wl_know (fun _ h => h.lenF m0) (fun e => ?_)
        subst e
        refine wl_det rfl rfl (det_add rfl rfl) rfl ?_
        refine wl_det rfl rfl (det_move rfl) rfl ?_
        obtain ⟨r9_4, hr9_4, h⟩ := bind_some h
        refine wl_act (act_callS (cap := []) (W_treatymade_Deck_Range r9_1.2 1 9 Ba0 y9_1A0 r9_1.2.L.length y9_1c0 r9_4 hr9_4) rfl rfl rfl bd55 ⟨_, r0, rfl⟩ ⟨m0, trivial⟩) rfl rfl rfl ?_
        rintro _ _ _ ⟨_, _, ⟨y9_4A0, y9_4n0, y9_4c0, rfl, rfl, rfl⟩, rfl, rfl⟩
        dsimp only [List.nil_append, List.cons_append]
        refine wl_know (fun _ h => h.lenF m0) (fun e => ?_)
        subst e
        refine wl_det rfl rfl (det_field rfl fd49_7 rfl) rfl ?_
        refine wl_act0 (act_store (cells := [_]) (cs' := [_, _, _, _, _, _, _, _, _, _, _, _, _, _, _, _, _, _, _, _, _]) rfl rfl rfl (ss s0) (by rfl) (of_decide_eq_true rfl) sz3 ⟨rfl, trivial⟩) rfl rfl ?_
        rintro _ _ _ ⟨rfl, rfl⟩
        refine wl_det rfl rfl (det_field rfl fd49_8 rfl) rfl ?_
        refine wl_act0 (act_store (cells := [_]) (cs' := [_, _, _, _, _, _, _, _, _, _, _, _, _, _, _, _, _, _, _, _, _]) rfl rfl rfl (ss s0) (by rfl) (of_decide_eq_true rfl) sz3 ⟨rfl, trivial⟩) rfl rfl ?_
        rintro _ _ _ ⟨rfl, rfl⟩
        refine wl_nil ?_
        refine pn_block ?_
        replace h := Option.some.inj h
        subst h
        exact pn_meetG ((r9_4.2.L, r9_4.2.At, 0, 0, (w64 (1 + r9_1.1)), r9_4.1, 0, 0), y9_4A0, r9_4.2.L.length, y9_4c0, ()) rfl ⟨rfl, rfl, rfl, rfl, trivial⟩ (fun _ h => h.to ⟨_, r0, ⟨_, (rs (rs (rs (rs r0)))), ⟨_, r0, ⟨_, (rs (rs r0)), ⟨_, (rs r0), ⟨_, r0, trivial⟩⟩⟩⟩⟩⟩ ⟨m0, trivial⟩)
      · have h := ifF h cd19
        refine wc_seq ?_
        refine wc_region ?_   -- region 10
        refine wl_det rfl rfl (det_eql rfl rfl) rfl ?_
        refine wl_det rfl rfl (det_assign rfl) rfl ?_
        refine wl_nil ?_
        refine pn_then ?_
        refine wc_cond rfl (fun cd23 => ?_) (fun cd23 => ?_)
        · have h := ifT h cd23
          refine wc_region ?_   -- region 11
          refine wl_det rfl rfl (det_move rfl) rfl ?_
          obtain ⟨r11_1, hr11_1, h⟩ := bind_some h
          refine wl_act (act_callS (cap := []) (W_treatymade_Deck_Range r1_15.2 1 4 Ba0 y1_15A1 r1_15.2.L.length y1_15c1 r11_1 hr11_1) rfl rfl rfl bd55 ⟨_, (rs (rs r0)), rfl⟩ ⟨m0, trivial⟩) rfl rfl rfl ?_
          rintro _ _ _ ⟨_, _, ⟨y11_1A0, y11_1n0, y11_1c0, rfl, rfl, rfl⟩, rfl, rfl⟩
          dsimp only [List.nil_append, List.cons_append]
          refine wl_know (fun _ h => h.lenF m0) (fun e => ?_)
          subst e
          refine wl_det rfl rfl (det_move rfl) rfl ?_
          obtain ⟨r11_3, hr11_3, h⟩ := bind_some h
          refine wl_act (act_callS (cap := []) (W_treatymade_Deck_Upto r11_1.2 999999 Ba0 y11_1A0 r11_1.2.L.length y11_1c0 r11_3 hr11_3) rfl rfl rfl bd28 ⟨_, r0, rfl⟩ ⟨m0, trivial⟩) rfl rfl rfl ?_
          rintro _ _ _ ⟨_, _, ⟨y11_3A0, y11_3n0, y11_3c0, rfl, rfl, rfl⟩, rfl, rfl⟩
          dsimp only [List.nil_append, List.cons_append]
          refine wl_know (fun _ h => h.lenF m0) (fun e => ?_)
          subst e
          refine wl_det rfl rfl (det_add rfl rfl) rfl ?_
          refine wl_det rfl rfl (det_field rfl fd49_5 rfl) rfl ?_
          refine wl_act0 (act_store (cells := [_]) (cs' := [_, _, _, _, _, _, _, _, _, _, _, _, _, _, _, _, _, _, _, _, _]) rfl rfl rfl (ss s0) (by rfl) (of_decide_eq_true rfl) sz3 ⟨rfl, trivial⟩) rfl rfl ?_
          rintro _ _ _ ⟨rfl, rfl⟩
          refine wl_det rfl rfl (det_field rfl fd49_6 rfl) rfl ?_
          refine wl_act0 (act_store (cells := [_]) (cs' := [_, _, _, _, _, _, _, _, _, _, _, _, _, _, _, _, _, _, _, _, _]) rfl rfl rfl (ss s0) (by rfl) (of_decide_eq_true rfl) sz3 ⟨rfl, trivial⟩) rfl rfl ?_
          rintro _ _ _ ⟨rfl, rfl⟩
          refine wl_nil ?_
          refine pn_block ?_
          replace h := Option.some.inj h
          subst h
          exact pn_meetG ((r11_3.2.L, r11_3.2.At, r11_1.1, (w64 (1 + r11_3.1)), 0, 0, 0, 0), y11_3A0, r11_3.2.L.length, y11_3c0, ()) rfl ⟨rfl, rfl, rfl, rfl, trivial⟩ (fun _ h => h.to ⟨_, r0, ⟨_, (rs (rs (rs (rs r0)))), ⟨_, r0, ⟨_, (rs (rs r0)), ⟨_, (rs r0), ⟨_, r0, trivial⟩⟩⟩⟩⟩⟩ ⟨m0, trivial⟩)
        · have h := ifF h cd23
          refine wc_region ?_   -- region 3
          refine wl_det rfl rfl (det_move rfl) rfl ?_
          obtain ⟨r3_1, hr3_1, h⟩ := bind_some h
          refine wl_act (act_callS (cap := []) (W_treatymade_Deck_Upto r1_15.2 1073741824 Ba0 y1_15A1 r1_15.2.L.length y1_15c1 r3_1 hr3_1) rfl rfl rfl bd28 ⟨_, (rs (rs r0)), rfl⟩ ⟨m0, trivial⟩) rfl rfl rfl ?_
          rintro _ _ _ ⟨_, _, ⟨y3_1A0, y3_1n0, y3_1c0, rfl, rfl, rfl⟩, rfl, rfl⟩
          dsimp only [List.nil_append, List.cons_append]
          refine wl_know (fun _ h => h.lenF m0) (fun e => ?_)
          subst e
          refine wl_det rfl rfl (det_move rfl) rfl ?_
          obtain ⟨r3_3, hr3_3, h⟩ := bind_some h
          refine wl_act (act_callS (cap := []) (W_treatymade_Deck_Upto r3_1.2 1073741823 Ba0 y3_1A0 r3_1.2.L.length y3_1c0 r3_3 hr3_3) rfl rfl rfl bd28 ⟨_, r0, rfl⟩ ⟨m0, trivial⟩) rfl rfl rfl ?_
          rintro _ _ _ ⟨_, _, ⟨y3_3A0, y3_3n0, y3_3c0, rfl, rfl, rfl⟩, rfl, rfl⟩
          dsimp only [List.nil_append, List.cons_append]
          refine wl_know (fun _ h => h.lenF m0) (fun e => ?_)
          subst e
          refine wl_det rfl rfl (det_add rfl rfl) rfl ?_
          refine wl_det rfl rfl (det_field rfl fd49_9 rfl) rfl ?_
          refine wl_act0 (act_store (cells := [_]) (cs' := [_, _, _, _, _, _, _, _, _, _, _, _, _, _, _, _, _, _, _, _, _]) rfl rfl rfl (ss s0) (by rfl) (of_decide_eq_true rfl) sz3 ⟨rfl, trivial⟩) rfl rfl ?_
          rintro _ _ _ ⟨rfl, rfl⟩
          refine wl_det rfl rfl (det_field rfl fd49_10 rfl) rfl ?_
          refine wl_act0 (act_store (cells := [_]) (cs' := [_, _, _, _, _, _, _, _, _, _, _, _, _, _, _, _, _, _, _, _, _]) rfl rfl rfl (ss s0) (by rfl) (of_decide_eq_true rfl) sz3 ⟨rfl, trivial⟩) rfl rfl ?_
          rintro _ _ _ ⟨rfl, rfl⟩
          refine wl_nil ?_
          refine pn_block ?_
          replace h := Option.some.inj h
          subst h
          exact pn_meetG ((r3_3.2.L, r3_3.2.At, 0, 0, 0, 0, r3_1.1, (w64 (1 + r3_3.1))), y3_3A0, r3_3.2.L.length, y3_3c0, ()) rfl ⟨rfl, rfl, rfl, rfl, trivial⟩ (fun _ h => h.to ⟨_, r0, ⟨_, (rs (rs (rs (rs r0)))), ⟨_, r0, ⟨_, (rs (rs r0)), ⟨_, (rs r0), ⟨_, r0, trivial⟩⟩⟩⟩⟩⟩ ⟨m0, trivial⟩)
  rintro ⟨s4, A4_0, n4_0, c4_0, _⟩ e4
  dsimp only at e4 ⊢
  subst e4
  have h := ho4
  refine wc_know (fun _ h => h.lenF m0) (fun e => ?_)
  subst e
  obtain ⟨q26, h, ho26⟩ := bind_some h
  refine wc_meetG (G := ((List Int) × Int × Int × Int × (List Int) × Bool) × Option Addr × Nat × Nat × Option Addr × Nat × Nat × Unit) (fun (s26, _, _, _, _, _, _, _) => s26 = q26) (fun (_, _, _, _, _, _, _, _) => [(0, .pointer (some ⟨Ba0, 0, none⟩)), (2, .int .i64 a2), (6, .pointer (some ⟨b0_0, 0, none⟩)), (7, .pointer (some ⟨b1_17, 0, none⟩))]) (fun (s26, A26_0, n26_0, c26_0, A26_3, n26_3, c26_3, _) => [eBlk Ba0 71 [.slice A26_0 n26_0 c26_0, .int .i64 s26.2.1], eBlk b0_0 49 [.int .i64 0, .int .i64 0, .int .i64 0, .int .i64 0, .slice none 0 0, .slice none 0 0, .int .i64 0, .int .i64 0, .int .i64 0, .int .i64 0, .int .i64 0, .int .i64 0, .int .i64 0, .int .i64 0, .int .i64 0, .int .i64 0, .slice none 0 0, .bool false, .int .i64 0, .slice none 0 0, .slice none 0 0], eBlk b1_17 49 [.int .i64 a1, .int .i64 a2, .int .i64 r1_3.1, .int .i64 (w64 (60 + r1_5.1)), .slice y1_9A0 r1_9.1.length y1_9c0, .slice y1_11A0 r1_11.1.length y1_11c0, .int .i64 s4.2.2.1, .int .i64 s4.2.2.2.1, .int .i64 s4.2.2.2.2.1, .int .i64 s4.2.2.2.2.2.1, .int .i64 s4.2.2.2.2.2.2.1, .int .i64 s4.2.2.2.2.2.2.2, .int .i64 0, .int .i64 s26.2.2.1, .int .i64 s26.2.2.2.1, .int .i64 r1_13.1, .slice A26_3 n26_3 c26_3, .bool s26.2.2.2.2.2, .int .i64 0, .slice none 0 0, .slice y1_15A0 r1_15.1.length y1_15c0], eS (lInt .i64) 3 y1_9A0 r1_9.1.length y1_9c0 r1_9.1, eS (lInt .i64) 3 y1_11A0 r1_11.1.length y1_11c0 r1_11.1, eS (lInt .i64) 3 A26_3 n26_3 c26_3 s26.2.2.2.2.1, eS lGPart 25 y1_15A0 r1_15.1.length y1_15c0 r1_15.1]) (fun (s26, A26_0, n26_0, c26_0, _, _, _, _) => [fV (lSlice (lInt .i64)) (.slice A26_0 n26_0 c26_0) s26.1]) ?_ ?_
  · refine wc_seq ?_
    refine wc_region ?_   -- region 12
    refine wl_det rfl rfl (det_move rfl) rfl ?_
    refine wl_det rfl rfl (det_eql rfl rfl) rfl ?_
    refine wl_det rfl rfl (det_move rfl) rfl ?_
    refine wl_way (decide (a2 = 4)) ((decide (a2 = 4)) || (decide (a2 = 5))) 3 69 (fun hg => ?_) (fun hg => ?_) ?_
    · have hg12_5 := hg
      refine wl_off rfl rfl rfl rfl rfl hg12_5 rfl ?_
      refine wl_off rfl rfl rfl rfl rfl hg12_5 rfl ?_
      refine wl_det rfl rfl (det_or_on (r := (decide (a2 = 5))) rfl rfl rfl hg12_5) rfl ?_
      exact wl_nil (pn_qnE (ext_cons rfl (ext_skip rfl (ext_skip rfl (ext_skip rfl ext_refl)))) (fun _ h => h))
    · have hg12_5a := hg
      refine wl_on rfl rfl rfl rfl hg12_5a ?_
      refine wl_det rfl rfl (det_move rfl) rfl ?_
      refine wl_on rfl rfl rfl rfl hg12_5a ?_
      refine wl_det rfl rfl (det_eql rfl rfl) rfl ?_
      refine wl_det rfl rfl (det_or_off rfl rfl rfl hg12_5a) rfl ?_
      exact wl_nil (pn_qnE (ext_cons rfl (ext_skip rfl (ext_skip rfl (ext_skip rfl ext_refl)))) (fun _ h => h))
    refine wl_nil ?_
    refine pn_then ?_
    refine wc_cond rfl (fun cd29 => ?_) (fun cd29 => ?_)
    · have h := ifT h cd29
      obtain ⟨q30, h, ho30⟩ := bind_some h
      refine wc_meetG (G := ((List Int) × Int × Int) × Option Addr × Nat × Nat × Unit) (fun (s30, _, _, _, _) => s30 = q30) (fun (_, _, _, _, _) => [(0, .pointer (some ⟨Ba0, 0, none⟩)), (2, .int .i64 a2), (6, .pointer (some ⟨b0_0, 0, none⟩)), (7, .pointer (some ⟨b1_17, 0, none⟩))]) (fun (s30, A30_0, n30_0, c30_0, _) => [eBlk Ba0 71 [.slice A30_0 n30_0 c30_0, .int .i64 s30.2.1], eBlk b0_0 49 [.int .i64 0, .int .i64 0, .int .i64 0, .int .i64 0, .slice none 0 0, .slice none 0 0, .int .i64 0, .int .i64 0, .int .i64 0, .int .i64 0, .int .i64 0, .int .i64 0, .int .i64 0, .int .i64 0, .int .i64 0, .int .i64 0, .slice none 0 0, .bool false, .int .i64 0, .slice none 0 0, .slice none 0 0], eBlk b1_17 49 [.int .i64 a1, .int .i64 a2, .int .i64 r1_3.1, .int .i64 (w64 (60 + r1_5.1)), .slice y1_9A0 r1_9.1.length y1_9c0, .slice y1_11A0 r1_11.1.length y1_11c0, .int .i64 s4.2.2.1, .int .i64 s4.2.2.2.1, .int .i64 s4.2.2.2.2.1, .int .i64 s4.2.2.2.2.2.1, .int .i64 s4.2.2.2.2.2.2.1, .int .i64 s4.2.2.2.2.2.2.2, .int .i64 0, .int .i64 s30.2.2, .int .i64 0, .int .i64 r1_13.1, .slice none 0 0, .bool false, .int .i64 0, .slice none 0 0, .slice y1_15A0 r1_15.1.length y1_15c0], eS (lInt .i64) 3 y1_9A0 r1_9.1.length y1_9c0 r1_9.1, eS (lInt .i64) 3 y1_11A0 r1_11.1.length y1_11c0 r1_11.1, eS lGPart 25 y1_15A0 r1_15.1.length y1_15c0 r1_15.1]) (fun (s30, A30_0, n30_0, c30_0, _) => [fV (lSlice (lInt .i64)) (.slice A30_0 n30_0 c30_0) s30.1]) ?_ ?_
      · refine wc_seq ?_
        refine wc_region ?_   -- region 13
        refine wl_det rfl rfl (det_move rfl) rfl ?_
        obtain ⟨r13_1, hr13_1, h⟩ := bind_some h
        refine wl_act (act_callS (cap := []) (W_treatymade_Deck_Next (GDeck.mk s4.1 s4.2.1) 2 Ba0 A4_0 s4.1.length c4_0 r13_1 hr13_1) rfl rfl rfl bd45 ⟨_, r0, rfl⟩ ⟨m0, trivial⟩) rfl rfl rfl ?_
        rintro _ _ _ ⟨_, _, ⟨y13_1A0, y13_1n0, y13_1c0, rfl, rfl, rfl⟩, rfl, rfl⟩
        dsimp only [List.nil_append, List.cons_append]
        refine wl_know (fun _ h => h.lenF m0) (fun e => ?_)
        subst e
        refine wl_det rfl rfl (det_eql rfl rfl) rfl ?_
        refine wl_nil ?_
        refine pn_then ?_
        refine wc_cond rfl (fun cd33 => ?_) (fun cd33 => ?_)
        · have h := ifT h cd33
          refine wc_region ?_   -- region 14
          refine wl_det rfl rfl (det_move rfl) rfl ?_
          obtain ⟨r14_1, hr14_1, h⟩ := bind_some h
          refine wl_act (act_callS (cap := []) (W_treatymade_Deck_Money r13_1.2 Ba0 y13_1A0 r13_1.2.L.length y13_1c0 r14_1 hr14_1) rfl rfl rfl bd62 ⟨_, r0, rfl⟩ ⟨m0, trivial⟩) rfl rfl rfl ?_
          rintro _ _ _ ⟨_, _, ⟨y14_1A0, y14_1n0, y14_1c0, rfl, rfl, rfl⟩, rfl, rfl⟩
          dsimp only [List.nil_append, List.cons_append]
          refine wl_know (fun _ h => h.lenF m0) (fun e => ?_)
          subst e
          refine wl_det rfl rfl (det_field rfl fd49_12 rfl) rfl ?_
          refine wl_act0 (act_store (cells := [_]) (cs' := [_, _, _, _, _, _, _, _, _, _, _, _, _, _, _, _, _, _, _, _, _]) rfl rfl rfl (ss (ss s0)) (by rfl) (of_decide_eq_true rfl) sz3 ⟨rfl, trivial⟩) rfl rfl ?_
          rintro _ _ _ ⟨rfl, rfl⟩
          refine wl_nil ?_
          replace h := Option.some.inj h
          subst h
          exact pn_meetG ((r14_1.2.L, r14_1.2.At, r14_1.1), y14_1A0, r14_1.2.L.length, y14_1c0, ()) rfl ⟨rfl, rfl, rfl, rfl, trivial⟩ (fun _ h => h.to ⟨_, r0, ⟨_, r0, ⟨_, r0, ⟨_, r0, ⟨_, r0, ⟨_, r0, trivial⟩⟩⟩⟩⟩⟩ ⟨m0, trivial⟩)
        · have h := ifF h cd33
          refine wc_skip ?_
          replace h := Option.some.inj h
          subst h
          exact pn_meetG ((r13_1.2.L, r13_1.2.At, 0), y13_1A0, r13_1.2.L.length, y13_1c0, ()) rfl ⟨rfl, rfl, rfl, rfl, trivial⟩ (fun _ h => h.to ⟨_, r0, ⟨_, r0, ⟨_, r0, ⟨_, r0, ⟨_, r0, ⟨_, r0, trivial⟩⟩⟩⟩⟩⟩ ⟨m0, trivial⟩)
      rintro ⟨s30, A30_0, n30_0, c30_0, _⟩ e30
      dsimp only at e30 ⊢
      subst e30
      have h := ho30
      refine wc_know (fun _ h => h.lenF m0) (fun e => ?_)
      subst e
      obtain ⟨q35, h, ho35⟩ := bind_some h
      refine wc_meetG (G := ((List Int) × Int × Int) × Option Addr × Nat × Nat × Unit) (fun (s35, _, _, _, _) => s35 = q35) (fun (_, _, _, _, _) => [(0, .pointer (some ⟨Ba0, 0, none⟩)), (2, .int .i64 a2), (6, .pointer (some ⟨b0_0, 0, none⟩)), (7, .pointer (some ⟨b1_17, 0, none⟩))]) (fun (s35, A35_0, n35_0, c35_0, _) => [eBlk Ba0 71 [.slice A35_0 n35_0 c35_0, .int .i64 s35.2.1], eBlk b0_0 49 [.int .i64 0, .int .i64 0, .int .i64 0, .int .i64 0, .slice none 0 0, .slice none 0 0, .int .i64 0, .int .i64 0, .int .i64 0, .int .i64 0, .int .i64 0, .int .i64 0, .int .i64 0, .int .i64 0, .int .i64 0, .int .i64 0, .slice none 0 0, .bool false, .int .i64 0, .slice none 0 0, .slice none 0 0], eBlk b1_17 49 [.int .i64 a1, .int .i64 a2, .int .i64 r1_3.1, .int .i64 (w64 (60 + r1_5.1)), .slice y1_9A0 r1_9.1.length y1_9c0, .slice y1_11A0 r1_11.1.length y1_11c0, .int .i64 s4.2.2.1, .int .i64 s4.2.2.2.1, .int .i64 s4.2.2.2.2.1, .int .i64 s4.2.2.2.2.2.1, .int .i64 s4.2.2.2.2.2.2.1, .int .i64 s4.2.2.2.2.2.2.2, .int .i64 0, .int .i64 s30.2.2, .int .i64 s35.2.2, .int .i64 r1_13.1, .slice none 0 0, .bool false, .int .i64 0, .slice none 0 0, .slice y1_15A0 r1_15.1.length y1_15c0], eS (lInt .i64) 3 y1_9A0 r1_9.1.length y1_9c0 r1_9.1, eS (lInt .i64) 3 y1_11A0 r1_11.1.length y1_11c0 r1_11.1, eS lGPart 25 y1_15A0 r1_15.1.length y1_15c0 r1_15.1]) (fun (s35, A35_0, n35_0, c35_0, _) => [fV (lSlice (lInt .i64)) (.slice A35_0 n35_0 c35_0) s35.1]) ?_ ?_
      · refine wc_seq ?_
        refine wc_region ?_   -- region 15
        refine wl_det rfl rfl (det_move rfl) rfl ?_
        obtain ⟨r15_1, hr15_1, h⟩ := bind_some h
        refine wl_act (act_callS (cap := []) (W_treatymade_Deck_Next (GDeck.mk s30.1 s30.2.1) 2 Ba0 A30_0 s30.1.length c30_0 r15_1 hr15_1) rfl rfl rfl bd45 ⟨_, r0, rfl⟩ ⟨m0, trivial⟩) rfl rfl rfl ?_
        rintro _ _ _ ⟨_, _, ⟨y15_1A0, y15_1n0, y15_1c0, rfl, rfl, rfl⟩, rfl, rfl⟩
        dsimp only [List.nil_append, List.cons_append]
        refine wl_know (fun _ h => h.lenF m0) (fun e => ?_)
        subst e
        refine wl_det rfl rfl (det_eql rfl rfl) rfl ?_
        refine wl_nil ?_
        refine pn_then ?_
        refine wc_cond rfl (fun cd38 => ?_) (fun cd38 => ?_)
        · have h := ifT h cd38
          refine wc_region ?_   -- region 16
          refine wl_det rfl rfl (det_move rfl) rfl ?_
          obtain ⟨r16_1, hr16_1, h⟩ := bind_some h
          refine wl_act (act_callS (cap := []) (W_treatymade_Deck_Money r15_1.2 Ba0 y15_1A0 r15_1.2.L.length y15_1c0 r16_1 hr16_1) rfl rfl rfl bd62 ⟨_, r0, rfl⟩ ⟨m0, trivial⟩) rfl rfl rfl ?_
          rintro _ _ _ ⟨_, _, ⟨y16_1A0, y16_1n0, y16_1c0, rfl, rfl, rfl⟩, rfl, rfl⟩
          dsimp only [List.nil_append, List.cons_append]
          refine wl_know (fun _ h => h.lenF m0) (fun e => ?_)
          subst e
          refine wl_det rfl rfl (det_field rfl fd49_13 rfl) rfl ?_
          refine wl_act0 (act_store (cells := [_]) (cs' := [_, _, _, _, _, _, _, _, _, _, _, _, _, _, _, _, _, _, _, _, _]) rfl rfl rfl (ss (ss s0)) (by rfl) (of_decide_eq_true rfl) sz3 ⟨rfl, trivial⟩) rfl rfl ?_
          rintro _ _ _ ⟨rfl, rfl⟩
          refine wl_nil ?_
          replace h := Option.some.inj h
          subst h
          exact pn_meetG ((r16_1.2.L, r16_1.2.At, r16_1.1), y16_1A0, r16_1.2.L.length, y16_1c0, ()) rfl ⟨rfl, rfl, rfl, rfl, trivial⟩ (fun _ h => h.to ⟨_, r0, ⟨_, r0, ⟨_, r0, ⟨_, r0, ⟨_, r0, ⟨_, r0, trivial⟩⟩⟩⟩⟩⟩ ⟨m0, trivial⟩)
        · have h := ifF h cd38
          refine wc_skip ?_
          replace h := Option.some.inj h
          subst h
          exact pn_meetG ((r15_1.2.L, r15_1.2.At, 0), y15_1A0, r15_1.2.L.length, y15_1c0, ()) rfl ⟨rfl, rfl, rfl, rfl, trivial⟩ (fun _ h => h.to ⟨_, r0, ⟨_, r0, ⟨_, r0, ⟨_, r0, ⟨_, r0, ⟨_, r0, trivial⟩⟩⟩⟩⟩⟩ ⟨m0, trivial⟩)
      rintro ⟨s35, A35_0, n35_0, c35_0, _⟩ e35
      dsimp only at e35 ⊢
      subst e35
      have h := ho35
      refine wc_know (fun _ h => h.lenF m0) (fun e => ?_)
      subst e
      obtain ⟨q40, h, ho40⟩ := bind_some h
      refine wc_meetG (G := ((List Int) × Int × (List Int)) × Option Addr × Nat × Nat × Option Addr × Nat × Nat × Unit) (fun (s40, _, _, _, _, _, _, _) => s40 = q40) (fun (_, _, _, _, _, _, _, _) => [(0, .pointer (some ⟨Ba0, 0, none⟩)), (2, .int .i64 a2), (6, .pointer (some ⟨b0_0, 0, none⟩)), (7, .pointer (some ⟨b1_17, 0, none⟩))]) (fun (s40, A40_0, n40_0, c40_0, A40_3, n40_3, c40_3, _) => [eBlk Ba0 71 [.slice A40_0 n40_0 c40_0, .int .i64 s40.2.1], eBlk b0_0 49 [.int .i64 0, .int .i64 0, .int .i64 0, .int .i64 0, .slice none 0 0, .slice none 0 0, .int .i64 0, .int .i64 0, .int .i64 0, .int .i64 0, .int .i64 0, .int .i64 0, .int .i64 0, .int .i64 0, .int .i64 0, .int .i64 0, .slice none 0 0, .bool false, .int .i64 0, .slice none 0 0, .slice none 0 0], eBlk b1_17 49 [.int .i64 a1, .int .i64 a2, .int .i64 r1_3.1, .int .i64 (w64 (60 + r1_5.1)), .slice y1_9A0 r1_9.1.length y1_9c0, .slice y1_11A0 r1_11.1.length y1_11c0, .int .i64 s4.2.2.1, .int .i64 s4.2.2.2.1, .int .i64 s4.2.2.2.2.1, .int .i64 s4.2.2.2.2.2.1, .int .i64 s4.2.2.2.2.2.2.1, .int .i64 s4.2.2.2.2.2.2.2, .int .i64 0, .int .i64 s30.2.2, .int .i64 s35.2.2, .int .i64 r1_13.1, .slice A40_3 n40_3 c40_3, .bool false, .int .i64 0, .slice none 0 0, .slice y1_15A0 r1_15.1.length y1_15c0], eS (lInt .i64) 3 y1_9A0 r1_9.1.length y1_9c0 r1_9.1, eS (lInt .i64) 3 y1_11A0 r1_11.1.length y1_11c0 r1_11.1, eS (lInt .i64) 3 A40_3 n40_3 c40_3 s40.2.2, eS lGPart 25 y1_15A0 r1_15.1.length y1_15c0 r1_15.1]) (fun (s40, A40_0, n40_0, c40_0, _, _, _, _) => [fV (lSlice (lInt .i64)) (.slice A40_0 n40_0 c40_0) s40.1]) ?_ ?_
      · refine wc_seq ?_
        refine wc_region ?_   -- region 17
        refine wl_det rfl rfl (det_move rfl) rfl ?_
        obtain ⟨r17_1, hr17_1, h⟩ := bind_some h
        refine wl_act (act_callS (cap := []) (W_treatymade_Deck_Next (GDeck.mk s35.1 s35.2.1) 4 Ba0 A35_0 s35.1.length c35_0 r17_1 hr17_1) rfl rfl rfl bd45 ⟨_, r0, rfl⟩ ⟨m0, trivial⟩) rfl rfl rfl ?_
        rintro _ _ _ ⟨_, _, ⟨y17_1A0, y17_1n0, y17_1c0, rfl, rfl, rfl⟩, rfl, rfl⟩
        dsimp only [List.nil_append, List.cons_append]
        refine wl_know (fun _ h => h.lenF m0) (fun e => ?_)
        subst e
        refine wl_det rfl rfl (det_assign rfl) rfl ?_
        refine wl_nil ?_
        refine pn_then ?_
        refine wc_block ?_
        refine wc_st (fun _ h => h.zeroS (lInt .i64) 3 none) ?_
        obtain ⟨k44, hk44⟩ := loopV_some.1 h
        refine wc_loop (G := Nat × ((List Int) × Int × (List Int) × Int) × Option Addr × Nat × Nat × Option Addr × Nat × Nat × Unit) (fun g => IterN treatymade_Deck_Treaty_l44 g.1 g.2.1 q40) (fun g => g.1) (fun (_, s44, _, _, _, _, _, _, _) => [(0, .pointer (some ⟨Ba0, 0, none⟩)), (2, .int .i64 a2), (6, .pointer (some ⟨b0_0, 0, none⟩)), (7, .pointer (some ⟨b1_17, 0, none⟩)), (8, .int .i64 s44.2.2.2)]) (fun (_, s44, A44_0, n44_0, c44_0, A44_3, n44_3, c44_3, _) => [eBlk Ba0 71 [.slice A44_0 n44_0 c44_0, .int .i64 s44.2.1], eBlk b0_0 49 [.int .i64 0, .int .i64 0, .int .i64 0, .int .i64 0, .slice none 0 0, .slice none 0 0, .int .i64 0, .int .i64 0, .int .i64 0, .int .i64 0, .int .i64 0, .int .i64 0, .int .i64 0, .int .i64 0, .int .i64 0, .int .i64 0, .slice none 0 0, .bool false, .int .i64 0, .slice none 0 0, .slice none 0 0], eBlk b1_17 49 [.int .i64 a1, .int .i64 a2, .int .i64 r1_3.1, .int .i64 (w64 (60 + r1_5.1)), .slice y1_9A0 r1_9.1.length y1_9c0, .slice y1_11A0 r1_11.1.length y1_11c0, .int .i64 s4.2.2.1, .int .i64 s4.2.2.2.1, .int .i64 s4.2.2.2.2.1, .int .i64 s4.2.2.2.2.2.1, .int .i64 s4.2.2.2.2.2.2.1, .int .i64 s4.2.2.2.2.2.2.2, .int .i64 0, .int .i64 s30.2.2, .int .i64 s35.2.2, .int .i64 r1_13.1, .slice A44_3 n44_3 c44_3, .bool false, .int .i64 0, .slice none 0 0, .slice y1_15A0 r1_15.1.length y1_15c0], eS (lInt .i64) 3 y1_9A0 r1_9.1.length y1_9c0 r1_9.1, eS (lInt .i64) 3 y1_11A0 r1_11.1.length y1_11c0 r1_11.1, eS (lInt .i64) 3 A44_3 n44_3 c44_3 s44.2.2.1, eS lGPart 25 y1_15A0 r1_15.1.length y1_15c0 r1_15.1]) (fun (_, s44, A44_0, n44_0, c44_0, _, _, _, _) => [fV (lSlice (lInt .i64)) (.slice A44_0 n44_0 c44_0) s44.1]) (k44, (r17_1.2.L, r17_1.2.At, [], r17_1.1), y17_1A0, r17_1.2.L.length, y17_1c0, none, 0, 0, ()) hk44 ⟨rfl, rfl, rfl, rfl, rfl, trivial⟩ (fun _ h => h.to ⟨_, (rs r0), ⟨_, (rs r0), ⟨_, (rs r0), ⟨_, (rs r0), ⟨_, (rs r0), ⟨_, r0, ⟨_, r0, trivial⟩⟩⟩⟩⟩⟩⟩ ⟨m0, trivial⟩) ?_
        rintro ⟨k44, s44, A44_0, n44_0, c44_0, A44_3, n44_3, c44_3, _⟩ hI
        obtain ⟨k44, rfl, q44, h, g44⟩ := IterN.pos hI
        dsimp only at h ⊢
        unfold treatymade_Deck_Treaty_l44 at h
        refine wc_know (fun _ h => h.lenF m0) (fun e => ?_)
        subst e
        refine wc_know (fun _ h => h.lenO (ms (ms (ms (ms (ms m0)))))) (fun e => ?_)
        subst e
        refine wc_seq ?_
        refine wc_seq ?_
        refine wc_region ?_   -- region 18
        refine wl_det rfl rfl (det_move rfl) rfl ?_
        refine wl_det rfl rfl (det_gtr rfl rfl) rfl ?_
        refine wl_nil ?_
        refine pn_then ?_
        refine wc_cond rfl (fun cd48 => ?_) (fun cd48 => ?_)
        · have h := ifT h cd48
          refine wc_skip ?_
          refine pn_then ?_
          refine wc_seq ?_
          refine wc_block ?_
          refine dx_regionZ (Z := St C [_, _, _, _, _, _] [_]) 5 [[], [0], [], [2], [2, 3], [0, 1, 2, 3, 4], [0, 1, 2, 3, 4, 5], [0, 1, 2, 3, 4, 5, 6]] mixed (ord := (.det 0 (.det 1 (.det 2 (.alt 3 (.alt 4 .done .dead) .dead))))) (by kernel_rfl) (fun _ h => h.to ⟨_, (rs r0), ⟨_, (rs r0), ⟨_, (rs r0), ⟨_, (rs r0), ⟨_, (rs r0), ⟨_, (rs r0), trivial⟩⟩⟩⟩⟩⟩ ⟨m0, trivial⟩) ?_   -- region 20
          refine hx_det rfl rfl rfl nofun (det_field rfl fd49_15 rfl) rfl ?_
          refine hx_det rfl rfl rfl nofun (det_load rfl (ms m0) (by rfl) na23 us23) rfl ?_
          refine hx_det rfl rfl rfl nofun (det_move rfl) rfl ?_
          obtain ⟨r20_3, hr20_3, h⟩ := bind_some h
          refine hx_mut rfl rfl rfl (act_callS (cap := []) (W_treatymade_Deck_Upto (GDeck.mk s44.1 s44.2.1) 2000000 Ba0 A44_0 s44.1.length c44_0 r20_3 hr20_3) rfl rfl rfl bd28 ⟨_, r0, rfl⟩ ⟨m0, trivial⟩) rfl (by rintro _ _ _ ⟨_, _, ⟨y20_3A0, y20_3n0, y20_3c0, rfl, rfl, rfl⟩, rfl, rfl⟩ w hs; exact hs.to ⟨_, (rs r0), ⟨_, (rs r0), ⟨_, (rs r0), ⟨_, (rs r0), ⟨_, (rs r0), ⟨_, (rs r0), trivial⟩⟩⟩⟩⟩⟩ ⟨(ms m0), trivial⟩) ?_
          rintro _ _ _ ⟨_, _, ⟨y20_3A0, y20_3n0, y20_3c0, rfl, rfl, rfl⟩, rfl, rfl⟩
          dsimp only [List.nil_append, List.cons_append]
          refine hx_mut rfl rfl rfl (act_litS (lInt .i64) (vs := [_]) (cs := [_]) [r20_3.1] un23 in3 rfl rfl rfl rfl rfl ⟨rfl, trivial⟩ (by rfl) rfl (litR_flat rfl)) rfl (by rintro _ _ _ ⟨A20_4, rfl, rfl, rfl⟩ w hs; exact hs.to ⟨_, (rs (rs r0)), ⟨_, (rs (rs r0)), ⟨_, (rs (rs r0)), ⟨_, (rs (rs r0)), ⟨_, (rs (rs r0)), ⟨_, (rs (rs r0)), trivial⟩⟩⟩⟩⟩⟩ ⟨(ms m0), trivial⟩) ?_
          rintro _ _ _ ⟨A20_4, rfl, rfl, rfl⟩
          refine hx_end ?_
          refine wl_know (fun _ h => h.lenF m0) (fun e => ?_)
          subst e
          obtain ⟨k20_5, h⟩ := chk_some h
          refine wl_act (act_appendS (L := (lInt .i64)) rfl rfl (ss (ss (ss (ss (ss (ss s0)))))) (src_O m0) un23 in3 rfl rfl rfl k20_5) rfl rfl rfl ?_
          rintro _ _ _ ⟨A20_5, c20_5, rfl, rfl, rfl⟩
          refine wl_det rfl rfl (det_field rfl fd49_15 rfl) rfl ?_
          refine wl_act0 (act_store (cells := [_]) (cs' := [_, _, _, _, _, _, _, _, _, _, _, _, _, _, _, _, _, _, _, _, _]) rfl rfl rfl (ss (ss (ss s0))) (by rfl) (of_decide_eq_true rfl) sz23 ⟨rfl, trivial⟩) rfl rfl ?_
          rintro _ _ _ ⟨rfl, rfl⟩
          refine wl_nil ?_
          refine pn_block ?_
          refine pn_then ?_
          refine wc_region ?_   -- region 19
          refine wl_det rfl rfl (det_move rfl) rfl ?_
          refine wl_det rfl rfl (det_sub rfl rfl) rfl ?_
          refine wl_det rfl rfl (det_assign rfl) rfl ?_
          refine wl_nil ?_
          replace h := Option.some.inj h
          subst h
          exact pn_some (k44, (r20_3.2.L, r20_3.2.At, (s44.2.2.1 ++ [r20_3.1]), (w64 (s44.2.2.2 - 1))), y20_3A0, r20_3.2.L.length, y20_3c0, A20_5, (s44.2.2.1 ++ [r20_3.1]).length, c20_5, ()) ⟨nextL g44, Nat.lt_succ_self _⟩ ⟨rfl, rfl, rfl, rfl, rfl, trivial⟩ (fun _ h => h.to ⟨_, (rs r0), ⟨_, (rs r0), ⟨_, (rs r0), ⟨_, (rs r0), ⟨_, (rs r0), ⟨_, (rs r0), ⟨_, (rs r0), trivial⟩⟩⟩⟩⟩⟩⟩ ⟨m0, trivial⟩)
        · have h := ifF h cd48
          refine wc_exit ?_
          refine px_then ?_
          refine px_then ?_
          refine px_block ?_
          replace h := Option.some.inj h
          subst h
          replace g44 := nextR g44
          subst g44
          exact pn_meetG ((s44.1, s44.2.1, s44.2.2.1), A44_0, s44.1.length, c44_0, A44_3, s44.2.2.1.length, c44_3, ()) rfl ⟨rfl, rfl, rfl, rfl, trivial⟩ (fun _ h => h.to ⟨_, r0, ⟨_, r0, ⟨_, r0, ⟨_, r0, ⟨_, r0, ⟨_, r0, ⟨_, r0, trivial⟩⟩⟩⟩⟩⟩⟩ ⟨m0, trivial⟩)
      rintro ⟨s40, A40_0, n40_0, c40_0, A40_3, n40_3, c40_3, _⟩ e40
      dsimp only at e40 ⊢
      subst e40
      have h := ho40
      refine wc_know (fun _ h => h.lenF m0) (fun e => ?_)
      subst e
      refine wc_know (fun _ h => h.lenO (ms (ms (ms (ms (ms m0)))))) (fun e => ?_)
      subst e
      refine wc_region ?_   -- region 21
      refine wl_det rfl rfl (det_field rfl fd49_15 rfl) rfl ?_
      refine wl_det rfl rfl (det_load rfl (ms (ms m0)) (by rfl) na23 us23) rfl ?_
      refine wl_det rfl rfl (det_len rfl un23) rfl ?_
      refine wl_det rfl rfl (det_gtr rfl rfl) rfl ?_
      refine wl_det rfl rfl (det_move rfl) rfl ?_
      rcases Bool.eq_false_or_eq_true (decide (0 < (s40.2.2.length : Int))) with hg21_f5 | hg21_f5
      · have h := ifT h hg21_f5
        refine wl_on rfl rfl rfl rfl hg21_f5 ?_
        refine wl_det rfl rfl (det_move rfl) rfl ?_
        refine wl_on rfl rfl rfl rfl hg21_f5 ?_
        obtain ⟨r21_6, hr21_6, h⟩ := bind_some h
        refine wl_act (act_callS (cap := []) (W_treatymade_Deck_Next (GDeck.mk s40.1 s40.2.1) 2 Ba0 A40_0 s40.1.length c40_0 r21_6 hr21_6) rfl rfl rfl bd45 ⟨_, r0, rfl⟩ ⟨m0, trivial⟩) rfl rfl rfl ?_
        rintro _ _ _ ⟨_, _, ⟨y21_6A0, y21_6n0, y21_6c0, rfl, rfl, rfl⟩, rfl, rfl⟩
        dsimp only [List.nil_append, List.cons_append]
        refine wl_know (fun _ h => h.lenF m0) (fun e => ?_)
        subst e
        refine wl_on rfl rfl rfl rfl hg21_f5 ?_
        refine wl_det rfl rfl (det_eql rfl rfl) rfl ?_
        refine wl_det rfl rfl (det_pick_on rfl hg21_f5 rfl rfl) rfl ?_
        refine wl_det rfl rfl (det_field rfl fd49_16 rfl) rfl ?_
        refine wl_act0 (act_store (cells := [_]) (cs' := [_, _, _, _, _, _, _, _, _, _, _, _, _, _, _, _, _, _, _, _, _]) rfl rfl rfl (ss (ss s0)) (by rfl) (of_decide_eq_true rfl) sz4 ⟨rfl, trivial⟩) rfl rfl ?_
        rintro _ _ _ ⟨rfl, rfl⟩
        refine wl_nil ?_
        replace h := Option.some.inj h
        subst h
        exact pn_meetG ((r21_6.2.L, r21_6.2.At, s30.2.2, s35.2.2, s40.2.2, (decide (r21_6.1 = 1))), y21_6A0, r21_6.2.L.length, y21_6c0, A40_3, s40.2.2.length, c40_3, ()) rfl ⟨rfl, rfl, rfl, rfl, trivial⟩ (fun _ h => h.to ⟨_, r0, ⟨_, r0, ⟨_, r0, ⟨_, r0, ⟨_, r0, ⟨_, r0, ⟨_, r0, trivial⟩⟩⟩⟩⟩⟩⟩ ⟨m0, trivial⟩)
      · have h := ifF h hg21_f5
        refine wl_off rfl rfl rfl rfl rfl hg21_f5 rfl ?_
        refine wl_off rfl rfl rfl rfl rfl hg21_f5 rfl ?_
        refine wl_off rfl rfl rfl rfl rfl hg21_f5 rfl ?_
        refine wl_det rfl rfl (det_pick_off rfl hg21_f5 rfl rfl) rfl ?_
        refine wl_det rfl rfl (det_field rfl fd49_16 rfl) rfl ?_
        refine wl_act0 (act_store (cells := [_]) (cs' := [_, _, _, _, _, _, _, _, _, _, _, _, _, _, _, _, _, _, _, _, _]) rfl rfl rfl (ss (ss s0)) (by rfl) (of_decide_eq_true rfl) sz4 ⟨rfl, trivial⟩) rfl rfl ?_
        rintro _ _ _ ⟨rfl, rfl⟩
        refine wl_nil ?_
        replace h := Option.some.inj h
        subst h
        exact pn_meetG ((s40.1, s40.2.1, s30.2.2, s35.2.2, s40.2.2, false), A40_0, s40.1.length, c40_0, A40_3, s40.2.2.length, c40_3, ()) rfl ⟨rfl, rfl, rfl, rfl, trivial⟩ (fun _ h => h.to ⟨_, r0, ⟨_, r0, ⟨_, r0, ⟨_, r0, ⟨_, r0, ⟨_, r0, ⟨_, r0, trivial⟩⟩⟩⟩⟩⟩⟩ ⟨m0, trivial⟩)
    · have h := ifF h cd29
      refine wc_skip ?_
      refine pn_st (fun _ h => h.zeroS (lInt .i64) 3 none) ?_
      replace h := Option.some.inj h
      subst h
      exact pn_meetG ((s4.1, s4.2.1, 0, 0, [], false), A4_0, s4.1.length, c4_0, none, 0, 0, ()) rfl ⟨rfl, rfl, rfl, rfl, trivial⟩ (fun _ h => h.to ⟨_, (rs r0), ⟨_, (rs r0), ⟨_, (rs r0), ⟨_, (rs r0), ⟨_, (rs r0), ⟨_, r0, ⟨_, r0, trivial⟩⟩⟩⟩⟩⟩⟩ ⟨m0, trivial⟩)
  rintro ⟨s26, A26_0, n26_0, c26_0, A26_3, n26_3, c26_3, _⟩ e26
  dsimp only at e26 ⊢
  subst e26
  have h := ho26
  refine wc_know (fun _ h => h.lenF m0) (fun e => ?_)
  subst e
  refine wc_know (fun _ h => h.lenO (ms (ms (ms (ms (ms m0)))))) (fun e => ?_)
  subst e
  obtain ⟨q55, h, ho55⟩ := bind_some h
  refine wc_meetG (G := ((List Int) × Int × Int) × Option Addr × Nat × Nat × Unit) (fun (s55, _, _, _, _) => s55 = q55) (fun (_, _, _, _, _) => [(0, .pointer (some ⟨Ba0, 0, none⟩)), (2, .int .i64 a2), (6, .pointer (some ⟨b0_0, 0, none⟩)), (7, .pointer (some ⟨b1_17, 0, none⟩))]) (fun (s55, A55_0, n55_0, c55_0, _) => [eBlk Ba0 71 [.slice A55_0 n55_0 c55_0, .int .i64 s55.2.1], eBlk b0_0 49 [.int .i64 0, .int .i64 0, .int .i64 0, .int .i64 0, .slice none 0 0, .slice none 0 0, .int .i64 0, .int .i64 0, .int .i64 0, .int .i64 0, .int .i64 0, .int .i64 0, .int .i64 0, .int .i64 0, .int .i64 0, .int .i64 0, .slice none 0 0, .bool false, .int .i64 0, .slice none 0 0, .slice none 0 0], eBlk b1_17 49 [.int .i64 a1, .int .i64 a2, .int .i64 r1_3.1, .int .i64 (w64 (60 + r1_5.1)), .slice y1_9A0 r1_9.1.length y1_9c0, .slice y1_11A0 r1_11.1.length y1_11c0, .int .i64 s4.2.2.1, .int .i64 s4.2.2.2.1, .int .i64 s4.2.2.2.2.1, .int .i64 s4.2.2.2.2.2.1, .int .i64 s4.2.2.2.2.2.2.1, .int .i64 s4.2.2.2.2.2.2.2, .int .i64 0, .int .i64 s26.2.2.1, .int .i64 s26.2.2.2.1, .int .i64 r1_13.1, .slice A26_3 s26.2.2.2.2.1.length c26_3, .bool s26.2.2.2.2.2, .int .i64 s55.2.2, .slice none 0 0, .slice y1_15A0 r1_15.1.length y1_15c0], eS (lInt .i64) 3 y1_9A0 r1_9.1.length y1_9c0 r1_9.1, eS (lInt .i64) 3 y1_11A0 r1_11.1.length y1_11c0 r1_11.1, eS (lInt .i64) 3 A26_3 s26.2.2.2.2.1.length c26_3 s26.2.2.2.2.1, eS lGPart 25 y1_15A0 r1_15.1.length y1_15c0 r1_15.1]) (fun (s55, A55_0, n55_0, c55_0, _) => [fV (lSlice (lInt .i64)) (.slice A55_0 n55_0 c55_0) s55.1]) ?_ ?_
  · obtain ⟨q56, h, ho56⟩ := bind_some h
    refine wc_meetG (G := ((List Int) × Int × Bool) × Option Addr × Nat × Nat × Unit) (fun (s56, _, _, _, _) => s56 = q56) (fun (s56, _, _, _, _) => [(0, .pointer (some ⟨Ba0, 0, none⟩)), (2, .int .i64 a2), (6, .pointer (some ⟨b0_0, 0, none⟩)), (7, .pointer (some ⟨b1_17, 0, none⟩)), (111, .bool s56.2.2)]) (fun (s56, A56_0, n56_0, c56_0, _) => [eBlk Ba0 71 [.slice A56_0 n56_0 c56_0, .int .i64 s56.2.1], eBlk b0_0 49 [.int .i64 0, .int .i64 0, .int .i64 0, .int .i64 0, .slice none 0 0, .slice none 0 0, .int .i64 0, .int .i64 0, .int .i64 0, .int .i64 0, .int .i64 0, .int .i64 0, .int .i64 0, .int .i64 0, .int .i64 0, .int .i64 0, .slice none 0 0, .bool false, .int .i64 0, .slice none 0 0, .slice none 0 0], eBlk b1_17 49 [.int .i64 a1, .int .i64 a2, .int .i64 r1_3.1, .int .i64 (w64 (60 + r1_5.1)), .slice y1_9A0 r1_9.1.length y1_9c0, .slice y1_11A0 r1_11.1.length y1_11c0, .int .i64 s4.2.2.1, .int .i64 s4.2.2.2.1, .int .i64 s4.2.2.2.2.1, .int .i64 s4.2.2.2.2.2.1, .int .i64 s4.2.2.2.2.2.2.1, .int .i64 s4.2.2.2.2.2.2.2, .int .i64 0, .int .i64 s26.2.2.1, .int .i64 s26.2.2.2.1, .int .i64 r1_13.1, .slice A26_3 s26.2.2.2.2.1.length c26_3, .bool s26.2.2.2.2.2, .int .i64 0, .slice none 0 0, .slice y1_15A0 r1_15.1.length y1_15c0], eS (lInt .i64) 3 y1_9A0 r1_9.1.length y1_9c0 r1_9.1, eS (lInt .i64) 3 y1_11A0 r1_11.1.length y1_11c0 r1_11.1, eS (lInt .i64) 3 A26_3 s26.2.2.2.2.1.length c26_3 s26.2.2.2.2.1, eS lGPart 25 y1_15A0 r1_15.1.length y1_15c0 r1_15.1]) (fun (s56, A56_0, n56_0, c56_0, _) => [fV (lSlice (lInt .i64)) (.slice A56_0 n56_0 c56_0) s56.1]) ?_ ?_
    · refine wc_region ?_   -- region 22
      refine wl_det rfl rfl (det_move rfl) rfl ?_
      refine wl_det rfl rfl (det_eql rfl rfl) rfl ?_
      refine wl_det rfl rfl (det_move rfl) rfl ?_
      rcases Bool.eq_false_or_eq_true (decide (a2 = 4)) with hg22_f3 | hg22_f3
      · have h := ifT h hg22_f3
        refine wl_on rfl rfl rfl rfl hg22_f3 ?_
        refine wl_det rfl rfl (det_move rfl) rfl ?_
        refine wl_on rfl rfl rfl rfl hg22_f3 ?_
        obtain ⟨r22_4, hr22_4, h⟩ := bind_some h
        refine wl_act (act_callS (cap := []) (W_treatymade_Deck_Next (GDeck.mk s26.1 s26.2.1) 2 Ba0 A26_0 s26.1.length c26_0 r22_4 hr22_4) rfl rfl rfl bd45 ⟨_, r0, rfl⟩ ⟨m0, trivial⟩) rfl rfl rfl ?_
        rintro _ _ _ ⟨_, _, ⟨y22_4A0, y22_4n0, y22_4c0, rfl, rfl, rfl⟩, rfl, rfl⟩
        dsimp only [List.nil_append, List.cons_append]
        refine wl_know (fun _ h => h.lenF m0) (fun e => ?_)
        subst e
        refine wl_on rfl rfl rfl rfl hg22_f3 ?_
        refine wl_det rfl rfl (det_eql rfl rfl) rfl ?_
        refine wl_det rfl rfl (det_pick_on rfl hg22_f3 rfl rfl) rfl ?_
        refine wl_nil ?_
        replace h := Option.some.inj h
        subst h
        exact pn_meetG ((r22_4.2.L, r22_4.2.At, (decide (r22_4.1 = 1))), y22_4A0, r22_4.2.L.length, y22_4c0, ()) rfl ⟨rfl, rfl, rfl, rfl, rfl, trivial⟩ (fun _ h => h.to ⟨_, r0, ⟨_, r0, ⟨_, r0, ⟨_, r0, ⟨_, r0, ⟨_, r0, ⟨_, r0, trivial⟩⟩⟩⟩⟩⟩⟩ ⟨m0, trivial⟩)
      · have h := ifF h hg22_f3
        refine wl_off rfl rfl rfl rfl rfl hg22_f3 rfl ?_
        refine wl_off rfl rfl rfl rfl rfl hg22_f3 rfl ?_
        refine wl_off rfl rfl rfl rfl rfl hg22_f3 rfl ?_
        refine wl_det rfl rfl (det_pick_off rfl hg22_f3 rfl rfl) rfl ?_
        refine wl_nil ?_
        replace h := Option.some.inj h
        subst h
        exact pn_meetG ((s26.1, s26.2.1, false), A26_0, s26.1.length, c26_0, ()) rfl ⟨rfl, rfl, rfl, rfl, rfl, trivial⟩ (fun _ h => h.to ⟨_, r0, ⟨_, r0, ⟨_, r0, ⟨_, r0, ⟨_, r0, ⟨_, r0, ⟨_, r0, trivial⟩⟩⟩⟩⟩⟩⟩ ⟨m0, trivial⟩)
    rintro ⟨s56, A56_0, n56_0, c56_0, _⟩ e56
    dsimp only at e56 ⊢
    subst e56
    have h := ho56
    refine wc_know (fun _ h => h.lenF m0) (fun e => ?_)
    subst e
    refine wc_cond rfl (fun cd58 => ?_) (fun cd58 => ?_)
    · have h := ifT h cd58
      refine wc_region ?_   -- region 23
      refine wl_det rfl rfl (det_move rfl) rfl ?_
      obtain ⟨r23_1, hr23_1, h⟩ := bind_some h
      refine wl_act (act_callS (cap := []) (W_treatymade_Deck_Upto (GDeck.mk s56.1 s56.2.1) 1000 Ba0 A56_0 s56.1.length c56_0 r23_1 hr23_1) rfl rfl rfl bd28 ⟨_, r0, rfl⟩ ⟨m0, trivial⟩) rfl rfl rfl ?_
      rintro _ _ _ ⟨_, _, ⟨y23_1A0, y23_1n0, y23_1c0, rfl, rfl, rfl⟩, rfl, rfl⟩
      dsimp only [List.nil_append, List.cons_append]
      refine wl_know (fun _ h => h.lenF m0) (fun e => ?_)
      subst e
      refine wl_det rfl rfl (det_add rfl rfl) rfl ?_
      refine wl_det rfl rfl (det_field rfl fd49_17 rfl) rfl ?_
      refine wl_act0 (act_store (cells := [_]) (cs' := [_, _, _, _, _, _, _, _, _, _, _, _, _, _, _, _, _, _, _, _, _]) rfl rfl rfl (ss (ss s0)) (by rfl) (of_decide_eq_true rfl) sz3 ⟨rfl, trivial⟩) rfl rfl ?_
      rintro _ _ _ ⟨rfl, rfl⟩
      refine wl_nil ?_
      replace h := Option.some.inj h
      subst h
      exact pn_meetG ((r23_1.2.L, r23_1.2.At, (w64 (1 + r23_1.1))), y23_1A0, r23_1.2.L.length, y23_1c0, ()) rfl ⟨rfl, rfl, rfl, rfl, trivial⟩ (fun _ h => h.to ⟨_, r0, ⟨_, r0, ⟨_, r0, ⟨_, r0, ⟨_, r0, ⟨_, r0, ⟨_, r0, trivial⟩⟩⟩⟩⟩⟩⟩ ⟨m0, trivial⟩)
    · have h := ifF h cd58
      refine wc_skip ?_
      replace h := Option.some.inj h
      subst h
      exact pn_meetG ((s56.1, s56.2.1, 0), A56_0, s56.1.length, c56_0, ()) rfl ⟨rfl, rfl, rfl, rfl, trivial⟩ (fun _ h => h.to ⟨_, r0, ⟨_, r0, ⟨_, r0, ⟨_, r0, ⟨_, r0, ⟨_, r0, ⟨_, r0, trivial⟩⟩⟩⟩⟩⟩⟩ ⟨m0, trivial⟩)
  rintro ⟨s55, A55_0, n55_0, c55_0, _⟩ e55
  dsimp only at e55 ⊢
  subst e55
  have h := ho55
  refine wc_know (fun _ h => h.lenF m0) (fun e => ?_)
  subst e
  obtain ⟨q60, h, ho60⟩ := bind_some h
  refine wc_meetG (G := ((List Int) × Int × Int) × Option Addr × Nat × Nat × Unit) (fun (s60, _, _, _, _) => s60 = q60) (fun (_, _, _, _, _) => [(6, .pointer (some ⟨b0_0, 0, none⟩)), (7, .pointer (some ⟨b1_17, 0, none⟩))]) (fun (s60, A60_0, n60_0, c60_0, _) => [eBlk Ba0 71 [.slice A60_0 n60_0 c60_0, .int .i64 s60.2.1], eBlk b0_0 49 [.int .i64 0, .int .i64 0, .int .i64 0, .int .i64 0, .slice none 0 0, .slice none 0 0, .int .i64 0, .int .i64 0, .int .i64 0, .int .i64 0, .int .i64 0, .int .i64 0, .int .i64 0, .int .i64 0, .int .i64 0, .int .i64 0, .slice none 0 0, .bool false, .int .i64 0, .slice none 0 0, .slice none 0 0], eBlk b1_17 49 [.int .i64 a1, .int .i64 a2, .int .i64 r1_3.1, .int .i64 (w64 (60 + r1_5.1)), .slice y1_9A0 r1_9.1.length y1_9c0, .slice y1_11A0 r1_11.1.length y1_11c0, .int .i64 s4.2.2.1, .int .i64 s4.2.2.2.1, .int .i64 s4.2.2.2.2.1, .int .i64 s4.2.2.2.2.2.1, .int .i64 s4.2.2.2.2.2.2.1, .int .i64 s4.2.2.2.2.2.2.2, .int .i64 s60.2.2, .int .i64 s26.2.2.1, .int .i64 s26.2.2.2.1, .int .i64 r1_13.1, .slice A26_3 s26.2.2.2.2.1.length c26_3, .bool s26.2.2.2.2.2, .int .i64 s55.2.2, .slice none 0 0, .slice y1_15A0 r1_15.1.length y1_15c0], eS (lInt .i64) 3 y1_9A0 r1_9.1.length y1_9c0 r1_9.1, eS (lInt .i64) 3 y1_11A0 r1_11.1.length y1_11c0 r1_11.1, eS (lInt .i64) 3 A26_3 s26.2.2.2.2.1.length c26_3 s26.2.2.2.2.1, eS lGPart 25 y1_15A0 r1_15.1.length y1_15c0 r1_15.1]) (fun (s60, A60_0, n60_0, c60_0, _) => [fV (lSlice (lInt .i64)) (.slice A60_0 n60_0 c60_0) s60.1]) ?_ ?_
  · refine wc_seq ?_
    refine wc_region ?_   -- region 24
    refine wl_det rfl rfl (det_move rfl) rfl ?_
    refine wl_det rfl rfl (det_eql rfl rfl) rfl ?_
    refine wl_nil ?_
    refine pn_then ?_
    refine wc_cond rfl (fun cd63 => ?_) (fun cd63 => ?_)
    · have h := ifT h cd63
      refine wc_region ?_   -- region 25
      refine wl_det rfl rfl (det_move rfl) rfl ?_
      obtain ⟨r25_1, hr25_1, h⟩ := bind_some h
      refine wl_act (act_callS (cap := []) (W_treatymade_Deck_Range (GDeck.mk s55.1 s55.2.1) 1 30 Ba0 A55_0 s55.1.length c55_0 r25_1 hr25_1) rfl rfl rfl bd55 ⟨_, r0, rfl⟩ ⟨m0, trivial⟩) rfl rfl rfl ?_
      rintro _ _ _ ⟨_, _, ⟨y25_1A0, y25_1n0, y25_1c0, rfl, rfl, rfl⟩, rfl, rfl⟩
      dsimp only [List.nil_append, List.cons_append]
      refine wl_know (fun _ h => h.lenF m0) (fun e => ?_)
      subst e
      refine wl_det rfl rfl (det_field rfl fd49_11 rfl) rfl ?_
      refine wl_act0 (act_store (cells := [_]) (cs' := [_, _, _, _, _, _, _, _, _, _, _, _, _, _, _, _, _, _, _, _, _]) rfl rfl rfl (ss (ss s0)) (by rfl) (of_decide_eq_true rfl) sz3 ⟨rfl, trivial⟩) rfl rfl ?_
      rintro _ _ _ ⟨rfl, rfl⟩
      refine wl_nil ?_
      replace h := Option.some.inj h
      subst h
      exact pn_meetG ((r25_1.2.L, r25_1.2.At, r25_1.1), y25_1A0, r25_1.2.L.length, y25_1c0, ()) rfl ⟨rfl, rfl, trivial⟩ (fun _ h => h.to ⟨_, r0, ⟨_, r0, ⟨_, r0, ⟨_, r0, ⟨_, r0, ⟨_, r0, ⟨_, r0, trivial⟩⟩⟩⟩⟩⟩⟩ ⟨m0, trivial⟩)
    · have h := ifF h cd63
      refine wc_skip ?_
      replace h := Option.some.inj h
      subst h
      exact pn_meetG ((s55.1, s55.2.1, 0), A55_0, s55.1.length, c55_0, ()) rfl ⟨rfl, rfl, trivial⟩ (fun _ h => h.to ⟨_, r0, ⟨_, r0, ⟨_, r0, ⟨_, r0, ⟨_, r0, ⟨_, r0, ⟨_, r0, trivial⟩⟩⟩⟩⟩⟩⟩ ⟨m0, trivial⟩)
  rintro ⟨s60, A60_0, n60_0, c60_0, _⟩ e60
  dsimp only at e60 ⊢
  subst e60
  have h := ho60
  refine wc_know (fun _ h => h.lenF m0) (fun e => ?_)
  subst e
  refine wc_seq ?_
  refine wc_region ?_   -- region 26
  refine wl_det rfl rfl (det_loadN (cells := [_, _, _, _, _, _, _, _, _, _, _, _, _, _, _, _, _, _, _, _, _]) rfl (ms (ms m0)) (by rfl) ag49 sz49) rfl ?_
  refine wl_act0 (act_store (cells := [_, _, _, _, _, _, _, _, _, _, _, _, _, _, _, _, _, _, _, _, _]) (cs' := [_, _, _, _, _, _, _, _, _, _, _, _, _, _, _, _, _, _, _, _, _]) rfl rfl rfl (ss s0) (by rfl) (of_decide_eq_true rfl) sz49 ⟨rfl, rfl, rfl, rfl, rfl, rfl, rfl, rfl, rfl, rfl, rfl, rfl, rfl, rfl, rfl, rfl, rfl, rfl, rfl, rfl, rfl, trivial⟩) rfl rfl ?_
  rintro _ _ _ ⟨rfl, rfl⟩
  refine wl_nil ?_
  refine pn_then ?_
  refine wc_ret ?_
  refine pn_st (fun _ h => h.zeroS (lInt .i64) 3 none) ?_
  replace h := Option.some.inj h
  subst h
  refine pn_ret (vs := [_]) rfl ⟨⟨_, _, [_, _, _, _, _, _, _, _, _, _, _, _, _, _, _, _, _, _, _, _, _], rfl, (ms (ms m0)), ag49, sz49, rfl⟩, trivial⟩ ⟨y1_9A0, r1_9.1.length, y1_9c0, y1_11A0, r1_11.1.length, y1_11c0, A26_3, s26.2.2.2.2.1.length, c26_3, none, 0, 0, y1_15A0, r1_15.1.length, y1_15c0, A60_0, s60.1.length, c60_0, rfl, rfl, rfl⟩ (fun _ h => h.to ⟨_, (rs (rs (rs (rs r0)))), ⟨_, (rs (rs (rs (rs r0)))), ⟨_, (rs (rs (rs (rs r0)))), ⟨_, r0, ⟨_, (rs (rs (rs r0))), ⟨_, r0, trivial⟩⟩⟩⟩⟩⟩ ⟨m0, trivial⟩)
def Q_treatylaw20_made (r : GTreaty × GDeck) : Value → List Ent → List Fact → Prop := fun v θ κ => ∃ (pA0 : Option Addr), ∃ (pn0 : Nat), ∃ (pc0 : Nat), ∃ (pA1 : Option Addr), ∃ (pn1 : Nat), ∃ (pc1 : Nat), ∃ (pA2 : Option Addr), ∃ (pn2 : Nat), ∃ (pc2 : Nat), ∃ (pA3 : Option Addr), ∃ (pn3 : Nat), ∃ (pc3 : Nat), ∃ (pA4 : Option Addr), ∃ (pn4 : Nat), ∃ (pc4 : Nat), ∃ (pb5 : Nat), ∃ (pA6 : Option Addr), ∃ (pn6 : Nat), ∃ (pc6 : Nat), v = .tuple #[.agg #[.int .i64 r.1.ID, .int .i64 r.1.Kind, .int .i64 r.1.Period.From, .int .i64 r.1.Period.To, .slice pA0 pn0 pc0, .slice pA1 pn1 pc1, .int .i64 r.1.Risk, .int .i64 r.1.Cession, .int .i64 r.1.Line, .int .i64 r.1.Lines, .int .i64 r.1.Retention, .int .i64 r.1.Limit, .int .i64 r.1.Window, .int .i64 r.1.Deductible, .int .i64 r.1.Aggregate, .int .i64 r.1.Premium, .slice pA2 pn2 pc2, .bool r.1.Timed, .int .i64 r.1.Base, .slice pA3 pn3 pc3, .slice pA4 pn4 pc4], .pointer (some ⟨pb5, 0, none⟩)] ∧ θ = [eS (lInt .i64) 3 pA0 pn0 pc0 r.1.Perils, eS (lInt .i64) 3 pA1 pn1 pc1 r.1.Areas, eS (lInt .i64) 3 pA2 pn2 pc2 r.1.Reinstatements, eS (lInt .i64) 3 pA3 pn3 pc3 r.1.Inures, eS lGPart 25 pA4 pn4 pc4 r.1.Parts, eBlk pb5 71 [.slice pA6 pn6 pc6, .int .i64 r.2.At]] ∧ κ = [fV (lSlice (lInt .i64)) (.slice pA6 pn6 pc6) r.2.L]
set_option maxHeartbeats 4000000 in
set_option maxRecDepth 100000 in
theorem W_treatylaw20_made (a0 : (List Int)) (A0 : Option Addr) (n0 : Nat) (c0 : Nat) (r : GTreaty × GDeck) (h : treatylaw20_made a0 = some r) : Spec Try.prog 40 [.slice A0 n0 c0] [] [fV (lSlice (lInt .i64)) (.slice A0 n0 c0) a0] (Q_treatylaw20_made r) := by
  unfold treatylaw20_made at h
  refine spec_of (σ := [(0, _)]) Try.func40 rfl rfl rfl rfl ?_
  intro C
  refine wc_know (fun _ h => h.lenF m0) (fun e => ?_)
  subst e
  refine wc_seq ?_
  refine wc_region ?_   -- region 0
  refine wl_act (act_alloc (cs := [_, _, _, _, _, _, _, _, _, _, _, _, _, _, _, _, _, _, _, _, _]) zr49 rfl) rfl rfl rfl ?_
  rintro _ _ _ ⟨b0_0, rfl, rfl, rfl⟩
  refine wl_det rfl rfl (det_assign rfl) rfl ?_
  refine wl_nil ?_
  refine pn_then ?_
  refine wc_seq ?_
  refine wc_region ?_   -- region 1
  refine wl_det rfl rfl (det_move rfl) rfl ?_
  obtain ⟨r1_1, hr1_1, h⟩ := bind_some h
  refine wl_act (act_callS (cap := []) (W_treatymade_New a0 A0 a0.length c0 r1_1 hr1_1) rfl rfl rfl bd16 rfl ⟨m0, trivial⟩) rfl rfl rfl ?_
  rintro _ _ _ ⟨_, _, ⟨y1_1b0, y1_1A1, y1_1n1, y1_1c1, rfl, rfl, rfl⟩, rfl, rfl⟩
  dsimp only [List.nil_append, List.cons_append]
  refine wl_know (fun _ h => h.lenF m0) (fun e => ?_)
  subst e
  refine wl_det rfl rfl (det_assign rfl) rfl ?_
  refine wl_nil ?_
  refine pn_then ?_
  refine wc_seq ?_
  refine wc_region ?_   -- region 2
  refine wl_det rfl rfl (det_move rfl) rfl ?_
  refine wl_det rfl rfl (det_move rfl) rfl ?_
  obtain ⟨r2_2, hr2_2, h⟩ := bind_some h
  refine wl_act (act_callS (cap := []) (W_treatymade_Deck_Range r1_1 1 9 y1_1b0 y1_1A1 r1_1.L.length y1_1c1 r2_2 hr2_2) rfl rfl rfl bd55 ⟨_, r0, rfl⟩ ⟨m0, trivial⟩) rfl rfl rfl ?_
  rintro _ _ _ ⟨_, _, ⟨y2_2A0, y2_2n0, y2_2c0, rfl, rfl, rfl⟩, rfl, rfl⟩
  dsimp only [List.nil_append, List.cons_append]
  refine wl_know (fun _ h => h.lenF m0) (fun e => ?_)
  subst e
  refine wl_det rfl rfl (det_move rfl) rfl ?_
  obtain ⟨r2_4, hr2_4, h⟩ := bind_some h
  refine wl_act (act_callS (cap := []) (W_treatymade_Deck_Range r2_2.2 1 6 y1_1b0 y2_2A0 r2_2.2.L.length y2_2c0 r2_4 hr2_4) rfl rfl rfl bd55 ⟨_, r0, rfl⟩ ⟨m0, trivial⟩) rfl rfl rfl ?_
  rintro _ _ _ ⟨_, _, ⟨y2_4A0, y2_4n0, y2_4c0, rfl, rfl, rfl⟩, rfl, rfl⟩
  dsimp only [List.nil_append, List.cons_append]
  refine wl_know (fun _ h => h.lenF m0) (fun e => ?_)
  subst e
  obtain ⟨r2_5, hr2_5, h⟩ := bind_some h
  refine wl_act (act_callS (cap := []) (W_treatymade_Deck_Treaty r2_4.2 r2_2.1 r2_4.1 y1_1b0 y2_4A0 r2_4.2.L.length y2_4c0 r2_5 hr2_5) rfl rfl rfl bd37 ⟨_, r0, rfl⟩ ⟨m0, trivial⟩) rfl rfl rfl ?_
  rintro _ _ _ ⟨_, _, ⟨y2_5A0, y2_5n0, y2_5c0, y2_5A1, y2_5n1, y2_5c1, y2_5A2, y2_5n2, y2_5c2, y2_5A3, y2_5n3, y2_5c3, y2_5A4, y2_5n4, y2_5c4, y2_5A5, y2_5n5, y2_5c5, rfl, rfl, rfl⟩, rfl, rfl⟩
  dsimp only [List.nil_append, List.cons_append]
  refine wl_know (fun _ h => h.lenO m0) (fun e => ?_)
  subst e
  refine wl_know (fun _ h => h.lenO (ms m0)) (fun e => ?_)
  subst e
  refine wl_know (fun _ h => h.lenO (ms (ms m0))) (fun e => ?_)
  subst e
  refine wl_know (fun _ h => h.lenO (ms (ms (ms m0)))) (fun e => ?_)
  subst e
  refine wl_know (fun _ h => h.lenO (ms (ms (ms (ms m0))))) (fun e => ?_)
  subst e
  refine wl_know (fun _ h => h.lenF m0) (fun e => ?_)
  subst e
  refine wl_det rfl rfl (det_move rfl) rfl ?_
  refine wl_act0 (act_store (cells := [_, _, _, _, _, _, _, _, _, _, _, _, _, _, _, _, _, _, _, _, _]) (cs' := [_, _, _, _, _, _, _, _, _, _, _, _, _, _, _, _, _, _, _, _, _]) rfl rfl rfl (ss (ss (ss (ss (ss (ss s0)))))) (by rfl) (of_decide_eq_true rfl) sz49 ⟨rfl, rfl, rfl, rfl, rfl, rfl, rfl, rfl, rfl, rfl, rfl, rfl, rfl, rfl, rfl, rfl, rfl, rfl, rfl, rfl, rfl, trivial⟩) rfl rfl ?_
  rintro _ _ _ ⟨rfl, rfl⟩
  refine wl_det rfl rfl (det_assign rfl) rfl ?_
  refine wl_nil ?_
  refine pn_then ?_
  refine wc_ret ?_
  replace h := Option.some.inj h
  subst h
  refine pn_ret (vs := [_, _]) rfl ⟨⟨_, _, [_, _, _, _, _, _, _, _, _, _, _, _, _, _, _, _, _, _, _, _, _], rfl, (ms (ms (ms (ms (ms (ms m0)))))), ag49, sz49, rfl⟩, rfl, trivial⟩ ⟨y2_5A0, r2_5.1.Perils.length, y2_5c0, y2_5A1, r2_5.1.Areas.length, y2_5c1, y2_5A2, r2_5.1.Reinstatements.length, y2_5c2, y2_5A3, r2_5.1.Inures.length, y2_5c3, y2_5A4, r2_5.1.Parts.length, y2_5c4, y1_1b0, y2_5A5, r2_5.2.L.length, y2_5c5, rfl, rfl, rfl⟩ (fun _ h => h.to ⟨_, r0, ⟨_, r0, ⟨_, r0, ⟨_, r0, ⟨_, r0, ⟨_, r0, trivial⟩⟩⟩⟩⟩⟩ ⟨m0, trivial⟩)
def Q_treatymade_Deck_Loss (Ba0 : Nat) (r : GLoss × GDeck) : Value → List Ent → List Fact → Prop := fun v θ κ => ∃ (pA0 : Option Addr), ∃ (pn0 : Nat), ∃ (pc0 : Nat), v = .agg #[.int .i64 r.1.ID, .int .i64 r.1.Policy, .int .i64 r.1.Risk, .int .i64 r.1.Hour, .int .i64 r.1.Peril, .int .i64 r.1.Area, .int .i64 r.1.Currency, .int .i64 r.1.Sum, .int .i64 r.1.Amount, .int .i64 r.1.Paid] ∧ θ = [eBlk Ba0 71 [.slice pA0 pn0 pc0, .int .i64 r.2.At]] ∧ κ = [fV (lSlice (lInt .i64)) (.slice pA0 pn0 pc0) r.2.L]
set_option maxHeartbeats 4000000 in
set_option maxRecDepth 100000 in
theorem W_treatymade_Deck_Loss (a0 : GDeck) (a1 : Int) (Ba0 : Nat) (A1 : Option Addr) (n1 : Nat) (c1 : Nat) (r : GLoss × GDeck) (h : treatymade_Deck_Loss a0 a1 = some r) : Spec Try.prog 41 [.pointer (some ⟨Ba0, 0, none⟩), .int .i64 a1] [eBlk Ba0 71 [.slice A1 n1 c1, .int .i64 a0.At]] [fV (lSlice (lInt .i64)) (.slice A1 n1 c1) a0.L] (Q_treatymade_Deck_Loss Ba0 r) := by
  unfold treatymade_Deck_Loss at h
  refine spec_of (σ := [(0, _), (1, _)]) Try.func41 rfl rfl rfl rfl ?_
  intro C
  refine wc_know (fun _ h => h.lenF m0) (fun e => ?_)
  subst e
  refine wc_seq ?_
  refine wc_region ?_   -- region 0
  refine wl_act (act_alloc (cs := [_, _, _, _, _, _, _, _, _, _]) zr65 rfl) rfl rfl rfl ?_
  rintro _ _ _ ⟨b0_0, rfl, rfl, rfl⟩
  refine wl_nil ?_
  refine pn_then ?_
  refine wc_seq ?_
  refine wc_region ?_   -- region 1
  refine wl_det rfl rfl (det_move rfl) rfl ?_
  refine wl_det rfl rfl (det_move rfl) rfl ?_
  obtain ⟨r1_2, hr1_2, h⟩ := bind_some h
  refine wl_act (act_callS (cap := []) (W_treatymade_Deck_Range a0 1 3 Ba0 A1 a0.L.length c1 r1_2 hr1_2) rfl rfl rfl bd55 ⟨_, (rs r0), rfl⟩ ⟨m0, trivial⟩) rfl rfl rfl ?_
  rintro _ _ _ ⟨_, _, ⟨y1_2A0, y1_2n0, y1_2c0, rfl, rfl, rfl⟩, rfl, rfl⟩
  dsimp only [List.nil_append, List.cons_append]
  refine wl_know (fun _ h => h.lenF m0) (fun e => ?_)
  subst e
  refine wl_det rfl rfl (det_move rfl) rfl ?_
  obtain ⟨r1_4, hr1_4, h⟩ := bind_some h
  refine wl_act (act_callS (cap := []) (W_treatymade_Deck_Range r1_2.2 1 4 Ba0 y1_2A0 r1_2.2.L.length y1_2c0 r1_4 hr1_4) rfl rfl rfl bd55 ⟨_, r0, rfl⟩ ⟨m0, trivial⟩) rfl rfl rfl ?_
  rintro _ _ _ ⟨_, _, ⟨y1_4A0, y1_4n0, y1_4c0, rfl, rfl, rfl⟩, rfl, rfl⟩
  dsimp only [List.nil_append, List.cons_append]
  refine wl_know (fun _ h => h.lenF m0) (fun e => ?_)
  subst e
  refine wl_det rfl rfl (det_move rfl) rfl ?_
  obtain ⟨r1_6, hr1_6, h⟩ := bind_some h
  refine wl_act (act_callS (cap := []) (W_treatymade_Deck_Next r1_4.2 130 Ba0 y1_4A0 r1_4.2.L.length y1_4c0 r1_6 hr1_6) rfl rfl rfl bd45 ⟨_, r0, rfl⟩ ⟨m0, trivial⟩) rfl rfl rfl ?_
  rintro _ _ _ ⟨_, _, ⟨y1_6A0, y1_6n0, y1_6c0, rfl, rfl, rfl⟩, rfl, rfl⟩
  dsimp only [List.nil_append, List.cons_append]
  refine wl_know (fun _ h => h.lenF m0) (fun e => ?_)
  subst e
  refine wl_det rfl rfl (det_move rfl) rfl ?_
  obtain ⟨r1_8, hr1_8, h⟩ := bind_some h
  refine wl_act (act_callS (cap := []) (W_treatymade_Deck_Next r1_6.2 4 Ba0 y1_6A0 r1_6.2.L.length y1_6c0 r1_8 hr1_8) rfl rfl rfl bd45 ⟨_, r0, rfl⟩ ⟨m0, trivial⟩) rfl rfl rfl ?_
  rintro _ _ _ ⟨_, _, ⟨y1_8A0, y1_8n0, y1_8c0, rfl, rfl, rfl⟩, rfl, rfl⟩
  dsimp only [List.nil_append, List.cons_append]
  refine wl_know (fun _ h => h.lenF m0) (fun e => ?_)
  subst e
  refine wl_det rfl rfl (det_move rfl) rfl ?_
  obtain ⟨r1_10, hr1_10, h⟩ := bind_some h
  refine wl_act (act_callS (cap := []) (W_treatymade_Deck_Next r1_8.2 4 Ba0 y1_8A0 r1_8.2.L.length y1_8c0 r1_10 hr1_10) rfl rfl rfl bd45 ⟨_, r0, rfl⟩ ⟨m0, trivial⟩) rfl rfl rfl ?_
  rintro _ _ _ ⟨_, _, ⟨y1_10A0, y1_10n0, y1_10c0, rfl, rfl, rfl⟩, rfl, rfl⟩
  dsimp only [List.nil_append, List.cons_append]
  refine wl_know (fun _ h => h.lenF m0) (fun e => ?_)
  subst e
  refine wl_det rfl rfl (det_move rfl) rfl ?_
  obtain ⟨r1_12, hr1_12, h⟩ := bind_some h
  refine wl_act (act_callS (cap := []) (W_treatymade_Deck_Next r1_10.2 4 Ba0 y1_10A0 r1_10.2.L.length y1_10c0 r1_12 hr1_12) rfl rfl rfl bd45 ⟨_, r0, rfl⟩ ⟨m0, trivial⟩) rfl rfl rfl ?_
  rintro _ _ _ ⟨_, _, ⟨y1_12A0, y1_12n0, y1_12c0, rfl, rfl, rfl⟩, rfl, rfl⟩
  dsimp only [List.nil_append, List.cons_append]
  refine wl_know (fun _ h => h.lenF m0) (fun e => ?_)
  subst e
  refine wl_det rfl rfl (det_move rfl) rfl ?_
  obtain ⟨r1_14, hr1_14, h⟩ := bind_some h
  refine wl_act (act_callS (cap := []) (W_treatymade_Deck_Upto r1_12.2 1073741824 Ba0 y1_12A0 r1_12.2.L.length y1_12c0 r1_14 hr1_14) rfl rfl rfl bd28 ⟨_, r0, rfl⟩ ⟨m0, trivial⟩) rfl rfl rfl ?_
  rintro _ _ _ ⟨_, _, ⟨y1_14A0, y1_14n0, y1_14c0, rfl, rfl, rfl⟩, rfl, rfl⟩
  dsimp only [List.nil_append, List.cons_append]
  refine wl_know (fun _ h => h.lenF m0) (fun e => ?_)
  subst e
  refine wl_det rfl rfl (det_move rfl) rfl ?_
  obtain ⟨r1_16, hr1_16, h⟩ := bind_some h
  refine wl_act (act_callS (cap := []) (W_treatymade_Deck_Money r1_14.2 Ba0 y1_14A0 r1_14.2.L.length y1_14c0 r1_16 hr1_16) rfl rfl rfl bd62 ⟨_, r0, rfl⟩ ⟨m0, trivial⟩) rfl rfl rfl ?_
  rintro _ _ _ ⟨_, _, ⟨y1_16A0, y1_16n0, y1_16c0, rfl, rfl, rfl⟩, rfl, rfl⟩
  dsimp only [List.nil_append, List.cons_append]
  refine wl_know (fun _ h => h.lenF m0) (fun e => ?_)
  subst e
  refine wl_det rfl rfl (det_build (cs := [_, _, _, _, _, _, _, _, _, _]) pl65 zr65 rfl rfl (by rfl)) rfl ?_
  refine wl_act (act_alloc (cs := [_, _, _, _, _, _, _, _, _, _]) zr65 rfl) rfl rfl rfl ?_
  rintro _ _ _ ⟨b1_18, rfl, rfl, rfl⟩
  refine wl_act0 (act_store (cells := [_, _, _, _, _, _, _, _, _, _]) (cs' := [_, _, _, _, _, _, _, _, _, _]) rfl rfl rfl s0 (by rfl) (of_decide_eq_true rfl) sz65 ⟨rfl, rfl, rfl, rfl, rfl, rfl, rfl, rfl, rfl, rfl, trivial⟩) rfl rfl ?_
  rintro _ _ _ ⟨rfl, rfl⟩
  refine wl_nil ?_
  refine pn_then ?_
  refine wc_seq ?_
  refine wc_region ?_   -- region 2
  refine wl_det rfl rfl (det_move rfl) rfl ?_
  refine wl_det rfl rfl (det_field rfl fd65_8 rfl) rfl ?_
  refine wl_det rfl rfl (det_load rfl m0 (by rfl) na3 us3) rfl ?_
  refine wl_det rfl rfl (det_add rfl rfl) rfl ?_
  obtain ⟨r2_4, hr2_4, h⟩ := bind_some h
  refine wl_act (act_callS (cap := []) (W_treatymade_Deck_Next r1_16.2 (w64 (r1_16.1 + 1)) Ba0 y1_16A0 r1_16.2.L.length y1_16c0 r2_4 hr2_4) rfl rfl rfl bd45 ⟨_, (rs r0), rfl⟩ ⟨m0, trivial⟩) rfl rfl rfl ?_
  rintro _ _ _ ⟨_, _, ⟨y2_4A0, y2_4n0, y2_4c0, rfl, rfl, rfl⟩, rfl, rfl⟩
  dsimp only [List.nil_append, List.cons_append]
  refine wl_know (fun _ h => h.lenF m0) (fun e => ?_)
  subst e
  refine wl_det rfl rfl (det_field rfl fd65_9 rfl) rfl ?_
  refine wl_act0 (act_store (cells := [_]) (cs' := [_, _, _, _, _, _, _, _, _, _]) rfl rfl rfl (ss s0) (by rfl) (of_decide_eq_true rfl) sz3 ⟨rfl, trivial⟩) rfl rfl ?_
  rintro _ _ _ ⟨rfl, rfl⟩
  refine wl_nil ?_
  refine pn_then ?_
  refine wc_seq ?_
  refine wc_region ?_   -- region 3
  refine wl_det rfl rfl (det_loadN (cells := [_, _, _, _, _, _, _, _, _, _]) rfl (ms m0) (by rfl) ag65 sz65) rfl ?_
  refine wl_act0 (act_store (cells := [_, _, _, _, _, _, _, _, _, _]) (cs' := [_, _, _, _, _, _, _, _, _, _]) rfl rfl rfl (ss (ss s0)) (by rfl) (of_decide_eq_true rfl) sz65 ⟨rfl, rfl, rfl, rfl, rfl, rfl, rfl, rfl, rfl, rfl, trivial⟩) rfl rfl ?_
  rintro _ _ _ ⟨rfl, rfl⟩
  refine wl_nil ?_
  refine pn_then ?_
  refine wc_ret ?_
  replace h := Option.some.inj h
  subst h
  refine pn_ret (vs := [_]) rfl ⟨⟨_, _, [_, _, _, _, _, _, _, _, _, _], rfl, (ms (ms m0)), ag65, sz65, rfl⟩, trivial⟩ ⟨y2_4A0, r2_4.2.L.length, y2_4c0, rfl, rfl, rfl⟩ (fun _ h => h.to ⟨_, r0, trivial⟩ ⟨m0, trivial⟩)
def Q_treatylaw20_spoilt (Ba1 : Nat) (r : GTreaty × GDeck) : Value → List Ent → List Fact → Prop := fun v θ κ => ∃ (pA0 : Option Addr), ∃ (pn0 : Nat), ∃ (pc0 : Nat), ∃ (pA1 : Option Addr), ∃ (pn1 : Nat), ∃ (pc1 : Nat), ∃ (pA2 : Option Addr), ∃ (pn2 : Nat), ∃ (pc2 : Nat), ∃ (pA3 : Option Addr), ∃ (pn3 : Nat), ∃ (pc3 : Nat), ∃ (pA4 : Option Addr), ∃ (pn4 : Nat), ∃ (pc4 : Nat), ∃ (pA5 : Option Addr), ∃ (pn5 : Nat), ∃ (pc5 : Nat), v = .agg #[.int .i64 r.1.ID, .int .i64 r.1.Kind, .int .i64 r.1.Period.From, .int .i64 r.1.Period.To, .slice pA0 pn0 pc0, .slice pA1 pn1 pc1, .int .i64 r.1.Risk, .int .i64 r.1.Cession, .int .i64 r.1.Line, .int .i64 r.1.Lines, .int .i64 r.1.Retention, .int .i64 r.1.Limit, .int .i64 r.1.Window, .int .i64 r.1.Deductible, .int .i64 r.1.Aggregate, .int .i64 r.1.Premium, .slice pA2 pn2 pc2, .bool r.1.Timed, .int .i64 r.1.Base, .slice pA3 pn3 pc3, .slice pA4 pn4 pc4] ∧ θ = [eBlk Ba1 71 [.slice pA5 pn5 pc5, .int .i64 r.2.At]] ∧ κ = [fV (lSlice (lInt .i64)) (.slice pA0 pn0 pc0) r.1.Perils, fV (lSlice (lInt .i64)) (.slice pA1 pn1 pc1) r.1.Areas, fV (lSlice (lInt .i64)) (.slice pA2 pn2 pc2) r.1.Reinstatements, fV (lSlice (lInt .i64)) (.slice pA3 pn3 pc3) r.1.Inures, fV (lSlice lGPart) (.slice pA4 pn4 pc4) r.1.Parts, fV (lSlice (lInt .i64)) (.slice pA5 pn5 pc5) r.2.L]
set_option maxHeartbeats 4000000 in
set_option maxRecDepth 100000 in
theorem W_treatylaw20_spoilt (a0 : GTreaty) (a1 : GDeck) (a2 : Int) (A0 : Option Addr) (n0 : Nat) (c0 : Nat) (A3 : Option Addr) (n3 : Nat) (c3 : Nat) (A6 : Option Addr) (n6 : Nat) (c6 : Nat) (A9 : Option Addr) (n9 : Nat) (c9 : Nat) (A12 : Option Addr) (n12 : Nat) (c12 : Nat) (Ba1 : Nat) (A16 : Option Addr) (n16 : Nat) (c16 : Nat) (r : GTreaty × GDeck) (h : treatylaw20_spoilt a0 a1 a2 = some r) : Spec Try.prog 42 [.agg #[.int .i64 a0.ID, .int .i64 a0.Kind, .int .i64 a0.Period.From, .int .i64 a0.Period.To, .slice A0 n0 c0, .slice A3 n3 c3, .int .i64 a0.Risk, .int .i64 a0.Cession, .int .i64 a0.Line, .int .i64 a0.Lines, .int .i64 a0.Retention, .int .i64 a0.Limit, .int .i64 a0.Window, .int .i64 a0.Deductible, .int .i64 a0.Aggregate, .int .i64 a0.Premium, .slice A6 n6 c6, .bool a0.Timed, .int .i64 a0.Base, .slice A9 n9 c9, .slice A12 n12 c12], .pointer (some ⟨Ba1, 0, none⟩), .int .i64 a2] [eBlk Ba1 71 [.slice A16 n16 c16, .int .i64 a1.At]] [fV (lSlice (lInt .i64)) (.slice A0 n0 c0) a0.Perils, fV (lSlice (lInt .i64)) (.slice A3 n3 c3) a0.Areas, fV (lSlice (lInt .i64)) (.slice A6 n6 c6) a0.Reinstatements, fV (lSlice (lInt .i64)) (.slice A9 n9 c9) a0.Inures, fV (lSlice lGPart) (.slice A12 n12 c12) a0.Parts, fV (lSlice (lInt .i64)) (.slice A16 n16 c16) a1.L] (Q_treatylaw20_spoilt Ba1 r) := by
  unfold treatylaw20_spoilt at h
  refine spec_of (σ := [(0, _), (1, _), (2, _)]) Try.func42 rfl rfl rfl rfl ?_
  intro C
  refine wc_know (fun _ h => h.lenF m0) (fun e => ?_)
  subst e
  refine wc_know (fun _ h => h.lenF (ms m0)) (fun e => ?_)
  subst e
  refine wc_know (fun _ h => h.lenF (ms (ms m0))) (fun e => ?_)
  subst e
  refine wc_know (fun _ h => h.lenF (ms (ms (ms m0)))) (fun e => ?_)
  subst e
  refine wc_know (fun _ h => h.lenF (ms (ms (ms (ms m0))))) (fun e => ?_)
  subst e
  refine wc_know (fun _ h => h.lenF (ms (ms (ms (ms (ms m0)))))) (fun e => ?_)
  subst e
  refine wc_seq ?_
  refine wc_region ?_   -- region 0
  refine wl_act (act_box (cs := [_, _, _, _, _, _, _, _, _, _, _, _, _, _, _, _, _, _, _, _, _]) rfl rfl) rfl rfl rfl ?_
  rintro _ _ _ ⟨b0_0, rfl, rfl, rfl⟩
  refine wl_act (act_alloc (cs := [_, _, _, _, _, _, _, _, _, _, _, _, _, _, _, _, _, _, _, _, _]) zr49 rfl) rfl rfl rfl ?_
  rintro _ _ _ ⟨b0_1, rfl, rfl, rfl⟩
  refine wl_nil ?_
  refine pn_then ?_
  obtain ⟨q2, h, ho2⟩ := bind_some h
  refine wc_meetG (G := ((List Int) × Int × Int) × Option Addr × Nat × Nat × Unit) (fun (s2, _, _, _, _) => s2 = q2) (fun (s2, _, _, _, _) => [(1, .pointer (some ⟨Ba1, 0, none⟩)), (2, .int .i64 s2.2.2), (3, .pointer (some ⟨b0_0, 0, none⟩)), (6, .pointer (some ⟨b0_1, 0, none⟩))]) (fun (s2, A2_0, n2_0, c2_0, _) => [eBlk Ba1 71 [.slice A2_0 n2_0 c2_0, .int .i64 s2.2.1], eBlk b0_0 49 [.int .i64 a0.ID, .int .i64 a0.Kind, .int .i64 a0.Period.From, .int .i64 a0.Period.To, .slice A0 a0.Perils.length c0, .slice A3 a0.Areas.length c3, .int .i64 a0.Risk, .int .i64 a0.Cession, .int .i64 a0.Line, .int .i64 a0.Lines, .int .i64 a0.Retention, .int .i64 a0.Limit, .int .i64 a0.Window, .int .i64 a0.Deductible, .int .i64 a0.Aggregate, .int .i64 a0.Premium, .slice A6 a0.Reinstatements.length c6, .bool a0.Timed, .int .i64 a0.Base, .slice A9 a0.Inures.length c9, .slice A12 a0.Parts.length c12], eBlk b0_1 49 [.int .i64 0, .int .i64 0, .int .i64 0, .int .i64 0, .slice none 0 0, .slice none 0 0, .int .i64 0, .int .i64 0, .int .i64 0, .int .i64 0, .int .i64 0, .int .i64 0, .int .i64 0, .int .i64 0, .int .i64 0, .int .i64 0, .slice none 0 0, .bool false, .int .i64 0, .slice none 0 0, .slice none 0 0]]) (fun (s2, A2_0, n2_0, c2_0, _) => [fV (lSlice (lInt .i64)) (.slice A2_0 n2_0 c2_0) s2.1, fV (lSlice (lInt .i64)) (.slice A0 a0.Perils.length c0) a0.Perils, fV (lSlice (lInt .i64)) (.slice A3 a0.Areas.length c3) a0.Areas, fV (lSlice (lInt .i64)) (.slice A6 a0.Reinstatements.length c6) a0.Reinstatements, fV (lSlice (lInt .i64)) (.slice A9 a0.Inures.length c9) a0.Inures, fV (lSlice lGPart) (.slice A12 a0.Parts.length c12) a0.Parts]) ?_ ?_
  · refine wc_seq ?_
    refine wc_region ?_   -- region 1
    refine wl_det rfl rfl (det_move rfl) rfl ?_
    obtain ⟨r1_1, hr1_1, h⟩ := bind_some h
    refine wl_act (act_callS (cap := []) (W_treatymade_Deck_Next a1 3 Ba1 A16 a1.L.length c16 r1_1 hr1_1) rfl rfl rfl bd45 ⟨_, (rs (rs r0)), rfl⟩ ⟨(ms (ms (ms (ms (ms m0))))), trivial⟩) rfl rfl rfl ?_
    rintro _ _ _ ⟨_, _, ⟨y1_1A0, y1_1n0, y1_1c0, rfl, rfl, rfl⟩, rfl, rfl⟩
    dsimp only [List.nil_append, List.cons_append]
    refine wl_know (fun _ h => h.lenF m0) (fun e => ?_)
    subst e
    refine wl_det rfl rfl (det_gtr rfl rfl) rfl ?_
    refine wl_nil ?_
    refine pn_then ?_
    refine wc_cond rfl (fun cd5 => ?_) (fun cd5 => ?_)
    · have h := ifT h cd5
      refine wc_region ?_   -- region 2
      refine wl_act (act_litS (lInt .i64) (vs := [_, _, _, _, _, _, _, _, _, _, _, _, _, _]) (cs := [_, _, _, _, _, _, _, _, _, _, _, _, _, _]) [0, (-1), 1, 1000000, 1000001, 1073741824, 1073741825, 100, 101, 8785, 1000000000, 1000000001, 1048576, 1048577] un23 in3 rfl rfl rfl rfl rfl ⟨rfl, rfl, rfl, rfl, rfl, rfl, rfl, rfl, rfl, rfl, rfl, rfl, rfl, rfl, trivial⟩ (by rfl) rfl (litR_flat rfl)) rfl rfl rfl ?_
      rintro _ _ _ ⟨A2_0, rfl, rfl, rfl⟩
      refine wl_det rfl rfl (det_move rfl) rfl ?_
      obtain ⟨r2_2, hr2_2, h⟩ := bind_some h
      refine wl_act (act_callS (cap := []) (W_treatymade_Deck_Next r1_1.2 14 Ba1 y1_1A0 r1_1.2.L.length y1_1c0 r2_2 hr2_2) rfl rfl rfl bd45 ⟨_, (rs r0), rfl⟩ ⟨m0, trivial⟩) rfl rfl rfl ?_
      rintro _ _ _ ⟨_, _, ⟨y2_2A0, y2_2n0, y2_2c0, rfl, rfl, rfl⟩, rfl, rfl⟩
      dsimp only [List.nil_append, List.cons_append]
      refine wl_know (fun _ h => h.lenF m0) (fun e => ?_)
      subst e
      obtain ⟨k2_3, h⟩ := chk_some h
      refine wl_det rfl rfl (det_indexO rfl rfl (ms m0) k2_3 un23 sz3) rfl ?_
      refine wl_det rfl rfl (det_loadO (off := 0) rfl (ms m0) k2_3 (by rfl) (by rfl) (loaded_1 na3 us3)) rfl ?_
      refine wl_det rfl rfl (det_assign rfl) rfl ?_
      refine wl_nil ?_
      replace h := Option.some.inj h
      subst h
      exact pn_meetG ((r2_2.2.L, r2_2.2.At, (ix [0, (-1), 1, 1000000, 1000001, 1073741824, 1073741825, 100, 101, 8785, 1000000000, 1000000001, 1048576, 1048577] r2_2.1)), y2_2A0, r2_2.2.L.length, y2_2c0, ()) rfl ⟨rfl, rfl, rfl, rfl, trivial⟩ (fun _ h => h.to ⟨_, r0, ⟨_, (rs (rs r0)), ⟨_, (rs r0), trivial⟩⟩⟩ ⟨m0, ⟨(ms (ms m0)), ⟨(ms (ms (ms m0))), ⟨(ms (ms (ms (ms m0)))), ⟨(ms (ms (ms (ms (ms m0))))), ⟨(ms (ms (ms (ms (ms (ms m0)))))), trivial⟩⟩⟩⟩⟩⟩)
    · have h := ifF h cd5
      refine wc_skip ?_
      replace h := Option.some.inj h
      subst h
      exact pn_meetG ((r1_1.2.L, r1_1.2.At, a2), y1_1A0, r1_1.2.L.length, y1_1c0, ()) rfl ⟨rfl, rfl, rfl, rfl, trivial⟩ (fun _ h => h.to ⟨_, r0, ⟨_, (rs r0), ⟨_, r0, trivial⟩⟩⟩ ⟨m0, ⟨(ms m0), ⟨(ms (ms m0)), ⟨(ms (ms (ms m0))), ⟨(ms (ms (ms (ms m0)))), ⟨(ms (ms (ms (ms (ms m0))))), trivial⟩⟩⟩⟩⟩⟩)
  rintro ⟨s2, A2_0, n2_0, c2_0, _⟩ e2
  dsimp only at e2 ⊢
  subst e2
  have h := ho2
  refine wc_know (fun _ h => h.lenF m0) (fun e => ?_)
  subst e
  obtain ⟨q7, h, ho7⟩ := bind_some h
  refine wc_meetG (G := ((List Int) × Int × Int × Int × Int × (List Int) × (List Int) × Int × Int × Int × Int × Int × Int × Int × Int × Int × Int × (List Int) × Bool × Int × (List Int) × (List GPart)) × Option Addr × Nat × Nat × Option Addr × Nat × Nat × Option Addr × Nat × Nat × Option Addr × Nat × Nat × Option Addr × Nat × Nat × Option Addr × Nat × Nat × Unit) (fun (s7, _, _, _, _, _, _, _, _, _, _, _, _, _, _, _, _, _, _, _) => s7 = q7) (fun (_, _, _, _, _, _, _, _, _, _, _, _, _, _, _, _, _, _, _, _) => [(3, .pointer (some ⟨b0_0, 0, none⟩)), (6, .pointer (some ⟨b0_1, 0, none⟩))]) (fun (s7, A7_0, n7_0, c7_0, A7_3, n7_3, c7_3, A7_6, n7_6, c7_6, A7_9, n7_9, c7_9, A7_12, n7_12, c7_12, A7_15, n7_15, c7_15, _) => [eBlk Ba1 71 [.slice A7_0 n7_0 c7_0, .int .i64 s7.2.1], eBlk b0_0 49 [.int .i64 s7.2.2.1, .int .i64 s7.2.2.2.1, .int .i64 a0.Period.From, .int .i64 s7.2.2.2.2.1, .slice A7_3 n7_3 c7_3, .slice A7_6 n7_6 c7_6, .int .i64 s7.2.2.2.2.2.2.2.1, .int .i64 s7.2.2.2.2.2.2.2.2.1, .int .i64 s7.2.2.2.2.2.2.2.2.2.1, .int .i64 s7.2.2.2.2.2.2.2.2.2.2.1, .int .i64 s7.2.2.2.2.2.2.2.2.2.2.2.1, .int .i64 s7.2.2.2.2.2.2.2.2.2.2.2.2.1, .int .i64 s7.2.2.2.2.2.2.2.2.2.2.2.2.2.1, .int .i64 s7.2.2.2.2.2.2.2.2.2.2.2.2.2.2.1, .int .i64 s7.2.2.2.2.2.2.2.2.2.2.2.2.2.2.2.1, .int .i64 s7.2.2.2.2.2.2.2.2.2.2.2.2.2.2.2.2.1, .slice A7_9 n7_9 c7_9, .bool s7.2.2.2.2.2.2.2.2.2.2.2.2.2.2.2.2.2.2.1, .int .i64 s7.2.2.2.2.2.2.2.2.2.2.2.2.2.2.2.2.2.2.2.1, .slice A7_12 n7_12 c7_12, .slice A7_15 n7_15 c7_15], eBlk b0_1 49 [.int .i64 0, .int .i64 0, .int .i64 0, .int .i64 0, .slice none 0 0, .slice none 0 0, .int .i64 0, .int .i64 0, .int .i64 0, .int .i64 0, .int .i64 0, .int .i64 0, .int .i64 0, .int .i64 0, .int .i64 0, .int .i64 0, .slice none 0 0, .bool false, .int .i64 0, .slice none 0 0, .slice none 0 0]]) (fun (s7, A7_0, n7_0, c7_0, A7_3, n7_3, c7_3, A7_6, n7_6, c7_6, A7_9, n7_9, c7_9, A7_12, n7_12, c7_12, A7_15, n7_15, c7_15, _) => [fV (lSlice (lInt .i64)) (.slice A7_0 n7_0 c7_0) s7.1, fV (lSlice (lInt .i64)) (.slice A7_3 n7_3 c7_3) s7.2.2.2.2.2.1, fV (lSlice (lInt .i64)) (.slice A7_6 n7_6 c7_6) s7.2.2.2.2.2.2.1, fV (lSlice (lInt .i64)) (.slice A7_9 n7_9 c7_9) s7.2.2.2.2.2.2.2.2.2.2.2.2.2.2.2.2.2.1, fV (lSlice (lInt .i64)) (.slice A7_12 n7_12 c7_12) s7.2.2.2.2.2.2.2.2.2.2.2.2.2.2.2.2.2.2.2.2.1, fV (lSlice lGPart) (.slice A7_15 n7_15 c7_15) s7.2.2.2.2.2.2.2.2.2.2.2.2.2.2.2.2.2.2.2.2.2]) ?_ ?_
  · refine wc_seq ?_
    refine wc_region ?_   -- region 3
    refine wl_det rfl rfl (det_move rfl) rfl ?_
    obtain ⟨r3_1, hr3_1, h⟩ := bind_some h
    refine wl_act (act_callS (cap := []) (W_treatymade_Deck_Next (GDeck.mk s2.1 s2.2.1) 22 Ba1 A2_0 s2.1.length c2_0 r3_1 hr3_1) rfl rfl rfl bd45 ⟨_, r0, rfl⟩ ⟨m0, trivial⟩) rfl rfl rfl ?_
    rintro _ _ _ ⟨_, _, ⟨y3_1A0, y3_1n0, y3_1c0, rfl, rfl, rfl⟩, rfl, rfl⟩
    dsimp only [List.nil_append, List.cons_append]
    refine wl_know (fun _ h => h.lenF m0) (fun e => ?_)
    subst e
    refine wl_nil ?_
    refine pn_then ?_
    refine wc_block ?_
    refine wc_seq ?_
    refine wc_region ?_   -- region 4
    refine wl_det rfl rfl (det_eql rfl rfl) rfl ?_
    refine wl_det rfl rfl (det_assign rfl) rfl ?_
    refine wl_nil ?_
    refine pn_then ?_
    refine wc_cond rfl (fun cd13 => ?_) (fun cd13 => ?_)
    · have h := ifT h cd13
      refine wc_region ?_   -- region 5
      refine wl_det rfl rfl (det_move rfl) rfl ?_
      refine wl_det rfl rfl (det_field rfl fd49_0 rfl) rfl ?_
      refine wl_act0 (act_store (cells := [_]) (cs' := [_, _, _, _, _, _, _, _, _, _, _, _, _, _, _, _, _, _, _, _, _]) rfl rfl rfl (ss s0) (by rfl) (of_decide_eq_true rfl) sz3 ⟨rfl, trivial⟩) rfl rfl ?_
      rintro _ _ _ ⟨rfl, rfl⟩
      refine wl_nil ?_
      refine pn_block ?_
      replace h := Option.some.inj h
      subst h
      exact pn_meetG ((r3_1.2.L, r3_1.2.At, s2.2.2, a0.Kind, a0.Period.To, a0.Perils, a0.Areas, a0.Risk, a0.Cession, a0.Line, a0.Lines, a0.Retention, a0.Limit, a0.Window, a0.Deductible, a0.Aggregate, a0.Premium, a0.Reinstatements, a0.Timed, a0.Base, a0.Inures, a0.Parts), y3_1A0, r3_1.2.L.length, y3_1c0, A0, a0.Perils.length, c0, A3, a0.Areas.length, c3, A6, a0.Reinstatements.length, c6, A9, a0.Inures.length, c9, A12, a0.Parts.length, c12, ()) rfl ⟨rfl, rfl, trivial⟩ (fun _ h => h.to ⟨_, r0, ⟨_, r0, ⟨_, r0, trivial⟩⟩⟩ ⟨m0, ⟨(ms (ms m0)), ⟨(ms (ms (ms m0))), ⟨(ms (ms (ms (ms m0)))), ⟨(ms (ms (ms (ms (ms m0))))), ⟨(ms (ms (ms (ms (ms (ms m0)))))), trivial⟩⟩⟩⟩⟩⟩)
    · have h := ifF h cd13
      refine wc_seq ?_
      refine wc_region ?_   -- region 6
      refine wl_det rfl rfl (det_eql rfl rfl) rfl ?_
      refine wl_det rfl rfl (det_assign rfl) rfl ?_
      refine wl_nil ?_
      refine pn_then ?_
      refine wc_cond rfl (fun cd17 => ?_) (fun cd17 => ?_)
      · have h := ifT h cd17
        refine wc_region ?_   -- region 7
        refine wl_det rfl rfl (det_move rfl) rfl ?_
        obtain ⟨r7_1, hr7_1, h⟩ := bind_some h
        refine wl_act (act_callS (cap := []) (W_treatymade_Deck_Range r3_1.2 0 7 Ba1 y3_1A0 r3_1.2.L.length y3_1c0 r7_1 hr7_1) rfl rfl rfl bd55 ⟨_, r0, rfl⟩ ⟨m0, trivial⟩) rfl rfl rfl ?_
        rintro _ _ _ ⟨_, _, ⟨y7_1A0, y7_1n0, y7_1c0, rfl, rfl, rfl⟩, rfl, rfl⟩
        dsimp only [List.nil_append, List.cons_append]
        refine wl_know (fun _ h => h.lenF m0) (fun e => ?_)
        subst e
        refine wl_det rfl rfl (det_field rfl fd49_1 rfl) rfl ?_
        refine wl_act0 (act_store (cells := [_]) (cs' := [_, _, _, _, _, _, _, _, _, _, _, _, _, _, _, _, _, _, _, _, _]) rfl rfl rfl (ss s0) (by rfl) (of_decide_eq_true rfl) sz3 ⟨rfl, trivial⟩) rfl rfl ?_
        rintro _ _ _ ⟨rfl, rfl⟩
        refine wl_nil ?_
        refine pn_block ?_
        replace h := Option.some.inj h
        subst h
        exact pn_meetG ((r7_1.2.L, r7_1.2.At, a0.ID, r7_1.1, a0.Period.To, a0.Perils, a0.Areas, a0.Risk, a0.Cession, a0.Line, a0.Lines, a0.Retention, a0.Limit, a0.Window, a0.Deductible, a0.Aggregate, a0.Premium, a0.Reinstatements, a0.Timed, a0.Base, a0.Inures, a0.Parts), y7_1A0, r7_1.2.L.length, y7_1c0, A0, a0.Perils.length, c0, A3, a0.Areas.length, c3, A6, a0.Reinstatements.length, c6, A9, a0.Inures.length, c9, A12, a0.Parts.length, c12, ()) rfl ⟨rfl, rfl, trivial⟩ (fun _ h => h.to ⟨_, r0, ⟨_, r0, ⟨_, r0, trivial⟩⟩⟩ ⟨m0, ⟨(ms (ms (ms m0))), ⟨(ms (ms (ms (ms m0)))), ⟨(ms (ms (ms (ms (ms m0))))), ⟨(ms (ms (ms (ms (ms (ms m0)))))), ⟨(ms (ms (ms (ms (ms (ms (ms m0))))))), trivial⟩⟩⟩⟩⟩⟩)
      · have h := ifF h cd17
        refine wc_seq ?_
        refine wc_region ?_   -- region 8
        refine wl_det rfl rfl (det_eql rfl rfl) rfl ?_
        refine wl_det rfl rfl (det_assign rfl) rfl ?_
        refine wl_nil ?_
        refine pn_then ?_
        refine wc_cond rfl (fun cd21 => ?_) (fun cd21 => ?_)
        · have h := ifT h cd21
          refine wc_region ?_   -- region 9
          refine wl_det rfl rfl (det_move rfl) rfl ?_
          refine wl_det rfl rfl (det_field rfl fd49_2 rfl) rfl ?_
          refine wl_det rfl rfl (det_field rfl fd47_1 rfl) rfl ?_
          refine wl_act0 (act_store (cells := [_]) (cs' := [_, _, _, _, _, _, _, _, _, _, _, _, _, _, _, _, _, _, _, _, _]) rfl rfl rfl (ss s0) (by rfl) (of_decide_eq_true rfl) sz3 ⟨rfl, trivial⟩) rfl rfl ?_
          rintro _ _ _ ⟨rfl, rfl⟩
          refine wl_nil ?_
          refine pn_block ?_
          replace h := Option.some.inj h
          subst h
          exact pn_meetG ((r3_1.2.L, r3_1.2.At, a0.ID, a0.Kind, s2.2.2, a0.Perils, a0.Areas, a0.Risk, a0.Cession, a0.Line, a0.Lines, a0.Retention, a0.Limit, a0.Window, a0.Deductible, a0.Aggregate, a0.Premium, a0.Reinstatements, a0.Timed, a0.Base, a0.Inures, a0.Parts), y3_1A0, r3_1.2.L.length, y3_1c0, A0, a0.Perils.length, c0, A3, a0.Areas.length, c3, A6, a0.Reinstatements.length, c6, A9, a0.Inures.length, c9, A12, a0.Parts.length, c12, ()) rfl ⟨rfl, rfl, trivial⟩ (fun _ h => h.to ⟨_, r0, ⟨_, r0, ⟨_, r0, trivial⟩⟩⟩ ⟨m0, ⟨(ms (ms m0)), ⟨(ms (ms (ms m0))), ⟨(ms (ms (ms (ms m0)))), ⟨(ms (ms (ms (ms (ms m0))))), ⟨(ms (ms (ms (ms (ms (ms m0)))))), trivial⟩⟩⟩⟩⟩⟩)
        · have h := ifF h cd21
          refine wc_seq ?_
          refine wc_region ?_   -- region 10
          refine wl_det rfl rfl (det_eql rfl rfl) rfl ?_
          refine wl_det rfl rfl (det_assign rfl) rfl ?_
          refine wl_nil ?_
          refine pn_then ?_
          refine wc_cond rfl (fun cd25 => ?_) (fun cd25 => ?_)
          · have h := ifT h cd25
            refine wc_region ?_   -- region 11
            refine wl_act (act_lit0S (lInt .i64) un23 (by kernel_rfl)) rfl rfl rfl ?_
            rintro _ _ _ ⟨A11_0, rfl, rfl, rfl⟩
            refine wl_det rfl rfl (det_field rfl fd49_3 rfl) rfl ?_
            refine wl_det rfl rfl (det_load rfl (ms (ms m0)) (by rfl) na23 us23) rfl ?_
            obtain ⟨k11_3, h⟩ := chk_some h
            refine wl_act (act_appendS0 (L := (lInt .i64)) rfl rfl s0 (src_F (ms (ms m0))) un23 in3 rfl rfl rfl k11_3) rfl rfl rfl ?_
            rintro _ _ _ ⟨A11_3, c11_3, rfl, rfl, rfl⟩
            refine wl_det rfl rfl (det_move rfl) rfl ?_
            obtain ⟨r11_5, hr11_5, h⟩ := bind_some h
            refine wl_act (act_callS (cap := []) (W_treatymade_Deck_Range r3_1.2 (-1) 16 Ba1 y3_1A0 r3_1.2.L.length y3_1c0 r11_5 hr11_5) rfl rfl rfl bd55 ⟨_, (rs r0), rfl⟩ ⟨m0, trivial⟩) rfl rfl rfl ?_
            rintro _ _ _ ⟨_, _, ⟨y11_5A0, y11_5n0, y11_5c0, rfl, rfl, rfl⟩, rfl, rfl⟩
            dsimp only [List.nil_append, List.cons_append]
            refine wl_know (fun _ h => h.lenF m0) (fun e => ?_)
            subst e
            refine wl_act (act_litS (lInt .i64) (vs := [_]) (cs := [_]) [r11_5.1] un23 in3 rfl rfl rfl rfl rfl ⟨rfl, trivial⟩ (by rfl) rfl (litR_flat rfl)) rfl rfl rfl ?_
            rintro _ _ _ ⟨A11_6, rfl, rfl, rfl⟩
            obtain ⟨k11_7, h⟩ := chk_some h
            refine wl_act (act_appendS (L := (lInt .i64)) rfl rfl (ss (ss s0)) (src_O m0) un23 in3 rfl rfl rfl k11_7) rfl rfl rfl ?_
            rintro _ _ _ ⟨A11_7, c11_7, rfl, rfl, rfl⟩
            refine wl_det rfl rfl (det_field rfl fd49_3 rfl) rfl ?_
            refine wl_act0 (act_store (cells := [_]) (cs' := [_, _, _, _, _, _, _, _, _, _, _, _, _, _, _, _, _, _, _, _, _]) rfl rfl rfl (ss (ss (ss s0))) (by rfl) (of_decide_eq_true rfl) sz23 ⟨rfl, trivial⟩) rfl rfl ?_
            rintro _ _ _ ⟨rfl, rfl⟩
            refine wl_nil ?_
            refine pn_block ?_
            refine pn_st (fun _ h => h.shutS (rs (rs r0))) ?_
            replace h := Option.some.inj h
            subst h
            exact pn_meetG ((r11_5.2.L, r11_5.2.At, a0.ID, a0.Kind, a0.Period.To, (a0.Perils ++ [r11_5.1]), a0.Areas, a0.Risk, a0.Cession, a0.Line, a0.Lines, a0.Retention, a0.Limit, a0.Window, a0.Deductible, a0.Aggregate, a0.Premium, a0.Reinstatements, a0.Timed, a0.Base, a0.Inures, a0.Parts), y11_5A0, r11_5.2.L.length, y11_5c0, A11_7, (a0.Perils ++ [r11_5.1]).length, c11_7, A3, a0.Areas.length, c3, A6, a0.Reinstatements.length, c6, A9, a0.Inures.length, c9, A12, a0.Parts.length, c12, ()) rfl ⟨rfl, rfl, trivial⟩ (fun _ h => h.to ⟨_, (rs r0), ⟨_, (rs r0), ⟨_, (rs r0), trivial⟩⟩⟩ ⟨(ms m0), ⟨m0, ⟨(ms (ms (ms (ms (ms m0))))), ⟨(ms (ms (ms (ms (ms (ms m0)))))), ⟨(ms (ms (ms (ms (ms (ms (ms m0))))))), ⟨(ms (ms (ms (ms (ms (ms (ms (ms m0)))))))), trivial⟩⟩⟩⟩⟩⟩)
          · have h := ifF h cd25
            refine wc_seq ?_
            refine wc_region ?_   -- region 12
            refine wl_det rfl rfl (det_eql rfl rfl) rfl ?_
            refine wl_det rfl rfl (det_assign rfl) rfl ?_
            refine wl_nil ?_
            refine pn_then ?_
            refine wc_cond rfl (fun cd29 => ?_) (fun cd29 => ?_)
            · have h := ifT h cd29
              refine wc_region ?_   -- region 13
              refine wl_act (act_lit0S (lInt .i64) un23 (by kernel_rfl)) rfl rfl rfl ?_
              rintro _ _ _ ⟨A13_0, rfl, rfl, rfl⟩
              refine wl_det rfl rfl (det_field rfl fd49_4 rfl) rfl ?_
              refine wl_det rfl rfl (det_load rfl (ms (ms m0)) (by rfl) na23 us23) rfl ?_
              obtain ⟨k13_3, h⟩ := chk_some h
              refine wl_act (act_appendS0 (L := (lInt .i64)) rfl rfl s0 (src_F (ms (ms (ms m0)))) un23 in3 rfl rfl rfl k13_3) rfl rfl rfl ?_
              rintro _ _ _ ⟨A13_3, c13_3, rfl, rfl, rfl⟩
              refine wl_det rfl rfl (det_move rfl) rfl ?_
              obtain ⟨r13_5, hr13_5, h⟩ := bind_some h
              refine wl_act (act_callS (cap := []) (W_treatymade_Deck_Range r3_1.2 (-1) 16 Ba1 y3_1A0 r3_1.2.L.length y3_1c0 r13_5 hr13_5) rfl rfl rfl bd55 ⟨_, (rs r0), rfl⟩ ⟨m0, trivial⟩) rfl rfl rfl ?_
              rintro _ _ _ ⟨_, _, ⟨y13_5A0, y13_5n0, y13_5c0, rfl, rfl, rfl⟩, rfl, rfl⟩
              dsimp only [List.nil_append, List.cons_append]
              refine wl_know (fun _ h => h.lenF m0) (fun e => ?_)
              subst e
              refine wl_act (act_litS (lInt .i64) (vs := [_]) (cs := [_]) [r13_5.1] un23 in3 rfl rfl rfl rfl rfl ⟨rfl, trivial⟩ (by rfl) rfl (litR_flat rfl)) rfl rfl rfl ?_
              rintro _ _ _ ⟨A13_6, rfl, rfl, rfl⟩
              obtain ⟨k13_7, h⟩ := chk_some h
              refine wl_act (act_appendS (L := (lInt .i64)) rfl rfl (ss (ss s0)) (src_O m0) un23 in3 rfl rfl rfl k13_7) rfl rfl rfl ?_
              rintro _ _ _ ⟨A13_7, c13_7, rfl, rfl, rfl⟩
              refine wl_det rfl rfl (det_field rfl fd49_4 rfl) rfl ?_
              refine wl_act0 (act_store (cells := [_]) (cs' := [_, _, _, _, _, _, _, _, _, _, _, _, _, _, _, _, _, _, _, _, _]) rfl rfl rfl (ss (ss (ss s0))) (by rfl) (of_decide_eq_true rfl) sz23 ⟨rfl, trivial⟩) rfl rfl ?_
              rintro _ _ _ ⟨rfl, rfl⟩
              refine wl_nil ?_
              refine pn_block ?_
              refine pn_st (fun _ h => h.shutS (rs (rs r0))) ?_
              replace h := Option.some.inj h
              subst h
              exact pn_meetG ((r13_5.2.L, r13_5.2.At, a0.ID, a0.Kind, a0.Period.To, a0.Perils, (a0.Areas ++ [r13_5.1]), a0.Risk, a0.Cession, a0.Line, a0.Lines, a0.Retention, a0.Limit, a0.Window, a0.Deductible, a0.Aggregate, a0.Premium, a0.Reinstatements, a0.Timed, a0.Base, a0.Inures, a0.Parts), y13_5A0, r13_5.2.L.length, y13_5c0, A0, a0.Perils.length, c0, A13_7, (a0.Areas ++ [r13_5.1]).length, c13_7, A6, a0.Reinstatements.length, c6, A9, a0.Inures.length, c9, A12, a0.Parts.length, c12, ()) rfl ⟨rfl, rfl, trivial⟩ (fun _ h => h.to ⟨_, (rs r0), ⟨_, (rs r0), ⟨_, (rs r0), trivial⟩⟩⟩ ⟨(ms m0), ⟨(ms (ms (ms (ms m0)))), ⟨m0, ⟨(ms (ms (ms (ms (ms (ms m0)))))), ⟨(ms (ms (ms (ms (ms (ms (ms m0))))))), ⟨(ms (ms (ms (ms (ms (ms (ms (ms m0)))))))), trivial⟩⟩⟩⟩⟩⟩)
            · have h := ifF h cd29
              refine wc_seq ?_
              refine wc_region ?_   -- region 14
              refine wl_det rfl rfl (det_eql rfl rfl) rfl ?_
              refine wl_det rfl rfl (det_assign rfl) rfl ?_
              refine wl_nil ?_
              refine pn_then ?_
              refine wc_cond rfl (fun cd33 => ?_) (fun cd33 => ?_)
              · have h := ifT h cd33
                refine wc_region ?_   -- region 15
                refine wl_det rfl rfl (det_move rfl) rfl ?_
                refine wl_det rfl rfl (det_field rfl fd49_5 rfl) rfl ?_
                refine wl_act0 (act_store (cells := [_]) (cs' := [_, _, _, _, _, _, _, _, _, _, _, _, _, _, _, _, _, _, _, _, _]) rfl rfl rfl (ss s0) (by rfl) (of_decide_eq_true rfl) sz3 ⟨rfl, trivial⟩) rfl rfl ?_
                rintro _ _ _ ⟨rfl, rfl⟩
                refine wl_nil ?_
                refine pn_block ?_
                replace h := Option.some.inj h
                subst h
                exact pn_meetG ((r3_1.2.L, r3_1.2.At, a0.ID, a0.Kind, a0.Period.To, a0.Perils, a0.Areas, s2.2.2, a0.Cession, a0.Line, a0.Lines, a0.Retention, a0.Limit, a0.Window, a0.Deductible, a0.Aggregate, a0.Premium, a0.Reinstatements, a0.Timed, a0.Base, a0.Inures, a0.Parts), y3_1A0, r3_1.2.L.length, y3_1c0, A0, a0.Perils.length, c0, A3, a0.Areas.length, c3, A6, a0.Reinstatements.length, c6, A9, a0.Inures.length, c9, A12, a0.Parts.length, c12, ()) rfl ⟨rfl, rfl, trivial⟩ (fun _ h => h.to ⟨_, r0, ⟨_, r0, ⟨_, r0, trivial⟩⟩⟩ ⟨m0, ⟨(ms (ms m0)), ⟨(ms (ms (ms m0))), ⟨(ms (ms (ms (ms m0)))), ⟨(ms (ms (ms (ms (ms m0))))), ⟨(ms (ms (ms (ms (ms (ms m0)))))), trivial⟩⟩⟩⟩⟩⟩)
              · have h := ifF h cd33
                refine wc_seq ?_
                refine wc_region ?_   -- region 16
                refine wl_det rfl rfl (det_eql rfl rfl) rfl ?_
                refine wl_det rfl rfl (det_assign rfl) rfl ?_
                refine wl_nil ?_
                refine pn_then ?_
                refine wc_cond rfl (fun cd37 => ?_) (fun cd37 => ?_)
                · have h := ifT h cd37
                  refine wc_region ?_   -- region 17
                  refine wl_det rfl rfl (det_move rfl) rfl ?_
                  refine wl_det rfl rfl (det_field rfl fd49_6 rfl) rfl ?_
                  refine wl_act0 (act_store (cells := [_]) (cs' := [_, _, _, _, _, _, _, _, _, _, _, _, _, _, _, _, _, _, _, _, _]) rfl rfl rfl (ss s0) (by rfl) (of_decide_eq_true rfl) sz3 ⟨rfl, trivial⟩) rfl rfl ?_
                  rintro _ _ _ ⟨rfl, rfl⟩
                  refine wl_nil ?_
                  refine pn_block ?_
                  replace h := Option.some.inj h
                  subst h
                  exact pn_meetG ((r3_1.2.L, r3_1.2.At, a0.ID, a0.Kind, a0.Period.To, a0.Perils, a0.Areas, a0.Risk, s2.2.2, a0.Line, a0.Lines, a0.Retention, a0.Limit, a0.Window, a0.Deductible, a0.Aggregate, a0.Premium, a0.Reinstatements, a0.Timed, a0.Base, a0.Inures, a0.Parts), y3_1A0, r3_1.2.L.length, y3_1c0, A0, a0.Perils.length, c0, A3, a0.Areas.length, c3, A6, a0.Reinstatements.length, c6, A9, a0.Inures.length, c9, A12, a0.Parts.length, c12, ()) rfl ⟨rfl, rfl, trivial⟩ (fun _ h => h.to ⟨_, r0, ⟨_, r0, ⟨_, r0, trivial⟩⟩⟩ ⟨m0, ⟨(ms (ms m0)), ⟨(ms (ms (ms m0))), ⟨(ms (ms (ms (ms m0)))), ⟨(ms (ms (ms (ms (ms m0))))), ⟨(ms (ms (ms (ms (ms (ms m0)))))), trivial⟩⟩⟩⟩⟩⟩)
                · have h := ifF h cd37
                  refine wc_seq ?_
                  refine wc_region ?_   -- region 18
                  refine wl_det rfl rfl (det_eql rfl rfl) rfl ?_
                  refine wl_det rfl rfl (det_assign rfl) rfl ?_
                  refine wl_nil ?_
                  refine pn_then ?_
                  refine wc_cond rfl (fun cd41 => ?_) (fun cd41 => ?_)
                  · have h := ifT h cd41
                    refine wc_region ?_   -- region 19
                    refine wl_det rfl rfl (det_move rfl) rfl ?_
                    refine wl_det rfl rfl (det_field rfl fd49_7 rfl) rfl ?_
                    refine wl_act0 (act_store (cells := [_]) (cs' := [_, _, _, _, _, _, _, _, _, _, _, _, _, _, _, _, _, _, _, _, _]) rfl rfl rfl (ss s0) (by rfl) (of_decide_eq_true rfl) sz3 ⟨rfl, trivial⟩) rfl rfl ?_
                    rintro _ _ _ ⟨rfl, rfl⟩
                    refine wl_nil ?_
                    refine pn_block ?_
                    replace h := Option.some.inj h
                    subst h
                    exact pn_meetG ((r3_1.2.L, r3_1.2.At, a0.ID, a0.Kind, a0.Period.To, a0.Perils, a0.Areas, a0.Risk, a0.Cession, s2.2.2, a0.Lines, a0.Retention, a0.Limit, a0.Window, a0.Deductible, a0.Aggregate, a0.Premium, a0.Reinstatements, a0.Timed, a0.Base, a0.Inures, a0.Parts), y3_1A0, r3_1.2.L.length, y3_1c0, A0, a0.Perils.length, c0, A3, a0.Areas.length, c3, A6, a0.Reinstatements.length, c6, A9, a0.Inures.length, c9, A12, a0.Parts.length, c12, ()) rfl ⟨rfl, rfl, trivial⟩ (fun _ h => h.to ⟨_, r0, ⟨_, r0, ⟨_, r0, trivial⟩⟩⟩ ⟨m0, ⟨(ms (ms m0)), ⟨(ms (ms (ms m0))), ⟨(ms (ms (ms (ms m0)))), ⟨(ms (ms (ms (ms (ms m0))))), ⟨(ms (ms (ms (ms (ms (ms m0)))))), trivial⟩⟩⟩⟩⟩⟩)
                  · have h := ifF h cd41
                    refine wc_seq ?_
                    refine wc_region ?_   -- region 20
                    refine wl_det rfl rfl (det_eql rfl rfl) rfl ?_
                    refine wl_det rfl rfl (det_assign rfl) rfl ?_
                    refine wl_nil ?_
                    refine pn_then ?_
                    refine wc_cond rfl (fun cd45 => ?_) (fun cd45 => ?_)
                    · have h := ifT h cd45
                      refine wc_region ?_   -- region 21
                      refine wl_det rfl rfl (det_move rfl) rfl ?_
                      refine wl_det rfl rfl (det_field rfl fd49_8 rfl) rfl ?_
                      refine wl_act0 (act_store (cells := [_]) (cs' := [_, _, _, _, _, _, _, _, _, _, _, _, _, _, _, _, _, _, _, _, _]) rfl rfl rfl (ss s0) (by rfl) (of_decide_eq_true rfl) sz3 ⟨rfl, trivial⟩) rfl rfl ?_
                      rintro _ _ _ ⟨rfl, rfl⟩
                      refine wl_nil ?_
                      refine pn_block ?_
                      replace h := Option.some.inj h
                      subst h
                      exact pn_meetG ((r3_1.2.L, r3_1.2.At, a0.ID, a0.Kind, a0.Period.To, a0.Perils, a0.Areas, a0.Risk, a0.Cession, a0.Line, s2.2.2, a0.Retention, a0.Limit, a0.Window, a0.Deductible, a0.Aggregate, a0.Premium, a0.Reinstatements, a0.Timed, a0.Base, a0.Inures, a0.Parts), y3_1A0, r3_1.2.L.length, y3_1c0, A0, a0.Perils.length, c0, A3, a0.Areas.length, c3, A6, a0.Reinstatements.length, c6, A9, a0.Inures.length, c9, A12, a0.Parts.length, c12, ()) rfl ⟨rfl, rfl, trivial⟩ (fun _ h => h.to ⟨_, r0, ⟨_, r0, ⟨_, r0, trivial⟩⟩⟩ ⟨m0, ⟨(ms (ms m0)), ⟨(ms (ms (ms m0))), ⟨(ms (ms (ms (ms m0)))), ⟨(ms (ms (ms (ms (ms m0))))), ⟨(ms (ms (ms (ms (ms (ms m0)))))), trivial⟩⟩⟩⟩⟩⟩)
                    · have h := ifF h cd45
                      refine wc_seq ?_
                      refine wc_region ?_   -- region 22
                      refine wl_det rfl rfl (det_eql rfl rfl) rfl ?_
                      refine wl_det rfl rfl (det_assign rfl) rfl ?_
                      refine wl_nil ?_
                      refine pn_then ?_
                      refine wc_cond rfl (fun cd49 => ?_) (fun cd49 => ?_)
                      · have h := ifT h cd49
                        refine wc_region ?_   -- region 23
                        refine wl_det rfl rfl (det_move rfl) rfl ?_
                        refine wl_det rfl rfl (det_field rfl fd49_9 rfl) rfl ?_
                        refine wl_act0 (act_store (cells := [_]) (cs' := [_, _, _, _, _, _, _, _, _, _, _, _, _, _, _, _, _, _, _, _, _]) rfl rfl rfl (ss s0) (by rfl) (of_decide_eq_true rfl) sz3 ⟨rfl, trivial⟩) rfl rfl ?_
                        rintro _ _ _ ⟨rfl, rfl⟩
                        refine wl_nil ?_
                        refine pn_block ?_
                        replace h := Option.some.inj h
                        subst h
                        exact pn_meetG ((r3_1.2.L, r3_1.2.At, a0.ID, a0.Kind, a0.Period.To, a0.Perils, a0.Areas, a0.Risk, a0.Cession, a0.Line, a0.Lines, s2.2.2, a0.Limit, a0.Window, a0.Deductible, a0.Aggregate, a0.Premium, a0.Reinstatements, a0.Timed, a0.Base, a0.Inures, a0.Parts), y3_1A0, r3_1.2.L.length, y3_1c0, A0, a0.Perils.length, c0, A3, a0.Areas.length, c3, A6, a0.Reinstatements.length, c6, A9, a0.Inures.length, c9, A12, a0.Parts.length, c12, ()) rfl ⟨rfl, rfl, trivial⟩ (fun _ h => h.to ⟨_, r0, ⟨_, r0, ⟨_, r0, trivial⟩⟩⟩ ⟨m0, ⟨(ms (ms m0)), ⟨(ms (ms (ms m0))), ⟨(ms (ms (ms (ms m0)))), ⟨(ms (ms (ms (ms (ms m0))))), ⟨(ms (ms (ms (ms (ms (ms m0)))))), trivial⟩⟩⟩⟩⟩⟩)
                      · have h := ifF h cd49
                        refine wc_seq ?_
                        refine wc_region ?_   -- region 24
                        refine wl_det rfl rfl (det_eql rfl rfl) rfl ?_
                        refine wl_det rfl rfl (det_assign rfl) rfl ?_
                        refine wl_nil ?_
                        refine pn_then ?_
                        refine wc_cond rfl (fun cd53 => ?_) (fun cd53 => ?_)
                        · have h := ifT h cd53
                          refine wc_region ?_   -- region 25
                          refine wl_det rfl rfl (det_move rfl) rfl ?_
                          refine wl_det rfl rfl (det_field rfl fd49_10 rfl) rfl ?_
                          refine wl_act0 (act_store (cells := [_]) (cs' := [_, _, _, _, _, _, _, _, _, _, _, _, _, _, _, _, _, _, _, _, _]) rfl rfl rfl (ss s0) (by rfl) (of_decide_eq_true rfl) sz3 ⟨rfl, trivial⟩) rfl rfl ?_
                          rintro _ _ _ ⟨rfl, rfl⟩
                          refine wl_nil ?_
                          refine pn_block ?_
                          replace h := Option.some.inj h
                          subst h
                          exact pn_meetG ((r3_1.2.L, r3_1.2.At, a0.ID, a0.Kind, a0.Period.To, a0.Perils, a0.Areas, a0.Risk, a0.Cession, a0.Line, a0.Lines, a0.Retention, s2.2.2, a0.Window, a0.Deductible, a0.Aggregate, a0.Premium, a0.Reinstatements, a0.Timed, a0.Base, a0.Inures, a0.Parts), y3_1A0, r3_1.2.L.length, y3_1c0, A0, a0.Perils.length, c0, A3, a0.Areas.length, c3, A6, a0.Reinstatements.length, c6, A9, a0.Inures.length, c9, A12, a0.Parts.length, c12, ()) rfl ⟨rfl, rfl, trivial⟩ (fun _ h => h.to ⟨_, r0, ⟨_, r0, ⟨_, r0, trivial⟩⟩⟩ ⟨m0, ⟨(ms (ms m0)), ⟨(ms (ms (ms m0))), ⟨(ms (ms (ms (ms m0)))), ⟨(ms (ms (ms (ms (ms m0))))), ⟨(ms (ms (ms (ms (ms (ms m0)))))), trivial⟩⟩⟩⟩⟩⟩)
                        · have h := ifF h cd53
                          refine wc_seq ?_
                          refine wc_region ?_   -- region 26
                          refine wl_det rfl rfl (det_eql rfl rfl) rfl ?_
                          refine wl_det rfl rfl (det_assign rfl) rfl ?_
                          refine wl_nil ?_
                          refine pn_then ?_
                          refine wc_cond rfl (fun cd57 => ?_) (fun cd57 => ?_)
                          · have h := ifT h cd57
                            refine wc_region ?_   -- region 27
                            refine wl_det rfl rfl (det_move rfl) rfl ?_
                            refine wl_det rfl rfl (det_field rfl fd49_11 rfl) rfl ?_
                            refine wl_act0 (act_store (cells := [_]) (cs' := [_, _, _, _, _, _, _, _, _, _, _, _, _, _, _, _, _, _, _, _, _]) rfl rfl rfl (ss s0) (by rfl) (of_decide_eq_true rfl) sz3 ⟨rfl, trivial⟩) rfl rfl ?_
                            rintro _ _ _ ⟨rfl, rfl⟩
                            refine wl_nil ?_
                            refine pn_block ?_
                            replace h := Option.some.inj h
                            subst h
                            exact pn_meetG ((r3_1.2.L, r3_1.2.At, a0.ID, a0.Kind, a0.Period.To, a0.Perils, a0.Areas, a0.Risk, a0.Cession, a0.Line, a0.Lines, a0.Retention, a0.Limit, s2.2.2, a0.Deductible, a0.Aggregate, a0.Premium, a0.Reinstatements, a0.Timed, a0.Base, a0.Inures, a0.Parts), y3_1A0, r3_1.2.L.length, y3_1c0, A0, a0.Perils.length, c0, A3, a0.Areas.length, c3, A6, a0.Reinstatements.length, c6, A9, a0.Inures.length, c9, A12, a0.Parts.length, c12, ()) rfl ⟨rfl, rfl, trivial⟩ (fun _ h => h.to ⟨_, r0, ⟨_, r0, ⟨_, r0, trivial⟩⟩⟩ ⟨m0, ⟨(ms (ms m0)), ⟨(ms (ms (ms m0))), ⟨(ms (ms (ms (ms m0)))), ⟨(ms (ms (ms (ms (ms m0))))), ⟨(ms (ms (ms (ms (ms (ms m0)))))), trivial⟩⟩⟩⟩⟩⟩)
                          · have h := ifF h cd57
                            refine wc_seq ?_
                            refine wc_region ?_   -- region 28
                            refine wl_det rfl rfl (det_eql rfl rfl) rfl ?_
                            refine wl_det rfl rfl (det_assign rfl) rfl ?_
                            refine wl_nil ?_
                            refine pn_then ?_
                            refine wc_cond rfl (fun cd61 => ?_) (fun cd61 => ?_)
                            · have h := ifT h cd61
                              refine wc_region ?_   -- region 29
                              refine wl_det rfl rfl (det_move rfl) rfl ?_
                              refine wl_det rfl rfl (det_field rfl fd49_12 rfl) rfl ?_
                              refine wl_act0 (act_store (cells := [_]) (cs' := [_, _, _, _, _, _, _, _, _, _, _, _, _, _, _, _, _, _, _, _, _]) rfl rfl rfl (ss s0) (by rfl) (of_decide_eq_true rfl) sz3 ⟨rfl, trivial⟩) rfl rfl ?_
                              rintro _ _ _ ⟨rfl, rfl⟩
                              refine wl_nil ?_
                              refine pn_block ?_
                              replace h := Option.some.inj h
                              subst h
                              exact pn_meetG ((r3_1.2.L, r3_1.2.At, a0.ID, a0.Kind, a0.Period.To, a0.Perils, a0.Areas, a0.Risk, a0.Cession, a0.Line, a0.Lines, a0.Retention, a0.Limit, a0.Window, s2.2.2, a0.Aggregate, a0.Premium, a0.Reinstatements, a0.Timed, a0.Base, a0.Inures, a0.Parts), y3_1A0, r3_1.2.L.length, y3_1c0, A0, a0.Perils.length, c0, A3, a0.Areas.length, c3, A6, a0.Reinstatements.length, c6, A9, a0.Inures.length, c9, A12, a0.Parts.length, c12, ()) rfl ⟨rfl, rfl, trivial⟩ (fun _ h => h.to ⟨_, r0, ⟨_, r0, ⟨_, r0, trivial⟩⟩⟩ ⟨m0, ⟨(ms (ms m0)), ⟨(ms (ms (ms m0))), ⟨(ms (ms (ms (ms m0)))), ⟨(ms (ms (ms (ms (ms m0))))), ⟨(ms (ms (ms (ms (ms (ms m0)))))), trivial⟩⟩⟩⟩⟩⟩)
                            · have h := ifF h cd61
                              refine wc_seq ?_
                              refine wc_region ?_   -- region 30
                              refine wl_det rfl rfl (det_eql rfl rfl) rfl ?_
                              refine wl_det rfl rfl (det_assign rfl) rfl ?_
                              refine wl_nil ?_
                              refine pn_then ?_
                              refine wc_cond rfl (fun cd65 => ?_) (fun cd65 => ?_)
                              · have h := ifT h cd65
                                refine wc_region ?_   -- region 31
                                refine wl_det rfl rfl (det_move rfl) rfl ?_
                                refine wl_det rfl rfl (det_field rfl fd49_13 rfl) rfl ?_
                                refine wl_act0 (act_store (cells := [_]) (cs' := [_, _, _, _, _, _, _, _, _, _, _, _, _, _, _, _, _, _, _, _, _]) rfl rfl rfl (ss s0) (by rfl) (of_decide_eq_true rfl) sz3 ⟨rfl, trivial⟩) rfl rfl ?_
                                rintro _ _ _ ⟨rfl, rfl⟩
                                refine wl_nil ?_
                                refine pn_block ?_
                                replace h := Option.some.inj h
                                subst h
                                exact pn_meetG ((r3_1.2.L, r3_1.2.At, a0.ID, a0.Kind, a0.Period.To, a0.Perils, a0.Areas, a0.Risk, a0.Cession, a0.Line, a0.Lines, a0.Retention, a0.Limit, a0.Window, a0.Deductible, s2.2.2, a0.Premium, a0.Reinstatements, a0.Timed, a0.Base, a0.Inures, a0.Parts), y3_1A0, r3_1.2.L.length, y3_1c0, A0, a0.Perils.length, c0, A3, a0.Areas.length, c3, A6, a0.Reinstatements.length, c6, A9, a0.Inures.length, c9, A12, a0.Parts.length, c12, ()) rfl ⟨rfl, rfl, trivial⟩ (fun _ h => h.to ⟨_, r0, ⟨_, r0, ⟨_, r0, trivial⟩⟩⟩ ⟨m0, ⟨(ms (ms m0)), ⟨(ms (ms (ms m0))), ⟨(ms (ms (ms (ms m0)))), ⟨(ms (ms (ms (ms (ms m0))))), ⟨(ms (ms (ms (ms (ms (ms m0)))))), trivial⟩⟩⟩⟩⟩⟩)
                              · have h := ifF h cd65
                                refine wc_seq ?_
                                refine wc_region ?_   -- region 32
                                refine wl_det rfl rfl (det_eql rfl rfl) rfl ?_
                                refine wl_det rfl rfl (det_assign rfl) rfl ?_
                                refine wl_nil ?_
                                refine pn_then ?_
                                refine wc_cond rfl (fun cd69 => ?_) (fun cd69 => ?_)
                                · have h := ifT h cd69
                                  refine wc_region ?_   -- region 33
                                  refine wl_det rfl rfl (det_move rfl) rfl ?_
                                  refine wl_det rfl rfl (det_field rfl fd49_14 rfl) rfl ?_
                                  refine wl_act0 (act_store (cells := [_]) (cs' := [_, _, _, _, _, _, _, _, _, _, _, _, _, _, _, _, _, _, _, _, _]) rfl rfl rfl (ss s0) (by rfl) (of_decide_eq_true rfl) sz3 ⟨rfl, trivial⟩) rfl rfl ?_
                                  rintro _ _ _ ⟨rfl, rfl⟩
                                  refine wl_nil ?_
                                  refine pn_block ?_
                                  replace h := Option.some.inj h
                                  subst h
                                  exact pn_meetG ((r3_1.2.L, r3_1.2.At, a0.ID, a0.Kind, a0.Period.To, a0.Perils, a0.Areas, a0.Risk, a0.Cession, a0.Line, a0.Lines, a0.Retention, a0.Limit, a0.Window, a0.Deductible, a0.Aggregate, s2.2.2, a0.Reinstatements, a0.Timed, a0.Base, a0.Inures, a0.Parts), y3_1A0, r3_1.2.L.length, y3_1c0, A0, a0.Perils.length, c0, A3, a0.Areas.length, c3, A6, a0.Reinstatements.length, c6, A9, a0.Inures.length, c9, A12, a0.Parts.length, c12, ()) rfl ⟨rfl, rfl, trivial⟩ (fun _ h => h.to ⟨_, r0, ⟨_, r0, ⟨_, r0, trivial⟩⟩⟩ ⟨m0, ⟨(ms (ms m0)), ⟨(ms (ms (ms m0))), ⟨(ms (ms (ms (ms m0)))), ⟨(ms (ms (ms (ms (ms m0))))), ⟨(ms (ms (ms (ms (ms (ms m0)))))), trivial⟩⟩⟩⟩⟩⟩)
                                · have h := ifF h cd69
                                  refine wc_seq ?_
                                  refine wc_region ?_   -- region 34
                                  refine wl_det rfl rfl (det_eql rfl rfl) rfl ?_
                                  refine wl_det rfl rfl (det_assign rfl) rfl ?_
                                  refine wl_nil ?_
                                  refine pn_then ?_
                                  refine wc_cond rfl (fun cd73 => ?_) (fun cd73 => ?_)
                                  · have h := ifT h cd73
                                    refine wc_region ?_   -- region 35
                                    refine wl_act (act_lit0S (lInt .i64) un23 (by kernel_rfl)) rfl rfl rfl ?_
                                    rintro _ _ _ ⟨A35_0, rfl, rfl, rfl⟩
                                    refine wl_det rfl rfl (det_field rfl fd49_15 rfl) rfl ?_
                                    refine wl_det rfl rfl (det_load rfl (ms (ms m0)) (by rfl) na23 us23) rfl ?_
                                    obtain ⟨k35_3, h⟩ := chk_some h
                                    refine wl_act (act_appendS0 (L := (lInt .i64)) rfl rfl s0 (src_F (ms (ms (ms (ms m0))))) un23 in3 rfl rfl rfl k35_3) rfl rfl rfl ?_
                                    rintro _ _ _ ⟨A35_3, c35_3, rfl, rfl, rfl⟩
                                    refine wl_det rfl rfl (det_move rfl) rfl ?_
                                    obtain ⟨r35_5, hr35_5, h⟩ := bind_some h
                                    refine wl_act (act_callS (cap := []) (W_treatymade_Deck_Range r3_1.2 (-1) 2 Ba1 y3_1A0 r3_1.2.L.length y3_1c0 r35_5 hr35_5) rfl rfl rfl bd55 ⟨_, (rs r0), rfl⟩ ⟨m0, trivial⟩) rfl rfl rfl ?_
                                    rintro _ _ _ ⟨_, _, ⟨y35_5A0, y35_5n0, y35_5c0, rfl, rfl, rfl⟩, rfl, rfl⟩
                                    dsimp only [List.nil_append, List.cons_append]
                                    refine wl_know (fun _ h => h.lenF m0) (fun e => ?_)
                                    subst e
                                    refine wl_det rfl rfl (det_mul rfl rfl) rfl ?_
                                    refine wl_det rfl rfl (det_move rfl) rfl ?_
                                    obtain ⟨r35_8, hr35_8, h⟩ := bind_some h
                                    refine wl_act (act_callS (cap := []) (W_treatymade_Deck_Next r35_5.2 2 Ba1 y35_5A0 r35_5.2.L.length y35_5c0 r35_8 hr35_8) rfl rfl rfl bd45 ⟨_, r0, rfl⟩ ⟨m0, trivial⟩) rfl rfl rfl ?_
                                    rintro _ _ _ ⟨_, _, ⟨y35_8A0, y35_8n0, y35_8c0, rfl, rfl, rfl⟩, rfl, rfl⟩
                                    dsimp only [List.nil_append, List.cons_append]
                                    refine wl_know (fun _ h => h.lenF m0) (fun e => ?_)
                                    subst e
                                    refine wl_det rfl rfl (det_add rfl rfl) rfl ?_
                                    refine wl_act (act_litS (lInt .i64) (vs := [_]) (cs := [_]) [(w64 ((w64 (r35_5.1 * 1000000)) + r35_8.1))] un23 in3 rfl rfl rfl rfl rfl ⟨rfl, trivial⟩ (by rfl) rfl (litR_flat rfl)) rfl rfl rfl ?_
                                    rintro _ _ _ ⟨A35_10, rfl, rfl, rfl⟩
                                    obtain ⟨k35_11, h⟩ := chk_some h
                                    refine wl_act (act_appendS (L := (lInt .i64)) rfl rfl (ss (ss s0)) (src_O m0) un23 in3 rfl rfl rfl k35_11) rfl rfl rfl ?_
                                    rintro _ _ _ ⟨A35_11, c35_11, rfl, rfl, rfl⟩
                                    refine wl_det rfl rfl (det_field rfl fd49_15 rfl) rfl ?_
                                    refine wl_act0 (act_store (cells := [_]) (cs' := [_, _, _, _, _, _, _, _, _, _, _, _, _, _, _, _, _, _, _, _, _]) rfl rfl rfl (ss (ss (ss s0))) (by rfl) (of_decide_eq_true rfl) sz23 ⟨rfl, trivial⟩) rfl rfl ?_
                                    rintro _ _ _ ⟨rfl, rfl⟩
                                    refine wl_nil ?_
                                    refine pn_block ?_
                                    refine pn_st (fun _ h => h.shutS (rs (rs r0))) ?_
                                    replace h := Option.some.inj h
                                    subst h
                                    exact pn_meetG ((r35_8.2.L, r35_8.2.At, a0.ID, a0.Kind, a0.Period.To, a0.Perils, a0.Areas, a0.Risk, a0.Cession, a0.Line, a0.Lines, a0.Retention, a0.Limit, a0.Window, a0.Deductible, a0.Aggregate, a0.Premium, (a0.Reinstatements ++ [(w64 ((w64 (r35_5.1 * 1000000)) + r35_8.1))]), a0.Timed, a0.Base, a0.Inures, a0.Parts), y35_8A0, r35_8.2.L.length, y35_8c0, A0, a0.Perils.length, c0, A3, a0.Areas.length, c3, A35_11, (a0.Reinstatements ++ [(w64 ((w64 (r35_5.1 * 1000000)) + r35_8.1))]).length, c35_11, A9, a0.Inures.length, c9, A12, a0.Parts.length, c12, ()) rfl ⟨rfl, rfl, trivial⟩ (fun _ h => h.to ⟨_, (rs r0), ⟨_, (rs r0), ⟨_, (rs r0), trivial⟩⟩⟩ ⟨(ms m0), ⟨(ms (ms (ms (ms (ms m0))))), ⟨(ms (ms (ms (ms (ms (ms m0)))))), ⟨m0, ⟨(ms (ms (ms (ms (ms (ms (ms (ms m0)))))))), ⟨(ms (ms (ms (ms (ms (ms (ms (ms (ms m0))))))))), trivial⟩⟩⟩⟩⟩⟩)
                                  · have h := ifF h cd73
                                    refine wc_seq ?_
                                    refine wc_region ?_   -- region 36
                                    refine wl_det rfl rfl (det_eql rfl rfl) rfl ?_
                                    refine wl_det rfl rfl (det_assign rfl) rfl ?_
                                    refine wl_nil ?_
                                    refine pn_then ?_
                                    refine wc_cond rfl (fun cd77 => ?_) (fun cd77 => ?_)
                                    · have h := ifT h cd77
                                      refine wc_region ?_   -- region 37
                                      refine wl_det rfl rfl (det_field rfl fd49_16 rfl) rfl ?_
                                      refine wl_det rfl rfl (det_load rfl (ms m0) (by rfl) na4 us4) rfl ?_
                                      refine wl_det rfl rfl (det_not rfl) rfl ?_
                                      refine wl_det rfl rfl (det_field rfl fd49_16 rfl) rfl ?_
                                      refine wl_act0 (act_store (cells := [_]) (cs' := [_, _, _, _, _, _, _, _, _, _, _, _, _, _, _, _, _, _, _, _, _]) rfl rfl rfl (ss s0) (by rfl) (of_decide_eq_true rfl) sz4 ⟨rfl, trivial⟩) rfl rfl ?_
                                      rintro _ _ _ ⟨rfl, rfl⟩
                                      refine wl_nil ?_
                                      refine pn_block ?_
                                      replace h := Option.some.inj h
                                      subst h
                                      exact pn_meetG ((r3_1.2.L, r3_1.2.At, a0.ID, a0.Kind, a0.Period.To, a0.Perils, a0.Areas, a0.Risk, a0.Cession, a0.Line, a0.Lines, a0.Retention, a0.Limit, a0.Window, a0.Deductible, a0.Aggregate, a0.Premium, a0.Reinstatements, (!a0.Timed), a0.Base, a0.Inures, a0.Parts), y3_1A0, r3_1.2.L.length, y3_1c0, A0, a0.Perils.length, c0, A3, a0.Areas.length, c3, A6, a0.Reinstatements.length, c6, A9, a0.Inures.length, c9, A12, a0.Parts.length, c12, ()) rfl ⟨rfl, rfl, trivial⟩ (fun _ h => h.to ⟨_, r0, ⟨_, r0, ⟨_, r0, trivial⟩⟩⟩ ⟨m0, ⟨(ms (ms m0)), ⟨(ms (ms (ms m0))), ⟨(ms (ms (ms (ms m0)))), ⟨(ms (ms (ms (ms (ms m0))))), ⟨(ms (ms (ms (ms (ms (ms m0)))))), trivial⟩⟩⟩⟩⟩⟩)
                                    · have h := ifF h cd77
                                      refine wc_seq ?_
                                      refine wc_region ?_   -- region 38
                                      refine wl_det rfl rfl (det_eql rfl rfl) rfl ?_
                                      refine wl_det rfl rfl (det_assign rfl) rfl ?_
                                      refine wl_nil ?_
                                      refine pn_then ?_
                                      refine wc_cond rfl (fun cd81 => ?_) (fun cd81 => ?_)
                                      · have h := ifT h cd81
                                        refine wc_region ?_   -- region 39
                                        refine wl_det rfl rfl (det_move rfl) rfl ?_
                                        refine wl_det rfl rfl (det_field rfl fd49_17 rfl) rfl ?_
                                        refine wl_act0 (act_store (cells := [_]) (cs' := [_, _, _, _, _, _, _, _, _, _, _, _, _, _, _, _, _, _, _, _, _]) rfl rfl rfl (ss s0) (by rfl) (of_decide_eq_true rfl) sz3 ⟨rfl, trivial⟩) rfl rfl ?_
                                        rintro _ _ _ ⟨rfl, rfl⟩
                                        refine wl_nil ?_
                                        refine pn_block ?_
                                        replace h := Option.some.inj h
                                        subst h
                                        exact pn_meetG ((r3_1.2.L, r3_1.2.At, a0.ID, a0.Kind, a0.Period.To, a0.Perils, a0.Areas, a0.Risk, a0.Cession, a0.Line, a0.Lines, a0.Retention, a0.Limit, a0.Window, a0.Deductible, a0.Aggregate, a0.Premium, a0.Reinstatements, a0.Timed, s2.2.2, a0.Inures, a0.Parts), y3_1A0, r3_1.2.L.length, y3_1c0, A0, a0.Perils.length, c0, A3, a0.Areas.length, c3, A6, a0.Reinstatements.length, c6, A9, a0.Inures.length, c9, A12, a0.Parts.length, c12, ()) rfl ⟨rfl, rfl, trivial⟩ (fun _ h => h.to ⟨_, r0, ⟨_, r0, ⟨_, r0, trivial⟩⟩⟩ ⟨m0, ⟨(ms (ms m0)), ⟨(ms (ms (ms m0))), ⟨(ms (ms (ms (ms m0)))), ⟨(ms (ms (ms (ms (ms m0))))), ⟨(ms (ms (ms (ms (ms (ms m0)))))), trivial⟩⟩⟩⟩⟩⟩)
                                      · have h := ifF h cd81
                                        refine wc_seq ?_
                                        refine wc_region ?_   -- region 40
                                        refine wl_det rfl rfl (det_eql rfl rfl) rfl ?_
                                        refine wl_det rfl rfl (det_assign rfl) rfl ?_
                                        refine wl_nil ?_
                                        refine pn_then ?_
                                        refine wc_cond rfl (fun cd85 => ?_) (fun cd85 => ?_)
                                        · have h := ifT h cd85
                                          obtain ⟨k41_p1, h⟩ := chk_some h
                                          refine dx_regionZ (Z := St C [_, _] [_, _, _, _, _, _, _]) 9 [[], [], [1], [0, 1, 2], [], [4], [4, 5], [], [0, 1, 2, 3, 7], [0, 1, 2, 3, 4, 5, 6, 7, 8], [0, 1, 2, 3, 4, 5, 6, 7, 8, 9], [0, 1, 2, 3, 4, 5, 6, 7, 8, 9, 10], [0, 1, 2, 3, 4, 5, 6, 7, 8, 9, 10, 11], [0, 1, 2, 3, 4, 5, 6, 7, 8, 9, 10, 11, 12], [0, 1, 2, 3, 4, 5, 6, 7, 8, 9, 10, 11, 12, 13]] mixed (ord := (.det 1 (.det 2 (.det 4 (.det 5 (.det 7 (.alt 0 (.alt 3 (.alt 6 (.alt 8 .done .dead) (.alt 8 (.alt 6 .done .dead) .dead)) (.alt 6 (.alt 3 (.alt 8 .done .dead) .dead) .dead)) (.alt 6 (.alt 0 (.alt 3 (.alt 8 .done .dead) .dead) .dead) .dead)))))))) (by kernel_rfl) (fun _ h => h.to ⟨_, (rs r0), ⟨_, (rs r0), trivial⟩⟩ ⟨m0, ⟨(ms m0), ⟨(ms (ms m0)), ⟨(ms (ms (ms m0))), ⟨(ms (ms (ms (ms m0)))), ⟨(ms (ms (ms (ms (ms m0))))), ⟨(ms (ms (ms (ms (ms (ms m0)))))), trivial⟩⟩⟩⟩⟩⟩⟩) ?_   -- region 41
                                          refine hx_det rfl rfl rfl nofun (det_field rfl fd49_18 rfl) rfl ?_
                                          refine hx_det rfl rfl rfl nofun (det_load rfl m0 (by rfl) na23 us23) rfl ?_
                                          refine hx_det rfl rfl rfl nofun (det_field rfl fd49_0 rfl) rfl ?_
                                          refine hx_det rfl rfl rfl nofun (det_load rfl m0 (by rfl) na3 us3) rfl ?_
                                          refine hx_det rfl rfl rfl nofun (det_move rfl) rfl ?_
                                          refine hx_or ?_ ?_
                                          · refine hx_mut rfl rfl rfl (act_lit0S (lInt .i64) un23 (by kernel_rfl)) rfl (by rintro _ _ _ ⟨A41_0, rfl, rfl, rfl⟩ w hs; exact hs.to ⟨_, (rs (rs r0)), ⟨_, (rs (rs r0)), trivial⟩⟩ ⟨m0, ⟨(ms m0), ⟨(ms (ms m0)), ⟨(ms (ms (ms m0))), ⟨(ms (ms (ms (ms m0)))), ⟨(ms (ms (ms (ms (ms m0))))), ⟨(ms (ms (ms (ms (ms (ms m0)))))), trivial⟩⟩⟩⟩⟩⟩⟩) ?_
                                            rintro _ _ _ ⟨A41_0, rfl, rfl, rfl⟩
                                            refine hx_or ?_ ?_
                                            · refine hx_mut rfl rfl rfl (act_appendS0 (L := (lInt .i64)) rfl rfl s0 (src_F (ms (ms (ms (ms (ms m0)))))) un23 in3 rfl rfl rfl k41_p1) rfl (by rintro _ _ _ ⟨A41_3, c41_3, rfl, rfl, rfl⟩ w hs; exact hs.to ⟨_, (rs (rs r0)), ⟨_, (rs (rs r0)), trivial⟩⟩ ⟨m0, ⟨(ms m0), ⟨(ms (ms m0)), ⟨(ms (ms (ms m0))), ⟨(ms (ms (ms (ms m0)))), ⟨(ms (ms (ms (ms (ms m0))))), ⟨(ms (ms (ms (ms (ms (ms m0)))))), trivial⟩⟩⟩⟩⟩⟩⟩) ?_
                                              rintro _ _ _ ⟨A41_3, c41_3, rfl, rfl, rfl⟩
                                              refine hx_or ?_ ?_
                                              · refine hx_mut rfl rfl rfl (act_litS (lInt .i64) (vs := [_, _, _, _, _, _]) (cs := [_, _, _, _, _, _]) [0, a0.ID, 5, 7, 7, 1048577] un23 in3 rfl rfl rfl rfl rfl ⟨rfl, rfl, rfl, rfl, rfl, rfl, trivial⟩ (by rfl) rfl (litR_flat rfl)) rfl (by rintro _ _ _ ⟨A41_6, rfl, rfl, rfl⟩ w hs; exact hs.to ⟨_, (rs (rs (rs r0))), ⟨_, (rs (rs (rs r0))), trivial⟩⟩ ⟨m0, ⟨(ms m0), ⟨(ms (ms m0)), ⟨(ms (ms (ms m0))), ⟨(ms (ms (ms (ms m0)))), ⟨(ms (ms (ms (ms (ms m0))))), ⟨(ms (ms (ms (ms (ms (ms m0)))))), trivial⟩⟩⟩⟩⟩⟩⟩) ?_
                                                rintro _ _ _ ⟨A41_6, rfl, rfl, rfl⟩
                                                obtain ⟨r41_8, hr41_8, h⟩ := bind_some h
                                                refine hx_mut rfl rfl rfl (act_callS (cap := []) (W_treatymade_Deck_Next r3_1.2 6 Ba1 y3_1A0 r3_1.2.L.length y3_1c0 r41_8 hr41_8) rfl rfl rfl bd45 ⟨_, (rs (rs r0)), rfl⟩ ⟨m0, trivial⟩) rfl (by rintro _ _ _ ⟨_, _, ⟨y41_8A0, y41_8n0, y41_8c0, rfl, rfl, rfl⟩, rfl, rfl⟩ w hs; exact hs.to ⟨_, (rs (rs (rs r0))), ⟨_, (rs (rs (rs r0))), trivial⟩⟩ ⟨(ms m0), ⟨(ms (ms m0)), ⟨(ms (ms (ms m0))), ⟨(ms (ms (ms (ms m0)))), ⟨(ms (ms (ms (ms (ms m0))))), ⟨(ms (ms (ms (ms (ms (ms m0)))))), ⟨(ms (ms (ms (ms (ms (ms (ms m0))))))), trivial⟩⟩⟩⟩⟩⟩⟩) ?_
                                                rintro _ _ _ ⟨_, _, ⟨y41_8A0, y41_8n0, y41_8c0, rfl, rfl, rfl⟩, rfl, rfl⟩
                                                dsimp only [List.nil_append, List.cons_append]
                                                refine hx_end ?_
                                                refine wl_know (fun _ h => h.lenF m0) (fun e => ?_)
                                                subst e
                                                obtain ⟨k41_9, h⟩ := chk_some h
                                                refine wl_det rfl rfl (det_indexO rfl rfl (ms m0) k41_9 un23 sz3) rfl ?_
                                                refine wl_det rfl rfl (det_loadO (off := 0) rfl (ms m0) k41_9 (by rfl) (by rfl) (loaded_1 na3 us3)) rfl ?_
                                                refine wl_act (act_litS (lInt .i64) (vs := [_]) (cs := [_]) [(ix [0, a0.ID, 5, 7, 7, 1048577] r41_8.1)] un23 in3 rfl rfl rfl rfl rfl ⟨rfl, trivial⟩ (by rfl) rfl (litR_flat rfl)) rfl rfl rfl ?_
                                                rintro _ _ _ ⟨A41_11, rfl, rfl, rfl⟩
                                                obtain ⟨k41_12, h⟩ := chk_some h
                                                refine wl_act (act_appendS (L := (lInt .i64)) rfl rfl (ss (ss (ss s0))) (src_O m0) un23 in3 rfl rfl rfl k41_12) rfl rfl rfl ?_
                                                rintro _ _ _ ⟨A41_12, c41_12, rfl, rfl, rfl⟩
                                                refine wl_det rfl rfl (det_field rfl fd49_18 rfl) rfl ?_
                                                refine wl_act0 (act_store (cells := [_]) (cs' := [_, _, _, _, _, _, _, _, _, _, _, _, _, _, _, _, _, _, _, _, _]) rfl rfl rfl (ss (ss (ss (ss s0)))) (by rfl) (of_decide_eq_true rfl) sz23 ⟨rfl, trivial⟩) rfl rfl ?_
                                                rintro _ _ _ ⟨rfl, rfl⟩
                                                refine wl_nil ?_
                                                refine pn_block ?_
                                                refine pn_st (fun _ h => h.shutS (rs (rs (rs r0)))) ?_
                                                replace h := Option.some.inj h
                                                subst h
                                                exact pn_meetG ((r41_8.2.L, r41_8.2.At, a0.ID, a0.Kind, a0.Period.To, a0.Perils, a0.Areas, a0.Risk, a0.Cession, a0.Line, a0.Lines, a0.Retention, a0.Limit, a0.Window, a0.Deductible, a0.Aggregate, a0.Premium, a0.Reinstatements, a0.Timed, a0.Base, (a0.Inures ++ [(ix [0, a0.ID, 5, 7, 7, 1048577] r41_8.1)]), a0.Parts), y41_8A0, r41_8.2.L.length, y41_8c0, A0, a0.Perils.length, c0, A3, a0.Areas.length, c3, A6, a0.Reinstatements.length, c6, A41_12, (a0.Inures ++ [(ix [0, a0.ID, 5, 7, 7, 1048577] r41_8.1)]).length, c41_12, A12, a0.Parts.length, c12, ()) rfl ⟨rfl, rfl, trivial⟩ (fun _ h => h.to ⟨_, (rs r0), ⟨_, (rs (rs r0)), ⟨_, (rs (rs r0)), trivial⟩⟩⟩ ⟨(ms m0), ⟨(ms (ms (ms (ms m0)))), ⟨(ms (ms (ms (ms (ms m0))))), ⟨(ms (ms (ms (ms (ms (ms m0)))))), ⟨m0, ⟨(ms (ms (ms (ms (ms (ms (ms (ms m0)))))))), trivial⟩⟩⟩⟩⟩⟩)
                                              refine hx_or ?_ trivial
                                              obtain ⟨r41_8, hr41_8, h⟩ := bind_some h
                                              refine hx_mut rfl rfl rfl (act_callS (cap := []) (W_treatymade_Deck_Next r3_1.2 6 Ba1 y3_1A0 r3_1.2.L.length y3_1c0 r41_8 hr41_8) rfl rfl rfl bd45 ⟨_, (rs r0), rfl⟩ ⟨m0, trivial⟩) rfl (by rintro _ _ _ ⟨_, _, ⟨y41_8A0, y41_8n0, y41_8c0, rfl, rfl, rfl⟩, rfl, rfl⟩ w hs; exact hs.to ⟨_, (rs (rs r0)), ⟨_, (rs (rs r0)), trivial⟩⟩ ⟨(ms m0), ⟨(ms (ms m0)), ⟨(ms (ms (ms m0))), ⟨(ms (ms (ms (ms m0)))), ⟨(ms (ms (ms (ms (ms m0))))), ⟨(ms (ms (ms (ms (ms (ms m0)))))), ⟨(ms (ms (ms (ms (ms (ms (ms m0))))))), trivial⟩⟩⟩⟩⟩⟩⟩) ?_
                                              rintro _ _ _ ⟨_, _, ⟨y41_8A0, y41_8n0, y41_8c0, rfl, rfl, rfl⟩, rfl, rfl⟩
                                              dsimp only [List.nil_append, List.cons_append]
                                              refine hx_mut rfl rfl rfl (act_litS (lInt .i64) (vs := [_, _, _, _, _, _]) (cs := [_, _, _, _, _, _]) [0, a0.ID, 5, 7, 7, 1048577] un23 in3 rfl rfl rfl rfl rfl ⟨rfl, rfl, rfl, rfl, rfl, rfl, trivial⟩ (by rfl) rfl (litR_flat rfl)) rfl (by rintro _ _ _ ⟨A41_6, rfl, rfl, rfl⟩ w hs; exact hs.to ⟨_, (rs (rs (rs r0))), ⟨_, (rs (rs (rs r0))), trivial⟩⟩ ⟨(ms m0), ⟨(ms (ms m0)), ⟨(ms (ms (ms m0))), ⟨(ms (ms (ms (ms m0)))), ⟨(ms (ms (ms (ms (ms m0))))), ⟨(ms (ms (ms (ms (ms (ms m0)))))), ⟨(ms (ms (ms (ms (ms (ms (ms m0))))))), trivial⟩⟩⟩⟩⟩⟩⟩) ?_
                                              rintro _ _ _ ⟨A41_6, rfl, rfl, rfl⟩
                                              refine hx_end ?_
                                              refine wl_know (fun _ h => h.lenF m0) (fun e => ?_)
                                              subst e
                                              obtain ⟨k41_9, h⟩ := chk_some h
                                              refine wl_det rfl rfl (det_indexO rfl rfl m0 k41_9 un23 sz3) rfl ?_
                                              refine wl_det rfl rfl (det_loadO (off := 0) rfl m0 k41_9 (by rfl) (by rfl) (loaded_1 na3 us3)) rfl ?_
                                              refine wl_act (act_litS (lInt .i64) (vs := [_]) (cs := [_]) [(ix [0, a0.ID, 5, 7, 7, 1048577] r41_8.1)] un23 in3 rfl rfl rfl rfl rfl ⟨rfl, trivial⟩ (by rfl) rfl (litR_flat rfl)) rfl rfl rfl ?_
                                              rintro _ _ _ ⟨A41_11, rfl, rfl, rfl⟩
                                              obtain ⟨k41_12, h⟩ := chk_some h
                                              refine wl_act (act_appendS (L := (lInt .i64)) rfl rfl (ss (ss (ss s0))) (src_O m0) un23 in3 rfl rfl rfl k41_12) rfl rfl rfl ?_
                                              rintro _ _ _ ⟨A41_12, c41_12, rfl, rfl, rfl⟩
                                              refine wl_det rfl rfl (det_field rfl fd49_18 rfl) rfl ?_
                                              refine wl_act0 (act_store (cells := [_]) (cs' := [_, _, _, _, _, _, _, _, _, _, _, _, _, _, _, _, _, _, _, _, _]) rfl rfl rfl (ss (ss (ss (ss s0)))) (by rfl) (of_decide_eq_true rfl) sz23 ⟨rfl, trivial⟩) rfl rfl ?_
                                              rintro _ _ _ ⟨rfl, rfl⟩
                                              refine wl_nil ?_
                                              refine pn_block ?_
                                              refine pn_st (fun _ h => h.shutS (rs (rs (rs r0)))) ?_
                                              replace h := Option.some.inj h
                                              subst h
                                              exact pn_meetG ((r41_8.2.L, r41_8.2.At, a0.ID, a0.Kind, a0.Period.To, a0.Perils, a0.Areas, a0.Risk, a0.Cession, a0.Line, a0.Lines, a0.Retention, a0.Limit, a0.Window, a0.Deductible, a0.Aggregate, a0.Premium, a0.Reinstatements, a0.Timed, a0.Base, (a0.Inures ++ [(ix [0, a0.ID, 5, 7, 7, 1048577] r41_8.1)]), a0.Parts), y41_8A0, r41_8.2.L.length, y41_8c0, A0, a0.Perils.length, c0, A3, a0.Areas.length, c3, A6, a0.Reinstatements.length, c6, A41_12, (a0.Inures ++ [(ix [0, a0.ID, 5, 7, 7, 1048577] r41_8.1)]).length, c41_12, A12, a0.Parts.length, c12, ()) rfl ⟨rfl, rfl, trivial⟩ (fun _ h => h.to ⟨_, (rs (rs r0)), ⟨_, (rs (rs r0)), ⟨_, (rs (rs r0)), trivial⟩⟩⟩ ⟨(ms m0), ⟨(ms (ms (ms (ms m0)))), ⟨(ms (ms (ms (ms (ms m0))))), ⟨(ms (ms (ms (ms (ms (ms m0)))))), ⟨m0, ⟨(ms (ms (ms (ms (ms (ms (ms (ms m0)))))))), trivial⟩⟩⟩⟩⟩⟩)
                                            refine hx_or ?_ trivial
                                            refine hx_mut rfl rfl rfl (act_litS (lInt .i64) (vs := [_, _, _, _, _, _]) (cs := [_, _, _, _, _, _]) [0, a0.ID, 5, 7, 7, 1048577] un23 in3 rfl rfl rfl rfl rfl ⟨rfl, rfl, rfl, rfl, rfl, rfl, trivial⟩ (by rfl) rfl (litR_flat rfl)) rfl (by rintro _ _ _ ⟨A41_6, rfl, rfl, rfl⟩ w hs; exact hs.to ⟨_, (rs (rs (rs r0))), ⟨_, (rs (rs (rs r0))), trivial⟩⟩ ⟨m0, ⟨(ms m0), ⟨(ms (ms m0)), ⟨(ms (ms (ms m0))), ⟨(ms (ms (ms (ms m0)))), ⟨(ms (ms (ms (ms (ms m0))))), ⟨(ms (ms (ms (ms (ms (ms m0)))))), trivial⟩⟩⟩⟩⟩⟩⟩) ?_
                                            rintro _ _ _ ⟨A41_6, rfl, rfl, rfl⟩
                                            refine hx_mut rfl rfl rfl (act_appendS0 (L := (lInt .i64)) rfl rfl (ss s0) (src_F (ms (ms (ms (ms (ms m0)))))) un23 in3 rfl rfl rfl k41_p1) rfl (by rintro _ _ _ ⟨A41_3, c41_3, rfl, rfl, rfl⟩ w hs; exact hs.to ⟨_, (rs (rs (rs r0))), ⟨_, (rs (rs (rs r0))), trivial⟩⟩ ⟨m0, ⟨(ms m0), ⟨(ms (ms m0)), ⟨(ms (ms (ms m0))), ⟨(ms (ms (ms (ms m0)))), ⟨(ms (ms (ms (ms (ms m0))))), ⟨(ms (ms (ms (ms (ms (ms m0)))))), trivial⟩⟩⟩⟩⟩⟩⟩) ?_
                                            rintro _ _ _ ⟨A41_3, c41_3, rfl, rfl, rfl⟩
                                            obtain ⟨r41_8, hr41_8, h⟩ := bind_some h
                                            refine hx_mut rfl rfl rfl (act_callS (cap := []) (W_treatymade_Deck_Next r3_1.2 6 Ba1 y3_1A0 r3_1.2.L.length y3_1c0 r41_8 hr41_8) rfl rfl rfl bd45 ⟨_, (rs (rs r0)), rfl⟩ ⟨m0, trivial⟩) rfl (by rintro _ _ _ ⟨_, _, ⟨y41_8A0, y41_8n0, y41_8c0, rfl, rfl, rfl⟩, rfl, rfl⟩ w hs; exact hs.to ⟨_, (rs (rs (rs r0))), ⟨_, (rs (rs (rs r0))), trivial⟩⟩ ⟨(ms m0), ⟨(ms (ms m0)), ⟨(ms (ms (ms m0))), ⟨(ms (ms (ms (ms m0)))), ⟨(ms (ms (ms (ms (ms m0))))), ⟨(ms (ms (ms (ms (ms (ms m0)))))), ⟨(ms (ms (ms (ms (ms (ms (ms m0))))))), trivial⟩⟩⟩⟩⟩⟩⟩) ?_
                                            rintro _ _ _ ⟨_, _, ⟨y41_8A0, y41_8n0, y41_8c0, rfl, rfl, rfl⟩, rfl, rfl⟩
                                            dsimp only [List.nil_append, List.cons_append]
                                            refine hx_end ?_
                                            refine wl_know (fun _ h => h.lenF m0) (fun e => ?_)
                                            subst e
                                            obtain ⟨k41_9, h⟩ := chk_some h
                                            refine wl_det rfl rfl (det_indexO rfl rfl (ms m0) k41_9 un23 sz3) rfl ?_
                                            refine wl_det rfl rfl (det_loadO (off := 0) rfl (ms m0) k41_9 (by rfl) (by rfl) (loaded_1 na3 us3)) rfl ?_
                                            refine wl_act (act_litS (lInt .i64) (vs := [_]) (cs := [_]) [(ix [0, a0.ID, 5, 7, 7, 1048577] r41_8.1)] un23 in3 rfl rfl rfl rfl rfl ⟨rfl, trivial⟩ (by rfl) rfl (litR_flat rfl)) rfl rfl rfl ?_
                                            rintro _ _ _ ⟨A41_11, rfl, rfl, rfl⟩
                                            obtain ⟨k41_12, h⟩ := chk_some h
                                            refine wl_act (act_appendS (L := (lInt .i64)) rfl rfl (ss (ss (ss s0))) (src_O m0) un23 in3 rfl rfl rfl k41_12) rfl rfl rfl ?_
                                            rintro _ _ _ ⟨A41_12, c41_12, rfl, rfl, rfl⟩
                                            refine wl_det rfl rfl (det_field rfl fd49_18 rfl) rfl ?_
                                            refine wl_act0 (act_store (cells := [_]) (cs' := [_, _, _, _, _, _, _, _, _, _, _, _, _, _, _, _, _, _, _, _, _]) rfl rfl rfl (ss (ss (ss (ss s0)))) (by rfl) (of_decide_eq_true rfl) sz23 ⟨rfl, trivial⟩) rfl rfl ?_
                                            rintro _ _ _ ⟨rfl, rfl⟩
                                            refine wl_nil ?_
                                            refine pn_block ?_
                                            refine pn_st (fun _ h => h.shutS (rs (rs (rs r0)))) ?_
                                            replace h := Option.some.inj h
                                            subst h
                                            exact pn_meetG ((r41_8.2.L, r41_8.2.At, a0.ID, a0.Kind, a0.Period.To, a0.Perils, a0.Areas, a0.Risk, a0.Cession, a0.Line, a0.Lines, a0.Retention, a0.Limit, a0.Window, a0.Deductible, a0.Aggregate, a0.Premium, a0.Reinstatements, a0.Timed, a0.Base, (a0.Inures ++ [(ix [0, a0.ID, 5, 7, 7, 1048577] r41_8.1)]), a0.Parts), y41_8A0, r41_8.2.L.length, y41_8c0, A0, a0.Perils.length, c0, A3, a0.Areas.length, c3, A6, a0.Reinstatements.length, c6, A41_12, (a0.Inures ++ [(ix [0, a0.ID, 5, 7, 7, 1048577] r41_8.1)]).length, c41_12, A12, a0.Parts.length, c12, ()) rfl ⟨rfl, rfl, trivial⟩ (fun _ h => h.to ⟨_, (rs r0), ⟨_, (rs (rs r0)), ⟨_, (rs (rs r0)), trivial⟩⟩⟩ ⟨(ms m0), ⟨(ms (ms (ms (ms m0)))), ⟨(ms (ms (ms (ms (ms m0))))), ⟨(ms (ms (ms (ms (ms (ms m0)))))), ⟨m0, ⟨(ms (ms (ms (ms (ms (ms (ms (ms m0)))))))), trivial⟩⟩⟩⟩⟩⟩)
                                          refine hx_or ?_ trivial
                                          refine hx_mut rfl rfl rfl (act_litS (lInt .i64) (vs := [_, _, _, _, _, _]) (cs := [_, _, _, _, _, _]) [0, a0.ID, 5, 7, 7, 1048577] un23 in3 rfl rfl rfl rfl rfl ⟨rfl, rfl, rfl, rfl, rfl, rfl, trivial⟩ (by rfl) rfl (litR_flat rfl)) rfl (by rintro _ _ _ ⟨A41_6, rfl, rfl, rfl⟩ w hs; exact hs.to ⟨_, (rs (rs r0)), ⟨_, (rs (rs r0)), trivial⟩⟩ ⟨m0, ⟨(ms m0), ⟨(ms (ms m0)), ⟨(ms (ms (ms m0))), ⟨(ms (ms (ms (ms m0)))), ⟨(ms (ms (ms (ms (ms m0))))), ⟨(ms (ms (ms (ms (ms (ms m0)))))), trivial⟩⟩⟩⟩⟩⟩⟩) ?_
                                          rintro _ _ _ ⟨A41_6, rfl, rfl, rfl⟩
                                          refine hx_mut rfl rfl rfl (act_lit0S (lInt .i64) un23 (by kernel_rfl)) rfl (by rintro _ _ _ ⟨A41_0, rfl, rfl, rfl⟩ w hs; exact hs.to ⟨_, (rs (rs (rs r0))), ⟨_, (rs (rs (rs r0))), trivial⟩⟩ ⟨m0, ⟨(ms m0), ⟨(ms (ms m0)), ⟨(ms (ms (ms m0))), ⟨(ms (ms (ms (ms m0)))), ⟨(ms (ms (ms (ms (ms m0))))), ⟨(ms (ms (ms (ms (ms (ms m0)))))), trivial⟩⟩⟩⟩⟩⟩⟩) ?_
                                          rintro _ _ _ ⟨A41_0, rfl, rfl, rfl⟩
                                          refine hx_mut rfl rfl rfl (act_appendS0 (L := (lInt .i64)) rfl rfl s0 (src_F (ms (ms (ms (ms (ms m0)))))) un23 in3 rfl rfl rfl k41_p1) rfl (by rintro _ _ _ ⟨A41_3, c41_3, rfl, rfl, rfl⟩ w hs; exact hs.to ⟨_, (rs (rs (rs r0))), ⟨_, (rs (rs (rs r0))), trivial⟩⟩ ⟨m0, ⟨(ms m0), ⟨(ms (ms m0)), ⟨(ms (ms (ms m0))), ⟨(ms (ms (ms (ms m0)))), ⟨(ms (ms (ms (ms (ms m0))))), ⟨(ms (ms (ms (ms (ms (ms m0)))))), trivial⟩⟩⟩⟩⟩⟩⟩) ?_
                                          rintro _ _ _ ⟨A41_3, c41_3, rfl, rfl, rfl⟩
                                          obtain ⟨r41_8, hr41_8, h⟩ := bind_some h
                                          refine hx_mut rfl rfl rfl (act_callS (cap := []) (W_treatymade_Deck_Next r3_1.2 6 Ba1 y3_1A0 r3_1.2.L.length y3_1c0 r41_8 hr41_8) rfl rfl rfl bd45 ⟨_, (rs (rs r0)), rfl⟩ ⟨m0, trivial⟩) rfl (by rintro _ _ _ ⟨_, _, ⟨y41_8A0, y41_8n0, y41_8c0, rfl, rfl, rfl⟩, rfl, rfl⟩ w hs; exact hs.to ⟨_, (rs (rs (rs r0))), ⟨_, (rs (rs (rs r0))), trivial⟩⟩ ⟨(ms m0), ⟨(ms (ms m0)), ⟨(ms (ms (ms m0))), ⟨(ms (ms (ms (ms m0)))), ⟨(ms (ms (ms (ms (ms m0))))), ⟨(ms (ms (ms (ms (ms (ms m0)))))), ⟨(ms (ms (ms (ms (ms (ms (ms m0))))))), trivial⟩⟩⟩⟩⟩⟩⟩) ?_
                                          rintro _ _ _ ⟨_, _, ⟨y41_8A0, y41_8n0, y41_8c0, rfl, rfl, rfl⟩, rfl, rfl⟩
                                          dsimp only [List.nil_append, List.cons_append]
                                          refine hx_end ?_
                                          refine wl_know (fun _ h => h.lenF m0) (fun e => ?_)
                                          subst e
                                          obtain ⟨k41_9, h⟩ := chk_some h
                                          refine wl_det rfl rfl (det_indexO rfl rfl (ms (ms m0)) k41_9 un23 sz3) rfl ?_
                                          refine wl_det rfl rfl (det_loadO (off := 0) rfl (ms (ms m0)) k41_9 (by rfl) (by rfl) (loaded_1 na3 us3)) rfl ?_
                                          refine wl_act (act_litS (lInt .i64) (vs := [_]) (cs := [_]) [(ix [0, a0.ID, 5, 7, 7, 1048577] r41_8.1)] un23 in3 rfl rfl rfl rfl rfl ⟨rfl, trivial⟩ (by rfl) rfl (litR_flat rfl)) rfl rfl rfl ?_
                                          rintro _ _ _ ⟨A41_11, rfl, rfl, rfl⟩
                                          obtain ⟨k41_12, h⟩ := chk_some h
                                          refine wl_act (act_appendS (L := (lInt .i64)) rfl rfl (ss (ss s0)) (src_O m0) un23 in3 rfl rfl rfl k41_12) rfl rfl rfl ?_
                                          rintro _ _ _ ⟨A41_12, c41_12, rfl, rfl, rfl⟩
                                          refine wl_det rfl rfl (det_field rfl fd49_18 rfl) rfl ?_
                                          refine wl_act0 (act_store (cells := [_]) (cs' := [_, _, _, _, _, _, _, _, _, _, _, _, _, _, _, _, _, _, _, _, _]) rfl rfl rfl (ss (ss (ss (ss s0)))) (by rfl) (of_decide_eq_true rfl) sz23 ⟨rfl, trivial⟩) rfl rfl ?_
                                          rintro _ _ _ ⟨rfl, rfl⟩
                                          refine wl_nil ?_
                                          refine pn_block ?_
                                          refine pn_st (fun _ h => h.shutS (rs (rs r0))) ?_
                                          replace h := Option.some.inj h
                                          subst h
                                          exact pn_meetG ((r41_8.2.L, r41_8.2.At, a0.ID, a0.Kind, a0.Period.To, a0.Perils, a0.Areas, a0.Risk, a0.Cession, a0.Line, a0.Lines, a0.Retention, a0.Limit, a0.Window, a0.Deductible, a0.Aggregate, a0.Premium, a0.Reinstatements, a0.Timed, a0.Base, (a0.Inures ++ [(ix [0, a0.ID, 5, 7, 7, 1048577] r41_8.1)]), a0.Parts), y41_8A0, r41_8.2.L.length, y41_8c0, A0, a0.Perils.length, c0, A3, a0.Areas.length, c3, A6, a0.Reinstatements.length, c6, A41_12, (a0.Inures ++ [(ix [0, a0.ID, 5, 7, 7, 1048577] r41_8.1)]).length, c41_12, A12, a0.Parts.length, c12, ()) rfl ⟨rfl, rfl, trivial⟩ (fun _ h => h.to ⟨_, (rs r0), ⟨_, (rs (rs r0)), ⟨_, (rs (rs r0)), trivial⟩⟩⟩ ⟨(ms m0), ⟨(ms (ms (ms (ms m0)))), ⟨(ms (ms (ms (ms (ms m0))))), ⟨(ms (ms (ms (ms (ms (ms m0)))))), ⟨m0, ⟨(ms (ms (ms (ms (ms (ms (ms (ms m0)))))))), trivial⟩⟩⟩⟩⟩⟩)
                                        · have h := ifF h cd85
                                          refine wc_seq ?_
                                          refine wc_region ?_   -- region 42
                                          refine wl_det rfl rfl (det_eql rfl rfl) rfl ?_
                                          refine wl_det rfl rfl (det_assign rfl) rfl ?_
                                          refine wl_nil ?_
                                          refine pn_then ?_
                                          refine wc_cond rfl (fun cd89 => ?_) (fun cd89 => ?_)
                                          · have h := ifT h cd89
                                            refine wc_region ?_   -- region 43
                                            refine wl_act (act_lit0S lGPart un22 (by kernel_rfl)) rfl rfl rfl ?_
                                            rintro _ _ _ ⟨A43_0, rfl, rfl, rfl⟩
                                            refine wl_det rfl rfl (det_field rfl fd49_19 rfl) rfl ?_
                                            refine wl_det rfl rfl (det_load rfl (ms (ms m0)) (by rfl) na22 us22) rfl ?_
                                            obtain ⟨k43_3, h⟩ := chk_some h
                                            refine wl_act (act_appendS0 (L := lGPart) rfl rfl s0 (src_F (ms (ms (ms (ms (ms (ms m0))))))) un22 in25 rfl rfl rfl k43_3) rfl rfl rfl ?_
                                            rintro _ _ _ ⟨A43_3, c43_3, rfl, rfl, rfl⟩
                                            refine wl_det rfl rfl (det_move rfl) rfl ?_
                                            obtain ⟨r43_5, hr43_5, h⟩ := bind_some h
                                            refine wl_act (act_callS (cap := []) (W_treatymade_Deck_Range r3_1.2 (-1) 16 Ba1 y3_1A0 r3_1.2.L.length y3_1c0 r43_5 hr43_5) rfl rfl rfl bd55 ⟨_, (rs r0), rfl⟩ ⟨m0, trivial⟩) rfl rfl rfl ?_
                                            rintro _ _ _ ⟨_, _, ⟨y43_5A0, y43_5n0, y43_5c0, rfl, rfl, rfl⟩, rfl, rfl⟩
                                            dsimp only [List.nil_append, List.cons_append]
                                            refine wl_know (fun _ h => h.lenF m0) (fun e => ?_)
                                            subst e
                                            refine wl_det rfl rfl (det_move rfl) rfl ?_
                                            refine wl_det rfl rfl (det_build (cs := [_, _]) pl25 zr25 rfl rfl (by rfl)) rfl ?_
                                            refine wl_act (act_litS lGPart (vs := [_]) (cs := [_, _]) [(GPart.mk r43_5.1 s2.2.2)] un22 in25 rfl rfl rfl rfl rfl ⟨rfl, trivial⟩ (by rfl) rfl (litR_flat rfl)) rfl rfl rfl ?_
                                            rintro _ _ _ ⟨A43_8, rfl, rfl, rfl⟩
                                            obtain ⟨k43_9, h⟩ := chk_some h
                                            refine wl_act (act_appendS (L := lGPart) rfl rfl (ss (ss s0)) (src_O m0) un22 in25 rfl rfl rfl k43_9) rfl rfl rfl ?_
                                            rintro _ _ _ ⟨A43_9, c43_9, rfl, rfl, rfl⟩
                                            refine wl_det rfl rfl (det_field rfl fd49_19 rfl) rfl ?_
                                            refine wl_act0 (act_store (cells := [_]) (cs' := [_, _, _, _, _, _, _, _, _, _, _, _, _, _, _, _, _, _, _, _, _]) rfl rfl rfl (ss (ss (ss s0))) (by rfl) (of_decide_eq_true rfl) sz22 ⟨rfl, trivial⟩) rfl rfl ?_
                                            rintro _ _ _ ⟨rfl, rfl⟩
                                            refine wl_nil ?_
                                            refine pn_block ?_
                                            refine pn_st (fun _ h => h.shutS (rs (rs r0))) ?_
                                            replace h := Option.some.inj h
                                            subst h
                                            exact pn_meetG ((r43_5.2.L, r43_5.2.At, a0.ID, a0.Kind, a0.Period.To, a0.Perils, a0.Areas, a0.Risk, a0.Cession, a0.Line, a0.Lines, a0.Retention, a0.Limit, a0.Window, a0.Deductible, a0.Aggregate, a0.Premium, a0.Reinstatements, a0.Timed, a0.Base, a0.Inures, (a0.Parts ++ [(GPart.mk r43_5.1 s2.2.2)])), y43_5A0, r43_5.2.L.length, y43_5c0, A0, a0.Perils.length, c0, A3, a0.Areas.length, c3, A6, a0.Reinstatements.length, c6, A9, a0.Inures.length, c9, A43_9, (a0.Parts ++ [(GPart.mk r43_5.1 s2.2.2)]).length, c43_9, ()) rfl ⟨rfl, rfl, trivial⟩ (fun _ h => h.to ⟨_, (rs r0), ⟨_, (rs r0), ⟨_, (rs r0), trivial⟩⟩⟩ ⟨(ms m0), ⟨(ms (ms (ms (ms m0)))), ⟨(ms (ms (ms (ms (ms m0))))), ⟨(ms (ms (ms (ms (ms (ms m0)))))), ⟨(ms (ms (ms (ms (ms (ms (ms m0))))))), ⟨m0, trivial⟩⟩⟩⟩⟩⟩)
                                          · have h := ifF h cd89
                                            refine wc_seq ?_
                                            refine wc_region ?_   -- region 44
                                            refine wl_det rfl rfl (det_eql rfl rfl) rfl ?_
                                            refine wl_det rfl rfl (det_assign rfl) rfl ?_
                                            refine wl_nil ?_
                                            refine pn_then ?_
                                            refine wc_cond rfl (fun cd93 => ?_) (fun cd93 => ?_)
                                            · have h := ifT h cd93
                                              refine wc_seq ?_
                                              refine wc_region ?_   -- region 45
                                              refine wl_det rfl rfl (det_assign rfl) rfl ?_
                                              refine wl_nil ?_
                                              refine pn_then ?_
                                              refine wc_block ?_
                                              obtain ⟨k97, hk97⟩ := loopV_some.1 h
                                              refine wc_loop (G := Nat × ((List Int) × Int) × Option Addr × Nat × Nat × Unit) (fun g => IterN (treatylaw20_spoilt_l97 a0 r3_1) g.1 g.2.1 q7) (fun g => g.1) (fun (_, s97, _, _, _, _) => [(3, .pointer (some ⟨b0_0, 0, none⟩)), (6, .pointer (some ⟨b0_1, 0, none⟩)), (7, .int .i64 s97.2)]) (fun (_, _, A97_0, n97_0, c97_0, _) => [eBlk Ba1 71 [.slice y3_1A0 r3_1.2.L.length y3_1c0, .int .i64 r3_1.2.At], eBlk b0_0 49 [.int .i64 a0.ID, .int .i64 a0.Kind, .int .i64 a0.Period.From, .int .i64 a0.Period.To, .slice A0 a0.Perils.length c0, .slice A3 a0.Areas.length c3, .int .i64 a0.Risk, .int .i64 a0.Cession, .int .i64 a0.Line, .int .i64 a0.Lines, .int .i64 a0.Retention, .int .i64 a0.Limit, .int .i64 a0.Window, .int .i64 a0.Deductible, .int .i64 a0.Aggregate, .int .i64 a0.Premium, .slice A97_0 n97_0 c97_0, .bool a0.Timed, .int .i64 a0.Base, .slice A9 a0.Inures.length c9, .slice A12 a0.Parts.length c12], eBlk b0_1 49 [.int .i64 0, .int .i64 0, .int .i64 0, .int .i64 0, .slice none 0 0, .slice none 0 0, .int .i64 0, .int .i64 0, .int .i64 0, .int .i64 0, .int .i64 0, .int .i64 0, .int .i64 0, .int .i64 0, .int .i64 0, .int .i64 0, .slice none 0 0, .bool false, .int .i64 0, .slice none 0 0, .slice none 0 0]]) (fun (_, s97, A97_0, n97_0, c97_0, _) => [fV (lSlice (lInt .i64)) (.slice y3_1A0 r3_1.2.L.length y3_1c0) r3_1.2.L, fV (lSlice (lInt .i64)) (.slice A0 a0.Perils.length c0) a0.Perils, fV (lSlice (lInt .i64)) (.slice A3 a0.Areas.length c3) a0.Areas, fV (lSlice (lInt .i64)) (.slice A97_0 n97_0 c97_0) s97.1, fV (lSlice (lInt .i64)) (.slice A9 a0.Inures.length c9) a0.Inures, fV (lSlice lGPart) (.slice A12 a0.Parts.length c12) a0.Parts]) (k97, (a0.Reinstatements, 0), A6, a0.Reinstatements.length, c6, ()) hk97 ⟨rfl, rfl, rfl, trivial⟩ (fun _ h => h.to ⟨_, r0, ⟨_, r0, ⟨_, r0, trivial⟩⟩⟩ ⟨m0, ⟨(ms (ms m0)), ⟨(ms (ms (ms m0))), ⟨(ms (ms (ms (ms m0)))), ⟨(ms (ms (ms (ms (ms m0))))), ⟨(ms (ms (ms (ms (ms (ms m0)))))), trivial⟩⟩⟩⟩⟩⟩) ?_
                                              rintro ⟨k97, s97, A97_0, n97_0, c97_0, _⟩ hI
                                              obtain ⟨k97, rfl, q97, h, g97⟩ := IterN.pos hI
                                              dsimp only at h ⊢
                                              unfold treatylaw20_spoilt_l97 at h
                                              refine wc_know (fun _ h => h.lenF (ms (ms (ms m0)))) (fun e => ?_)
                                              subst e
                                              refine wc_seq ?_
                                              refine wc_seq ?_
                                              refine wc_region ?_   -- region 46
                                              refine wl_det rfl rfl (det_move rfl) rfl ?_
                                              refine wl_det rfl rfl (det_lss rfl rfl) rfl ?_
                                              refine wl_nil ?_
                                              refine pn_then ?_
                                              refine wc_cond rfl (fun cd101 => ?_) (fun cd101 => ?_)
                                              · have h := ifT h cd101
                                                refine wc_skip ?_
                                                refine pn_then ?_
                                                refine wc_seq ?_
                                                refine wc_block ?_
                                                refine wc_region ?_   -- region 48
                                                refine wl_act (act_lit0S (lInt .i64) un23 (by kernel_rfl)) rfl rfl rfl ?_
                                                rintro _ _ _ ⟨A48_0, rfl, rfl, rfl⟩
                                                refine wl_det rfl rfl (det_field rfl fd49_15 rfl) rfl ?_
                                                refine wl_det rfl rfl (det_load rfl (ms (ms m0)) (by rfl) na23 us23) rfl ?_
                                                obtain ⟨k48_3, h⟩ := chk_some h
                                                refine wl_act (act_appendS0 (L := (lInt .i64)) rfl rfl s0 (src_F (ms (ms (ms m0)))) un23 in3 rfl rfl rfl k48_3) rfl rfl rfl ?_
                                                rintro _ _ _ ⟨A48_3, c48_3, rfl, rfl, rfl⟩
                                                refine wl_act (act_litS (lInt .i64) (vs := [_]) (cs := [_]) [1] un23 in3 rfl rfl rfl rfl rfl ⟨rfl, trivial⟩ (by rfl) rfl (litR_flat rfl)) rfl rfl rfl ?_
                                                rintro _ _ _ ⟨A48_4, rfl, rfl, rfl⟩
                                                obtain ⟨k48_5, h⟩ := chk_some h
                                                refine wl_act (act_appendS (L := (lInt .i64)) rfl rfl (ss s0) (src_O m0) un23 in3 rfl rfl rfl k48_5) rfl rfl rfl ?_
                                                rintro _ _ _ ⟨A48_5, c48_5, rfl, rfl, rfl⟩
                                                refine wl_det rfl rfl (det_field rfl fd49_15 rfl) rfl ?_
                                                refine wl_act0 (act_store (cells := [_]) (cs' := [_, _, _, _, _, _, _, _, _, _, _, _, _, _, _, _, _, _, _, _, _]) rfl rfl rfl (ss (ss (ss s0))) (by rfl) (of_decide_eq_true rfl) sz23 ⟨rfl, trivial⟩) rfl rfl ?_
                                                rintro _ _ _ ⟨rfl, rfl⟩
                                                refine wl_nil ?_
                                                refine pn_block ?_
                                                refine pn_then ?_
                                                refine wc_region ?_   -- region 47
                                                refine wl_det rfl rfl (det_move rfl) rfl ?_
                                                refine wl_det rfl rfl (det_add rfl rfl) rfl ?_
                                                refine wl_det rfl rfl (det_assign rfl) rfl ?_
                                                refine wl_nil ?_
                                                refine pn_st (fun _ h => h.shutS (rs r0)) ?_
                                                replace h := Option.some.inj h
                                                subst h
                                                exact pn_some (k97, ((s97.1 ++ [1]), (w64 (s97.2 + 1))), A48_5, (s97.1 ++ [1]).length, c48_5, ()) ⟨nextL g97, Nat.lt_succ_self _⟩ ⟨rfl, rfl, rfl, trivial⟩ (fun _ h => h.to ⟨_, (rs r0), ⟨_, (rs r0), ⟨_, (rs r0), trivial⟩⟩⟩ ⟨(ms m0), ⟨(ms (ms m0)), ⟨(ms (ms (ms m0))), ⟨m0, ⟨(ms (ms (ms (ms (ms m0))))), ⟨(ms (ms (ms (ms (ms (ms m0)))))), trivial⟩⟩⟩⟩⟩⟩)
                                              · have h := ifF h cd101
                                                refine wc_exit ?_
                                                refine px_then ?_
                                                refine px_then ?_
                                                refine px_block ?_
                                                refine pn_block ?_
                                                replace h := Option.some.inj h
                                                subst h
                                                replace g97 := nextR g97
                                                subst g97
                                                exact pn_meetG ((r3_1.2.L, r3_1.2.At, a0.ID, a0.Kind, a0.Period.To, a0.Perils, a0.Areas, a0.Risk, a0.Cession, a0.Line, a0.Lines, a0.Retention, a0.Limit, a0.Window, a0.Deductible, a0.Aggregate, a0.Premium, s97.1, a0.Timed, a0.Base, a0.Inures, a0.Parts), y3_1A0, r3_1.2.L.length, y3_1c0, A0, a0.Perils.length, c0, A3, a0.Areas.length, c3, A97_0, s97.1.length, c97_0, A9, a0.Inures.length, c9, A12, a0.Parts.length, c12, ()) rfl ⟨rfl, rfl, trivial⟩ (fun _ h => h.to ⟨_, r0, ⟨_, r0, ⟨_, r0, trivial⟩⟩⟩ ⟨m0, ⟨(ms m0), ⟨(ms (ms m0)), ⟨(ms (ms (ms m0))), ⟨(ms (ms (ms (ms m0)))), ⟨(ms (ms (ms (ms (ms m0))))), trivial⟩⟩⟩⟩⟩⟩)
                                            · have h := ifF h cd93
                                              refine wc_seq ?_
                                              refine wc_region ?_   -- region 49
                                              refine wl_det rfl rfl (det_eql rfl rfl) rfl ?_
                                              refine wl_det rfl rfl (det_assign rfl) rfl ?_
                                              refine wl_nil ?_
                                              refine pn_then ?_
                                              refine wc_cond rfl (fun cd109 => ?_) (fun cd109 => ?_)
                                              · have h := ifT h cd109
                                                refine wc_seq ?_
                                                refine wc_region ?_   -- region 50
                                                refine wl_det rfl rfl (det_assign rfl) rfl ?_
                                                refine wl_nil ?_
                                                refine pn_then ?_
                                                refine wc_block ?_
                                                obtain ⟨k113, hk113⟩ := loopV_some.1 h
                                                refine wc_loop (G := Nat × ((List Int) × Int) × Option Addr × Nat × Nat × Unit) (fun g => IterN (treatylaw20_spoilt_l113 a0 r3_1) g.1 g.2.1 q7) (fun g => g.1) (fun (_, s113, _, _, _, _) => [(3, .pointer (some ⟨b0_0, 0, none⟩)), (6, .pointer (some ⟨b0_1, 0, none⟩)), (8, .int .i64 s113.2)]) (fun (_, _, A113_0, n113_0, c113_0, _) => [eBlk Ba1 71 [.slice y3_1A0 r3_1.2.L.length y3_1c0, .int .i64 r3_1.2.At], eBlk b0_0 49 [.int .i64 a0.ID, .int .i64 a0.Kind, .int .i64 a0.Period.From, .int .i64 a0.Period.To, .slice A0 a0.Perils.length c0, .slice A3 a0.Areas.length c3, .int .i64 a0.Risk, .int .i64 a0.Cession, .int .i64 a0.Line, .int .i64 a0.Lines, .int .i64 a0.Retention, .int .i64 a0.Limit, .int .i64 a0.Window, .int .i64 a0.Deductible, .int .i64 a0.Aggregate, .int .i64 a0.Premium, .slice A6 a0.Reinstatements.length c6, .bool a0.Timed, .int .i64 a0.Base, .slice A113_0 n113_0 c113_0, .slice A12 a0.Parts.length c12], eBlk b0_1 49 [.int .i64 0, .int .i64 0, .int .i64 0, .int .i64 0, .slice none 0 0, .slice none 0 0, .int .i64 0, .int .i64 0, .int .i64 0, .int .i64 0, .int .i64 0, .int .i64 0, .int .i64 0, .int .i64 0, .int .i64 0, .int .i64 0, .slice none 0 0, .bool false, .int .i64 0, .slice none 0 0, .slice none 0 0]]) (fun (_, s113, A113_0, n113_0, c113_0, _) => [fV (lSlice (lInt .i64)) (.slice y3_1A0 r3_1.2.L.length y3_1c0) r3_1.2.L, fV (lSlice (lInt .i64)) (.slice A0 a0.Perils.length c0) a0.Perils, fV (lSlice (lInt .i64)) (.slice A3 a0.Areas.length c3) a0.Areas, fV (lSlice (lInt .i64)) (.slice A6 a0.Reinstatements.length c6) a0.Reinstatements, fV (lSlice (lInt .i64)) (.slice A113_0 n113_0 c113_0) s113.1, fV (lSlice lGPart) (.slice A12 a0.Parts.length c12) a0.Parts]) (k113, (a0.Inures, 1), A9, a0.Inures.length, c9, ()) hk113 ⟨rfl, rfl, rfl, trivial⟩ (fun _ h => h.to ⟨_, r0, ⟨_, r0, ⟨_, r0, trivial⟩⟩⟩ ⟨m0, ⟨(ms (ms m0)), ⟨(ms (ms (ms m0))), ⟨(ms (ms (ms (ms m0)))), ⟨(ms (ms (ms (ms (ms m0))))), ⟨(ms (ms (ms (ms (ms (ms m0)))))), trivial⟩⟩⟩⟩⟩⟩) ?_
                                                rintro ⟨k113, s113, A113_0, n113_0, c113_0, _⟩ hI
                                                obtain ⟨k113, rfl, q113, h, g113⟩ := IterN.pos hI
                                                dsimp only at h ⊢
                                                unfold treatylaw20_spoilt_l113 at h
                                                refine wc_know (fun _ h => h.lenF (ms (ms (ms (ms m0))))) (fun e => ?_)
                                                subst e
                                                refine wc_seq ?_
                                                refine wc_seq ?_
                                                refine wc_region ?_   -- region 51
                                                refine wl_det rfl rfl (det_move rfl) rfl ?_
                                                refine wl_det rfl rfl (det_leq rfl rfl) rfl ?_
                                                refine wl_nil ?_
                                                refine pn_then ?_
                                                refine wc_cond rfl (fun cd117 => ?_) (fun cd117 => ?_)
                                                · have h := ifT h cd117
                                                  refine wc_skip ?_
                                                  refine pn_then ?_
                                                  refine wc_seq ?_
                                                  refine wc_block ?_
                                                  refine wc_region ?_   -- region 53
                                                  refine wl_act (act_lit0S (lInt .i64) un23 (by kernel_rfl)) rfl rfl rfl ?_
                                                  rintro _ _ _ ⟨A53_0, rfl, rfl, rfl⟩
                                                  refine wl_det rfl rfl (det_field rfl fd49_18 rfl) rfl ?_
                                                  refine wl_det rfl rfl (det_load rfl (ms (ms m0)) (by rfl) na23 us23) rfl ?_
                                                  obtain ⟨k53_3, h⟩ := chk_some h
                                                  refine wl_act (act_appendS0 (L := (lInt .i64)) rfl rfl s0 (src_F (ms (ms (ms (ms m0))))) un23 in3 rfl rfl rfl k53_3) rfl rfl rfl ?_
                                                  rintro _ _ _ ⟨A53_3, c53_3, rfl, rfl, rfl⟩
                                                  refine wl_det rfl rfl (det_move rfl) rfl ?_
                                                  refine wl_det rfl rfl (det_add rfl rfl) rfl ?_
                                                  refine wl_act (act_litS (lInt .i64) (vs := [_]) (cs := [_]) [(w64 (10 + s113.2))] un23 in3 rfl rfl rfl rfl rfl ⟨rfl, trivial⟩ (by rfl) rfl (litR_flat rfl)) rfl rfl rfl ?_
                                                  rintro _ _ _ ⟨A53_6, rfl, rfl, rfl⟩
                                                  obtain ⟨k53_7, h⟩ := chk_some h
                                                  refine wl_act (act_appendS (L := (lInt .i64)) rfl rfl (ss s0) (src_O m0) un23 in3 rfl rfl rfl k53_7) rfl rfl rfl ?_
                                                  rintro _ _ _ ⟨A53_7, c53_7, rfl, rfl, rfl⟩
                                                  refine wl_det rfl rfl (det_field rfl fd49_18 rfl) rfl ?_
                                                  refine wl_act0 (act_store (cells := [_]) (cs' := [_, _, _, _, _, _, _, _, _, _, _, _, _, _, _, _, _, _, _, _, _]) rfl rfl rfl (ss (ss (ss s0))) (by rfl) (of_decide_eq_true rfl) sz23 ⟨rfl, trivial⟩) rfl rfl ?_
                                                  rintro _ _ _ ⟨rfl, rfl⟩
                                                  refine wl_nil ?_
                                                  refine pn_block ?_
                                                  refine pn_then ?_
                                                  refine wc_region ?_   -- region 52
                                                  refine wl_det rfl rfl (det_move rfl) rfl ?_
                                                  refine wl_det rfl rfl (det_add rfl rfl) rfl ?_
                                                  refine wl_det rfl rfl (det_assign rfl) rfl ?_
                                                  refine wl_nil ?_
                                                  refine pn_st (fun _ h => h.shutS (rs r0)) ?_
                                                  replace h := Option.some.inj h
                                                  subst h
                                                  exact pn_some (k113, ((s113.1 ++ [(w64 (10 + s113.2))]), (w64 (s113.2 + 1))), A53_7, (s113.1 ++ [(w64 (10 + s113.2))]).length, c53_7, ()) ⟨nextL g113, Nat.lt_succ_self _⟩ ⟨rfl, rfl, rfl, trivial⟩ (fun _ h => h.to ⟨_, (rs r0), ⟨_, (rs r0), ⟨_, (rs r0), trivial⟩⟩⟩ ⟨(ms m0), ⟨(ms (ms m0)), ⟨(ms (ms (ms m0))), ⟨(ms (ms (ms (ms m0)))), ⟨m0, ⟨(ms (ms (ms (ms (ms (ms m0)))))), trivial⟩⟩⟩⟩⟩⟩)
                                                · have h := ifF h cd117
                                                  refine wc_exit ?_
                                                  refine px_then ?_
                                                  refine px_then ?_
                                                  refine px_block ?_
                                                  refine pn_block ?_
                                                  replace h := Option.some.inj h
                                                  subst h
                                                  replace g113 := nextR g113
                                                  subst g113
                                                  exact pn_meetG ((r3_1.2.L, r3_1.2.At, a0.ID, a0.Kind, a0.Period.To, a0.Perils, a0.Areas, a0.Risk, a0.Cession, a0.Line, a0.Lines, a0.Retention, a0.Limit, a0.Window, a0.Deductible, a0.Aggregate, a0.Premium, a0.Reinstatements, a0.Timed, a0.Base, s113.1, a0.Parts), y3_1A0, r3_1.2.L.length, y3_1c0, A0, a0.Perils.length, c0, A3, a0.Areas.length, c3, A6, a0.Reinstatements.length, c6, A113_0, s113.1.length, c113_0, A12, a0.Parts.length, c12, ()) rfl ⟨rfl, rfl, trivial⟩ (fun _ h => h.to ⟨_, r0, ⟨_, r0, ⟨_, r0, trivial⟩⟩⟩ ⟨m0, ⟨(ms m0), ⟨(ms (ms m0)), ⟨(ms (ms (ms m0))), ⟨(ms (ms (ms (ms m0)))), ⟨(ms (ms (ms (ms (ms m0))))), trivial⟩⟩⟩⟩⟩⟩)
                                              · have h := ifF h cd109
                                                refine wc_skip ?_
                                                refine pn_block ?_
                                                replace h := Option.some.inj h
                                                subst h
                                                exact pn_meetG ((r3_1.2.L, r3_1.2.At, a0.ID, a0.Kind, a0.Period.To, a0.Perils, a0.Areas, a0.Risk, a0.Cession, a0.Line, a0.Lines, a0.Retention, a0.Limit, a0.Window, a0.Deductible, a0.Aggregate, a0.Premium, a0.Reinstatements, a0.Timed, a0.Base, a0.Inures, a0.Parts), y3_1A0, r3_1.2.L.length, y3_1c0, A0, a0.Perils.length, c0, A3, a0.Areas.length, c3, A6, a0.Reinstatements.length, c6, A9, a0.Inures.length, c9, A12, a0.Parts.length, c12, ()) rfl ⟨rfl, rfl, trivial⟩ (fun _ h => h.to ⟨_, r0, ⟨_, r0, ⟨_, r0, trivial⟩⟩⟩ ⟨m0, ⟨(ms (ms m0)), ⟨(ms (ms (ms m0))), ⟨(ms (ms (ms (ms m0)))), ⟨(ms (ms (ms (ms (ms m0))))), ⟨(ms (ms (ms (ms (ms (ms m0)))))), trivial⟩⟩⟩⟩⟩⟩)
  rintro ⟨s7, A7_0, n7_0, c7_0, A7_3, n7_3, c7_3, A7_6, n7_6, c7_6, A7_9, n7_9, c7_9, A7_12, n7_12, c7_12, A7_15, n7_15, c7_15, _⟩ e7
  dsimp only at e7 ⊢
  subst e7
  have h := ho7
  refine wc_know (fun _ h => h.lenF m0) (fun e => ?_)
  subst e
  refine wc_know (fun _ h => h.lenF (ms m0)) (fun e => ?_)
  subst e
  refine wc_know (fun _ h => h.lenF (ms (ms m0))) (fun e => ?_)
  subst e
  refine wc_know (fun _ h => h.lenF (ms (ms (ms m0)))) (fun e => ?_)
  subst e
  refine wc_know (fun _ h => h.lenF (ms (ms (ms (ms m0))))) (fun e => ?_)
  subst e
  refine wc_know (fun _ h => h.lenF (ms (ms (ms (ms (ms m0)))))) (fun e => ?_)
  subst e
  refine wc_seq ?_
  refine wc_region ?_   -- region 54
  refine wl_det rfl rfl (det_loadN (cells := [_, _, _, _, _, _, _, _, _, _, _, _, _, _, _, _, _, _, _, _, _]) rfl (ms m0) (by rfl) ag49 sz49) rfl ?_
  refine wl_act0 (act_store (cells := [_, _, _, _, _, _, _, _, _, _, _, _, _, _, _, _, _, _, _, _, _]) (cs' := [_, _, _, _, _, _, _, _, _, _, _, _, _, _, _, _, _, _, _, _, _]) rfl rfl rfl (ss (ss s0)) (by rfl) (of_decide_eq_true rfl) sz49 ⟨rfl, rfl, rfl, rfl, rfl, rfl, rfl, rfl, rfl, rfl, rfl, rfl, rfl, rfl, rfl, rfl, rfl, rfl, rfl, rfl, rfl, trivial⟩) rfl rfl ?_
  rintro _ _ _ ⟨rfl, rfl⟩
  refine wl_nil ?_
  refine pn_then ?_
  refine wc_ret ?_
  replace h := Option.some.inj h
  subst h
  refine pn_ret (vs := [_]) rfl ⟨⟨_, _, [_, _, _, _, _, _, _, _, _, _, _, _, _, _, _, _, _, _, _, _, _], rfl, (ms (ms m0)), ag49, sz49, rfl⟩, trivial⟩ ⟨A7_3, s7.2.2.2.2.2.1.length, c7_3, A7_6, s7.2.2.2.2.2.2.1.length, c7_6, A7_9, s7.2.2.2.2.2.2.2.2.2.2.2.2.2.2.2.2.2.1.length, c7_9, A7_12, s7.2.2.2.2.2.2.2.2.2.2.2.2.2.2.2.2.2.2.2.2.1.length, c7_12, A7_15, s7.2.2.2.2.2.2.2.2.2.2.2.2.2.2.2.2.2.2.2.2.2.length, c7_15, A7_0, s7.1.length, c7_0, rfl, rfl, rfl⟩ (fun _ h => h.to ⟨_, r0, trivial⟩ ⟨(ms m0), ⟨(ms (ms m0)), ⟨(ms (ms (ms m0))), ⟨(ms (ms (ms (ms m0)))), ⟨(ms (ms (ms (ms (ms m0))))), ⟨m0, trivial⟩⟩⟩⟩⟩⟩)
def Q_calendar_Valid (r : Bool) : Value → List Ent → List Fact → Prop := fun v θ κ => v = .bool r ∧ θ = [] ∧ κ = []
theorem plains_calendar_Valid {r : Bool} : ∀ v θ κ, Q_calendar_Valid r v θ κ → Plains θ := by
  rintro _ _ _ ⟨rfl, rfl, rfl⟩
  exact trivial
set_option maxHeartbeats 4000000 in
set_option maxRecDepth 100000 in
theorem W_calendar_Valid (a0 : GPeriod) (r : Bool) (h : calendar_Valid a0 = some r) : Spec Try.prog 72 [.agg #[.int .i64 a0.From, .int .i64 a0.To]] [] [] (Q_calendar_Valid r) := by
  unfold calendar_Valid at h
  refine spec_of (σ := [(0, _)]) Try.func72 rfl rfl rfl rfl ?_
  intro C
  refine wc_seq ?_
  refine wc_region ?_   -- region 0
  refine wl_act (act_box (cs := [_, _]) rfl rfl) rfl rfl rfl ?_
  rintro _ _ _ ⟨b0_0, rfl, rfl, rfl⟩
  refine wl_det rfl rfl (det_assign rfl) rfl ?_
  refine wl_nil ?_
  refine pn_then ?_
  refine wc_seq ?_
  refine wc_region ?_   -- region 1
  refine wl_det rfl rfl (det_field rfl fd47_0 rfl) rfl ?_
  refine wl_det rfl rfl (det_load rfl m0 (by rfl) na3 us3) rfl ?_
  refine wl_det rfl rfl (det_leq rfl rfl) rfl ?_
  refine wl_det rfl rfl (det_move rfl) rfl ?_
  refine wl_way (decide (0 ≤ a0.From)) ((decide (0 ≤ a0.From)) && (decide (a0.From < a0.To))) 6 12 (fun hg => ?_) (fun hg => ?_) ?_
  · have hg1_9 := hg
    refine wl_on rfl rfl rfl rfl hg1_9 ?_
    refine wl_det rfl rfl (det_field rfl fd47_0 rfl) rfl ?_
    refine wl_on rfl rfl rfl rfl hg1_9 ?_
    refine wl_det rfl rfl (det_load rfl m0 (by rfl) na3 us3) rfl ?_
    refine wl_on rfl rfl rfl rfl hg1_9 ?_
    refine wl_det rfl rfl (det_field rfl fd47_1 rfl) rfl ?_
    refine wl_on rfl rfl rfl rfl hg1_9 ?_
    refine wl_det rfl rfl (det_load rfl m0 (by rfl) na3 us3) rfl ?_
    refine wl_on rfl rfl rfl rfl hg1_9 ?_
    refine wl_det rfl rfl (det_lss rfl rfl) rfl ?_
    refine wl_det rfl rfl (det_and_on rfl rfl rfl hg1_9) rfl ?_
    exact wl_nil (pn_qnE (ext_cons rfl (ext_skip rfl (ext_skip rfl (ext_skip rfl (ext_skip rfl (ext_skip rfl (ext_skip rfl ext_refl))))))) (fun _ h => h))
  · have hg1_9a := hg
    refine wl_off rfl rfl rfl rfl rfl hg1_9a rfl ?_
    refine wl_off rfl rfl rfl rfl rfl hg1_9a rfl ?_
    refine wl_off rfl rfl rfl rfl rfl hg1_9a rfl ?_
    refine wl_off rfl rfl rfl rfl rfl hg1_9a rfl ?_
    refine wl_off rfl rfl rfl rfl rfl hg1_9a rfl ?_
    refine wl_det rfl rfl (det_and_off (q := (decide (a0.From < a0.To))) rfl rfl rfl hg1_9a) rfl ?_
    exact wl_nil (pn_qnE (ext_cons rfl (ext_skip rfl (ext_skip rfl (ext_skip rfl (ext_skip rfl (ext_skip rfl (ext_skip rfl ext_refl))))))) (fun _ h => h))
  refine wl_det rfl rfl (det_move rfl) rfl ?_
  refine wl_way ((decide (0 ≤ a0.From)) && (decide (a0.From < a0.To))) (((decide (0 ≤ a0.From)) && (decide (a0.From < a0.To))) && (decide (a0.To ≤ 876600))) 4 17 (fun hg => ?_) (fun hg => ?_) ?_
  · have hg1_14 := hg
    refine wl_on rfl rfl rfl rfl hg1_14 ?_
    refine wl_det rfl rfl (det_field rfl fd47_1 rfl) rfl ?_
    refine wl_on rfl rfl rfl rfl hg1_14 ?_
    refine wl_det rfl rfl (det_load rfl m0 (by rfl) na3 us3) rfl ?_
    refine wl_on rfl rfl rfl rfl hg1_14 ?_
    refine wl_det rfl rfl (det_leq rfl rfl) rfl ?_
    refine wl_det rfl rfl (det_and_on rfl rfl rfl hg1_14) rfl ?_
    exact wl_nil (pn_qnE (ext_cons rfl (ext_skip rfl (ext_skip rfl (ext_skip rfl (ext_skip rfl ext_refl))))) (fun _ h => h))
  · have hg1_14a := hg
    refine wl_off rfl rfl rfl rfl rfl hg1_14a rfl ?_
    refine wl_off rfl rfl rfl rfl rfl hg1_14a rfl ?_
    refine wl_off rfl rfl rfl rfl rfl hg1_14a rfl ?_
    refine wl_det rfl rfl (det_and_off (q := (decide (a0.To ≤ 876600))) rfl rfl rfl hg1_14a) rfl ?_
    exact wl_nil (pn_qnE (ext_cons rfl (ext_skip rfl (ext_skip rfl (ext_skip rfl (ext_skip rfl ext_refl))))) (fun _ h => h))
  refine wl_det rfl rfl (det_assign rfl) rfl ?_
  refine wl_nil ?_
  refine pn_then ?_
  refine wc_ret ?_
  replace h := Option.some.inj h
  subst h
  refine pn_ret (vs := [_]) rfl ⟨rfl, trivial⟩ ⟨rfl, rfl, rfl⟩ (fun _ h => h.to trivial trivial)
def Q_contract_ascending (r : Int) : Value → List Ent → List Fact → Prop := fun v θ κ => v = .int .i64 r ∧ θ = [] ∧ κ = []
theorem plains_contract_ascending {r : Int} : ∀ v θ κ, Q_contract_ascending r v θ κ → Plains θ := by
  rintro _ _ _ ⟨rfl, rfl, rfl⟩
  exact trivial
set_option maxHeartbeats 4000000 in
set_option maxRecDepth 100000 in
theorem W_contract_ascending (a0 : (List Int)) (a1 : Int) (a2 : Int) (A0 : Option Addr) (n0 : Nat) (c0 : Nat) (r : Int) (h : contract_ascending a0 a1 a2 = some r) : Spec Try.prog 73 [.slice A0 n0 c0, .int .i64 a1, .int .i64 a2] [] [fV (lSlice (lInt .i64)) (.slice A0 n0 c0) a0] (Q_contract_ascending r) := by
  unfold contract_ascending at h
  refine spec_of (σ := [(0, _), (1, _), (2, _)]) Try.func73 rfl rfl rfl rfl ?_
  intro C
  refine wc_know (fun _ h => h.lenF m0) (fun e => ?_)
  subst e
  refine wc_seq ?_
  refine wc_region ?_   -- region 0
  refine wl_det rfl rfl (det_assign rfl) rfl ?_
  refine wl_nil ?_
  refine pn_then ?_
  obtain ⟨q2, h, ho2⟩ := bind_some h
  refine wc_meetG (G := Unit × Unit) (fun (s2, _) => (.inl s2) = q2) (fun (_, _) => []) (fun (_, _) => []) (fun (_, _) => []) ?_ ?_
  · refine wc_seq ?_
    refine wc_region ?_   -- region 1
    refine wl_det rfl rfl (det_move rfl) rfl ?_
    refine wl_det rfl rfl (det_len rfl un23) rfl ?_
    refine wl_det rfl rfl (det_move rfl) rfl ?_
    refine wl_nil ?_
    refine pn_then ?_
    refine wc_block ?_
    obtain ⟨o6, h, ho6⟩ := bind_some h
    obtain ⟨k6, hk6⟩ := loopV_some.1 h
    refine wc_loop (G := Nat × Int × Unit) (fun g => IterN (contract_ascending_l6 a0 a1 a2) g.1 g.2.1 o6) (fun g => g.1) (fun (_, s6, _) => [(0, .slice A0 a0.length c0), (1, .int .i64 a1), (2, .int .i64 a2), (9, .slice A0 a0.length c0), (10, .int .i64 (a0.length : Int)), (11, .int .i64 s6)]) (fun (_, _, _) => []) (fun (_, _, _) => [fV (lSlice (lInt .i64)) (.slice A0 a0.length c0) a0]) (k6, 0, ()) hk6 ⟨rfl, rfl, rfl, rfl, rfl, rfl, trivial⟩ (fun _ h => h.to trivial ⟨m0, trivial⟩) ?_
    rintro ⟨k6, s6, _⟩ hI
    obtain ⟨k6, rfl, q6, h, g6⟩ := IterN.pos hI
    dsimp only at h ⊢
    unfold contract_ascending_l6 at h
    refine wc_seq ?_
    refine wc_region ?_   -- region 2
    refine wl_det rfl rfl (det_lss rfl rfl) rfl ?_
    refine wl_nil ?_
    refine pn_then ?_
    refine wc_seq ?_
    refine wc_cond rfl (fun cd10 => ?_) (fun cd10 => ?_)
    · have h := ifT h cd10
      refine wc_skip ?_
      refine pn_then ?_
      refine wc_seq ?_
      refine wc_block ?_
      refine wc_seq ?_
      refine wc_region ?_   -- region 3
      refine wl_det rfl rfl (det_move rfl) rfl ?_
      obtain ⟨k3_1, h⟩ := chk_some h
      refine wl_st (fun _ h => h.openF m0 k3_1) ?_
      refine wl_det rfl rfl (det_indexP rfl rfl (ms m0) k3_1 m0 un23 sz3) rfl ?_
      refine wl_det rfl rfl (det_loadP (off := 0) rfl m0 (by rfl) (by rfl) (loaded_1 na3 us3)) rfl ?_
      refine wl_det rfl rfl (det_assign rfl) rfl ?_
      refine wl_det rfl rfl (det_assign rfl) rfl ?_
      refine wl_nil ?_
      refine pn_then ?_
      refine wc_seq ?_
      refine wc_seq ?_
      refine wc_region ?_   -- region 4
      refine wl_det rfl rfl (det_move rfl) rfl ?_
      refine wl_det rfl rfl (det_move rfl) rfl ?_
      refine wl_det rfl rfl (det_move rfl) rfl ?_
      obtain ⟨r4_3, hr4_3, h⟩ := bind_some h
      refine wl_act (act_callS (cap := []) (W_contract_within (ix a0 s6) a1 a2 r4_3 hr4_3) rfl rfl rfl bd46 rfl trivial) rfl rfl rfl ?_
      rintro _ _ _ ⟨_, _, ⟨rfl, rfl, rfl⟩, rfl, rfl⟩
      dsimp only [List.nil_append, List.cons_append]
      refine wl_det rfl rfl (det_not rfl) rfl ?_
      refine wl_nil ?_
      refine pn_then ?_
      refine wc_cond rfl (fun cd19 => ?_) (fun cd19 => ?_)
      · have h := ifT h cd19
        refine wc_seq ?_
        refine wc_region ?_   -- region 5
        refine wl_det rfl rfl (det_assign rfl) rfl ?_
        refine wl_nil ?_
        refine pn_then ?_
        refine wc_ret ?_
        refine pr_then ?_
        refine pr_block ?_
        refine pr_then ?_
        refine pr_then ?_
        refine pr_block ?_
        refine pr_then ?_
        replace h := Option.some.inj h
        subst h
        replace g6 := nextR g6
        subst g6
        have h := (elimL ho6)
        replace h := Option.some.inj h
        subst h
        have h := (elimR ho2)
        replace h := Option.some.inj h
        subst h
        refine pn_ret (vs := [_]) rfl ⟨rfl, trivial⟩ ⟨rfl, rfl, rfl⟩ (fun _ h => h.to trivial trivial)
      · have h := ifF h cd19
        refine wc_skip ?_
        refine pn_then ?_
        refine wc_seq ?_
        refine wc_region ?_   -- region 6
        refine wl_det rfl rfl (det_move rfl) rfl ?_
        refine wl_det rfl rfl (det_gtr rfl rfl) rfl ?_
        refine wl_det rfl rfl (det_move rfl) rfl ?_
        obtain ⟨q6_10, hq6_10, h⟩ := bind_some h
        have ho6_10 := h
        refine wl_way (decide (0 < s6)) q6_10 8 31 (fun hg => ?_) (fun hg => ?_) ?_
        · have hg6_10 := hg
          have h := ifT hq6_10 hg
          refine wl_on rfl rfl rfl rfl hg6_10 ?_
          refine wl_det rfl rfl (det_move rfl) rfl ?_
          refine wl_on rfl rfl rfl rfl hg6_10 ?_
          refine wl_det rfl rfl (det_move rfl) rfl ?_
          refine wl_on rfl rfl rfl rfl hg6_10 ?_
          refine wl_det rfl rfl (det_move rfl) rfl ?_
          refine wl_on rfl rfl rfl rfl hg6_10 ?_
          refine wl_det rfl rfl (det_sub rfl rfl) rfl ?_
          refine wl_on rfl rfl rfl rfl hg6_10 ?_
          obtain ⟨k6_7, h⟩ := chk_some h
          refine wl_st (fun _ h => h.openF (ms m0) k6_7) ?_
          refine wl_det rfl rfl (det_indexP rfl rfl (ms (ms m0)) k6_7 m0 un23 sz3) rfl ?_
          refine wl_on rfl rfl rfl rfl hg6_10 ?_
          refine wl_det rfl rfl (det_loadP (off := 0) rfl m0 (by rfl) (by rfl) (loaded_1 na3 us3)) rfl ?_
          refine wl_on rfl rfl rfl rfl hg6_10 ?_
          refine wl_det rfl rfl (det_leq rfl rfl) rfl ?_
          replace h := Option.some.inj h
          subst h
          refine wl_det rfl rfl (det_pick_on rfl hg6_10 rfl rfl) rfl ?_
          exact wl_nil (pn_qnE (ext_cons rfl (ext_skip rfl (ext_skip rfl (ext_skip rfl (ext_skip rfl (ext_skip rfl (ext_skip rfl (ext_skip rfl (ext_skip rfl ext_refl))))))))) (fun _ h => h.to trivial ⟨(ms m0), ⟨(ms (ms m0)), trivial⟩⟩))
        · have hg6_10a := hg
          have h := ifF hq6_10 hg
          refine wl_off rfl rfl rfl rfl rfl hg6_10a rfl ?_
          refine wl_off rfl rfl rfl rfl rfl hg6_10a rfl ?_
          refine wl_off rfl rfl rfl rfl rfl hg6_10a rfl ?_
          refine wl_off rfl rfl rfl rfl rfl hg6_10a rfl ?_
          refine wl_off rfl rfl rfl rfl rfl hg6_10a rfl ?_
          refine wl_off rfl rfl rfl rfl rfl hg6_10a rfl ?_
          refine wl_off rfl rfl rfl rfl rfl hg6_10a rfl ?_
          replace h := Option.some.inj h
          subst h
          refine wl_det rfl rfl (det_pick_off rfl hg6_10a rfl rfl) rfl ?_
          exact wl_nil (pn_qnE (ext_cons rfl (ext_skip rfl (ext_skip rfl (ext_skip rfl (ext_skip rfl (ext_skip rfl (ext_skip rfl (ext_skip rfl (ext_skip rfl ext_refl))))))))) (fun _ h => h))
        have h := ho6_10
        refine wl_nil ?_
        refine pn_then ?_
        refine wc_cond rfl (fun cd24 => ?_) (fun cd24 => ?_)
        · have h := ifT h cd24
          refine wc_seq ?_
          refine wc_region ?_   -- region 7
          refine wl_det rfl rfl (det_assign rfl) rfl ?_
          refine wl_nil ?_
          refine pn_then ?_
          refine wc_ret ?_
          refine pr_block ?_
          refine pr_then ?_
          refine pr_then ?_
          refine pr_block ?_
          refine pr_then ?_
          replace h := Option.some.inj h
          subst h
          replace g6 := nextR g6
          subst g6
          have h := (elimL ho6)
          replace h := Option.some.inj h
          subst h
          have h := (elimR ho2)
          replace h := Option.some.inj h
          subst h
          refine pn_ret (vs := [_]) rfl ⟨rfl, trivial⟩ ⟨rfl, rfl, rfl⟩ (fun _ h => h.to trivial trivial)
        · have h := ifF h cd24
          refine wc_skip ?_
          refine pn_block ?_
          refine pn_then ?_
          refine wc_region ?_   -- region 8
          refine wl_det rfl rfl (det_add rfl rfl) rfl ?_
          refine wl_det rfl rfl (det_move rfl) rfl ?_
          refine wl_nil ?_
          replace h := Option.some.inj h
          subst h
          exact pn_some (k6, (w64 (s6 + 1)), ()) ⟨nextL g6, Nat.lt_succ_self _⟩ ⟨rfl, rfl, rfl, rfl, rfl, rfl, trivial⟩ (fun _ h => h.to trivial ⟨(ms m0), trivial⟩)
    · have h := ifF h cd10
      refine wc_exit ?_
      refine px_then ?_
      refine px_then ?_
      refine px_block ?_
      replace h := Option.some.inj h
      subst h
      replace g6 := nextR g6
      subst g6
      have h := (elimR ho6)
      replace h := Option.some.inj h
      subst h
      exact pn_meetG ((), ()) rfl trivial (fun _ h => h.to trivial trivial)
  rintro ⟨s2, _⟩ e2
  dsimp only at e2 ⊢
  subst e2
  have h := (elimL ho2)
  refine wc_seq ?_
  refine wc_region ?_   -- region 9
  refine wl_det rfl rfl (det_assign rfl) rfl ?_
  refine wl_nil ?_
  refine pn_then ?_
  refine wc_ret ?_
  replace h := Option.some.inj h
  subst h
  refine pn_ret (vs := [_]) rfl ⟨rfl, trivial⟩ ⟨rfl, rfl, rfl⟩ (fun _ h => h.to trivial trivial)
def Q_contract_ruleOf (r : (List Gspan)) : Value → List Ent → List Fact → Prop := fun v θ κ => v = .agg (aC encGspan r).toArray ∧ θ = [] ∧ κ = []
theorem plains_contract_ruleOf {r : (List Gspan)} : ∀ v θ κ, Q_contract_ruleOf r v θ κ → Plains θ := by
  rintro _ _ _ ⟨rfl, rfl, rfl⟩
  exact trivial
set_option maxHeartbeats 4000000 in
set_option maxRecDepth 100000 in
theorem W_contract_ruleOf (a0 : Int) (r : (List Gspan)) (h : contract_ruleOf a0 = some r) : Spec Try.prog 87 [.int .i64 a0] [] [] (Q_contract_ruleOf r) := by
  unfold contract_ruleOf at h
  refine spec_of (σ := [(0, _)]) Try.func87 rfl rfl rfl rfl ?_
  intro C
  refine wc_seq ?_
  refine wc_region ?_   -- region 0
  refine wl_act (act_alloc (cs := aC encGspan (List.replicate 11 (Gspan.mk 0 0))) zr112 rfl) rfl rfl rfl ?_
  rintro _ _ _ ⟨b0_0, rfl, rfl, rfl⟩
  refine wl_nil ?_
  refine pn_then ?_
  refine wc_seq ?_
  refine wc_region ?_   -- region 1
  refine wl_det rfl rfl (det_build (cs := [_, _]) pl110 zr110 rfl rfl (by rfl)) rfl ?_
  refine wl_det rfl rfl (det_build (cs := [_, _]) pl110 zr110 rfl rfl (by rfl)) rfl ?_
  refine wl_act (act_alloc (cs := [_, _]) zr110 rfl) rfl rfl rfl ?_
  rintro _ _ _ ⟨b1_2, rfl, rfl, rfl⟩
  refine wl_act (act_alloc (cs := [_, _]) zr110 rfl) rfl rfl rfl ?_
  rintro _ _ _ ⟨b1_3, rfl, rfl, rfl⟩
  refine wl_act0 (act_store (cells := [_, _]) (cs' := [_, _]) rfl rfl rfl (ss s0) (by rfl) (of_decide_eq_true rfl) sz110 ⟨rfl, rfl, trivial⟩) rfl rfl ?_
  rintro _ _ _ ⟨rfl, rfl⟩
  refine wl_act0 (act_store (cells := [_, _]) (cs' := [_, _]) rfl rfl rfl s0 (by rfl) (of_decide_eq_true rfl) sz110 ⟨rfl, rfl, trivial⟩) rfl rfl ?_
  rintro _ _ _ ⟨rfl, rfl⟩
  refine wl_nil ?_
  refine pn_then ?_
  refine wc_seq ?_
  refine wc_region ?_   -- region 2
  refine wl_det rfl rfl (det_loadN (cells := [_, _]) rfl (ms m0) (by rfl) ag110 sz110) rfl ?_
  refine wl_det rfl rfl (det_buildA (cs := aC encGspan [(Gspan.mk 0 0), (Gspan.mk 0 0), (Gspan.mk 0 0), (Gspan.mk 0 0), (Gspan.mk 0 0), (Gspan.mk 0 0), (Gspan.mk 0 0), (Gspan.mk 0 0), (Gspan.mk 0 0), (Gspan.mk 0 0), (Gspan.mk 0 1073741824)]) un112 sz110 zr112 rfl rfl (by rfl)) rfl ?_
  refine wl_act (act_alloc (cs := aC encGspan (List.replicate 11 (Gspan.mk 0 0))) zr112 rfl) rfl rfl rfl ?_
  rintro _ _ _ ⟨b2_2, rfl, rfl, rfl⟩
  obtain ⟨k2_3, h⟩ := chk_some h
  obtain ⟨k2_3a, h⟩ := chk_some h
  refine wl_act0 (act_store (cells := aC encGspan [(Gspan.mk 0 0), (Gspan.mk 0 0), (Gspan.mk 0 0), (Gspan.mk 0 0), (Gspan.mk 0 0), (Gspan.mk 0 0), (Gspan.mk 0 0), (Gspan.mk 0 0), (Gspan.mk 0 0), (Gspan.mk 0 0), (Gspan.mk 0 1073741824)]) (cs' := aC encGspan [(Gspan.mk 0 0), (Gspan.mk 0 0), (Gspan.mk 0 0), (Gspan.mk 0 0), (Gspan.mk 0 0), (Gspan.mk 0 0), (Gspan.mk 0 0), (Gspan.mk 0 0), (Gspan.mk 0 0), (Gspan.mk 0 0), (Gspan.mk 0 1073741824)]) rfl rfl rfl s0 (aC_over (enc := encGspan) (z := 2) (fun _ => rfl) k2_3 k2_3a) (aC_fits (enc := encGspan) (z := 2) (fun _ => rfl) k2_3 k2_3a) (sz_aC (enc := encGspan) (z := 2) sz112 (fun _ => rfl) k2_3a rfl) (aC_ones (fun _ u hu => (lGspan).one (w := default) (S := fun _ => True) rfl u hu) _)) rfl rfl ?_
  rintro _ _ _ ⟨rfl, rfl⟩
  refine wl_nil ?_
  refine pn_then ?_
  obtain ⟨q6, h, ho6⟩ := bind_some h
  refine wc_meetG (G := (List Gspan) × Unit) (fun (s6, _) => s6 = q6) (fun (_, _) => [(2, .pointer (some ⟨b0_0, 0, none⟩)), (5, .pointer (some ⟨b2_2, 0, none⟩))]) (fun (s6, _) => [eBlk b0_0 112 (aC encGspan (List.replicate 11 (Gspan.mk 0 0))), eBlk b2_2 112 (aC encGspan s6)]) (fun (_, _) => []) ?_ ?_
  · refine wc_seq ?_
    refine wc_region ?_   -- region 3
    refine wl_det rfl rfl (det_move rfl) rfl ?_
    refine wl_nil ?_
    refine pn_then ?_
    refine wc_block ?_
    refine wc_seq ?_
    refine wc_region ?_   -- region 4
    refine wl_det rfl rfl (det_eql rfl rfl) rfl ?_
    refine wl_det rfl rfl (det_assign rfl) rfl ?_
    refine wl_nil ?_
    refine pn_then ?_
    refine wc_cond rfl (fun cd12 => ?_) (fun cd12 => ?_)
    · have h := ifT h cd12
      obtain ⟨k5_p1, h⟩ := chk_some h
      obtain ⟨k5_p2, h⟩ := chk_some h
      refine dx_regionZ (Z := St C [_, _, _] []) 4 [[], [], [0], [0, 2], [0, 1, 2, 3], [0, 1, 2, 3, 4]] mixed (ord := (.det 0 (.det 1 (.det 2 (.alt 3 .done .dead))))) (by kernel_rfl) (fun _ h => h.to ⟨_, (rs r0), ⟨_, (rs r0), ⟨_, (rs r0), trivial⟩⟩⟩ trivial) ?_   -- region 5
      refine hx_det rfl rfl rfl nofun (det_build (cs := [_, _]) pl110 zr110 rfl rfl (by rfl)) rfl ?_
      refine hx_det rfl rfl rfl nofun (det_loadN (cells := [_, _]) rfl (ms m0) (by rfl) ag110 sz110) rfl ?_
      refine hx_det rfl rfl rfl nofun (det_indexA rfl rfl rfl rfl un112 sz110) rfl ?_
      refine hx_mut0 rfl rfl rfl (act_store (cells := [_, _]) (cs' := aC encGspan (upd [(Gspan.mk 0 0), (Gspan.mk 0 0), (Gspan.mk 0 0), (Gspan.mk 0 0), (Gspan.mk 0 0), (Gspan.mk 0 0), (Gspan.mk 0 0), (Gspan.mk 0 0), (Gspan.mk 0 0), (Gspan.mk 0 0), (Gspan.mk 0 1073741824)] 1 (Gspan.mk 1 1000000))) rfl rfl rfl s0 (aC_set (enc := encGspan) (z := 2) (o := 0) (fun _ => rfl) k5_p1 rfl rfl) (aC_le (enc := encGspan) (z := 2) (o := 0) (fun _ => rfl) k5_p1 rfl) sz110 ⟨rfl, rfl, trivial⟩) (by rintro _ _ _ ⟨rfl, rfl⟩ w hs; exact hs.to ⟨_, (rs r0), ⟨_, (rs r0), ⟨_, (rs r0), trivial⟩⟩⟩ trivial) ?_
      rintro _ _ _ ⟨rfl, rfl⟩
      refine hx_end ?_
      refine wl_det rfl rfl (det_indexA rfl rfl rfl rfl un112 sz110) rfl ?_
      refine wl_act0 (act_store (cells := [_, _]) (cs' := aC encGspan (upd (upd [(Gspan.mk 0 0), (Gspan.mk 0 0), (Gspan.mk 0 0), (Gspan.mk 0 0), (Gspan.mk 0 0), (Gspan.mk 0 0), (Gspan.mk 0 0), (Gspan.mk 0 0), (Gspan.mk 0 0), (Gspan.mk 0 0), (Gspan.mk 0 1073741824)] 1 (Gspan.mk 1 1000000)) 5 (Gspan.mk 0 1073741824))) rfl rfl rfl s0 (aC_set (enc := encGspan) (z := 2) (o := 0) (fun _ => rfl) k5_p2 rfl rfl) (aC_le (enc := encGspan) (z := 2) (o := 0) (fun _ => rfl) k5_p2 rfl) sz110 ⟨rfl, rfl, trivial⟩) rfl rfl ?_
      rintro _ _ _ ⟨rfl, rfl⟩
      refine wl_nil ?_
      refine pn_block ?_
      replace h := Option.some.inj h
      subst h
      exact pn_meetG ((upd (upd [(Gspan.mk 0 0), (Gspan.mk 0 0), (Gspan.mk 0 0), (Gspan.mk 0 0), (Gspan.mk 0 0), (Gspan.mk 0 0), (Gspan.mk 0 0), (Gspan.mk 0 0), (Gspan.mk 0 0), (Gspan.mk 0 0), (Gspan.mk 0 1073741824)] 1 (Gspan.mk 1 1000000)) 5 (Gspan.mk 0 1073741824)), ()) rfl ⟨rfl, rfl, trivial⟩ (fun _ h => h.to ⟨_, (rs (rs (rs r0))), ⟨_, r0, trivial⟩⟩ trivial)
    · have h := ifF h cd12
      refine wc_seq ?_
      refine wc_region ?_   -- region 6
      refine wl_det rfl rfl (det_eql rfl rfl) rfl ?_
      refine wl_det rfl rfl (det_assign rfl) rfl ?_
      refine wl_nil ?_
      refine pn_then ?_
      refine wc_cond rfl (fun cd16 => ?_) (fun cd16 => ?_)
      · have h := ifT h cd16
        refine wc_region ?_   -- region 7
        refine wl_det rfl rfl (det_loadN (cells := [_, _]) rfl (ms m0) (by rfl) ag110 sz110) rfl ?_
        refine wl_det rfl rfl (det_build (cs := [_, _]) pl110 zr110 rfl rfl (by rfl)) rfl ?_
        refine wl_det rfl rfl (det_indexA rfl rfl rfl rfl un112 sz110) rfl ?_
        obtain ⟨k7_3, h⟩ := chk_some h
        refine wl_act0 (act_store (cells := [_, _]) (cs' := aC encGspan (upd [(Gspan.mk 0 0), (Gspan.mk 0 0), (Gspan.mk 0 0), (Gspan.mk 0 0), (Gspan.mk 0 0), (Gspan.mk 0 0), (Gspan.mk 0 0), (Gspan.mk 0 0), (Gspan.mk 0 0), (Gspan.mk 0 0), (Gspan.mk 0 1073741824)] 2 (Gspan.mk 1 1073741824))) rfl rfl rfl s0 (aC_set (enc := encGspan) (z := 2) (o := 0) (fun _ => rfl) k7_3 rfl rfl) (aC_le (enc := encGspan) (z := 2) (o := 0) (fun _ => rfl) k7_3 rfl) sz110 ⟨rfl, rfl, trivial⟩) rfl rfl ?_
        rintro _ _ _ ⟨rfl, rfl⟩
        refine wl_det rfl rfl (det_indexA rfl rfl rfl rfl un112 sz110) rfl ?_
        obtain ⟨k7_5, h⟩ := chk_some h
        refine wl_act0 (act_store (cells := [_, _]) (cs' := aC encGspan (upd (upd [(Gspan.mk 0 0), (Gspan.mk 0 0), (Gspan.mk 0 0), (Gspan.mk 0 0), (Gspan.mk 0 0), (Gspan.mk 0 0), (Gspan.mk 0 0), (Gspan.mk 0 0), (Gspan.mk 0 0), (Gspan.mk 0 0), (Gspan.mk 0 1073741824)] 2 (Gspan.mk 1 1073741824)) 3 (Gspan.mk 1 100))) rfl rfl rfl s0 (aC_set (enc := encGspan) (z := 2) (o := 0) (fun _ => rfl) k7_5 rfl rfl) (aC_le (enc := encGspan) (z := 2) (o := 0) (fun _ => rfl) k7_5 rfl) sz110 ⟨rfl, rfl, trivial⟩) rfl rfl ?_
        rintro _ _ _ ⟨rfl, rfl⟩
        refine wl_nil ?_
        refine pn_block ?_
        replace h := Option.some.inj h
        subst h
        exact pn_meetG ((upd (upd [(Gspan.mk 0 0), (Gspan.mk 0 0), (Gspan.mk 0 0), (Gspan.mk 0 0), (Gspan.mk 0 0), (Gspan.mk 0 0), (Gspan.mk 0 0), (Gspan.mk 0 0), (Gspan.mk 0 0), (Gspan.mk 0 0), (Gspan.mk 0 1073741824)] 2 (Gspan.mk 1 1073741824)) 3 (Gspan.mk 1 100)), ()) rfl ⟨rfl, rfl, trivial⟩ (fun _ h => h.to ⟨_, (rs (rs (rs r0))), ⟨_, r0, trivial⟩⟩ trivial)
      · have h := ifF h cd16
        refine wc_seq ?_
        refine wc_region ?_   -- region 8
        refine wl_det rfl rfl (det_eql rfl rfl) rfl ?_
        refine wl_det rfl rfl (det_assign rfl) rfl ?_
        refine wl_nil ?_
        refine pn_then ?_
        refine wc_cond rfl (fun cd20 => ?_) (fun cd20 => ?_)
        · have h := ifT h cd20
          refine wc_region ?_   -- region 9
          refine wl_det rfl rfl (det_build (cs := [_, _]) pl110 zr110 rfl rfl (by rfl)) rfl ?_
          refine wl_det rfl rfl (det_build (cs := [_, _]) pl110 zr110 rfl rfl (by rfl)) rfl ?_
          refine wl_det rfl rfl (det_indexA rfl rfl rfl rfl un112 sz110) rfl ?_
          obtain ⟨k9_3, h⟩ := chk_some h
          refine wl_act0 (act_store (cells := [_, _]) (cs' := aC encGspan (upd [(Gspan.mk 0 0), (Gspan.mk 0 0), (Gspan.mk 0 0), (Gspan.mk 0 0), (Gspan.mk 0 0), (Gspan.mk 0 0), (Gspan.mk 0 0), (Gspan.mk 0 0), (Gspan.mk 0 0), (Gspan.mk 0 0), (Gspan.mk 0 1073741824)] 0 (Gspan.mk 1 1048576))) rfl rfl rfl s0 (aC_set (enc := encGspan) (z := 2) (o := 0) (fun _ => rfl) k9_3 rfl rfl) (aC_le (enc := encGspan) (z := 2) (o := 0) (fun _ => rfl) k9_3 rfl) sz110 ⟨rfl, rfl, trivial⟩) rfl rfl ?_
          rintro _ _ _ ⟨rfl, rfl⟩
          refine wl_det rfl rfl (det_indexA rfl rfl rfl rfl un112 sz110) rfl ?_
          obtain ⟨k9_5, h⟩ := chk_some h
          refine wl_act0 (act_store (cells := [_, _]) (cs' := aC encGspan (upd (upd [(Gspan.mk 0 0), (Gspan.mk 0 0), (Gspan.mk 0 0), (Gspan.mk 0 0), (Gspan.mk 0 0), (Gspan.mk 0 0), (Gspan.mk 0 0), (Gspan.mk 0 0), (Gspan.mk 0 0), (Gspan.mk 0 0), (Gspan.mk 0 1073741824)] 0 (Gspan.mk 1 1048576)) 1 (Gspan.mk 1 1000000))) rfl rfl rfl s0 (aC_set (enc := encGspan) (z := 2) (o := 0) (fun _ => rfl) k9_5 rfl rfl) (aC_le (enc := encGspan) (z := 2) (o := 0) (fun _ => rfl) k9_5 rfl) sz110 ⟨rfl, rfl, trivial⟩) rfl rfl ?_
          rintro _ _ _ ⟨rfl, rfl⟩
          refine wl_nil ?_
          refine pn_block ?_
          replace h := Option.some.inj h
          subst h
          exact pn_meetG ((upd (upd [(Gspan.mk 0 0), (Gspan.mk 0 0), (Gspan.mk 0 0), (Gspan.mk 0 0), (Gspan.mk 0 0), (Gspan.mk 0 0), (Gspan.mk 0 0), (Gspan.mk 0 0), (Gspan.mk 0 0), (Gspan.mk 0 0), (Gspan.mk 0 1073741824)] 0 (Gspan.mk 1 1048576)) 1 (Gspan.mk 1 1000000)), ()) rfl ⟨rfl, rfl, trivial⟩ (fun _ h => h.to ⟨_, (rs (rs (rs r0))), ⟨_, r0, trivial⟩⟩ trivial)
        · have h := ifF h cd20
          refine wc_seq ?_
          refine wc_region ?_   -- region 10
          refine wl_det rfl rfl (det_eql rfl rfl) rfl ?_
          refine wl_det rfl rfl (det_assign rfl) rfl ?_
          refine wl_nil ?_
          refine pn_then ?_
          refine wc_cond rfl (fun cd24 => ?_) (fun cd24 => ?_)
          · have h := ifT h cd24
            refine wc_seq ?_
            obtain ⟨k11_p1, h⟩ := chk_some h
            obtain ⟨k11_p2, h⟩ := chk_some h
            obtain ⟨k11_p3, h⟩ := chk_some h
            obtain ⟨k11_p4, h⟩ := chk_some h
            refine dx_regionZ (Z := St C [_, _, _] []) 10 [[], [], [], [], [0], [0, 4], [0, 1, 4, 5], [0, 1, 4, 5, 6], [0, 1, 2, 4, 5, 6, 7], [0, 1, 2, 4, 5, 6, 7, 8], [0, 1, 2, 3, 4, 5, 6, 7, 8, 9], [0, 1, 2, 3, 4, 5, 6, 7, 8, 9, 10]] mixed (ord := (.det 0 (.det 1 (.det 2 (.det 3 (.det 4 (.alt 5 (.det 6 (.alt 7 (.det 8 (.alt 9 .done .dead)) .dead)) .dead))))))) (by kernel_rfl) (fun _ h => h.to ⟨_, (rs r0), ⟨_, (rs r0), ⟨_, (rs r0), trivial⟩⟩⟩ trivial) ?_   -- region 11
            refine hx_det rfl rfl rfl nofun (det_loadN (cells := [_, _]) rfl (ms m0) (by rfl) ag110 sz110) rfl ?_
            refine hx_det rfl rfl rfl nofun (det_loadN (cells := [_, _]) rfl m0 (by rfl) ag110 sz110) rfl ?_
            refine hx_det rfl rfl rfl nofun (det_loadN (cells := [_, _]) rfl (ms m0) (by rfl) ag110 sz110) rfl ?_
            refine hx_det rfl rfl rfl nofun (det_loadN (cells := [_, _]) rfl (ms m0) (by rfl) ag110 sz110) rfl ?_
            refine hx_det rfl rfl rfl nofun (det_indexA rfl rfl rfl rfl un112 sz110) rfl ?_
            refine hx_mut0 rfl rfl rfl (act_store (cells := [_, _]) (cs' := aC encGspan (upd [(Gspan.mk 0 0), (Gspan.mk 0 0), (Gspan.mk 0 0), (Gspan.mk 0 0), (Gspan.mk 0 0), (Gspan.mk 0 0), (Gspan.mk 0 0), (Gspan.mk 0 0), (Gspan.mk 0 0), (Gspan.mk 0 0), (Gspan.mk 0 1073741824)] 4 (Gspan.mk 0 1073741824))) rfl rfl rfl s0 (aC_set (enc := encGspan) (z := 2) (o := 0) (fun _ => rfl) k11_p1 rfl rfl) (aC_le (enc := encGspan) (z := 2) (o := 0) (fun _ => rfl) k11_p1 rfl) sz110 ⟨rfl, rfl, trivial⟩) (by rintro _ _ _ ⟨rfl, rfl⟩ w hs; exact hs.to ⟨_, (rs r0), ⟨_, (rs r0), ⟨_, (rs r0), trivial⟩⟩⟩ trivial) ?_
            rintro _ _ _ ⟨rfl, rfl⟩
            refine hx_det rfl rfl rfl nofun (det_indexA rfl rfl rfl rfl un112 sz110) rfl ?_
            refine hx_mut0 rfl rfl rfl (act_store (cells := [_, _]) (cs' := aC encGspan (upd (upd [(Gspan.mk 0 0), (Gspan.mk 0 0), (Gspan.mk 0 0), (Gspan.mk 0 0), (Gspan.mk 0 0), (Gspan.mk 0 0), (Gspan.mk 0 0), (Gspan.mk 0 0), (Gspan.mk 0 0), (Gspan.mk 0 0), (Gspan.mk 0 1073741824)] 4 (Gspan.mk 0 1073741824)) 5 (Gspan.mk 1 1073741824))) rfl rfl rfl s0 (aC_set (enc := encGspan) (z := 2) (o := 0) (fun _ => rfl) k11_p2 rfl rfl) (aC_le (enc := encGspan) (z := 2) (o := 0) (fun _ => rfl) k11_p2 rfl) sz110 ⟨rfl, rfl, trivial⟩) (by rintro _ _ _ ⟨rfl, rfl⟩ w hs; exact hs.to ⟨_, (rs r0), ⟨_, (rs r0), ⟨_, (rs r0), trivial⟩⟩⟩ trivial) ?_
            rintro _ _ _ ⟨rfl, rfl⟩
            refine hx_det rfl rfl rfl nofun (det_indexA rfl rfl rfl rfl un112 sz110) rfl ?_
            refine hx_mut0 rfl rfl rfl (act_store (cells := [_, _]) (cs' := aC encGspan (upd (upd (upd [(Gspan.mk 0 0), (Gspan.mk 0 0), (Gspan.mk 0 0), (Gspan.mk 0 0), (Gspan.mk 0 0), (Gspan.mk 0 0), (Gspan.mk 0 0), (Gspan.mk 0 0), (Gspan.mk 0 0), (Gspan.mk 0 0), (Gspan.mk 0 1073741824)] 4 (Gspan.mk 0 1073741824)) 5 (Gspan.mk 1 1073741824)) 7 (Gspan.mk 0 1073741824))) rfl rfl rfl s0 (aC_set (enc := encGspan) (z := 2) (o := 0) (fun _ => rfl) k11_p3 rfl rfl) (aC_le (enc := encGspan) (z := 2) (o := 0) (fun _ => rfl) k11_p3 rfl) sz110 ⟨rfl, rfl, trivial⟩) (by rintro _ _ _ ⟨rfl, rfl⟩ w hs; exact hs.to ⟨_, (rs r0), ⟨_, (rs r0), ⟨_, (rs r0), trivial⟩⟩⟩ trivial) ?_
            rintro _ _ _ ⟨rfl, rfl⟩
            refine hx_end ?_
            refine wl_det rfl rfl (det_indexA rfl rfl rfl rfl un112 sz110) rfl ?_
            refine wl_act0 (act_store (cells := [_, _]) (cs' := aC encGspan (upd (upd (upd (upd [(Gspan.mk 0 0), (Gspan.mk 0 0), (Gspan.mk 0 0), (Gspan.mk 0 0), (Gspan.mk 0 0), (Gspan.mk 0 0), (Gspan.mk 0 0), (Gspan.mk 0 0), (Gspan.mk 0 0), (Gspan.mk 0 0), (Gspan.mk 0 1073741824)] 4 (Gspan.mk 0 1073741824)) 5 (Gspan.mk 1 1073741824)) 7 (Gspan.mk 0 1073741824)) 8 (Gspan.mk 0 1073741824))) rfl rfl rfl s0 (aC_set (enc := encGspan) (z := 2) (o := 0) (fun _ => rfl) k11_p4 rfl rfl) (aC_le (enc := encGspan) (z := 2) (o := 0) (fun _ => rfl) k11_p4 rfl) sz110 ⟨rfl, rfl, trivial⟩) rfl rfl ?_
            rintro _ _ _ ⟨rfl, rfl⟩
            refine wl_nil ?_
            refine pn_then ?_
            refine wc_region ?_   -- region 12
            refine wl_det rfl rfl (det_build (cs := [_, _]) pl110 zr110 rfl rfl (by rfl)) rfl ?_
            refine wl_det rfl rfl (det_indexA rfl rfl rfl rfl un112 sz110) rfl ?_
            obtain ⟨k12_2, h⟩ := chk_some h
            refine wl_act0 (act_store (cells := [_, _]) (cs' := aC encGspan (upd (upd (upd (upd (upd [(Gspan.mk 0 0), (Gspan.mk 0 0), (Gspan.mk 0 0), (Gspan.mk 0 0), (Gspan.mk 0 0), (Gspan.mk 0 0), (Gspan.mk 0 0), (Gspan.mk 0 0), (Gspan.mk 0 0), (Gspan.mk 0 0), (Gspan.mk 0 1073741824)] 4 (Gspan.mk 0 1073741824)) 5 (Gspan.mk 1 1073741824)) 7 (Gspan.mk 0 1073741824)) 8 (Gspan.mk 0 1073741824)) 9 (Gspan.mk 0 1000000000))) rfl rfl rfl s0 (aC_set (enc := encGspan) (z := 2) (o := 0) (fun _ => rfl) k12_2 rfl rfl) (aC_le (enc := encGspan) (z := 2) (o := 0) (fun _ => rfl) k12_2 rfl) sz110 ⟨rfl, rfl, trivial⟩) rfl rfl ?_
            rintro _ _ _ ⟨rfl, rfl⟩
            refine wl_nil ?_
            refine pn_block ?_
            replace h := Option.some.inj h
            subst h
            exact pn_meetG ((upd (upd (upd (upd (upd [(Gspan.mk 0 0), (Gspan.mk 0 0), (Gspan.mk 0 0), (Gspan.mk 0 0), (Gspan.mk 0 0), (Gspan.mk 0 0), (Gspan.mk 0 0), (Gspan.mk 0 0), (Gspan.mk 0 0), (Gspan.mk 0 0), (Gspan.mk 0 1073741824)] 4 (Gspan.mk 0 1073741824)) 5 (Gspan.mk 1 1073741824)) 7 (Gspan.mk 0 1073741824)) 8 (Gspan.mk 0 1073741824)) 9 (Gspan.mk 0 1000000000)), ()) rfl ⟨rfl, rfl, trivial⟩ (fun _ h => h.to ⟨_, (rs (rs (rs r0))), ⟨_, r0, trivial⟩⟩ trivial)
          · have h := ifF h cd24
            refine wc_seq ?_
            refine wc_region ?_   -- region 13
            refine wl_det rfl rfl (det_eql rfl rfl) rfl ?_
            refine wl_det rfl rfl (det_assign rfl) rfl ?_
            refine wl_nil ?_
            refine pn_then ?_
            refine wc_cond rfl (fun cd30 => ?_) (fun cd30 => ?_)
            · have h := ifT h cd30
              refine wc_seq ?_
              obtain ⟨k14_p1, h⟩ := chk_some h
              obtain ⟨k14_p2, h⟩ := chk_some h
              obtain ⟨k14_p3, h⟩ := chk_some h
              obtain ⟨k14_p4, h⟩ := chk_some h
              refine dx_regionZ (Z := St C [_, _, _] []) 10 [[], [], [], [], [0], [0, 4], [0, 1, 4, 5], [0, 1, 4, 5, 6], [0, 1, 2, 4, 5, 6, 7], [0, 1, 2, 4, 5, 6, 7, 8], [0, 1, 2, 3, 4, 5, 6, 7, 8, 9], [0, 1, 2, 3, 4, 5, 6, 7, 8, 9, 10]] mixed (ord := (.det 0 (.det 1 (.det 2 (.det 3 (.det 4 (.alt 5 (.det 6 (.alt 7 (.det 8 (.alt 9 .done .dead)) .dead)) .dead))))))) (by kernel_rfl) (fun _ h => h.to ⟨_, (rs r0), ⟨_, (rs r0), ⟨_, (rs r0), trivial⟩⟩⟩ trivial) ?_   -- region 14
              refine hx_det rfl rfl rfl nofun (det_loadN (cells := [_, _]) rfl (ms m0) (by rfl) ag110 sz110) rfl ?_
              refine hx_det rfl rfl rfl nofun (det_loadN (cells := [_, _]) rfl m0 (by rfl) ag110 sz110) rfl ?_
              refine hx_det rfl rfl rfl nofun (det_loadN (cells := [_, _]) rfl (ms m0) (by rfl) ag110 sz110) rfl ?_
              refine hx_det rfl rfl rfl nofun (det_loadN (cells := [_, _]) rfl (ms m0) (by rfl) ag110 sz110) rfl ?_
              refine hx_det rfl rfl rfl nofun (det_indexA rfl rfl rfl rfl un112 sz110) rfl ?_
              refine hx_mut0 rfl rfl rfl (act_store (cells := [_, _]) (cs' := aC encGspan (upd [(Gspan.mk 0 0), (Gspan.mk 0 0), (Gspan.mk 0 0), (Gspan.mk 0 0), (Gspan.mk 0 0), (Gspan.mk 0 0), (Gspan.mk 0 0), (Gspan.mk 0 0), (Gspan.mk 0 0), (Gspan.mk 0 0), (Gspan.mk 0 1073741824)] 4 (Gspan.mk 0 1073741824))) rfl rfl rfl s0 (aC_set (enc := encGspan) (z := 2) (o := 0) (fun _ => rfl) k14_p1 rfl rfl) (aC_le (enc := encGspan) (z := 2) (o := 0) (fun _ => rfl) k14_p1 rfl) sz110 ⟨rfl, rfl, trivial⟩) (by rintro _ _ _ ⟨rfl, rfl⟩ w hs; exact hs.to ⟨_, (rs r0), ⟨_, (rs r0), ⟨_, (rs r0), trivial⟩⟩⟩ trivial) ?_
              rintro _ _ _ ⟨rfl, rfl⟩
              refine hx_det rfl rfl rfl nofun (det_indexA rfl rfl rfl rfl un112 sz110) rfl ?_
              refine hx_mut0 rfl rfl rfl (act_store (cells := [_, _]) (cs' := aC encGspan (upd (upd [(Gspan.mk 0 0), (Gspan.mk 0 0), (Gspan.mk 0 0), (Gspan.mk 0 0), (Gspan.mk 0 0), (Gspan.mk 0 0), (Gspan.mk 0 0), (Gspan.mk 0 0), (Gspan.mk 0 0), (Gspan.mk 0 0), (Gspan.mk 0 1073741824)] 4 (Gspan.mk 0 1073741824)) 5 (Gspan.mk 1 1073741824))) rfl rfl rfl s0 (aC_set (enc := encGspan) (z := 2) (o := 0) (fun _ => rfl) k14_p2 rfl rfl) (aC_le (enc := encGspan) (z := 2) (o := 0) (fun _ => rfl) k14_p2 rfl) sz110 ⟨rfl, rfl, trivial⟩) (by rintro _ _ _ ⟨rfl, rfl⟩ w hs; exact hs.to ⟨_, (rs r0), ⟨_, (rs r0), ⟨_, (rs r0), trivial⟩⟩⟩ trivial) ?_
              rintro _ _ _ ⟨rfl, rfl⟩
              refine hx_det rfl rfl rfl nofun (det_indexA rfl rfl rfl rfl un112 sz110) rfl ?_
              refine hx_mut0 rfl rfl rfl (act_store (cells := [_, _]) (cs' := aC encGspan (upd (upd (upd [(Gspan.mk 0 0), (Gspan.mk 0 0), (Gspan.mk 0 0), (Gspan.mk 0 0), (Gspan.mk 0 0), (Gspan.mk 0 0), (Gspan.mk 0 0), (Gspan.mk 0 0), (Gspan.mk 0 0), (Gspan.mk 0 0), (Gspan.mk 0 1073741824)] 4 (Gspan.mk 0 1073741824)) 5 (Gspan.mk 1 1073741824)) 7 (Gspan.mk 0 1073741824))) rfl rfl rfl s0 (aC_set (enc := encGspan) (z := 2) (o := 0) (fun _ => rfl) k14_p3 rfl rfl) (aC_le (enc := encGspan) (z := 2) (o := 0) (fun _ => rfl) k14_p3 rfl) sz110 ⟨rfl, rfl, trivial⟩) (by rintro _ _ _ ⟨rfl, rfl⟩ w hs; exact hs.to ⟨_, (rs r0), ⟨_, (rs r0), ⟨_, (rs r0), trivial⟩⟩⟩ trivial) ?_
              rintro _ _ _ ⟨rfl, rfl⟩
              refine hx_end ?_
              refine wl_det rfl rfl (det_indexA rfl rfl rfl rfl un112 sz110) rfl ?_
              refine wl_act0 (act_store (cells := [_, _]) (cs' := aC encGspan (upd (upd (upd (upd [(Gspan.mk 0 0), (Gspan.mk 0 0), (Gspan.mk 0 0), (Gspan.mk 0 0), (Gspan.mk 0 0), (Gspan.mk 0 0), (Gspan.mk 0 0), (Gspan.mk 0 0), (Gspan.mk 0 0), (Gspan.mk 0 0), (Gspan.mk 0 1073741824)] 4 (Gspan.mk 0 1073741824)) 5 (Gspan.mk 1 1073741824)) 7 (Gspan.mk 0 1073741824)) 8 (Gspan.mk 0 1073741824))) rfl rfl rfl s0 (aC_set (enc := encGspan) (z := 2) (o := 0) (fun _ => rfl) k14_p4 rfl rfl) (aC_le (enc := encGspan) (z := 2) (o := 0) (fun _ => rfl) k14_p4 rfl) sz110 ⟨rfl, rfl, trivial⟩) rfl rfl ?_
              rintro _ _ _ ⟨rfl, rfl⟩
              refine wl_nil ?_
              refine pn_then ?_
              refine wc_region ?_   -- region 15
              refine wl_det rfl rfl (det_build (cs := [_, _]) pl110 zr110 rfl rfl (by rfl)) rfl ?_
              refine wl_det rfl rfl (det_indexA rfl rfl rfl rfl un112 sz110) rfl ?_
              obtain ⟨k15_2, h⟩ := chk_some h
              refine wl_act0 (act_store (cells := [_, _]) (cs' := aC encGspan (upd (upd (upd (upd (upd [(Gspan.mk 0 0), (Gspan.mk 0 0), (Gspan.mk 0 0), (Gspan.mk 0 0), (Gspan.mk 0 0), (Gspan.mk 0 0), (Gspan.mk 0 0), (Gspan.mk 0 0), (Gspan.mk 0 0), (Gspan.mk 0 0), (Gspan.mk 0 1073741824)] 4 (Gspan.mk 0 1073741824)) 5 (Gspan.mk 1 1073741824)) 7 (Gspan.mk 0 1073741824)) 8 (Gspan.mk 0 1073741824)) 6 (Gspan.mk 1 8784))) rfl rfl rfl s0 (aC_set (enc := encGspan) (z := 2) (o := 0) (fun _ => rfl) k15_2 rfl rfl) (aC_le (enc := encGspan) (z := 2) (o := 0) (fun _ => rfl) k15_2 rfl) sz110 ⟨rfl, rfl, trivial⟩) rfl rfl ?_
              rintro _ _ _ ⟨rfl, rfl⟩
              refine wl_nil ?_
              refine pn_block ?_
              replace h := Option.some.inj h
              subst h
              exact pn_meetG ((upd (upd (upd (upd (upd [(Gspan.mk 0 0), (Gspan.mk 0 0), (Gspan.mk 0 0), (Gspan.mk 0 0), (Gspan.mk 0 0), (Gspan.mk 0 0), (Gspan.mk 0 0), (Gspan.mk 0 0), (Gspan.mk 0 0), (Gspan.mk 0 0), (Gspan.mk 0 1073741824)] 4 (Gspan.mk 0 1073741824)) 5 (Gspan.mk 1 1073741824)) 7 (Gspan.mk 0 1073741824)) 8 (Gspan.mk 0 1073741824)) 6 (Gspan.mk 1 8784)), ()) rfl ⟨rfl, rfl, trivial⟩ (fun _ h => h.to ⟨_, (rs (rs (rs r0))), ⟨_, r0, trivial⟩⟩ trivial)
            · have h := ifF h cd30
              refine wc_seq ?_
              refine wc_region ?_   -- region 16
              refine wl_det rfl rfl (det_eql rfl rfl) rfl ?_
              refine wl_det rfl rfl (det_assign rfl) rfl ?_
              refine wl_nil ?_
              refine pn_then ?_
              refine wc_cond rfl (fun cd36 => ?_) (fun cd36 => ?_)
              · have h := ifT h cd36
                obtain ⟨k17_p1, h⟩ := chk_some h
                obtain ⟨k17_p2, h⟩ := chk_some h
                refine dx_regionZ (Z := St C [_, _, _] []) 4 [[], [], [0], [0, 2], [0, 1, 2, 3], [0, 1, 2, 3, 4]] mixed (ord := (.det 0 (.det 1 (.det 2 (.alt 3 .done .dead))))) (by kernel_rfl) (fun _ h => h.to ⟨_, (rs r0), ⟨_, (rs r0), ⟨_, (rs r0), trivial⟩⟩⟩ trivial) ?_   -- region 17
                refine hx_det rfl rfl rfl nofun (det_loadN (cells := [_, _]) rfl (ms m0) (by rfl) ag110 sz110) rfl ?_
                refine hx_det rfl rfl rfl nofun (det_loadN (cells := [_, _]) rfl m0 (by rfl) ag110 sz110) rfl ?_
                refine hx_det rfl rfl rfl nofun (det_indexA rfl rfl rfl rfl un112 sz110) rfl ?_
                refine hx_mut0 rfl rfl rfl (act_store (cells := [_, _]) (cs' := aC encGspan (upd [(Gspan.mk 0 0), (Gspan.mk 0 0), (Gspan.mk 0 0), (Gspan.mk 0 0), (Gspan.mk 0 0), (Gspan.mk 0 0), (Gspan.mk 0 0), (Gspan.mk 0 0), (Gspan.mk 0 0), (Gspan.mk 0 0), (Gspan.mk 0 1073741824)] 4 (Gspan.mk 0 1073741824))) rfl rfl rfl s0 (aC_set (enc := encGspan) (z := 2) (o := 0) (fun _ => rfl) k17_p1 rfl rfl) (aC_le (enc := encGspan) (z := 2) (o := 0) (fun _ => rfl) k17_p1 rfl) sz110 ⟨rfl, rfl, trivial⟩) (by rintro _ _ _ ⟨rfl, rfl⟩ w hs; exact hs.to ⟨_, (rs r0), ⟨_, (rs r0), ⟨_, (rs r0), trivial⟩⟩⟩ trivial) ?_
                rintro _ _ _ ⟨rfl, rfl⟩
                refine hx_end ?_
                refine wl_det rfl rfl (det_indexA rfl rfl rfl rfl un112 sz110) rfl ?_
                refine wl_act0 (act_store (cells := [_, _]) (cs' := aC encGspan (upd (upd [(Gspan.mk 0 0), (Gspan.mk 0 0), (Gspan.mk 0 0), (Gspan.mk 0 0), (Gspan.mk 0 0), (Gspan.mk 0 0), (Gspan.mk 0 0), (Gspan.mk 0 0), (Gspan.mk 0 0), (Gspan.mk 0 0), (Gspan.mk 0 1073741824)] 4 (Gspan.mk 0 1073741824)) 5 (Gspan.mk 1 1073741824))) rfl rfl rfl s0 (aC_set (enc := encGspan) (z := 2) (o := 0) (fun _ => rfl) k17_p2 rfl rfl) (aC_le (enc := encGspan) (z := 2) (o := 0) (fun _ => rfl) k17_p2 rfl) sz110 ⟨rfl, rfl, trivial⟩) rfl rfl ?_
                rintro _ _ _ ⟨rfl, rfl⟩
                refine wl_nil ?_
                refine pn_block ?_
                replace h := Option.some.inj h
                subst h
                exact pn_meetG ((upd (upd [(Gspan.mk 0 0), (Gspan.mk 0 0), (Gspan.mk 0 0), (Gspan.mk 0 0), (Gspan.mk 0 0), (Gspan.mk 0 0), (Gspan.mk 0 0), (Gspan.mk 0 0), (Gspan.mk 0 0), (Gspan.mk 0 0), (Gspan.mk 0 1073741824)] 4 (Gspan.mk 0 1073741824)) 5 (Gspan.mk 1 1073741824)), ()) rfl ⟨rfl, rfl, trivial⟩ (fun _ h => h.to ⟨_, (rs (rs (rs r0))), ⟨_, r0, trivial⟩⟩ trivial)
              · have h := ifF h cd36
                refine wc_skip ?_
                refine pn_block ?_
                replace h := Option.some.inj h
                subst h
                exact pn_meetG ([(Gspan.mk 0 0), (Gspan.mk 0 0), (Gspan.mk 0 0), (Gspan.mk 0 0), (Gspan.mk 0 0), (Gspan.mk 0 0), (Gspan.mk 0 0), (Gspan.mk 0 0), (Gspan.mk 0 0), (Gspan.mk 0 0), (Gspan.mk 0 1073741824)], ()) rfl ⟨rfl, rfl, trivial⟩ (fun _ h => h.to ⟨_, (rs (rs (rs r0))), ⟨_, r0, trivial⟩⟩ trivial)
  rintro ⟨s6, _⟩ e6
  dsimp only at e6 ⊢
  subst e6
  have h := ho6
  refine wc_seq ?_
  refine wc_region ?_   -- region 18
  obtain ⟨k18_0, h⟩ := chk_some h
  refine wl_det rfl rfl (det_loadN (cells := aC encGspan s6) rfl (ms m0) aC_whole ag112 (sz_aC (enc := encGspan) (z := 2) sz112 (fun _ => rfl) k18_0 rfl)) rfl ?_
  refine wl_act0 (act_store (cells := aC encGspan s6) (cs' := aC encGspan s6) rfl rfl rfl s0 (aC_over (enc := encGspan) (z := 2) (fun _ => rfl) k2_3 k18_0) (aC_fits (enc := encGspan) (z := 2) (fun _ => rfl) k2_3 k18_0) (sz_aC (enc := encGspan) (z := 2) sz112 (fun _ => rfl) k18_0 rfl) (aC_ones (fun _ u hu => (lGspan).one (w := default) (S := fun _ => True) rfl u hu) _)) rfl rfl ?_
  rintro _ _ _ ⟨rfl, rfl⟩
  refine wl_nil ?_
  refine pn_then ?_
  refine wc_ret ?_
  replace h := Option.some.inj h
  subst h
  refine pn_ret (vs := [_]) rfl ⟨⟨_, _, aC encGspan s6, rfl, m0, ag112, sz_aC (enc := encGspan) (z := 2) sz112 (fun _ => rfl) k18_0 rfl, rfl⟩, trivial⟩ ⟨rfl, rfl, rfl⟩ (fun _ h => h.to trivial trivial)
end Go.Proofs.Ytlmhmpngjfjfhaa
