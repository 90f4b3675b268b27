/- That functions of the program compute the plain programs of P. Written by a small program. -/
import Derived.Test.YtadkcelipefpmaaWLedgerEntries1
namespace Go.Proofs.Ytadkcelipefpmaa
open Go.RowKit
def Q_treatymade2_Shares (Ba0 : Nat) (r : (List GShare) × GDeck) : Value → List Ent → List Fact → Prop := fun v θ κ => ∃ (pA0 : Option Addr), ∃ (pn0 : Nat), ∃ (pc0 : Nat), ∃ (pA1 : Option Addr), ∃ (pn1 : Nat), ∃ (pc1 : Nat), v = .slice pA0 pn0 pc0 ∧ θ = [eS lGShare 99 pA0 pn0 pc0 r.1, eBlk Ba0 94 [.slice pA1 pn1 pc1, .int .i64 r.2.At]] ∧ κ = [fV (lSlice (lInt .i64)) (.slice pA1 pn1 pc1) r.2.L]
set_option maxHeartbeats 4000000 in
set_option maxRecDepth 100000 in
theorem W_treatymade2_Shares (a0 : GDeck) (a1 : Int) (Ba0 : Nat) (A1 : Option Addr) (n1 : Nat) (c1 : Nat) (r : (List GShare) × GDeck) (h : treatymade2_Shares a0 a1 = some r) : Spec Try.prog 42 [.pointer (some ⟨Ba0, 0, none⟩), .int .i64 a1] [eBlk Ba0 94 [.slice A1 n1 c1, .int .i64 a0.At]] [fV (lSlice (lInt .i64)) (.slice A1 n1 c1) a0.L] (Q_treatymade2_Shares Ba0 r) := by
  unfold treatymade2_Shares at h
  refine spec_of (σ := [(0, _), (1, _)]) Try.func42 rfl rfl rfl rfl ?_
  intro C
  refine wc_know (fun _ h => h.lenF m0) (fun e => ?_)
  subst e
  refine wc_seq ?_
  refine wc_region ?_   -- region 0
  refine wl_det rfl rfl (det_assign rfl) rfl ?_
  refine wl_nil ?_
  refine pn_then ?_
  refine wc_seq ?_
  refine wc_region ?_   -- region 1
  refine wl_det rfl rfl (det_assign rfl) rfl ?_
  refine wl_nil ?_
  refine pn_then ?_
  refine wc_seq ?_
  refine wc_region ?_   -- region 2
  refine wl_det rfl rfl (det_assign rfl) rfl ?_
  refine wl_det rfl rfl (det_assign rfl) rfl ?_
  refine wl_det rfl rfl (det_assign rfl) rfl ?_
  refine wl_nil ?_
  refine pn_then ?_
  obtain ⟨q6, h, ho6⟩ := bind_some h
  refine wc_meetG (G := ((List Int) × Int × (List GShare)) × Option Addr × Nat × Nat × Option Addr × Nat × Nat × Unit) (fun (s6, _, _, _, _, _, _, _) => s6 = q6) (fun (_, _, _, _, A6_3, n6_3, c6_3, _) => [(5, .slice A6_3 n6_3 c6_3)]) (fun (s6, A6_0, n6_0, c6_0, A6_3, n6_3, c6_3, _) => [eBlk Ba0 94 [.slice A6_0 n6_0 c6_0, .int .i64 s6.2.1], eS lGShare 99 A6_3 n6_3 c6_3 s6.2.2]) (fun (s6, A6_0, n6_0, c6_0, _, _, _, _) => [fV (lSlice (lInt .i64)) (.slice A6_0 n6_0 c6_0) s6.1]) ?_ ?_
  · refine wc_seq ?_
    refine wc_region ?_   -- region 3
    refine wl_det rfl rfl (det_move rfl) rfl ?_
    refine wl_det rfl rfl (det_move rfl) rfl ?_
    refine wl_det rfl rfl (det_add rfl rfl) rfl ?_
    obtain ⟨r3_3, hr3_3, h⟩ := bind_some h
    refine wl_act (act_callS (cap := []) (W_treatymade_Deck_Next a0 (w64 (a1 + 1)) Ba0 A1 a0.L.length c1 r3_3 hr3_3) rfl rfl rfl bd34 ⟨_, r0, rfl⟩ ⟨m0, trivial⟩) rfl rfl rfl ?_
    rintro _ _ _ ⟨_, _, ⟨y3_3A0, y3_3n0, y3_3c0, rfl, rfl, rfl⟩, rfl, rfl⟩
    dsimp only [List.nil_append, List.cons_append]
    refine wl_know (fun _ h => h.lenF m0) (fun e => ?_)
    subst e
    refine wl_det rfl rfl (det_assign rfl) rfl ?_
    refine wl_nil ?_
    refine pn_then ?_
    refine wc_block ?_
    refine wc_st (fun _ h => h.zeroS lGShare 99 none) ?_
    obtain ⟨k10, hk10⟩ := loopV_some.1 h
    refine wc_loop (G := Nat × ((List Int) × Int × (List GShare) × Int × Int × Int × Int) × Option Addr × Nat × Nat × Option Addr × Nat × Nat × Unit) (fun g => IterN treatymade2_Shares_l10 g.1 g.2.1 q6) (fun g => g.1) (fun (_, s10, _, _, _, A10_3, n10_3, c10_3, _) => [(0, .pointer (some ⟨Ba0, 0, none⟩)), (5, .slice A10_3 n10_3 c10_3), (6, .int .i64 s10.2.2.2.1), (7, .int .i64 s10.2.2.2.2.1), (8, .int .i64 s10.2.2.2.2.2.1), (9, .int .i64 s10.2.2.2.2.2.2)]) (fun (_, s10, A10_0, n10_0, c10_0, A10_3, n10_3, c10_3, _) => [eBlk Ba0 94 [.slice A10_0 n10_0 c10_0, .int .i64 s10.2.1], eS lGShare 99 A10_3 n10_3 c10_3 s10.2.2.1]) (fun (_, s10, A10_0, n10_0, c10_0, _, _, _, _) => [fV (lSlice (lInt .i64)) (.slice A10_0 n10_0 c10_0) s10.1]) (k10, (r3_3.2.L, r3_3.2.At, [], 1, 0, (-1), r3_3.1), y3_3A0, r3_3.2.L.length, y3_3c0, none, 0, 0, ()) hk10 ⟨rfl, rfl, rfl, rfl, rfl, rfl, trivial⟩ (fun _ h => h.to ⟨_, (rs r0), ⟨_, r0, trivial⟩⟩ ⟨m0, trivial⟩) ?_
    rintro ⟨k10, s10, A10_0, n10_0, c10_0, A10_3, n10_3, c10_3, _⟩ hI
    obtain ⟨k10, rfl, q10, h, g10⟩ := IterN.pos hI
    dsimp only at h ⊢
    unfold treatymade2_Shares_l10 at h
    refine wc_know (fun _ h => h.lenF m0) (fun e => ?_)
    subst e
    refine wc_know (fun _ h => h.lenO (ms m0)) (fun e => ?_)
    subst e
    refine wc_seq ?_
    refine wc_seq ?_
    refine wc_region ?_   -- region 4
    refine wl_det rfl rfl (det_move rfl) rfl ?_
    refine wl_det rfl rfl (det_gtr rfl rfl) rfl ?_
    refine wl_nil ?_
    refine pn_then ?_
    refine wc_cond rfl (fun cd14 => ?_) (fun cd14 => ?_)
    · have h := ifT h cd14
      refine wc_skip ?_
      refine pn_then ?_
      obtain ⟨q16, h, ho16⟩ := bind_some h
      refine wc_meetG (G := ((List Int) × Int × (List GShare) × Int × Int × Int) × Option Addr × Nat × Nat × Option Addr × Nat × Nat × Unit) (fun (s16, _, _, _, _, _, _, _) => s16 = q16) (fun (s16, _, _, _, A16_3, n16_3, c16_3, _) => [(0, .pointer (some ⟨Ba0, 0, none⟩)), (5, .slice A16_3 n16_3 c16_3), (6, .int .i64 s16.2.2.2.1), (7, .int .i64 s16.2.2.2.2.1), (8, .int .i64 s16.2.2.2.2.2), (9, .int .i64 s10.2.2.2.2.2.2)]) (fun (s16, A16_0, n16_0, c16_0, A16_3, n16_3, c16_3, _) => [eBlk Ba0 94 [.slice A16_0 n16_0 c16_0, .int .i64 s16.2.1], eS lGShare 99 A16_3 n16_3 c16_3 s16.2.2.1]) (fun (s16, A16_0, n16_0, c16_0, _, _, _, _) => [fV (lSlice (lInt .i64)) (.slice A16_0 n16_0 c16_0) s16.1]) ?_ ?_
      · refine wc_block ?_
        obtain ⟨q18, h, ho18⟩ := bind_some h
        refine wc_meetG (G := ((List Int) × Int × Int × Int × Int) × Option Addr × Nat × Nat × Unit) (fun (s18, _, _, _, _) => s18 = q18) (fun (s18, _, _, _, _) => [(0, .pointer (some ⟨Ba0, 0, none⟩)), (5, .slice A10_3 s10.2.2.1.length c10_3), (6, .int .i64 s18.2.2.1), (7, .int .i64 s18.2.2.2.1), (8, .int .i64 s18.2.2.2.2), (9, .int .i64 s10.2.2.2.2.2.2)]) (fun (s18, A18_0, n18_0, c18_0, _) => [eBlk Ba0 94 [.slice A18_0 n18_0 c18_0, .int .i64 s18.2.1], eS lGShare 99 A10_3 s10.2.2.1.length c10_3 s10.2.2.1]) (fun (s18, A18_0, n18_0, c18_0, _) => [fV (lSlice (lInt .i64)) (.slice A18_0 n18_0 c18_0) s18.1]) ?_ ?_
        · refine wc_seq ?_
          refine wc_region ?_   -- region 6
          refine wl_det rfl rfl (det_move rfl) rfl ?_
          obtain ⟨r6_1, hr6_1, h⟩ := bind_some h
          refine wl_act (act_callS (cap := []) (W_treatymade_Deck_Next (GDeck.mk s10.1 s10.2.1) 3 Ba0 A10_0 s10.1.length c10_0 r6_1 hr6_1) rfl rfl rfl bd34 ⟨_, r0, rfl⟩ ⟨m0, trivial⟩) rfl rfl rfl ?_
          rintro _ _ _ ⟨_, _, ⟨y6_1A0, y6_1n0, y6_1c0, rfl, rfl, rfl⟩, rfl, rfl⟩
          dsimp only [List.nil_append, List.cons_append]
          refine wl_know (fun _ h => h.lenF m0) (fun e => ?_)
          subst e
          refine wl_nil ?_
          refine pn_then ?_
          refine wc_block ?_
          refine wc_seq ?_
          refine wc_region ?_   -- region 7
          refine wl_det rfl rfl (det_eql rfl rfl) rfl ?_
          refine wl_det rfl rfl (det_assign rfl) rfl ?_
          refine wl_nil ?_
          refine pn_then ?_
          refine wc_cond rfl (fun cd24 => ?_) (fun cd24 => ?_)
          · have h := ifT h cd24
            refine wc_region ?_   -- region 8
            refine wl_det rfl rfl (det_move rfl) rfl ?_
            refine wl_det rfl rfl (det_add rfl rfl) rfl ?_
            refine wl_det rfl rfl (det_move rfl) rfl ?_
            obtain ⟨r8_3, hr8_3, h⟩ := bind_some h
            refine wl_act (act_callS (cap := []) (W_treatymade_Deck_Next r6_1.2 2 Ba0 y6_1A0 r6_1.2.L.length y6_1c0 r8_3 hr8_3) rfl rfl rfl bd34 ⟨_, r0, rfl⟩ ⟨m0, trivial⟩) rfl rfl rfl ?_
            rintro _ _ _ ⟨_, _, ⟨y8_3A0, y8_3n0, y8_3c0, rfl, rfl, rfl⟩, rfl, rfl⟩
            dsimp only [List.nil_append, List.cons_append]
            refine wl_know (fun _ h => h.lenF m0) (fun e => ?_)
            subst e
            refine wl_det rfl rfl (det_add rfl rfl) rfl ?_
            refine wl_det rfl rfl (det_move rfl) rfl ?_
            obtain ⟨r8_6, hr8_6, h⟩ := bind_some h
            refine wl_act (act_callS (cap := []) (W_treatymade_Deck_Next r8_3.2 3 Ba0 y8_3A0 r8_3.2.L.length y8_3c0 r8_6 hr8_6) rfl rfl rfl bd34 ⟨_, r0, rfl⟩ ⟨m0, trivial⟩) rfl rfl rfl ?_
            rintro _ _ _ ⟨_, _, ⟨y8_6A0, y8_6n0, y8_6c0, rfl, rfl, rfl⟩, rfl, rfl⟩
            dsimp only [List.nil_append, List.cons_append]
            refine wl_know (fun _ h => h.lenF m0) (fun e => ?_)
            subst e
            refine wl_det rfl rfl (det_assign rfl) rfl ?_
            refine wl_det rfl rfl (det_assign rfl) rfl ?_
            refine wl_det rfl rfl (det_assign rfl) rfl ?_
            refine wl_nil ?_
            refine pn_block ?_
            replace h := Option.some.inj h
            subst h
            exact pn_meetG ((r8_6.2.L, r8_6.2.At, (w64 ((w64 (s10.2.2.2.1 + 1)) + r8_3.1)), r8_6.1, (-1)), y8_6A0, r8_6.2.L.length, y8_6c0, ()) rfl ⟨rfl, rfl, rfl, rfl, rfl, rfl, trivial⟩ (fun _ h => h.to ⟨_, r0, ⟨_, r0, trivial⟩⟩ ⟨m0, trivial⟩)
          · have h := ifF h cd24
            refine wc_seq ?_
            refine wc_region ?_   -- region 9
            refine wl_det rfl rfl (det_eql rfl rfl) rfl ?_
            refine wl_det rfl rfl (det_assign rfl) rfl ?_
            refine wl_nil ?_
            refine pn_then ?_
            refine wc_cond rfl (fun cd28 => ?_) (fun cd28 => ?_)
            · have h := ifT h cd28
              refine wc_region ?_   -- region 10
              refine wl_det rfl rfl (det_move rfl) rfl ?_
              refine wl_det rfl rfl (det_add rfl rfl) rfl ?_
              refine wl_det rfl rfl (det_move rfl) rfl ?_
              obtain ⟨r10_3, hr10_3, h⟩ := bind_some h
              refine wl_act (act_callS (cap := []) (W_treatymade_Deck_Next r6_1.2 2 Ba0 y6_1A0 r6_1.2.L.length y6_1c0 r10_3 hr10_3) rfl rfl rfl bd34 ⟨_, r0, rfl⟩ ⟨m0, trivial⟩) rfl rfl rfl ?_
              rintro _ _ _ ⟨_, _, ⟨y10_3A0, y10_3n0, y10_3c0, rfl, rfl, rfl⟩, rfl, rfl⟩
              dsimp only [List.nil_append, List.cons_append]
              refine wl_know (fun _ h => h.lenF m0) (fun e => ?_)
              subst e
              refine wl_det rfl rfl (det_add rfl rfl) rfl ?_
              refine wl_det rfl rfl (det_assign rfl) rfl ?_
              refine wl_det rfl rfl (det_assign rfl) rfl ?_
              refine wl_nil ?_
              refine pn_block ?_
              replace h := Option.some.inj h
              subst h
              exact pn_meetG ((r10_3.2.L, r10_3.2.At, s10.2.2.2.1, (w64 ((w64 (s10.2.2.2.2.1 + 1)) + r10_3.1)), (-1)), y10_3A0, r10_3.2.L.length, y10_3c0, ()) rfl ⟨rfl, rfl, rfl, rfl, rfl, rfl, trivial⟩ (fun _ h => h.to ⟨_, r0, ⟨_, r0, trivial⟩⟩ ⟨m0, trivial⟩)
            · have h := ifF h cd28
              refine wc_skip ?_
              refine pn_block ?_
              replace h := Option.some.inj h
              subst h
              exact pn_meetG ((r6_1.2.L, r6_1.2.At, s10.2.2.2.1, s10.2.2.2.2.1, s10.2.2.2.2.2.1), y6_1A0, r6_1.2.L.length, y6_1c0, ()) rfl ⟨rfl, rfl, rfl, rfl, rfl, rfl, trivial⟩ (fun _ h => h.to ⟨_, r0, ⟨_, r0, trivial⟩⟩ ⟨m0, trivial⟩)
        rintro ⟨s18, A18_0, n18_0, c18_0, _⟩ e18
        dsimp only at e18 ⊢
        subst e18
        have h := ho18
        refine wc_know (fun _ h => h.lenF m0) (fun e => ?_)
        subst e
        obtain ⟨q30, h, ho30⟩ := bind_some h
        refine wc_meetG (G := (Int × Int) × Unit) (fun (s30, _) => s30 = q30) (fun (s30, _) => [(0, .pointer (some ⟨Ba0, 0, none⟩)), (5, .slice A10_3 s10.2.2.1.length c10_3), (6, .int .i64 s18.2.2.1), (7, .int .i64 s30.1), (8, .int .i64 s30.2), (9, .int .i64 s10.2.2.2.2.2.2)]) (fun (_, _) => [eBlk Ba0 94 [.slice A18_0 s18.1.length c18_0, .int .i64 s18.2.1], eS lGShare 99 A10_3 s10.2.2.1.length c10_3 s10.2.2.1]) (fun (_, _) => [fV (lSlice (lInt .i64)) (.slice A18_0 s18.1.length c18_0) s18.1]) ?_ ?_
        · refine wc_seq ?_
          refine wc_region ?_   -- region 11
          refine wl_det rfl rfl (det_move rfl) rfl ?_
          refine wl_det rfl rfl (det_eql rfl rfl) rfl ?_
          refine wl_det rfl rfl (det_move rfl) rfl ?_
          refine wl_way (decide (s18.2.2.2.1 = 0)) ((decide (s18.2.2.2.1 = 0)) && (decide (0 ≤ s18.2.2.2.2))) 3 42 (fun hg => ?_) (fun hg => ?_) ?_
          · have hg11_5 := hg
            refine wl_on rfl rfl rfl rfl hg11_5 ?_
            refine wl_det rfl rfl (det_move rfl) rfl ?_
            refine wl_on rfl rfl rfl rfl hg11_5 ?_
            refine wl_det rfl rfl (det_geq rfl rfl) rfl ?_
            refine wl_det rfl rfl (det_and_on rfl rfl rfl hg11_5) rfl ?_
            exact wl_nil (pn_qnE (ext_cons rfl (ext_skip rfl (ext_skip rfl (ext_skip rfl ext_refl)))) (fun _ h => h))
          · have hg11_5a := hg
            refine wl_off rfl rfl rfl rfl rfl hg11_5a rfl ?_
            refine wl_off rfl rfl rfl rfl rfl hg11_5a rfl ?_
            refine wl_det rfl rfl (det_and_off (q := (decide (0 ≤ s18.2.2.2.2))) rfl rfl rfl hg11_5a) rfl ?_
            exact wl_nil (pn_qnE (ext_cons rfl (ext_skip rfl (ext_skip rfl (ext_skip rfl ext_refl)))) (fun _ h => h))
          refine wl_nil ?_
          refine pn_then ?_
          refine wc_cond rfl (fun cd33 => ?_) (fun cd33 => ?_)
          · have h := ifT h cd33
            refine wc_region ?_   -- region 12
            refine wl_det rfl rfl (det_assign rfl) rfl ?_
            refine wl_det rfl rfl (det_assign rfl) rfl ?_
            refine wl_nil ?_
            replace h := Option.some.inj h
            subst h
            exact pn_meetG ((1, (-1)), ()) rfl ⟨rfl, rfl, rfl, rfl, rfl, rfl, trivial⟩ (fun _ h => h.to ⟨_, r0, ⟨_, r0, trivial⟩⟩ ⟨m0, trivial⟩)
          · have h := ifF h cd33
            refine wc_skip ?_
            replace h := Option.some.inj h
            subst h
            exact pn_meetG ((s18.2.2.2.1, s18.2.2.2.2), ()) rfl ⟨rfl, rfl, rfl, rfl, rfl, rfl, trivial⟩ (fun _ h => h.to ⟨_, r0, ⟨_, r0, trivial⟩⟩ ⟨m0, trivial⟩)
        rintro ⟨s30, _⟩ e30
        dsimp only at e30 ⊢
        subst e30
        have h := ho30
        obtain ⟨q35, h, ho35⟩ := bind_some h
        refine wc_meetG (G := ((List Int) × Int × Int) × Option Addr × Nat × Nat × Unit) (fun (s35, _, _, _, _) => s35 = q35) (fun (s35, _, _, _, _) => [(0, .pointer (some ⟨Ba0, 0, none⟩)), (5, .slice A10_3 s10.2.2.1.length c10_3), (6, .int .i64 s18.2.2.1), (7, .int .i64 s30.1), (8, .int .i64 s35.2.2), (9, .int .i64 s10.2.2.2.2.2.2)]) (fun (s35, A35_0, n35_0, c35_0, _) => [eBlk Ba0 94 [.slice A35_0 n35_0 c35_0, .int .i64 s35.2.1], eS lGShare 99 A10_3 s10.2.2.1.length c10_3 s10.2.2.1]) (fun (s35, A35_0, n35_0, c35_0, _) => [fV (lSlice (lInt .i64)) (.slice A35_0 n35_0 c35_0) s35.1]) ?_ ?_
        · refine wc_seq ?_
          refine wc_region ?_   -- region 13
          refine wl_det rfl rfl (det_move rfl) rfl ?_
          refine wl_det rfl rfl (det_eql rfl rfl) rfl ?_
          refine wl_nil ?_
          refine pn_then ?_
          refine wc_cond rfl (fun cd38 => ?_) (fun cd38 => ?_)
          · have h := ifT h cd38
            refine wc_region ?_   -- region 14
            refine wl_det rfl rfl (det_assign rfl) rfl ?_
            refine wl_nil ?_
            replace h := Option.some.inj h
            subst h
            exact pn_meetG ((s18.1, s18.2.1, 0), A18_0, s18.1.length, c18_0, ()) rfl ⟨rfl, rfl, rfl, rfl, rfl, rfl, trivial⟩ (fun _ h => h.to ⟨_, r0, ⟨_, r0, trivial⟩⟩ ⟨m0, trivial⟩)
          · have h := ifF h cd38
            refine wc_region ?_   -- region 15
            refine wl_det rfl rfl (det_move rfl) rfl ?_
            refine wl_det rfl rfl (det_move rfl) rfl ?_
            obtain ⟨r15_2, hr15_2, h⟩ := bind_some h
            refine wl_act (act_callS (cap := []) (W_treatymade_Deck_Next (GDeck.mk s18.1 s18.2.1) 2 Ba0 A18_0 s18.1.length c18_0 r15_2 hr15_2) rfl rfl rfl bd34 ⟨_, r0, rfl⟩ ⟨m0, trivial⟩) rfl rfl rfl ?_
            rintro _ _ _ ⟨_, _, ⟨y15_2A0, y15_2n0, y15_2c0, rfl, rfl, rfl⟩, rfl, rfl⟩
            dsimp only [List.nil_append, List.cons_append]
            refine wl_know (fun _ h => h.lenF m0) (fun e => ?_)
            subst e
            refine wl_det rfl rfl (det_add rfl rfl) rfl ?_
            refine wl_det rfl rfl (det_add rfl rfl) rfl ?_
            refine wl_det rfl rfl (det_assign rfl) rfl ?_
            refine wl_nil ?_
            replace h := Option.some.inj h
            subst h
            exact pn_meetG ((r15_2.2.L, r15_2.2.At, (w64 (s30.2 + (w64 (1 + r15_2.1))))), y15_2A0, r15_2.2.L.length, y15_2c0, ()) rfl ⟨rfl, rfl, rfl, rfl, rfl, rfl, trivial⟩ (fun _ h => h.to ⟨_, r0, ⟨_, r0, trivial⟩⟩ ⟨m0, trivial⟩)
        rintro ⟨s35, A35_0, n35_0, c35_0, _⟩ e35
        dsimp only at e35 ⊢
        subst e35
        have h := ho35
        refine wc_know (fun _ h => h.lenF m0) (fun e => ?_)
        subst e
        refine wc_seq ?_
        refine wc_seq ?_
        refine wc_region ?_   -- region 16
        refine wl_det rfl rfl (det_move rfl) rfl ?_
        refine wl_det rfl rfl (det_gtr rfl rfl) rfl ?_
        refine wl_nil ?_
        refine pn_then ?_
        refine wc_cond rfl (fun cd44 => ?_) (fun cd44 => ?_)
        · have h := ifT h cd44
          refine wc_exit ?_
          refine px_then ?_
          refine px_block ?_
          replace h := Option.some.inj h
          subst h
          exact pn_meetG ((s35.1, s35.2.1, s10.2.2.1, s18.2.2.1, s30.1, s35.2.2), A35_0, s35.1.length, c35_0, A10_3, s10.2.2.1.length, c10_3, ()) rfl ⟨rfl, rfl, rfl, rfl, rfl, rfl, trivial⟩ (fun _ h => h.to ⟨_, r0, ⟨_, r0, trivial⟩⟩ ⟨m0, trivial⟩)
        · have h := ifF h cd44
          refine wc_skip ?_
          refine pn_then ?_
          refine wc_seq ?_
          refine wc_region ?_   -- region 17
          refine wl_det rfl rfl (det_move rfl) rfl ?_
          refine wl_det rfl rfl (det_move rfl) rfl ?_
          refine wl_det rfl rfl (det_move rfl) rfl ?_
          refine wl_det rfl rfl (det_move rfl) rfl ?_
          obtain ⟨r17_4, hr17_4, h⟩ := bind_some h
          refine wl_act (act_callS (cap := []) (W_treatymade2_Small (GDeck.mk s35.1 s35.2.1) Ba0 A35_0 s35.1.length c35_0 r17_4 hr17_4) rfl rfl rfl bd62 ⟨_, r0, rfl⟩ ⟨m0, trivial⟩) rfl rfl rfl ?_
          rintro _ _ _ ⟨_, _, ⟨y17_4A0, y17_4n0, y17_4c0, rfl, rfl, rfl⟩, rfl, rfl⟩
          dsimp only [List.nil_append, List.cons_append]
          refine wl_know (fun _ h => h.lenF m0) (fun e => ?_)
          subst e
          refine wl_det rfl rfl (det_add rfl rfl) rfl ?_
          refine wl_det rfl rfl (det_build (cs := [_, _, _, _, _]) pl99 zr99 rfl rfl (by rfl)) rfl ?_
          refine wl_act (act_alloc (cs := [_, _, _, _, _]) zr99 rfl) rfl rfl rfl ?_
          rintro _ _ _ ⟨b17_7, rfl, rfl, rfl⟩
          refine wl_act0 (act_store (cells := [_, _, _, _, _]) (cs' := [_, _, _, _, _]) rfl rfl rfl s0 (by rfl) (of_decide_eq_true rfl) sz99 ⟨rfl, rfl, rfl, rfl, rfl, trivial⟩) rfl rfl ?_
          rintro _ _ _ ⟨rfl, rfl⟩
          refine wl_nil ?_
          refine pn_then ?_
          refine wc_seq ?_
          refine wc_region ?_   -- region 18
          refine wl_det rfl rfl (det_move rfl) rfl ?_
          refine wl_det rfl rfl (det_field rfl fd99_3 rfl) rfl ?_
          refine wl_det rfl rfl (det_load rfl m0 (by rfl) na3 us3) rfl ?_
          refine wl_det rfl rfl (det_add rfl rfl) rfl ?_
          obtain ⟨r18_4, hr18_4, h⟩ := bind_some h
          refine wl_act (act_callS (cap := []) (W_treatymade_Deck_Next r17_4.2 (w64 ((w64 (1 + r17_4.1)) + 1)) Ba0 y17_4A0 r17_4.2.L.length y17_4c0 r18_4 hr18_4) rfl rfl rfl bd34 ⟨_, (rs r0), rfl⟩ ⟨m0, trivial⟩) rfl rfl rfl ?_
          rintro _ _ _ ⟨_, _, ⟨y18_4A0, y18_4n0, y18_4c0, rfl, rfl, rfl⟩, rfl, rfl⟩
          dsimp only [List.nil_append, List.cons_append]
          refine wl_know (fun _ h => h.lenF m0) (fun e => ?_)
          subst e
          refine wl_det rfl rfl (det_field rfl fd99_4 rfl) rfl ?_
          refine wl_act0 (act_store (cells := [_]) (cs' := [_, _, _, _, _]) rfl rfl rfl (ss s0) (by rfl) (of_decide_eq_true rfl) sz3 ⟨rfl, trivial⟩) rfl rfl ?_
          rintro _ _ _ ⟨rfl, rfl⟩
          refine wl_nil ?_
          refine pn_then ?_
          refine wc_region ?_   -- region 19
          refine wl_det rfl rfl (det_move rfl) rfl ?_
          refine wl_det rfl rfl (det_loadN (cells := [_, _, _, _, _]) rfl (ms m0) (by rfl) ag99 sz99) rfl ?_
          refine wl_act (act_litS lGShare (vs := [_]) (cs := [_, _, _, _, _]) [(GShare.mk s18.2.2.1 s30.1 s35.2.2 (w64 (1 + r17_4.1)) r18_4.1)] un68 in99 rfl rfl rfl rfl rfl ⟨rfl, trivial⟩ (by rfl) rfl (litR_flat rfl)) rfl rfl rfl ?_
          rintro _ _ _ ⟨A19_2, rfl, rfl, rfl⟩
          obtain ⟨k19_3, h⟩ := chk_some h
          refine wl_act (act_appendS (L := lGShare) rfl rfl (ss (ss (ss s0))) (src_O m0) un68 in99 rfl rfl rfl k19_3) rfl rfl rfl ?_
          rintro _ _ _ ⟨A19_3, c19_3, rfl, rfl, rfl⟩
          refine wl_det rfl rfl (det_assign rfl) rfl ?_
          refine wl_nil ?_
          refine pn_block ?_
          replace h := Option.some.inj h
          subst h
          exact pn_meetG ((r18_4.2.L, r18_4.2.At, (s10.2.2.1 ++ [(GShare.mk s18.2.2.1 s30.1 s35.2.2 (w64 (1 + r17_4.1)) r18_4.1)]), s18.2.2.1, s30.1, s35.2.2), y18_4A0, r18_4.2.L.length, y18_4c0, A19_3, (s10.2.2.1 ++ [(GShare.mk s18.2.2.1 s30.1 s35.2.2 (w64 (1 + r17_4.1)) r18_4.1)]).length, c19_3, ()) rfl ⟨rfl, rfl, rfl, rfl, rfl, rfl, trivial⟩ (fun _ h => h.to ⟨_, (rs r0), ⟨_, (rs (rs r0)), trivial⟩⟩ ⟨m0, trivial⟩)
      rintro ⟨s16, A16_0, n16_0, c16_0, A16_3, n16_3, c16_3, _⟩ e16
      dsimp only at e16 ⊢
      subst e16
      have h := ho16
      refine wc_know (fun _ h => h.lenF m0) (fun e => ?_)
      subst e
      refine wc_know (fun _ h => h.lenO (ms m0)) (fun e => ?_)
      subst e
      refine wc_region ?_   -- region 5
      refine wl_det rfl rfl (det_move rfl) rfl ?_
      refine wl_det rfl rfl (det_sub rfl rfl) rfl ?_
      refine wl_det rfl rfl (det_assign rfl) rfl ?_
      refine wl_nil ?_
      replace h := Option.some.inj h
      subst h
      exact pn_some (k10, (s16.1, s16.2.1, s16.2.2.1, s16.2.2.2.1, s16.2.2.2.2.1, s16.2.2.2.2.2, (w64 (s10.2.2.2.2.2.2 - 1))), A16_0, s16.1.length, c16_0, A16_3, s16.2.2.1.length, c16_3, ()) ⟨nextL g10, Nat.lt_succ_self _⟩ ⟨rfl, rfl, rfl, rfl, rfl, rfl, trivial⟩ (fun _ h => h.to ⟨_, r0, ⟨_, r0, trivial⟩⟩ ⟨m0, trivial⟩)
    · have h := ifF h cd14
      refine wc_exit ?_
      refine px_then ?_
      refine px_then ?_
      refine px_block ?_
      replace h := Option.some.inj h
      subst h
      replace g10 := nextR g10
      subst g10
      exact pn_meetG ((s10.1, s10.2.1, s10.2.2.1), A10_0, s10.1.length, c10_0, A10_3, s10.2.2.1.length, c10_3, ()) rfl ⟨rfl, trivial⟩ (fun _ h => h.to ⟨_, r0, ⟨_, r0, trivial⟩⟩ ⟨m0, trivial⟩)
  rintro ⟨s6, A6_0, n6_0, c6_0, A6_3, n6_3, c6_3, _⟩ e6
  dsimp only at e6 ⊢
  subst e6
  have h := ho6
  refine wc_know (fun _ h => h.lenF m0) (fun e => ?_)
  subst e
  refine wc_know (fun _ h => h.lenO (ms m0)) (fun e => ?_)
  subst e
  refine wc_seq ?_
  refine wc_region ?_   -- region 20
  refine wl_det rfl rfl (det_move rfl) rfl ?_
  refine wl_det rfl rfl (det_assign rfl) rfl ?_
  refine wl_nil ?_
  refine pn_then ?_
  refine wc_ret ?_
  replace h := Option.some.inj h
  subst h
  refine pn_ret (vs := [_]) rfl ⟨rfl, trivial⟩ ⟨A6_3, s6.2.2.length, c6_3, A6_0, s6.1.length, c6_0, rfl, rfl, rfl⟩ (fun _ h => h.to ⟨_, (rs r0), ⟨_, r0, trivial⟩⟩ ⟨m0, trivial⟩)
def Q_cession_valid (r : Bool) : Value → List Ent → List Fact → Prop := fun v θ κ => v = .bool r ∧ θ = [] ∧ κ = []
theorem plains_cession_valid {r : Bool} : ∀ v θ κ, Q_cession_valid r v θ κ → Plains θ := by
  rintro _ _ _ ⟨rfl, rfl, rfl⟩
  exact trivial
set_option maxHeartbeats 4000000 in
set_option maxRecDepth 100000 in
theorem W_cession_valid (a0 : GShare) (r : Bool) (h : cession_valid a0 = some r) : Spec Try.prog 73 [.agg #[.int .i64 a0.Loss, .int .i64 a0.Treaty, .int .i64 a0.Party, .int .i64 a0.Amount, .int .i64 a0.Paid]] [] [] (Q_cession_valid r) := by
  unfold cession_valid at h
  refine spec_of (σ := [(0, _)]) Try.func73 rfl rfl rfl rfl ?_
  intro C
  refine wc_seq ?_
  refine wc_region ?_   -- region 0
  refine wl_act (act_box (cs := [_, _, _, _, _]) rfl rfl) rfl rfl rfl ?_
  rintro _ _ _ ⟨b0_0, rfl, rfl, rfl⟩
  refine wl_det rfl rfl (det_assign rfl) rfl ?_
  refine wl_nil ?_
  refine pn_then ?_
  refine wc_seq ?_
  refine wc_seq ?_
  refine wc_region ?_   -- region 1
  refine wl_det rfl rfl (det_field rfl fd99_0 rfl) rfl ?_
  refine wl_det rfl rfl (det_load rfl m0 (by rfl) na3 us3) rfl ?_
  refine wl_det rfl rfl (det_lss rfl rfl) rfl ?_
  refine wl_det rfl rfl (det_move rfl) rfl ?_
  refine wl_way (decide (a0.Loss < 1)) ((decide (a0.Loss < 1)) || (decide (1048576 < a0.Loss))) 4 10 (fun hg => ?_) (fun hg => ?_) ?_
  · have hg1_7 := hg
    refine wl_off rfl rfl rfl rfl rfl hg1_7 rfl ?_
    refine wl_off rfl rfl rfl rfl rfl hg1_7 rfl ?_
    refine wl_off rfl rfl rfl rfl rfl hg1_7 rfl ?_
    refine wl_det rfl rfl (det_or_on (r := (decide (1048576 < a0.Loss))) rfl rfl rfl hg1_7) rfl ?_
    exact wl_nil (pn_qnE (ext_cons rfl (ext_skip rfl (ext_skip rfl (ext_skip rfl (ext_skip rfl ext_refl))))) (fun _ h => h))
  · have hg1_7a := hg
    refine wl_on rfl rfl rfl rfl hg1_7a ?_
    refine wl_det rfl rfl (det_field rfl fd99_0 rfl) rfl ?_
    refine wl_on rfl rfl rfl rfl hg1_7a ?_
    refine wl_det rfl rfl (det_load rfl m0 (by rfl) na3 us3) rfl ?_
    refine wl_on rfl rfl rfl rfl hg1_7a ?_
    refine wl_det rfl rfl (det_gtr rfl rfl) rfl ?_
    refine wl_det rfl rfl (det_or_off rfl rfl rfl hg1_7a) rfl ?_
    exact wl_nil (pn_qnE (ext_cons rfl (ext_skip rfl (ext_skip rfl (ext_skip rfl (ext_skip rfl ext_refl))))) (fun _ h => h))
  refine wl_det rfl rfl (det_move rfl) rfl ?_
  refine wl_way ((decide (a0.Loss < 1)) || (decide (1048576 < a0.Loss))) (((decide (a0.Loss < 1)) || (decide (1048576 < a0.Loss))) || (decide (a0.Treaty < 0))) 4 15 (fun hg => ?_) (fun hg => ?_) ?_
  · have hg1_12 := hg
    refine wl_off rfl rfl rfl rfl rfl hg1_12 rfl ?_
    refine wl_off rfl rfl rfl rfl rfl hg1_12 rfl ?_
    refine wl_off rfl rfl rfl rfl rfl hg1_12 rfl ?_
    refine wl_det rfl rfl (det_or_on (r := (decide (a0.Treaty < 0))) rfl rfl rfl hg1_12) rfl ?_
    exact wl_nil (pn_qnE (ext_cons rfl (ext_skip rfl (ext_skip rfl (ext_skip rfl (ext_skip rfl ext_refl))))) (fun _ h => h))
  · have hg1_12a := hg
    refine wl_on rfl rfl rfl rfl hg1_12a ?_
    refine wl_det rfl rfl (det_field rfl fd99_1 rfl) rfl ?_
    refine wl_on rfl rfl rfl rfl hg1_12a ?_
    refine wl_det rfl rfl (det_load rfl m0 (by rfl) na3 us3) rfl ?_
    refine wl_on rfl rfl rfl rfl hg1_12a ?_
    refine wl_det rfl rfl (det_lss rfl rfl) rfl ?_
    refine wl_det rfl rfl (det_or_off rfl rfl rfl hg1_12a) rfl ?_
    exact wl_nil (pn_qnE (ext_cons rfl (ext_skip rfl (ext_skip rfl (ext_skip rfl (ext_skip rfl ext_refl))))) (fun _ h => h))
  refine wl_det rfl rfl (det_move rfl) rfl ?_
  refine wl_way (((decide (a0.Loss < 1)) || (decide (1048576 < a0.Loss))) || (decide (a0.Treaty < 0))) ((((decide (a0.Loss < 1)) || (decide (1048576 < a0.Loss))) || (decide (a0.Treaty < 0))) || (decide (1048576 < a0.Treaty))) 4 20 (fun hg => ?_) (fun hg => ?_) ?_
  · have hg1_17 := hg
    refine wl_off rfl rfl rfl rfl rfl hg1_17 rfl ?_
    refine wl_off rfl rfl rfl rfl rfl hg1_17 rfl ?_
    refine wl_off rfl rfl rfl rfl rfl hg1_17 rfl ?_
    refine wl_det rfl rfl (det_or_on (r := (decide (1048576 < a0.Treaty))) rfl rfl rfl hg1_17) rfl ?_
    exact wl_nil (pn_qnE (ext_cons rfl (ext_skip rfl (ext_skip rfl (ext_skip rfl (ext_skip rfl ext_refl))))) (fun _ h => h))
  · have hg1_17a := hg
    refine wl_on rfl rfl rfl rfl hg1_17a ?_
    refine wl_det rfl rfl (det_field rfl fd99_1 rfl) rfl ?_
    refine wl_on rfl rfl rfl rfl hg1_17a ?_
    refine wl_det rfl rfl (det_load rfl m0 (by rfl) na3 us3) rfl ?_
    refine wl_on rfl rfl rfl rfl hg1_17a ?_
    refine wl_det rfl rfl (det_gtr rfl rfl) rfl ?_
    refine wl_det rfl rfl (det_or_off rfl rfl rfl hg1_17a) rfl ?_
    exact wl_nil (pn_qnE (ext_cons rfl (ext_skip rfl (ext_skip rfl (ext_skip rfl (ext_skip rfl ext_refl))))) (fun _ h => h))
  refine wl_nil ?_
  refine pn_then ?_
  refine wc_cond rfl (fun cd5 => ?_) (fun cd5 => ?_)
  · have h := ifT h cd5
    refine wc_seq ?_
    refine wc_region ?_   -- region 2
    refine wl_det rfl rfl (det_assign rfl) rfl ?_
    refine wl_nil ?_
    refine pn_then ?_
    refine wc_ret ?_
    refine pr_then ?_
    replace h := Option.some.inj h
    subst h
    refine pn_ret (vs := [_]) rfl ⟨rfl, trivial⟩ ⟨rfl, rfl, rfl⟩ (fun _ h => h.to trivial trivial)
  · have h := ifF h cd5
    refine wc_skip ?_
    refine pn_then ?_
    refine wc_seq ?_
    refine wc_seq ?_
    refine wc_region ?_   -- region 3
    refine wl_det rfl rfl (det_field rfl fd99_2 rfl) rfl ?_
    refine wl_det rfl rfl (det_load rfl m0 (by rfl) na3 us3) rfl ?_
    refine wl_det rfl rfl (det_lss rfl rfl) rfl ?_
    refine wl_det rfl rfl (det_move rfl) rfl ?_
    refine wl_way (decide (a0.Party < 0)) ((decide (a0.Party < 0)) || (decide (15 < a0.Party))) 4 28 (fun hg => ?_) (fun hg => ?_) ?_
    · have hg3_7 := hg
      refine wl_off rfl rfl rfl rfl rfl hg3_7 rfl ?_
      refine wl_off rfl rfl rfl rfl rfl hg3_7 rfl ?_
      refine wl_off rfl rfl rfl rfl rfl hg3_7 rfl ?_
      refine wl_det rfl rfl (det_or_on (r := (decide (15 < a0.Party))) rfl rfl rfl hg3_7) rfl ?_
      exact wl_nil (pn_qnE (ext_cons rfl (ext_skip rfl (ext_skip rfl (ext_skip rfl (ext_skip rfl ext_refl))))) (fun _ h => h))
    · have hg3_7a := hg
      refine wl_on rfl rfl rfl rfl hg3_7a ?_
      refine wl_det rfl rfl (det_field rfl fd99_2 rfl) rfl ?_
      refine wl_on rfl rfl rfl rfl hg3_7a ?_
      refine wl_det rfl rfl (det_load rfl m0 (by rfl) na3 us3) rfl ?_
      refine wl_on rfl rfl rfl rfl hg3_7a ?_
      refine wl_det rfl rfl (det_gtr rfl rfl) rfl ?_
      refine wl_det rfl rfl (det_or_off rfl rfl rfl hg3_7a) rfl ?_
      exact wl_nil (pn_qnE (ext_cons rfl (ext_skip rfl (ext_skip rfl (ext_skip rfl (ext_skip rfl ext_refl))))) (fun _ h => h))
    refine wl_det rfl rfl (det_move rfl) rfl ?_
    refine wl_way ((decide (a0.Party < 0)) || (decide (15 < a0.Party))) (((decide (a0.Party < 0)) || (decide (15 < a0.Party))) || ((decide (a0.Treaty = 0)) && (!decide (a0.Party = 0)))) 9 38 (fun hg => ?_) (fun hg => ?_) ?_
    · have hg3_17 := hg
      refine wl_off rfl rfl rfl rfl rfl hg3_17 rfl ?_
      refine wl_off rfl rfl rfl rfl rfl hg3_17 rfl ?_
      refine wl_off rfl rfl rfl rfl rfl hg3_17 rfl ?_
      refine wl_off rfl rfl rfl rfl rfl hg3_17 rfl ?_
      refine wl_none rfl rfl rfl rfl rfl rfl ?_
      refine wl_none rfl rfl rfl rfl rfl rfl ?_
      refine wl_none rfl rfl rfl rfl rfl rfl ?_
      refine wl_off rfl rfl rfl rfl rfl hg3_17 rfl ?_
      refine wl_det rfl rfl (det_or_on (r := ((decide (a0.Treaty = 0)) && (!decide (a0.Party = 0)))) rfl rfl rfl hg3_17) rfl ?_
      exact wl_nil (pn_qnE (ext_cons rfl (ext_skip rfl (ext_skip rfl (ext_skip rfl (ext_skip rfl (ext_skip rfl (ext_skip rfl (ext_skip rfl (ext_skip rfl (ext_skip rfl ext_refl)))))))))) (fun _ h => h))
    · have hg3_17a := hg
      refine wl_on rfl rfl rfl rfl hg3_17a ?_
      refine wl_det rfl rfl (det_field rfl fd99_1 rfl) rfl ?_
      refine wl_on rfl rfl rfl rfl hg3_17a ?_
      refine wl_det rfl rfl (det_load rfl m0 (by rfl) na3 us3) rfl ?_
      refine wl_on rfl rfl rfl rfl hg3_17a ?_
      refine wl_det rfl rfl (det_eql rfl rfl) rfl ?_
      refine wl_on rfl rfl rfl rfl hg3_17a ?_
      refine wl_det rfl rfl (det_move rfl) rfl ?_
      refine wl_way (decide (a0.Treaty = 0)) ((decide (a0.Treaty = 0)) && (!decide (a0.Party = 0))) 4 37 (fun hg => ?_) (fun hg => ?_) ?_
      · have hg3_16 := hg
        refine wl_on rfl rfl rfl rfl hg3_16 ?_
        refine wl_det rfl rfl (det_field rfl fd99_2 rfl) rfl ?_
        refine wl_on rfl rfl rfl rfl hg3_16 ?_
        refine wl_det rfl rfl (det_load rfl m0 (by rfl) na3 us3) rfl ?_
        refine wl_on rfl rfl rfl rfl hg3_16 ?_
        refine wl_det rfl rfl (det_neq rfl rfl) rfl ?_
        refine wl_on rfl rfl rfl rfl hg3_17a ?_
        refine wl_det rfl rfl (det_and_on rfl rfl rfl hg3_16) rfl ?_
        exact wl_nil (pn_qnE (ext_cons rfl (ext_skip rfl (ext_skip rfl (ext_skip rfl (ext_skip rfl ext_refl))))) (fun _ h => h))
      · have hg3_16a := hg
        refine wl_off rfl rfl rfl rfl rfl hg3_16a rfl ?_
        refine wl_off rfl rfl rfl rfl rfl hg3_16a rfl ?_
        refine wl_off rfl rfl rfl rfl rfl hg3_16a rfl ?_
        refine wl_on rfl rfl rfl rfl hg3_17a ?_
        refine wl_det rfl rfl (det_and_off (q := (!decide (a0.Party = 0))) rfl rfl rfl hg3_16a) rfl ?_
        exact wl_nil (pn_qnE (ext_cons rfl (ext_skip rfl (ext_skip rfl (ext_skip rfl (ext_skip rfl ext_refl))))) (fun _ h => h))
      refine wl_det rfl rfl (det_or_off rfl rfl rfl hg3_17a) rfl ?_
      exact wl_nil (pn_qnE (ext_cons rfl (ext_skip rfl (ext_skip rfl (ext_skip rfl (ext_skip rfl (ext_skip rfl (ext_skip rfl ext_refl))))))) (fun _ h => h))
    refine wl_nil ?_
    refine pn_then ?_
    refine wc_cond rfl (fun cd11 => ?_) (fun cd11 => ?_)
    · have h := ifT h cd11
      refine wc_seq ?_
      refine wc_region ?_   -- region 4
      refine wl_det rfl rfl (det_assign rfl) rfl ?_
      refine wl_nil ?_
      refine pn_then ?_
      refine wc_ret ?_
      refine pr_then ?_
      replace h := Option.some.inj h
      subst h
      refine pn_ret (vs := [_]) rfl ⟨rfl, trivial⟩ ⟨rfl, rfl, rfl⟩ (fun _ h => h.to trivial trivial)
    · have h := ifF h cd11
      refine wc_skip ?_
      refine pn_then ?_
      refine wc_seq ?_
      refine wc_region ?_   -- region 5
      refine wl_det rfl rfl (det_field rfl fd99_3 rfl) rfl ?_
      refine wl_det rfl rfl (det_load rfl m0 (by rfl) na3 us3) rfl ?_
      refine wl_det rfl rfl (det_leq rfl rfl) rfl ?_
      refine wl_det rfl rfl (det_move rfl) rfl ?_
      refine wl_way (decide (1 ≤ a0.Amount)) ((decide (1 ≤ a0.Amount)) && (decide (a0.Amount ≤ 68719476736))) 4 46 (fun hg => ?_) (fun hg => ?_) ?_
      · have hg5_7 := hg
        refine wl_on rfl rfl rfl rfl hg5_7 ?_
        refine wl_det rfl rfl (det_field rfl fd99_3 rfl) rfl ?_
        refine wl_on rfl rfl rfl rfl hg5_7 ?_
        refine wl_det rfl rfl (det_load rfl m0 (by rfl) na3 us3) rfl ?_
        refine wl_on rfl rfl rfl rfl hg5_7 ?_
        refine wl_det rfl rfl (det_leq rfl rfl) rfl ?_
        refine wl_det rfl rfl (det_and_on rfl rfl rfl hg5_7) rfl ?_
        exact wl_nil (pn_qnE (ext_cons rfl (ext_skip rfl (ext_skip rfl (ext_skip rfl (ext_skip rfl ext_refl))))) (fun _ h => h))
      · have hg5_7a := hg
        refine wl_off rfl rfl rfl rfl rfl hg5_7a rfl ?_
        refine wl_off rfl rfl rfl rfl rfl hg5_7a rfl ?_
        refine wl_off rfl rfl rfl rfl rfl hg5_7a rfl ?_
        refine wl_det rfl rfl (det_and_off (q := (decide (a0.Amount ≤ 68719476736))) rfl rfl rfl hg5_7a) rfl ?_
        exact wl_nil (pn_qnE (ext_cons rfl (ext_skip rfl (ext_skip rfl (ext_skip rfl (ext_skip rfl ext_refl))))) (fun _ h => h))
      refine wl_det rfl rfl (det_move rfl) rfl ?_
      refine wl_way ((decide (1 ≤ a0.Amount)) && (decide (a0.Amount ≤ 68719476736))) (((decide (1 ≤ a0.Amount)) && (decide (a0.Amount ≤ 68719476736))) && (decide (0 ≤ a0.Paid))) 4 51 (fun hg => ?_) (fun hg => ?_) ?_
      · have hg5_12 := hg
        refine wl_on rfl rfl rfl rfl hg5_12 ?_
        refine wl_det rfl rfl (det_field rfl fd99_4 rfl) rfl ?_
        refine wl_on rfl rfl rfl rfl hg5_12 ?_
        refine wl_det rfl rfl (det_load rfl m0 (by rfl) na3 us3) rfl ?_
        refine wl_on rfl rfl rfl rfl hg5_12 ?_
        refine wl_det rfl rfl (det_leq rfl rfl) rfl ?_
        refine wl_det rfl rfl (det_and_on rfl rfl rfl hg5_12) rfl ?_
        exact wl_nil (pn_qnE (ext_cons rfl (ext_skip rfl (ext_skip rfl (ext_skip rfl (ext_skip rfl ext_refl))))) (fun _ h => h))
      · have hg5_12a := hg
        refine wl_off rfl rfl rfl rfl rfl hg5_12a rfl ?_
        refine wl_off rfl rfl rfl rfl rfl hg5_12a rfl ?_
        refine wl_off rfl rfl rfl rfl rfl hg5_12a rfl ?_
        refine wl_det rfl rfl (det_and_off (q := (decide (0 ≤ a0.Paid))) rfl rfl rfl hg5_12a) rfl ?_
        exact wl_nil (pn_qnE (ext_cons rfl (ext_skip rfl (ext_skip rfl (ext_skip rfl (ext_skip rfl ext_refl))))) (fun _ h => h))
      refine wl_det rfl rfl (det_move rfl) rfl ?_
      refine wl_way (((decide (1 ≤ a0.Amount)) && (decide (a0.Amount ≤ 68719476736))) && (decide (0 ≤ a0.Paid))) ((((decide (1 ≤ a0.Amount)) && (decide (a0.Amount ≤ 68719476736))) && (decide (0 ≤ a0.Paid))) && (decide (a0.Paid ≤ a0.Amount))) 6 58 (fun hg => ?_) (fun hg => ?_) ?_
      · have hg5_19 := hg
        refine wl_on rfl rfl rfl rfl hg5_19 ?_
        refine wl_det rfl rfl (det_field rfl fd99_4 rfl) rfl ?_
        refine wl_on rfl rfl rfl rfl hg5_19 ?_
        refine wl_det rfl rfl (det_load rfl m0 (by rfl) na3 us3) rfl ?_
        refine wl_on rfl rfl rfl rfl hg5_19 ?_
        refine wl_det rfl rfl (det_field rfl fd99_3 rfl) rfl ?_
        refine wl_on rfl rfl rfl rfl hg5_19 ?_
        refine wl_det rfl rfl (det_load rfl m0 (by rfl) na3 us3) rfl ?_
        refine wl_on rfl rfl rfl rfl hg5_19 ?_
        refine wl_det rfl rfl (det_leq rfl rfl) rfl ?_
        refine wl_det rfl rfl (det_and_on rfl rfl rfl hg5_19) rfl ?_
        exact wl_nil (pn_qnE (ext_cons rfl (ext_skip rfl (ext_skip rfl (ext_skip rfl (ext_skip rfl (ext_skip rfl (ext_skip rfl ext_refl))))))) (fun _ h => h))
      · have hg5_19a := hg
        refine wl_off rfl rfl rfl rfl rfl hg5_19a rfl ?_
        refine wl_off rfl rfl rfl rfl rfl hg5_19a rfl ?_
        refine wl_off rfl rfl rfl rfl rfl hg5_19a rfl ?_
        refine wl_off rfl rfl rfl rfl rfl hg5_19a rfl ?_
        refine wl_off rfl rfl rfl rfl rfl hg5_19a rfl ?_
        refine wl_det rfl rfl (det_and_off (q := (decide (a0.Paid ≤ a0.Amount))) rfl rfl rfl hg5_19a) rfl ?_
        exact wl_nil (pn_qnE (ext_cons rfl (ext_skip rfl (ext_skip rfl (ext_skip rfl (ext_skip rfl (ext_skip rfl (ext_skip rfl ext_refl))))))) (fun _ h => h))
      refine wl_det rfl rfl (det_assign rfl) rfl ?_
      refine wl_nil ?_
      refine pn_then ?_
      refine wc_ret ?_
      replace h := Option.some.inj h
      subst h
      refine pn_ret (vs := [_]) rfl ⟨rfl, trivial⟩ ⟨rfl, rfl, rfl⟩ (fun _ h => h.to trivial trivial)
def Q_cession_compare (r : Int) : Value → List Ent → List Fact → Prop := fun v θ κ => v = .int .i64 r ∧ θ = [] ∧ κ = []
theorem plains_cession_compare {r : Int} : ∀ v θ κ, Q_cession_compare r v θ κ → Plains θ := by
  rintro _ _ _ ⟨rfl, rfl, rfl⟩
  exact trivial
set_option maxHeartbeats 4000000 in
set_option maxRecDepth 100000 in
theorem W_cession_compare (a0 : GShare) (a1 : GShare) (r : Int) (h : cession_compare a0 a1 = some r) : Spec Try.prog 74 [.agg #[.int .i64 a0.Loss, .int .i64 a0.Treaty, .int .i64 a0.Party, .int .i64 a0.Amount, .int .i64 a0.Paid], .agg #[.int .i64 a1.Loss, .int .i64 a1.Treaty, .int .i64 a1.Party, .int .i64 a1.Amount, .int .i64 a1.Paid]] [] [] (Q_cession_compare r) := by
  unfold cession_compare at h
  refine spec_of (σ := [(0, _), (1, _)]) Try.func74 rfl rfl rfl rfl ?_
  intro C
  refine wc_seq ?_
  refine wc_region ?_   -- region 0
  refine wl_act (act_box (cs := [_, _, _, _, _]) rfl rfl) rfl rfl rfl ?_
  rintro _ _ _ ⟨b0_0, rfl, rfl, rfl⟩
  refine wl_act (act_box (cs := [_, _, _, _, _]) rfl rfl) rfl rfl rfl ?_
  rintro _ _ _ ⟨b0_1, rfl, rfl, rfl⟩
  refine wl_det rfl rfl (det_assign rfl) rfl ?_
  refine wl_nil ?_
  refine pn_then ?_
  refine wc_seq ?_
  refine dx_region 17 [[], [0], [], [2], [0, 1, 2, 3], [], [5], [], [7], [0, 1, 2, 3, 4, 5, 6, 7, 8], [], [10], [], [12], [0, 1, 2, 3, 4, 5, 6, 7, 8, 9, 10, 11, 12, 13], [0, 1, 2, 3, 4, 5, 6, 7, 8, 9, 10, 11, 12, 13, 14], [0, 1, 2, 3, 4, 5, 6, 7, 8, 9, 10, 11, 12, 13, 14, 15], [0, 1, 2, 3, 4, 5, 6, 7, 8, 9, 10, 11, 12, 13, 14, 15, 16]] mixed (ord := (.det 0 (.det 1 (.det 2 (.det 3 (.det 5 (.det 6 (.det 7 (.det 8 (.det 10 (.det 11 (.det 12 (.det 13 (.alt 4 (.alt 9 (.alt 14 (.alt 15 (.alt 16 .done .dead) .dead) .dead) .dead) .dead)))))))))))))) (by kernel_rfl) ?_   -- region 1
  refine hx_det rfl rfl rfl nofun (det_field rfl fd99_0 rfl) rfl ?_
  refine hx_det rfl rfl rfl nofun (det_load rfl (ms m0) (by rfl) na3 us3) rfl ?_
  refine hx_det rfl rfl rfl nofun (det_field rfl fd99_0 rfl) rfl ?_
  refine hx_det rfl rfl rfl nofun (det_load rfl m0 (by rfl) na3 us3) rfl ?_
  refine hx_det rfl rfl rfl nofun (det_field rfl fd99_1 rfl) rfl ?_
  refine hx_det rfl rfl rfl nofun (det_load rfl (ms m0) (by rfl) na3 us3) rfl ?_
  refine hx_det rfl rfl rfl nofun (det_field rfl fd99_1 rfl) rfl ?_
  refine hx_det rfl rfl rfl nofun (det_load rfl m0 (by rfl) na3 us3) rfl ?_
  refine hx_det rfl rfl rfl nofun (det_field rfl fd99_2 rfl) rfl ?_
  refine hx_det rfl rfl rfl nofun (det_load rfl (ms m0) (by rfl) na3 us3) rfl ?_
  refine hx_det rfl rfl rfl nofun (det_field rfl fd99_2 rfl) rfl ?_
  refine hx_det rfl rfl rfl nofun (det_load rfl m0 (by rfl) na3 us3) rfl ?_
  obtain ⟨r1_4, hr1_4, h⟩ := bind_some h
  refine hx_act rfl rfl rfl (act_callS (cap := []) (W_cmp_Compare_int a0.Loss a1.Loss r1_4 hr1_4) rfl rfl rfl bd70 rfl trivial) rfl (by rintro _ _ _ ⟨_, _, _, rfl, rfl⟩; first | exact ⟨_, _, rfl, rfl⟩ | exact ⟨_, [], rfl, rfl⟩) ?_
  rintro _ _ _ ⟨_, _, ⟨rfl, rfl, rfl⟩, rfl, rfl⟩
  dsimp only [List.nil_append, List.cons_append]
  obtain ⟨r1_9, hr1_9, h⟩ := bind_some h
  refine hx_act rfl rfl rfl (act_callS (cap := []) (W_cmp_Compare_int a0.Treaty a1.Treaty r1_9 hr1_9) rfl rfl rfl bd70 rfl trivial) rfl (by rintro _ _ _ ⟨_, _, _, rfl, rfl⟩; first | exact ⟨_, _, rfl, rfl⟩ | exact ⟨_, [], rfl, rfl⟩) ?_
  rintro _ _ _ ⟨_, _, ⟨rfl, rfl, rfl⟩, rfl, rfl⟩
  dsimp only [List.nil_append, List.cons_append]
  obtain ⟨r1_14, hr1_14, h⟩ := bind_some h
  refine hx_act rfl rfl rfl (act_callS (cap := []) (W_cmp_Compare_int a0.Party a1.Party r1_14 hr1_14) rfl rfl rfl bd70 rfl trivial) rfl (by rintro _ _ _ ⟨_, _, _, rfl, rfl⟩; first | exact ⟨_, _, rfl, rfl⟩ | exact ⟨_, [], rfl, rfl⟩) ?_
  rintro _ _ _ ⟨_, _, ⟨rfl, rfl, rfl⟩, rfl, rfl⟩
  dsimp only [List.nil_append, List.cons_append]
  refine hx_act rfl rfl rfl (act_litS (lInt .i64) (vs := [_, _, _]) (cs := [_, _, _]) [r1_4, r1_9, r1_14] un22 in3 rfl rfl rfl rfl rfl ⟨rfl, rfl, rfl, trivial⟩ (by rfl) rfl (litR_flat rfl)) rfl (by rintro _ _ _ ⟨A1_15, rfl, rfl, rfl⟩; first | exact ⟨_ :: [], [], rfl, rfl⟩ | exact ⟨[], [_], rfl, rfl⟩ | exact ⟨[], [], rfl, rfl⟩) ?_
  rintro _ _ _ ⟨A1_15, rfl, rfl, rfl⟩
  obtain ⟨r1_16, hr1_16, h⟩ := bind_some h
  refine hx_act rfl rfl rfl (act_callL (cap := []) [eS (lInt .i64) 3 A1_15 3 3 [r1_4, r1_9, r1_14]] (W_cmp_Or_int [r1_4, r1_9, r1_14] A1_15 3 3 r1_16 hr1_16) plains_cmp_Or_int rfl rfl rfl bd69 rfl ⟨m0, trivial⟩ ⟨.inr ⟨_, m0, lent_eS⟩, trivial⟩) rfl (by rintro _ _ _ ⟨_, _, _, rfl, rfl⟩; first | exact ⟨_, _, rfl, rfl⟩ | exact ⟨_, [], rfl, rfl⟩) ?_
  rintro _ _ _ ⟨_, _, ⟨rfl, rfl, rfl⟩, rfl, rfl⟩
  dsimp only [List.nil_append, List.cons_append]
  refine hx_end ?_
  refine wl_det rfl rfl (det_assign rfl) rfl ?_
  refine wl_nil ?_
  refine pn_then ?_
  refine wc_ret ?_
  replace h := Option.some.inj h
  subst h
  refine pn_ret (vs := [_]) rfl ⟨rfl, trivial⟩ ⟨rfl, rfl, rfl⟩ (fun _ h => h.to trivial trivial)
def Q_cession_Validate (r : Int) : Value → List Ent → List Fact → Prop := fun v θ κ => v = .int .i64 r ∧ θ = [] ∧ κ = []
theorem plains_cession_Validate {r : Int} : ∀ v θ κ, Q_cession_Validate r v θ κ → Plains θ := by
  rintro _ _ _ ⟨rfl, rfl, rfl⟩
  exact trivial
set_option maxHeartbeats 4000000 in
set_option maxRecDepth 100000 in
theorem W_cession_Validate (a0 : (List GShare)) (A0 : Option Addr) (n0 : Nat) (c0 : Nat) (r : Int) (h : cession_Validate a0 = some r) : Spec Try.prog 63 [.slice A0 n0 c0] [] [fV (lSlice lGShare) (.slice A0 n0 c0) a0] (Q_cession_Validate r) := by
  unfold cession_Validate at h
  refine spec_of (σ := [(0, _)]) Try.func63 rfl rfl rfl rfl ?_
  intro C
  refine wc_know (fun _ h => h.lenF m0) (fun e => ?_)
  subst e
  refine wc_seq ?_
  refine wc_region ?_   -- region 0
  refine wl_det rfl rfl (det_assign rfl) rfl ?_
  refine wl_nil ?_
  refine pn_then ?_
  refine wc_seq ?_
  refine wc_seq ?_
  refine wc_region ?_   -- region 1
  refine wl_det rfl rfl (det_move rfl) rfl ?_
  refine wl_det rfl rfl (det_len rfl un68) rfl ?_
  refine wl_det rfl rfl (det_gtr rfl rfl) rfl ?_
  refine wl_nil ?_
  refine pn_then ?_
  refine wc_cond rfl (fun cd5 => ?_) (fun cd5 => ?_)
  · have h := ifT h cd5
    refine wc_seq ?_
    refine wc_region ?_   -- region 2
    refine wl_det rfl rfl (det_assign rfl) rfl ?_
    refine wl_nil ?_
    refine pn_then ?_
    refine wc_ret ?_
    refine pr_then ?_
    replace h := Option.some.inj h
    subst h
    refine pn_ret (vs := [_]) rfl ⟨rfl, trivial⟩ ⟨rfl, rfl, rfl⟩ (fun _ h => h.to trivial trivial)
  · have h := ifF h cd5
    refine wc_skip ?_
    refine pn_then ?_
    obtain ⟨q8, h, ho8⟩ := bind_some h
    refine wc_meetG (G := Unit × Unit) (fun (s8, _) => (.inl s8) = q8) (fun (_, _) => []) (fun (_, _) => []) (fun (_, _) => []) ?_ ?_
    · refine wc_seq ?_
      refine wc_region ?_   -- region 3
      refine wl_det rfl rfl (det_move rfl) rfl ?_
      refine wl_det rfl rfl (det_len rfl un68) rfl ?_
      refine wl_det rfl rfl (det_move rfl) rfl ?_
      refine wl_nil ?_
      refine pn_then ?_
      refine wc_block ?_
      obtain ⟨o12, h, ho12⟩ := bind_some h
      obtain ⟨k12, hk12⟩ := loopV_some.1 h
      refine wc_loop (G := Nat × Int × Unit) (fun g => IterN (cession_Validate_l12 a0) g.1 g.2.1 o12) (fun g => g.1) (fun (_, s12, _) => [(0, .slice A0 a0.length c0), (8, .slice A0 a0.length c0), (9, .int .i64 (a0.length : Int)), (10, .int .i64 s12)]) (fun (_, _, _) => []) (fun (_, _, _) => [fV (lSlice lGShare) (.slice A0 a0.length c0) a0]) (k12, 0, ()) hk12 ⟨rfl, rfl, rfl, rfl, trivial⟩ (fun _ h => h.to trivial ⟨m0, trivial⟩) ?_
      rintro ⟨k12, s12, _⟩ hI
      obtain ⟨k12, rfl, q12, h, g12⟩ := IterN.pos hI
      dsimp only at h ⊢
      unfold cession_Validate_l12 at h
      refine wc_seq ?_
      refine wc_region ?_   -- region 4
      refine wl_det rfl rfl (det_lss rfl rfl) rfl ?_
      refine wl_nil ?_
      refine pn_then ?_
      refine wc_seq ?_
      refine wc_cond rfl (fun cd16 => ?_) (fun cd16 => ?_)
      · have h := ifT h cd16
        refine wc_skip ?_
        refine pn_then ?_
        refine wc_seq ?_
        refine wc_block ?_
        refine wc_seq ?_
        refine wc_region ?_   -- region 5
        refine wl_det rfl rfl (det_move rfl) rfl ?_
        obtain ⟨k5_1, h⟩ := chk_some h
        refine wl_st (fun _ h => h.openF m0 k5_1) ?_
        refine wl_det rfl rfl (det_indexP rfl rfl (ms m0) k5_1 m0 un68 sz99) rfl ?_
        refine wl_det rfl rfl (det_loadP (off := 0) rfl m0 (by rfl) (by rfl) (loaded_n (cells := [_, _, _, _, _]) ag99 sz99)) rfl ?_
        refine wl_act (act_alloc (cs := [_, _, _, _, _]) zr99 rfl) rfl rfl rfl ?_
        rintro _ _ _ ⟨b5_3, rfl, rfl, rfl⟩
        refine wl_det rfl rfl (det_assign rfl) rfl ?_
        refine wl_act0 (act_store (cells := [_, _, _, _, _]) (cs' := [_, _, _, _, _]) rfl rfl rfl s0 (by rfl) (of_decide_eq_true rfl) sz99 ⟨rfl, rfl, rfl, rfl, rfl, trivial⟩) rfl rfl ?_
        rintro _ _ _ ⟨rfl, rfl⟩
        refine wl_nil ?_
        refine pn_then ?_
        refine wc_seq ?_
        refine wc_seq ?_
        refine wc_region ?_   -- region 6
        refine wl_det rfl rfl (det_loadN (cells := [_, _, _, _, _]) rfl m0 (by rfl) ag99 sz99) rfl ?_
        obtain ⟨r6_1, hr6_1, h⟩ := bind_some h
        refine wl_act (act_callS (cap := []) (W_cession_valid (ix a0 s12) r6_1 hr6_1) rfl rfl rfl bd73 rfl trivial) rfl rfl rfl ?_
        rintro _ _ _ ⟨_, _, ⟨rfl, rfl, rfl⟩, rfl, rfl⟩
        dsimp only [List.nil_append, List.cons_append]
        refine wl_det rfl rfl (det_not rfl) rfl ?_
        refine wl_nil ?_
        refine pn_then ?_
        refine wc_cond rfl (fun cd25 => ?_) (fun cd25 => ?_)
        · have h := ifT h cd25
          refine wc_seq ?_
          refine wc_region ?_   -- region 7
          refine wl_det rfl rfl (det_assign rfl) rfl ?_
          refine wl_nil ?_
          refine pn_then ?_
          refine wc_ret ?_
          refine pr_then ?_
          refine pr_block ?_
          refine pr_then ?_
          refine pr_then ?_
          refine pr_block ?_
          refine pr_then ?_
          replace h := Option.some.inj h
          subst h
          replace g12 := nextR g12
          subst g12
          have h := (elimL ho12)
          replace h := Option.some.inj h
          subst h
          have h := (elimR ho8)
          replace h := Option.some.inj h
          subst h
          refine pn_ret (vs := [_]) rfl ⟨rfl, trivial⟩ ⟨rfl, rfl, rfl⟩ (fun _ h => h.to trivial trivial)
        · have h := ifF h cd25
          refine wc_skip ?_
          refine pn_then ?_
          obtain ⟨q28, h, ho28⟩ := bind_some h
          refine wc_meetG (G := Bool × Unit) (fun (s28, _) => s28 = q28) (fun (s28, _) => [(0, .slice A0 a0.length c0), (8, .slice A0 a0.length c0), (9, .int .i64 (a0.length : Int)), (10, .int .i64 s12), (29, .bool s28)]) (fun (_, _) => []) (fun (_, _) => [fV (lSlice lGShare) (.slice A0 a0.length c0) a0]) ?_ ?_
          · rcases Bool.eq_false_or_eq_true (decide (0 < s12)) with hg8_g20 | hg8_g20
            · have h := ifT h hg8_g20
              obtain ⟨k8_p1, h⟩ := chk_some h
              refine wc_st (fun _ h => h.openF (ms m0) k8_p1) ?_
              refine dx_region 12 [[], [0], [0, 1], [0, 1, 2], [0, 1, 2], [0, 1, 2], [0, 1, 2, 5], [0, 1, 2, 4, 5, 6], [0, 1, 2, 4, 5, 6, 7], [0, 1, 2, 3, 4, 5, 6, 7, 8], [0, 1, 2, 3, 4, 5, 6, 7, 8, 9], [0, 1, 2, 3, 4, 5, 6, 7, 8, 9, 10]] mixed (ord := (.det 0 (.det 1 (.det 2 (.det 3 (.det 4 (.det 5 (.det 6 (.det 7 (.det 8 (.alt 9 (.det 10 (.det 11 .done)) .dead))))))))))) (by kernel_rfl) ?_   -- region 8
              refine hx_det rfl rfl rfl nofun (det_move rfl) rfl ?_
              refine hx_det rfl rfl rfl nofun (det_gtr rfl rfl) rfl ?_
              refine hx_det rfl rfl rfl nofun (det_move rfl) rfl ?_
              refine hx_on rfl rfl rfl rfl rfl hg8_g20 nofun (det_loadN (cells := [_, _, _, _, _]) rfl m0 (by rfl) ag99 sz99) rfl ?_
              refine hx_on rfl rfl rfl rfl rfl hg8_g20 nofun (det_move rfl) rfl ?_
              refine hx_on rfl rfl rfl rfl rfl hg8_g20 nofun (det_move rfl) rfl ?_
              refine hx_on rfl rfl rfl rfl rfl hg8_g20 nofun (det_sub rfl rfl) rfl ?_
              refine hx_on rfl rfl rfl rfl rfl hg8_g20 nofun (det_indexP rfl rfl (ms (ms m0)) k8_p1 m0 un68 sz99) rfl ?_
              refine hx_on rfl rfl rfl rfl rfl hg8_g20 nofun (det_loadP (off := 0) rfl m0 (by rfl) (by rfl) (loaded_n (cells := [_, _, _, _, _]) ag99 sz99)) rfl ?_
              obtain ⟨r8_9, hr8_9, h⟩ := bind_some h
              refine hx_actG rfl rfl rfl rfl rfl hg8_g20 (act_callS (cap := []) (W_cession_compare (ix a0 s12) (ix a0 (w64 (s12 - 1))) r8_9 hr8_9) rfl rfl rfl bd74 rfl trivial) rfl (by rintro _ _ _ ⟨_, _, _, rfl, rfl⟩; first | exact ⟨_, _, rfl, rfl⟩ | exact ⟨_, [], rfl, rfl⟩) ?_
              rintro _ _ _ ⟨_, _, ⟨rfl, rfl, rfl⟩, rfl, rfl⟩
              dsimp only [List.nil_append, List.cons_append]
              refine hx_on rfl rfl rfl rfl rfl hg8_g20 nofun (det_leq rfl rfl) rfl ?_
              refine hx_det rfl rfl rfl nofun (det_pick_on rfl hg8_g20 rfl rfl) rfl ?_
              refine hx_end ?_
              refine wl_nil ?_
              replace h := Option.some.inj h
              subst h
              exact pn_meetG ((decide (r8_9 ≤ 0)), ()) rfl ⟨rfl, rfl, rfl, rfl, rfl, trivial⟩ (fun _ h => h.to trivial ⟨(ms (ms m0)), trivial⟩)
            · have h := ifF h hg8_g20
              refine dx_region 12 [[], [0], [0, 1], [0, 1, 2], [0, 1, 2], [0, 1, 2], [0, 1, 2, 5], [0, 1, 2, 4, 5, 6], [0, 1, 2, 4, 5, 6, 7], [0, 1, 2, 3, 4, 5, 6, 7, 8], [0, 1, 2, 3, 4, 5, 6, 7, 8, 9], [0, 1, 2, 3, 4, 5, 6, 7, 8, 9, 10]] mixed (ord := (.det 0 (.det 1 (.det 2 (.det 3 (.det 4 (.det 5 (.det 6 (.det 7 (.det 8 (.det 9 (.det 10 (.det 11 .done))))))))))))) (by kernel_rfl) ?_   -- region 8
              refine hx_det rfl rfl rfl nofun (det_move rfl) rfl ?_
              refine hx_det rfl rfl rfl nofun (det_gtr rfl rfl) rfl ?_
              refine hx_det rfl rfl rfl nofun (det_move rfl) rfl ?_
              refine hx_off rfl rfl rfl rfl rfl hg8_g20 rfl ?_
              refine hx_off rfl rfl rfl rfl rfl hg8_g20 rfl ?_
              refine hx_off rfl rfl rfl rfl rfl hg8_g20 rfl ?_
              refine hx_off rfl rfl rfl rfl rfl hg8_g20 rfl ?_
              refine hx_off rfl rfl rfl rfl rfl hg8_g20 rfl ?_
              refine hx_off rfl rfl rfl rfl rfl hg8_g20 rfl ?_
              refine hx_off rfl rfl rfl rfl rfl hg8_g20 rfl ?_
              refine hx_off rfl rfl rfl rfl rfl hg8_g20 rfl ?_
              refine hx_det rfl rfl rfl nofun (det_pick_off rfl hg8_g20 rfl rfl) rfl ?_
              refine hx_end ?_
              refine wl_nil ?_
              replace h := Option.some.inj h
              subst h
              exact pn_meetG (false, ()) rfl ⟨rfl, rfl, rfl, rfl, rfl, trivial⟩ (fun _ h => h.to trivial ⟨(ms m0), trivial⟩)
          rintro ⟨s28, _⟩ e28
          dsimp only at e28 ⊢
          subst e28
          have h := ho28
          refine wc_cond rfl (fun cd30 => ?_) (fun cd30 => ?_)
          · have h := ifT h cd30
            refine wc_seq ?_
            refine wc_region ?_   -- region 9
            refine wl_det rfl rfl (det_assign rfl) rfl ?_
            refine wl_nil ?_
            refine pn_then ?_
            refine wc_ret ?_
            refine pr_block ?_
            refine pr_then ?_
            refine pr_then ?_
            refine pr_block ?_
            refine pr_then ?_
            replace h := Option.some.inj h
            subst h
            replace g12 := nextR g12
            subst g12
            have h := (elimL ho12)
            replace h := Option.some.inj h
            subst h
            have h := (elimR ho8)
            replace h := Option.some.inj h
            subst h
            refine pn_ret (vs := [_]) rfl ⟨rfl, trivial⟩ ⟨rfl, rfl, rfl⟩ (fun _ h => h.to trivial trivial)
          · have h := ifF h cd30
            refine wc_skip ?_
            refine pn_block ?_
            refine pn_then ?_
            refine wc_region ?_   -- region 10
            refine wl_det rfl rfl (det_add rfl rfl) rfl ?_
            refine wl_det rfl rfl (det_move rfl) rfl ?_
            refine wl_nil ?_
            replace h := Option.some.inj h
            subst h
            exact pn_some (k12, (w64 (s12 + 1)), ()) ⟨nextL g12, Nat.lt_succ_self _⟩ ⟨rfl, rfl, rfl, rfl, trivial⟩ (fun _ h => h.to trivial ⟨m0, trivial⟩)
      · have h := ifF h cd16
        refine wc_exit ?_
        refine px_then ?_
        refine px_then ?_
        refine px_block ?_
        replace h := Option.some.inj h
        subst h
        replace g12 := nextR g12
        subst g12
        have h := (elimR ho12)
        replace h := Option.some.inj h
        subst h
        exact pn_meetG ((), ()) rfl trivial (fun _ h => h.to trivial trivial)
    rintro ⟨s8, _⟩ e8
    dsimp only at e8 ⊢
    subst e8
    have h := (elimL ho8)
    refine wc_seq ?_
    refine wc_region ?_   -- region 11
    refine wl_det rfl rfl (det_assign rfl) rfl ?_
    refine wl_nil ?_
    refine pn_then ?_
    refine wc_ret ?_
    replace h := Option.some.inj h
    subst h
    refine pn_ret (vs := [_]) rfl ⟨rfl, trivial⟩ ⟨rfl, rfl, rfl⟩ (fun _ h => h.to trivial trivial)
def Q_ledger_Entries (r : (List GEntry) × Int) : Value → List Ent → List Fact → Prop := fun v θ κ => ∃ (pA0 : Option Addr), ∃ (pn0 : Nat), ∃ (pc0 : Nat), v = .tuple #[.slice pA0 pn0 pc0, .int .i64 r.2] ∧ θ = [eS lGEntry 41 pA0 pn0 pc0 r.1] ∧ κ = []
theorem plains_ledger_Entries {r : (List GEntry) × Int} : ∀ v θ κ, Q_ledger_Entries r v θ κ → Plains θ := by
  rintro _ _ _ ⟨_, _, _, rfl, rfl, rfl⟩
  exact ⟨plain_eS, trivial⟩
set_option maxHeartbeats 4000000 in
set_option maxRecDepth 100000 in
theorem W_ledger_Entries (a0 : (List GShare)) (A0 : Option Addr) (n0 : Nat) (c0 : Nat) (r : (List GEntry) × Int) (h : ledger_Entries a0 = some r) : Spec Try.prog 43 [.slice A0 n0 c0] [] [fV (lSlice lGShare) (.slice A0 n0 c0) a0] (Q_ledger_Entries r) := by
  unfold ledger_Entries at h
  refine spec_of (σ := [(0, _)]) Try.func43 rfl rfl rfl rfl ?_
  intro C
  refine wc_know (fun _ h => h.lenF m0) (fun e => ?_)
  subst e
  refine wc_seq ?_
  refine wc_region ?_   -- region 0
  refine wl_det rfl rfl (det_assign rfl) rfl ?_
  refine wl_det rfl rfl (det_assign rfl) rfl ?_
  refine wl_nil ?_
  refine pn_then ?_
  refine wc_seq ?_
  refine wc_seq ?_
  refine wc_region ?_   -- region 1
  refine wl_det rfl rfl (det_move rfl) rfl ?_
  obtain ⟨r1_1, hr1_1, h⟩ := bind_some h
  refine wl_act (act_callS (cap := []) (W_cession_Validate a0 A0 a0.length c0 r1_1 hr1_1) rfl rfl rfl bd63 rfl ⟨m0, trivial⟩) rfl rfl rfl ?_
  rintro _ _ _ ⟨_, _, ⟨rfl, rfl, rfl⟩, rfl, rfl⟩
  dsimp only [List.nil_append, List.cons_append]
  refine wl_det rfl rfl (det_assign rfl) rfl ?_
  refine wl_nil ?_
  refine pn_then ?_
  refine wc_seq ?_
  refine wc_region ?_   -- region 2
  refine wl_det rfl rfl (det_move rfl) rfl ?_
  refine wl_det rfl rfl (det_neq rfl rfl) rfl ?_
  refine wl_nil ?_
  refine pn_then ?_
  refine wc_cond rfl (fun cd7 => ?_) (fun cd7 => ?_)
  · have h := ifT h cd7
    refine wc_seq ?_
    refine wc_region ?_   -- region 3
    refine wl_det rfl rfl (det_move rfl) rfl ?_
    refine wl_det rfl rfl (det_assign rfl) rfl ?_
    refine wl_det rfl rfl (det_assign rfl) rfl ?_
    refine wl_nil ?_
    refine pn_then ?_
    refine wc_ret ?_
    refine pr_then ?_
    refine pn_st (fun _ h => h.zeroS lGEntry 41 none) ?_
    replace h := Option.some.inj h
    subst h
    refine pn_ret (vs := [_, _]) rfl ⟨rfl, rfl, trivial⟩ ⟨none, 0, 0, rfl, rfl, rfl⟩ (fun _ h => h.to ⟨_, r0, trivial⟩ trivial)
  · have h := ifF h cd7
    refine wc_skip ?_
    refine pn_then ?_
    refine wc_seq ?_
    refine wc_region ?_   -- region 4
    refine wl_det rfl rfl (det_move rfl) rfl ?_
    refine wl_det rfl rfl (det_len rfl un68) rfl ?_
    refine wl_det rfl rfl (det_mul rfl rfl) rfl ?_
    obtain ⟨k4_3, h⟩ := chk_some h
    obtain ⟨k4_3a, h⟩ := chk_some h
    refine wl_act (act_makeS (L := lGEntry) (x0 := (GEntry.mk 0 0 0 0 0)) rfl rfl un37 in41 (by refine ⟨rfl, fun _ _ => ?_⟩; first | exact rfl | exact ⟨_, _, _, rfl, rfl, Nat.zero_le _, .inl rfl⟩) rfl rfl rfl k4_3 k4_3a) rfl rfl rfl ?_
    rintro _ _ _ ⟨A4_3, c4_3, rfl, rfl, rfl⟩
    refine wl_det rfl rfl (det_assign rfl) rfl ?_
    refine wl_nil ?_
    refine pn_then ?_
    obtain ⟨q12, h, ho12⟩ := bind_some h
    refine wc_meetG (G := (List GEntry) × Option Addr × Nat × Nat × Unit) (fun (s12, _, _, _, _) => s12 = q12) (fun (_, A12_0, n12_0, c12_0, _) => [(5, .slice A12_0 n12_0 c12_0)]) (fun (s12, A12_0, n12_0, c12_0, _) => [eS lGEntry 41 A12_0 n12_0 c12_0 s12]) (fun (_, _, _, _, _) => []) ?_ ?_
    · refine wc_seq ?_
      refine wc_region ?_   -- region 5
      refine wl_det rfl rfl (det_move rfl) rfl ?_
      refine wl_det rfl rfl (det_len rfl un68) rfl ?_
      refine wl_det rfl rfl (det_move rfl) rfl ?_
      refine wl_nil ?_
      refine pn_then ?_
      refine wc_block ?_
      obtain ⟨k16, hk16⟩ := loopV_some.1 h
      refine wc_loop (G := Nat × ((List GEntry) × Int) × Option Addr × Nat × Nat × Unit) (fun g => IterN (ledger_Entries_l16 a0) g.1 g.2.1 q12) (fun g => g.1) (fun (_, s16, A16_0, n16_0, c16_0, _) => [(5, .slice A16_0 n16_0 c16_0), (18, .slice A0 a0.length c0), (19, .int .i64 (a0.length : Int)), (20, .int .i64 s16.2)]) (fun (_, s16, A16_0, n16_0, c16_0, _) => [eS lGEntry 41 A16_0 n16_0 c16_0 s16.1]) (fun (_, _, _, _, _, _) => [fV (lSlice lGShare) (.slice A0 a0.length c0) a0]) (k16, ((List.replicate (0 : Int).toNat (GEntry.mk 0 0 0 0 0)), 0), A4_3, (List.replicate (0 : Int).toNat (GEntry.mk 0 0 0 0 0)).length, c4_3, ()) hk16 ⟨rfl, rfl, rfl, rfl, trivial⟩ (fun _ h => h.to ⟨_, r0, trivial⟩ ⟨m0, trivial⟩) ?_
      rintro ⟨k16, s16, A16_0, n16_0, c16_0, _⟩ hI
      obtain ⟨k16, rfl, q16, h, g16⟩ := IterN.pos hI
      dsimp only at h ⊢
      unfold ledger_Entries_l16 at h
      refine wc_know (fun _ h => h.lenO m0) (fun e => ?_)
      subst e
      refine wc_seq ?_
      refine wc_region ?_   -- region 6
      refine wl_det rfl rfl (det_lss rfl rfl) rfl ?_
      refine wl_nil ?_
      refine pn_then ?_
      refine wc_seq ?_
      refine wc_cond rfl (fun cd20 => ?_) (fun cd20 => ?_)
      · have h := ifT h cd20
        refine wc_skip ?_
        refine pn_then ?_
        refine wc_seq ?_
        refine wc_block ?_
        refine wc_seq ?_
        refine wc_region ?_   -- region 7
        obtain ⟨k7_0, h⟩ := chk_some h
        refine wl_st (fun _ h => h.openF m0 k7_0) ?_
        refine wl_det rfl rfl (det_indexP rfl rfl (ms m0) k7_0 m0 un68 sz99) rfl ?_
        refine wl_det rfl rfl (det_loadP (off := 0) rfl m0 (by rfl) (by rfl) (loaded_n (cells := [_, _, _, _, _]) ag99 sz99)) rfl ?_
        refine wl_act (act_alloc (cs := [_, _, _, _, _]) zr99 rfl) rfl rfl rfl ?_
        rintro _ _ _ ⟨b7_2, rfl, rfl, rfl⟩
        refine wl_act0 (act_store (cells := [_, _, _, _, _]) (cs' := [_, _, _, _, _]) rfl rfl rfl s0 (by rfl) (of_decide_eq_true rfl) sz99 ⟨rfl, rfl, rfl, rfl, rfl, trivial⟩) rfl rfl ?_
        rintro _ _ _ ⟨rfl, rfl⟩
        refine wl_nil ?_
        refine pn_then ?_
        refine wc_seq ?_
        refine wc_region ?_   -- region 8
        refine wl_det rfl rfl (det_field rfl fd99_1 rfl) rfl ?_
        refine wl_det rfl rfl (det_load rfl m0 (by rfl) na3 us3) rfl ?_
        refine wl_det rfl rfl (det_field rfl fd99_2 rfl) rfl ?_
        refine wl_det rfl rfl (det_load rfl m0 (by rfl) na3 us3) rfl ?_
        refine wl_det rfl rfl (det_field rfl fd99_0 rfl) rfl ?_
        refine wl_det rfl rfl (det_load rfl m0 (by rfl) na3 us3) rfl ?_
        refine wl_det rfl rfl (det_field rfl fd99_4 rfl) rfl ?_
        refine wl_det rfl rfl (det_load rfl m0 (by rfl) na3 us3) rfl ?_
        refine wl_det rfl rfl (det_build (cs := [_, _, _, _, _]) pl41 zr41 rfl rfl (by rfl)) rfl ?_
        refine wl_act (act_alloc (cs := [_, _, _, _, _]) zr41 rfl) rfl rfl rfl ?_
        rintro _ _ _ ⟨b8_9, rfl, rfl, rfl⟩
        refine wl_act0 (act_store (cells := [_, _, _, _, _]) (cs' := [_, _, _, _, _]) rfl rfl rfl s0 (by rfl) (of_decide_eq_true rfl) sz41 ⟨rfl, rfl, rfl, rfl, rfl, trivial⟩) rfl rfl ?_
        rintro _ _ _ ⟨rfl, rfl⟩
        refine wl_nil ?_
        refine pn_then ?_
        refine wc_seq ?_
        refine wc_region ?_   -- region 9
        refine wl_det rfl rfl (det_move rfl) rfl ?_
        refine wl_det rfl rfl (det_loadN (cells := [_, _, _, _, _]) rfl m0 (by rfl) ag41 sz41) rfl ?_
        refine wl_act (act_litS lGEntry (vs := [_]) (cs := [_, _, _, _, _]) [(GEntry.mk 1 (ix a0 s16.2).Treaty (ix a0 s16.2).Party (ix a0 s16.2).Loss (ix a0 s16.2).Paid)] un37 in41 rfl rfl rfl rfl rfl ⟨rfl, trivial⟩ (by rfl) rfl (litR_flat rfl)) rfl rfl rfl ?_
        rintro _ _ _ ⟨A9_2, rfl, rfl, rfl⟩
        obtain ⟨k9_3, h⟩ := chk_some h
        refine wl_act (act_appendS (L := lGEntry) rfl rfl (ss (ss (ss s0))) (src_O m0) un37 in41 rfl rfl rfl k9_3) rfl rfl rfl ?_
        rintro _ _ _ ⟨A9_3, c9_3, rfl, rfl, rfl⟩
        refine wl_det rfl rfl (det_assign rfl) rfl ?_
        refine wl_nil ?_
        refine pn_then ?_
        refine wc_seq ?_
        refine dx_regionZ (Z := St C [_, _, _] [_, _]) 7 [[], [0], [], [2], [0, 1, 2, 3], [], [5], [0, 1, 2, 3, 4, 5, 6], [0, 1, 2, 3, 4, 5, 6, 7]] mixed (ord := (.det 0 (.det 1 (.det 2 (.det 3 (.det 4 (.det 5 (.alt 6 .done .dead)))))))) (by kernel_rfl) (fun _ h => h.to ⟨_, r0, ⟨_, (rs r0), ⟨_, (rs r0), trivial⟩⟩⟩ ⟨m0, ⟨(ms m0), trivial⟩⟩) ?_   -- region 10
        refine hx_det rfl rfl rfl nofun (det_field rfl fd99_3 rfl) rfl ?_
        refine hx_det rfl rfl rfl nofun (det_load rfl (ms m0) (by rfl) na3 us3) rfl ?_
        refine hx_det rfl rfl rfl nofun (det_field rfl fd99_4 rfl) rfl ?_
        refine hx_det rfl rfl rfl nofun (det_load rfl (ms m0) (by rfl) na3 us3) rfl ?_
        refine hx_det rfl rfl rfl nofun (det_sub rfl rfl) rfl ?_
        refine hx_det rfl rfl rfl nofun (det_field rfl fd41_0 rfl) rfl ?_
        refine hx_mut0 rfl rfl rfl (act_store (cells := [_]) (cs' := [_, _, _, _, _]) rfl rfl rfl (ss s0) (by rfl) (of_decide_eq_true rfl) sz3 ⟨rfl, trivial⟩) (by rintro _ _ _ ⟨rfl, rfl⟩ w hs; exact hs.to ⟨_, r0, ⟨_, (rs r0), ⟨_, (rs r0), trivial⟩⟩⟩ ⟨m0, ⟨(ms m0), trivial⟩⟩) ?_
        rintro _ _ _ ⟨rfl, rfl⟩
        refine hx_end ?_
        refine wl_det rfl rfl (det_field rfl fd41_4 rfl) rfl ?_
        refine wl_act0 (act_store (cells := [_]) (cs' := [_, _, _, _, _]) rfl rfl rfl (ss s0) (by rfl) (of_decide_eq_true rfl) sz3 ⟨rfl, trivial⟩) rfl rfl ?_
        rintro _ _ _ ⟨rfl, rfl⟩
        refine wl_nil ?_
        refine pn_then ?_
        refine wc_region ?_   -- region 11
        refine wl_det rfl rfl (det_move rfl) rfl ?_
        refine wl_det rfl rfl (det_loadN (cells := [_, _, _, _, _]) rfl (ms m0) (by rfl) ag41 sz41) rfl ?_
        refine wl_act (act_litS lGEntry (vs := [_]) (cs := [_, _, _, _, _]) [(GEntry.mk 2 (ix a0 s16.2).Treaty (ix a0 s16.2).Party (ix a0 s16.2).Loss (w64 ((ix a0 s16.2).Amount - (ix a0 s16.2).Paid)))] un37 in41 rfl rfl rfl rfl rfl ⟨rfl, trivial⟩ (by rfl) rfl (litR_flat rfl)) rfl rfl rfl ?_
        rintro _ _ _ ⟨A11_2, rfl, rfl, rfl⟩
        obtain ⟨k11_3, h⟩ := chk_some h
        refine wl_act (act_appendS (L := lGEntry) rfl rfl (ss (ss (ss (ss s0)))) (src_O m0) un37 in41 rfl rfl rfl k11_3) rfl rfl rfl ?_
        rintro _ _ _ ⟨A11_3, c11_3, rfl, rfl, rfl⟩
        refine wl_det rfl rfl (det_assign rfl) rfl ?_
        refine wl_nil ?_
        refine pn_block ?_
        refine pn_then ?_
        refine wc_region ?_   -- region 12
        refine wl_det rfl rfl (det_add rfl rfl) rfl ?_
        refine wl_det rfl rfl (det_move rfl) rfl ?_
        refine wl_nil ?_
        replace h := Option.some.inj h
        subst h
        exact pn_some (k16, (((s16.1 ++ [(GEntry.mk 1 (ix a0 s16.2).Treaty (ix a0 s16.2).Party (ix a0 s16.2).Loss (ix a0 s16.2).Paid)]) ++ [(GEntry.mk 2 (ix a0 s16.2).Treaty (ix a0 s16.2).Party (ix a0 s16.2).Loss (w64 ((ix a0 s16.2).Amount - (ix a0 s16.2).Paid)))]), (w64 (s16.2 + 1))), A11_3, ((s16.1 ++ [(GEntry.mk 1 (ix a0 s16.2).Treaty (ix a0 s16.2).Party (ix a0 s16.2).Loss (ix a0 s16.2).Paid)]) ++ [(GEntry.mk 2 (ix a0 s16.2).Treaty (ix a0 s16.2).Party (ix a0 s16.2).Loss (w64 ((ix a0 s16.2).Amount - (ix a0 s16.2).Paid)))]).length, c11_3, ()) ⟨nextL g16, Nat.lt_succ_self _⟩ ⟨rfl, rfl, rfl, rfl, trivial⟩ (fun _ h => h.to ⟨_, (rs (rs (rs (rs r0)))), trivial⟩ ⟨(ms m0), trivial⟩)
      · have h := ifF h cd20
        refine wc_exit ?_
        refine px_then ?_
        refine px_then ?_
        refine px_block ?_
        replace h := Option.some.inj h
        subst h
        replace g16 := nextR g16
        subst g16
        exact pn_meetG (s16.1, A16_0, s16.1.length, c16_0, ()) rfl ⟨rfl, trivial⟩ (fun _ h => h.to ⟨_, r0, trivial⟩ trivial)
    rintro ⟨s12, A12_0, n12_0, c12_0, _⟩ e12
    dsimp only at e12 ⊢
    subst e12
    have h := ho12
    refine wc_know (fun _ h => h.lenO m0) (fun e => ?_)
    subst e
    refine wc_seq ?_
    refine wc_region ?_   -- region 13
    refine wl_det rfl rfl (det_move rfl) rfl ?_
    obtain ⟨r13_1, hr13_1, h⟩ := bind_some h
    refine wl_act (act_callL (cap := []) [eS lGEntry 41 A12_0 s12.length c12_0 s12] (W_ledger_Collect s12 A12_0 s12.length c12_0 r13_1 hr13_1) plains_ledger_Collect rfl rfl rfl bd26 rfl ⟨m0, trivial⟩ ⟨.inr ⟨_, m0, lent_eS⟩, trivial⟩) rfl rfl rfl ?_
    rintro _ _ _ ⟨_, _, ⟨y13_1A0, y13_1n0, y13_1c0, rfl, rfl, rfl⟩, rfl, rfl⟩
    dsimp only [List.nil_append, List.cons_append]
    refine wl_know (fun _ h => h.lenO m0) (fun e => ?_)
    subst e
    refine wl_det rfl rfl (det_extract rfl rfl) rfl ?_
    refine wl_det rfl rfl (det_extract rfl rfl) rfl ?_
    refine wl_det rfl rfl (det_assign rfl) rfl ?_
    refine wl_det rfl rfl (det_assign rfl) rfl ?_
    refine wl_nil ?_
    refine pn_then ?_
    refine wc_ret ?_
    replace h := Option.some.inj h
    subst h
    refine pn_ret (vs := [_, _]) rfl ⟨rfl, rfl, trivial⟩ ⟨y13_1A0, r13_1.1.length, y13_1c0, rfl, rfl, rfl⟩ (fun _ h => h.to ⟨_, r0, trivial⟩ trivial)
def Q_treatyref30_Before (r : Bool) : Value → List Ent → List Fact → Prop := fun v θ κ => v = .bool r ∧ θ = [] ∧ κ = []
theorem plains_treatyref30_Before {r : Bool} : ∀ v θ κ, Q_treatyref30_Before r v θ κ → Plains θ := by
  rintro _ _ _ ⟨rfl, rfl, rfl⟩
  exact trivial
set_option maxHeartbeats 4000000 in
set_option maxRecDepth 100000 in
theorem W_treatyref30_Before (a0 : GShare) (a1 : GShare) (r : Bool) (h : treatyref30_Before a0 a1 = some r) : Spec Try.prog 75 [.agg #[.int .i64 a0.Loss, .int .i64 a0.Treaty, .int .i64 a0.Party, .int .i64 a0.Amount, .int .i64 a0.Paid], .agg #[.int .i64 a1.Loss, .int .i64 a1.Treaty, .int .i64 a1.Party, .int .i64 a1.Amount, .int .i64 a1.Paid]] [] [] (Q_treatyref30_Before r) := by
  unfold treatyref30_Before at h
  refine spec_of (σ := [(0, _), (1, _)]) Try.func75 rfl rfl rfl rfl ?_
  intro C
  refine wc_seq ?_
  refine wc_region ?_   -- region 0
  refine wl_act (act_box (cs := [_, _, _, _, _]) rfl rfl) rfl rfl rfl ?_
  rintro _ _ _ ⟨b0_0, rfl, rfl, rfl⟩
  refine wl_act (act_box (cs := [_, _, _, _, _]) rfl rfl) rfl rfl rfl ?_
  rintro _ _ _ ⟨b0_1, rfl, rfl, rfl⟩
  refine wl_det rfl rfl (det_assign rfl) rfl ?_
  refine wl_nil ?_
  refine pn_then ?_
  refine wc_seq ?_
  refine wc_seq ?_
  refine wc_region ?_   -- region 1
  refine wl_det rfl rfl (det_field rfl fd99_0 rfl) rfl ?_
  refine wl_det rfl rfl (det_load rfl (ms m0) (by rfl) na3 us3) rfl ?_
  refine wl_det rfl rfl (det_field rfl fd99_0 rfl) rfl ?_
  refine wl_det rfl rfl (det_load rfl m0 (by rfl) na3 us3) rfl ?_
  refine wl_det rfl rfl (det_neq rfl rfl) rfl ?_
  refine wl_nil ?_
  refine pn_then ?_
  refine wc_cond rfl (fun cd5 => ?_) (fun cd5 => ?_)
  · have h := ifT h cd5
    refine wc_seq ?_
    refine wc_region ?_   -- region 2
    refine wl_det rfl rfl (det_field rfl fd99_0 rfl) rfl ?_
    refine wl_det rfl rfl (det_load rfl (ms m0) (by rfl) na3 us3) rfl ?_
    refine wl_det rfl rfl (det_field rfl fd99_0 rfl) rfl ?_
    refine wl_det rfl rfl (det_load rfl m0 (by rfl) na3 us3) rfl ?_
    refine wl_det rfl rfl (det_lss rfl rfl) rfl ?_
    refine wl_det rfl rfl (det_assign rfl) rfl ?_
    refine wl_nil ?_
    refine pn_then ?_
    refine wc_ret ?_
    refine pr_then ?_
    replace h := Option.some.inj h
    subst h
    refine pn_ret (vs := [_]) rfl ⟨rfl, trivial⟩ ⟨rfl, rfl, rfl⟩ (fun _ h => h.to trivial trivial)
  · have h := ifF h cd5
    refine wc_skip ?_
    refine pn_then ?_
    refine wc_seq ?_
    refine wc_seq ?_
    refine wc_region ?_   -- region 3
    refine wl_det rfl rfl (det_field rfl fd99_1 rfl) rfl ?_
    refine wl_det rfl rfl (det_load rfl (ms m0) (by rfl) na3 us3) rfl ?_
    refine wl_det rfl rfl (det_field rfl fd99_1 rfl) rfl ?_
    refine wl_det rfl rfl (det_load rfl m0 (by rfl) na3 us3) rfl ?_
    refine wl_det rfl rfl (det_neq rfl rfl) rfl ?_
    refine wl_nil ?_
    refine pn_then ?_
    refine wc_cond rfl (fun cd11 => ?_) (fun cd11 => ?_)
    · have h := ifT h cd11
      refine wc_seq ?_
      refine wc_region ?_   -- region 4
      refine wl_det rfl rfl (det_field rfl fd99_1 rfl) rfl ?_
      refine wl_det rfl rfl (det_load rfl (ms m0) (by rfl) na3 us3) rfl ?_
      refine wl_det rfl rfl (det_field rfl fd99_1 rfl) rfl ?_
      refine wl_det rfl rfl (det_load rfl m0 (by rfl) na3 us3) rfl ?_
      refine wl_det rfl rfl (det_lss rfl rfl) rfl ?_
      refine wl_det rfl rfl (det_assign rfl) rfl ?_
      refine wl_nil ?_
      refine pn_then ?_
      refine wc_ret ?_
      refine pr_then ?_
      replace h := Option.some.inj h
      subst h
      refine pn_ret (vs := [_]) rfl ⟨rfl, trivial⟩ ⟨rfl, rfl, rfl⟩ (fun _ h => h.to trivial trivial)
    · have h := ifF h cd11
      refine wc_skip ?_
      refine pn_then ?_
      refine wc_seq ?_
      refine wc_region ?_   -- region 5
      refine wl_det rfl rfl (det_field rfl fd99_2 rfl) rfl ?_
      refine wl_det rfl rfl (det_load rfl (ms m0) (by rfl) na3 us3) rfl ?_
      refine wl_det rfl rfl (det_field rfl fd99_2 rfl) rfl ?_
      refine wl_det rfl rfl (det_load rfl m0 (by rfl) na3 us3) rfl ?_
      refine wl_det rfl rfl (det_lss rfl rfl) rfl ?_
      refine wl_det rfl rfl (det_assign rfl) rfl ?_
      refine wl_nil ?_
      refine pn_then ?_
      refine wc_ret ?_
      replace h := Option.some.inj h
      subst h
      refine pn_ret (vs := [_]) rfl ⟨rfl, trivial⟩ ⟨rfl, rfl, rfl⟩ (fun _ h => h.to trivial trivial)
def Q_treatyref30_Shares (r : Int) : Value → List Ent → List Fact → Prop := fun v θ κ => v = .int .i64 r ∧ θ = [] ∧ κ = []
theorem plains_treatyref30_Shares {r : Int} : ∀ v θ κ, Q_treatyref30_Shares r v θ κ → Plains θ := by
  rintro _ _ _ ⟨rfl, rfl, rfl⟩
  exact trivial
set_option maxHeartbeats 4000000 in
set_option maxRecDepth 100000 in
theorem W_treatyref30_Shares (a0 : (List GShare)) (A0 : Option Addr) (n0 : Nat) (c0 : Nat) (r : Int) (h : treatyref30_Shares a0 = some r) : Spec Try.prog 64 [.slice A0 n0 c0] [] [fV (lSlice lGShare) (.slice A0 n0 c0) a0] (Q_treatyref30_Shares r) := by
  unfold treatyref30_Shares at h
  refine spec_of (σ := [(0, _)]) Try.func64 rfl rfl rfl rfl ?_
  intro C
  refine wc_know (fun _ h => h.lenF m0) (fun e => ?_)
  subst e
  refine wc_seq ?_
  refine wc_region ?_   -- region 0
  refine wl_det rfl rfl (det_assign rfl) rfl ?_
  refine wl_nil ?_
  refine pn_then ?_
  refine wc_seq ?_
  refine wc_seq ?_
  refine wc_region ?_   -- region 1
  refine wl_det rfl rfl (det_move rfl) rfl ?_
  refine wl_det rfl rfl (det_len rfl un68) rfl ?_
  refine wl_det rfl rfl (det_gtr rfl rfl) rfl ?_
  refine wl_nil ?_
  refine pn_then ?_
  refine wc_cond rfl (fun cd5 => ?_) (fun cd5 => ?_)
  · have h := ifT h cd5
    refine wc_seq ?_
    refine wc_region ?_   -- region 2
    refine wl_det rfl rfl (det_assign rfl) rfl ?_
    refine wl_nil ?_
    refine pn_then ?_
    refine wc_ret ?_
    refine pr_then ?_
    replace h := Option.some.inj h
    subst h
    refine pn_ret (vs := [_]) rfl ⟨rfl, trivial⟩ ⟨rfl, rfl, rfl⟩ (fun _ h => h.to trivial trivial)
  · have h := ifF h cd5
    refine wc_skip ?_
    refine pn_then ?_
    obtain ⟨q8, h, ho8⟩ := bind_some h
    refine wc_meetG (G := Unit × Unit) (fun (s8, _) => (.inl s8) = q8) (fun (_, _) => []) (fun (_, _) => []) (fun (_, _) => []) ?_ ?_
    · refine wc_seq ?_
      refine wc_region ?_   -- region 3
      refine wl_det rfl rfl (det_move rfl) rfl ?_
      refine wl_det rfl rfl (det_len rfl un68) rfl ?_
      refine wl_det rfl rfl (det_move rfl) rfl ?_
      refine wl_nil ?_
      refine pn_then ?_
      refine wc_block ?_
      obtain ⟨o12, h, ho12⟩ := bind_some h
      obtain ⟨k12, hk12⟩ := loopV_some.1 h
      refine wc_loop (G := Nat × Int × Unit) (fun g => IterN (treatyref30_Shares_l12 a0) g.1 g.2.1 o12) (fun g => g.1) (fun (_, s12, _) => [(0, .slice A0 a0.length c0), (8, .slice A0 a0.length c0), (9, .int .i64 (a0.length : Int)), (10, .int .i64 s12)]) (fun (_, _, _) => []) (fun (_, _, _) => [fV (lSlice lGShare) (.slice A0 a0.length c0) a0]) (k12, 0, ()) hk12 ⟨rfl, rfl, rfl, rfl, trivial⟩ (fun _ h => h.to trivial ⟨m0, trivial⟩) ?_
      rintro ⟨k12, s12, _⟩ hI
      obtain ⟨k12, rfl, q12, h, g12⟩ := IterN.pos hI
      dsimp only at h ⊢
      unfold treatyref30_Shares_l12 at h
      refine wc_seq ?_
      refine wc_region ?_   -- region 4
      refine wl_det rfl rfl (det_lss rfl rfl) rfl ?_
      refine wl_nil ?_
      refine pn_then ?_
      refine wc_seq ?_
      refine wc_cond rfl (fun cd16 => ?_) (fun cd16 => ?_)
      · have h := ifT h cd16
        refine wc_skip ?_
        refine pn_then ?_
        refine wc_seq ?_
        refine wc_block ?_
        refine wc_seq ?_
        refine wc_region ?_   -- region 5
        refine wl_det rfl rfl (det_move rfl) rfl ?_
        obtain ⟨k5_1, h⟩ := chk_some h
        refine wl_st (fun _ h => h.openF m0 k5_1) ?_
        refine wl_det rfl rfl (det_indexP rfl rfl (ms m0) k5_1 m0 un68 sz99) rfl ?_
        refine wl_det rfl rfl (det_loadP (off := 0) rfl m0 (by rfl) (by rfl) (loaded_n (cells := [_, _, _, _, _]) ag99 sz99)) rfl ?_
        refine wl_act (act_alloc (cs := [_, _, _, _, _]) zr99 rfl) rfl rfl rfl ?_
        rintro _ _ _ ⟨b5_3, rfl, rfl, rfl⟩
        refine wl_det rfl rfl (det_assign rfl) rfl ?_
        refine wl_act0 (act_store (cells := [_, _, _, _, _]) (cs' := [_, _, _, _, _]) rfl rfl rfl s0 (by rfl) (of_decide_eq_true rfl) sz99 ⟨rfl, rfl, rfl, rfl, rfl, trivial⟩) rfl rfl ?_
        rintro _ _ _ ⟨rfl, rfl⟩
        refine wl_nil ?_
        refine pn_then ?_
        refine wc_seq ?_
        refine wc_seq ?_
        refine wc_region ?_   -- region 6
        refine wl_det rfl rfl (det_field rfl fd99_0 rfl) rfl ?_
        refine wl_det rfl rfl (det_load rfl m0 (by rfl) na3 us3) rfl ?_
        refine wl_det rfl rfl (det_lss rfl rfl) rfl ?_
        refine wl_det rfl rfl (det_move rfl) rfl ?_
        refine wl_way (decide ((ix a0 s12).Loss < 1)) ((decide ((ix a0 s12).Loss < 1)) || (decide (1048576 < (ix a0 s12).Loss))) 4 22 (fun hg => ?_) (fun hg => ?_) ?_
        · have hg6_7 := hg
          refine wl_off rfl rfl rfl rfl rfl hg6_7 rfl ?_
          refine wl_off rfl rfl rfl rfl rfl hg6_7 rfl ?_
          refine wl_off rfl rfl rfl rfl rfl hg6_7 rfl ?_
          refine wl_det rfl rfl (det_or_on (r := (decide (1048576 < (ix a0 s12).Loss))) rfl rfl rfl hg6_7) rfl ?_
          exact wl_nil (pn_qnE (ext_cons rfl (ext_skip rfl (ext_skip rfl (ext_skip rfl (ext_skip rfl ext_refl))))) (fun _ h => h))
        · have hg6_7a := hg
          refine wl_on rfl rfl rfl rfl hg6_7a ?_
          refine wl_det rfl rfl (det_field rfl fd99_0 rfl) rfl ?_
          refine wl_on rfl rfl rfl rfl hg6_7a ?_
          refine wl_det rfl rfl (det_load rfl m0 (by rfl) na3 us3) rfl ?_
          refine wl_on rfl rfl rfl rfl hg6_7a ?_
          refine wl_det rfl rfl (det_gtr rfl rfl) rfl ?_
          refine wl_det rfl rfl (det_or_off rfl rfl rfl hg6_7a) rfl ?_
          exact wl_nil (pn_qnE (ext_cons rfl (ext_skip rfl (ext_skip rfl (ext_skip rfl (ext_skip rfl ext_refl))))) (fun _ h => h))
        refine wl_det rfl rfl (det_move rfl) rfl ?_
        refine wl_way ((decide ((ix a0 s12).Loss < 1)) || (decide (1048576 < (ix a0 s12).Loss))) (((decide ((ix a0 s12).Loss < 1)) || (decide (1048576 < (ix a0 s12).Loss))) || (decide ((ix a0 s12).Treaty < 0))) 4 27 (fun hg => ?_) (fun hg => ?_) ?_
        · have hg6_12 := hg
          refine wl_off rfl rfl rfl rfl rfl hg6_12 rfl ?_
          refine wl_off rfl rfl rfl rfl rfl hg6_12 rfl ?_
          refine wl_off rfl rfl rfl rfl rfl hg6_12 rfl ?_
          refine wl_det rfl rfl (det_or_on (r := (decide ((ix a0 s12).Treaty < 0))) rfl rfl rfl hg6_12) rfl ?_
          exact wl_nil (pn_qnE (ext_cons rfl (ext_skip rfl (ext_skip rfl (ext_skip rfl (ext_skip rfl ext_refl))))) (fun _ h => h))
        · have hg6_12a := hg
          refine wl_on rfl rfl rfl rfl hg6_12a ?_
          refine wl_det rfl rfl (det_field rfl fd99_1 rfl) rfl ?_
          refine wl_on rfl rfl rfl rfl hg6_12a ?_
          refine wl_det rfl rfl (det_load rfl m0 (by rfl) na3 us3) rfl ?_
          refine wl_on rfl rfl rfl rfl hg6_12a ?_
          refine wl_det rfl rfl (det_lss rfl rfl) rfl ?_
          refine wl_det rfl rfl (det_or_off rfl rfl rfl hg6_12a) rfl ?_
          exact wl_nil (pn_qnE (ext_cons rfl (ext_skip rfl (ext_skip rfl (ext_skip rfl (ext_skip rfl ext_refl))))) (fun _ h => h))
        refine wl_det rfl rfl (det_move rfl) rfl ?_
        refine wl_way (((decide ((ix a0 s12).Loss < 1)) || (decide (1048576 < (ix a0 s12).Loss))) || (decide ((ix a0 s12).Treaty < 0))) ((((decide ((ix a0 s12).Loss < 1)) || (decide (1048576 < (ix a0 s12).Loss))) || (decide ((ix a0 s12).Treaty < 0))) || (decide (1048576 < (ix a0 s12).Treaty))) 4 32 (fun hg => ?_) (fun hg => ?_) ?_
        · have hg6_17 := hg
          refine wl_off rfl rfl rfl rfl rfl hg6_17 rfl ?_
          refine wl_off rfl rfl rfl rfl rfl hg6_17 rfl ?_
          refine wl_off rfl rfl rfl rfl rfl hg6_17 rfl ?_
          refine wl_det rfl rfl (det_or_on (r := (decide (1048576 < (ix a0 s12).Treaty))) rfl rfl rfl hg6_17) rfl ?_
          exact wl_nil (pn_qnE (ext_cons rfl (ext_skip rfl (ext_skip rfl (ext_skip rfl (ext_skip rfl ext_refl))))) (fun _ h => h))
        · have hg6_17a := hg
          refine wl_on rfl rfl rfl rfl hg6_17a ?_
          refine wl_det rfl rfl (det_field rfl fd99_1 rfl) rfl ?_
          refine wl_on rfl rfl rfl rfl hg6_17a ?_
          refine wl_det rfl rfl (det_load rfl m0 (by rfl) na3 us3) rfl ?_
          refine wl_on rfl rfl rfl rfl hg6_17a ?_
          refine wl_det rfl rfl (det_gtr rfl rfl) rfl ?_
          refine wl_det rfl rfl (det_or_off rfl rfl rfl hg6_17a) rfl ?_
          exact wl_nil (pn_qnE (ext_cons rfl (ext_skip rfl (ext_skip rfl (ext_skip rfl (ext_skip rfl ext_refl))))) (fun _ h => h))
        refine wl_det rfl rfl (det_move rfl) rfl ?_
        refine wl_way ((((decide ((ix a0 s12).Loss < 1)) || (decide (1048576 < (ix a0 s12).Loss))) || (decide ((ix a0 s12).Treaty < 0))) || (decide (1048576 < (ix a0 s12).Treaty))) (((((decide ((ix a0 s12).Loss < 1)) || (decide (1048576 < (ix a0 s12).Loss))) || (decide ((ix a0 s12).Treaty < 0))) || (decide (1048576 < (ix a0 s12).Treaty))) || (decide ((ix a0 s12).Party < 0))) 4 37 (fun hg => ?_) (fun hg => ?_) ?_
        · have hg6_22 := hg
          refine wl_off rfl rfl rfl rfl rfl hg6_22 rfl ?_
          refine wl_off rfl rfl rfl rfl rfl hg6_22 rfl ?_
          refine wl_off rfl rfl rfl rfl rfl hg6_22 rfl ?_
          refine wl_det rfl rfl (det_or_on (r := (decide ((ix a0 s12).Party < 0))) rfl rfl rfl hg6_22) rfl ?_
          exact wl_nil (pn_qnE (ext_cons rfl (ext_skip rfl (ext_skip rfl (ext_skip rfl (ext_skip rfl ext_refl))))) (fun _ h => h))
        · have hg6_22a := hg
          refine wl_on rfl rfl rfl rfl hg6_22a ?_
          refine wl_det rfl rfl (det_field rfl fd99_2 rfl) rfl ?_
          refine wl_on rfl rfl rfl rfl hg6_22a ?_
          refine wl_det rfl rfl (det_load rfl m0 (by rfl) na3 us3) rfl ?_
          refine wl_on rfl rfl rfl rfl hg6_22a ?_
          refine wl_det rfl rfl (det_lss rfl rfl) rfl ?_
          refine wl_det rfl rfl (det_or_off rfl rfl rfl hg6_22a) rfl ?_
          exact wl_nil (pn_qnE (ext_cons rfl (ext_skip rfl (ext_skip rfl (ext_skip rfl (ext_skip rfl ext_refl))))) (fun _ h => h))
        refine wl_det rfl rfl (det_move rfl) rfl ?_
        refine wl_way (((((decide ((ix a0 s12).Loss < 1)) || (decide (1048576 < (ix a0 s12).Loss))) || (decide ((ix a0 s12).Treaty < 0))) || (decide (1048576 < (ix a0 s12).Treaty))) || (decide ((ix a0 s12).Party < 0))) ((((((decide ((ix a0 s12).Loss < 1)) || (decide (1048576 < (ix a0 s12).Loss))) || (decide ((ix a0 s12).Treaty < 0))) || (decide (1048576 < (ix a0 s12).Treaty))) || (decide ((ix a0 s12).Party < 0))) || (decide (15 < (ix a0 s12).Party))) 4 42 (fun hg => ?_) (fun hg => ?_) ?_
        · have hg6_27 := hg
          refine wl_off rfl rfl rfl rfl rfl hg6_27 rfl ?_
          refine wl_off rfl rfl rfl rfl rfl hg6_27 rfl ?_
          refine wl_off rfl rfl rfl rfl rfl hg6_27 rfl ?_
          refine wl_det rfl rfl (det_or_on (r := (decide (15 < (ix a0 s12).Party))) rfl rfl rfl hg6_27) rfl ?_
          exact wl_nil (pn_qnE (ext_cons rfl (ext_skip rfl (ext_skip rfl (ext_skip rfl (ext_skip rfl ext_refl))))) (fun _ h => h))
        · have hg6_27a := hg
          refine wl_on rfl rfl rfl rfl hg6_27a ?_
          refine wl_det rfl rfl (det_field rfl fd99_2 rfl) rfl ?_
          refine wl_on rfl rfl rfl rfl hg6_27a ?_
          refine wl_det rfl rfl (det_load rfl m0 (by rfl) na3 us3) rfl ?_
          refine wl_on rfl rfl rfl rfl hg6_27a ?_
          refine wl_det rfl rfl (det_gtr rfl rfl) rfl ?_
          refine wl_det rfl rfl (det_or_off rfl rfl rfl hg6_27a) rfl ?_
          exact wl_nil (pn_qnE (ext_cons rfl (ext_skip rfl (ext_skip rfl (ext_skip rfl (ext_skip rfl ext_refl))))) (fun _ h => h))
        refine wl_det rfl rfl (det_move rfl) rfl ?_
        refine wl_way ((((((decide ((ix a0 s12).Loss < 1)) || (decide (1048576 < (ix a0 s12).Loss))) || (decide ((ix a0 s12).Treaty < 0))) || (decide (1048576 < (ix a0 s12).Treaty))) || (decide ((ix a0 s12).Party < 0))) || (decide (15 < (ix a0 s12).Party))) (((((((decide ((ix a0 s12).Loss < 1)) || (decide (1048576 < (ix a0 s12).Loss))) || (decide ((ix a0 s12).Treaty < 0))) || (decide (1048576 < (ix a0 s12).Treaty))) || (decide ((ix a0 s12).Party < 0))) || (decide (15 < (ix a0 s12).Party))) || ((decide ((ix a0 s12).Treaty = 0)) && (!decide ((ix a0 s12).Party = 0)))) 9 52 (fun hg => ?_) (fun hg => ?_) ?_
        · have hg6_37 := hg
          refine wl_off rfl rfl rfl rfl rfl hg6_37 rfl ?_
          refine wl_off rfl rfl rfl rfl rfl hg6_37 rfl ?_
          refine wl_off rfl rfl rfl rfl rfl hg6_37 rfl ?_
          refine wl_off rfl rfl rfl rfl rfl hg6_37 rfl ?_
          refine wl_none rfl rfl rfl rfl rfl rfl ?_
          refine wl_none rfl rfl rfl rfl rfl rfl ?_
          refine wl_none rfl rfl rfl rfl rfl rfl ?_
          refine wl_off rfl rfl rfl rfl rfl hg6_37 rfl ?_
          refine wl_det rfl rfl (det_or_on (r := ((decide ((ix a0 s12).Treaty = 0)) && (!decide ((ix a0 s12).Party = 0)))) rfl rfl rfl hg6_37) rfl ?_
          exact wl_nil (pn_qnE (ext_cons rfl (ext_skip rfl (ext_skip rfl (ext_skip rfl (ext_skip rfl (ext_skip rfl (ext_skip rfl (ext_skip rfl (ext_skip rfl (ext_skip rfl ext_refl)))))))))) (fun _ h => h))
        · have hg6_37a := hg
          refine wl_on rfl rfl rfl rfl hg6_37a ?_
          refine wl_det rfl rfl (det_field rfl fd99_1 rfl) rfl ?_
          refine wl_on rfl rfl rfl rfl hg6_37a ?_
          refine wl_det rfl rfl (det_load rfl m0 (by rfl) na3 us3) rfl ?_
          refine wl_on rfl rfl rfl rfl hg6_37a ?_
          refine wl_det rfl rfl (det_eql rfl rfl) rfl ?_
          refine wl_on rfl rfl rfl rfl hg6_37a ?_
          refine wl_det rfl rfl (det_move rfl) rfl ?_
          refine wl_way (decide ((ix a0 s12).Treaty = 0)) ((decide ((ix a0 s12).Treaty = 0)) && (!decide ((ix a0 s12).Party = 0))) 4 51 (fun hg => ?_) (fun hg => ?_) ?_
          · have hg6_36 := hg
            refine wl_on rfl rfl rfl rfl hg6_36 ?_
            refine wl_det rfl rfl (det_field rfl fd99_2 rfl) rfl ?_
            refine wl_on rfl rfl rfl rfl hg6_36 ?_
            refine wl_det rfl rfl (det_load rfl m0 (by rfl) na3 us3) rfl ?_
            refine wl_on rfl rfl rfl rfl hg6_36 ?_
            refine wl_det rfl rfl (det_neq rfl rfl) rfl ?_
            refine wl_on rfl rfl rfl rfl hg6_37a ?_
            refine wl_det rfl rfl (det_and_on rfl rfl rfl hg6_36) rfl ?_
            exact wl_nil (pn_qnE (ext_cons rfl (ext_skip rfl (ext_skip rfl (ext_skip rfl (ext_skip rfl ext_refl))))) (fun _ h => h))
          · have hg6_36a := hg
            refine wl_off rfl rfl rfl rfl rfl hg6_36a rfl ?_
            refine wl_off rfl rfl rfl rfl rfl hg6_36a rfl ?_
            refine wl_off rfl rfl rfl rfl rfl hg6_36a rfl ?_
            refine wl_on rfl rfl rfl rfl hg6_37a ?_
            refine wl_det rfl rfl (det_and_off (q := (!decide ((ix a0 s12).Party = 0))) rfl rfl rfl hg6_36a) rfl ?_
            exact wl_nil (pn_qnE (ext_cons rfl (ext_skip rfl (ext_skip rfl (ext_skip rfl (ext_skip rfl ext_refl))))) (fun _ h => h))
          refine wl_det rfl rfl (det_or_off rfl rfl rfl hg6_37a) rfl ?_
          exact wl_nil (pn_qnE (ext_cons rfl (ext_skip rfl (ext_skip rfl (ext_skip rfl (ext_skip rfl (ext_skip rfl (ext_skip rfl ext_refl))))))) (fun _ h => h))
        refine wl_det rfl rfl (det_move rfl) rfl ?_
        refine wl_way (((((((decide ((ix a0 s12).Loss < 1)) || (decide (1048576 < (ix a0 s12).Loss))) || (decide ((ix a0 s12).Treaty < 0))) || (decide (1048576 < (ix a0 s12).Treaty))) || (decide ((ix a0 s12).Party < 0))) || (decide (15 < (ix a0 s12).Party))) || ((decide ((ix a0 s12).Treaty = 0)) && (!decide ((ix a0 s12).Party = 0)))) ((((((((decide ((ix a0 s12).Loss < 1)) || (decide (1048576 < (ix a0 s12).Loss))) || (decide ((ix a0 s12).Treaty < 0))) || (decide (1048576 < (ix a0 s12).Treaty))) || (decide ((ix a0 s12).Party < 0))) || (decide (15 < (ix a0 s12).Party))) || ((decide ((ix a0 s12).Treaty = 0)) && (!decide ((ix a0 s12).Party = 0)))) || (decide ((ix a0 s12).Amount < 1))) 4 57 (fun hg => ?_) (fun hg => ?_) ?_
        · have hg6_42 := hg
          refine wl_off rfl rfl rfl rfl rfl hg6_42 rfl ?_
          refine wl_off rfl rfl rfl rfl rfl hg6_42 rfl ?_
          refine wl_off rfl rfl rfl rfl rfl hg6_42 rfl ?_
          refine wl_det rfl rfl (det_or_on (r := (decide ((ix a0 s12).Amount < 1))) rfl rfl rfl hg6_42) rfl ?_
          exact wl_nil (pn_qnE (ext_cons rfl (ext_skip rfl (ext_skip rfl (ext_skip rfl (ext_skip rfl ext_refl))))) (fun _ h => h))
        · have hg6_42a := hg
          refine wl_on rfl rfl rfl rfl hg6_42a ?_
          refine wl_det rfl rfl (det_field rfl fd99_3 rfl) rfl ?_
          refine wl_on rfl rfl rfl rfl hg6_42a ?_
          refine wl_det rfl rfl (det_load rfl m0 (by rfl) na3 us3) rfl ?_
          refine wl_on rfl rfl rfl rfl hg6_42a ?_
          refine wl_det rfl rfl (det_lss rfl rfl) rfl ?_
          refine wl_det rfl rfl (det_or_off rfl rfl rfl hg6_42a) rfl ?_
          exact wl_nil (pn_qnE (ext_cons rfl (ext_skip rfl (ext_skip rfl (ext_skip rfl (ext_skip rfl ext_refl))))) (fun _ h => h))
        refine wl_det rfl rfl (det_move rfl) rfl ?_
        refine wl_way ((((((((decide ((ix a0 s12).Loss < 1)) || (decide (1048576 < (ix a0 s12).Loss))) || (decide ((ix a0 s12).Treaty < 0))) || (decide (1048576 < (ix a0 s12).Treaty))) || (decide ((ix a0 s12).Party < 0))) || (decide (15 < (ix a0 s12).Party))) || ((decide ((ix a0 s12).Treaty = 0)) && (!decide ((ix a0 s12).Party = 0)))) || (decide ((ix a0 s12).Amount < 1))) (((((((((decide ((ix a0 s12).Loss < 1)) || (decide (1048576 < (ix a0 s12).Loss))) || (decide ((ix a0 s12).Treaty < 0))) || (decide (1048576 < (ix a0 s12).Treaty))) || (decide ((ix a0 s12).Party < 0))) || (decide (15 < (ix a0 s12).Party))) || ((decide ((ix a0 s12).Treaty = 0)) && (!decide ((ix a0 s12).Party = 0)))) || (decide ((ix a0 s12).Amount < 1))) || (decide (68719476736 < (ix a0 s12).Amount))) 4 62 (fun hg => ?_) (fun hg => ?_) ?_
        · have hg6_47 := hg
          refine wl_off rfl rfl rfl rfl rfl hg6_47 rfl ?_
          refine wl_off rfl rfl rfl rfl rfl hg6_47 rfl ?_
          refine wl_off rfl rfl rfl rfl rfl hg6_47 rfl ?_
          refine wl_det rfl rfl (det_or_on (r := (decide (68719476736 < (ix a0 s12).Amount))) rfl rfl rfl hg6_47) rfl ?_
          exact wl_nil (pn_qnE (ext_cons rfl (ext_skip rfl (ext_skip rfl (ext_skip rfl (ext_skip rfl ext_refl))))) (fun _ h => h))
        · have hg6_47a := hg
          refine wl_on rfl rfl rfl rfl hg6_47a ?_
          refine wl_det rfl rfl (det_field rfl fd99_3 rfl) rfl ?_
          refine wl_on rfl rfl rfl rfl hg6_47a ?_
          refine wl_det rfl rfl (det_load rfl m0 (by rfl) na3 us3) rfl ?_
          refine wl_on rfl rfl rfl rfl hg6_47a ?_
          refine wl_det rfl rfl (det_gtr rfl rfl) rfl ?_
          refine wl_det rfl rfl (det_or_off rfl rfl rfl hg6_47a) rfl ?_
          exact wl_nil (pn_qnE (ext_cons rfl (ext_skip rfl (ext_skip rfl (ext_skip rfl (ext_skip rfl ext_refl))))) (fun _ h => h))
        refine wl_det rfl rfl (det_move rfl) rfl ?_
        refine wl_way (((((((((decide ((ix a0 s12).Loss < 1)) || (decide (1048576 < (ix a0 s12).Loss))) || (decide ((ix a0 s12).Treaty < 0))) || (decide (1048576 < (ix a0 s12).Treaty))) || (decide ((ix a0 s12).Party < 0))) || (decide (15 < (ix a0 s12).Party))) || ((decide ((ix a0 s12).Treaty = 0)) && (!decide ((ix a0 s12).Party = 0)))) || (decide ((ix a0 s12).Amount < 1))) || (decide (68719476736 < (ix a0 s12).Amount))) ((((((((((decide ((ix a0 s12).Loss < 1)) || (decide (1048576 < (ix a0 s12).Loss))) || (decide ((ix a0 s12).Treaty < 0))) || (decide (1048576 < (ix a0 s12).Treaty))) || (decide ((ix a0 s12).Party < 0))) || (decide (15 < (ix a0 s12).Party))) || ((decide ((ix a0 s12).Treaty = 0)) && (!decide ((ix a0 s12).Party = 0)))) || (decide ((ix a0 s12).Amount < 1))) || (decide (68719476736 < (ix a0 s12).Amount))) || (decide ((ix a0 s12).Paid < 0))) 4 67 (fun hg => ?_) (fun hg => ?_) ?_
        · have hg6_52 := hg
          refine wl_off rfl rfl rfl rfl rfl hg6_52 rfl ?_
          refine wl_off rfl rfl rfl rfl rfl hg6_52 rfl ?_
          refine wl_off rfl rfl rfl rfl rfl hg6_52 rfl ?_
          refine wl_det rfl rfl (det_or_on (r := (decide ((ix a0 s12).Paid < 0))) rfl rfl rfl hg6_52) rfl ?_
          exact wl_nil (pn_qnE (ext_cons rfl (ext_skip rfl (ext_skip rfl (ext_skip rfl (ext_skip rfl ext_refl))))) (fun _ h => h))
        · have hg6_52a := hg
          refine wl_on rfl rfl rfl rfl hg6_52a ?_
          refine wl_det rfl rfl (det_field rfl fd99_4 rfl) rfl ?_
          refine wl_on rfl rfl rfl rfl hg6_52a ?_
          refine wl_det rfl rfl (det_load rfl m0 (by rfl) na3 us3) rfl ?_
          refine wl_on rfl rfl rfl rfl hg6_52a ?_
          refine wl_det rfl rfl (det_lss rfl rfl) rfl ?_
          refine wl_det rfl rfl (det_or_off rfl rfl rfl hg6_52a) rfl ?_
          exact wl_nil (pn_qnE (ext_cons rfl (ext_skip rfl (ext_skip rfl (ext_skip rfl (ext_skip rfl ext_refl))))) (fun _ h => h))
        refine wl_det rfl rfl (det_move rfl) rfl ?_
        refine wl_way ((((((((((decide ((ix a0 s12).Loss < 1)) || (decide (1048576 < (ix a0 s12).Loss))) || (decide ((ix a0 s12).Treaty < 0))) || (decide (1048576 < (ix a0 s12).Treaty))) || (decide ((ix a0 s12).Party < 0))) || (decide (15 < (ix a0 s12).Party))) || ((decide ((ix a0 s12).Treaty = 0)) && (!decide ((ix a0 s12).Party = 0)))) || (decide ((ix a0 s12).Amount < 1))) || (decide (68719476736 < (ix a0 s12).Amount))) || (decide ((ix a0 s12).Paid < 0))) (((((((((((decide ((ix a0 s12).Loss < 1)) || (decide (1048576 < (ix a0 s12).Loss))) || (decide ((ix a0 s12).Treaty < 0))) || (decide (1048576 < (ix a0 s12).Treaty))) || (decide ((ix a0 s12).Party < 0))) || (decide (15 < (ix a0 s12).Party))) || ((decide ((ix a0 s12).Treaty = 0)) && (!decide ((ix a0 s12).Party = 0)))) || (decide ((ix a0 s12).Amount < 1))) || (decide (68719476736 < (ix a0 s12).Amount))) || (decide ((ix a0 s12).Paid < 0))) || (decide ((ix a0 s12).Amount < (ix a0 s12).Paid))) 6 74 (fun hg => ?_) (fun hg => ?_) ?_
        · have hg6_59 := hg
          refine wl_off rfl rfl rfl rfl rfl hg6_59 rfl ?_
          refine wl_off rfl rfl rfl rfl rfl hg6_59 rfl ?_
          refine wl_off rfl rfl rfl rfl rfl hg6_59 rfl ?_
          refine wl_off rfl rfl rfl rfl rfl hg6_59 rfl ?_
          refine wl_off rfl rfl rfl rfl rfl hg6_59 rfl ?_
          refine wl_det rfl rfl (det_or_on (r := (decide ((ix a0 s12).Amount < (ix a0 s12).Paid))) rfl rfl rfl hg6_59) rfl ?_
          exact wl_nil (pn_qnE (ext_cons rfl (ext_skip rfl (ext_skip rfl (ext_skip rfl (ext_skip rfl (ext_skip rfl (ext_skip rfl ext_refl))))))) (fun _ h => h))
        · have hg6_59a := hg
          refine wl_on rfl rfl rfl rfl hg6_59a ?_
          refine wl_det rfl rfl (det_field rfl fd99_4 rfl) rfl ?_
          refine wl_on rfl rfl rfl rfl hg6_59a ?_
          refine wl_det rfl rfl (det_load rfl m0 (by rfl) na3 us3) rfl ?_
          refine wl_on rfl rfl rfl rfl hg6_59a ?_
          refine wl_det rfl rfl (det_field rfl fd99_3 rfl) rfl ?_
          refine wl_on rfl rfl rfl rfl hg6_59a ?_
          refine wl_det rfl rfl (det_load rfl m0 (by rfl) na3 us3) rfl ?_
          refine wl_on rfl rfl rfl rfl hg6_59a ?_
          refine wl_det rfl rfl (det_gtr rfl rfl) rfl ?_
          refine wl_det rfl rfl (det_or_off rfl rfl rfl hg6_59a) rfl ?_
          exact wl_nil (pn_qnE (ext_cons rfl (ext_skip rfl (ext_skip rfl (ext_skip rfl (ext_skip rfl (ext_skip rfl (ext_skip rfl ext_refl))))))) (fun _ h => h))
        refine wl_nil ?_
        refine pn_then ?_
        refine wc_cond rfl (fun cd25 => ?_) (fun cd25 => ?_)
        · have h := ifT h cd25
          refine wc_seq ?_
          refine wc_region ?_   -- region 7
          refine wl_det rfl rfl (det_assign rfl) rfl ?_
          refine wl_nil ?_
          refine pn_then ?_
          refine wc_ret ?_
          refine pr_then ?_
          refine pr_block ?_
          refine pr_then ?_
          refine pr_then ?_
          refine pr_block ?_
          refine pr_then ?_
          replace h := Option.some.inj h
          subst h
          replace g12 := nextR g12
          subst g12
          have h := (elimL ho12)
          replace h := Option.some.inj h
          subst h
          have h := (elimR ho8)
          replace h := Option.some.inj h
          subst h
          refine pn_ret (vs := [_]) rfl ⟨rfl, trivial⟩ ⟨rfl, rfl, rfl⟩ (fun _ h => h.to trivial trivial)
        · have h := ifF h cd25
          refine wc_skip ?_
          refine pn_then ?_
          obtain ⟨q28, h, ho28⟩ := bind_some h
          refine wc_meetG (G := Bool × Unit) (fun (s28, _) => s28 = q28) (fun (s28, _) => [(0, .slice A0 a0.length c0), (8, .slice A0 a0.length c0), (9, .int .i64 (a0.length : Int)), (10, .int .i64 s12), (86, .bool s28)]) (fun (_, _) => []) (fun (_, _) => [fV (lSlice lGShare) (.slice A0 a0.length c0) a0]) ?_ ?_
          · rcases Bool.eq_false_or_eq_true (decide (0 < s12)) with hg8_g77 | hg8_g77
            · have h := ifT h hg8_g77
              obtain ⟨k8_p1, h⟩ := chk_some h
              refine wc_st (fun _ h => h.openF (ms m0) k8_p1) ?_
              refine dx_region 12 [[], [0], [0, 1], [0, 1, 2], [0, 1, 2], [0, 1, 2, 4], [0, 1, 2, 3, 4, 5], [0, 1, 2, 3, 4, 5, 6], [0, 1, 2], [0, 1, 2, 3, 4, 5, 6, 7, 8], [0, 1, 2, 3, 4, 5, 6, 7, 8, 9], [0, 1, 2, 3, 4, 5, 6, 7, 8, 9, 10]] mixed (ord := (.det 0 (.det 1 (.det 2 (.det 3 (.det 4 (.det 5 (.det 6 (.det 7 (.det 8 (.alt 9 (.det 10 (.det 11 .done)) .dead))))))))))) (by kernel_rfl) ?_   -- region 8
              refine hx_det rfl rfl rfl nofun (det_move rfl) rfl ?_
              refine hx_det rfl rfl rfl nofun (det_gtr rfl rfl) rfl ?_
              refine hx_det rfl rfl rfl nofun (det_move rfl) rfl ?_
              refine hx_on rfl rfl rfl rfl rfl hg8_g77 nofun (det_move rfl) rfl ?_
              refine hx_on rfl rfl rfl rfl rfl hg8_g77 nofun (det_move rfl) rfl ?_
              refine hx_on rfl rfl rfl rfl rfl hg8_g77 nofun (det_sub rfl rfl) rfl ?_
              refine hx_on rfl rfl rfl rfl rfl hg8_g77 nofun (det_indexP rfl rfl (ms (ms m0)) k8_p1 m0 un68 sz99) rfl ?_
              refine hx_on rfl rfl rfl rfl rfl hg8_g77 nofun (det_loadP (off := 0) rfl m0 (by rfl) (by rfl) (loaded_n (cells := [_, _, _, _, _]) ag99 sz99)) rfl ?_
              refine hx_on rfl rfl rfl rfl rfl hg8_g77 nofun (det_loadN (cells := [_, _, _, _, _]) rfl m0 (by rfl) ag99 sz99) rfl ?_
              obtain ⟨r8_9, hr8_9, h⟩ := bind_some h
              refine hx_actG rfl rfl rfl rfl rfl hg8_g77 (act_callS (cap := []) (W_treatyref30_Before (ix a0 (w64 (s12 - 1))) (ix a0 s12) r8_9 hr8_9) rfl rfl rfl bd75 rfl trivial) rfl (by rintro _ _ _ ⟨_, _, _, rfl, rfl⟩; first | exact ⟨_, _, rfl, rfl⟩ | exact ⟨_, [], rfl, rfl⟩) ?_
              rintro _ _ _ ⟨_, _, ⟨rfl, rfl, rfl⟩, rfl, rfl⟩
              dsimp only [List.nil_append, List.cons_append]
              refine hx_on rfl rfl rfl rfl rfl hg8_g77 nofun (det_not rfl) rfl ?_
              refine hx_det rfl rfl rfl nofun (det_pick_on rfl hg8_g77 rfl rfl) rfl ?_
              refine hx_end ?_
              refine wl_nil ?_
              replace h := Option.some.inj h
              subst h
              exact pn_meetG ((!r8_9), ()) rfl ⟨rfl, rfl, rfl, rfl, rfl, trivial⟩ (fun _ h => h.to trivial ⟨(ms (ms m0)), trivial⟩)
            · have h := ifF h hg8_g77
              refine dx_region 12 [[], [0], [0, 1], [0, 1, 2], [0, 1, 2], [0, 1, 2, 4], [0, 1, 2, 3, 4, 5], [0, 1, 2, 3, 4, 5, 6], [0, 1, 2], [0, 1, 2, 3, 4, 5, 6, 7, 8], [0, 1, 2, 3, 4, 5, 6, 7, 8, 9], [0, 1, 2, 3, 4, 5, 6, 7, 8, 9, 10]] mixed (ord := (.det 0 (.det 1 (.det 2 (.det 3 (.det 4 (.det 5 (.det 6 (.det 7 (.det 8 (.det 9 (.det 10 (.det 11 .done))))))))))))) (by kernel_rfl) ?_   -- region 8
              refine hx_det rfl rfl rfl nofun (det_move rfl) rfl ?_
              refine hx_det rfl rfl rfl nofun (det_gtr rfl rfl) rfl ?_
              refine hx_det rfl rfl rfl nofun (det_move rfl) rfl ?_
              refine hx_off rfl rfl rfl rfl rfl hg8_g77 rfl ?_
              refine hx_off rfl rfl rfl rfl rfl hg8_g77 rfl ?_
              refine hx_off rfl rfl rfl rfl rfl hg8_g77 rfl ?_
              refine hx_off rfl rfl rfl rfl rfl hg8_g77 rfl ?_
              refine hx_off rfl rfl rfl rfl rfl hg8_g77 rfl ?_
              refine hx_off rfl rfl rfl rfl rfl hg8_g77 rfl ?_
              refine hx_off rfl rfl rfl rfl rfl hg8_g77 rfl ?_
              refine hx_off rfl rfl rfl rfl rfl hg8_g77 rfl ?_
              refine hx_det rfl rfl rfl nofun (det_pick_off rfl hg8_g77 rfl rfl) rfl ?_
              refine hx_end ?_
              refine wl_nil ?_
              replace h := Option.some.inj h
              subst h
              exact pn_meetG (false, ()) rfl ⟨rfl, rfl, rfl, rfl, rfl, trivial⟩ (fun _ h => h.to trivial ⟨(ms m0), trivial⟩)
          rintro ⟨s28, _⟩ e28
          dsimp only at e28 ⊢
          subst e28
          have h := ho28
          refine wc_cond rfl (fun cd30 => ?_) (fun cd30 => ?_)
          · have h := ifT h cd30
            refine wc_seq ?_
            refine wc_region ?_   -- region 9
            refine wl_det rfl rfl (det_assign rfl) rfl ?_
            refine wl_nil ?_
            refine pn_then ?_
            refine wc_ret ?_
            refine pr_block ?_
            refine pr_then ?_
            refine pr_then ?_
            refine pr_block ?_
            refine pr_then ?_
            replace h := Option.some.inj h
            subst h
            replace g12 := nextR g12
            subst g12
            have h := (elimL ho12)
            replace h := Option.some.inj h
            subst h
            have h := (elimR ho8)
            replace h := Option.some.inj h
            subst h
            refine pn_ret (vs := [_]) rfl ⟨rfl, trivial⟩ ⟨rfl, rfl, rfl⟩ (fun _ h => h.to trivial trivial)
          · have h := ifF h cd30
            refine wc_skip ?_
            refine pn_block ?_
            refine pn_then ?_
            refine wc_region ?_   -- region 10
            refine wl_det rfl rfl (det_add rfl rfl) rfl ?_
            refine wl_det rfl rfl (det_move rfl) rfl ?_
            refine wl_nil ?_
            replace h := Option.some.inj h
            subst h
            exact pn_some (k12, (w64 (s12 + 1)), ()) ⟨nextL g12, Nat.lt_succ_self _⟩ ⟨rfl, rfl, rfl, rfl, trivial⟩ (fun _ h => h.to trivial ⟨m0, trivial⟩)
      · have h := ifF h cd16
        refine wc_exit ?_
        refine px_then ?_
        refine px_then ?_
        refine px_block ?_
        replace h := Option.some.inj h
        subst h
        replace g12 := nextR g12
        subst g12
        have h := (elimR ho12)
        replace h := Option.some.inj h
        subst h
        exact pn_meetG ((), ()) rfl trivial (fun _ h => h.to trivial trivial)
    rintro ⟨s8, _⟩ e8
    dsimp only at e8 ⊢
    subst e8
    have h := (elimL ho8)
    refine wc_seq ?_
    refine wc_region ?_   -- region 11
    refine wl_det rfl rfl (det_assign rfl) rfl ?_
    refine wl_nil ?_
    refine pn_then ?_
    refine wc_ret ?_
    replace h := Option.some.inj h
    subst h
    refine pn_ret (vs := [_]) rfl ⟨rfl, trivial⟩ ⟨rfl, rfl, rfl⟩ (fun _ h => h.to trivial trivial)
def Q_treatyref33_Before (r : Bool) : Value → List Ent → List Fact → Prop := fun v θ κ => v = .bool r ∧ θ = [] ∧ κ = []
theorem plains_treatyref33_Before {r : Bool} : ∀ v θ κ, Q_treatyref33_Before r v θ κ → Plains θ := by
  rintro _ _ _ ⟨rfl, rfl, rfl⟩
  exact trivial
set_option maxHeartbeats 4000000 in
set_option maxRecDepth 100000 in
theorem W_treatyref33_Before (a0 : GEntry) (a1 : GEntry) (r : Bool) (h : treatyref33_Before a0 a1 = some r) : Spec Try.prog 72 [.agg #[.int .i64 a0.Kind, .int .i64 a0.Treaty, .int .i64 a0.Party, .int .i64 a0.Loss, .int .i64 a0.Amount], .agg #[.int .i64 a1.Kind, .int .i64 a1.Treaty, .int .i64 a1.Party, .int .i64 a1.Loss, .int .i64 a1.Amount]] [] [] (Q_treatyref33_Before r) := by
  unfold treatyref33_Before at h
  refine spec_of (σ := [(0, _), (1, _)]) Try.func72 rfl rfl rfl rfl ?_
  intro C
  refine wc_seq ?_
  refine wc_region ?_   -- region 0
  refine wl_act (act_box (cs := [_, _, _, _, _]) rfl rfl) rfl rfl rfl ?_
  rintro _ _ _ ⟨b0_0, rfl, rfl, rfl⟩
  refine wl_act (act_box (cs := [_, _, _, _, _]) rfl rfl) rfl rfl rfl ?_
  rintro _ _ _ ⟨b0_1, rfl, rfl, rfl⟩
  refine wl_det rfl rfl (det_assign rfl) rfl ?_
  refine wl_nil ?_
  refine pn_then ?_
  refine wc_seq ?_
  refine wc_seq ?_
  refine wc_region ?_   -- region 1
  refine wl_det rfl rfl (det_field rfl fd41_0 rfl) rfl ?_
  refine wl_det rfl rfl (det_load rfl (ms m0) (by rfl) na3 us3) rfl ?_
  refine wl_det rfl rfl (det_field rfl fd41_0 rfl) rfl ?_
  refine wl_det rfl rfl (det_load rfl m0 (by rfl) na3 us3) rfl ?_
  refine wl_det rfl rfl (det_neq rfl rfl) rfl ?_
  refine wl_nil ?_
  refine pn_then ?_
  refine wc_cond rfl (fun cd5 => ?_) (fun cd5 => ?_)
  · have h := ifT h cd5
    refine wc_seq ?_
    refine wc_region ?_   -- region 2
    refine wl_det rfl rfl (det_field rfl fd41_0 rfl) rfl ?_
    refine wl_det rfl rfl (det_load rfl (ms m0) (by rfl) na3 us3) rfl ?_
    refine wl_det rfl rfl (det_field rfl fd41_0 rfl) rfl ?_
    refine wl_det rfl rfl (det_load rfl m0 (by rfl) na3 us3) rfl ?_
    refine wl_det rfl rfl (det_lss rfl rfl) rfl ?_
    refine wl_det rfl rfl (det_assign rfl) rfl ?_
    refine wl_nil ?_
    refine pn_then ?_
    refine wc_ret ?_
    refine pr_then ?_
    replace h := Option.some.inj h
    subst h
    refine pn_ret (vs := [_]) rfl ⟨rfl, trivial⟩ ⟨rfl, rfl, rfl⟩ (fun _ h => h.to trivial trivial)
  · have h := ifF h cd5
    refine wc_skip ?_
    refine pn_then ?_
    refine wc_seq ?_
    refine wc_seq ?_
    refine wc_region ?_   -- region 3
    refine wl_det rfl rfl (det_field rfl fd41_1 rfl) rfl ?_
    refine wl_det rfl rfl (det_load rfl (ms m0) (by rfl) na3 us3) rfl ?_
    refine wl_det rfl rfl (det_field rfl fd41_1 rfl) rfl ?_
    refine wl_det rfl rfl (det_load rfl m0 (by rfl) na3 us3) rfl ?_
    refine wl_det rfl rfl (det_neq rfl rfl) rfl ?_
    refine wl_nil ?_
    refine pn_then ?_
    refine wc_cond rfl (fun cd11 => ?_) (fun cd11 => ?_)
    · have h := ifT h cd11
      refine wc_seq ?_
      refine wc_region ?_   -- region 4
      refine wl_det rfl rfl (det_field rfl fd41_1 rfl) rfl ?_
      refine wl_det rfl rfl (det_load rfl (ms m0) (by rfl) na3 us3) rfl ?_
      refine wl_det rfl rfl (det_field rfl fd41_1 rfl) rfl ?_
      refine wl_det rfl rfl (det_load rfl m0 (by rfl) na3 us3) rfl ?_
      refine wl_det rfl rfl (det_lss rfl rfl) rfl ?_
      refine wl_det rfl rfl (det_assign rfl) rfl ?_
      refine wl_nil ?_
      refine pn_then ?_
      refine wc_ret ?_
      refine pr_then ?_
      replace h := Option.some.inj h
      subst h
      refine pn_ret (vs := [_]) rfl ⟨rfl, trivial⟩ ⟨rfl, rfl, rfl⟩ (fun _ h => h.to trivial trivial)
    · have h := ifF h cd11
      refine wc_skip ?_
      refine pn_then ?_
      refine wc_seq ?_
      refine wc_seq ?_
      refine wc_region ?_   -- region 5
      refine wl_det rfl rfl (det_field rfl fd41_2 rfl) rfl ?_
      refine wl_det rfl rfl (det_load rfl (ms m0) (by rfl) na3 us3) rfl ?_
      refine wl_det rfl rfl (det_field rfl fd41_2 rfl) rfl ?_
      refine wl_det rfl rfl (det_load rfl m0 (by rfl) na3 us3) rfl ?_
      refine wl_det rfl rfl (det_neq rfl rfl) rfl ?_
      refine wl_nil ?_
      refine pn_then ?_
      refine wc_cond rfl (fun cd17 => ?_) (fun cd17 => ?_)
      · have h := ifT h cd17
        refine wc_seq ?_
        refine wc_region ?_   -- region 6
        refine wl_det rfl rfl (det_field rfl fd41_2 rfl) rfl ?_
        refine wl_det rfl rfl (det_load rfl (ms m0) (by rfl) na3 us3) rfl ?_
        refine wl_det rfl rfl (det_field rfl fd41_2 rfl) rfl ?_
        refine wl_det rfl rfl (det_load rfl m0 (by rfl) na3 us3) rfl ?_
        refine wl_det rfl rfl (det_lss rfl rfl) rfl ?_
        refine wl_det rfl rfl (det_assign rfl) rfl ?_
        refine wl_nil ?_
        refine pn_then ?_
        refine wc_ret ?_
        refine pr_then ?_
        replace h := Option.some.inj h
        subst h
        refine pn_ret (vs := [_]) rfl ⟨rfl, trivial⟩ ⟨rfl, rfl, rfl⟩ (fun _ h => h.to trivial trivial)
      · have h := ifF h cd17
        refine wc_skip ?_
        refine pn_then ?_
        refine wc_seq ?_
        refine wc_region ?_   -- region 7
        refine wl_det rfl rfl (det_field rfl fd41_3 rfl) rfl ?_
        refine wl_det rfl rfl (det_load rfl (ms m0) (by rfl) na3 us3) rfl ?_
        refine wl_det rfl rfl (det_field rfl fd41_3 rfl) rfl ?_
        refine wl_det rfl rfl (det_load rfl m0 (by rfl) na3 us3) rfl ?_
        refine wl_det rfl rfl (det_lss rfl rfl) rfl ?_
        refine wl_det rfl rfl (det_assign rfl) rfl ?_
        refine wl_nil ?_
        refine pn_then ?_
        refine wc_ret ?_
        replace h := Option.some.inj h
        subst h
        refine pn_ret (vs := [_]) rfl ⟨rfl, trivial⟩ ⟨rfl, rfl, rfl⟩ (fun _ h => h.to trivial trivial)
def Q_treatyref33_sorted (r : (List GEntry)) : Value → List Ent → List Fact → Prop := fun v θ κ => ∃ (pA0 : Option Addr), ∃ (pn0 : Nat), ∃ (pc0 : Nat), v = .slice pA0 pn0 pc0 ∧ θ = [eS lGEntry 41 pA0 pn0 pc0 r] ∧ κ = []
theorem plains_treatyref33_sorted {r : (List GEntry)} : ∀ v θ κ, Q_treatyref33_sorted r v θ κ → Plains θ := by
  rintro _ _ _ ⟨_, _, _, rfl, rfl, rfl⟩
  exact ⟨plain_eS, trivial⟩
set_option maxRecDepth 100000 in
theorem W_treatyref33_sorted_F (self : (List GEntry) → Option (List GEntry)) (ih : ∀ (a0 : (List GEntry)) (A0 : Option Addr) (n0 : Nat) (c0 : Nat) (r : (List GEntry)), self a0 = some r → Spec Try.prog 71 [.slice A0 n0 c0] [] [fV (lSlice lGEntry) (.slice A0 n0 c0) a0] (Q_treatyref33_sorted r)) (a0 : (List GEntry)) (A0 : Option Addr) (n0 : Nat) (c0 : Nat) (r : (List GEntry)) (h : treatyref33_sorted_F self a0 = some r) : Spec Try.prog 71 [.slice A0 n0 c0] [] [fV (lSlice lGEntry) (.slice A0 n0 c0) a0] (Q_treatyref33_sorted r) := by
  unfold treatyref33_sorted_F at h
  refine spec_of (σ := [(0, _)]) Try.func71 rfl rfl rfl rfl ?_
  intro C
  refine wc_know (fun _ h => h.lenF m0) (fun e => ?_)
  subst e
  refine wc_seq ?_
  refine wc_region ?_   -- region 0
  refine wl_det rfl rfl (det_assign rfl) rfl ?_
  refine wl_nil ?_
  refine pn_then ?_
  refine wc_seq ?_
  refine wc_seq ?_
  refine wc_region ?_   -- region 1
  refine wl_det rfl rfl (det_move rfl) rfl ?_
  refine wl_det rfl rfl (det_len rfl un37) rfl ?_
  refine wl_det rfl rfl (det_lss rfl rfl) rfl ?_
  refine wl_nil ?_
  refine pn_then ?_
  refine wc_cond rfl (fun cd5 => ?_) (fun cd5 => ?_)
  · have h := ifT h cd5
    refine wc_seq ?_
    refine wc_region ?_   -- region 2
    refine wl_act (act_lit0S lGEntry un37 (by kernel_rfl)) rfl rfl rfl ?_
    rintro _ _ _ ⟨A2_0, rfl, rfl, rfl⟩
    refine wl_det rfl rfl (det_move rfl) rfl ?_
    obtain ⟨k2_2, h⟩ := chk_some h
    refine wl_act (act_appendS0 (L := lGEntry) rfl rfl s0 (src_F m0) un37 in41 rfl rfl rfl k2_2) rfl rfl rfl ?_
    rintro _ _ _ ⟨A2_2, c2_2, rfl, rfl, rfl⟩
    refine wl_det rfl rfl (det_assign rfl) rfl ?_
    refine wl_nil ?_
    refine pn_then ?_
    refine wc_ret ?_
    refine pr_then ?_
    replace h := Option.some.inj h
    subst h
    refine pn_ret (vs := [_]) rfl ⟨rfl, trivial⟩ ⟨A2_2, a0.length, c2_2, rfl, rfl, rfl⟩ (fun _ h => h.to ⟨_, r0, trivial⟩ trivial)
  · have h := ifF h cd5
    refine wc_skip ?_
    refine pn_then ?_
    obtain ⟨q8, h, ho8⟩ := bind_some h
    refine wc_meetG (G := ((List GEntry) × (List GEntry)) × Option Addr × Nat × Nat × Option Addr × Nat × Nat × Unit) (fun (s8, _, _, _, _, _, _, _) => s8 = q8) (fun (_, A8_0, n8_0, c8_0, A8_3, n8_3, c8_3, _) => [(3, .slice A8_0 n8_0 c8_0), (4, .slice A8_3 n8_3 c8_3)]) (fun (s8, A8_0, n8_0, c8_0, A8_3, n8_3, c8_3, _) => [eS lGEntry 41 A8_0 n8_0 c8_0 s8.1, eS lGEntry 41 A8_3 n8_3 c8_3 s8.2]) (fun (_, _, _, _, _, _, _, _) => []) ?_ ?_
    · obtain ⟨k3_p1, h⟩ := chk_some h
      obtain ⟨k3_p2, h⟩ := chk_some h
      refine dx_regionZ (Z := St C [] [_]) 12 [[], [], [1], [1, 2], [0, 1, 2, 3], [0, 1, 2, 3, 4], [], [], [7], [7, 8], [6, 7, 8, 9], [0, 1, 2, 3, 4, 5, 6, 7, 8, 9, 10], [0, 1, 2, 3, 4, 5, 6, 7, 8, 9, 10, 11], [0, 1, 2, 3, 4, 5, 6, 7, 8, 9, 10, 11, 12]] mixed (ord := (.det 0 (.det 1 (.det 2 (.det 3 (.det 6 (.det 7 (.det 8 (.det 9 (.alt 4 (.alt 5 (.alt 10 (.alt 11 .done .dead) .dead) (.alt 10 (.alt 5 (.alt 11 .done .dead) .dead) .dead)) (.alt 10 (.alt 4 (.alt 5 (.alt 11 .done .dead) .dead) .dead) .dead))))))))))) (by kernel_rfl) (fun _ h => h.to trivial ⟨m0, trivial⟩) ?_   -- region 3
      refine hx_det rfl rfl rfl nofun (det_move rfl) rfl ?_
      refine hx_det rfl rfl rfl nofun (det_move rfl) rfl ?_
      refine hx_det rfl rfl rfl nofun (det_len rfl un37) rfl ?_
      refine hx_det rfl rfl rfl nofun (det_quoB rfl rfl rfl) rfl ?_
      refine hx_det rfl rfl rfl nofun (det_move rfl) rfl ?_
      refine hx_det rfl rfl rfl nofun (det_move rfl) rfl ?_
      refine hx_det rfl rfl rfl nofun (det_len rfl un37) rfl ?_
      refine hx_det rfl rfl rfl nofun (det_quoB rfl rfl rfl) rfl ?_
      refine hx_or ?_ ?_
      · refine hx_mut rfl rfl rfl (act_sliceH rfl rfl m0 un37 sz41 rfl k3_p1 k3_p2) rfl (by rintro _ _ _ ⟨A3_4, c3_4, rfl, rfl, rfl⟩ w hs; exact hs.to trivial ⟨(ms m0), trivial⟩) ?_
        rintro _ _ _ ⟨A3_4, c3_4, rfl, rfl, rfl⟩
        refine hx_or ?_ ?_
        · obtain ⟨r3_5, hr3_5, h⟩ := bind_some h
          refine hx_mut rfl rfl rfl (act_callS (cap := []) (ih (a0.take (w64 ((a0.length : Int).tdiv 2)).toNat) A3_4 (a0.take (w64 ((a0.length : Int).tdiv 2)).toNat).length c3_4 r3_5 hr3_5) rfl rfl rfl bd71 rfl ⟨m0, trivial⟩) rfl (by rintro _ _ _ ⟨_, _, ⟨y3_5A0, y3_5n0, y3_5c0, rfl, rfl, rfl⟩, rfl, rfl⟩ w hs; exact hs.to trivial ⟨(ms m0), trivial⟩) ?_
          rintro _ _ _ ⟨_, _, ⟨y3_5A0, y3_5n0, y3_5c0, rfl, rfl, rfl⟩, rfl, rfl⟩
          dsimp only [List.nil_append, List.cons_append]
          refine hx_mut rfl rfl rfl (act_sliceL rfl rfl (ms m0) un37 sz41 rfl k3_p1 k3_p2) rfl (by rintro _ _ _ ⟨A3_10, c3_10, rfl, rfl, rfl⟩ w hs; exact hs.to trivial ⟨(ms (ms m0)), trivial⟩) ?_
          rintro _ _ _ ⟨A3_10, c3_10, rfl, rfl, rfl⟩
          obtain ⟨r3_11, hr3_11, h⟩ := bind_some h
          refine hx_mut rfl rfl rfl (act_callS (cap := []) (ih (a0.drop (w64 ((a0.length : Int).tdiv 2)).toNat) A3_10 (a0.drop (w64 ((a0.length : Int).tdiv 2)).toNat).length c3_10 r3_11 hr3_11) rfl rfl rfl bd71 rfl ⟨m0, trivial⟩) rfl (by rintro _ _ _ ⟨_, _, ⟨y3_11A0, y3_11n0, y3_11c0, rfl, rfl, rfl⟩, rfl, rfl⟩ w hs; exact hs.to trivial ⟨(ms (ms m0)), trivial⟩) ?_
          rintro _ _ _ ⟨_, _, ⟨y3_11A0, y3_11n0, y3_11c0, rfl, rfl, rfl⟩, rfl, rfl⟩
          dsimp only [List.nil_append, List.cons_append]
          refine hx_end ?_
          refine wl_know (fun _ h => h.lenO (ms m0)) (fun e => ?_)
          subst e
          refine wl_know (fun _ h => h.lenO m0) (fun e => ?_)
          subst e
          refine wl_det rfl rfl (det_assign rfl) rfl ?_
          refine wl_det rfl rfl (det_assign rfl) rfl ?_
          refine wl_nil ?_
          replace h := Option.some.inj h
          subst h
          exact pn_meetG ((r3_5, r3_11), y3_5A0, r3_5.length, y3_5c0, y3_11A0, r3_11.length, y3_11c0, ()) rfl ⟨rfl, rfl, trivial⟩ (fun _ h => h.to ⟨_, (rs r0), ⟨_, r0, trivial⟩⟩ trivial)
        refine hx_or ?_ trivial
        refine hx_mut rfl rfl rfl (act_sliceL rfl rfl (ms m0) un37 sz41 rfl k3_p1 k3_p2) rfl (by rintro _ _ _ ⟨A3_10, c3_10, rfl, rfl, rfl⟩ w hs; exact hs.to trivial ⟨(ms (ms m0)), trivial⟩) ?_
        rintro _ _ _ ⟨A3_10, c3_10, rfl, rfl, rfl⟩
        obtain ⟨r3_5, hr3_5, h⟩ := bind_some h
        refine hx_mut rfl rfl rfl (act_callS (cap := []) (ih (a0.take (w64 ((a0.length : Int).tdiv 2)).toNat) A3_4 (a0.take (w64 ((a0.length : Int).tdiv 2)).toNat).length c3_4 r3_5 hr3_5) rfl rfl rfl bd71 rfl ⟨(ms m0), trivial⟩) rfl (by rintro _ _ _ ⟨_, _, ⟨y3_5A0, y3_5n0, y3_5c0, rfl, rfl, rfl⟩, rfl, rfl⟩ w hs; exact hs.to trivial ⟨(ms (ms m0)), trivial⟩) ?_
        rintro _ _ _ ⟨_, _, ⟨y3_5A0, y3_5n0, y3_5c0, rfl, rfl, rfl⟩, rfl, rfl⟩
        dsimp only [List.nil_append, List.cons_append]
        obtain ⟨r3_11, hr3_11, h⟩ := bind_some h
        refine hx_mut rfl rfl rfl (act_callS (cap := []) (ih (a0.drop (w64 ((a0.length : Int).tdiv 2)).toNat) A3_10 (a0.drop (w64 ((a0.length : Int).tdiv 2)).toNat).length c3_10 r3_11 hr3_11) rfl rfl rfl bd71 rfl ⟨m0, trivial⟩) rfl (by rintro _ _ _ ⟨_, _, ⟨y3_11A0, y3_11n0, y3_11c0, rfl, rfl, rfl⟩, rfl, rfl⟩ w hs; exact hs.to trivial ⟨(ms (ms m0)), trivial⟩) ?_
        rintro _ _ _ ⟨_, _, ⟨y3_11A0, y3_11n0, y3_11c0, rfl, rfl, rfl⟩, rfl, rfl⟩
        dsimp only [List.nil_append, List.cons_append]
        refine hx_end ?_
        refine wl_know (fun _ h => h.lenO (ms m0)) (fun e => ?_)
        subst e
        refine wl_know (fun _ h => h.lenO m0) (fun e => ?_)
        subst e
        refine wl_det rfl rfl (det_assign rfl) rfl ?_
        refine wl_det rfl rfl (det_assign rfl) rfl ?_
        refine wl_nil ?_
        replace h := Option.some.inj h
        subst h
        exact pn_meetG ((r3_5, r3_11), y3_5A0, r3_5.length, y3_5c0, y3_11A0, r3_11.length, y3_11c0, ()) rfl ⟨rfl, rfl, trivial⟩ (fun _ h => h.to ⟨_, (rs r0), ⟨_, r0, trivial⟩⟩ trivial)
      refine hx_or ?_ trivial
      refine hx_mut rfl rfl rfl (act_sliceL rfl rfl m0 un37 sz41 rfl k3_p1 k3_p2) rfl (by rintro _ _ _ ⟨A3_10, c3_10, rfl, rfl, rfl⟩ w hs; exact hs.to trivial ⟨(ms m0), trivial⟩) ?_
      rintro _ _ _ ⟨A3_10, c3_10, rfl, rfl, rfl⟩
      refine hx_mut rfl rfl rfl (act_sliceH rfl rfl (ms m0) un37 sz41 rfl k3_p1 k3_p2) rfl (by rintro _ _ _ ⟨A3_4, c3_4, rfl, rfl, rfl⟩ w hs; exact hs.to trivial ⟨(ms (ms m0)), trivial⟩) ?_
      rintro _ _ _ ⟨A3_4, c3_4, rfl, rfl, rfl⟩
      obtain ⟨r3_5, hr3_5, h⟩ := bind_some h
      refine hx_mut rfl rfl rfl (act_callS (cap := []) (ih (a0.take (w64 ((a0.length : Int).tdiv 2)).toNat) A3_4 (a0.take (w64 ((a0.length : Int).tdiv 2)).toNat).length c3_4 r3_5 hr3_5) rfl rfl rfl bd71 rfl ⟨m0, trivial⟩) rfl (by rintro _ _ _ ⟨_, _, ⟨y3_5A0, y3_5n0, y3_5c0, rfl, rfl, rfl⟩, rfl, rfl⟩ w hs; exact hs.to trivial ⟨(ms (ms m0)), trivial⟩) ?_
      rintro _ _ _ ⟨_, _, ⟨y3_5A0, y3_5n0, y3_5c0, rfl, rfl, rfl⟩, rfl, rfl⟩
      dsimp only [List.nil_append, List.cons_append]
      obtain ⟨r3_11, hr3_11, h⟩ := bind_some h
      refine hx_mut rfl rfl rfl (act_callS (cap := []) (ih (a0.drop (w64 ((a0.length : Int).tdiv 2)).toNat) A3_10 (a0.drop (w64 ((a0.length : Int).tdiv 2)).toNat).length c3_10 r3_11 hr3_11) rfl rfl rfl bd71 rfl ⟨(ms m0), trivial⟩) rfl (by rintro _ _ _ ⟨_, _, ⟨y3_11A0, y3_11n0, y3_11c0, rfl, rfl, rfl⟩, rfl, rfl⟩ w hs; exact hs.to trivial ⟨(ms (ms m0)), trivial⟩) ?_
      rintro _ _ _ ⟨_, _, ⟨y3_11A0, y3_11n0, y3_11c0, rfl, rfl, rfl⟩, rfl, rfl⟩
      dsimp only [List.nil_append, List.cons_append]
      refine hx_end ?_
      refine wl_know (fun _ h => h.lenO (ms m0)) (fun e => ?_)
      subst e
      refine wl_know (fun _ h => h.lenO m0) (fun e => ?_)
      subst e
      refine wl_det rfl rfl (det_assign rfl) rfl ?_
      refine wl_det rfl rfl (det_assign rfl) rfl ?_
      refine wl_nil ?_
      replace h := Option.some.inj h
      subst h
      exact pn_meetG ((r3_5, r3_11), y3_5A0, r3_5.length, y3_5c0, y3_11A0, r3_11.length, y3_11c0, ()) rfl ⟨rfl, rfl, trivial⟩ (fun _ h => h.to ⟨_, (rs r0), ⟨_, r0, trivial⟩⟩ trivial)
    rintro ⟨s8, A8_0, n8_0, c8_0, A8_3, n8_3, c8_3, _⟩ e8
    dsimp only at e8 ⊢
    subst e8
    have h := ho8
    refine wc_know (fun _ h => h.lenO m0) (fun e => ?_)
    subst e
    refine wc_know (fun _ h => h.lenO (ms m0)) (fun e => ?_)
    subst e
    refine wc_seq ?_
    refine wc_region ?_   -- region 4
    refine wl_det rfl rfl (det_assign rfl) rfl ?_
    refine wl_nil ?_
    refine pn_then ?_
    obtain ⟨q12, h, ho12⟩ := bind_some h
    refine wc_meetG (G := ((List GEntry) × (List GEntry) × (List GEntry)) × Option Addr × Nat × Nat × Option Addr × Nat × Nat × Option Addr × Nat × Nat × Unit) (fun (s12, _, _, _, _, _, _, _, _, _, _) => s12 = q12) (fun (_, A12_0, n12_0, c12_0, A12_3, n12_3, c12_3, A12_6, n12_6, c12_6, _) => [(3, .slice A12_0 n12_0 c12_0), (4, .slice A12_3 n12_3 c12_3), (5, .slice A12_6 n12_6 c12_6)]) (fun (s12, _, _, _, _, _, _, A12_6, n12_6, c12_6, _) => [eS lGEntry 41 A12_6 n12_6 c12_6 s12.2.2]) (fun (s12, A12_0, n12_0, c12_0, A12_3, n12_3, c12_3, _, _, _, _) => [fV (lSlice lGEntry) (.slice A12_0 n12_0 c12_0) s12.1, fV (lSlice lGEntry) (.slice A12_3 n12_3 c12_3) s12.2.1]) ?_ ?_
    · refine wc_block ?_
      refine wc_st (fun _ h => h.shutS r0) ?_
      refine wc_st (fun _ h => h.shutS r0) ?_
      refine wc_st (fun _ h => h.zeroS lGEntry 41 none) ?_
      obtain ⟨k14, hk14⟩ := loopV_some.1 h
      refine wc_loop (G := Nat × ((List GEntry) × (List GEntry) × (List GEntry)) × Option Addr × Nat × Nat × Option Addr × Nat × Nat × Option Addr × Nat × Nat × Unit) (fun g => IterN treatyref33_sorted_l14 g.1 g.2.1 q12) (fun g => g.1) (fun (_, _, A14_0, n14_0, c14_0, A14_3, n14_3, c14_3, A14_6, n14_6, c14_6, _) => [(3, .slice A14_0 n14_0 c14_0), (4, .slice A14_3 n14_3 c14_3), (5, .slice A14_6 n14_6 c14_6)]) (fun (_, s14, _, _, _, _, _, _, A14_6, n14_6, c14_6, _) => [eS lGEntry 41 A14_6 n14_6 c14_6 s14.2.2]) (fun (_, s14, A14_0, n14_0, c14_0, A14_3, n14_3, c14_3, _, _, _, _) => [fV (lSlice lGEntry) (.slice A14_0 n14_0 c14_0) s14.1, fV (lSlice lGEntry) (.slice A14_3 n14_3 c14_3) s14.2.1]) (k14, (s8.1, s8.2, []), A8_0, s8.1.length, c8_0, A8_3, s8.2.length, c8_3, none, 0, 0, ()) hk14 ⟨rfl, rfl, rfl, trivial⟩ (fun _ h => h.to ⟨_, r0, trivial⟩ ⟨(ms m0), ⟨m0, trivial⟩⟩) ?_
      rintro ⟨k14, s14, A14_0, n14_0, c14_0, A14_3, n14_3, c14_3, A14_6, n14_6, c14_6, _⟩ hI
      obtain ⟨k14, rfl, q14, h, g14⟩ := IterN.pos hI
      dsimp only at h ⊢
      unfold treatyref33_sorted_l14 at h
      refine wc_know (fun _ h => h.lenF m0) (fun e => ?_)
      subst e
      refine wc_know (fun _ h => h.lenF (ms m0)) (fun e => ?_)
      subst e
      refine wc_know (fun _ h => h.lenO m0) (fun e => ?_)
      subst e
      refine wc_seq ?_
      refine wc_seq ?_
      refine wc_region ?_   -- region 5
      refine wl_det rfl rfl (det_move rfl) rfl ?_
      refine wl_det rfl rfl (det_len rfl un37) rfl ?_
      refine wl_det rfl rfl (det_gtr rfl rfl) rfl ?_
      refine wl_det rfl rfl (det_move rfl) rfl ?_
      refine wl_way (decide (0 < (s14.1.length : Int))) ((decide (0 < (s14.1.length : Int))) && (decide (0 < (s14.2.1.length : Int)))) 4 31 (fun hg => ?_) (fun hg => ?_) ?_
      · have hg5_7 := hg
        refine wl_on rfl rfl rfl rfl hg5_7 ?_
        refine wl_det rfl rfl (det_move rfl) rfl ?_
        refine wl_on rfl rfl rfl rfl hg5_7 ?_
        refine wl_det rfl rfl (det_len rfl un37) rfl ?_
        refine wl_on rfl rfl rfl rfl hg5_7 ?_
        refine wl_det rfl rfl (det_gtr rfl rfl) rfl ?_
        refine wl_det rfl rfl (det_and_on rfl rfl rfl hg5_7) rfl ?_
        exact wl_nil (pn_qnE (ext_cons rfl (ext_skip rfl (ext_skip rfl (ext_skip rfl (ext_skip rfl ext_refl))))) (fun _ h => h))
      · have hg5_7a := hg
        refine wl_off rfl rfl rfl rfl rfl hg5_7a rfl ?_
        refine wl_off rfl rfl rfl rfl rfl hg5_7a rfl ?_
        refine wl_off rfl rfl rfl rfl rfl hg5_7a rfl ?_
        refine wl_det rfl rfl (det_and_off (q := (decide (0 < (s14.2.1.length : Int)))) rfl rfl rfl hg5_7a) rfl ?_
        exact wl_nil (pn_qnE (ext_cons rfl (ext_skip rfl (ext_skip rfl (ext_skip rfl (ext_skip rfl ext_refl))))) (fun _ h => h))
      refine wl_nil ?_
      refine pn_then ?_
      refine wc_cond rfl (fun cd18 => ?_) (fun cd18 => ?_)
      · have h := ifT h cd18
        refine wc_skip ?_
        refine pn_then ?_
        refine wc_block ?_
        refine wc_seq ?_
        obtain ⟨k6_p1, h⟩ := chk_some h
        refine wc_st (fun _ h => h.openF (ms m0) k6_p1) ?_
        obtain ⟨k6_p3, h⟩ := chk_some h
        refine wc_st (fun _ h => h.openF (ms m0) k6_p3) ?_
        refine dx_region 7 [[], [0], [0, 1], [], [3], [3, 4], [0, 1, 2, 3, 4, 5]] mixed (ord := (.det 0 (.det 1 (.det 2 (.det 3 (.det 4 (.det 5 (.alt 6 .done .dead)))))))) (by kernel_rfl) ?_   -- region 6
        refine hx_det rfl rfl rfl nofun (det_move rfl) rfl ?_
        refine hx_det rfl rfl rfl nofun (det_indexP rfl rfl (ms (ms (ms m0))) k6_p1 (ms m0) un37 sz41) rfl ?_
        refine hx_det rfl rfl rfl nofun (det_loadP (off := 0) rfl (ms m0) (by rfl) (by rfl) (loaded_n (cells := [_, _, _, _, _]) ag41 sz41)) rfl ?_
        refine hx_det rfl rfl rfl nofun (det_move rfl) rfl ?_
        refine hx_det rfl rfl rfl nofun (det_indexP rfl rfl (ms (ms m0)) k6_p3 m0 un37 sz41) rfl ?_
        refine hx_det rfl rfl rfl nofun (det_loadP (off := 0) rfl m0 (by rfl) (by rfl) (loaded_n (cells := [_, _, _, _, _]) ag41 sz41)) rfl ?_
        obtain ⟨r6_6, hr6_6, h⟩ := bind_some h
        refine hx_act rfl rfl rfl (act_callS (cap := []) (W_treatyref33_Before (ix s14.2.1 0) (ix s14.1 0) r6_6 hr6_6) rfl rfl rfl bd72 rfl trivial) rfl (by rintro _ _ _ ⟨_, _, _, rfl, rfl⟩; first | exact ⟨_, _, rfl, rfl⟩ | exact ⟨_, [], rfl, rfl⟩) ?_
        rintro _ _ _ ⟨_, _, ⟨rfl, rfl, rfl⟩, rfl, rfl⟩
        dsimp only [List.nil_append, List.cons_append]
        refine hx_end ?_
        refine wl_nil ?_
        refine pn_then ?_
        refine wc_cond rfl (fun cd23 => ?_) (fun cd23 => ?_)
        · have h := ifT h cd23
          obtain ⟨k7_p1, h⟩ := chk_some h
          obtain ⟨k7_p2, h⟩ := chk_some h
          refine dx_regionZ (Z := St C [] [_, _, _, _]) 9 [[], [], [1], [1, 2], [1, 2, 3], [0, 1, 2, 3, 4], [], [6], [0, 1, 2, 3, 4, 5], [0, 1, 2, 3, 4, 5, 6, 7, 8]] mixed (ord := (.det 0 (.det 1 (.det 2 (.det 3 (.det 6 (.alt 4 (.alt 5 (.det 8 (.alt 7 .done .dead)) (.alt 7 (.alt 5 (.det 8 .done) .dead) .dead)) (.alt 7 (.alt 4 (.alt 5 (.det 8 .done) .dead) .dead) .dead)))))))) (by kernel_rfl) (fun _ h => h.to trivial ⟨m0, ⟨(ms m0), ⟨(ms (ms m0)), ⟨(ms (ms (ms m0))), trivial⟩⟩⟩⟩) ?_   -- region 7
          refine hx_det rfl rfl rfl nofun (det_move rfl) rfl ?_
          refine hx_det rfl rfl rfl nofun (det_move rfl) rfl ?_
          refine hx_det rfl rfl rfl nofun (det_indexP rfl rfl (ms (ms (ms m0))) k6_p1 (ms m0) un37 sz41) rfl ?_
          refine hx_det rfl rfl rfl nofun (det_loadP (off := 0) rfl (ms m0) (by rfl) (by rfl) (loaded_n (cells := [_, _, _, _, _]) ag41 sz41)) rfl ?_
          refine hx_det rfl rfl rfl nofun (det_move rfl) rfl ?_
          refine hx_or ?_ ?_
          · refine hx_mut rfl rfl rfl (act_litS lGEntry (vs := [_]) (cs := [_, _, _, _, _]) [(ix s14.2.1 0)] un37 in41 rfl rfl rfl rfl rfl ⟨rfl, trivial⟩ (by rfl) rfl (litR_flat rfl)) rfl (by rintro _ _ _ ⟨A7_4, rfl, rfl, rfl⟩ w hs; exact hs.to trivial ⟨m0, ⟨(ms m0), ⟨(ms (ms m0)), ⟨(ms (ms (ms m0))), trivial⟩⟩⟩⟩) ?_
            rintro _ _ _ ⟨A7_4, rfl, rfl, rfl⟩
            refine hx_or ?_ ?_
            · refine hx_mut rfl rfl rfl (act_appendS (L := lGEntry) rfl rfl (ss s0) (src_O m0) un37 in41 rfl rfl rfl k7_p1) rfl (by rintro _ _ _ ⟨A7_5, c7_5, rfl, rfl, rfl⟩ w hs; exact hs.to trivial ⟨m0, ⟨(ms m0), ⟨(ms (ms m0)), ⟨(ms (ms (ms m0))), trivial⟩⟩⟩⟩) ?_
              rintro _ _ _ ⟨A7_5, c7_5, rfl, rfl, rfl⟩
              refine hx_det rfl rfl rfl nofun (det_assign rfl) rfl ?_
              refine hx_mut rfl rfl rfl (act_sliceL rfl rfl (ms (ms (ms m0))) un37 sz41 rfl rfl k7_p2) rfl (by rintro _ _ _ ⟨A7_7, c7_7, rfl, rfl, rfl⟩ w hs; exact hs.to trivial ⟨(ms m0), ⟨(ms (ms m0)), ⟨(ms (ms (ms m0))), ⟨(ms (ms (ms (ms m0)))), trivial⟩⟩⟩⟩) ?_
              rintro _ _ _ ⟨A7_7, c7_7, rfl, rfl, rfl⟩
              refine hx_end ?_
              refine wl_det rfl rfl (det_assign rfl) rfl ?_
              refine wl_nil ?_
              refine pn_block ?_
              replace h := Option.some.inj h
              subst h
              exact pn_some (k14, (s14.1, (s14.2.1.drop (1 : Int).toNat), (s14.2.2 ++ [(ix s14.2.1 0)])), A14_0, s14.1.length, c14_0, A7_7, (s14.2.1.drop (1 : Int).toNat).length, c7_7, A7_5, (s14.2.2 ++ [(ix s14.2.1 0)]).length, c7_5, ()) ⟨nextL g14, Nat.lt_succ_self _⟩ ⟨rfl, rfl, rfl, trivial⟩ (fun _ h => h.to ⟨_, (rs r0), trivial⟩ ⟨(ms (ms (ms m0))), ⟨m0, trivial⟩⟩)
            refine hx_or ?_ trivial
            refine hx_mut rfl rfl rfl (act_sliceL rfl rfl (ms (ms (ms m0))) un37 sz41 rfl rfl k7_p2) rfl (by rintro _ _ _ ⟨A7_7, c7_7, rfl, rfl, rfl⟩ w hs; exact hs.to trivial ⟨(ms m0), ⟨(ms (ms m0)), ⟨(ms (ms (ms m0))), ⟨(ms (ms (ms (ms m0)))), trivial⟩⟩⟩⟩) ?_
            rintro _ _ _ ⟨A7_7, c7_7, rfl, rfl, rfl⟩
            refine hx_mut rfl rfl rfl (act_appendS (L := lGEntry) rfl rfl (ss s0) (src_O m0) un37 in41 rfl rfl rfl k7_p1) rfl (by rintro _ _ _ ⟨A7_5, c7_5, rfl, rfl, rfl⟩ w hs; exact hs.to trivial ⟨(ms m0), ⟨(ms (ms m0)), ⟨(ms (ms (ms m0))), ⟨(ms (ms (ms (ms m0)))), trivial⟩⟩⟩⟩) ?_
            rintro _ _ _ ⟨A7_5, c7_5, rfl, rfl, rfl⟩
            refine hx_det rfl rfl rfl nofun (det_assign rfl) rfl ?_
            refine hx_end ?_
            refine wl_det rfl rfl (det_assign rfl) rfl ?_
            refine wl_nil ?_
            refine pn_block ?_
            replace h := Option.some.inj h
            subst h
            exact pn_some (k14, (s14.1, (s14.2.1.drop (1 : Int).toNat), (s14.2.2 ++ [(ix s14.2.1 0)])), A14_0, s14.1.length, c14_0, A7_7, (s14.2.1.drop (1 : Int).toNat).length, c7_7, A7_5, (s14.2.2 ++ [(ix s14.2.1 0)]).length, c7_5, ()) ⟨nextL g14, Nat.lt_succ_self _⟩ ⟨rfl, rfl, rfl, trivial⟩ (fun _ h => h.to ⟨_, (rs r0), trivial⟩ ⟨(ms (ms (ms m0))), ⟨m0, trivial⟩⟩)
          refine hx_or ?_ trivial
          refine hx_mut rfl rfl rfl (act_sliceL rfl rfl (ms (ms (ms m0))) un37 sz41 rfl rfl k7_p2) rfl (by rintro _ _ _ ⟨A7_7, c7_7, rfl, rfl, rfl⟩ w hs; exact hs.to trivial ⟨(ms m0), ⟨(ms (ms m0)), ⟨(ms (ms (ms m0))), ⟨(ms (ms (ms (ms m0)))), trivial⟩⟩⟩⟩) ?_
          rintro _ _ _ ⟨A7_7, c7_7, rfl, rfl, rfl⟩
          refine hx_mut rfl rfl rfl (act_litS lGEntry (vs := [_]) (cs := [_, _, _, _, _]) [(ix s14.2.1 0)] un37 in41 rfl rfl rfl rfl rfl ⟨rfl, trivial⟩ (by rfl) rfl (litR_flat rfl)) rfl (by rintro _ _ _ ⟨A7_4, rfl, rfl, rfl⟩ w hs; exact hs.to trivial ⟨(ms m0), ⟨(ms (ms m0)), ⟨(ms (ms (ms m0))), ⟨(ms (ms (ms (ms m0)))), trivial⟩⟩⟩⟩) ?_
          rintro _ _ _ ⟨A7_4, rfl, rfl, rfl⟩
          refine hx_mut rfl rfl rfl (act_appendS (L := lGEntry) rfl rfl (ss s0) (src_O m0) un37 in41 rfl rfl rfl k7_p1) rfl (by rintro _ _ _ ⟨A7_5, c7_5, rfl, rfl, rfl⟩ w hs; exact hs.to trivial ⟨(ms m0), ⟨(ms (ms m0)), ⟨(ms (ms (ms m0))), ⟨(ms (ms (ms (ms m0)))), trivial⟩⟩⟩⟩) ?_
          rintro _ _ _ ⟨A7_5, c7_5, rfl, rfl, rfl⟩
          refine hx_det rfl rfl rfl nofun (det_assign rfl) rfl ?_
          refine hx_end ?_
          refine wl_det rfl rfl (det_assign rfl) rfl ?_
          refine wl_nil ?_
          refine pn_block ?_
          replace h := Option.some.inj h
          subst h
          exact pn_some (k14, (s14.1, (s14.2.1.drop (1 : Int).toNat), (s14.2.2 ++ [(ix s14.2.1 0)])), A14_0, s14.1.length, c14_0, A7_7, (s14.2.1.drop (1 : Int).toNat).length, c7_7, A7_5, (s14.2.2 ++ [(ix s14.2.1 0)]).length, c7_5, ()) ⟨nextL g14, Nat.lt_succ_self _⟩ ⟨rfl, rfl, rfl, trivial⟩ (fun _ h => h.to ⟨_, (rs r0), trivial⟩ ⟨(ms (ms (ms m0))), ⟨m0, trivial⟩⟩)
        · have h := ifF h cd23
          obtain ⟨k8_p1, h⟩ := chk_some h
          obtain ⟨k8_p2, h⟩ := chk_some h
          refine dx_regionZ (Z := St C [] [_, _, _, _]) 9 [[], [], [1], [1, 2], [1, 2, 3], [0, 1, 2, 3, 4], [], [6], [0, 1, 2, 3, 4, 5], [0, 1, 2, 3, 4, 5, 6, 7, 8]] mixed (ord := (.det 0 (.det 1 (.det 2 (.det 3 (.det 6 (.alt 4 (.alt 5 (.det 8 (.alt 7 .done .dead)) (.alt 7 (.alt 5 (.det 8 .done) .dead) .dead)) (.alt 7 (.alt 4 (.alt 5 (.det 8 .done) .dead) .dead) .dead)))))))) (by kernel_rfl) (fun _ h => h.to trivial ⟨m0, ⟨(ms m0), ⟨(ms (ms m0)), ⟨(ms (ms (ms m0))), trivial⟩⟩⟩⟩) ?_   -- region 8
          refine hx_det rfl rfl rfl nofun (det_move rfl) rfl ?_
          refine hx_det rfl rfl rfl nofun (det_move rfl) rfl ?_
          refine hx_det rfl rfl rfl nofun (det_indexP rfl rfl (ms (ms m0)) k6_p3 m0 un37 sz41) rfl ?_
          refine hx_det rfl rfl rfl nofun (det_loadP (off := 0) rfl m0 (by rfl) (by rfl) (loaded_n (cells := [_, _, _, _, _]) ag41 sz41)) rfl ?_
          refine hx_det rfl rfl rfl nofun (det_move rfl) rfl ?_
          refine hx_or ?_ ?_
          · refine hx_mut rfl rfl rfl (act_litS lGEntry (vs := [_]) (cs := [_, _, _, _, _]) [(ix s14.1 0)] un37 in41 rfl rfl rfl rfl rfl ⟨rfl, trivial⟩ (by rfl) rfl (litR_flat rfl)) rfl (by rintro _ _ _ ⟨A8_4, rfl, rfl, rfl⟩ w hs; exact hs.to trivial ⟨m0, ⟨(ms m0), ⟨(ms (ms m0)), ⟨(ms (ms (ms m0))), trivial⟩⟩⟩⟩) ?_
            rintro _ _ _ ⟨A8_4, rfl, rfl, rfl⟩
            refine hx_or ?_ ?_
            · refine hx_mut rfl rfl rfl (act_appendS (L := lGEntry) rfl rfl (ss s0) (src_O m0) un37 in41 rfl rfl rfl k8_p1) rfl (by rintro _ _ _ ⟨A8_5, c8_5, rfl, rfl, rfl⟩ w hs; exact hs.to trivial ⟨m0, ⟨(ms m0), ⟨(ms (ms m0)), ⟨(ms (ms (ms m0))), trivial⟩⟩⟩⟩) ?_
              rintro _ _ _ ⟨A8_5, c8_5, rfl, rfl, rfl⟩
              refine hx_det rfl rfl rfl nofun (det_assign rfl) rfl ?_
              refine hx_mut rfl rfl rfl (act_sliceL rfl rfl (ms (ms m0)) un37 sz41 rfl rfl k8_p2) rfl (by rintro _ _ _ ⟨A8_7, c8_7, rfl, rfl, rfl⟩ w hs; exact hs.to trivial ⟨(ms m0), ⟨(ms (ms m0)), ⟨(ms (ms (ms m0))), ⟨(ms (ms (ms (ms m0)))), trivial⟩⟩⟩⟩) ?_
              rintro _ _ _ ⟨A8_7, c8_7, rfl, rfl, rfl⟩
              refine hx_end ?_
              refine wl_det rfl rfl (det_assign rfl) rfl ?_
              refine wl_nil ?_
              refine pn_block ?_
              replace h := Option.some.inj h
              subst h
              exact pn_some (k14, ((s14.1.drop (1 : Int).toNat), s14.2.1, (s14.2.2 ++ [(ix s14.1 0)])), A8_7, (s14.1.drop (1 : Int).toNat).length, c8_7, A14_3, s14.2.1.length, c14_3, A8_5, (s14.2.2 ++ [(ix s14.1 0)]).length, c8_5, ()) ⟨nextL g14, Nat.lt_succ_self _⟩ ⟨rfl, rfl, rfl, trivial⟩ (fun _ h => h.to ⟨_, (rs r0), trivial⟩ ⟨m0, ⟨(ms (ms (ms (ms m0)))), trivial⟩⟩)
            refine hx_or ?_ trivial
            refine hx_mut rfl rfl rfl (act_sliceL rfl rfl (ms (ms m0)) un37 sz41 rfl rfl k8_p2) rfl (by rintro _ _ _ ⟨A8_7, c8_7, rfl, rfl, rfl⟩ w hs; exact hs.to trivial ⟨(ms m0), ⟨(ms (ms m0)), ⟨(ms (ms (ms m0))), ⟨(ms (ms (ms (ms m0)))), trivial⟩⟩⟩⟩) ?_
            rintro _ _ _ ⟨A8_7, c8_7, rfl, rfl, rfl⟩
            refine hx_mut rfl rfl rfl (act_appendS (L := lGEntry) rfl rfl (ss s0) (src_O m0) un37 in41 rfl rfl rfl k8_p1) rfl (by rintro _ _ _ ⟨A8_5, c8_5, rfl, rfl, rfl⟩ w hs; exact hs.to trivial ⟨(ms m0), ⟨(ms (ms m0)), ⟨(ms (ms (ms m0))), ⟨(ms (ms (ms (ms m0)))), trivial⟩⟩⟩⟩) ?_
            rintro _ _ _ ⟨A8_5, c8_5, rfl, rfl, rfl⟩
            refine hx_det rfl rfl rfl nofun (det_assign rfl) rfl ?_
            refine hx_end ?_
            refine wl_det rfl rfl (det_assign rfl) rfl ?_
            refine wl_nil ?_
            refine pn_block ?_
            replace h := Option.some.inj h
            subst h
            exact pn_some (k14, ((s14.1.drop (1 : Int).toNat), s14.2.1, (s14.2.2 ++ [(ix s14.1 0)])), A8_7, (s14.1.drop (1 : Int).toNat).length, c8_7, A14_3, s14.2.1.length, c14_3, A8_5, (s14.2.2 ++ [(ix s14.1 0)]).length, c8_5, ()) ⟨nextL g14, Nat.lt_succ_self _⟩ ⟨rfl, rfl, rfl, trivial⟩ (fun _ h => h.to ⟨_, (rs r0), trivial⟩ ⟨m0, ⟨(ms (ms (ms (ms m0)))), trivial⟩⟩)
          refine hx_or ?_ trivial
          refine hx_mut rfl rfl rfl (act_sliceL rfl rfl (ms (ms m0)) un37 sz41 rfl rfl k8_p2) rfl (by rintro _ _ _ ⟨A8_7, c8_7, rfl, rfl, rfl⟩ w hs; exact hs.to trivial ⟨(ms m0), ⟨(ms (ms m0)), ⟨(ms (ms (ms m0))), ⟨(ms (ms (ms (ms m0)))), trivial⟩⟩⟩⟩) ?_
          rintro _ _ _ ⟨A8_7, c8_7, rfl, rfl, rfl⟩
          refine hx_mut rfl rfl rfl (act_litS lGEntry (vs := [_]) (cs := [_, _, _, _, _]) [(ix s14.1 0)] un37 in41 rfl rfl rfl rfl rfl ⟨rfl, trivial⟩ (by rfl) rfl (litR_flat rfl)) rfl (by rintro _ _ _ ⟨A8_4, rfl, rfl, rfl⟩ w hs; exact hs.to trivial ⟨(ms m0), ⟨(ms (ms m0)), ⟨(ms (ms (ms m0))), ⟨(ms (ms (ms (ms m0)))), trivial⟩⟩⟩⟩) ?_
          rintro _ _ _ ⟨A8_4, rfl, rfl, rfl⟩
          refine hx_mut rfl rfl rfl (act_appendS (L := lGEntry) rfl rfl (ss s0) (src_O m0) un37 in41 rfl rfl rfl k8_p1) rfl (by rintro _ _ _ ⟨A8_5, c8_5, rfl, rfl, rfl⟩ w hs; exact hs.to trivial ⟨(ms m0), ⟨(ms (ms m0)), ⟨(ms (ms (ms m0))), ⟨(ms (ms (ms (ms m0)))), trivial⟩⟩⟩⟩) ?_
          rintro _ _ _ ⟨A8_5, c8_5, rfl, rfl, rfl⟩
          refine hx_det rfl rfl rfl nofun (det_assign rfl) rfl ?_
          refine hx_end ?_
          refine wl_det rfl rfl (det_assign rfl) rfl ?_
          refine wl_nil ?_
          refine pn_block ?_
          replace h := Option.some.inj h
          subst h
          exact pn_some (k14, ((s14.1.drop (1 : Int).toNat), s14.2.1, (s14.2.2 ++ [(ix s14.1 0)])), A8_7, (s14.1.drop (1 : Int).toNat).length, c8_7, A14_3, s14.2.1.length, c14_3, A8_5, (s14.2.2 ++ [(ix s14.1 0)]).length, c8_5, ()) ⟨nextL g14, Nat.lt_succ_self _⟩ ⟨rfl, rfl, rfl, trivial⟩ (fun _ h => h.to ⟨_, (rs r0), trivial⟩ ⟨m0, ⟨(ms (ms (ms (ms m0)))), trivial⟩⟩)
      · have h := ifF h cd18
        refine wc_exit ?_
        refine px_then ?_
        refine px_then ?_
        refine px_block ?_
        replace h := Option.some.inj h
        subst h
        replace g14 := nextR g14
        subst g14
        exact pn_meetG ((s14.1, s14.2.1, s14.2.2), A14_0, s14.1.length, c14_0, A14_3, s14.2.1.length, c14_3, A14_6, s14.2.2.length, c14_6, ()) rfl ⟨rfl, rfl, rfl, trivial⟩ (fun _ h => h.to ⟨_, r0, trivial⟩ ⟨m0, ⟨(ms m0), trivial⟩⟩)
    rintro ⟨s12, A12_0, n12_0, c12_0, A12_3, n12_3, c12_3, A12_6, n12_6, c12_6, _⟩ e12
    dsimp only at e12 ⊢
    subst e12
    have h := ho12
    refine wc_know (fun _ h => h.lenF m0) (fun e => ?_)
    subst e
    refine wc_know (fun _ h => h.lenF (ms m0)) (fun e => ?_)
    subst e
    refine wc_know (fun _ h => h.lenO m0) (fun e => ?_)
    subst e
    refine wc_seq ?_
    refine wc_region ?_   -- region 9
    refine wl_det rfl rfl (det_move rfl) rfl ?_
    refine wl_det rfl rfl (det_move rfl) rfl ?_
    obtain ⟨k9_2, h⟩ := chk_some h
    refine wl_act (act_appendS (L := lGEntry) rfl rfl s0 (src_F m0) un37 in41 rfl rfl rfl k9_2) rfl rfl rfl ?_
    rintro _ _ _ ⟨A9_2, c9_2, rfl, rfl, rfl⟩
    refine wl_det rfl rfl (det_move rfl) rfl ?_
    obtain ⟨k9_4, h⟩ := chk_some h
    refine wl_act (act_appendS (L := lGEntry) rfl rfl s0 (src_F (ms m0)) un37 in41 rfl rfl rfl k9_4) rfl rfl rfl ?_
    rintro _ _ _ ⟨A9_4, c9_4, rfl, rfl, rfl⟩
    refine wl_det rfl rfl (det_assign rfl) rfl ?_
    refine wl_nil ?_
    refine pn_then ?_
    refine wc_ret ?_
    replace h := Option.some.inj h
    subst h
    refine pn_ret (vs := [_]) rfl ⟨rfl, trivial⟩ ⟨A9_4, ((s12.2.2 ++ s12.1) ++ s12.2.1).length, c9_4, rfl, rfl, rfl⟩ (fun _ h => h.to ⟨_, r0, trivial⟩ trivial)
theorem W_treatyref33_sorted_n : ∀ (k : Nat) (a0 : (List GEntry)) (A0 : Option Addr) (n0 : Nat) (c0 : Nat) (r : (List GEntry)), treatyref33_sorted_n k a0 = some r → Spec Try.prog 71 [.slice A0 n0 c0] [] [fV (lSlice lGEntry) (.slice A0 n0 c0) a0] (Q_treatyref33_sorted r)
  | 0, _, _, _, _, _, h => by cases h
  | k + 1, a0, A0, n0, c0, r, h => W_treatyref33_sorted_F (treatyref33_sorted_n k) (fun a0 A0 n0 c0 r h => W_treatyref33_sorted_n k a0 A0 n0 c0 r h) a0 A0 n0 c0 r h
theorem W_treatyref33_sorted (a0 : (List GEntry)) (A0 : Option Addr) (n0 : Nat) (c0 : Nat) (r : (List GEntry)) (h : treatyref33_sorted a0 = some r) : Spec Try.prog 71 [.slice A0 n0 c0] [] [fV (lSlice lGEntry) (.slice A0 n0 c0) a0] (Q_treatyref33_sorted r) := by
  obtain ⟨k, hk⟩ := recV_some h
  exact W_treatyref33_sorted_n k a0 A0 n0 c0 r hk
def Q_treatyref01_Valid (r : Bool) : Value → List Ent → List Fact → Prop := fun v θ κ => v = .bool r ∧ θ = [] ∧ κ = []
theorem plains_treatyref01_Valid {r : Bool} : ∀ v θ κ, Q_treatyref01_Valid r v θ κ → Plains θ := by
  rintro _ _ _ ⟨rfl, rfl, rfl⟩
  exact trivial
set_option maxHeartbeats 4000000 in
set_option maxRecDepth 100000 in
theorem W_treatyref01_Valid (a0 : Int) (r : Bool) (h : treatyref01_Valid a0 = some r) : Spec Try.prog 52 [.int .i64 a0] [] [] (Q_treatyref01_Valid r) := by
  unfold treatyref01_Valid at h
  refine spec_of (σ := [(0, _)]) Try.func52 rfl rfl rfl rfl ?_
  intro C
  refine wc_seq ?_
  refine wc_region ?_   -- region 0
  refine wl_det rfl rfl (det_assign rfl) rfl ?_
  refine wl_nil ?_
  refine pn_then ?_
  refine wc_seq ?_
  refine wc_region ?_   -- region 1
  refine wl_det rfl rfl (det_move rfl) rfl ?_
  refine wl_det rfl rfl (det_geq rfl rfl) rfl ?_
  refine wl_det rfl rfl (det_move rfl) rfl ?_
  refine wl_way (decide ((-17592186044416) ≤ a0)) ((decide ((-17592186044416) ≤ a0)) && (decide (a0 ≤ 17592186044416))) 3 8 (fun hg => ?_) (fun hg => ?_) ?_
  · have hg1_5 := hg
    refine wl_on rfl rfl rfl rfl hg1_5 ?_
    refine wl_det rfl rfl (det_move rfl) rfl ?_
    refine wl_on rfl rfl rfl rfl hg1_5 ?_
    refine wl_det rfl rfl (det_leq rfl rfl) rfl ?_
    refine wl_det rfl rfl (det_and_on rfl rfl rfl hg1_5) rfl ?_
    exact wl_nil (pn_qnE (ext_cons rfl (ext_skip rfl (ext_skip rfl (ext_skip rfl ext_refl)))) (fun _ h => h))
  · have hg1_5a := hg
    refine wl_off rfl rfl rfl rfl rfl hg1_5a rfl ?_
    refine wl_off rfl rfl rfl rfl rfl hg1_5a rfl ?_
    refine wl_det rfl rfl (det_and_off (q := (decide (a0 ≤ 17592186044416))) rfl rfl rfl hg1_5a) rfl ?_
    exact wl_nil (pn_qnE (ext_cons rfl (ext_skip rfl (ext_skip rfl (ext_skip rfl ext_refl)))) (fun _ h => h))
  refine wl_det rfl rfl (det_assign rfl) rfl ?_
  refine wl_nil ?_
  refine pn_then ?_
  refine wc_ret ?_
  replace h := Option.some.inj h
  subst h
  refine pn_ret (vs := [_]) rfl ⟨rfl, trivial⟩ ⟨rfl, rfl, rfl⟩ (fun _ h => h.to trivial trivial)
def Q_treatyref33_sums (r : (List GEntry) × Bool) : Value → List Ent → List Fact → Prop := fun v θ κ => ∃ (pA0 : Option Addr), ∃ (pn0 : Nat), ∃ (pc0 : Nat), v = .tuple #[.slice pA0 pn0 pc0, .bool r.2] ∧ θ = [eS lGEntry 41 pA0 pn0 pc0 r.1] ∧ κ = []
theorem plains_treatyref33_sums {r : (List GEntry) × Bool} : ∀ v θ κ, Q_treatyref33_sums r v θ κ → Plains θ := by
  rintro _ _ _ ⟨_, _, _, rfl, rfl, rfl⟩
  exact ⟨plain_eS, trivial⟩
set_option maxHeartbeats 4000000 in
set_option maxRecDepth 100000 in
theorem W_treatyref33_sums (a0 : (List GEntry)) (A0 : Option Addr) (n0 : Nat) (c0 : Nat) (r : (List GEntry) × Bool) (h : treatyref33_sums a0 = some r) : Spec Try.prog 56 [.slice A0 n0 c0] [] [fV (lSlice lGEntry) (.slice A0 n0 c0) a0] (Q_treatyref33_sums r) := by
  unfold treatyref33_sums at h
  refine spec_of (σ := [(0, _)]) Try.func56 rfl rfl rfl rfl ?_
  intro C
  refine wc_know (fun _ h => h.lenF m0) (fun e => ?_)
  subst e
  refine wc_seq ?_
  refine wc_region ?_   -- region 0
  refine wl_det rfl rfl (det_assign rfl) rfl ?_
  refine wl_det rfl rfl (det_assign rfl) rfl ?_
  refine wl_nil ?_
  refine pn_then ?_
  refine wc_seq ?_
  refine wc_region ?_   -- region 1
  refine wl_det rfl rfl (det_assign rfl) rfl ?_
  refine wl_nil ?_
  refine pn_then ?_
  refine wc_seq ?_
  refine wc_region ?_   -- region 2
  refine wl_det rfl rfl (det_move rfl) rfl ?_
  obtain ⟨r2_1, hr2_1, h⟩ := bind_some h
  refine wl_act (act_callS (cap := []) (W_treatyref33_sorted a0 A0 a0.length c0 r2_1 hr2_1) rfl rfl rfl bd71 rfl ⟨m0, trivial⟩) rfl rfl rfl ?_
  rintro _ _ _ ⟨_, _, ⟨y2_1A0, y2_1n0, y2_1c0, rfl, rfl, rfl⟩, rfl, rfl⟩
  dsimp only [List.nil_append, List.cons_append]
  refine wl_know (fun _ h => h.lenO m0) (fun e => ?_)
  subst e
  refine wl_det rfl rfl (det_assign rfl) rfl ?_
  refine wl_nil ?_
  refine pn_then ?_
  obtain ⟨q6, h, ho6⟩ := bind_some h
  refine wc_meetG (G := (List GEntry) × Option Addr × Nat × Nat × Unit) (fun (s6, _, _, _, _) => (.inl s6) = q6) (fun (_, A6_0, n6_0, c6_0, _) => [(4, .slice A6_0 n6_0 c6_0)]) (fun (s6, A6_0, n6_0, c6_0, _) => [eS lGEntry 41 A6_0 n6_0 c6_0 s6]) (fun (_, _, _, _, _) => []) ?_ ?_
  · refine wc_seq ?_
    refine wc_region ?_   -- region 3
    refine wl_det rfl rfl (det_assign rfl) rfl ?_
    refine wl_nil ?_
    refine pn_then ?_
    refine wc_block ?_
    refine wc_st (fun _ h => h.zeroS lGEntry 41 none) ?_
    obtain ⟨o10, h, ho10⟩ := bind_some h
    obtain ⟨k10, hk10⟩ := loopV_some.1 h
    refine wc_loop (G := Nat × ((List GEntry) × Int) × Option Addr × Nat × Nat × Unit) (fun g => IterN (treatyref33_sums_l10 r2_1) g.1 g.2.1 o10) (fun g => g.1) (fun (_, s10, A10_0, n10_0, c10_0, _) => [(4, .slice A10_0 n10_0 c10_0), (5, .slice y2_1A0 r2_1.length y2_1c0), (6, .int .i64 s10.2)]) (fun (_, s10, A10_0, n10_0, c10_0, _) => [eS lGEntry 41 A10_0 n10_0 c10_0 s10.1, eS lGEntry 41 y2_1A0 r2_1.length y2_1c0 r2_1]) (fun (_, _, _, _, _, _) => []) (k10, ([], 0), none, 0, 0, ()) hk10 ⟨rfl, rfl, rfl, trivial⟩ (fun _ h => h.to ⟨_, r0, ⟨_, r0, trivial⟩⟩ trivial) ?_
    rintro ⟨k10, s10, A10_0, n10_0, c10_0, _⟩ hI
    obtain ⟨k10, rfl, q10, h, g10⟩ := IterN.pos hI
    dsimp only at h ⊢
    unfold treatyref33_sums_l10 at h
    refine wc_know (fun _ h => h.lenO m0) (fun e => ?_)
    subst e
    refine wc_seq ?_
    refine wc_seq ?_
    refine wc_region ?_   -- region 4
    refine wl_det rfl rfl (det_move rfl) rfl ?_
    refine wl_det rfl rfl (det_move rfl) rfl ?_
    refine wl_det rfl rfl (det_len rfl un37) rfl ?_
    refine wl_det rfl rfl (det_lss rfl rfl) rfl ?_
    refine wl_nil ?_
    refine pn_then ?_
    refine wc_cond rfl (fun cd14 => ?_) (fun cd14 => ?_)
    · have h := ifT h cd14
      refine wc_skip ?_
      refine pn_then ?_
      refine wc_block ?_
      refine wc_seq ?_
      refine wc_region ?_   -- region 5
      refine wl_det rfl rfl (det_move rfl) rfl ?_
      refine wl_det rfl rfl (det_move rfl) rfl ?_
      obtain ⟨k5_2, h⟩ := chk_some h
      refine wl_det rfl rfl (det_indexO rfl rfl (ms m0) k5_2 un37 sz41) rfl ?_
      refine wl_det rfl rfl (det_loadO (off := 0) rfl (ms m0) k5_2 (by rfl) (by rfl) (loaded_n (cells := [_, _, _, _, _]) ag41 sz41)) rfl ?_
      refine wl_act (act_alloc (cs := [_, _, _, _, _]) zr41 rfl) rfl rfl rfl ?_
      rintro _ _ _ ⟨b5_4, rfl, rfl, rfl⟩
      refine wl_act0 (act_store (cells := [_, _, _, _, _]) (cs' := [_, _, _, _, _]) rfl rfl rfl s0 (by rfl) (of_decide_eq_true rfl) sz41 ⟨rfl, rfl, rfl, rfl, rfl, trivial⟩) rfl rfl ?_
      rintro _ _ _ ⟨rfl, rfl⟩
      refine wl_nil ?_
      refine pn_then ?_
      obtain ⟨q19, h, ho19⟩ := bind_some h
      refine wc_meetG (G := (Int × Int) × Unit) (fun (s19, _) => s19 = q19) (fun (s19, _) => [(4, .slice A10_0 s10.1.length c10_0), (5, .slice y2_1A0 r2_1.length y2_1c0), (6, .int .i64 s19.1), (7, .pointer (some ⟨b5_4, 0, none⟩))]) (fun (s19, _) => [eS lGEntry 41 A10_0 s10.1.length c10_0 s10.1, eS lGEntry 41 y2_1A0 r2_1.length y2_1c0 r2_1, eBlk b5_4 41 [.int .i64 (ix r2_1 s10.2).Kind, .int .i64 (ix r2_1 s10.2).Treaty, .int .i64 (ix r2_1 s10.2).Party, .int .i64 (ix r2_1 s10.2).Loss, .int .i64 s19.2]]) (fun (_, _) => []) ?_ ?_
      · refine wc_seq ?_
        refine wc_region ?_   -- region 6
        refine wl_det rfl rfl (det_move rfl) rfl ?_
        refine wl_det rfl rfl (det_add rfl rfl) rfl ?_
        refine wl_det rfl rfl (det_assign rfl) rfl ?_
        refine wl_nil ?_
        refine pn_then ?_
        refine wc_block ?_
        obtain ⟨k23, hk23⟩ := loopV_some.1 h
        refine wc_loop (G := Nat × (Int × Int) × Unit) (fun g => IterN (treatyref33_sums_l23 r2_1 s10) g.1 g.2.1 q19) (fun g => g.1) (fun (_, s23, _) => [(4, .slice A10_0 s10.1.length c10_0), (5, .slice y2_1A0 r2_1.length y2_1c0), (6, .int .i64 s23.1), (7, .pointer (some ⟨b5_4, 0, none⟩))]) (fun (_, s23, _) => [eS lGEntry 41 A10_0 s10.1.length c10_0 s10.1, eS lGEntry 41 y2_1A0 r2_1.length y2_1c0 r2_1, eBlk b5_4 41 [.int .i64 (ix r2_1 s10.2).Kind, .int .i64 (ix r2_1 s10.2).Treaty, .int .i64 (ix r2_1 s10.2).Party, .int .i64 (ix r2_1 s10.2).Loss, .int .i64 s23.2]]) (fun (_, _, _) => []) (k23, ((w64 (s10.2 + 1)), (ix r2_1 s10.2).Amount), ()) hk23 ⟨rfl, rfl, rfl, rfl, trivial⟩ (fun _ h => h.to ⟨_, (rs r0), ⟨_, (rs r0), ⟨_, r0, trivial⟩⟩⟩ trivial) ?_
        rintro ⟨k23, s23, _⟩ hI
        obtain ⟨k23, rfl, q23, h, g23⟩ := IterN.pos hI
        dsimp only at h ⊢
        unfold treatyref33_sums_l23 at h
        refine wc_seq ?_
        obtain ⟨q25, h, ho25⟩ := bind_some h
        refine wc_meetG (G := Bool × Unit) (fun (s25, _) => s25 = q25) (fun (s25, _) => [(4, .slice A10_0 s10.1.length c10_0), (5, .slice y2_1A0 r2_1.length y2_1c0), (6, .int .i64 s23.1), (7, .pointer (some ⟨b5_4, 0, none⟩)), (32, .bool s25)]) (fun (_, _) => [eS lGEntry 41 A10_0 s10.1.length c10_0 s10.1, eS lGEntry 41 y2_1A0 r2_1.length y2_1c0 r2_1, eBlk b5_4 41 [.int .i64 (ix r2_1 s10.2).Kind, .int .i64 (ix r2_1 s10.2).Treaty, .int .i64 (ix r2_1 s10.2).Party, .int .i64 (ix r2_1 s10.2).Loss, .int .i64 s23.2]]) (fun (_, _) => []) ?_ ?_
        · rcases Bool.eq_false_or_eq_true (decide (s23.1 < (r2_1.length : Int))) with hg7_g24 | hg7_g24
          · have h := ifT h hg7_g24
            obtain ⟨k7_p1, h⟩ := chk_some h
            refine dx_region 13 [[], [], [1], [0, 1, 2], [0, 1, 2, 3], [0, 1, 2, 3, 4], [0, 1, 2, 3, 4], [0, 1, 2, 3, 4], [0, 1, 2, 3, 4, 6, 7], [0, 1, 2, 3, 4, 6, 7, 8], [0, 1, 2, 3, 4, 5, 6, 7, 8, 9], [0, 1, 2, 3, 4, 5, 6, 7, 8, 9, 10], [0, 1, 2, 3, 4, 5, 6, 7, 8, 9, 10, 11]] mixed (ord := (.det 0 (.det 1 (.det 2 (.det 3 (.det 4 (.det 5 (.det 6 (.det 7 (.det 8 (.det 9 (.alt 10 (.det 11 (.det 12 .done)) .dead)))))))))))) (by kernel_rfl) ?_   -- region 7
            refine hx_det rfl rfl rfl nofun (det_move rfl) rfl ?_
            refine hx_det rfl rfl rfl nofun (det_move rfl) rfl ?_
            refine hx_det rfl rfl rfl nofun (det_len rfl un37) rfl ?_
            refine hx_det rfl rfl rfl nofun (det_lss rfl rfl) rfl ?_
            refine hx_det rfl rfl rfl nofun (det_move rfl) rfl ?_
            refine hx_on rfl rfl rfl rfl rfl hg7_g24 nofun (det_loadN (cells := [_, _, _, _, _]) rfl (ms (ms m0)) (by rfl) ag41 sz41) rfl ?_
            refine hx_on rfl rfl rfl rfl rfl hg7_g24 nofun (det_move rfl) rfl ?_
            refine hx_on rfl rfl rfl rfl rfl hg7_g24 nofun (det_move rfl) rfl ?_
            refine hx_on rfl rfl rfl rfl rfl hg7_g24 nofun (det_indexO rfl rfl (ms m0) k7_p1 un37 sz41) rfl ?_
            refine hx_on rfl rfl rfl rfl rfl hg7_g24 nofun (det_loadO (off := 0) rfl (ms m0) k7_p1 (by rfl) (by rfl) (loaded_n (cells := [_, _, _, _, _]) ag41 sz41)) rfl ?_
            obtain ⟨r7_10, hr7_10, h⟩ := bind_some h
            refine hx_actG rfl rfl rfl rfl rfl hg7_g24 (act_callS (cap := []) (W_treatyref33_Before (GEntry.mk (ix r2_1 s10.2).Kind (ix r2_1 s10.2).Treaty (ix r2_1 s10.2).Party (ix r2_1 s10.2).Loss s23.2) (ix r2_1 s23.1) r7_10 hr7_10) rfl rfl rfl bd72 rfl trivial) rfl (by rintro _ _ _ ⟨_, _, _, rfl, rfl⟩; first | exact ⟨_, _, rfl, rfl⟩ | exact ⟨_, [], rfl, rfl⟩) ?_
            rintro _ _ _ ⟨_, _, ⟨rfl, rfl, rfl⟩, rfl, rfl⟩
            dsimp only [List.nil_append, List.cons_append]
            refine hx_on rfl rfl rfl rfl rfl hg7_g24 nofun (det_not rfl) rfl ?_
            refine hx_det rfl rfl rfl nofun (det_pick_on rfl hg7_g24 rfl rfl) rfl ?_
            refine hx_end ?_
            refine wl_nil ?_
            replace h := Option.some.inj h
            subst h
            exact pn_meetG ((!r7_10), ()) rfl ⟨rfl, rfl, rfl, rfl, rfl, trivial⟩ (fun _ h => h.to ⟨_, r0, ⟨_, r0, ⟨_, r0, trivial⟩⟩⟩ trivial)
          · have h := ifF h hg7_g24
            refine dx_region 13 [[], [], [1], [0, 1, 2], [0, 1, 2, 3], [0, 1, 2, 3, 4], [0, 1, 2, 3, 4], [0, 1, 2, 3, 4], [0, 1, 2, 3, 4, 6, 7], [0, 1, 2, 3, 4, 6, 7, 8], [0, 1, 2, 3, 4, 5, 6, 7, 8, 9], [0, 1, 2, 3, 4, 5, 6, 7, 8, 9, 10], [0, 1, 2, 3, 4, 5, 6, 7, 8, 9, 10, 11]] mixed (ord := (.det 0 (.det 1 (.det 2 (.det 3 (.det 4 (.det 5 (.det 6 (.det 7 (.det 8 (.det 9 (.det 10 (.det 11 (.det 12 .done)))))))))))))) (by kernel_rfl) ?_   -- region 7
            refine hx_det rfl rfl rfl nofun (det_move rfl) rfl ?_
            refine hx_det rfl rfl rfl nofun (det_move rfl) rfl ?_
            refine hx_det rfl rfl rfl nofun (det_len rfl un37) rfl ?_
            refine hx_det rfl rfl rfl nofun (det_lss rfl rfl) rfl ?_
            refine hx_det rfl rfl rfl nofun (det_move rfl) rfl ?_
            refine hx_off rfl rfl rfl rfl rfl hg7_g24 rfl ?_
            refine hx_off rfl rfl rfl rfl rfl hg7_g24 rfl ?_
            refine hx_off rfl rfl rfl rfl rfl hg7_g24 rfl ?_
            refine hx_off rfl rfl rfl rfl rfl hg7_g24 rfl ?_
            refine hx_off rfl rfl rfl rfl rfl hg7_g24 rfl ?_
            refine hx_off rfl rfl rfl rfl rfl hg7_g24 rfl ?_
            refine hx_off rfl rfl rfl rfl rfl hg7_g24 rfl ?_
            refine hx_det rfl rfl rfl nofun (det_pick_off rfl hg7_g24 rfl rfl) rfl ?_
            refine hx_end ?_
            refine wl_nil ?_
            replace h := Option.some.inj h
            subst h
            exact pn_meetG (false, ()) rfl ⟨rfl, rfl, rfl, rfl, rfl, trivial⟩ (fun _ h => h.to ⟨_, r0, ⟨_, r0, ⟨_, r0, trivial⟩⟩⟩ trivial)
        rintro ⟨s25, _⟩ e25
        dsimp only at e25 ⊢
        subst e25
        have h := ho25
        refine wc_cond rfl (fun cd27 => ?_) (fun cd27 => ?_)
        · have h := ifT h cd27
          refine wc_skip ?_
          refine pn_then ?_
          refine wc_seq ?_
          refine wc_block ?_
          obtain ⟨k9_p1, h⟩ := chk_some h
          refine dx_region 9 [[], [0], [], [], [2, 3], [2, 3, 4], [2, 3, 4, 5], [0, 1, 2, 3, 4, 5, 6], [0, 1, 2, 3, 4, 5, 6, 7], [0, 1, 2, 3, 4, 5, 6, 7, 8]] mixed (ord := (.det 0 (.det 1 (.det 2 (.det 3 (.det 4 (.det 5 (.det 6 (.det 7 (.det 8 .done)))))))))) (by kernel_rfl) ?_   -- region 9
          refine hx_det rfl rfl rfl nofun (det_field rfl fd41_4 rfl) rfl ?_
          refine hx_det rfl rfl rfl nofun (det_load rfl (ms (ms m0)) (by rfl) na3 us3) rfl ?_
          refine hx_det rfl rfl rfl nofun (det_move rfl) rfl ?_
          refine hx_det rfl rfl rfl nofun (det_move rfl) rfl ?_
          refine hx_det rfl rfl rfl nofun (det_indexO rfl rfl (ms m0) k9_p1 un37 sz41) rfl ?_
          refine hx_det rfl rfl rfl nofun (det_fieldO rfl (ms m0) k9_p1 fd41_4 rfl) rfl ?_
          refine hx_det rfl rfl rfl nofun (det_loadO (off := 4) rfl (ms m0) k9_p1 (by rfl) (by rfl) (loaded_1 na3 us3)) rfl ?_
          refine hx_det rfl rfl rfl nofun (det_add rfl rfl) rfl ?_
          refine hx_det rfl rfl rfl nofun (det_field rfl fd41_4 rfl) rfl ?_
          refine hx_end ?_
          refine wl_act0 (act_store (cells := [_]) (cs' := [_, _, _, _, _]) rfl rfl rfl (ss (ss s0)) (by rfl) (of_decide_eq_true rfl) sz3 ⟨rfl, trivial⟩) rfl rfl ?_
          rintro _ _ _ ⟨rfl, rfl⟩
          refine wl_nil ?_
          refine pn_block ?_
          refine pn_then ?_
          refine wc_region ?_   -- region 8
          refine wl_det rfl rfl (det_move rfl) rfl ?_
          refine wl_det rfl rfl (det_add rfl rfl) rfl ?_
          refine wl_det rfl rfl (det_assign rfl) rfl ?_
          refine wl_nil ?_
          replace h := Option.some.inj h
          subst h
          exact pn_some (k23, ((w64 (s23.1 + 1)), (w64 (s23.2 + (ix r2_1 s23.1).Amount))), ()) ⟨nextL g23, Nat.lt_succ_self _⟩ ⟨rfl, rfl, rfl, rfl, trivial⟩ (fun _ h => h.to ⟨_, r0, ⟨_, r0, ⟨_, r0, trivial⟩⟩⟩ trivial)
        · have h := ifF h cd27
          refine wc_exit ?_
          refine px_then ?_
          refine px_then ?_
          refine px_block ?_
          replace h := Option.some.inj h
          subst h
          replace g23 := nextR g23
          subst g23
          exact pn_meetG ((s23.1, s23.2), ()) rfl ⟨rfl, rfl, rfl, rfl, trivial⟩ (fun _ h => h.to ⟨_, r0, ⟨_, r0, ⟨_, r0, trivial⟩⟩⟩ trivial)
      rintro ⟨s19, _⟩ e19
      dsimp only at e19 ⊢
      subst e19
      have h := ho19
      refine wc_seq ?_
      refine wc_seq ?_
      refine wc_region ?_   -- region 10
      refine wl_det rfl rfl (det_field rfl fd41_4 rfl) rfl ?_
      refine wl_det rfl rfl (det_load rfl (ms (ms m0)) (by rfl) na3 us3) rfl ?_
      obtain ⟨r10_2, hr10_2, h⟩ := bind_some h
      refine wl_act (act_callS (cap := []) (W_treatyref01_Valid s19.2 r10_2 hr10_2) rfl rfl rfl bd52 rfl trivial) rfl rfl rfl ?_
      rintro _ _ _ ⟨_, _, ⟨rfl, rfl, rfl⟩, rfl, rfl⟩
      dsimp only [List.nil_append, List.cons_append]
      refine wl_det rfl rfl (det_not rfl) rfl ?_
      refine wl_nil ?_
      refine pn_then ?_
      refine wc_cond rfl (fun cd36 => ?_) (fun cd36 => ?_)
      · have h := ifT h cd36
        refine wc_seq ?_
        refine wc_region ?_   -- region 11
        refine wl_det rfl rfl (det_assign rfl) rfl ?_
        refine wl_det rfl rfl (det_assign rfl) rfl ?_
        refine wl_nil ?_
        refine pn_then ?_
        refine wc_ret ?_
        refine pr_then ?_
        refine pr_block ?_
        refine pr_then ?_
        refine pr_block ?_
        refine pr_then ?_
        refine pn_st (fun _ h => h.zeroS lGEntry 41 none) ?_
        replace h := Option.some.inj h
        subst h
        replace g10 := nextR g10
        subst g10
        have h := (elimL ho10)
        replace h := Option.some.inj h
        subst h
        have h := (elimR ho6)
        replace h := Option.some.inj h
        subst h
        refine pn_ret (vs := [_, _]) rfl ⟨rfl, rfl, trivial⟩ ⟨none, 0, 0, rfl, rfl, rfl⟩ (fun _ h => h.to ⟨_, r0, trivial⟩ trivial)
      · have h := ifF h cd36
        refine wc_skip ?_
        refine pn_then ?_
        refine wc_seq ?_
        refine wc_region ?_   -- region 12
        refine wl_det rfl rfl (det_field rfl fd41_4 rfl) rfl ?_
        refine wl_det rfl rfl (det_load rfl (ms (ms m0)) (by rfl) na3 us3) rfl ?_
        refine wl_det rfl rfl (det_neq rfl rfl) rfl ?_
        refine wl_nil ?_
        refine pn_then ?_
        refine wc_cond rfl (fun cd41 => ?_) (fun cd41 => ?_)
        · have h := ifT h cd41
          refine wc_region ?_   -- region 13
          refine wl_det rfl rfl (det_move rfl) rfl ?_
          refine wl_det rfl rfl (det_loadN (cells := [_, _, _, _, _]) rfl (ms (ms m0)) (by rfl) ag41 sz41) rfl ?_
          refine wl_act (act_litS lGEntry (vs := [_]) (cs := [_, _, _, _, _]) [(GEntry.mk (ix r2_1 s10.2).Kind (ix r2_1 s10.2).Treaty (ix r2_1 s10.2).Party (ix r2_1 s10.2).Loss s19.2)] un37 in41 rfl rfl rfl rfl rfl ⟨rfl, trivial⟩ (by rfl) rfl (litR_flat rfl)) rfl rfl rfl ?_
          rintro _ _ _ ⟨A13_2, rfl, rfl, rfl⟩
          obtain ⟨k13_3, h⟩ := chk_some h
          refine wl_act (act_appendS (L := lGEntry) rfl rfl (ss s0) (src_O m0) un37 in41 rfl rfl rfl k13_3) rfl rfl rfl ?_
          rintro _ _ _ ⟨A13_3, c13_3, rfl, rfl, rfl⟩
          refine wl_det rfl rfl (det_assign rfl) rfl ?_
          refine wl_nil ?_
          refine pn_block ?_
          replace h := Option.some.inj h
          subst h
          exact pn_some (k10, ((s10.1 ++ [(GEntry.mk (ix r2_1 s10.2).Kind (ix r2_1 s10.2).Treaty (ix r2_1 s10.2).Party (ix r2_1 s10.2).Loss s19.2)]), s19.1), A13_3, (s10.1 ++ [(GEntry.mk (ix r2_1 s10.2).Kind (ix r2_1 s10.2).Treaty (ix r2_1 s10.2).Party (ix r2_1 s10.2).Loss s19.2)]).length, c13_3, ()) ⟨nextL g10, Nat.lt_succ_self _⟩ ⟨rfl, rfl, rfl, trivial⟩ (fun _ h => h.to ⟨_, (rs r0), ⟨_, (rs r0), trivial⟩⟩ trivial)
        · have h := ifF h cd41
          refine wc_skip ?_
          refine pn_block ?_
          replace h := Option.some.inj h
          subst h
          exact pn_some (k10, (s10.1, s19.1), A10_0, s10.1.length, c10_0, ()) ⟨nextL g10, Nat.lt_succ_self _⟩ ⟨rfl, rfl, rfl, trivial⟩ (fun _ h => h.to ⟨_, r0, ⟨_, r0, trivial⟩⟩ trivial)
    · have h := ifF h cd14
      refine wc_exit ?_
      refine px_then ?_
      refine px_then ?_
      refine px_block ?_
      replace h := Option.some.inj h
      subst h
      replace g10 := nextR g10
      subst g10
      have h := (elimR ho10)
      replace h := Option.some.inj h
      subst h
      exact pn_meetG (s10.1, A10_0, s10.1.length, c10_0, ()) rfl ⟨rfl, trivial⟩ (fun _ h => h.to ⟨_, r0, trivial⟩ trivial)
  rintro ⟨s6, A6_0, n6_0, c6_0, _⟩ e6
  dsimp only at e6 ⊢
  subst e6
  have h := (elimL ho6)
  refine wc_know (fun _ h => h.lenO m0) (fun e => ?_)
  subst e
  refine wc_seq ?_
  refine wc_region ?_   -- region 14
  refine wl_det rfl rfl (det_move rfl) rfl ?_
  refine wl_det rfl rfl (det_assign rfl) rfl ?_
  refine wl_det rfl rfl (det_assign rfl) rfl ?_
  refine wl_nil ?_
  refine pn_then ?_
  refine wc_ret ?_
  replace h := Option.some.inj h
  subst h
  refine pn_ret (vs := [_, _]) rfl ⟨rfl, rfl, trivial⟩ ⟨A6_0, s6.length, c6_0, rfl, rfl, rfl⟩ (fun _ h => h.to ⟨_, r0, trivial⟩ trivial)
def Q_treatyref33_Entries (r : (List GEntry) × Int) : Value → List Ent → List Fact → Prop := fun v θ κ => ∃ (pA0 : Option Addr), ∃ (pn0 : Nat), ∃ (pc0 : Nat), v = .tuple #[.slice pA0 pn0 pc0, .int .i64 r.2] ∧ θ = [eS lGEntry 41 pA0 pn0 pc0 r.1] ∧ κ = []
theorem plains_treatyref33_Entries {r : (List GEntry) × Int} : ∀ v θ κ, Q_treatyref33_Entries r v θ κ → Plains θ := by
  rintro _ _ _ ⟨_, _, _, rfl, rfl, rfl⟩
  exact ⟨plain_eS, trivial⟩
set_option maxHeartbeats 4000000 in
set_option maxRecDepth 100000 in
theorem W_treatyref33_Entries (a0 : (List GShare)) (A0 : Option Addr) (n0 : Nat) (c0 : Nat) (r : (List GEntry) × Int) (h : treatyref33_Entries a0 = some r) : Spec Try.prog 44 [.slice A0 n0 c0] [] [fV (lSlice lGShare) (.slice A0 n0 c0) a0] (Q_treatyref33_Entries r) := by
  unfold treatyref33_Entries at h
  refine spec_of (σ := [(0, _)]) Try.func44 rfl rfl rfl rfl ?_
  intro C
  refine wc_know (fun _ h => h.lenF m0) (fun e => ?_)
  subst e
  refine wc_seq ?_
  refine wc_region ?_   -- region 0
  refine wl_det rfl rfl (det_assign rfl) rfl ?_
  refine wl_det rfl rfl (det_assign rfl) rfl ?_
  refine wl_nil ?_
  refine pn_then ?_
  refine wc_seq ?_
  refine wc_seq ?_
  refine wc_region ?_   -- region 1
  refine wl_det rfl rfl (det_move rfl) rfl ?_
  obtain ⟨r1_1, hr1_1, h⟩ := bind_some h
  refine wl_act (act_callS (cap := []) (W_treatyref30_Shares a0 A0 a0.length c0 r1_1 hr1_1) rfl rfl rfl bd64 rfl ⟨m0, trivial⟩) rfl rfl rfl ?_
  rintro _ _ _ ⟨_, _, ⟨rfl, rfl, rfl⟩, rfl, rfl⟩
  dsimp only [List.nil_append, List.cons_append]
  refine wl_det rfl rfl (det_assign rfl) rfl ?_
  refine wl_nil ?_
  refine pn_then ?_
  refine wc_seq ?_
  refine wc_region ?_   -- region 2
  refine wl_det rfl rfl (det_move rfl) rfl ?_
  refine wl_det rfl rfl (det_neq rfl rfl) rfl ?_
  refine wl_nil ?_
  refine pn_then ?_
  refine wc_cond rfl (fun cd7 => ?_) (fun cd7 => ?_)
  · have h := ifT h cd7
    refine wc_seq ?_
    refine wc_region ?_   -- region 3
    refine wl_det rfl rfl (det_move rfl) rfl ?_
    refine wl_det rfl rfl (det_assign rfl) rfl ?_
    refine wl_det rfl rfl (det_assign rfl) rfl ?_
    refine wl_nil ?_
    refine pn_then ?_
    refine wc_ret ?_
    refine pr_then ?_
    refine pn_st (fun _ h => h.zeroS lGEntry 41 none) ?_
    replace h := Option.some.inj h
    subst h
    refine pn_ret (vs := [_, _]) rfl ⟨rfl, rfl, trivial⟩ ⟨none, 0, 0, rfl, rfl, rfl⟩ (fun _ h => h.to ⟨_, r0, trivial⟩ trivial)
  · have h := ifF h cd7
    refine wc_skip ?_
    refine pn_then ?_
    refine wc_seq ?_
    refine wc_region ?_   -- region 4
    refine wl_det rfl rfl (det_assign rfl) rfl ?_
    refine wl_nil ?_
    refine pn_then ?_
    obtain ⟨q12, h, ho12⟩ := bind_some h
    refine wc_meetG (G := (List GEntry) × Option Addr × Nat × Nat × Unit) (fun (s12, _, _, _, _) => s12 = q12) (fun (_, A12_0, n12_0, c12_0, _) => [(5, .slice A12_0 n12_0 c12_0)]) (fun (s12, A12_0, n12_0, c12_0, _) => [eS lGEntry 41 A12_0 n12_0 c12_0 s12]) (fun (_, _, _, _, _) => []) ?_ ?_
    · refine wc_seq ?_
      refine wc_region ?_   -- region 5
      refine wl_det rfl rfl (det_move rfl) rfl ?_
      refine wl_det rfl rfl (det_len rfl un68) rfl ?_
      refine wl_det rfl rfl (det_move rfl) rfl ?_
      refine wl_nil ?_
      refine pn_then ?_
      refine wc_block ?_
      refine wc_st (fun _ h => h.zeroS lGEntry 41 none) ?_
      obtain ⟨k16, hk16⟩ := loopV_some.1 h
      refine wc_loop (G := Nat × ((List GEntry) × Int) × Option Addr × Nat × Nat × Unit) (fun g => IterN (treatyref33_Entries_l16 a0) g.1 g.2.1 q12) (fun g => g.1) (fun (_, s16, A16_0, n16_0, c16_0, _) => [(5, .slice A16_0 n16_0 c16_0), (13, .slice A0 a0.length c0), (14, .int .i64 (a0.length : Int)), (15, .int .i64 s16.2)]) (fun (_, s16, A16_0, n16_0, c16_0, _) => [eS lGEntry 41 A16_0 n16_0 c16_0 s16.1]) (fun (_, _, _, _, _, _) => [fV (lSlice lGShare) (.slice A0 a0.length c0) a0]) (k16, ([], 0), none, 0, 0, ()) hk16 ⟨rfl, rfl, rfl, rfl, trivial⟩ (fun _ h => h.to ⟨_, r0, trivial⟩ ⟨m0, trivial⟩) ?_
      rintro ⟨k16, s16, A16_0, n16_0, c16_0, _⟩ hI
      obtain ⟨k16, rfl, q16, h, g16⟩ := IterN.pos hI
      dsimp only at h ⊢
      unfold treatyref33_Entries_l16 at h
      refine wc_know (fun _ h => h.lenO m0) (fun e => ?_)
      subst e
      refine wc_seq ?_
      refine wc_region ?_   -- region 6
      refine wl_det rfl rfl (det_lss rfl rfl) rfl ?_
      refine wl_nil ?_
      refine pn_then ?_
      refine wc_seq ?_
      refine wc_cond rfl (fun cd20 => ?_) (fun cd20 => ?_)
      · have h := ifT h cd20
        refine wc_skip ?_
        refine pn_then ?_
        refine wc_seq ?_
        refine wc_block ?_
        refine wc_seq ?_
        refine wc_region ?_   -- region 7
        obtain ⟨k7_0, h⟩ := chk_some h
        refine wl_st (fun _ h => h.openF m0 k7_0) ?_
        refine wl_det rfl rfl (det_indexP rfl rfl (ms m0) k7_0 m0 un68 sz99) rfl ?_
        refine wl_det rfl rfl (det_loadP (off := 0) rfl m0 (by rfl) (by rfl) (loaded_n (cells := [_, _, _, _, _]) ag99 sz99)) rfl ?_
        refine wl_act (act_alloc (cs := [_, _, _, _, _]) zr99 rfl) rfl rfl rfl ?_
        rintro _ _ _ ⟨b7_2, rfl, rfl, rfl⟩
        refine wl_act0 (act_store (cells := [_, _, _, _, _]) (cs' := [_, _, _, _, _]) rfl rfl rfl s0 (by rfl) (of_decide_eq_true rfl) sz99 ⟨rfl, rfl, rfl, rfl, rfl, trivial⟩) rfl rfl ?_
        rintro _ _ _ ⟨rfl, rfl⟩
        refine wl_nil ?_
        refine pn_then ?_
        refine wc_region ?_   -- region 8
        refine wl_det rfl rfl (det_move rfl) rfl ?_
        refine wl_det rfl rfl (det_field rfl fd99_1 rfl) rfl ?_
        refine wl_det rfl rfl (det_load rfl m0 (by rfl) na3 us3) rfl ?_
        refine wl_det rfl rfl (det_field rfl fd99_2 rfl) rfl ?_
        refine wl_det rfl rfl (det_load rfl m0 (by rfl) na3 us3) rfl ?_
        refine wl_det rfl rfl (det_field rfl fd99_0 rfl) rfl ?_
        refine wl_det rfl rfl (det_load rfl m0 (by rfl) na3 us3) rfl ?_
        refine wl_det rfl rfl (det_field rfl fd99_4 rfl) rfl ?_
        refine wl_det rfl rfl (det_load rfl m0 (by rfl) na3 us3) rfl ?_
        refine wl_det rfl rfl (det_build (cs := [_, _, _, _, _]) pl41 zr41 rfl rfl (by rfl)) rfl ?_
        refine wl_det rfl rfl (det_field rfl fd99_1 rfl) rfl ?_
        refine wl_det rfl rfl (det_load rfl m0 (by rfl) na3 us3) rfl ?_
        refine wl_det rfl rfl (det_field rfl fd99_2 rfl) rfl ?_
        refine wl_det rfl rfl (det_load rfl m0 (by rfl) na3 us3) rfl ?_
        refine wl_det rfl rfl (det_field rfl fd99_0 rfl) rfl ?_
        refine wl_det rfl rfl (det_load rfl m0 (by rfl) na3 us3) rfl ?_
        refine wl_det rfl rfl (det_field rfl fd99_3 rfl) rfl ?_
        refine wl_det rfl rfl (det_load rfl m0 (by rfl) na3 us3) rfl ?_
        refine wl_det rfl rfl (det_field rfl fd99_4 rfl) rfl ?_
        refine wl_det rfl rfl (det_load rfl m0 (by rfl) na3 us3) rfl ?_
        refine wl_det rfl rfl (det_sub rfl rfl) rfl ?_
        refine wl_det rfl rfl (det_build (cs := [_, _, _, _, _]) pl41 zr41 rfl rfl (by rfl)) rfl ?_
        refine wl_act (act_litS lGEntry (vs := [_, _]) (cs := [_, _, _, _, _, _, _, _, _, _]) [(GEntry.mk 1 (ix a0 s16.2).Treaty (ix a0 s16.2).Party (ix a0 s16.2).Loss (ix a0 s16.2).Paid), (GEntry.mk 2 (ix a0 s16.2).Treaty (ix a0 s16.2).Party (ix a0 s16.2).Loss (w64 ((ix a0 s16.2).Amount - (ix a0 s16.2).Paid)))] un37 in41 rfl rfl rfl rfl rfl ⟨rfl, rfl, trivial⟩ (by rfl) rfl (litR_flat rfl)) rfl rfl rfl ?_
        rintro _ _ _ ⟨A8_22, rfl, rfl, rfl⟩
        obtain ⟨k8_23, h⟩ := chk_some h
        refine wl_act (act_appendS (L := lGEntry) rfl rfl (ss (ss s0)) (src_O m0) un37 in41 rfl rfl rfl k8_23) rfl rfl rfl ?_
        rintro _ _ _ ⟨A8_23, c8_23, rfl, rfl, rfl⟩
        refine wl_det rfl rfl (det_assign rfl) rfl ?_
        refine wl_nil ?_
        refine pn_block ?_
        refine pn_then ?_
        refine wc_region ?_   -- region 9
        refine wl_det rfl rfl (det_add rfl rfl) rfl ?_
        refine wl_det rfl rfl (det_move rfl) rfl ?_
        refine wl_nil ?_
        replace h := Option.some.inj h
        subst h
        exact pn_some (k16, ((s16.1 ++ [(GEntry.mk 1 (ix a0 s16.2).Treaty (ix a0 s16.2).Party (ix a0 s16.2).Loss (ix a0 s16.2).Paid), (GEntry.mk 2 (ix a0 s16.2).Treaty (ix a0 s16.2).Party (ix a0 s16.2).Loss (w64 ((ix a0 s16.2).Amount - (ix a0 s16.2).Paid)))]), (w64 (s16.2 + 1))), A8_23, (s16.1 ++ [(GEntry.mk 1 (ix a0 s16.2).Treaty (ix a0 s16.2).Party (ix a0 s16.2).Loss (ix a0 s16.2).Paid), (GEntry.mk 2 (ix a0 s16.2).Treaty (ix a0 s16.2).Party (ix a0 s16.2).Loss (w64 ((ix a0 s16.2).Amount - (ix a0 s16.2).Paid)))]).length, c8_23, ()) ⟨nextL g16, Nat.lt_succ_self _⟩ ⟨rfl, rfl, rfl, rfl, trivial⟩ (fun _ h => h.to ⟨_, (rs (rs r0)), trivial⟩ ⟨(ms m0), trivial⟩)
      · have h := ifF h cd20
        refine wc_exit ?_
        refine px_then ?_
        refine px_then ?_
        refine px_block ?_
        replace h := Option.some.inj h
        subst h
        replace g16 := nextR g16
        subst g16
        exact pn_meetG (s16.1, A16_0, s16.1.length, c16_0, ()) rfl ⟨rfl, trivial⟩ (fun _ h => h.to ⟨_, r0, trivial⟩ trivial)
    rintro ⟨s12, A12_0, n12_0, c12_0, _⟩ e12
    dsimp only at e12 ⊢
    subst e12
    have h := ho12
    refine wc_know (fun _ h => h.lenO m0) (fun e => ?_)
    subst e
    refine wc_seq ?_
    refine wc_region ?_   -- region 10
    refine wl_det rfl rfl (det_move rfl) rfl ?_
    obtain ⟨r10_1, hr10_1, h⟩ := bind_some h
    refine wl_act (act_callL (cap := []) [eS lGEntry 41 A12_0 s12.length c12_0 s12] (W_treatyref33_sums s12 A12_0 s12.length c12_0 r10_1 hr10_1) plains_treatyref33_sums rfl rfl rfl bd56 rfl ⟨m0, trivial⟩ ⟨.inr ⟨_, m0, lent_eS⟩, trivial⟩) rfl rfl rfl ?_
    rintro _ _ _ ⟨_, _, ⟨y10_1A0, y10_1n0, y10_1c0, rfl, rfl, rfl⟩, rfl, rfl⟩
    dsimp only [List.nil_append, List.cons_append]
    refine wl_know (fun _ h => h.lenO m0) (fun e => ?_)
    subst e
    refine wl_det rfl rfl (det_move rfl) rfl ?_
    refine wl_det rfl rfl (det_extract rfl rfl) rfl ?_
    refine wl_det rfl rfl (det_extract rfl rfl) rfl ?_
    refine wl_det rfl rfl (det_assign rfl) rfl ?_
    refine wl_nil ?_
    refine pn_then ?_
    refine wc_seq ?_
    refine wc_region ?_   -- region 11
    refine wl_det rfl rfl (det_move rfl) rfl ?_
    refine wl_det rfl rfl (det_assign rfl) rfl ?_
    refine wl_det rfl rfl (det_assign rfl) rfl ?_
    refine wl_nil ?_
    refine pn_then ?_
    refine wc_ret ?_
    replace h := Option.some.inj h
    subst h
    refine pn_ret (vs := [_, _]) rfl ⟨rfl, rfl, trivial⟩ ⟨y10_1A0, r10_1.1.length, y10_1c0, rfl, rfl, rfl⟩ (fun _ h => h.to ⟨_, r0, trivial⟩ trivial)
def Q_treatyref33_SameEntries (r : Bool) : Value → List Ent → List Fact → Prop := fun v θ κ => v = .bool r ∧ θ = [] ∧ κ = []
theorem plains_treatyref33_SameEntries {r : Bool} : ∀ v θ κ, Q_treatyref33_SameEntries r v θ κ → Plains θ := by
  rintro _ _ _ ⟨rfl, rfl, rfl⟩
  exact trivial
set_option maxHeartbeats 4000000 in
set_option maxRecDepth 100000 in
theorem W_treatyref33_SameEntries (a0 : (List GEntry)) (a1 : (List GEntry)) (A0 : Option Addr) (n0 : Nat) (c0 : Nat) (A3 : Option Addr) (n3 : Nat) (c3 : Nat) (r : Bool) (h : treatyref33_SameEntries a0 a1 = some r) : Spec Try.prog 28 [.slice A0 n0 c0, .slice A3 n3 c3] [] [fV (lSlice lGEntry) (.slice A0 n0 c0) a0, fV (lSlice lGEntry) (.slice A3 n3 c3) a1] (Q_treatyref33_SameEntries r) := by
  unfold treatyref33_SameEntries at h
  refine spec_of (σ := [(0, _), (1, _)]) Try.func28 rfl rfl rfl rfl ?_
  intro C
  refine wc_know (fun _ h => h.lenF m0) (fun e => ?_)
  subst e
  refine wc_know (fun _ h => h.lenF (ms m0)) (fun e => ?_)
  subst e
  refine wc_seq ?_
  refine wc_region ?_   -- region 0
  refine wl_det rfl rfl (det_assign rfl) rfl ?_
  refine wl_nil ?_
  refine pn_then ?_
  refine wc_seq ?_
  refine wc_seq ?_
  refine wc_region ?_   -- region 1
  refine wl_det rfl rfl (det_move rfl) rfl ?_
  refine wl_det rfl rfl (det_len rfl un37) rfl ?_
  refine wl_det rfl rfl (det_move rfl) rfl ?_
  refine wl_det rfl rfl (det_len rfl un37) rfl ?_
  refine wl_det rfl rfl (det_neq rfl rfl) rfl ?_
  refine wl_nil ?_
  refine pn_then ?_
  refine wc_cond rfl (fun cd5 => ?_) (fun cd5 => ?_)
  · have h := ifT h cd5
    refine wc_seq ?_
    refine wc_region ?_   -- region 2
    refine wl_det rfl rfl (det_assign rfl) rfl ?_
    refine wl_nil ?_
    refine pn_then ?_
    refine wc_ret ?_
    refine pr_then ?_
    replace h := Option.some.inj h
    subst h
    refine pn_ret (vs := [_]) rfl ⟨rfl, trivial⟩ ⟨rfl, rfl, rfl⟩ (fun _ h => h.to trivial trivial)
  · have h := ifF h cd5
    refine wc_skip ?_
    refine pn_then ?_
    obtain ⟨q8, h, ho8⟩ := bind_some h
    refine wc_meetG (G := Unit × Unit) (fun (s8, _) => (.inl s8) = q8) (fun (_, _) => []) (fun (_, _) => []) (fun (_, _) => []) ?_ ?_
    · refine wc_seq ?_
      refine wc_region ?_   -- region 3
      refine wl_det rfl rfl (det_move rfl) rfl ?_
      refine wl_det rfl rfl (det_len rfl un37) rfl ?_
      refine wl_det rfl rfl (det_move rfl) rfl ?_
      refine wl_nil ?_
      refine pn_then ?_
      refine wc_block ?_
      obtain ⟨o12, h, ho12⟩ := bind_some h
      obtain ⟨k12, hk12⟩ := loopV_some.1 h
      refine wc_loop (G := Nat × Int × Unit) (fun g => IterN (treatyref33_SameEntries_l12 a0 a1) g.1 g.2.1 o12) (fun g => g.1) (fun (_, s12, _) => [(0, .slice A0 a0.length c0), (1, .slice A3 a1.length c3), (12, .int .i64 (a0.length : Int)), (13, .int .i64 s12)]) (fun (_, _, _) => []) (fun (_, _, _) => [fV (lSlice lGEntry) (.slice A0 a0.length c0) a0, fV (lSlice lGEntry) (.slice A3 a1.length c3) a1]) (k12, 0, ()) hk12 ⟨rfl, rfl, rfl, rfl, trivial⟩ (fun _ h => h.to trivial ⟨m0, ⟨(ms m0), trivial⟩⟩) ?_
      rintro ⟨k12, s12, _⟩ hI
      obtain ⟨k12, rfl, q12, h, g12⟩ := IterN.pos hI
      dsimp only at h ⊢
      unfold treatyref33_SameEntries_l12 at h
      refine wc_seq ?_
      refine wc_region ?_   -- region 4
      refine wl_det rfl rfl (det_lss rfl rfl) rfl ?_
      refine wl_nil ?_
      refine pn_then ?_
      refine wc_seq ?_
      refine wc_cond rfl (fun cd16 => ?_) (fun cd16 => ?_)
      · have h := ifT h cd16
        refine wc_skip ?_
        refine pn_then ?_
        refine wc_seq ?_
        refine wc_block ?_
        refine wc_seq ?_
        refine wc_region ?_   -- region 5
        refine wl_det rfl rfl (det_move rfl) rfl ?_
        refine wl_det rfl rfl (det_assign rfl) rfl ?_
        refine wl_nil ?_
        refine pn_then ?_
        refine wc_seq ?_
        obtain ⟨k6_p1, h⟩ := chk_some h
        refine wc_st (fun _ h => h.openF m0 k6_p1) ?_
        obtain ⟨k6_p3, h⟩ := chk_some h
        refine wc_st (fun _ h => h.openF (ms (ms m0)) k6_p3) ?_
        refine dx_region 9 [[], [], [0, 1], [0, 1, 2], [], [], [4, 5], [4, 5, 6], [0, 1, 2, 3, 4, 5, 6, 7]] mixed (ord := (.det 0 (.det 1 (.det 2 (.det 3 (.det 4 (.det 5 (.det 6 (.det 7 (.det 8 .done)))))))))) (by kernel_rfl) ?_   -- region 6
        refine hx_det rfl rfl rfl nofun (det_move rfl) rfl ?_
        refine hx_det rfl rfl rfl nofun (det_move rfl) rfl ?_
        refine hx_det rfl rfl rfl nofun (det_indexP rfl rfl (ms (ms m0)) k6_p1 (ms m0) un37 sz41) rfl ?_
        refine hx_det rfl rfl rfl nofun (det_loadP (off := 0) rfl (ms m0) (by rfl) (by rfl) (loaded_n (cells := [_, _, _, _, _]) ag41 sz41)) rfl ?_
        refine hx_det rfl rfl rfl nofun (det_move rfl) rfl ?_
        refine hx_det rfl rfl rfl nofun (det_move rfl) rfl ?_
        refine hx_det rfl rfl rfl nofun (det_indexP rfl rfl (ms (ms (ms m0))) k6_p3 m0 un37 sz41) rfl ?_
        refine hx_det rfl rfl rfl nofun (det_loadP (off := 0) rfl m0 (by rfl) (by rfl) (loaded_n (cells := [_, _, _, _, _]) ag41 sz41)) rfl ?_
        refine hx_det rfl rfl rfl nofun (det_neqS [_, _, _, _, _] [_, _, _, _, _] eq41 rfl rfl rfl rfl) rfl ?_
        refine hx_end ?_
        refine wl_nil ?_
        refine pn_then ?_
        refine wc_cond rfl (fun cd24 => ?_) (fun cd24 => ?_)
        · have h := ifT h cd24
          refine wc_seq ?_
          refine wc_region ?_   -- region 7
          refine wl_det rfl rfl (det_assign rfl) rfl ?_
          refine wl_nil ?_
          refine pn_then ?_
          refine wc_ret ?_
          refine pr_block ?_
          refine pr_then ?_
          refine pr_then ?_
          refine pr_block ?_
          refine pr_then ?_
          replace h := Option.some.inj h
          subst h
          replace g12 := nextR g12
          subst g12
          have h := (elimL ho12)
          replace h := Option.some.inj h
          subst h
          have h := (elimR ho8)
          replace h := Option.some.inj h
          subst h
          refine pn_ret (vs := [_]) rfl ⟨rfl, trivial⟩ ⟨rfl, rfl, rfl⟩ (fun _ h => h.to trivial trivial)
        · have h := ifF h cd24
          refine wc_skip ?_
          refine pn_block ?_
          refine pn_then ?_
          refine wc_region ?_   -- region 8
          refine wl_det rfl rfl (det_add rfl rfl) rfl ?_
          refine wl_det rfl rfl (det_move rfl) rfl ?_
          refine wl_nil ?_
          replace h := Option.some.inj h
          subst h
          exact pn_some (k12, (w64 (s12 + 1)), ()) ⟨nextL g12, Nat.lt_succ_self _⟩ ⟨rfl, rfl, rfl, rfl, trivial⟩ (fun _ h => h.to trivial ⟨(ms (ms m0)), ⟨(ms (ms (ms m0))), trivial⟩⟩)
      · have h := ifF h cd16
        refine wc_exit ?_
        refine px_then ?_
        refine px_then ?_
        refine px_block ?_
        replace h := Option.some.inj h
        subst h
        replace g12 := nextR g12
        subst g12
        have h := (elimR ho12)
        replace h := Option.some.inj h
        subst h
        exact pn_meetG ((), ()) rfl trivial (fun _ h => h.to trivial trivial)
    rintro ⟨s8, _⟩ e8
    dsimp only at e8 ⊢
    subst e8
    have h := (elimL ho8)
    refine wc_seq ?_
    refine wc_region ?_   -- region 9
    refine wl_det rfl rfl (det_assign rfl) rfl ?_
    refine wl_nil ?_
    refine pn_then ?_
    refine wc_ret ?_
    replace h := Option.some.inj h
    subst h
    refine pn_ret (vs := [_]) rfl ⟨rfl, trivial⟩ ⟨rfl, rfl, rfl⟩ (fun _ h => h.to trivial trivial)
def Q_treatylaw33_LedgerEntries (r : Bool) : Value → List Ent → List Fact → Prop := fun v θ κ => v = .bool r ∧ θ = [] ∧ κ = []
theorem plains_treatylaw33_LedgerEntries {r : Bool} : ∀ v θ κ, Q_treatylaw33_LedgerEntries r v θ κ → Plains θ := by
  rintro _ _ _ ⟨rfl, rfl, rfl⟩
  exact trivial
set_option maxHeartbeats 4000000 in
set_option maxRecDepth 100000 in
theorem W_treatylaw33_LedgerEntries (a0 : (List GShare)) (a1 : (List Int)) (A0 : Option Addr) (n0 : Nat) (c0 : Nat) (A3 : Option Addr) (n3 : Nat) (c3 : Nat) (r : Bool) (h : treatylaw33_LedgerEntries a0 a1 = some r) : Spec Try.prog 12 [.slice A0 n0 c0, .slice A3 n3 c3] [] [fV (lSlice lGShare) (.slice A0 n0 c0) a0, fV (lSlice (lInt .i64)) (.slice A3 n3 c3) a1] (Q_treatylaw33_LedgerEntries r) := by
  unfold treatylaw33_LedgerEntries at h
  refine spec_of (σ := [(0, _), (1, _)]) Try.func12 rfl rfl rfl rfl ?_
  intro C
  refine wc_know (fun _ h => h.lenF m0) (fun e => ?_)
  subst e
  refine wc_know (fun _ h => h.lenF (ms m0)) (fun e => ?_)
  subst e
  refine wc_seq ?_
  refine wc_region ?_   -- region 0
  refine wl_det rfl rfl (det_assign rfl) rfl ?_
  refine wl_nil ?_
  refine pn_then ?_
  refine wc_seq ?_
  refine wc_seq ?_
  refine wc_region ?_   -- region 1
  refine wl_det rfl rfl (det_move rfl) rfl ?_
  refine wl_det rfl rfl (det_len rfl un68) rfl ?_
  refine wl_det rfl rfl (det_gtr rfl rfl) rfl ?_
  refine wl_nil ?_
  refine pn_then ?_
  refine wc_cond rfl (fun cd5 => ?_) (fun cd5 => ?_)
  · have h := ifT h cd5
    refine wc_seq ?_
    refine wc_region ?_   -- region 2
    obtain ⟨r2_0, hr2_0, h⟩ := bind_some h
    refine wl_act (act_callS (cap := []) (W_treatylaw33_awake r2_0 hr2_0) rfl rfl rfl bd20 rfl trivial) rfl rfl rfl ?_
    rintro _ _ _ ⟨_, _, ⟨rfl, rfl, rfl⟩, rfl, rfl⟩
    dsimp only [List.nil_append, List.cons_append]
    refine wl_det rfl rfl (det_assign rfl) rfl ?_
    refine wl_nil ?_
    refine pn_then ?_
    refine wc_ret ?_
    refine pr_then ?_
    replace h := Option.some.inj h
    subst h
    refine pn_ret (vs := [_]) rfl ⟨rfl, trivial⟩ ⟨rfl, rfl, rfl⟩ (fun _ h => h.to trivial trivial)
  · have h := ifF h cd5
    refine wc_skip ?_
    refine pn_then ?_
    refine wc_seq ?_
    refine wc_region ?_   -- region 3
    refine wl_det rfl rfl (det_move rfl) rfl ?_
    obtain ⟨r3_1, hr3_1, h⟩ := bind_some h
    refine wl_act (act_callS (cap := []) (W_treatymade2_New a1 A3 a1.length c3 r3_1 hr3_1) rfl rfl rfl bd14 rfl ⟨(ms m0), trivial⟩) rfl rfl rfl ?_
    rintro _ _ _ ⟨_, _, ⟨y3_1b0, y3_1A1, y3_1n1, y3_1c1, rfl, rfl, rfl⟩, rfl, rfl⟩
    dsimp only [List.nil_append, List.cons_append]
    refine wl_know (fun _ h => h.lenF m0) (fun e => ?_)
    subst e
    obtain ⟨r3_2, hr3_2, h⟩ := bind_some h
    refine wl_act (act_callS (cap := []) (W_treatymade2_Shares r3_1 20 y3_1b0 y3_1A1 r3_1.L.length y3_1c1 r3_2 hr3_2) rfl rfl rfl bd42 ⟨_, r0, rfl⟩ ⟨m0, trivial⟩) rfl rfl rfl ?_
    rintro _ _ _ ⟨_, _, ⟨y3_2A0, y3_2n0, y3_2c0, y3_2A1, y3_2n1, y3_2c1, rfl, rfl, rfl⟩, rfl, rfl⟩
    dsimp only [List.nil_append, List.cons_append]
    refine wl_know (fun _ h => h.lenO m0) (fun e => ?_)
    subst e
    refine wl_know (fun _ h => h.lenF m0) (fun e => ?_)
    subst e
    refine wl_det rfl rfl (det_assign rfl) rfl ?_
    refine wl_nil ?_
    refine pn_then ?_
    refine wc_seq ?_
    refine wc_region ?_   -- region 4
    refine wl_det rfl rfl (det_move rfl) rfl ?_
    obtain ⟨r4_1, hr4_1, h⟩ := bind_some h
    refine wl_act (act_callS (cap := []) (W_ledger_Entries a0 A0 a0.length c0 r4_1 hr4_1) rfl rfl rfl bd43 rfl ⟨(ms (ms m0)), trivial⟩) rfl rfl rfl ?_
    rintro _ _ _ ⟨_, _, ⟨y4_1A0, y4_1n0, y4_1c0, rfl, rfl, rfl⟩, rfl, rfl⟩
    dsimp only [List.nil_append, List.cons_append]
    refine wl_know (fun _ h => h.lenO m0) (fun e => ?_)
    subst e
    refine wl_det rfl rfl (det_move rfl) rfl ?_
    refine wl_det rfl rfl (det_extract rfl rfl) rfl ?_
    refine wl_det rfl rfl (det_extract rfl rfl) rfl ?_
    refine wl_det rfl rfl (det_assign rfl) rfl ?_
    refine wl_det rfl rfl (det_assign rfl) rfl ?_
    refine wl_nil ?_
    refine pn_then ?_
    refine wc_seq ?_
    refine wc_region ?_   -- region 5
    refine wl_det rfl rfl (det_move rfl) rfl ?_
    obtain ⟨r5_1, hr5_1, h⟩ := bind_some h
    refine wl_act (act_callS (cap := []) (W_treatyref33_Entries a0 A0 a0.length c0 r5_1 hr5_1) rfl rfl rfl bd44 rfl ⟨(ms (ms m0)), trivial⟩) rfl rfl rfl ?_
    rintro _ _ _ ⟨_, _, ⟨y5_1A0, y5_1n0, y5_1c0, rfl, rfl, rfl⟩, rfl, rfl⟩
    dsimp only [List.nil_append, List.cons_append]
    refine wl_know (fun _ h => h.lenO m0) (fun e => ?_)
    subst e
    refine wl_det rfl rfl (det_move rfl) rfl ?_
    refine wl_det rfl rfl (det_extract rfl rfl) rfl ?_
    refine wl_det rfl rfl (det_extract rfl rfl) rfl ?_
    refine wl_det rfl rfl (det_assign rfl) rfl ?_
    refine wl_det rfl rfl (det_assign rfl) rfl ?_
    refine wl_nil ?_
    refine pn_then ?_
    refine wc_seq ?_
    refine wc_region ?_   -- region 6
    refine wl_det rfl rfl (det_move rfl) rfl ?_
    obtain ⟨r6_1, hr6_1, h⟩ := bind_some h
    refine wl_act (act_callL (cap := []) [eS lGShare 99 y3_2A0 r3_2.1.length y3_2c0 r3_2.1] (W_ledger_Entries r3_2.1 y3_2A0 r3_2.1.length y3_2c0 r6_1 hr6_1) plains_ledger_Entries rfl rfl rfl bd43 rfl ⟨(ms (ms m0)), trivial⟩ ⟨.inr ⟨_, m0, lent_eS⟩, trivial⟩) rfl rfl rfl ?_
    rintro _ _ _ ⟨_, _, ⟨y6_1A0, y6_1n0, y6_1c0, rfl, rfl, rfl⟩, rfl, rfl⟩
    dsimp only [List.nil_append, List.cons_append]
    refine wl_know (fun _ h => h.lenO m0) (fun e => ?_)
    subst e
    refine wl_det rfl rfl (det_move rfl) rfl ?_
    refine wl_det rfl rfl (det_extract rfl rfl) rfl ?_
    refine wl_det rfl rfl (det_extract rfl rfl) rfl ?_
    refine wl_det rfl rfl (det_assign rfl) rfl ?_
    refine wl_det rfl rfl (det_assign rfl) rfl ?_
    refine wl_nil ?_
    refine pn_then ?_
    refine wc_seq ?_
    refine wc_region ?_   -- region 7
    refine wl_det rfl rfl (det_move rfl) rfl ?_
    obtain ⟨r7_1, hr7_1, h⟩ := bind_some h
    refine wl_act (act_callL (cap := []) [eS lGShare 99 y3_2A0 r3_2.1.length y3_2c0 r3_2.1] (W_treatyref33_Entries r3_2.1 y3_2A0 r3_2.1.length y3_2c0 r7_1 hr7_1) plains_treatyref33_Entries rfl rfl rfl bd44 rfl ⟨(ms (ms (ms m0))), trivial⟩ ⟨.inr ⟨_, m0, lent_eS⟩, trivial⟩) rfl rfl rfl ?_
    rintro _ _ _ ⟨_, _, ⟨y7_1A0, y7_1n0, y7_1c0, rfl, rfl, rfl⟩, rfl, rfl⟩
    dsimp only [List.nil_append, List.cons_append]
    refine wl_know (fun _ h => h.lenO m0) (fun e => ?_)
    subst e
    refine wl_det rfl rfl (det_move rfl) rfl ?_
    refine wl_det rfl rfl (det_extract rfl rfl) rfl ?_
    refine wl_det rfl rfl (det_extract rfl rfl) rfl ?_
    refine wl_det rfl rfl (det_assign rfl) rfl ?_
    refine wl_det rfl rfl (det_assign rfl) rfl ?_
    refine wl_nil ?_
    refine pn_then ?_
    refine wc_seq ?_
    refine wc_region ?_   -- region 8
    refine wl_det rfl rfl (det_move rfl) rfl ?_
    refine wl_det rfl rfl (det_move rfl) rfl ?_
    obtain ⟨r8_2, hr8_2, h⟩ := bind_some h
    refine wl_act (act_callL (cap := []) [eS lGEntry 41 y4_1A0 r4_1.1.length y4_1c0 r4_1.1, eS lGEntry 41 y5_1A0 r5_1.1.length y5_1c0 r5_1.1] (W_treatyref33_SameEntries r4_1.1 r5_1.1 y4_1A0 r4_1.1.length y4_1c0 y5_1A0 r5_1.1.length y5_1c0 r8_2 hr8_2) plains_treatyref33_SameEntries rfl rfl rfl bd28 rfl ⟨(ms (ms (ms m0))), ⟨(ms (ms m0)), trivial⟩⟩ ⟨.inr ⟨_, m0, lent_eS⟩, ⟨.inr ⟨_, (ms m0), lent_eS⟩, trivial⟩⟩) rfl rfl rfl ?_
    rintro _ _ _ ⟨_, _, ⟨rfl, rfl, rfl⟩, rfl, rfl⟩
    dsimp only [List.nil_append, List.cons_append]
    refine wl_det rfl rfl (det_move rfl) rfl ?_
    refine wl_way r8_2 (r8_2 && (decide (r4_1.2 = r5_1.2))) 4 48 (fun hg => ?_) (fun hg => ?_) ?_
    · have hg8_7 := hg
      refine wl_on rfl rfl rfl rfl hg8_7 ?_
      refine wl_det rfl rfl (det_move rfl) rfl ?_
      refine wl_on rfl rfl rfl rfl hg8_7 ?_
      refine wl_det rfl rfl (det_move rfl) rfl ?_
      refine wl_on rfl rfl rfl rfl hg8_7 ?_
      refine wl_det rfl rfl (det_eql rfl rfl) rfl ?_
      refine wl_det rfl rfl (det_and_on rfl rfl rfl hg8_7) rfl ?_
      exact wl_nil (pn_qnE (ext_cons rfl (ext_skip rfl (ext_skip rfl (ext_skip rfl (ext_skip rfl ext_refl))))) (fun _ h => h))
    · have hg8_7a := hg
      refine wl_off rfl rfl rfl rfl rfl hg8_7a rfl ?_
      refine wl_off rfl rfl rfl rfl rfl hg8_7a rfl ?_
      refine wl_off rfl rfl rfl rfl rfl hg8_7a rfl ?_
      refine wl_det rfl rfl (det_and_off (q := (decide (r4_1.2 = r5_1.2))) rfl rfl rfl hg8_7a) rfl ?_
      exact wl_nil (pn_qnE (ext_cons rfl (ext_skip rfl (ext_skip rfl (ext_skip rfl (ext_skip rfl ext_refl))))) (fun _ h => h))
    refine wl_det rfl rfl (det_move rfl) rfl ?_
    obtain ⟨q8_12, hq8_12, h⟩ := bind_some h
    have ho8_12 := h
    refine wl_way (r8_2 && (decide (r4_1.2 = r5_1.2))) q8_12 4 53 (fun hg => ?_) (fun hg => ?_) ?_
    · have hg8_12 := hg
      have h := ifT hq8_12 hg
      refine wl_on rfl rfl rfl rfl hg8_12 ?_
      refine wl_det rfl rfl (det_move rfl) rfl ?_
      refine wl_on rfl rfl rfl rfl hg8_12 ?_
      refine wl_det rfl rfl (det_move rfl) rfl ?_
      refine wl_on rfl rfl rfl rfl hg8_12 ?_
      obtain ⟨r8_11, hr8_11, h⟩ := bind_some h
      refine wl_act (act_callL (cap := []) [eS lGEntry 41 y6_1A0 r6_1.1.length y6_1c0 r6_1.1, eS lGEntry 41 y7_1A0 r7_1.1.length y7_1c0 r7_1.1] (W_treatyref33_SameEntries r6_1.1 r7_1.1 y6_1A0 r6_1.1.length y6_1c0 y7_1A0 r7_1.1.length y7_1c0 r8_11 hr8_11) plains_treatyref33_SameEntries rfl rfl rfl bd28 rfl ⟨(ms m0), ⟨m0, trivial⟩⟩ ⟨.inr ⟨_, m0, lent_eS⟩, ⟨.inr ⟨_, (ms m0), lent_eS⟩, trivial⟩⟩) rfl rfl rfl ?_
      rintro _ _ _ ⟨_, _, ⟨rfl, rfl, rfl⟩, rfl, rfl⟩
      dsimp only [List.nil_append, List.cons_append]
      replace h := Option.some.inj h
      subst h
      refine wl_det rfl rfl (det_pick_on rfl hg8_12 rfl rfl) rfl ?_
      exact wl_nil (pn_qnE (ext_cons rfl (ext_skip rfl (ext_skip rfl (ext_skip rfl (ext_skip rfl ext_refl))))) (fun _ h => h))
    · have hg8_12a := hg
      have h := ifF hq8_12 hg
      refine wl_off rfl rfl rfl rfl rfl hg8_12a rfl ?_
      refine wl_off rfl rfl rfl rfl rfl hg8_12a rfl ?_
      refine wl_off rfl rfl rfl rfl rfl hg8_12a rfl ?_
      replace h := Option.some.inj h
      subst h
      refine wl_det rfl rfl (det_pick_off rfl hg8_12a rfl rfl) rfl ?_
      exact wl_nil (pn_qnE (ext_cons rfl (ext_skip rfl (ext_skip rfl (ext_skip rfl (ext_skip rfl ext_refl))))) (fun _ h => h))
    have h := ho8_12
    refine wl_det rfl rfl (det_move rfl) rfl ?_
    refine wl_way q8_12 (q8_12 && (decide (r6_1.2 = r7_1.2))) 4 58 (fun hg => ?_) (fun hg => ?_) ?_
    · have hg8_17 := hg
      refine wl_on rfl rfl rfl rfl hg8_17 ?_
      refine wl_det rfl rfl (det_move rfl) rfl ?_
      refine wl_on rfl rfl rfl rfl hg8_17 ?_
      refine wl_det rfl rfl (det_move rfl) rfl ?_
      refine wl_on rfl rfl rfl rfl hg8_17 ?_
      refine wl_det rfl rfl (det_eql rfl rfl) rfl ?_
      refine wl_det rfl rfl (det_and_on rfl rfl rfl hg8_17) rfl ?_
      exact wl_nil (pn_qnE (ext_cons rfl (ext_skip rfl (ext_skip rfl (ext_skip rfl (ext_skip rfl ext_refl))))) (fun _ h => h))
    · have hg8_17a := hg
      refine wl_off rfl rfl rfl rfl rfl hg8_17a rfl ?_
      refine wl_off rfl rfl rfl rfl rfl hg8_17a rfl ?_
      refine wl_off rfl rfl rfl rfl rfl hg8_17a rfl ?_
      refine wl_det rfl rfl (det_and_off (q := (decide (r6_1.2 = r7_1.2))) rfl rfl rfl hg8_17a) rfl ?_
      exact wl_nil (pn_qnE (ext_cons rfl (ext_skip rfl (ext_skip rfl (ext_skip rfl (ext_skip rfl ext_refl))))) (fun _ h => h))
    refine wl_det rfl rfl (det_move rfl) rfl ?_
    refine wl_way (q8_12 && (decide (r6_1.2 = r7_1.2))) ((q8_12 && (decide (r6_1.2 = r7_1.2))) && (decide (r6_1.2 = 0))) 3 62 (fun hg => ?_) (fun hg => ?_) ?_
    · have hg8_21 := hg
      refine wl_on rfl rfl rfl rfl hg8_21 ?_
      refine wl_det rfl rfl (det_move rfl) rfl ?_
      refine wl_on rfl rfl rfl rfl hg8_21 ?_
      refine wl_det rfl rfl (det_eql rfl rfl) rfl ?_
      refine wl_det rfl rfl (det_and_on rfl rfl rfl hg8_21) rfl ?_
      exact wl_nil (pn_qnE (ext_cons rfl (ext_skip rfl (ext_skip rfl (ext_skip rfl ext_refl)))) (fun _ h => h))
    · have hg8_21a := hg
      refine wl_off rfl rfl rfl rfl rfl hg8_21a rfl ?_
      refine wl_off rfl rfl rfl rfl rfl hg8_21a rfl ?_
      refine wl_det rfl rfl (det_and_off (q := (decide (r6_1.2 = 0))) rfl rfl rfl hg8_21a) rfl ?_
      exact wl_nil (pn_qnE (ext_cons rfl (ext_skip rfl (ext_skip rfl (ext_skip rfl ext_refl)))) (fun _ h => h))
    refine wl_det rfl rfl (det_move rfl) rfl ?_
    obtain ⟨q8_24, hq8_24, h⟩ := bind_some h
    have ho8_24 := h
    refine wl_way ((q8_12 && (decide (r6_1.2 = r7_1.2))) && (decide (r6_1.2 = 0))) q8_24 2 65 (fun hg => ?_) (fun hg => ?_) ?_
    · have hg8_24 := hg
      have h := ifT hq8_24 hg
      refine wl_on rfl rfl rfl rfl hg8_24 ?_
      obtain ⟨r8_23, hr8_23, h⟩ := bind_some h
      refine wl_act (act_callS (cap := []) (W_treatylaw33_awake r8_23 hr8_23) rfl rfl rfl bd20 rfl trivial) rfl rfl rfl ?_
      rintro _ _ _ ⟨_, _, ⟨rfl, rfl, rfl⟩, rfl, rfl⟩
      dsimp only [List.nil_append, List.cons_append]
      replace h := Option.some.inj h
      subst h
      refine wl_det rfl rfl (det_pick_on rfl hg8_24 rfl rfl) rfl ?_
      exact wl_nil (pn_qnE (ext_cons rfl (ext_skip rfl (ext_skip rfl ext_refl))) (fun _ h => h))
    · have hg8_24a := hg
      have h := ifF hq8_24 hg
      refine wl_off rfl rfl rfl rfl rfl hg8_24a rfl ?_
      replace h := Option.some.inj h
      subst h
      refine wl_det rfl rfl (det_pick_off rfl hg8_24a rfl rfl) rfl ?_
      exact wl_nil (pn_qnE (ext_cons rfl (ext_skip rfl (ext_skip rfl ext_refl))) (fun _ h => h))
    have h := ho8_24
    refine wl_det rfl rfl (det_assign rfl) rfl ?_
    refine wl_nil ?_
    refine pn_then ?_
    refine wc_ret ?_
    replace h := Option.some.inj h
    subst h
    refine pn_ret (vs := [_]) rfl ⟨rfl, trivial⟩ ⟨rfl, rfl, rfl⟩ (fun _ h => h.to trivial trivial)
end Go.Proofs.Ytadkcelipefpmaa
