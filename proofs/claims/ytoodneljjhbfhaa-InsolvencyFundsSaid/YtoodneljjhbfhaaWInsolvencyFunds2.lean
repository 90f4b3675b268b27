/- That functions of the program compute the plain programs of P. Written by a small program. -/
import Derived.Test.YtoodneljjhbfhaaWInsolvencyFunds1
namespace Go.Proofs.Ytoodneljjhbfhaa
open Go.RowKit
def Q_treatylaw38_InsolvencyFunds (r : Bool) : Value → List Ent → List Fact → Prop := fun v θ κ => v = .bool r ∧ θ = [] ∧ κ = []
theorem plains_treatylaw38_InsolvencyFunds {r : Bool} : ∀ v θ κ, Q_treatylaw38_InsolvencyFunds r v θ κ → Plains θ := by
  rintro _ _ _ ⟨rfl, rfl, rfl⟩
  exact trivial
set_option maxHeartbeats 4000000 in
set_option maxRecDepth 100000 in
theorem W_treatylaw38_InsolvencyFunds (a0 : (List Int)) (A0 : Option Addr) (n0 : Nat) (c0 : Nat) (r : Bool) (h : treatylaw38_InsolvencyFunds a0 = some r) : Spec Try.prog 7 [.slice A0 n0 c0] [] [fV (lSlice (lInt .i64)) (.slice A0 n0 c0) a0] (Q_treatylaw38_InsolvencyFunds r) := by
  unfold treatylaw38_InsolvencyFunds at h
  refine spec_of (σ := [(0, _)]) Try.func7 rfl rfl rfl rfl ?_
  intro C
  refine wc_know (fun _ h => h.lenF m0) (fun e => ?_)
  subst e
  refine wc_seq ?_
  refine wc_region ?_   -- region 0
  refine wl_det rfl rfl (det_assign rfl) rfl ?_
  refine wl_nil ?_
  refine pn_then ?_
  refine wc_seq ?_
  refine wc_region ?_   -- region 1
  refine wl_det rfl rfl (det_move rfl) rfl ?_
  obtain ⟨r1_1, hr1_1, h⟩ := bind_some h
  refine wl_act (act_callS (cap := []) (W_treatymade2_New a0 A0 a0.length c0 r1_1 hr1_1) rfl rfl rfl bd24 rfl ⟨m0, trivial⟩) rfl rfl rfl ?_
  rintro _ _ _ ⟨_, _, ⟨y1_1b0, y1_1A1, y1_1n1, y1_1c1, rfl, rfl, rfl⟩, rfl, rfl⟩
  dsimp only [List.nil_append, List.cons_append]
  refine wl_know (fun _ h => h.lenF m0) (fun e => ?_)
  subst e
  refine wl_det rfl rfl (det_assign rfl) rfl ?_
  refine wl_nil ?_
  refine pn_then ?_
  refine wc_seq ?_
  refine wc_region ?_   -- region 2
  refine wl_det rfl rfl (det_move rfl) rfl ?_
  obtain ⟨r2_1, hr2_1, h⟩ := bind_some h
  refine wl_act (act_callS (cap := []) (W_treatymade2_Mutuals r1_1 y1_1b0 y1_1A1 r1_1.L.length y1_1c1 r2_1 hr2_1) rfl rfl rfl bd25 ⟨_, r0, rfl⟩ ⟨m0, trivial⟩) rfl rfl rfl ?_
  rintro _ _ _ ⟨_, _, ⟨y2_1A0, y2_1n0, y2_1c0, y2_1A1, y2_1n1, y2_1c1, rfl, rfl, rfl⟩, rfl, rfl⟩
  dsimp only [List.nil_append, List.cons_append]
  refine wl_know (fun _ h => h.lenO m0) (fun e => ?_)
  subst e
  refine wl_know (fun _ h => h.lenF m0) (fun e => ?_)
  subst e
  refine wl_det rfl rfl (det_assign rfl) rfl ?_
  refine wl_nil ?_
  refine pn_then ?_
  refine wc_seq ?_
  refine wc_region ?_   -- region 3
  refine wl_det rfl rfl (det_move rfl) rfl ?_
  obtain ⟨r3_1, hr3_1, h⟩ := bind_some h
  refine wl_act (act_callS (cap := []) (W_treatymade2_Small r2_1.2 y1_1b0 y2_1A1 r2_1.2.L.length y2_1c1 r3_1 hr3_1) rfl rfl rfl bd26 ⟨_, (rs r0), rfl⟩ ⟨m0, trivial⟩) rfl rfl rfl ?_
  rintro _ _ _ ⟨_, _, ⟨y3_1A0, y3_1n0, y3_1c0, rfl, rfl, rfl⟩, rfl, rfl⟩
  dsimp only [List.nil_append, List.cons_append]
  refine wl_know (fun _ h => h.lenF m0) (fun e => ?_)
  subst e
  refine wl_det rfl rfl (det_assign rfl) rfl ?_
  refine wl_nil ?_
  refine pn_then ?_
  refine wc_seq ?_
  refine wc_region ?_   -- region 4
  refine wl_det rfl rfl (det_move rfl) rfl ?_
  refine wl_det rfl rfl (det_move rfl) rfl ?_
  obtain ⟨r4_2, hr4_2, h⟩ := bind_some h
  refine wl_act (act_callL (cap := []) [eS lGMutual 48 y2_1A0 r2_1.1.length y2_1c0 r2_1.1] (W_insolvency_Distribute r3_1.1 r2_1.1 y2_1A0 r2_1.1.length y2_1c0 r4_2 hr4_2) plains_insolvency_Distribute rfl rfl rfl bd27 rfl ⟨(ms m0), trivial⟩ ⟨.inr ⟨_, m0, lent_eS⟩, trivial⟩) rfl rfl rfl ?_
  rintro _ _ _ ⟨_, _, ⟨y4_2A0, y4_2n0, y4_2c0, rfl, rfl, rfl⟩, rfl, rfl⟩
  dsimp only [List.nil_append, List.cons_append]
  refine wl_know (fun _ h => h.lenO m0) (fun e => ?_)
  subst e
  refine wl_det rfl rfl (det_move rfl) rfl ?_
  refine wl_det rfl rfl (det_extract rfl rfl) rfl ?_
  refine wl_det rfl rfl (det_extract rfl rfl) rfl ?_
  refine wl_det rfl rfl (det_extract rfl rfl) rfl ?_
  refine wl_det rfl rfl (det_assign rfl) rfl ?_
  refine wl_det rfl rfl (det_assign rfl) rfl ?_
  refine wl_det rfl rfl (det_assign rfl) rfl ?_
  refine wl_nil ?_
  refine pn_then ?_
  refine wc_seq ?_
  refine wc_seq ?_
  refine wc_region ?_   -- region 5
  refine wl_det rfl rfl (det_move rfl) rfl ?_
  refine wl_det rfl rfl (det_neq rfl rfl) rfl ?_
  refine wl_det rfl rfl (det_move rfl) rfl ?_
  refine wl_way (!decide (r4_2.2.2 = 0)) ((!decide (r4_2.2.2 = 0)) || (!decide ((r4_2.1.length : Int) = (r2_1.1.length : Int)))) 6 33 (fun hg => ?_) (fun hg => ?_) ?_
  · have hg5_8 := hg
    refine wl_off rfl rfl rfl rfl rfl hg5_8 rfl ?_
    refine wl_off rfl rfl rfl rfl rfl hg5_8 rfl ?_
    refine wl_off rfl rfl rfl rfl rfl hg5_8 rfl ?_
    refine wl_off rfl rfl rfl rfl rfl hg5_8 rfl ?_
    refine wl_off rfl rfl rfl rfl rfl hg5_8 rfl ?_
    refine wl_det rfl rfl (det_or_on (r := (!decide ((r4_2.1.length : Int) = (r2_1.1.length : Int)))) rfl rfl rfl hg5_8) rfl ?_
    exact wl_nil (pn_qnE (ext_cons rfl (ext_skip rfl (ext_skip rfl (ext_skip rfl (ext_skip rfl (ext_skip rfl (ext_skip rfl ext_refl))))))) (fun _ h => h))
  · have hg5_8a := hg
    refine wl_on rfl rfl rfl rfl hg5_8a ?_
    refine wl_det rfl rfl (det_move rfl) rfl ?_
    refine wl_on rfl rfl rfl rfl hg5_8a ?_
    refine wl_det rfl rfl (det_len rfl un39) rfl ?_
    refine wl_on rfl rfl rfl rfl hg5_8a ?_
    refine wl_det rfl rfl (det_move rfl) rfl ?_
    refine wl_on rfl rfl rfl rfl hg5_8a ?_
    refine wl_det rfl rfl (det_len rfl un36) rfl ?_
    refine wl_on rfl rfl rfl rfl hg5_8a ?_
    refine wl_det rfl rfl (det_neq rfl rfl) rfl ?_
    refine wl_det rfl rfl (det_or_off rfl rfl rfl hg5_8a) rfl ?_
    exact wl_nil (pn_qnE (ext_cons rfl (ext_skip rfl (ext_skip rfl (ext_skip rfl (ext_skip rfl (ext_skip rfl (ext_skip rfl ext_refl))))))) (fun _ h => h))
  refine wl_det rfl rfl (det_move rfl) rfl ?_
  refine wl_way ((!decide (r4_2.2.2 = 0)) || (!decide ((r4_2.1.length : Int) = (r2_1.1.length : Int)))) (((!decide (r4_2.2.2 = 0)) || (!decide ((r4_2.1.length : Int) = (r2_1.1.length : Int)))) || (decide (r4_2.2.1 < 0))) 3 37 (fun hg => ?_) (fun hg => ?_) ?_
  · have hg5_12 := hg
    refine wl_off rfl rfl rfl rfl rfl hg5_12 rfl ?_
    refine wl_off rfl rfl rfl rfl rfl hg5_12 rfl ?_
    refine wl_det rfl rfl (det_or_on (r := (decide (r4_2.2.1 < 0))) rfl rfl rfl hg5_12) rfl ?_
    exact wl_nil (pn_qnE (ext_cons rfl (ext_skip rfl (ext_skip rfl (ext_skip rfl ext_refl)))) (fun _ h => h))
  · have hg5_12a := hg
    refine wl_on rfl rfl rfl rfl hg5_12a ?_
    refine wl_det rfl rfl (det_move rfl) rfl ?_
    refine wl_on rfl rfl rfl rfl hg5_12a ?_
    refine wl_det rfl rfl (det_lss rfl rfl) rfl ?_
    refine wl_det rfl rfl (det_or_off rfl rfl rfl hg5_12a) rfl ?_
    exact wl_nil (pn_qnE (ext_cons rfl (ext_skip rfl (ext_skip rfl (ext_skip rfl ext_refl)))) (fun _ h => h))
  refine wl_nil ?_
  refine pn_then ?_
  refine wc_cond rfl (fun c13 => ?_) (fun c13 => ?_)
  · have h := ifT h c13
    refine wc_seq ?_
    refine wc_region ?_   -- region 6
    refine wl_det rfl rfl (det_assign rfl) rfl ?_
    refine wl_nil ?_
    refine pn_then ?_
    refine wc_ret ?_
    refine pr_then ?_
    replace h := Option.some.inj h
    subst h
    refine pn_ret (vs := [_]) rfl ⟨rfl, trivial⟩ ⟨rfl, rfl, rfl⟩ (fun _ h => h.to trivial trivial)
  · have h := ifF h c13
    refine wc_skip ?_
    refine pn_then ?_
    refine wc_seq ?_
    refine wc_region ?_   -- region 7
    refine wl_det rfl rfl (det_move rfl) rfl ?_
    refine wl_det rfl rfl (det_move rfl) rfl ?_
    refine wl_det rfl rfl (det_sub rfl rfl) rfl ?_
    refine wl_det rfl rfl (det_assign rfl) rfl ?_
    refine wl_nil ?_
    refine pn_then ?_
    obtain ⟨q18, h, ho18⟩ := bind_some h
    refine wc_meetG (G := Int × Unit) (fun (s18, _) => (.inl s18) = q18) (fun (s18, _) => [(9, .int .i64 s18)]) (fun (_, _) => []) (fun (_, _) => []) ?_ ?_
    · refine wc_seq ?_
      refine wc_region ?_   -- region 8
      refine wl_det rfl rfl (det_move rfl) rfl ?_
      refine wl_det rfl rfl (det_len rfl un39) rfl ?_
      refine wl_det rfl rfl (det_move rfl) rfl ?_
      refine wl_nil ?_
      refine pn_then ?_
      refine wc_block ?_
      obtain ⟨o22, h, ho22⟩ := bind_some h
      obtain ⟨k22, hk22⟩ := loopV_some.1 h
      refine wc_loop (G := Nat × (Int × Int) × Unit) (fun g => IterN (treatylaw38_InsolvencyFunds_l22 r2_1 r4_2) g.1 g.2.1 o22) (fun g => g.1) (fun (_, s22, _) => [(4, .slice y2_1A0 r2_1.1.length y2_1c0), (7, .int .i64 r4_2.2.1), (9, .int .i64 s22.1), (41, .slice y4_2A0 r4_2.1.length y4_2c0), (42, .int .i64 (r4_2.1.length : Int)), (43, .int .i64 s22.2)]) (fun (_, _, _) => [eS lGMutual 48 y2_1A0 r2_1.1.length y2_1c0 r2_1.1, eS lGDividend 46 y4_2A0 r4_2.1.length y4_2c0 r4_2.1]) (fun (_, _, _) => []) (k22, ((w64 (r3_1.1 - r4_2.2.1)), 0), ()) hk22 ⟨rfl, rfl, rfl, rfl, rfl, rfl, trivial⟩ (fun _ h => h.to ⟨_, (rs (rs r0)), ⟨_, r0, trivial⟩⟩ trivial) ?_
      rintro ⟨k22, s22, _⟩ hI
      obtain ⟨k22, rfl, q22, h, g22⟩ := IterN.pos hI
      dsimp only at h ⊢
      unfold treatylaw38_InsolvencyFunds_l22 at h
      refine wc_seq ?_
      refine wc_region ?_   -- region 9
      refine wl_det rfl rfl (det_lss rfl rfl) rfl ?_
      refine wl_nil ?_
      refine pn_then ?_
      refine wc_seq ?_
      refine wc_cond rfl (fun c26 => ?_) (fun c26 => ?_)
      · have h := ifT h c26
        refine wc_skip ?_
        refine pn_then ?_
        refine wc_seq ?_
        refine wc_block ?_
        refine wc_seq ?_
        refine wc_region ?_   -- region 10
        refine wl_det rfl rfl (det_move rfl) rfl ?_
        obtain ⟨k10_1, h⟩ := chk_some h
        refine wl_det rfl rfl (det_indexO rfl rfl (ms m0) k10_1 un39 sz46) rfl ?_
        refine wl_det rfl rfl (det_loadO (off := 0) rfl (ms m0) k10_1 (by rfl) (by rfl) (loaded_n (cells := [_, _, _, _, _]) ag46 sz46)) rfl ?_
        refine wl_act (act_alloc (cs := [_, _, _, _, _]) zr46 rfl) rfl rfl rfl ?_
        rintro _ _ _ ⟨b10_3, rfl, rfl, rfl⟩
        refine wl_det rfl rfl (det_assign rfl) rfl ?_
        refine wl_act0 (act_store (cells := [_, _, _, _, _]) (cs' := [_, _, _, _, _]) rfl rfl rfl s0 (by rfl) (of_decide_eq_true rfl) sz46 ⟨rfl, rfl, rfl, rfl, rfl, trivial⟩) rfl rfl ?_
        rintro _ _ _ ⟨rfl, rfl⟩
        refine wl_nil ?_
        refine pn_then ?_
        refine wc_seq ?_
        obtain ⟨q33, h, ho33⟩ := bind_some h
        refine wc_meetG (G := Bool × Unit) (fun (s33, _) => s33 = q33) (fun (s33, _) => [(4, .slice y2_1A0 r2_1.1.length y2_1c0), (7, .int .i64 r4_2.2.1), (9, .int .i64 s22.1), (11, .pointer (some ⟨b10_3, 0, none⟩)), (41, .slice y4_2A0 r4_2.1.length y4_2c0), (42, .int .i64 (r4_2.1.length : Int)), (43, .int .i64 s22.2), (118, .bool s33)]) (fun (_, _) => [eS lGMutual 48 y2_1A0 r2_1.1.length y2_1c0 r2_1.1, eBlk b10_3 46 [.int .i64 (ix r4_2.1 s22.2).Party, .int .i64 (ix r4_2.1 s22.2).SetOff, .int .i64 (ix r4_2.1 s22.2).Gets, .int .i64 (ix r4_2.1 s22.2).Pays, .int .i64 (ix r4_2.1 s22.2).Unpaid], eS lGDividend 46 y4_2A0 r4_2.1.length y4_2c0 r4_2.1]) (fun (_, _) => []) ?_ ?_
        · rcases Bool.eq_false_or_eq_true (!decide ((ix r4_2.1 s22.2).Party = (ix r2_1.1 s22.2).Party)) with hg11_g56 | hg11_g56
          · have h := ifT h hg11_g56
            obtain ⟨k11_p1, h⟩ := chk_some h
            refine dx_region 71 [[], [0], [], [], [2, 3], [2, 3, 4], [2, 3, 4, 5], [0, 1, 2, 3, 4, 5, 6], [0, 1, 2, 3, 4, 5, 6, 7], [0, 1, 2, 3, 4, 5, 6, 7, 8], [0, 1, 2, 3, 4, 5, 6, 7, 8, 9], [0, 1, 2, 3, 4, 5, 6, 7, 8], [0, 1, 2, 3, 4, 5, 6, 7, 8, 11], [0, 1, 2, 3, 4, 5, 6, 7, 8, 9, 10, 11, 12], [0, 1, 2, 3, 4, 5, 6, 7, 8], [0, 1, 2, 3, 4, 5, 6, 7, 8, 14], [0, 1, 2, 3, 4, 5, 6, 7, 8, 9, 10, 11, 12, 13, 14, 15], [0, 1, 2, 3, 4, 5, 6, 7, 8], [0, 1, 2, 3, 4, 5, 6, 7, 8], [0, 1, 2, 3, 4, 5, 6, 7, 8, 17, 18], [0, 1, 2, 3, 4, 5, 6, 7, 8, 17, 18, 19], [0, 1, 2, 3, 4, 5, 6, 7, 8, 17, 18, 19, 20], [0, 1, 2, 3, 4, 5, 6, 7, 8, 9, 10, 11, 12, 13, 14, 15, 16, 17, 18, 19, 20, 21], [0, 1, 2, 3, 4, 5, 6, 7, 8, 9, 10, 11, 12, 13, 14, 15, 16, 17, 18, 19, 20, 21, 22], [0, 1, 2, 3, 4, 5, 6, 7, 8, 9, 10, 11, 12, 13, 14, 15, 16, 17, 18, 19, 20, 21, 22, 23], [0, 1, 2, 3, 4, 5, 6, 7, 8, 9, 10, 11, 12, 13, 14, 15, 16, 17, 18, 19, 20, 21, 22, 23, 24], [0, 1, 2, 3, 4, 5, 6, 7, 8, 9, 10, 11, 12, 13, 14, 15, 16, 17, 18, 19, 20, 21, 22, 23, 24, 25], [0, 1, 2, 3, 4, 5, 6, 7, 8, 9, 10, 11, 12, 13, 14, 15, 16, 17, 18, 19, 20, 21, 22, 23, 24], [0, 1, 2, 3, 4, 5, 6, 7, 8, 9, 10, 11, 12, 13, 14, 15, 16, 17, 18, 19, 20, 21, 22, 23, 24, 27], [0, 1, 2, 3, 4, 5, 6, 7, 8, 9, 10, 11, 12, 13, 14, 15, 16, 17, 18, 19, 20, 21, 22, 23, 24, 25, 26, 27, 28], [0, 1, 2, 3, 4, 5, 6, 7, 8, 9, 10, 11, 12, 13, 14, 15, 16, 17, 18, 19, 20, 21, 22, 23, 24], [0, 1, 2, 3, 4, 5, 6, 7, 8, 9, 10, 11, 12, 13, 14, 15, 16, 17, 18, 19, 20, 21, 22, 23, 24], [0, 1, 2, 3, 4, 5, 6, 7, 8, 9, 10, 11, 12, 13, 14, 15, 16, 17, 18, 19, 20, 21, 22, 23, 24, 30, 31], [0, 1, 2, 3, 4, 5, 6, 7, 8, 9, 10, 11, 12, 13, 14, 15, 16, 17, 18, 19, 20, 21, 22, 23, 24, 30, 31, 32], [0, 1, 2, 3, 4, 5, 6, 7, 8, 9, 10, 11, 12, 13, 14, 15, 16, 17, 18, 19, 20, 21, 22, 23, 24, 30, 31, 32, 33], [0, 1, 2, 3, 4, 5, 6, 7, 8, 9, 10, 11, 12, 13, 14, 15, 16, 17, 18, 19, 20, 21, 22, 23, 24, 25, 26, 27, 28, 29, 30, 31, 32, 33, 34], [0, 1, 2, 3, 4, 5, 6, 7, 8, 9, 10, 11, 12, 13, 14, 15, 16, 17, 18, 19, 20, 21, 22, 23, 24, 25, 26, 27, 28, 29, 30, 31, 32, 33, 34, 35], [0, 1, 2, 3, 4, 5, 6, 7, 8, 9, 10, 11, 12, 13, 14, 15, 16, 17, 18, 19, 20, 21, 22, 23, 24, 25, 26, 27, 28, 29, 30, 31, 32, 33, 34, 35, 36], [0, 1, 2, 3, 4, 5, 6, 7, 8, 9, 10, 11, 12, 13, 14, 15, 16, 17, 18, 19, 20, 21, 22, 23, 24, 25, 26, 27, 28, 29, 30, 31, 32, 33, 34, 35, 36, 37], [0, 1, 2, 3, 4, 5, 6, 7, 8, 9, 10, 11, 12, 13, 14, 15, 16, 17, 18, 19, 20, 21, 22, 23, 24, 25, 26, 27, 28, 29, 30, 31, 32, 33, 34, 35, 36, 37, 38], [0, 1, 2, 3, 4, 5, 6, 7, 8, 9, 10, 11, 12, 13, 14, 15, 16, 17, 18, 19, 20, 21, 22, 23, 24, 25, 26, 27, 28, 29, 30, 31, 32, 33, 34, 35, 36, 37, 38, 39], [0, 1, 2, 3, 4, 5, 6, 7, 8, 9, 10, 11, 12, 13, 14, 15, 16, 17, 18, 19, 20, 21, 22, 23, 24, 25, 26, 27, 28, 29, 30, 31, 32, 33, 34, 35, 36, 37, 38, 39, 40], [0, 1, 2, 3, 4, 5, 6, 7, 8, 9, 10, 11, 12, 13, 14, 15, 16, 17, 18, 19, 20, 21, 22, 23, 24, 25, 26, 27, 28, 29, 30, 31, 32, 33, 34, 35, 36, 37, 38, 39, 40, 41], [0, 1, 2, 3, 4, 5, 6, 7, 8, 9, 10, 11, 12, 13, 14, 15, 16, 17, 18, 19, 20, 21, 22, 23, 24, 25, 26, 27, 28, 29, 30, 31, 32, 33, 34, 35, 36, 37, 38, 39, 40, 41, 42], [0, 1, 2, 3, 4, 5, 6, 7, 8, 9, 10, 11, 12, 13, 14, 15, 16, 17, 18, 19, 20, 21, 22, 23, 24, 25, 26, 27, 28, 29, 30, 31, 32, 33, 34, 35, 36, 37, 38, 39, 40, 41, 42, 43], [0, 1, 2, 3, 4, 5, 6, 7, 8, 9, 10, 11, 12, 13, 14, 15, 16, 17, 18, 19, 20, 21, 22, 23, 24, 25, 26, 27, 28, 29, 30, 31, 32, 33, 34, 35, 36, 37, 38, 39, 40, 41, 42, 43, 44], [0, 1, 2, 3, 4, 5, 6, 7, 8, 9, 10, 11, 12, 13, 14, 15, 16, 17, 18, 19, 20, 21, 22, 23, 24, 25, 26, 27, 28, 29, 30, 31, 32, 33, 34, 35, 36, 37, 38, 39, 40, 41, 42, 43, 44, 45], [0, 1, 2, 3, 4, 5, 6, 7, 8, 9, 10, 11, 12, 13, 14, 15, 16, 17, 18, 19, 20, 21, 22, 23, 24, 25, 26, 27, 28, 29, 30, 31, 32, 33, 34, 35, 36, 37, 38, 39, 40, 41, 42, 43, 44, 45, 46], [0, 1, 2, 3, 4, 5, 6, 7, 8, 9, 10, 11, 12, 13, 14, 15, 16, 17, 18, 19, 20, 21, 22, 23, 24, 25, 26, 27, 28, 29, 30, 31, 32, 33, 34, 35, 36, 37, 38, 39, 40, 41, 42, 43, 44, 45, 46, 47], [0, 1, 2, 3, 4, 5, 6, 7, 8, 9, 10, 11, 12, 13, 14, 15, 16, 17, 18, 19, 20, 21, 22, 23, 24, 25, 26, 27, 28, 29, 30, 31, 32, 33, 34, 35, 36, 37, 38, 39, 40, 41, 42, 43, 44, 45, 46, 47, 48], [0, 1, 2, 3, 4, 5, 6, 7, 8, 9, 10, 11, 12, 13, 14, 15, 16, 17, 18, 19, 20, 21, 22, 23, 24, 25, 26, 27, 28, 29, 30, 31, 32, 33, 34, 35, 36, 37, 38, 39, 40, 41, 42, 43, 44, 45, 46, 47, 48, 49], [0, 1, 2, 3, 4, 5, 6, 7, 8, 9, 10, 11, 12, 13, 14, 15, 16, 17, 18, 19, 20, 21, 22, 23, 24, 25, 26, 27, 28, 29, 30, 31, 32, 33, 34, 35, 36, 37, 38, 39, 40, 41, 42, 43, 44, 45, 46, 47, 48, 49, 50], [0, 1, 2, 3, 4, 5, 6, 7, 8, 9, 10, 11, 12, 13, 14, 15, 16, 17, 18, 19, 20, 21, 22, 23, 24, 25, 26, 27, 28, 29, 30, 31, 32, 33, 34, 35, 36, 37, 38, 39, 40, 41, 42, 43, 44, 45, 46, 47, 48, 49, 50, 51], [0, 1, 2, 3, 4, 5, 6, 7, 8, 9, 10, 11, 12, 13, 14, 15, 16, 17, 18, 19, 20, 21, 22, 23, 24, 25, 26, 27, 28, 29, 30, 31, 32, 33, 34, 35, 36, 37, 38, 39, 40, 41, 42, 43, 44, 45, 46, 47, 48, 49, 50, 51, 52], [0, 1, 2, 3, 4, 5, 6, 7, 8, 9, 10, 11, 12, 13, 14, 15, 16, 17, 18, 19, 20, 21, 22, 23, 24, 25, 26, 27, 28, 29, 30, 31, 32, 33, 34, 35, 36, 37, 38, 39, 40, 41, 42, 43, 44, 45, 46, 47, 48, 49, 50, 51, 52, 53], [0, 1, 2, 3, 4, 5, 6, 7, 8, 9, 10, 11, 12, 13, 14, 15, 16, 17, 18, 19, 20, 21, 22, 23, 24, 25, 26, 27, 28, 29, 30, 31, 32, 33, 34, 35, 36, 37, 38, 39, 40, 41, 42, 43, 44, 45, 46, 47, 48, 49, 50, 51, 52, 53, 54], [0, 1, 2, 3, 4, 5, 6, 7, 8, 9, 10, 11, 12, 13, 14, 15, 16, 17, 18, 19, 20, 21, 22, 23, 24, 25, 26, 27, 28, 29, 30, 31, 32, 33, 34, 35, 36, 37, 38, 39, 40, 41, 42, 43, 44, 45, 46, 47, 48, 49, 50, 51, 52, 53, 54, 55], [0, 1, 2, 3, 4, 5, 6, 7, 8, 9, 10, 11, 12, 13, 14, 15, 16, 17, 18, 19, 20, 21, 22, 23, 24, 25, 26, 27, 28, 29, 30, 31, 32, 33, 34, 35, 36, 37, 38, 39, 40, 41, 42, 43, 44, 45, 46, 47, 48, 49, 50, 51, 52, 53, 54, 55, 56], [0, 1, 2, 3, 4, 5, 6, 7, 8, 9, 10, 11, 12, 13, 14, 15, 16, 17, 18, 19, 20, 21, 22, 23, 24, 25, 26, 27, 28, 29, 30, 31, 32, 33, 34, 35, 36, 37, 38, 39, 40, 41, 42, 43, 44, 45, 46, 47, 48, 49, 50, 51, 52, 53, 54, 55, 56, 57], [0, 1, 2, 3, 4, 5, 6, 7, 8, 9, 10, 11, 12, 13, 14, 15, 16, 17, 18, 19, 20, 21, 22, 23, 24, 25, 26, 27, 28, 29, 30, 31, 32, 33, 34, 35, 36, 37, 38, 39, 40, 41, 42, 43, 44, 45, 46, 47, 48, 49, 50, 51, 52, 53, 54, 55, 56, 57, 58], [0, 1, 2, 3, 4, 5, 6, 7, 8, 9, 10, 11, 12, 13, 14, 15, 16, 17, 18, 19, 20, 21, 22, 23, 24, 25, 26, 27, 28, 29, 30, 31, 32, 33, 34, 35, 36, 37, 38, 39, 40, 41, 42, 43, 44, 45, 46, 47, 48, 49, 50, 51, 52, 53, 54, 55, 56, 57, 58, 59], [0, 1, 2, 3, 4, 5, 6, 7, 8, 9, 10, 11, 12, 13, 14, 15, 16, 17, 18, 19, 20, 21, 22, 23, 24, 25, 26, 27, 28, 29, 30, 31, 32, 33, 34, 35, 36, 37, 38, 39, 40, 41, 42, 43, 44, 45, 46, 47, 48, 49, 50, 51, 52, 53, 54, 55, 56, 57, 58, 59, 60], [0, 1, 2, 3, 4, 5, 6, 7, 8, 9, 10, 11, 12, 13, 14, 15, 16, 17, 18, 19, 20, 21, 22, 23, 24, 25, 26, 27, 28, 29, 30, 31, 32, 33, 34, 35, 36, 37, 38, 39, 40, 41, 42, 43, 44, 45, 46, 47, 48, 49, 50, 51, 52, 53, 54, 55, 56, 57, 58, 59, 60, 61], [0, 1, 2, 3, 4, 5, 6, 7, 8, 9, 10, 11, 12, 13, 14, 15, 16, 17, 18, 19, 20, 21, 22, 23, 24, 25, 26, 27, 28, 29, 30, 31, 32, 33, 34, 35, 36, 37, 38, 39, 40, 41, 42, 43, 44, 45, 46, 47, 48, 49, 50, 51, 52, 53, 54, 55, 56, 57, 58, 59, 60, 61, 62], [0, 1, 2, 3, 4, 5, 6, 7, 8, 9, 10, 11, 12, 13, 14, 15, 16, 17, 18, 19, 20, 21, 22, 23, 24, 25, 26, 27, 28, 29, 30, 31, 32, 33, 34, 35, 36, 37, 38, 39, 40, 41, 42, 43, 44, 45, 46, 47, 48, 49, 50, 51, 52, 53, 54, 55, 56, 57, 58, 59, 60, 61, 62, 63], [0, 1, 2, 3, 4, 5, 6, 7, 8, 9, 10, 11, 12, 13, 14, 15, 16, 17, 18, 19, 20, 21, 22, 23, 24, 25, 26, 27, 28, 29, 30, 31, 32, 33, 34, 35, 36, 37, 38, 39, 40, 41, 42, 43, 44, 45, 46, 47, 48, 49, 50, 51, 52, 53, 54, 55, 56, 57, 58, 59, 60, 61, 62, 63, 64], [0, 1, 2, 3, 4, 5, 6, 7, 8, 9, 10, 11, 12, 13, 14, 15, 16, 17, 18, 19, 20, 21, 22, 23, 24, 25, 26, 27, 28, 29, 30, 31, 32, 33, 34, 35, 36, 37, 38, 39, 40, 41, 42, 43, 44, 45, 46, 47, 48, 49, 50, 51, 52, 53, 54, 55, 56, 57, 58, 59, 60, 61, 62, 63, 64, 65], [0, 1, 2, 3, 4, 5, 6, 7, 8, 9, 10, 11, 12, 13, 14, 15, 16, 17, 18, 19, 20, 21, 22, 23, 24, 25, 26, 27, 28, 29, 30, 31, 32, 33, 34, 35, 36, 37, 38, 39, 40, 41, 42, 43, 44, 45, 46, 47, 48, 49, 50, 51, 52, 53, 54, 55, 56, 57, 58, 59, 60, 61, 62, 63, 64, 65, 66], [0, 1, 2, 3, 4, 5, 6, 7, 8, 9, 10, 11, 12, 13, 14, 15, 16, 17, 18, 19, 20, 21, 22, 23, 24, 25, 26, 27, 28, 29, 30, 31, 32, 33, 34, 35, 36, 37, 38, 39, 40, 41, 42, 43, 44, 45, 46, 47, 48, 49, 50, 51, 52, 53, 54, 55, 56, 57, 58, 59, 60, 61, 62, 63, 64, 65, 66, 67], [0, 1, 2, 3, 4, 5, 6, 7, 8, 9, 10, 11, 12, 13, 14, 15, 16, 17, 18, 19, 20, 21, 22, 23, 24, 25, 26, 27, 28, 29, 30, 31, 32, 33, 34, 35, 36, 37, 38, 39, 40, 41, 42, 43, 44, 45, 46, 47, 48, 49, 50, 51, 52, 53, 54, 55, 56, 57, 58, 59, 60, 61, 62, 63, 64, 65, 66, 67, 68], [0, 1, 2, 3, 4, 5, 6, 7, 8, 9, 10, 11, 12, 13, 14, 15, 16, 17, 18, 19, 20, 21, 22, 23, 24, 25, 26, 27, 28, 29, 30, 31, 32, 33, 34, 35, 36, 37, 38, 39, 40, 41, 42, 43, 44, 45, 46, 47, 48, 49, 50, 51, 52, 53, 54, 55, 56, 57, 58, 59, 60, 61, 62, 63, 64, 65, 66, 67, 68, 69]] mixed (ord := (.det 0 (.det 1 (.det 2 (.det 3 (.det 4 (.det 5 (.det 6 (.det 7 (.det 8 (.det 9 (.det 10 (.det 11 (.det 12 (.det 13 (.det 14 (.det 15 (.det 16 (.det 17 (.det 18 (.det 19 (.det 20 (.det 21 (.det 22 (.det 23 (.det 24 (.det 25 (.det 26 (.det 27 (.det 28 (.det 29 (.det 30 (.det 31 (.det 32 (.det 33 (.det 34 (.det 35 (.det 36 (.det 37 (.det 38 (.det 39 (.det 40 (.det 41 (.det 42 (.det 43 (.det 44 (.det 45 (.det 46 (.det 47 (.det 48 (.det 49 (.det 50 (.det 51 (.det 52 (.det 53 (.det 54 (.det 55 (.det 56 (.det 57 (.det 58 (.det 59 (.det 60 (.det 61 (.det 62 (.det 63 (.det 64 (.det 65 (.det 66 (.det 67 (.det 68 (.det 69 (.det 70 .done)))))))))))))))))))))))))))))))))))))))))))))))))))))))))))))))))))))))) (by kernel_rfl) ?_   -- region 11
            refine hx_det rfl rfl rfl nofun (det_field rfl fd46_0 rfl) rfl ?_
            refine hx_det rfl rfl rfl nofun (det_load rfl m0 (by rfl) na3 us3) rfl ?_
            refine hx_det rfl rfl rfl nofun (det_move rfl) rfl ?_
            refine hx_det rfl rfl rfl nofun (det_move rfl) rfl ?_
            refine hx_det rfl rfl rfl nofun (det_indexO rfl rfl (ms m0) k11_p1 un36 sz48) rfl ?_
            refine hx_det rfl rfl rfl nofun (det_fieldO rfl (ms m0) k11_p1 fd48_0 rfl) rfl ?_
            refine hx_det rfl rfl rfl nofun (det_loadO (off := 0) rfl (ms m0) k11_p1 (by rfl) (by rfl) (loaded_1 na3 us3)) rfl ?_
            refine hx_det rfl rfl rfl nofun (det_neq rfl rfl) rfl ?_
            refine hx_det rfl rfl rfl nofun (det_move rfl) rfl ?_
            refine hx_off rfl rfl rfl rfl rfl hg11_g56 rfl ?_
            refine hx_off rfl rfl rfl rfl rfl hg11_g56 rfl ?_
            refine hx_off rfl rfl rfl rfl rfl hg11_g56 rfl ?_
            refine hx_off rfl rfl rfl rfl rfl hg11_g56 rfl ?_
            refine hx_off rfl rfl rfl rfl rfl hg11_g56 rfl ?_
            refine hx_off rfl rfl rfl rfl rfl hg11_g56 rfl ?_
            refine hx_off rfl rfl rfl rfl rfl hg11_g56 rfl ?_
            refine hx_off rfl rfl rfl rfl rfl hg11_g56 rfl ?_
            refine hx_off rfl rfl rfl rfl rfl hg11_g56 rfl ?_
            refine hx_off rfl rfl rfl rfl rfl hg11_g56 rfl ?_
            refine hx_off rfl rfl rfl rfl rfl hg11_g56 rfl ?_
            refine hx_off rfl rfl rfl rfl rfl hg11_g56 rfl ?_
            refine hx_off rfl rfl rfl rfl rfl hg11_g56 rfl ?_
            refine hx_off rfl rfl rfl rfl rfl hg11_g56 rfl ?_
            refine hx_det rfl rfl rfl nofun (det_pick_on rfl hg11_g56 rfl rfl) rfl ?_
            refine hx_det rfl rfl rfl nofun (det_move rfl) rfl ?_
            refine hx_off rfl rfl rfl rfl rfl rfl rfl ?_
            refine hx_off rfl rfl rfl rfl rfl rfl rfl ?_
            refine hx_off rfl rfl rfl rfl rfl rfl rfl ?_
            refine hx_off rfl rfl rfl rfl rfl rfl rfl ?_
            refine hx_off rfl rfl rfl rfl rfl rfl rfl ?_
            refine hx_off rfl rfl rfl rfl rfl rfl rfl ?_
            refine hx_off rfl rfl rfl rfl rfl rfl rfl ?_
            refine hx_off rfl rfl rfl rfl rfl rfl rfl ?_
            refine hx_off rfl rfl rfl rfl rfl rfl rfl ?_
            refine hx_off rfl rfl rfl rfl rfl rfl rfl ?_
            refine hx_off rfl rfl rfl rfl rfl rfl rfl ?_
            refine hx_det rfl rfl rfl nofun (det_pick_on rfl rfl rfl rfl) rfl ?_
            refine hx_det rfl rfl rfl nofun (det_move rfl) rfl ?_
            refine hx_off rfl rfl rfl rfl rfl rfl rfl ?_
            refine hx_off rfl rfl rfl rfl rfl rfl rfl ?_
            refine hx_off rfl rfl rfl rfl rfl rfl rfl ?_
            refine hx_det rfl rfl rfl nofun (det_pick_on rfl rfl rfl rfl) rfl ?_
            refine hx_det rfl rfl rfl nofun (det_move rfl) rfl ?_
            refine hx_off rfl rfl rfl rfl rfl rfl rfl ?_
            refine hx_off rfl rfl rfl rfl rfl rfl rfl ?_
            refine hx_off rfl rfl rfl rfl rfl rfl rfl ?_
            refine hx_det rfl rfl rfl nofun (det_pick_on rfl rfl rfl rfl) rfl ?_
            refine hx_det rfl rfl rfl nofun (det_move rfl) rfl ?_
            refine hx_off rfl rfl rfl rfl rfl rfl rfl ?_
            refine hx_off rfl rfl rfl rfl rfl rfl rfl ?_
            refine hx_off rfl rfl rfl rfl rfl rfl rfl ?_
            refine hx_det rfl rfl rfl nofun (det_pick_on rfl rfl rfl rfl) rfl ?_
            refine hx_det rfl rfl rfl nofun (det_move rfl) rfl ?_
            refine hx_off rfl rfl rfl rfl rfl rfl rfl ?_
            refine hx_off rfl rfl rfl rfl rfl rfl rfl ?_
            refine hx_off rfl rfl rfl rfl rfl rfl rfl ?_
            refine hx_det rfl rfl rfl nofun (det_pick_on rfl rfl rfl rfl) rfl ?_
            refine hx_det rfl rfl rfl nofun (det_move rfl) rfl ?_
            refine hx_off rfl rfl rfl rfl rfl rfl rfl ?_
            refine hx_off rfl rfl rfl rfl rfl rfl rfl ?_
            refine hx_off rfl rfl rfl rfl rfl rfl rfl ?_
            refine hx_off rfl rfl rfl rfl rfl rfl rfl ?_
            refine hx_none rfl rfl rfl rfl rfl rfl ?_
            refine hx_none rfl rfl rfl rfl rfl rfl ?_
            refine hx_none rfl rfl rfl rfl rfl rfl ?_
            refine hx_none rfl rfl rfl rfl rfl rfl ?_
            refine hx_none rfl rfl rfl rfl rfl rfl ?_
            refine hx_none rfl rfl rfl rfl rfl rfl ?_
            refine hx_none rfl rfl rfl rfl rfl rfl ?_
            refine hx_off rfl rfl rfl rfl rfl rfl rfl ?_
            refine hx_det rfl rfl rfl nofun (det_pick_on rfl rfl rfl rfl) rfl ?_
            refine hx_end ?_
            refine wl_nil ?_
            replace h := Option.some.inj h
            subst h
            exact pn_meetG (true, ()) rfl ⟨rfl, rfl, rfl, rfl, rfl, rfl, rfl, rfl, trivial⟩ (fun _ h => h.to ⟨_, (rs r0), ⟨_, r0, ⟨_, r0, trivial⟩⟩⟩ trivial)
          · have h := ifF h hg11_g56
            rcases Bool.eq_false_or_eq_true (!decide ((w64 ((w64 ((ix r4_2.1 s22.2).SetOff + (ix r4_2.1 s22.2).Gets)) + (ix r4_2.1 s22.2).Unpaid)) = (ix r2_1.1 s22.2).Owed)) with hg11_g72 | hg11_g72
            · have h := ifT h hg11_g72
              obtain ⟨k11_p2, h⟩ := chk_some h
              refine dx_region 71 [[], [0], [], [], [2, 3], [2, 3, 4], [2, 3, 4, 5], [0, 1, 2, 3, 4, 5, 6], [0, 1, 2, 3, 4, 5, 6, 7], [0, 1, 2, 3, 4, 5, 6, 7, 8], [0, 1, 2, 3, 4, 5, 6, 7, 8, 9], [0, 1, 2, 3, 4, 5, 6, 7, 8], [0, 1, 2, 3, 4, 5, 6, 7, 8, 11], [0, 1, 2, 3, 4, 5, 6, 7, 8, 9, 10, 11, 12], [0, 1, 2, 3, 4, 5, 6, 7, 8], [0, 1, 2, 3, 4, 5, 6, 7, 8, 14], [0, 1, 2, 3, 4, 5, 6, 7, 8, 9, 10, 11, 12, 13, 14, 15], [0, 1, 2, 3, 4, 5, 6, 7, 8], [0, 1, 2, 3, 4, 5, 6, 7, 8], [0, 1, 2, 3, 4, 5, 6, 7, 8, 17, 18], [0, 1, 2, 3, 4, 5, 6, 7, 8, 17, 18, 19], [0, 1, 2, 3, 4, 5, 6, 7, 8, 17, 18, 19, 20], [0, 1, 2, 3, 4, 5, 6, 7, 8, 9, 10, 11, 12, 13, 14, 15, 16, 17, 18, 19, 20, 21], [0, 1, 2, 3, 4, 5, 6, 7, 8, 9, 10, 11, 12, 13, 14, 15, 16, 17, 18, 19, 20, 21, 22], [0, 1, 2, 3, 4, 5, 6, 7, 8, 9, 10, 11, 12, 13, 14, 15, 16, 17, 18, 19, 20, 21, 22, 23], [0, 1, 2, 3, 4, 5, 6, 7, 8, 9, 10, 11, 12, 13, 14, 15, 16, 17, 18, 19, 20, 21, 22, 23, 24], [0, 1, 2, 3, 4, 5, 6, 7, 8, 9, 10, 11, 12, 13, 14, 15, 16, 17, 18, 19, 20, 21, 22, 23, 24, 25], [0, 1, 2, 3, 4, 5, 6, 7, 8, 9, 10, 11, 12, 13, 14, 15, 16, 17, 18, 19, 20, 21, 22, 23, 24], [0, 1, 2, 3, 4, 5, 6, 7, 8, 9, 10, 11, 12, 13, 14, 15, 16, 17, 18, 19, 20, 21, 22, 23, 24, 27], [0, 1, 2, 3, 4, 5, 6, 7, 8, 9, 10, 11, 12, 13, 14, 15, 16, 17, 18, 19, 20, 21, 22, 23, 24, 25, 26, 27, 28], [0, 1, 2, 3, 4, 5, 6, 7, 8, 9, 10, 11, 12, 13, 14, 15, 16, 17, 18, 19, 20, 21, 22, 23, 24], [0, 1, 2, 3, 4, 5, 6, 7, 8, 9, 10, 11, 12, 13, 14, 15, 16, 17, 18, 19, 20, 21, 22, 23, 24], [0, 1, 2, 3, 4, 5, 6, 7, 8, 9, 10, 11, 12, 13, 14, 15, 16, 17, 18, 19, 20, 21, 22, 23, 24, 30, 31], [0, 1, 2, 3, 4, 5, 6, 7, 8, 9, 10, 11, 12, 13, 14, 15, 16, 17, 18, 19, 20, 21, 22, 23, 24, 30, 31, 32], [0, 1, 2, 3, 4, 5, 6, 7, 8, 9, 10, 11, 12, 13, 14, 15, 16, 17, 18, 19, 20, 21, 22, 23, 24, 30, 31, 32, 33], [0, 1, 2, 3, 4, 5, 6, 7, 8, 9, 10, 11, 12, 13, 14, 15, 16, 17, 18, 19, 20, 21, 22, 23, 24, 25, 26, 27, 28, 29, 30, 31, 32, 33, 34], [0, 1, 2, 3, 4, 5, 6, 7, 8, 9, 10, 11, 12, 13, 14, 15, 16, 17, 18, 19, 20, 21, 22, 23, 24, 25, 26, 27, 28, 29, 30, 31, 32, 33, 34, 35], [0, 1, 2, 3, 4, 5, 6, 7, 8, 9, 10, 11, 12, 13, 14, 15, 16, 17, 18, 19, 20, 21, 22, 23, 24, 25, 26, 27, 28, 29, 30, 31, 32, 33, 34, 35, 36], [0, 1, 2, 3, 4, 5, 6, 7, 8, 9, 10, 11, 12, 13, 14, 15, 16, 17, 18, 19, 20, 21, 22, 23, 24, 25, 26, 27, 28, 29, 30, 31, 32, 33, 34, 35, 36, 37], [0, 1, 2, 3, 4, 5, 6, 7, 8, 9, 10, 11, 12, 13, 14, 15, 16, 17, 18, 19, 20, 21, 22, 23, 24, 25, 26, 27, 28, 29, 30, 31, 32, 33, 34, 35, 36, 37, 38], [0, 1, 2, 3, 4, 5, 6, 7, 8, 9, 10, 11, 12, 13, 14, 15, 16, 17, 18, 19, 20, 21, 22, 23, 24, 25, 26, 27, 28, 29, 30, 31, 32, 33, 34, 35, 36, 37, 38, 39], [0, 1, 2, 3, 4, 5, 6, 7, 8, 9, 10, 11, 12, 13, 14, 15, 16, 17, 18, 19, 20, 21, 22, 23, 24, 25, 26, 27, 28, 29, 30, 31, 32, 33, 34, 35, 36, 37, 38, 39, 40], [0, 1, 2, 3, 4, 5, 6, 7, 8, 9, 10, 11, 12, 13, 14, 15, 16, 17, 18, 19, 20, 21, 22, 23, 24, 25, 26, 27, 28, 29, 30, 31, 32, 33, 34, 35, 36, 37, 38, 39, 40, 41], [0, 1, 2, 3, 4, 5, 6, 7, 8, 9, 10, 11, 12, 13, 14, 15, 16, 17, 18, 19, 20, 21, 22, 23, 24, 25, 26, 27, 28, 29, 30, 31, 32, 33, 34, 35, 36, 37, 38, 39, 40, 41, 42], [0, 1, 2, 3, 4, 5, 6, 7, 8, 9, 10, 11, 12, 13, 14, 15, 16, 17, 18, 19, 20, 21, 22, 23, 24, 25, 26, 27, 28, 29, 30, 31, 32, 33, 34, 35, 36, 37, 38, 39, 40, 41, 42, 43], [0, 1, 2, 3, 4, 5, 6, 7, 8, 9, 10, 11, 12, 13, 14, 15, 16, 17, 18, 19, 20, 21, 22, 23, 24, 25, 26, 27, 28, 29, 30, 31, 32, 33, 34, 35, 36, 37, 38, 39, 40, 41, 42, 43, 44], [0, 1, 2, 3, 4, 5, 6, 7, 8, 9, 10, 11, 12, 13, 14, 15, 16, 17, 18, 19, 20, 21, 22, 23, 24, 25, 26, 27, 28, 29, 30, 31, 32, 33, 34, 35, 36, 37, 38, 39, 40, 41, 42, 43, 44, 45], [0, 1, 2, 3, 4, 5, 6, 7, 8, 9, 10, 11, 12, 13, 14, 15, 16, 17, 18, 19, 20, 21, 22, 23, 24, 25, 26, 27, 28, 29, 30, 31, 32, 33, 34, 35, 36, 37, 38, 39, 40, 41, 42, 43, 44, 45, 46], [0, 1, 2, 3, 4, 5, 6, 7, 8, 9, 10, 11, 12, 13, 14, 15, 16, 17, 18, 19, 20, 21, 22, 23, 24, 25, 26, 27, 28, 29, 30, 31, 32, 33, 34, 35, 36, 37, 38, 39, 40, 41, 42, 43, 44, 45, 46, 47], [0, 1, 2, 3, 4, 5, 6, 7, 8, 9, 10, 11, 12, 13, 14, 15, 16, 17, 18, 19, 20, 21, 22, 23, 24, 25, 26, 27, 28, 29, 30, 31, 32, 33, 34, 35, 36, 37, 38, 39, 40, 41, 42, 43, 44, 45, 46, 47, 48], [0, 1, 2, 3, 4, 5, 6, 7, 8, 9, 10, 11, 12, 13, 14, 15, 16, 17, 18, 19, 20, 21, 22, 23, 24, 25, 26, 27, 28, 29, 30, 31, 32, 33, 34, 35, 36, 37, 38, 39, 40, 41, 42, 43, 44, 45, 46, 47, 48, 49], [0, 1, 2, 3, 4, 5, 6, 7, 8, 9, 10, 11, 12, 13, 14, 15, 16, 17, 18, 19, 20, 21, 22, 23, 24, 25, 26, 27, 28, 29, 30, 31, 32, 33, 34, 35, 36, 37, 38, 39, 40, 41, 42, 43, 44, 45, 46, 47, 48, 49, 50], [0, 1, 2, 3, 4, 5, 6, 7, 8, 9, 10, 11, 12, 13, 14, 15, 16, 17, 18, 19, 20, 21, 22, 23, 24, 25, 26, 27, 28, 29, 30, 31, 32, 33, 34, 35, 36, 37, 38, 39, 40, 41, 42, 43, 44, 45, 46, 47, 48, 49, 50, 51], [0, 1, 2, 3, 4, 5, 6, 7, 8, 9, 10, 11, 12, 13, 14, 15, 16, 17, 18, 19, 20, 21, 22, 23, 24, 25, 26, 27, 28, 29, 30, 31, 32, 33, 34, 35, 36, 37, 38, 39, 40, 41, 42, 43, 44, 45, 46, 47, 48, 49, 50, 51, 52], [0, 1, 2, 3, 4, 5, 6, 7, 8, 9, 10, 11, 12, 13, 14, 15, 16, 17, 18, 19, 20, 21, 22, 23, 24, 25, 26, 27, 28, 29, 30, 31, 32, 33, 34, 35, 36, 37, 38, 39, 40, 41, 42, 43, 44, 45, 46, 47, 48, 49, 50, 51, 52, 53], [0, 1, 2, 3, 4, 5, 6, 7, 8, 9, 10, 11, 12, 13, 14, 15, 16, 17, 18, 19, 20, 21, 22, 23, 24, 25, 26, 27, 28, 29, 30, 31, 32, 33, 34, 35, 36, 37, 38, 39, 40, 41, 42, 43, 44, 45, 46, 47, 48, 49, 50, 51, 52, 53, 54], [0, 1, 2, 3, 4, 5, 6, 7, 8, 9, 10, 11, 12, 13, 14, 15, 16, 17, 18, 19, 20, 21, 22, 23, 24, 25, 26, 27, 28, 29, 30, 31, 32, 33, 34, 35, 36, 37, 38, 39, 40, 41, 42, 43, 44, 45, 46, 47, 48, 49, 50, 51, 52, 53, 54, 55], [0, 1, 2, 3, 4, 5, 6, 7, 8, 9, 10, 11, 12, 13, 14, 15, 16, 17, 18, 19, 20, 21, 22, 23, 24, 25, 26, 27, 28, 29, 30, 31, 32, 33, 34, 35, 36, 37, 38, 39, 40, 41, 42, 43, 44, 45, 46, 47, 48, 49, 50, 51, 52, 53, 54, 55, 56], [0, 1, 2, 3, 4, 5, 6, 7, 8, 9, 10, 11, 12, 13, 14, 15, 16, 17, 18, 19, 20, 21, 22, 23, 24, 25, 26, 27, 28, 29, 30, 31, 32, 33, 34, 35, 36, 37, 38, 39, 40, 41, 42, 43, 44, 45, 46, 47, 48, 49, 50, 51, 52, 53, 54, 55, 56, 57], [0, 1, 2, 3, 4, 5, 6, 7, 8, 9, 10, 11, 12, 13, 14, 15, 16, 17, 18, 19, 20, 21, 22, 23, 24, 25, 26, 27, 28, 29, 30, 31, 32, 33, 34, 35, 36, 37, 38, 39, 40, 41, 42, 43, 44, 45, 46, 47, 48, 49, 50, 51, 52, 53, 54, 55, 56, 57, 58], [0, 1, 2, 3, 4, 5, 6, 7, 8, 9, 10, 11, 12, 13, 14, 15, 16, 17, 18, 19, 20, 21, 22, 23, 24, 25, 26, 27, 28, 29, 30, 31, 32, 33, 34, 35, 36, 37, 38, 39, 40, 41, 42, 43, 44, 45, 46, 47, 48, 49, 50, 51, 52, 53, 54, 55, 56, 57, 58, 59], [0, 1, 2, 3, 4, 5, 6, 7, 8, 9, 10, 11, 12, 13, 14, 15, 16, 17, 18, 19, 20, 21, 22, 23, 24, 25, 26, 27, 28, 29, 30, 31, 32, 33, 34, 35, 36, 37, 38, 39, 40, 41, 42, 43, 44, 45, 46, 47, 48, 49, 50, 51, 52, 53, 54, 55, 56, 57, 58, 59, 60], [0, 1, 2, 3, 4, 5, 6, 7, 8, 9, 10, 11, 12, 13, 14, 15, 16, 17, 18, 19, 20, 21, 22, 23, 24, 25, 26, 27, 28, 29, 30, 31, 32, 33, 34, 35, 36, 37, 38, 39, 40, 41, 42, 43, 44, 45, 46, 47, 48, 49, 50, 51, 52, 53, 54, 55, 56, 57, 58, 59, 60, 61], [0, 1, 2, 3, 4, 5, 6, 7, 8, 9, 10, 11, 12, 13, 14, 15, 16, 17, 18, 19, 20, 21, 22, 23, 24, 25, 26, 27, 28, 29, 30, 31, 32, 33, 34, 35, 36, 37, 38, 39, 40, 41, 42, 43, 44, 45, 46, 47, 48, 49, 50, 51, 52, 53, 54, 55, 56, 57, 58, 59, 60, 61, 62], [0, 1, 2, 3, 4, 5, 6, 7, 8, 9, 10, 11, 12, 13, 14, 15, 16, 17, 18, 19, 20, 21, 22, 23, 24, 25, 26, 27, 28, 29, 30, 31, 32, 33, 34, 35, 36, 37, 38, 39, 40, 41, 42, 43, 44, 45, 46, 47, 48, 49, 50, 51, 52, 53, 54, 55, 56, 57, 58, 59, 60, 61, 62, 63], [0, 1, 2, 3, 4, 5, 6, 7, 8, 9, 10, 11, 12, 13, 14, 15, 16, 17, 18, 19, 20, 21, 22, 23, 24, 25, 26, 27, 28, 29, 30, 31, 32, 33, 34, 35, 36, 37, 38, 39, 40, 41, 42, 43, 44, 45, 46, 47, 48, 49, 50, 51, 52, 53, 54, 55, 56, 57, 58, 59, 60, 61, 62, 63, 64], [0, 1, 2, 3, 4, 5, 6, 7, 8, 9, 10, 11, 12, 13, 14, 15, 16, 17, 18, 19, 20, 21, 22, 23, 24, 25, 26, 27, 28, 29, 30, 31, 32, 33, 34, 35, 36, 37, 38, 39, 40, 41, 42, 43, 44, 45, 46, 47, 48, 49, 50, 51, 52, 53, 54, 55, 56, 57, 58, 59, 60, 61, 62, 63, 64, 65], [0, 1, 2, 3, 4, 5, 6, 7, 8, 9, 10, 11, 12, 13, 14, 15, 16, 17, 18, 19, 20, 21, 22, 23, 24, 25, 26, 27, 28, 29, 30, 31, 32, 33, 34, 35, 36, 37, 38, 39, 40, 41, 42, 43, 44, 45, 46, 47, 48, 49, 50, 51, 52, 53, 54, 55, 56, 57, 58, 59, 60, 61, 62, 63, 64, 65, 66], [0, 1, 2, 3, 4, 5, 6, 7, 8, 9, 10, 11, 12, 13, 14, 15, 16, 17, 18, 19, 20, 21, 22, 23, 24, 25, 26, 27, 28, 29, 30, 31, 32, 33, 34, 35, 36, 37, 38, 39, 40, 41, 42, 43, 44, 45, 46, 47, 48, 49, 50, 51, 52, 53, 54, 55, 56, 57, 58, 59, 60, 61, 62, 63, 64, 65, 66, 67], [0, 1, 2, 3, 4, 5, 6, 7, 8, 9, 10, 11, 12, 13, 14, 15, 16, 17, 18, 19, 20, 21, 22, 23, 24, 25, 26, 27, 28, 29, 30, 31, 32, 33, 34, 35, 36, 37, 38, 39, 40, 41, 42, 43, 44, 45, 46, 47, 48, 49, 50, 51, 52, 53, 54, 55, 56, 57, 58, 59, 60, 61, 62, 63, 64, 65, 66, 67, 68], [0, 1, 2, 3, 4, 5, 6, 7, 8, 9, 10, 11, 12, 13, 14, 15, 16, 17, 18, 19, 20, 21, 22, 23, 24, 25, 26, 27, 28, 29, 30, 31, 32, 33, 34, 35, 36, 37, 38, 39, 40, 41, 42, 43, 44, 45, 46, 47, 48, 49, 50, 51, 52, 53, 54, 55, 56, 57, 58, 59, 60, 61, 62, 63, 64, 65, 66, 67, 68, 69]] mixed (ord := (.det 0 (.det 1 (.det 2 (.det 3 (.det 4 (.det 5 (.det 6 (.det 7 (.det 8 (.det 9 (.det 10 (.det 11 (.det 12 (.det 13 (.det 14 (.det 15 (.det 16 (.det 17 (.det 18 (.det 19 (.det 20 (.det 21 (.det 22 (.det 23 (.det 24 (.det 25 (.det 26 (.det 27 (.det 28 (.det 29 (.det 30 (.det 31 (.det 32 (.det 33 (.det 34 (.det 35 (.det 36 (.det 37 (.det 38 (.det 39 (.det 40 (.det 41 (.det 42 (.det 43 (.det 44 (.det 45 (.det 46 (.det 47 (.det 48 (.det 49 (.det 50 (.det 51 (.det 52 (.det 53 (.det 54 (.det 55 (.det 56 (.det 57 (.det 58 (.det 59 (.det 60 (.det 61 (.det 62 (.det 63 (.det 64 (.det 65 (.det 66 (.det 67 (.det 68 (.det 69 (.det 70 .done)))))))))))))))))))))))))))))))))))))))))))))))))))))))))))))))))))))))) (by kernel_rfl) ?_   -- region 11
              refine hx_det rfl rfl rfl nofun (det_field rfl fd46_0 rfl) rfl ?_
              refine hx_det rfl rfl rfl nofun (det_load rfl m0 (by rfl) na3 us3) rfl ?_
              refine hx_det rfl rfl rfl nofun (det_move rfl) rfl ?_
              refine hx_det rfl rfl rfl nofun (det_move rfl) rfl ?_
              refine hx_det rfl rfl rfl nofun (det_indexO rfl rfl (ms m0) k11_p2 un36 sz48) rfl ?_
              refine hx_det rfl rfl rfl nofun (det_fieldO rfl (ms m0) k11_p2 fd48_0 rfl) rfl ?_
              refine hx_det rfl rfl rfl nofun (det_loadO (off := 0) rfl (ms m0) k11_p2 (by rfl) (by rfl) (loaded_1 na3 us3)) rfl ?_
              refine hx_det rfl rfl rfl nofun (det_neq rfl rfl) rfl ?_
              refine hx_det rfl rfl rfl nofun (det_move rfl) rfl ?_
              refine hx_on rfl rfl rfl rfl rfl hg11_g56 nofun (det_field rfl fd46_1 rfl) rfl ?_
              refine hx_on rfl rfl rfl rfl rfl hg11_g56 nofun (det_load rfl m0 (by rfl) na3 us3) rfl ?_
              refine hx_on rfl rfl rfl rfl rfl hg11_g56 nofun (det_field rfl fd46_2 rfl) rfl ?_
              refine hx_on rfl rfl rfl rfl rfl hg11_g56 nofun (det_load rfl m0 (by rfl) na3 us3) rfl ?_
              refine hx_on rfl rfl rfl rfl rfl hg11_g56 nofun (det_add rfl rfl) rfl ?_
              refine hx_on rfl rfl rfl rfl rfl hg11_g56 nofun (det_field rfl fd46_4 rfl) rfl ?_
              refine hx_on rfl rfl rfl rfl rfl hg11_g56 nofun (det_load rfl m0 (by rfl) na3 us3) rfl ?_
              refine hx_on rfl rfl rfl rfl rfl hg11_g56 nofun (det_add rfl rfl) rfl ?_
              refine hx_on rfl rfl rfl rfl rfl hg11_g56 nofun (det_move rfl) rfl ?_
              refine hx_on rfl rfl rfl rfl rfl hg11_g56 nofun (det_move rfl) rfl ?_
              refine hx_on rfl rfl rfl rfl rfl hg11_g56 nofun (det_indexO rfl rfl (ms m0) k11_p2 un36 sz48) rfl ?_
              refine hx_on rfl rfl rfl rfl rfl hg11_g56 nofun (det_fieldO rfl (ms m0) k11_p2 fd48_1 rfl) rfl ?_
              refine hx_on rfl rfl rfl rfl rfl hg11_g56 nofun (det_loadO (off := 1) rfl (ms m0) k11_p2 (by rfl) (by rfl) (loaded_1 na3 us3)) rfl ?_
              refine hx_on rfl rfl rfl rfl rfl hg11_g56 nofun (det_neq rfl rfl) rfl ?_
              refine hx_det rfl rfl rfl nofun (det_pick_off rfl hg11_g56 rfl rfl) rfl ?_
              refine hx_det rfl rfl rfl nofun (det_move rfl) rfl ?_
              refine hx_off rfl rfl rfl rfl rfl hg11_g72 rfl ?_
              refine hx_off rfl rfl rfl rfl rfl hg11_g72 rfl ?_
              refine hx_off rfl rfl rfl rfl rfl hg11_g72 rfl ?_
              refine hx_off rfl rfl rfl rfl rfl hg11_g72 rfl ?_
              refine hx_off rfl rfl rfl rfl rfl hg11_g72 rfl ?_
              refine hx_off rfl rfl rfl rfl rfl hg11_g72 rfl ?_
              refine hx_off rfl rfl rfl rfl rfl hg11_g72 rfl ?_
              refine hx_off rfl rfl rfl rfl rfl hg11_g72 rfl ?_
              refine hx_off rfl rfl rfl rfl rfl hg11_g72 rfl ?_
              refine hx_off rfl rfl rfl rfl rfl hg11_g72 rfl ?_
              refine hx_off rfl rfl rfl rfl rfl hg11_g72 rfl ?_
              refine hx_det rfl rfl rfl nofun (det_pick_on rfl hg11_g72 rfl rfl) rfl ?_
              refine hx_det rfl rfl rfl nofun (det_move rfl) rfl ?_
              refine hx_off rfl rfl rfl rfl rfl rfl rfl ?_
              refine hx_off rfl rfl rfl rfl rfl rfl rfl ?_
              refine hx_off rfl rfl rfl rfl rfl rfl rfl ?_
              refine hx_det rfl rfl rfl nofun (det_pick_on rfl rfl rfl rfl) rfl ?_
              refine hx_det rfl rfl rfl nofun (det_move rfl) rfl ?_
              refine hx_off rfl rfl rfl rfl rfl rfl rfl ?_
              refine hx_off rfl rfl rfl rfl rfl rfl rfl ?_
              refine hx_off rfl rfl rfl rfl rfl rfl rfl ?_
              refine hx_det rfl rfl rfl nofun (det_pick_on rfl rfl rfl rfl) rfl ?_
              refine hx_det rfl rfl rfl nofun (det_move rfl) rfl ?_
              refine hx_off rfl rfl rfl rfl rfl rfl rfl ?_
              refine hx_off rfl rfl rfl rfl rfl rfl rfl ?_
              refine hx_off rfl rfl rfl rfl rfl rfl rfl ?_
              refine hx_det rfl rfl rfl nofun (det_pick_on rfl rfl rfl rfl) rfl ?_
              refine hx_det rfl rfl rfl nofun (det_move rfl) rfl ?_
              refine hx_off rfl rfl rfl rfl rfl rfl rfl ?_
              refine hx_off rfl rfl rfl rfl rfl rfl rfl ?_
              refine hx_off rfl rfl rfl rfl rfl rfl rfl ?_
              refine hx_det rfl rfl rfl nofun (det_pick_on rfl rfl rfl rfl) rfl ?_
              refine hx_det rfl rfl rfl nofun (det_move rfl) rfl ?_
              refine hx_off rfl rfl rfl rfl rfl rfl rfl ?_
              refine hx_off rfl rfl rfl rfl rfl rfl rfl ?_
              refine hx_off rfl rfl rfl rfl rfl rfl rfl ?_
              refine hx_off rfl rfl rfl rfl rfl rfl rfl ?_
              refine hx_none rfl rfl rfl rfl rfl rfl ?_
              refine hx_none rfl rfl rfl rfl rfl rfl ?_
              refine hx_none rfl rfl rfl rfl rfl rfl ?_
              refine hx_none rfl rfl rfl rfl rfl rfl ?_
              refine hx_none rfl rfl rfl rfl rfl rfl ?_
              refine hx_none rfl rfl rfl rfl rfl rfl ?_
              refine hx_none rfl rfl rfl rfl rfl rfl ?_
              refine hx_off rfl rfl rfl rfl rfl rfl rfl ?_
              refine hx_det rfl rfl rfl nofun (det_pick_on rfl rfl rfl rfl) rfl ?_
              refine hx_end ?_
              refine wl_nil ?_
              replace h := Option.some.inj h
              subst h
              exact pn_meetG (true, ()) rfl ⟨rfl, rfl, rfl, rfl, rfl, rfl, rfl, rfl, trivial⟩ (fun _ h => h.to ⟨_, (rs r0), ⟨_, r0, ⟨_, r0, trivial⟩⟩⟩ trivial)
            · have h := ifF h hg11_g72
              rcases Bool.eq_false_or_eq_true (!decide ((w64 ((ix r4_2.1 s22.2).SetOff + (ix r4_2.1 s22.2).Pays)) = (ix r2_1.1 s22.2).Owes)) with hg11_g85 | hg11_g85
              · have h := ifT h hg11_g85
                obtain ⟨k11_p3, h⟩ := chk_some h
                refine dx_region 71 [[], [0], [], [], [2, 3], [2, 3, 4], [2, 3, 4, 5], [0, 1, 2, 3, 4, 5, 6], [0, 1, 2, 3, 4, 5, 6, 7], [0, 1, 2, 3, 4, 5, 6, 7, 8], [0, 1, 2, 3, 4, 5, 6, 7, 8, 9], [0, 1, 2, 3, 4, 5, 6, 7, 8], [0, 1, 2, 3, 4, 5, 6, 7, 8, 11], [0, 1, 2, 3, 4, 5, 6, 7, 8, 9, 10, 11, 12], [0, 1, 2, 3, 4, 5, 6, 7, 8], [0, 1, 2, 3, 4, 5, 6, 7, 8, 14], [0, 1, 2, 3, 4, 5, 6, 7, 8, 9, 10, 11, 12, 13, 14, 15], [0, 1, 2, 3, 4, 5, 6, 7, 8], [0, 1, 2, 3, 4, 5, 6, 7, 8], [0, 1, 2, 3, 4, 5, 6, 7, 8, 17, 18], [0, 1, 2, 3, 4, 5, 6, 7, 8, 17, 18, 19], [0, 1, 2, 3, 4, 5, 6, 7, 8, 17, 18, 19, 20], [0, 1, 2, 3, 4, 5, 6, 7, 8, 9, 10, 11, 12, 13, 14, 15, 16, 17, 18, 19, 20, 21], [0, 1, 2, 3, 4, 5, 6, 7, 8, 9, 10, 11, 12, 13, 14, 15, 16, 17, 18, 19, 20, 21, 22], [0, 1, 2, 3, 4, 5, 6, 7, 8, 9, 10, 11, 12, 13, 14, 15, 16, 17, 18, 19, 20, 21, 22, 23], [0, 1, 2, 3, 4, 5, 6, 7, 8, 9, 10, 11, 12, 13, 14, 15, 16, 17, 18, 19, 20, 21, 22, 23, 24], [0, 1, 2, 3, 4, 5, 6, 7, 8, 9, 10, 11, 12, 13, 14, 15, 16, 17, 18, 19, 20, 21, 22, 23, 24, 25], [0, 1, 2, 3, 4, 5, 6, 7, 8, 9, 10, 11, 12, 13, 14, 15, 16, 17, 18, 19, 20, 21, 22, 23, 24], [0, 1, 2, 3, 4, 5, 6, 7, 8, 9, 10, 11, 12, 13, 14, 15, 16, 17, 18, 19, 20, 21, 22, 23, 24, 27], [0, 1, 2, 3, 4, 5, 6, 7, 8, 9, 10, 11, 12, 13, 14, 15, 16, 17, 18, 19, 20, 21, 22, 23, 24, 25, 26, 27, 28], [0, 1, 2, 3, 4, 5, 6, 7, 8, 9, 10, 11, 12, 13, 14, 15, 16, 17, 18, 19, 20, 21, 22, 23, 24], [0, 1, 2, 3, 4, 5, 6, 7, 8, 9, 10, 11, 12, 13, 14, 15, 16, 17, 18, 19, 20, 21, 22, 23, 24], [0, 1, 2, 3, 4, 5, 6, 7, 8, 9, 10, 11, 12, 13, 14, 15, 16, 17, 18, 19, 20, 21, 22, 23, 24, 30, 31], [0, 1, 2, 3, 4, 5, 6, 7, 8, 9, 10, 11, 12, 13, 14, 15, 16, 17, 18, 19, 20, 21, 22, 23, 24, 30, 31, 32], [0, 1, 2, 3, 4, 5, 6, 7, 8, 9, 10, 11, 12, 13, 14, 15, 16, 17, 18, 19, 20, 21, 22, 23, 24, 30, 31, 32, 33], [0, 1, 2, 3, 4, 5, 6, 7, 8, 9, 10, 11, 12, 13, 14, 15, 16, 17, 18, 19, 20, 21, 22, 23, 24, 25, 26, 27, 28, 29, 30, 31, 32, 33, 34], [0, 1, 2, 3, 4, 5, 6, 7, 8, 9, 10, 11, 12, 13, 14, 15, 16, 17, 18, 19, 20, 21, 22, 23, 24, 25, 26, 27, 28, 29, 30, 31, 32, 33, 34, 35], [0, 1, 2, 3, 4, 5, 6, 7, 8, 9, 10, 11, 12, 13, 14, 15, 16, 17, 18, 19, 20, 21, 22, 23, 24, 25, 26, 27, 28, 29, 30, 31, 32, 33, 34, 35, 36], [0, 1, 2, 3, 4, 5, 6, 7, 8, 9, 10, 11, 12, 13, 14, 15, 16, 17, 18, 19, 20, 21, 22, 23, 24, 25, 26, 27, 28, 29, 30, 31, 32, 33, 34, 35, 36, 37], [0, 1, 2, 3, 4, 5, 6, 7, 8, 9, 10, 11, 12, 13, 14, 15, 16, 17, 18, 19, 20, 21, 22, 23, 24, 25, 26, 27, 28, 29, 30, 31, 32, 33, 34, 35, 36, 37, 38], [0, 1, 2, 3, 4, 5, 6, 7, 8, 9, 10, 11, 12, 13, 14, 15, 16, 17, 18, 19, 20, 21, 22, 23, 24, 25, 26, 27, 28, 29, 30, 31, 32, 33, 34, 35, 36, 37, 38, 39], [0, 1, 2, 3, 4, 5, 6, 7, 8, 9, 10, 11, 12, 13, 14, 15, 16, 17, 18, 19, 20, 21, 22, 23, 24, 25, 26, 27, 28, 29, 30, 31, 32, 33, 34, 35, 36, 37, 38, 39, 40], [0, 1, 2, 3, 4, 5, 6, 7, 8, 9, 10, 11, 12, 13, 14, 15, 16, 17, 18, 19, 20, 21, 22, 23, 24, 25, 26, 27, 28, 29, 30, 31, 32, 33, 34, 35, 36, 37, 38, 39, 40, 41], [0, 1, 2, 3, 4, 5, 6, 7, 8, 9, 10, 11, 12, 13, 14, 15, 16, 17, 18, 19, 20, 21, 22, 23, 24, 25, 26, 27, 28, 29, 30, 31, 32, 33, 34, 35, 36, 37, 38, 39, 40, 41, 42], [0, 1, 2, 3, 4, 5, 6, 7, 8, 9, 10, 11, 12, 13, 14, 15, 16, 17, 18, 19, 20, 21, 22, 23, 24, 25, 26, 27, 28, 29, 30, 31, 32, 33, 34, 35, 36, 37, 38, 39, 40, 41, 42, 43], [0, 1, 2, 3, 4, 5, 6, 7, 8, 9, 10, 11, 12, 13, 14, 15, 16, 17, 18, 19, 20, 21, 22, 23, 24, 25, 26, 27, 28, 29, 30, 31, 32, 33, 34, 35, 36, 37, 38, 39, 40, 41, 42, 43, 44], [0, 1, 2, 3, 4, 5, 6, 7, 8, 9, 10, 11, 12, 13, 14, 15, 16, 17, 18, 19, 20, 21, 22, 23, 24, 25, 26, 27, 28, 29, 30, 31, 32, 33, 34, 35, 36, 37, 38, 39, 40, 41, 42, 43, 44, 45], [0, 1, 2, 3, 4, 5, 6, 7, 8, 9, 10, 11, 12, 13, 14, 15, 16, 17, 18, 19, 20, 21, 22, 23, 24, 25, 26, 27, 28, 29, 30, 31, 32, 33, 34, 35, 36, 37, 38, 39, 40, 41, 42, 43, 44, 45, 46], [0, 1, 2, 3, 4, 5, 6, 7, 8, 9, 10, 11, 12, 13, 14, 15, 16, 17, 18, 19, 20, 21, 22, 23, 24, 25, 26, 27, 28, 29, 30, 31, 32, 33, 34, 35, 36, 37, 38, 39, 40, 41, 42, 43, 44, 45, 46, 47], [0, 1, 2, 3, 4, 5, 6, 7, 8, 9, 10, 11, 12, 13, 14, 15, 16, 17, 18, 19, 20, 21, 22, 23, 24, 25, 26, 27, 28, 29, 30, 31, 32, 33, 34, 35, 36, 37, 38, 39, 40, 41, 42, 43, 44, 45, 46, 47, 48], [0, 1, 2, 3, 4, 5, 6, 7, 8, 9, 10, 11, 12, 13, 14, 15, 16, 17, 18, 19, 20, 21, 22, 23, 24, 25, 26, 27, 28, 29, 30, 31, 32, 33, 34, 35, 36, 37, 38, 39, 40, 41, 42, 43, 44, 45, 46, 47, 48, 49], [0, 1, 2, 3, 4, 5, 6, 7, 8, 9, 10, 11, 12, 13, 14, 15, 16, 17, 18, 19, 20, 21, 22, 23, 24, 25, 26, 27, 28, 29, 30, 31, 32, 33, 34, 35, 36, 37, 38, 39, 40, 41, 42, 43, 44, 45, 46, 47, 48, 49, 50], [0, 1, 2, 3, 4, 5, 6, 7, 8, 9, 10, 11, 12, 13, 14, 15, 16, 17, 18, 19, 20, 21, 22, 23, 24, 25, 26, 27, 28, 29, 30, 31, 32, 33, 34, 35, 36, 37, 38, 39, 40, 41, 42, 43, 44, 45, 46, 47, 48, 49, 50, 51], [0, 1, 2, 3, 4, 5, 6, 7, 8, 9, 10, 11, 12, 13, 14, 15, 16, 17, 18, 19, 20, 21, 22, 23, 24, 25, 26, 27, 28, 29, 30, 31, 32, 33, 34, 35, 36, 37, 38, 39, 40, 41, 42, 43, 44, 45, 46, 47, 48, 49, 50, 51, 52], [0, 1, 2, 3, 4, 5, 6, 7, 8, 9, 10, 11, 12, 13, 14, 15, 16, 17, 18, 19, 20, 21, 22, 23, 24, 25, 26, 27, 28, 29, 30, 31, 32, 33, 34, 35, 36, 37, 38, 39, 40, 41, 42, 43, 44, 45, 46, 47, 48, 49, 50, 51, 52, 53], [0, 1, 2, 3, 4, 5, 6, 7, 8, 9, 10, 11, 12, 13, 14, 15, 16, 17, 18, 19, 20, 21, 22, 23, 24, 25, 26, 27, 28, 29, 30, 31, 32, 33, 34, 35, 36, 37, 38, 39, 40, 41, 42, 43, 44, 45, 46, 47, 48, 49, 50, 51, 52, 53, 54], [0, 1, 2, 3, 4, 5, 6, 7, 8, 9, 10, 11, 12, 13, 14, 15, 16, 17, 18, 19, 20, 21, 22, 23, 24, 25, 26, 27, 28, 29, 30, 31, 32, 33, 34, 35, 36, 37, 38, 39, 40, 41, 42, 43, 44, 45, 46, 47, 48, 49, 50, 51, 52, 53, 54, 55], [0, 1, 2, 3, 4, 5, 6, 7, 8, 9, 10, 11, 12, 13, 14, 15, 16, 17, 18, 19, 20, 21, 22, 23, 24, 25, 26, 27, 28, 29, 30, 31, 32, 33, 34, 35, 36, 37, 38, 39, 40, 41, 42, 43, 44, 45, 46, 47, 48, 49, 50, 51, 52, 53, 54, 55, 56], [0, 1, 2, 3, 4, 5, 6, 7, 8, 9, 10, 11, 12, 13, 14, 15, 16, 17, 18, 19, 20, 21, 22, 23, 24, 25, 26, 27, 28, 29, 30, 31, 32, 33, 34, 35, 36, 37, 38, 39, 40, 41, 42, 43, 44, 45, 46, 47, 48, 49, 50, 51, 52, 53, 54, 55, 56, 57], [0, 1, 2, 3, 4, 5, 6, 7, 8, 9, 10, 11, 12, 13, 14, 15, 16, 17, 18, 19, 20, 21, 22, 23, 24, 25, 26, 27, 28, 29, 30, 31, 32, 33, 34, 35, 36, 37, 38, 39, 40, 41, 42, 43, 44, 45, 46, 47, 48, 49, 50, 51, 52, 53, 54, 55, 56, 57, 58], [0, 1, 2, 3, 4, 5, 6, 7, 8, 9, 10, 11, 12, 13, 14, 15, 16, 17, 18, 19, 20, 21, 22, 23, 24, 25, 26, 27, 28, 29, 30, 31, 32, 33, 34, 35, 36, 37, 38, 39, 40, 41, 42, 43, 44, 45, 46, 47, 48, 49, 50, 51, 52, 53, 54, 55, 56, 57, 58, 59], [0, 1, 2, 3, 4, 5, 6, 7, 8, 9, 10, 11, 12, 13, 14, 15, 16, 17, 18, 19, 20, 21, 22, 23, 24, 25, 26, 27, 28, 29, 30, 31, 32, 33, 34, 35, 36, 37, 38, 39, 40, 41, 42, 43, 44, 45, 46, 47, 48, 49, 50, 51, 52, 53, 54, 55, 56, 57, 58, 59, 60], [0, 1, 2, 3, 4, 5, 6, 7, 8, 9, 10, 11, 12, 13, 14, 15, 16, 17, 18, 19, 20, 21, 22, 23, 24, 25, 26, 27, 28, 29, 30, 31, 32, 33, 34, 35, 36, 37, 38, 39, 40, 41, 42, 43, 44, 45, 46, 47, 48, 49, 50, 51, 52, 53, 54, 55, 56, 57, 58, 59, 60, 61], [0, 1, 2, 3, 4, 5, 6, 7, 8, 9, 10, 11, 12, 13, 14, 15, 16, 17, 18, 19, 20, 21, 22, 23, 24, 25, 26, 27, 28, 29, 30, 31, 32, 33, 34, 35, 36, 37, 38, 39, 40, 41, 42, 43, 44, 45, 46, 47, 48, 49, 50, 51, 52, 53, 54, 55, 56, 57, 58, 59, 60, 61, 62], [0, 1, 2, 3, 4, 5, 6, 7, 8, 9, 10, 11, 12, 13, 14, 15, 16, 17, 18, 19, 20, 21, 22, 23, 24, 25, 26, 27, 28, 29, 30, 31, 32, 33, 34, 35, 36, 37, 38, 39, 40, 41, 42, 43, 44, 45, 46, 47, 48, 49, 50, 51, 52, 53, 54, 55, 56, 57, 58, 59, 60, 61, 62, 63], [0, 1, 2, 3, 4, 5, 6, 7, 8, 9, 10, 11, 12, 13, 14, 15, 16, 17, 18, 19, 20, 21, 22, 23, 24, 25, 26, 27, 28, 29, 30, 31, 32, 33, 34, 35, 36, 37, 38, 39, 40, 41, 42, 43, 44, 45, 46, 47, 48, 49, 50, 51, 52, 53, 54, 55, 56, 57, 58, 59, 60, 61, 62, 63, 64], [0, 1, 2, 3, 4, 5, 6, 7, 8, 9, 10, 11, 12, 13, 14, 15, 16, 17, 18, 19, 20, 21, 22, 23, 24, 25, 26, 27, 28, 29, 30, 31, 32, 33, 34, 35, 36, 37, 38, 39, 40, 41, 42, 43, 44, 45, 46, 47, 48, 49, 50, 51, 52, 53, 54, 55, 56, 57, 58, 59, 60, 61, 62, 63, 64, 65], [0, 1, 2, 3, 4, 5, 6, 7, 8, 9, 10, 11, 12, 13, 14, 15, 16, 17, 18, 19, 20, 21, 22, 23, 24, 25, 26, 27, 28, 29, 30, 31, 32, 33, 34, 35, 36, 37, 38, 39, 40, 41, 42, 43, 44, 45, 46, 47, 48, 49, 50, 51, 52, 53, 54, 55, 56, 57, 58, 59, 60, 61, 62, 63, 64, 65, 66], [0, 1, 2, 3, 4, 5, 6, 7, 8, 9, 10, 11, 12, 13, 14, 15, 16, 17, 18, 19, 20, 21, 22, 23, 24, 25, 26, 27, 28, 29, 30, 31, 32, 33, 34, 35, 36, 37, 38, 39, 40, 41, 42, 43, 44, 45, 46, 47, 48, 49, 50, 51, 52, 53, 54, 55, 56, 57, 58, 59, 60, 61, 62, 63, 64, 65, 66, 67], [0, 1, 2, 3, 4, 5, 6, 7, 8, 9, 10, 11, 12, 13, 14, 15, 16, 17, 18, 19, 20, 21, 22, 23, 24, 25, 26, 27, 28, 29, 30, 31, 32, 33, 34, 35, 36, 37, 38, 39, 40, 41, 42, 43, 44, 45, 46, 47, 48, 49, 50, 51, 52, 53, 54, 55, 56, 57, 58, 59, 60, 61, 62, 63, 64, 65, 66, 67, 68], [0, 1, 2, 3, 4, 5, 6, 7, 8, 9, 10, 11, 12, 13, 14, 15, 16, 17, 18, 19, 20, 21, 22, 23, 24, 25, 26, 27, 28, 29, 30, 31, 32, 33, 34, 35, 36, 37, 38, 39, 40, 41, 42, 43, 44, 45, 46, 47, 48, 49, 50, 51, 52, 53, 54, 55, 56, 57, 58, 59, 60, 61, 62, 63, 64, 65, 66, 67, 68, 69]] mixed (ord := (.det 0 (.det 1 (.det 2 (.det 3 (.det 4 (.det 5 (.det 6 (.det 7 (.det 8 (.det 9 (.det 10 (.det 11 (.det 12 (.det 13 (.det 14 (.det 15 (.det 16 (.det 17 (.det 18 (.det 19 (.det 20 (.det 21 (.det 22 (.det 23 (.det 24 (.det 25 (.det 26 (.det 27 (.det 28 (.det 29 (.det 30 (.det 31 (.det 32 (.det 33 (.det 34 (.det 35 (.det 36 (.det 37 (.det 38 (.det 39 (.det 40 (.det 41 (.det 42 (.det 43 (.det 44 (.det 45 (.det 46 (.det 47 (.det 48 (.det 49 (.det 50 (.det 51 (.det 52 (.det 53 (.det 54 (.det 55 (.det 56 (.det 57 (.det 58 (.det 59 (.det 60 (.det 61 (.det 62 (.det 63 (.det 64 (.det 65 (.det 66 (.det 67 (.det 68 (.det 69 (.det 70 .done)))))))))))))))))))))))))))))))))))))))))))))))))))))))))))))))))))))))) (by kernel_rfl) ?_   -- region 11
                refine hx_det rfl rfl rfl nofun (det_field rfl fd46_0 rfl) rfl ?_
                refine hx_det rfl rfl rfl nofun (det_load rfl m0 (by rfl) na3 us3) rfl ?_
                refine hx_det rfl rfl rfl nofun (det_move rfl) rfl ?_
                refine hx_det rfl rfl rfl nofun (det_move rfl) rfl ?_
                refine hx_det rfl rfl rfl nofun (det_indexO rfl rfl (ms m0) k11_p3 un36 sz48) rfl ?_
                refine hx_det rfl rfl rfl nofun (det_fieldO rfl (ms m0) k11_p3 fd48_0 rfl) rfl ?_
                refine hx_det rfl rfl rfl nofun (det_loadO (off := 0) rfl (ms m0) k11_p3 (by rfl) (by rfl) (loaded_1 na3 us3)) rfl ?_
                refine hx_det rfl rfl rfl nofun (det_neq rfl rfl) rfl ?_
                refine hx_det rfl rfl rfl nofun (det_move rfl) rfl ?_
                refine hx_on rfl rfl rfl rfl rfl hg11_g56 nofun (det_field rfl fd46_1 rfl) rfl ?_
                refine hx_on rfl rfl rfl rfl rfl hg11_g56 nofun (det_load rfl m0 (by rfl) na3 us3) rfl ?_
                refine hx_on rfl rfl rfl rfl rfl hg11_g56 nofun (det_field rfl fd46_2 rfl) rfl ?_
                refine hx_on rfl rfl rfl rfl rfl hg11_g56 nofun (det_load rfl m0 (by rfl) na3 us3) rfl ?_
                refine hx_on rfl rfl rfl rfl rfl hg11_g56 nofun (det_add rfl rfl) rfl ?_
                refine hx_on rfl rfl rfl rfl rfl hg11_g56 nofun (det_field rfl fd46_4 rfl) rfl ?_
                refine hx_on rfl rfl rfl rfl rfl hg11_g56 nofun (det_load rfl m0 (by rfl) na3 us3) rfl ?_
                refine hx_on rfl rfl rfl rfl rfl hg11_g56 nofun (det_add rfl rfl) rfl ?_
                refine hx_on rfl rfl rfl rfl rfl hg11_g56 nofun (det_move rfl) rfl ?_
                refine hx_on rfl rfl rfl rfl rfl hg11_g56 nofun (det_move rfl) rfl ?_
                refine hx_on rfl rfl rfl rfl rfl hg11_g56 nofun (det_indexO rfl rfl (ms m0) k11_p3 un36 sz48) rfl ?_
                refine hx_on rfl rfl rfl rfl rfl hg11_g56 nofun (det_fieldO rfl (ms m0) k11_p3 fd48_1 rfl) rfl ?_
                refine hx_on rfl rfl rfl rfl rfl hg11_g56 nofun (det_loadO (off := 1) rfl (ms m0) k11_p3 (by rfl) (by rfl) (loaded_1 na3 us3)) rfl ?_
                refine hx_on rfl rfl rfl rfl rfl hg11_g56 nofun (det_neq rfl rfl) rfl ?_
                refine hx_det rfl rfl rfl nofun (det_pick_off rfl hg11_g56 rfl rfl) rfl ?_
                refine hx_det rfl rfl rfl nofun (det_move rfl) rfl ?_
                refine hx_on rfl rfl rfl rfl rfl hg11_g72 nofun (det_field rfl fd46_1 rfl) rfl ?_
                refine hx_on rfl rfl rfl rfl rfl hg11_g72 nofun (det_load rfl m0 (by rfl) na3 us3) rfl ?_
                refine hx_on rfl rfl rfl rfl rfl hg11_g72 nofun (det_field rfl fd46_3 rfl) rfl ?_
                refine hx_on rfl rfl rfl rfl rfl hg11_g72 nofun (det_load rfl m0 (by rfl) na3 us3) rfl ?_
                refine hx_on rfl rfl rfl rfl rfl hg11_g72 nofun (det_add rfl rfl) rfl ?_
                refine hx_on rfl rfl rfl rfl rfl hg11_g72 nofun (det_move rfl) rfl ?_
                refine hx_on rfl rfl rfl rfl rfl hg11_g72 nofun (det_move rfl) rfl ?_
                refine hx_on rfl rfl rfl rfl rfl hg11_g72 nofun (det_indexO rfl rfl (ms m0) k11_p3 un36 sz48) rfl ?_
                refine hx_on rfl rfl rfl rfl rfl hg11_g72 nofun (det_fieldO rfl (ms m0) k11_p3 fd48_2 rfl) rfl ?_
                refine hx_on rfl rfl rfl rfl rfl hg11_g72 nofun (det_loadO (off := 2) rfl (ms m0) k11_p3 (by rfl) (by rfl) (loaded_1 na3 us3)) rfl ?_
                refine hx_on rfl rfl rfl rfl rfl hg11_g72 nofun (det_neq rfl rfl) rfl ?_
                refine hx_det rfl rfl rfl nofun (det_pick_off rfl hg11_g72 rfl rfl) rfl ?_
                refine hx_det rfl rfl rfl nofun (det_move rfl) rfl ?_
                refine hx_off rfl rfl rfl rfl rfl hg11_g85 rfl ?_
                refine hx_off rfl rfl rfl rfl rfl hg11_g85 rfl ?_
                refine hx_off rfl rfl rfl rfl rfl hg11_g85 rfl ?_
                refine hx_det rfl rfl rfl nofun (det_pick_on rfl hg11_g85 rfl rfl) rfl ?_
                refine hx_det rfl rfl rfl nofun (det_move rfl) rfl ?_
                refine hx_off rfl rfl rfl rfl rfl rfl rfl ?_
                refine hx_off rfl rfl rfl rfl rfl rfl rfl ?_
                refine hx_off rfl rfl rfl rfl rfl rfl rfl ?_
                refine hx_det rfl rfl rfl nofun (det_pick_on rfl rfl rfl rfl) rfl ?_
                refine hx_det rfl rfl rfl nofun (det_move rfl) rfl ?_
                refine hx_off rfl rfl rfl rfl rfl rfl rfl ?_
                refine hx_off rfl rfl rfl rfl rfl rfl rfl ?_
                refine hx_off rfl rfl rfl rfl rfl rfl rfl ?_
                refine hx_det rfl rfl rfl nofun (det_pick_on rfl rfl rfl rfl) rfl ?_
                refine hx_det rfl rfl rfl nofun (det_move rfl) rfl ?_
                refine hx_off rfl rfl rfl rfl rfl rfl rfl ?_
                refine hx_off rfl rfl rfl rfl rfl rfl rfl ?_
                refine hx_off rfl rfl rfl rfl rfl rfl rfl ?_
                refine hx_det rfl rfl rfl nofun (det_pick_on rfl rfl rfl rfl) rfl ?_
                refine hx_det rfl rfl rfl nofun (det_move rfl) rfl ?_
                refine hx_off rfl rfl rfl rfl rfl rfl rfl ?_
                refine hx_off rfl rfl rfl rfl rfl rfl rfl ?_
                refine hx_off rfl rfl rfl rfl rfl rfl rfl ?_
                refine hx_off rfl rfl rfl rfl rfl rfl rfl ?_
                refine hx_none rfl rfl rfl rfl rfl rfl ?_
                refine hx_none rfl rfl rfl rfl rfl rfl ?_
                refine hx_none rfl rfl rfl rfl rfl rfl ?_
                refine hx_none rfl rfl rfl rfl rfl rfl ?_
                refine hx_none rfl rfl rfl rfl rfl rfl ?_
                refine hx_none rfl rfl rfl rfl rfl rfl ?_
                refine hx_none rfl rfl rfl rfl rfl rfl ?_
                refine hx_off rfl rfl rfl rfl rfl rfl rfl ?_
                refine hx_det rfl rfl rfl nofun (det_pick_on rfl rfl rfl rfl) rfl ?_
                refine hx_end ?_
                refine wl_nil ?_
                replace h := Option.some.inj h
                subst h
                exact pn_meetG (true, ()) rfl ⟨rfl, rfl, rfl, rfl, rfl, rfl, rfl, rfl, trivial⟩ (fun _ h => h.to ⟨_, (rs r0), ⟨_, r0, ⟨_, r0, trivial⟩⟩⟩ trivial)
              · have h := ifF h hg11_g85
                rcases Bool.eq_false_or_eq_true (decide ((ix r4_2.1 s22.2).Gets < 0)) with hg11_g90 | hg11_g90
                · have h := ifT h hg11_g90
                  obtain ⟨k11_p4, h⟩ := chk_some h
                  refine dx_region 71 [[], [0], [], [], [2, 3], [2, 3, 4], [2, 3, 4, 5], [0, 1, 2, 3, 4, 5, 6], [0, 1, 2, 3, 4, 5, 6, 7], [0, 1, 2, 3, 4, 5, 6, 7, 8], [0, 1, 2, 3, 4, 5, 6, 7, 8, 9], [0, 1, 2, 3, 4, 5, 6, 7, 8], [0, 1, 2, 3, 4, 5, 6, 7, 8, 11], [0, 1, 2, 3, 4, 5, 6, 7, 8, 9, 10, 11, 12], [0, 1, 2, 3, 4, 5, 6, 7, 8], [0, 1, 2, 3, 4, 5, 6, 7, 8, 14], [0, 1, 2, 3, 4, 5, 6, 7, 8, 9, 10, 11, 12, 13, 14, 15], [0, 1, 2, 3, 4, 5, 6, 7, 8], [0, 1, 2, 3, 4, 5, 6, 7, 8], [0, 1, 2, 3, 4, 5, 6, 7, 8, 17, 18], [0, 1, 2, 3, 4, 5, 6, 7, 8, 17, 18, 19], [0, 1, 2, 3, 4, 5, 6, 7, 8, 17, 18, 19, 20], [0, 1, 2, 3, 4, 5, 6, 7, 8, 9, 10, 11, 12, 13, 14, 15, 16, 17, 18, 19, 20, 21], [0, 1, 2, 3, 4, 5, 6, 7, 8, 9, 10, 11, 12, 13, 14, 15, 16, 17, 18, 19, 20, 21, 22], [0, 1, 2, 3, 4, 5, 6, 7, 8, 9, 10, 11, 12, 13, 14, 15, 16, 17, 18, 19, 20, 21, 22, 23], [0, 1, 2, 3, 4, 5, 6, 7, 8, 9, 10, 11, 12, 13, 14, 15, 16, 17, 18, 19, 20, 21, 22, 23, 24], [0, 1, 2, 3, 4, 5, 6, 7, 8, 9, 10, 11, 12, 13, 14, 15, 16, 17, 18, 19, 20, 21, 22, 23, 24, 25], [0, 1, 2, 3, 4, 5, 6, 7, 8, 9, 10, 11, 12, 13, 14, 15, 16, 17, 18, 19, 20, 21, 22, 23, 24], [0, 1, 2, 3, 4, 5, 6, 7, 8, 9, 10, 11, 12, 13, 14, 15, 16, 17, 18, 19, 20, 21, 22, 23, 24, 27], [0, 1, 2, 3, 4, 5, 6, 7, 8, 9, 10, 11, 12, 13, 14, 15, 16, 17, 18, 19, 20, 21, 22, 23, 24, 25, 26, 27, 28], [0, 1, 2, 3, 4, 5, 6, 7, 8, 9, 10, 11, 12, 13, 14, 15, 16, 17, 18, 19, 20, 21, 22, 23, 24], [0, 1, 2, 3, 4, 5, 6, 7, 8, 9, 10, 11, 12, 13, 14, 15, 16, 17, 18, 19, 20, 21, 22, 23, 24], [0, 1, 2, 3, 4, 5, 6, 7, 8, 9, 10, 11, 12, 13, 14, 15, 16, 17, 18, 19, 20, 21, 22, 23, 24, 30, 31], [0, 1, 2, 3, 4, 5, 6, 7, 8, 9, 10, 11, 12, 13, 14, 15, 16, 17, 18, 19, 20, 21, 22, 23, 24, 30, 31, 32], [0, 1, 2, 3, 4, 5, 6, 7, 8, 9, 10, 11, 12, 13, 14, 15, 16, 17, 18, 19, 20, 21, 22, 23, 24, 30, 31, 32, 33], [0, 1, 2, 3, 4, 5, 6, 7, 8, 9, 10, 11, 12, 13, 14, 15, 16, 17, 18, 19, 20, 21, 22, 23, 24, 25, 26, 27, 28, 29, 30, 31, 32, 33, 34], [0, 1, 2, 3, 4, 5, 6, 7, 8, 9, 10, 11, 12, 13, 14, 15, 16, 17, 18, 19, 20, 21, 22, 23, 24, 25, 26, 27, 28, 29, 30, 31, 32, 33, 34, 35], [0, 1, 2, 3, 4, 5, 6, 7, 8, 9, 10, 11, 12, 13, 14, 15, 16, 17, 18, 19, 20, 21, 22, 23, 24, 25, 26, 27, 28, 29, 30, 31, 32, 33, 34, 35, 36], [0, 1, 2, 3, 4, 5, 6, 7, 8, 9, 10, 11, 12, 13, 14, 15, 16, 17, 18, 19, 20, 21, 22, 23, 24, 25, 26, 27, 28, 29, 30, 31, 32, 33, 34, 35, 36, 37], [0, 1, 2, 3, 4, 5, 6, 7, 8, 9, 10, 11, 12, 13, 14, 15, 16, 17, 18, 19, 20, 21, 22, 23, 24, 25, 26, 27, 28, 29, 30, 31, 32, 33, 34, 35, 36, 37, 38], [0, 1, 2, 3, 4, 5, 6, 7, 8, 9, 10, 11, 12, 13, 14, 15, 16, 17, 18, 19, 20, 21, 22, 23, 24, 25, 26, 27, 28, 29, 30, 31, 32, 33, 34, 35, 36, 37, 38, 39], [0, 1, 2, 3, 4, 5, 6, 7, 8, 9, 10, 11, 12, 13, 14, 15, 16, 17, 18, 19, 20, 21, 22, 23, 24, 25, 26, 27, 28, 29, 30, 31, 32, 33, 34, 35, 36, 37, 38, 39, 40], [0, 1, 2, 3, 4, 5, 6, 7, 8, 9, 10, 11, 12, 13, 14, 15, 16, 17, 18, 19, 20, 21, 22, 23, 24, 25, 26, 27, 28, 29, 30, 31, 32, 33, 34, 35, 36, 37, 38, 39, 40, 41], [0, 1, 2, 3, 4, 5, 6, 7, 8, 9, 10, 11, 12, 13, 14, 15, 16, 17, 18, 19, 20, 21, 22, 23, 24, 25, 26, 27, 28, 29, 30, 31, 32, 33, 34, 35, 36, 37, 38, 39, 40, 41, 42], [0, 1, 2, 3, 4, 5, 6, 7, 8, 9, 10, 11, 12, 13, 14, 15, 16, 17, 18, 19, 20, 21, 22, 23, 24, 25, 26, 27, 28, 29, 30, 31, 32, 33, 34, 35, 36, 37, 38, 39, 40, 41, 42, 43], [0, 1, 2, 3, 4, 5, 6, 7, 8, 9, 10, 11, 12, 13, 14, 15, 16, 17, 18, 19, 20, 21, 22, 23, 24, 25, 26, 27, 28, 29, 30, 31, 32, 33, 34, 35, 36, 37, 38, 39, 40, 41, 42, 43, 44], [0, 1, 2, 3, 4, 5, 6, 7, 8, 9, 10, 11, 12, 13, 14, 15, 16, 17, 18, 19, 20, 21, 22, 23, 24, 25, 26, 27, 28, 29, 30, 31, 32, 33, 34, 35, 36, 37, 38, 39, 40, 41, 42, 43, 44, 45], [0, 1, 2, 3, 4, 5, 6, 7, 8, 9, 10, 11, 12, 13, 14, 15, 16, 17, 18, 19, 20, 21, 22, 23, 24, 25, 26, 27, 28, 29, 30, 31, 32, 33, 34, 35, 36, 37, 38, 39, 40, 41, 42, 43, 44, 45, 46], [0, 1, 2, 3, 4, 5, 6, 7, 8, 9, 10, 11, 12, 13, 14, 15, 16, 17, 18, 19, 20, 21, 22, 23, 24, 25, 26, 27, 28, 29, 30, 31, 32, 33, 34, 35, 36, 37, 38, 39, 40, 41, 42, 43, 44, 45, 46, 47], [0, 1, 2, 3, 4, 5, 6, 7, 8, 9, 10, 11, 12, 13, 14, 15, 16, 17, 18, 19, 20, 21, 22, 23, 24, 25, 26, 27, 28, 29, 30, 31, 32, 33, 34, 35, 36, 37, 38, 39, 40, 41, 42, 43, 44, 45, 46, 47, 48], [0, 1, 2, 3, 4, 5, 6, 7, 8, 9, 10, 11, 12, 13, 14, 15, 16, 17, 18, 19, 20, 21, 22, 23, 24, 25, 26, 27, 28, 29, 30, 31, 32, 33, 34, 35, 36, 37, 38, 39, 40, 41, 42, 43, 44, 45, 46, 47, 48, 49], [0, 1, 2, 3, 4, 5, 6, 7, 8, 9, 10, 11, 12, 13, 14, 15, 16, 17, 18, 19, 20, 21, 22, 23, 24, 25, 26, 27, 28, 29, 30, 31, 32, 33, 34, 35, 36, 37, 38, 39, 40, 41, 42, 43, 44, 45, 46, 47, 48, 49, 50], [0, 1, 2, 3, 4, 5, 6, 7, 8, 9, 10, 11, 12, 13, 14, 15, 16, 17, 18, 19, 20, 21, 22, 23, 24, 25, 26, 27, 28, 29, 30, 31, 32, 33, 34, 35, 36, 37, 38, 39, 40, 41, 42, 43, 44, 45, 46, 47, 48, 49, 50, 51], [0, 1, 2, 3, 4, 5, 6, 7, 8, 9, 10, 11, 12, 13, 14, 15, 16, 17, 18, 19, 20, 21, 22, 23, 24, 25, 26, 27, 28, 29, 30, 31, 32, 33, 34, 35, 36, 37, 38, 39, 40, 41, 42, 43, 44, 45, 46, 47, 48, 49, 50, 51, 52], [0, 1, 2, 3, 4, 5, 6, 7, 8, 9, 10, 11, 12, 13, 14, 15, 16, 17, 18, 19, 20, 21, 22, 23, 24, 25, 26, 27, 28, 29, 30, 31, 32, 33, 34, 35, 36, 37, 38, 39, 40, 41, 42, 43, 44, 45, 46, 47, 48, 49, 50, 51, 52, 53], [0, 1, 2, 3, 4, 5, 6, 7, 8, 9, 10, 11, 12, 13, 14, 15, 16, 17, 18, 19, 20, 21, 22, 23, 24, 25, 26, 27, 28, 29, 30, 31, 32, 33, 34, 35, 36, 37, 38, 39, 40, 41, 42, 43, 44, 45, 46, 47, 48, 49, 50, 51, 52, 53, 54], [0, 1, 2, 3, 4, 5, 6, 7, 8, 9, 10, 11, 12, 13, 14, 15, 16, 17, 18, 19, 20, 21, 22, 23, 24, 25, 26, 27, 28, 29, 30, 31, 32, 33, 34, 35, 36, 37, 38, 39, 40, 41, 42, 43, 44, 45, 46, 47, 48, 49, 50, 51, 52, 53, 54, 55], [0, 1, 2, 3, 4, 5, 6, 7, 8, 9, 10, 11, 12, 13, 14, 15, 16, 17, 18, 19, 20, 21, 22, 23, 24, 25, 26, 27, 28, 29, 30, 31, 32, 33, 34, 35, 36, 37, 38, 39, 40, 41, 42, 43, 44, 45, 46, 47, 48, 49, 50, 51, 52, 53, 54, 55, 56], [0, 1, 2, 3, 4, 5, 6, 7, 8, 9, 10, 11, 12, 13, 14, 15, 16, 17, 18, 19, 20, 21, 22, 23, 24, 25, 26, 27, 28, 29, 30, 31, 32, 33, 34, 35, 36, 37, 38, 39, 40, 41, 42, 43, 44, 45, 46, 47, 48, 49, 50, 51, 52, 53, 54, 55, 56, 57], [0, 1, 2, 3, 4, 5, 6, 7, 8, 9, 10, 11, 12, 13, 14, 15, 16, 17, 18, 19, 20, 21, 22, 23, 24, 25, 26, 27, 28, 29, 30, 31, 32, 33, 34, 35, 36, 37, 38, 39, 40, 41, 42, 43, 44, 45, 46, 47, 48, 49, 50, 51, 52, 53, 54, 55, 56, 57, 58], [0, 1, 2, 3, 4, 5, 6, 7, 8, 9, 10, 11, 12, 13, 14, 15, 16, 17, 18, 19, 20, 21, 22, 23, 24, 25, 26, 27, 28, 29, 30, 31, 32, 33, 34, 35, 36, 37, 38, 39, 40, 41, 42, 43, 44, 45, 46, 47, 48, 49, 50, 51, 52, 53, 54, 55, 56, 57, 58, 59], [0, 1, 2, 3, 4, 5, 6, 7, 8, 9, 10, 11, 12, 13, 14, 15, 16, 17, 18, 19, 20, 21, 22, 23, 24, 25, 26, 27, 28, 29, 30, 31, 32, 33, 34, 35, 36, 37, 38, 39, 40, 41, 42, 43, 44, 45, 46, 47, 48, 49, 50, 51, 52, 53, 54, 55, 56, 57, 58, 59, 60], [0, 1, 2, 3, 4, 5, 6, 7, 8, 9, 10, 11, 12, 13, 14, 15, 16, 17, 18, 19, 20, 21, 22, 23, 24, 25, 26, 27, 28, 29, 30, 31, 32, 33, 34, 35, 36, 37, 38, 39, 40, 41, 42, 43, 44, 45, 46, 47, 48, 49, 50, 51, 52, 53, 54, 55, 56, 57, 58, 59, 60, 61], [0, 1, 2, 3, 4, 5, 6, 7, 8, 9, 10, 11, 12, 13, 14, 15, 16, 17, 18, 19, 20, 21, 22, 23, 24, 25, 26, 27, 28, 29, 30, 31, 32, 33, 34, 35, 36, 37, 38, 39, 40, 41, 42, 43, 44, 45, 46, 47, 48, 49, 50, 51, 52, 53, 54, 55, 56, 57, 58, 59, 60, 61, 62], [0, 1, 2, 3, 4, 5, 6, 7, 8, 9, 10, 11, 12, 13, 14, 15, 16, 17, 18, 19, 20, 21, 22, 23, 24, 25, 26, 27, 28, 29, 30, 31, 32, 33, 34, 35, 36, 37, 38, 39, 40, 41, 42, 43, 44, 45, 46, 47, 48, 49, 50, 51, 52, 53, 54, 55, 56, 57, 58, 59, 60, 61, 62, 63], [0, 1, 2, 3, 4, 5, 6, 7, 8, 9, 10, 11, 12, 13, 14, 15, 16, 17, 18, 19, 20, 21, 22, 23, 24, 25, 26, 27, 28, 29, 30, 31, 32, 33, 34, 35, 36, 37, 38, 39, 40, 41, 42, 43, 44, 45, 46, 47, 48, 49, 50, 51, 52, 53, 54, 55, 56, 57, 58, 59, 60, 61, 62, 63, 64], [0, 1, 2, 3, 4, 5, 6, 7, 8, 9, 10, 11, 12, 13, 14, 15, 16, 17, 18, 19, 20, 21, 22, 23, 24, 25, 26, 27, 28, 29, 30, 31, 32, 33, 34, 35, 36, 37, 38, 39, 40, 41, 42, 43, 44, 45, 46, 47, 48, 49, 50, 51, 52, 53, 54, 55, 56, 57, 58, 59, 60, 61, 62, 63, 64, 65], [0, 1, 2, 3, 4, 5, 6, 7, 8, 9, 10, 11, 12, 13, 14, 15, 16, 17, 18, 19, 20, 21, 22, 23, 24, 25, 26, 27, 28, 29, 30, 31, 32, 33, 34, 35, 36, 37, 38, 39, 40, 41, 42, 43, 44, 45, 46, 47, 48, 49, 50, 51, 52, 53, 54, 55, 56, 57, 58, 59, 60, 61, 62, 63, 64, 65, 66], [0, 1, 2, 3, 4, 5, 6, 7, 8, 9, 10, 11, 12, 13, 14, 15, 16, 17, 18, 19, 20, 21, 22, 23, 24, 25, 26, 27, 28, 29, 30, 31, 32, 33, 34, 35, 36, 37, 38, 39, 40, 41, 42, 43, 44, 45, 46, 47, 48, 49, 50, 51, 52, 53, 54, 55, 56, 57, 58, 59, 60, 61, 62, 63, 64, 65, 66, 67], [0, 1, 2, 3, 4, 5, 6, 7, 8, 9, 10, 11, 12, 13, 14, 15, 16, 17, 18, 19, 20, 21, 22, 23, 24, 25, 26, 27, 28, 29, 30, 31, 32, 33, 34, 35, 36, 37, 38, 39, 40, 41, 42, 43, 44, 45, 46, 47, 48, 49, 50, 51, 52, 53, 54, 55, 56, 57, 58, 59, 60, 61, 62, 63, 64, 65, 66, 67, 68], [0, 1, 2, 3, 4, 5, 6, 7, 8, 9, 10, 11, 12, 13, 14, 15, 16, 17, 18, 19, 20, 21, 22, 23, 24, 25, 26, 27, 28, 29, 30, 31, 32, 33, 34, 35, 36, 37, 38, 39, 40, 41, 42, 43, 44, 45, 46, 47, 48, 49, 50, 51, 52, 53, 54, 55, 56, 57, 58, 59, 60, 61, 62, 63, 64, 65, 66, 67, 68, 69]] mixed (ord := (.det 0 (.det 1 (.det 2 (.det 3 (.det 4 (.det 5 (.det 6 (.det 7 (.det 8 (.det 9 (.det 10 (.det 11 (.det 12 (.det 13 (.det 14 (.det 15 (.det 16 (.det 17 (.det 18 (.det 19 (.det 20 (.det 21 (.det 22 (.det 23 (.det 24 (.det 25 (.det 26 (.det 27 (.det 28 (.det 29 (.det 30 (.det 31 (.det 32 (.det 33 (.det 34 (.det 35 (.det 36 (.det 37 (.det 38 (.det 39 (.det 40 (.det 41 (.det 42 (.det 43 (.det 44 (.det 45 (.det 46 (.det 47 (.det 48 (.det 49 (.det 50 (.det 51 (.det 52 (.det 53 (.det 54 (.det 55 (.det 56 (.det 57 (.det 58 (.det 59 (.det 60 (.det 61 (.det 62 (.det 63 (.det 64 (.det 65 (.det 66 (.det 67 (.det 68 (.det 69 (.det 70 .done)))))))))))))))))))))))))))))))))))))))))))))))))))))))))))))))))))))))) (by kernel_rfl) ?_   -- region 11
                  refine hx_det rfl rfl rfl nofun (det_field rfl fd46_0 rfl) rfl ?_
                  refine hx_det rfl rfl rfl nofun (det_load rfl m0 (by rfl) na3 us3) rfl ?_
                  refine hx_det rfl rfl rfl nofun (det_move rfl) rfl ?_
                  refine hx_det rfl rfl rfl nofun (det_move rfl) rfl ?_
                  refine hx_det rfl rfl rfl nofun (det_indexO rfl rfl (ms m0) k11_p4 un36 sz48) rfl ?_
                  refine hx_det rfl rfl rfl nofun (det_fieldO rfl (ms m0) k11_p4 fd48_0 rfl) rfl ?_
                  refine hx_det rfl rfl rfl nofun (det_loadO (off := 0) rfl (ms m0) k11_p4 (by rfl) (by rfl) (loaded_1 na3 us3)) rfl ?_
                  refine hx_det rfl rfl rfl nofun (det_neq rfl rfl) rfl ?_
                  refine hx_det rfl rfl rfl nofun (det_move rfl) rfl ?_
                  refine hx_on rfl rfl rfl rfl rfl hg11_g56 nofun (det_field rfl fd46_1 rfl) rfl ?_
                  refine hx_on rfl rfl rfl rfl rfl hg11_g56 nofun (det_load rfl m0 (by rfl) na3 us3) rfl ?_
                  refine hx_on rfl rfl rfl rfl rfl hg11_g56 nofun (det_field rfl fd46_2 rfl) rfl ?_
                  refine hx_on rfl rfl rfl rfl rfl hg11_g56 nofun (det_load rfl m0 (by rfl) na3 us3) rfl ?_
                  refine hx_on rfl rfl rfl rfl rfl hg11_g56 nofun (det_add rfl rfl) rfl ?_
                  refine hx_on rfl rfl rfl rfl rfl hg11_g56 nofun (det_field rfl fd46_4 rfl) rfl ?_
                  refine hx_on rfl rfl rfl rfl rfl hg11_g56 nofun (det_load rfl m0 (by rfl) na3 us3) rfl ?_
                  refine hx_on rfl rfl rfl rfl rfl hg11_g56 nofun (det_add rfl rfl) rfl ?_
                  refine hx_on rfl rfl rfl rfl rfl hg11_g56 nofun (det_move rfl) rfl ?_
                  refine hx_on rfl rfl rfl rfl rfl hg11_g56 nofun (det_move rfl) rfl ?_
                  refine hx_on rfl rfl rfl rfl rfl hg11_g56 nofun (det_indexO rfl rfl (ms m0) k11_p4 un36 sz48) rfl ?_
                  refine hx_on rfl rfl rfl rfl rfl hg11_g56 nofun (det_fieldO rfl (ms m0) k11_p4 fd48_1 rfl) rfl ?_
                  refine hx_on rfl rfl rfl rfl rfl hg11_g56 nofun (det_loadO (off := 1) rfl (ms m0) k11_p4 (by rfl) (by rfl) (loaded_1 na3 us3)) rfl ?_
                  refine hx_on rfl rfl rfl rfl rfl hg11_g56 nofun (det_neq rfl rfl) rfl ?_
                  refine hx_det rfl rfl rfl nofun (det_pick_off rfl hg11_g56 rfl rfl) rfl ?_
                  refine hx_det rfl rfl rfl nofun (det_move rfl) rfl ?_
                  refine hx_on rfl rfl rfl rfl rfl hg11_g72 nofun (det_field rfl fd46_1 rfl) rfl ?_
                  refine hx_on rfl rfl rfl rfl rfl hg11_g72 nofun (det_load rfl m0 (by rfl) na3 us3) rfl ?_
                  refine hx_on rfl rfl rfl rfl rfl hg11_g72 nofun (det_field rfl fd46_3 rfl) rfl ?_
                  refine hx_on rfl rfl rfl rfl rfl hg11_g72 nofun (det_load rfl m0 (by rfl) na3 us3) rfl ?_
                  refine hx_on rfl rfl rfl rfl rfl hg11_g72 nofun (det_add rfl rfl) rfl ?_
                  refine hx_on rfl rfl rfl rfl rfl hg11_g72 nofun (det_move rfl) rfl ?_
                  refine hx_on rfl rfl rfl rfl rfl hg11_g72 nofun (det_move rfl) rfl ?_
                  refine hx_on rfl rfl rfl rfl rfl hg11_g72 nofun (det_indexO rfl rfl (ms m0) k11_p4 un36 sz48) rfl ?_
                  refine hx_on rfl rfl rfl rfl rfl hg11_g72 nofun (det_fieldO rfl (ms m0) k11_p4 fd48_2 rfl) rfl ?_
                  refine hx_on rfl rfl rfl rfl rfl hg11_g72 nofun (det_loadO (off := 2) rfl (ms m0) k11_p4 (by rfl) (by rfl) (loaded_1 na3 us3)) rfl ?_
                  refine hx_on rfl rfl rfl rfl rfl hg11_g72 nofun (det_neq rfl rfl) rfl ?_
                  refine hx_det rfl rfl rfl nofun (det_pick_off rfl hg11_g72 rfl rfl) rfl ?_
                  refine hx_det rfl rfl rfl nofun (det_move rfl) rfl ?_
                  refine hx_on rfl rfl rfl rfl rfl hg11_g85 nofun (det_field rfl fd46_2 rfl) rfl ?_
                  refine hx_on rfl rfl rfl rfl rfl hg11_g85 nofun (det_load rfl m0 (by rfl) na3 us3) rfl ?_
                  refine hx_on rfl rfl rfl rfl rfl hg11_g85 nofun (det_lss rfl rfl) rfl ?_
                  refine hx_det rfl rfl rfl nofun (det_pick_off rfl hg11_g85 rfl rfl) rfl ?_
                  refine hx_det rfl rfl rfl nofun (det_move rfl) rfl ?_
                  refine hx_off rfl rfl rfl rfl rfl hg11_g90 rfl ?_
                  refine hx_off rfl rfl rfl rfl rfl hg11_g90 rfl ?_
                  refine hx_off rfl rfl rfl rfl rfl hg11_g90 rfl ?_
                  refine hx_det rfl rfl rfl nofun (det_pick_on rfl hg11_g90 rfl rfl) rfl ?_
                  refine hx_det rfl rfl rfl nofun (det_move rfl) rfl ?_
                  refine hx_off rfl rfl rfl rfl rfl rfl rfl ?_
                  refine hx_off rfl rfl rfl rfl rfl rfl rfl ?_
                  refine hx_off rfl rfl rfl rfl rfl rfl rfl ?_
                  refine hx_det rfl rfl rfl nofun (det_pick_on rfl rfl rfl rfl) rfl ?_
                  refine hx_det rfl rfl rfl nofun (det_move rfl) rfl ?_
                  refine hx_off rfl rfl rfl rfl rfl rfl rfl ?_
                  refine hx_off rfl rfl rfl rfl rfl rfl rfl ?_
                  refine hx_off rfl rfl rfl rfl rfl rfl rfl ?_
                  refine hx_det rfl rfl rfl nofun (det_pick_on rfl rfl rfl rfl) rfl ?_
                  refine hx_det rfl rfl rfl nofun (det_move rfl) rfl ?_
                  refine hx_off rfl rfl rfl rfl rfl rfl rfl ?_
                  refine hx_off rfl rfl rfl rfl rfl rfl rfl ?_
                  refine hx_off rfl rfl rfl rfl rfl rfl rfl ?_
                  refine hx_off rfl rfl rfl rfl rfl rfl rfl ?_
                  refine hx_none rfl rfl rfl rfl rfl rfl ?_
                  refine hx_none rfl rfl rfl rfl rfl rfl ?_
                  refine hx_none rfl rfl rfl rfl rfl rfl ?_
                  refine hx_none rfl rfl rfl rfl rfl rfl ?_
                  refine hx_none rfl rfl rfl rfl rfl rfl ?_
                  refine hx_none rfl rfl rfl rfl rfl rfl ?_
                  refine hx_none rfl rfl rfl rfl rfl rfl ?_
                  refine hx_off rfl rfl rfl rfl rfl rfl rfl ?_
                  refine hx_det rfl rfl rfl nofun (det_pick_on rfl rfl rfl rfl) rfl ?_
                  refine hx_end ?_
                  refine wl_nil ?_
                  replace h := Option.some.inj h
                  subst h
                  exact pn_meetG (true, ()) rfl ⟨rfl, rfl, rfl, rfl, rfl, rfl, rfl, rfl, trivial⟩ (fun _ h => h.to ⟨_, (rs r0), ⟨_, r0, ⟨_, r0, trivial⟩⟩⟩ trivial)
                · have h := ifF h hg11_g90
                  rcases Bool.eq_false_or_eq_true (decide ((ix r4_2.1 s22.2).Unpaid < 0)) with hg11_g95 | hg11_g95
                  · have h := ifT h hg11_g95
                    obtain ⟨k11_p5, h⟩ := chk_some h
                    refine dx_region 71 [[], [0], [], [], [2, 3], [2, 3, 4], [2, 3, 4, 5], [0, 1, 2, 3, 4, 5, 6], [0, 1, 2, 3, 4, 5, 6, 7], [0, 1, 2, 3, 4, 5, 6, 7, 8], [0, 1, 2, 3, 4, 5, 6, 7, 8, 9], [0, 1, 2, 3, 4, 5, 6, 7, 8], [0, 1, 2, 3, 4, 5, 6, 7, 8, 11], [0, 1, 2, 3, 4, 5, 6, 7, 8, 9, 10, 11, 12], [0, 1, 2, 3, 4, 5, 6, 7, 8], [0, 1, 2, 3, 4, 5, 6, 7, 8, 14], [0, 1, 2, 3, 4, 5, 6, 7, 8, 9, 10, 11, 12, 13, 14, 15], [0, 1, 2, 3, 4, 5, 6, 7, 8], [0, 1, 2, 3, 4, 5, 6, 7, 8], [0, 1, 2, 3, 4, 5, 6, 7, 8, 17, 18], [0, 1, 2, 3, 4, 5, 6, 7, 8, 17, 18, 19], [0, 1, 2, 3, 4, 5, 6, 7, 8, 17, 18, 19, 20], [0, 1, 2, 3, 4, 5, 6, 7, 8, 9, 10, 11, 12, 13, 14, 15, 16, 17, 18, 19, 20, 21], [0, 1, 2, 3, 4, 5, 6, 7, 8, 9, 10, 11, 12, 13, 14, 15, 16, 17, 18, 19, 20, 21, 22], [0, 1, 2, 3, 4, 5, 6, 7, 8, 9, 10, 11, 12, 13, 14, 15, 16, 17, 18, 19, 20, 21, 22, 23], [0, 1, 2, 3, 4, 5, 6, 7, 8, 9, 10, 11, 12, 13, 14, 15, 16, 17, 18, 19, 20, 21, 22, 23, 24], [0, 1, 2, 3, 4, 5, 6, 7, 8, 9, 10, 11, 12, 13, 14, 15, 16, 17, 18, 19, 20, 21, 22, 23, 24, 25], [0, 1, 2, 3, 4, 5, 6, 7, 8, 9, 10, 11, 12, 13, 14, 15, 16, 17, 18, 19, 20, 21, 22, 23, 24], [0, 1, 2, 3, 4, 5, 6, 7, 8, 9, 10, 11, 12, 13, 14, 15, 16, 17, 18, 19, 20, 21, 22, 23, 24, 27], [0, 1, 2, 3, 4, 5, 6, 7, 8, 9, 10, 11, 12, 13, 14, 15, 16, 17, 18, 19, 20, 21, 22, 23, 24, 25, 26, 27, 28], [0, 1, 2, 3, 4, 5, 6, 7, 8, 9, 10, 11, 12, 13, 14, 15, 16, 17, 18, 19, 20, 21, 22, 23, 24], [0, 1, 2, 3, 4, 5, 6, 7, 8, 9, 10, 11, 12, 13, 14, 15, 16, 17, 18, 19, 20, 21, 22, 23, 24], [0, 1, 2, 3, 4, 5, 6, 7, 8, 9, 10, 11, 12, 13, 14, 15, 16, 17, 18, 19, 20, 21, 22, 23, 24, 30, 31], [0, 1, 2, 3, 4, 5, 6, 7, 8, 9, 10, 11, 12, 13, 14, 15, 16, 17, 18, 19, 20, 21, 22, 23, 24, 30, 31, 32], [0, 1, 2, 3, 4, 5, 6, 7, 8, 9, 10, 11, 12, 13, 14, 15, 16, 17, 18, 19, 20, 21, 22, 23, 24, 30, 31, 32, 33], [0, 1, 2, 3, 4, 5, 6, 7, 8, 9, 10, 11, 12, 13, 14, 15, 16, 17, 18, 19, 20, 21, 22, 23, 24, 25, 26, 27, 28, 29, 30, 31, 32, 33, 34], [0, 1, 2, 3, 4, 5, 6, 7, 8, 9, 10, 11, 12, 13, 14, 15, 16, 17, 18, 19, 20, 21, 22, 23, 24, 25, 26, 27, 28, 29, 30, 31, 32, 33, 34, 35], [0, 1, 2, 3, 4, 5, 6, 7, 8, 9, 10, 11, 12, 13, 14, 15, 16, 17, 18, 19, 20, 21, 22, 23, 24, 25, 26, 27, 28, 29, 30, 31, 32, 33, 34, 35, 36], [0, 1, 2, 3, 4, 5, 6, 7, 8, 9, 10, 11, 12, 13, 14, 15, 16, 17, 18, 19, 20, 21, 22, 23, 24, 25, 26, 27, 28, 29, 30, 31, 32, 33, 34, 35, 36, 37], [0, 1, 2, 3, 4, 5, 6, 7, 8, 9, 10, 11, 12, 13, 14, 15, 16, 17, 18, 19, 20, 21, 22, 23, 24, 25, 26, 27, 28, 29, 30, 31, 32, 33, 34, 35, 36, 37, 38], [0, 1, 2, 3, 4, 5, 6, 7, 8, 9, 10, 11, 12, 13, 14, 15, 16, 17, 18, 19, 20, 21, 22, 23, 24, 25, 26, 27, 28, 29, 30, 31, 32, 33, 34, 35, 36, 37, 38, 39], [0, 1, 2, 3, 4, 5, 6, 7, 8, 9, 10, 11, 12, 13, 14, 15, 16, 17, 18, 19, 20, 21, 22, 23, 24, 25, 26, 27, 28, 29, 30, 31, 32, 33, 34, 35, 36, 37, 38, 39, 40], [0, 1, 2, 3, 4, 5, 6, 7, 8, 9, 10, 11, 12, 13, 14, 15, 16, 17, 18, 19, 20, 21, 22, 23, 24, 25, 26, 27, 28, 29, 30, 31, 32, 33, 34, 35, 36, 37, 38, 39, 40, 41], [0, 1, 2, 3, 4, 5, 6, 7, 8, 9, 10, 11, 12, 13, 14, 15, 16, 17, 18, 19, 20, 21, 22, 23, 24, 25, 26, 27, 28, 29, 30, 31, 32, 33, 34, 35, 36, 37, 38, 39, 40, 41, 42], [0, 1, 2, 3, 4, 5, 6, 7, 8, 9, 10, 11, 12, 13, 14, 15, 16, 17, 18, 19, 20, 21, 22, 23, 24, 25, 26, 27, 28, 29, 30, 31, 32, 33, 34, 35, 36, 37, 38, 39, 40, 41, 42, 43], [0, 1, 2, 3, 4, 5, 6, 7, 8, 9, 10, 11, 12, 13, 14, 15, 16, 17, 18, 19, 20, 21, 22, 23, 24, 25, 26, 27, 28, 29, 30, 31, 32, 33, 34, 35, 36, 37, 38, 39, 40, 41, 42, 43, 44], [0, 1, 2, 3, 4, 5, 6, 7, 8, 9, 10, 11, 12, 13, 14, 15, 16, 17, 18, 19, 20, 21, 22, 23, 24, 25, 26, 27, 28, 29, 30, 31, 32, 33, 34, 35, 36, 37, 38, 39, 40, 41, 42, 43, 44, 45], [0, 1, 2, 3, 4, 5, 6, 7, 8, 9, 10, 11, 12, 13, 14, 15, 16, 17, 18, 19, 20, 21, 22, 23, 24, 25, 26, 27, 28, 29, 30, 31, 32, 33, 34, 35, 36, 37, 38, 39, 40, 41, 42, 43, 44, 45, 46], [0, 1, 2, 3, 4, 5, 6, 7, 8, 9, 10, 11, 12, 13, 14, 15, 16, 17, 18, 19, 20, 21, 22, 23, 24, 25, 26, 27, 28, 29, 30, 31, 32, 33, 34, 35, 36, 37, 38, 39, 40, 41, 42, 43, 44, 45, 46, 47], [0, 1, 2, 3, 4, 5, 6, 7, 8, 9, 10, 11, 12, 13, 14, 15, 16, 17, 18, 19, 20, 21, 22, 23, 24, 25, 26, 27, 28, 29, 30, 31, 32, 33, 34, 35, 36, 37, 38, 39, 40, 41, 42, 43, 44, 45, 46, 47, 48], [0, 1, 2, 3, 4, 5, 6, 7, 8, 9, 10, 11, 12, 13, 14, 15, 16, 17, 18, 19, 20, 21, 22, 23, 24, 25, 26, 27, 28, 29, 30, 31, 32, 33, 34, 35, 36, 37, 38, 39, 40, 41, 42, 43, 44, 45, 46, 47, 48, 49], [0, 1, 2, 3, 4, 5, 6, 7, 8, 9, 10, 11, 12, 13, 14, 15, 16, 17, 18, 19, 20, 21, 22, 23, 24, 25, 26, 27, 28, 29, 30, 31, 32, 33, 34, 35, 36, 37, 38, 39, 40, 41, 42, 43, 44, 45, 46, 47, 48, 49, 50], [0, 1, 2, 3, 4, 5, 6, 7, 8, 9, 10, 11, 12, 13, 14, 15, 16, 17, 18, 19, 20, 21, 22, 23, 24, 25, 26, 27, 28, 29, 30, 31, 32, 33, 34, 35, 36, 37, 38, 39, 40, 41, 42, 43, 44, 45, 46, 47, 48, 49, 50, 51], [0, 1, 2, 3, 4, 5, 6, 7, 8, 9, 10, 11, 12, 13, 14, 15, 16, 17, 18, 19, 20, 21, 22, 23, 24, 25, 26, 27, 28, 29, 30, 31, 32, 33, 34, 35, 36, 37, 38, 39, 40, 41, 42, 43, 44, 45, 46, 47, 48, 49, 50, 51, 52], [0, 1, 2, 3, 4, 5, 6, 7, 8, 9, 10, 11, 12, 13, 14, 15, 16, 17, 18, 19, 20, 21, 22, 23, 24, 25, 26, 27, 28, 29, 30, 31, 32, 33, 34, 35, 36, 37, 38, 39, 40, 41, 42, 43, 44, 45, 46, 47, 48, 49, 50, 51, 52, 53], [0, 1, 2, 3, 4, 5, 6, 7, 8, 9, 10, 11, 12, 13, 14, 15, 16, 17, 18, 19, 20, 21, 22, 23, 24, 25, 26, 27, 28, 29, 30, 31, 32, 33, 34, 35, 36, 37, 38, 39, 40, 41, 42, 43, 44, 45, 46, 47, 48, 49, 50, 51, 52, 53, 54], [0, 1, 2, 3, 4, 5, 6, 7, 8, 9, 10, 11, 12, 13, 14, 15, 16, 17, 18, 19, 20, 21, 22, 23, 24, 25, 26, 27, 28, 29, 30, 31, 32, 33, 34, 35, 36, 37, 38, 39, 40, 41, 42, 43, 44, 45, 46, 47, 48, 49, 50, 51, 52, 53, 54, 55], [0, 1, 2, 3, 4, 5, 6, 7, 8, 9, 10, 11, 12, 13, 14, 15, 16, 17, 18, 19, 20, 21, 22, 23, 24, 25, 26, 27, 28, 29, 30, 31, 32, 33, 34, 35, 36, 37, 38, 39, 40, 41, 42, 43, 44, 45, 46, 47, 48, 49, 50, 51, 52, 53, 54, 55, 56], [0, 1, 2, 3, 4, 5, 6, 7, 8, 9, 10, 11, 12, 13, 14, 15, 16, 17, 18, 19, 20, 21, 22, 23, 24, 25, 26, 27, 28, 29, 30, 31, 32, 33, 34, 35, 36, 37, 38, 39, 40, 41, 42, 43, 44, 45, 46, 47, 48, 49, 50, 51, 52, 53, 54, 55, 56, 57], [0, 1, 2, 3, 4, 5, 6, 7, 8, 9, 10, 11, 12, 13, 14, 15, 16, 17, 18, 19, 20, 21, 22, 23, 24, 25, 26, 27, 28, 29, 30, 31, 32, 33, 34, 35, 36, 37, 38, 39, 40, 41, 42, 43, 44, 45, 46, 47, 48, 49, 50, 51, 52, 53, 54, 55, 56, 57, 58], [0, 1, 2, 3, 4, 5, 6, 7, 8, 9, 10, 11, 12, 13, 14, 15, 16, 17, 18, 19, 20, 21, 22, 23, 24, 25, 26, 27, 28, 29, 30, 31, 32, 33, 34, 35, 36, 37, 38, 39, 40, 41, 42, 43, 44, 45, 46, 47, 48, 49, 50, 51, 52, 53, 54, 55, 56, 57, 58, 59], [0, 1, 2, 3, 4, 5, 6, 7, 8, 9, 10, 11, 12, 13, 14, 15, 16, 17, 18, 19, 20, 21, 22, 23, 24, 25, 26, 27, 28, 29, 30, 31, 32, 33, 34, 35, 36, 37, 38, 39, 40, 41, 42, 43, 44, 45, 46, 47, 48, 49, 50, 51, 52, 53, 54, 55, 56, 57, 58, 59, 60], [0, 1, 2, 3, 4, 5, 6, 7, 8, 9, 10, 11, 12, 13, 14, 15, 16, 17, 18, 19, 20, 21, 22, 23, 24, 25, 26, 27, 28, 29, 30, 31, 32, 33, 34, 35, 36, 37, 38, 39, 40, 41, 42, 43, 44, 45, 46, 47, 48, 49, 50, 51, 52, 53, 54, 55, 56, 57, 58, 59, 60, 61], [0, 1, 2, 3, 4, 5, 6, 7, 8, 9, 10, 11, 12, 13, 14, 15, 16, 17, 18, 19, 20, 21, 22, 23, 24, 25, 26, 27, 28, 29, 30, 31, 32, 33, 34, 35, 36, 37, 38, 39, 40, 41, 42, 43, 44, 45, 46, 47, 48, 49, 50, 51, 52, 53, 54, 55, 56, 57, 58, 59, 60, 61, 62], [0, 1, 2, 3, 4, 5, 6, 7, 8, 9, 10, 11, 12, 13, 14, 15, 16, 17, 18, 19, 20, 21, 22, 23, 24, 25, 26, 27, 28, 29, 30, 31, 32, 33, 34, 35, 36, 37, 38, 39, 40, 41, 42, 43, 44, 45, 46, 47, 48, 49, 50, 51, 52, 53, 54, 55, 56, 57, 58, 59, 60, 61, 62, 63], [0, 1, 2, 3, 4, 5, 6, 7, 8, 9, 10, 11, 12, 13, 14, 15, 16, 17, 18, 19, 20, 21, 22, 23, 24, 25, 26, 27, 28, 29, 30, 31, 32, 33, 34, 35, 36, 37, 38, 39, 40, 41, 42, 43, 44, 45, 46, 47, 48, 49, 50, 51, 52, 53, 54, 55, 56, 57, 58, 59, 60, 61, 62, 63, 64], [0, 1, 2, 3, 4, 5, 6, 7, 8, 9, 10, 11, 12, 13, 14, 15, 16, 17, 18, 19, 20, 21, 22, 23, 24, 25, 26, 27, 28, 29, 30, 31, 32, 33, 34, 35, 36, 37, 38, 39, 40, 41, 42, 43, 44, 45, 46, 47, 48, 49, 50, 51, 52, 53, 54, 55, 56, 57, 58, 59, 60, 61, 62, 63, 64, 65], [0, 1, 2, 3, 4, 5, 6, 7, 8, 9, 10, 11, 12, 13, 14, 15, 16, 17, 18, 19, 20, 21, 22, 23, 24, 25, 26, 27, 28, 29, 30, 31, 32, 33, 34, 35, 36, 37, 38, 39, 40, 41, 42, 43, 44, 45, 46, 47, 48, 49, 50, 51, 52, 53, 54, 55, 56, 57, 58, 59, 60, 61, 62, 63, 64, 65, 66], [0, 1, 2, 3, 4, 5, 6, 7, 8, 9, 10, 11, 12, 13, 14, 15, 16, 17, 18, 19, 20, 21, 22, 23, 24, 25, 26, 27, 28, 29, 30, 31, 32, 33, 34, 35, 36, 37, 38, 39, 40, 41, 42, 43, 44, 45, 46, 47, 48, 49, 50, 51, 52, 53, 54, 55, 56, 57, 58, 59, 60, 61, 62, 63, 64, 65, 66, 67], [0, 1, 2, 3, 4, 5, 6, 7, 8, 9, 10, 11, 12, 13, 14, 15, 16, 17, 18, 19, 20, 21, 22, 23, 24, 25, 26, 27, 28, 29, 30, 31, 32, 33, 34, 35, 36, 37, 38, 39, 40, 41, 42, 43, 44, 45, 46, 47, 48, 49, 50, 51, 52, 53, 54, 55, 56, 57, 58, 59, 60, 61, 62, 63, 64, 65, 66, 67, 68], [0, 1, 2, 3, 4, 5, 6, 7, 8, 9, 10, 11, 12, 13, 14, 15, 16, 17, 18, 19, 20, 21, 22, 23, 24, 25, 26, 27, 28, 29, 30, 31, 32, 33, 34, 35, 36, 37, 38, 39, 40, 41, 42, 43, 44, 45, 46, 47, 48, 49, 50, 51, 52, 53, 54, 55, 56, 57, 58, 59, 60, 61, 62, 63, 64, 65, 66, 67, 68, 69]] mixed (ord := (.det 0 (.det 1 (.det 2 (.det 3 (.det 4 (.det 5 (.det 6 (.det 7 (.det 8 (.det 9 (.det 10 (.det 11 (.det 12 (.det 13 (.det 14 (.det 15 (.det 16 (.det 17 (.det 18 (.det 19 (.det 20 (.det 21 (.det 22 (.det 23 (.det 24 (.det 25 (.det 26 (.det 27 (.det 28 (.det 29 (.det 30 (.det 31 (.det 32 (.det 33 (.det 34 (.det 35 (.det 36 (.det 37 (.det 38 (.det 39 (.det 40 (.det 41 (.det 42 (.det 43 (.det 44 (.det 45 (.det 46 (.det 47 (.det 48 (.det 49 (.det 50 (.det 51 (.det 52 (.det 53 (.det 54 (.det 55 (.det 56 (.det 57 (.det 58 (.det 59 (.det 60 (.det 61 (.det 62 (.det 63 (.det 64 (.det 65 (.det 66 (.det 67 (.det 68 (.det 69 (.det 70 .done)))))))))))))))))))))))))))))))))))))))))))))))))))))))))))))))))))))))) (by kernel_rfl) ?_   -- region 11
                    refine hx_det rfl rfl rfl nofun (det_field rfl fd46_0 rfl) rfl ?_
                    refine hx_det rfl rfl rfl nofun (det_load rfl m0 (by rfl) na3 us3) rfl ?_
                    refine hx_det rfl rfl rfl nofun (det_move rfl) rfl ?_
                    refine hx_det rfl rfl rfl nofun (det_move rfl) rfl ?_
                    refine hx_det rfl rfl rfl nofun (det_indexO rfl rfl (ms m0) k11_p5 un36 sz48) rfl ?_
                    refine hx_det rfl rfl rfl nofun (det_fieldO rfl (ms m0) k11_p5 fd48_0 rfl) rfl ?_
                    refine hx_det rfl rfl rfl nofun (det_loadO (off := 0) rfl (ms m0) k11_p5 (by rfl) (by rfl) (loaded_1 na3 us3)) rfl ?_
                    refine hx_det rfl rfl rfl nofun (det_neq rfl rfl) rfl ?_
                    refine hx_det rfl rfl rfl nofun (det_move rfl) rfl ?_
                    refine hx_on rfl rfl rfl rfl rfl hg11_g56 nofun (det_field rfl fd46_1 rfl) rfl ?_
                    refine hx_on rfl rfl rfl rfl rfl hg11_g56 nofun (det_load rfl m0 (by rfl) na3 us3) rfl ?_
                    refine hx_on rfl rfl rfl rfl rfl hg11_g56 nofun (det_field rfl fd46_2 rfl) rfl ?_
                    refine hx_on rfl rfl rfl rfl rfl hg11_g56 nofun (det_load rfl m0 (by rfl) na3 us3) rfl ?_
                    refine hx_on rfl rfl rfl rfl rfl hg11_g56 nofun (det_add rfl rfl) rfl ?_
                    refine hx_on rfl rfl rfl rfl rfl hg11_g56 nofun (det_field rfl fd46_4 rfl) rfl ?_
                    refine hx_on rfl rfl rfl rfl rfl hg11_g56 nofun (det_load rfl m0 (by rfl) na3 us3) rfl ?_
                    refine hx_on rfl rfl rfl rfl rfl hg11_g56 nofun (det_add rfl rfl) rfl ?_
                    refine hx_on rfl rfl rfl rfl rfl hg11_g56 nofun (det_move rfl) rfl ?_
                    refine hx_on rfl rfl rfl rfl rfl hg11_g56 nofun (det_move rfl) rfl ?_
                    refine hx_on rfl rfl rfl rfl rfl hg11_g56 nofun (det_indexO rfl rfl (ms m0) k11_p5 un36 sz48) rfl ?_
                    refine hx_on rfl rfl rfl rfl rfl hg11_g56 nofun (det_fieldO rfl (ms m0) k11_p5 fd48_1 rfl) rfl ?_
                    refine hx_on rfl rfl rfl rfl rfl hg11_g56 nofun (det_loadO (off := 1) rfl (ms m0) k11_p5 (by rfl) (by rfl) (loaded_1 na3 us3)) rfl ?_
                    refine hx_on rfl rfl rfl rfl rfl hg11_g56 nofun (det_neq rfl rfl) rfl ?_
                    refine hx_det rfl rfl rfl nofun (det_pick_off rfl hg11_g56 rfl rfl) rfl ?_
                    refine hx_det rfl rfl rfl nofun (det_move rfl) rfl ?_
                    refine hx_on rfl rfl rfl rfl rfl hg11_g72 nofun (det_field rfl fd46_1 rfl) rfl ?_
                    refine hx_on rfl rfl rfl rfl rfl hg11_g72 nofun (det_load rfl m0 (by rfl) na3 us3) rfl ?_
                    refine hx_on rfl rfl rfl rfl rfl hg11_g72 nofun (det_field rfl fd46_3 rfl) rfl ?_
                    refine hx_on rfl rfl rfl rfl rfl hg11_g72 nofun (det_load rfl m0 (by rfl) na3 us3) rfl ?_
                    refine hx_on rfl rfl rfl rfl rfl hg11_g72 nofun (det_add rfl rfl) rfl ?_
                    refine hx_on rfl rfl rfl rfl rfl hg11_g72 nofun (det_move rfl) rfl ?_
                    refine hx_on rfl rfl rfl rfl rfl hg11_g72 nofun (det_move rfl) rfl ?_
                    refine hx_on rfl rfl rfl rfl rfl hg11_g72 nofun (det_indexO rfl rfl (ms m0) k11_p5 un36 sz48) rfl ?_
                    refine hx_on rfl rfl rfl rfl rfl hg11_g72 nofun (det_fieldO rfl (ms m0) k11_p5 fd48_2 rfl) rfl ?_
                    refine hx_on rfl rfl rfl rfl rfl hg11_g72 nofun (det_loadO (off := 2) rfl (ms m0) k11_p5 (by rfl) (by rfl) (loaded_1 na3 us3)) rfl ?_
                    refine hx_on rfl rfl rfl rfl rfl hg11_g72 nofun (det_neq rfl rfl) rfl ?_
                    refine hx_det rfl rfl rfl nofun (det_pick_off rfl hg11_g72 rfl rfl) rfl ?_
                    refine hx_det rfl rfl rfl nofun (det_move rfl) rfl ?_
                    refine hx_on rfl rfl rfl rfl rfl hg11_g85 nofun (det_field rfl fd46_2 rfl) rfl ?_
                    refine hx_on rfl rfl rfl rfl rfl hg11_g85 nofun (det_load rfl m0 (by rfl) na3 us3) rfl ?_
                    refine hx_on rfl rfl rfl rfl rfl hg11_g85 nofun (det_lss rfl rfl) rfl ?_
                    refine hx_det rfl rfl rfl nofun (det_pick_off rfl hg11_g85 rfl rfl) rfl ?_
                    refine hx_det rfl rfl rfl nofun (det_move rfl) rfl ?_
                    refine hx_on rfl rfl rfl rfl rfl hg11_g90 nofun (det_field rfl fd46_4 rfl) rfl ?_
                    refine hx_on rfl rfl rfl rfl rfl hg11_g90 nofun (det_load rfl m0 (by rfl) na3 us3) rfl ?_
                    refine hx_on rfl rfl rfl rfl rfl hg11_g90 nofun (det_lss rfl rfl) rfl ?_
                    refine hx_det rfl rfl rfl nofun (det_pick_off rfl hg11_g90 rfl rfl) rfl ?_
                    refine hx_det rfl rfl rfl nofun (det_move rfl) rfl ?_
                    refine hx_off rfl rfl rfl rfl rfl hg11_g95 rfl ?_
                    refine hx_off rfl rfl rfl rfl rfl hg11_g95 rfl ?_
                    refine hx_off rfl rfl rfl rfl rfl hg11_g95 rfl ?_
                    refine hx_det rfl rfl rfl nofun (det_pick_on rfl hg11_g95 rfl rfl) rfl ?_
                    refine hx_det rfl rfl rfl nofun (det_move rfl) rfl ?_
                    refine hx_off rfl rfl rfl rfl rfl rfl rfl ?_
                    refine hx_off rfl rfl rfl rfl rfl rfl rfl ?_
                    refine hx_off rfl rfl rfl rfl rfl rfl rfl ?_
                    refine hx_det rfl rfl rfl nofun (det_pick_on rfl rfl rfl rfl) rfl ?_
                    refine hx_det rfl rfl rfl nofun (det_move rfl) rfl ?_
                    refine hx_off rfl rfl rfl rfl rfl rfl rfl ?_
                    refine hx_off rfl rfl rfl rfl rfl rfl rfl ?_
                    refine hx_off rfl rfl rfl rfl rfl rfl rfl ?_
                    refine hx_off rfl rfl rfl rfl rfl rfl rfl ?_
                    refine hx_none rfl rfl rfl rfl rfl rfl ?_
                    refine hx_none rfl rfl rfl rfl rfl rfl ?_
                    refine hx_none rfl rfl rfl rfl rfl rfl ?_
                    refine hx_none rfl rfl rfl rfl rfl rfl ?_
                    refine hx_none rfl rfl rfl rfl rfl rfl ?_
                    refine hx_none rfl rfl rfl rfl rfl rfl ?_
                    refine hx_none rfl rfl rfl rfl rfl rfl ?_
                    refine hx_off rfl rfl rfl rfl rfl rfl rfl ?_
                    refine hx_det rfl rfl rfl nofun (det_pick_on rfl rfl rfl rfl) rfl ?_
                    refine hx_end ?_
                    refine wl_nil ?_
                    replace h := Option.some.inj h
                    subst h
                    exact pn_meetG (true, ()) rfl ⟨rfl, rfl, rfl, rfl, rfl, rfl, rfl, rfl, trivial⟩ (fun _ h => h.to ⟨_, (rs r0), ⟨_, r0, ⟨_, r0, trivial⟩⟩⟩ trivial)
                  · have h := ifF h hg11_g95
                    rcases Bool.eq_false_or_eq_true (decide ((ix r4_2.1 s22.2).Pays < 0)) with hg11_g100 | hg11_g100
                    · have h := ifT h hg11_g100
                      obtain ⟨k11_p6, h⟩ := chk_some h
                      refine dx_region 71 [[], [0], [], [], [2, 3], [2, 3, 4], [2, 3, 4, 5], [0, 1, 2, 3, 4, 5, 6], [0, 1, 2, 3, 4, 5, 6, 7], [0, 1, 2, 3, 4, 5, 6, 7, 8], [0, 1, 2, 3, 4, 5, 6, 7, 8, 9], [0, 1, 2, 3, 4, 5, 6, 7, 8], [0, 1, 2, 3, 4, 5, 6, 7, 8, 11], [0, 1, 2, 3, 4, 5, 6, 7, 8, 9, 10, 11, 12], [0, 1, 2, 3, 4, 5, 6, 7, 8], [0, 1, 2, 3, 4, 5, 6, 7, 8, 14], [0, 1, 2, 3, 4, 5, 6, 7, 8, 9, 10, 11, 12, 13, 14, 15], [0, 1, 2, 3, 4, 5, 6, 7, 8], [0, 1, 2, 3, 4, 5, 6, 7, 8], [0, 1, 2, 3, 4, 5, 6, 7, 8, 17, 18], [0, 1, 2, 3, 4, 5, 6, 7, 8, 17, 18, 19], [0, 1, 2, 3, 4, 5, 6, 7, 8, 17, 18, 19, 20], [0, 1, 2, 3, 4, 5, 6, 7, 8, 9, 10, 11, 12, 13, 14, 15, 16, 17, 18, 19, 20, 21], [0, 1, 2, 3, 4, 5, 6, 7, 8, 9, 10, 11, 12, 13, 14, 15, 16, 17, 18, 19, 20, 21, 22], [0, 1, 2, 3, 4, 5, 6, 7, 8, 9, 10, 11, 12, 13, 14, 15, 16, 17, 18, 19, 20, 21, 22, 23], [0, 1, 2, 3, 4, 5, 6, 7, 8, 9, 10, 11, 12, 13, 14, 15, 16, 17, 18, 19, 20, 21, 22, 23, 24], [0, 1, 2, 3, 4, 5, 6, 7, 8, 9, 10, 11, 12, 13, 14, 15, 16, 17, 18, 19, 20, 21, 22, 23, 24, 25], [0, 1, 2, 3, 4, 5, 6, 7, 8, 9, 10, 11, 12, 13, 14, 15, 16, 17, 18, 19, 20, 21, 22, 23, 24], [0, 1, 2, 3, 4, 5, 6, 7, 8, 9, 10, 11, 12, 13, 14, 15, 16, 17, 18, 19, 20, 21, 22, 23, 24, 27], [0, 1, 2, 3, 4, 5, 6, 7, 8, 9, 10, 11, 12, 13, 14, 15, 16, 17, 18, 19, 20, 21, 22, 23, 24, 25, 26, 27, 28], [0, 1, 2, 3, 4, 5, 6, 7, 8, 9, 10, 11, 12, 13, 14, 15, 16, 17, 18, 19, 20, 21, 22, 23, 24], [0, 1, 2, 3, 4, 5, 6, 7, 8, 9, 10, 11, 12, 13, 14, 15, 16, 17, 18, 19, 20, 21, 22, 23, 24], [0, 1, 2, 3, 4, 5, 6, 7, 8, 9, 10, 11, 12, 13, 14, 15, 16, 17, 18, 19, 20, 21, 22, 23, 24, 30, 31], [0, 1, 2, 3, 4, 5, 6, 7, 8, 9, 10, 11, 12, 13, 14, 15, 16, 17, 18, 19, 20, 21, 22, 23, 24, 30, 31, 32], [0, 1, 2, 3, 4, 5, 6, 7, 8, 9, 10, 11, 12, 13, 14, 15, 16, 17, 18, 19, 20, 21, 22, 23, 24, 30, 31, 32, 33], [0, 1, 2, 3, 4, 5, 6, 7, 8, 9, 10, 11, 12, 13, 14, 15, 16, 17, 18, 19, 20, 21, 22, 23, 24, 25, 26, 27, 28, 29, 30, 31, 32, 33, 34], [0, 1, 2, 3, 4, 5, 6, 7, 8, 9, 10, 11, 12, 13, 14, 15, 16, 17, 18, 19, 20, 21, 22, 23, 24, 25, 26, 27, 28, 29, 30, 31, 32, 33, 34, 35], [0, 1, 2, 3, 4, 5, 6, 7, 8, 9, 10, 11, 12, 13, 14, 15, 16, 17, 18, 19, 20, 21, 22, 23, 24, 25, 26, 27, 28, 29, 30, 31, 32, 33, 34, 35, 36], [0, 1, 2, 3, 4, 5, 6, 7, 8, 9, 10, 11, 12, 13, 14, 15, 16, 17, 18, 19, 20, 21, 22, 23, 24, 25, 26, 27, 28, 29, 30, 31, 32, 33, 34, 35, 36, 37], [0, 1, 2, 3, 4, 5, 6, 7, 8, 9, 10, 11, 12, 13, 14, 15, 16, 17, 18, 19, 20, 21, 22, 23, 24, 25, 26, 27, 28, 29, 30, 31, 32, 33, 34, 35, 36, 37, 38], [0, 1, 2, 3, 4, 5, 6, 7, 8, 9, 10, 11, 12, 13, 14, 15, 16, 17, 18, 19, 20, 21, 22, 23, 24, 25, 26, 27, 28, 29, 30, 31, 32, 33, 34, 35, 36, 37, 38, 39], [0, 1, 2, 3, 4, 5, 6, 7, 8, 9, 10, 11, 12, 13, 14, 15, 16, 17, 18, 19, 20, 21, 22, 23, 24, 25, 26, 27, 28, 29, 30, 31, 32, 33, 34, 35, 36, 37, 38, 39, 40], [0, 1, 2, 3, 4, 5, 6, 7, 8, 9, 10, 11, 12, 13, 14, 15, 16, 17, 18, 19, 20, 21, 22, 23, 24, 25, 26, 27, 28, 29, 30, 31, 32, 33, 34, 35, 36, 37, 38, 39, 40, 41], [0, 1, 2, 3, 4, 5, 6, 7, 8, 9, 10, 11, 12, 13, 14, 15, 16, 17, 18, 19, 20, 21, 22, 23, 24, 25, 26, 27, 28, 29, 30, 31, 32, 33, 34, 35, 36, 37, 38, 39, 40, 41, 42], [0, 1, 2, 3, 4, 5, 6, 7, 8, 9, 10, 11, 12, 13, 14, 15, 16, 17, 18, 19, 20, 21, 22, 23, 24, 25, 26, 27, 28, 29, 30, 31, 32, 33, 34, 35, 36, 37, 38, 39, 40, 41, 42, 43], [0, 1, 2, 3, 4, 5, 6, 7, 8, 9, 10, 11, 12, 13, 14, 15, 16, 17, 18, 19, 20, 21, 22, 23, 24, 25, 26, 27, 28, 29, 30, 31, 32, 33, 34, 35, 36, 37, 38, 39, 40, 41, 42, 43, 44], [0, 1, 2, 3, 4, 5, 6, 7, 8, 9, 10, 11, 12, 13, 14, 15, 16, 17, 18, 19, 20, 21, 22, 23, 24, 25, 26, 27, 28, 29, 30, 31, 32, 33, 34, 35, 36, 37, 38, 39, 40, 41, 42, 43, 44, 45], [0, 1, 2, 3, 4, 5, 6, 7, 8, 9, 10, 11, 12, 13, 14, 15, 16, 17, 18, 19, 20, 21, 22, 23, 24, 25, 26, 27, 28, 29, 30, 31, 32, 33, 34, 35, 36, 37, 38, 39, 40, 41, 42, 43, 44, 45, 46], [0, 1, 2, 3, 4, 5, 6, 7, 8, 9, 10, 11, 12, 13, 14, 15, 16, 17, 18, 19, 20, 21, 22, 23, 24, 25, 26, 27, 28, 29, 30, 31, 32, 33, 34, 35, 36, 37, 38, 39, 40, 41, 42, 43, 44, 45, 46, 47], [0, 1, 2, 3, 4, 5, 6, 7, 8, 9, 10, 11, 12, 13, 14, 15, 16, 17, 18, 19, 20, 21, 22, 23, 24, 25, 26, 27, 28, 29, 30, 31, 32, 33, 34, 35, 36, 37, 38, 39, 40, 41, 42, 43, 44, 45, 46, 47, 48], [0, 1, 2, 3, 4, 5, 6, 7, 8, 9, 10, 11, 12, 13, 14, 15, 16, 17, 18, 19, 20, 21, 22, 23, 24, 25, 26, 27, 28, 29, 30, 31, 32, 33, 34, 35, 36, 37, 38, 39, 40, 41, 42, 43, 44, 45, 46, 47, 48, 49], [0, 1, 2, 3, 4, 5, 6, 7, 8, 9, 10, 11, 12, 13, 14, 15, 16, 17, 18, 19, 20, 21, 22, 23, 24, 25, 26, 27, 28, 29, 30, 31, 32, 33, 34, 35, 36, 37, 38, 39, 40, 41, 42, 43, 44, 45, 46, 47, 48, 49, 50], [0, 1, 2, 3, 4, 5, 6, 7, 8, 9, 10, 11, 12, 13, 14, 15, 16, 17, 18, 19, 20, 21, 22, 23, 24, 25, 26, 27, 28, 29, 30, 31, 32, 33, 34, 35, 36, 37, 38, 39, 40, 41, 42, 43, 44, 45, 46, 47, 48, 49, 50, 51], [0, 1, 2, 3, 4, 5, 6, 7, 8, 9, 10, 11, 12, 13, 14, 15, 16, 17, 18, 19, 20, 21, 22, 23, 24, 25, 26, 27, 28, 29, 30, 31, 32, 33, 34, 35, 36, 37, 38, 39, 40, 41, 42, 43, 44, 45, 46, 47, 48, 49, 50, 51, 52], [0, 1, 2, 3, 4, 5, 6, 7, 8, 9, 10, 11, 12, 13, 14, 15, 16, 17, 18, 19, 20, 21, 22, 23, 24, 25, 26, 27, 28, 29, 30, 31, 32, 33, 34, 35, 36, 37, 38, 39, 40, 41, 42, 43, 44, 45, 46, 47, 48, 49, 50, 51, 52, 53], [0, 1, 2, 3, 4, 5, 6, 7, 8, 9, 10, 11, 12, 13, 14, 15, 16, 17, 18, 19, 20, 21, 22, 23, 24, 25, 26, 27, 28, 29, 30, 31, 32, 33, 34, 35, 36, 37, 38, 39, 40, 41, 42, 43, 44, 45, 46, 47, 48, 49, 50, 51, 52, 53, 54], [0, 1, 2, 3, 4, 5, 6, 7, 8, 9, 10, 11, 12, 13, 14, 15, 16, 17, 18, 19, 20, 21, 22, 23, 24, 25, 26, 27, 28, 29, 30, 31, 32, 33, 34, 35, 36, 37, 38, 39, 40, 41, 42, 43, 44, 45, 46, 47, 48, 49, 50, 51, 52, 53, 54, 55], [0, 1, 2, 3, 4, 5, 6, 7, 8, 9, 10, 11, 12, 13, 14, 15, 16, 17, 18, 19, 20, 21, 22, 23, 24, 25, 26, 27, 28, 29, 30, 31, 32, 33, 34, 35, 36, 37, 38, 39, 40, 41, 42, 43, 44, 45, 46, 47, 48, 49, 50, 51, 52, 53, 54, 55, 56], [0, 1, 2, 3, 4, 5, 6, 7, 8, 9, 10, 11, 12, 13, 14, 15, 16, 17, 18, 19, 20, 21, 22, 23, 24, 25, 26, 27, 28, 29, 30, 31, 32, 33, 34, 35, 36, 37, 38, 39, 40, 41, 42, 43, 44, 45, 46, 47, 48, 49, 50, 51, 52, 53, 54, 55, 56, 57], [0, 1, 2, 3, 4, 5, 6, 7, 8, 9, 10, 11, 12, 13, 14, 15, 16, 17, 18, 19, 20, 21, 22, 23, 24, 25, 26, 27, 28, 29, 30, 31, 32, 33, 34, 35, 36, 37, 38, 39, 40, 41, 42, 43, 44, 45, 46, 47, 48, 49, 50, 51, 52, 53, 54, 55, 56, 57, 58], [0, 1, 2, 3, 4, 5, 6, 7, 8, 9, 10, 11, 12, 13, 14, 15, 16, 17, 18, 19, 20, 21, 22, 23, 24, 25, 26, 27, 28, 29, 30, 31, 32, 33, 34, 35, 36, 37, 38, 39, 40, 41, 42, 43, 44, 45, 46, 47, 48, 49, 50, 51, 52, 53, 54, 55, 56, 57, 58, 59], [0, 1, 2, 3, 4, 5, 6, 7, 8, 9, 10, 11, 12, 13, 14, 15, 16, 17, 18, 19, 20, 21, 22, 23, 24, 25, 26, 27, 28, 29, 30, 31, 32, 33, 34, 35, 36, 37, 38, 39, 40, 41, 42, 43, 44, 45, 46, 47, 48, 49, 50, 51, 52, 53, 54, 55, 56, 57, 58, 59, 60], [0, 1, 2, 3, 4, 5, 6, 7, 8, 9, 10, 11, 12, 13, 14, 15, 16, 17, 18, 19, 20, 21, 22, 23, 24, 25, 26, 27, 28, 29, 30, 31, 32, 33, 34, 35, 36, 37, 38, 39, 40, 41, 42, 43, 44, 45, 46, 47, 48, 49, 50, 51, 52, 53, 54, 55, 56, 57, 58, 59, 60, 61], [0, 1, 2, 3, 4, 5, 6, 7, 8, 9, 10, 11, 12, 13, 14, 15, 16, 17, 18, 19, 20, 21, 22, 23, 24, 25, 26, 27, 28, 29, 30, 31, 32, 33, 34, 35, 36, 37, 38, 39, 40, 41, 42, 43, 44, 45, 46, 47, 48, 49, 50, 51, 52, 53, 54, 55, 56, 57, 58, 59, 60, 61, 62], [0, 1, 2, 3, 4, 5, 6, 7, 8, 9, 10, 11, 12, 13, 14, 15, 16, 17, 18, 19, 20, 21, 22, 23, 24, 25, 26, 27, 28, 29, 30, 31, 32, 33, 34, 35, 36, 37, 38, 39, 40, 41, 42, 43, 44, 45, 46, 47, 48, 49, 50, 51, 52, 53, 54, 55, 56, 57, 58, 59, 60, 61, 62, 63], [0, 1, 2, 3, 4, 5, 6, 7, 8, 9, 10, 11, 12, 13, 14, 15, 16, 17, 18, 19, 20, 21, 22, 23, 24, 25, 26, 27, 28, 29, 30, 31, 32, 33, 34, 35, 36, 37, 38, 39, 40, 41, 42, 43, 44, 45, 46, 47, 48, 49, 50, 51, 52, 53, 54, 55, 56, 57, 58, 59, 60, 61, 62, 63, 64], [0, 1, 2, 3, 4, 5, 6, 7, 8, 9, 10, 11, 12, 13, 14, 15, 16, 17, 18, 19, 20, 21, 22, 23, 24, 25, 26, 27, 28, 29, 30, 31, 32, 33, 34, 35, 36, 37, 38, 39, 40, 41, 42, 43, 44, 45, 46, 47, 48, 49, 50, 51, 52, 53, 54, 55, 56, 57, 58, 59, 60, 61, 62, 63, 64, 65], [0, 1, 2, 3, 4, 5, 6, 7, 8, 9, 10, 11, 12, 13, 14, 15, 16, 17, 18, 19, 20, 21, 22, 23, 24, 25, 26, 27, 28, 29, 30, 31, 32, 33, 34, 35, 36, 37, 38, 39, 40, 41, 42, 43, 44, 45, 46, 47, 48, 49, 50, 51, 52, 53, 54, 55, 56, 57, 58, 59, 60, 61, 62, 63, 64, 65, 66], [0, 1, 2, 3, 4, 5, 6, 7, 8, 9, 10, 11, 12, 13, 14, 15, 16, 17, 18, 19, 20, 21, 22, 23, 24, 25, 26, 27, 28, 29, 30, 31, 32, 33, 34, 35, 36, 37, 38, 39, 40, 41, 42, 43, 44, 45, 46, 47, 48, 49, 50, 51, 52, 53, 54, 55, 56, 57, 58, 59, 60, 61, 62, 63, 64, 65, 66, 67], [0, 1, 2, 3, 4, 5, 6, 7, 8, 9, 10, 11, 12, 13, 14, 15, 16, 17, 18, 19, 20, 21, 22, 23, 24, 25, 26, 27, 28, 29, 30, 31, 32, 33, 34, 35, 36, 37, 38, 39, 40, 41, 42, 43, 44, 45, 46, 47, 48, 49, 50, 51, 52, 53, 54, 55, 56, 57, 58, 59, 60, 61, 62, 63, 64, 65, 66, 67, 68], [0, 1, 2, 3, 4, 5, 6, 7, 8, 9, 10, 11, 12, 13, 14, 15, 16, 17, 18, 19, 20, 21, 22, 23, 24, 25, 26, 27, 28, 29, 30, 31, 32, 33, 34, 35, 36, 37, 38, 39, 40, 41, 42, 43, 44, 45, 46, 47, 48, 49, 50, 51, 52, 53, 54, 55, 56, 57, 58, 59, 60, 61, 62, 63, 64, 65, 66, 67, 68, 69]] mixed (ord := (.det 0 (.det 1 (.det 2 (.det 3 (.det 4 (.det 5 (.det 6 (.det 7 (.det 8 (.det 9 (.det 10 (.det 11 (.det 12 (.det 13 (.det 14 (.det 15 (.det 16 (.det 17 (.det 18 (.det 19 (.det 20 (.det 21 (.det 22 (.det 23 (.det 24 (.det 25 (.det 26 (.det 27 (.det 28 (.det 29 (.det 30 (.det 31 (.det 32 (.det 33 (.det 34 (.det 35 (.det 36 (.det 37 (.det 38 (.det 39 (.det 40 (.det 41 (.det 42 (.det 43 (.det 44 (.det 45 (.det 46 (.det 47 (.det 48 (.det 49 (.det 50 (.det 51 (.det 52 (.det 53 (.det 54 (.det 55 (.det 56 (.det 57 (.det 58 (.det 59 (.det 60 (.det 61 (.det 62 (.det 63 (.det 64 (.det 65 (.det 66 (.det 67 (.det 68 (.det 69 (.det 70 .done)))))))))))))))))))))))))))))))))))))))))))))))))))))))))))))))))))))))) (by kernel_rfl) ?_   -- region 11
                      refine hx_det rfl rfl rfl nofun (det_field rfl fd46_0 rfl) rfl ?_
                      refine hx_det rfl rfl rfl nofun (det_load rfl m0 (by rfl) na3 us3) rfl ?_
                      refine hx_det rfl rfl rfl nofun (det_move rfl) rfl ?_
                      refine hx_det rfl rfl rfl nofun (det_move rfl) rfl ?_
                      refine hx_det rfl rfl rfl nofun (det_indexO rfl rfl (ms m0) k11_p6 un36 sz48) rfl ?_
                      refine hx_det rfl rfl rfl nofun (det_fieldO rfl (ms m0) k11_p6 fd48_0 rfl) rfl ?_
                      refine hx_det rfl rfl rfl nofun (det_loadO (off := 0) rfl (ms m0) k11_p6 (by rfl) (by rfl) (loaded_1 na3 us3)) rfl ?_
                      refine hx_det rfl rfl rfl nofun (det_neq rfl rfl) rfl ?_
                      refine hx_det rfl rfl rfl nofun (det_move rfl) rfl ?_
                      refine hx_on rfl rfl rfl rfl rfl hg11_g56 nofun (det_field rfl fd46_1 rfl) rfl ?_
                      refine hx_on rfl rfl rfl rfl rfl hg11_g56 nofun (det_load rfl m0 (by rfl) na3 us3) rfl ?_
                      refine hx_on rfl rfl rfl rfl rfl hg11_g56 nofun (det_field rfl fd46_2 rfl) rfl ?_
                      refine hx_on rfl rfl rfl rfl rfl hg11_g56 nofun (det_load rfl m0 (by rfl) na3 us3) rfl ?_
                      refine hx_on rfl rfl rfl rfl rfl hg11_g56 nofun (det_add rfl rfl) rfl ?_
                      refine hx_on rfl rfl rfl rfl rfl hg11_g56 nofun (det_field rfl fd46_4 rfl) rfl ?_
                      refine hx_on rfl rfl rfl rfl rfl hg11_g56 nofun (det_load rfl m0 (by rfl) na3 us3) rfl ?_
                      refine hx_on rfl rfl rfl rfl rfl hg11_g56 nofun (det_add rfl rfl) rfl ?_
                      refine hx_on rfl rfl rfl rfl rfl hg11_g56 nofun (det_move rfl) rfl ?_
                      refine hx_on rfl rfl rfl rfl rfl hg11_g56 nofun (det_move rfl) rfl ?_
                      refine hx_on rfl rfl rfl rfl rfl hg11_g56 nofun (det_indexO rfl rfl (ms m0) k11_p6 un36 sz48) rfl ?_
                      refine hx_on rfl rfl rfl rfl rfl hg11_g56 nofun (det_fieldO rfl (ms m0) k11_p6 fd48_1 rfl) rfl ?_
                      refine hx_on rfl rfl rfl rfl rfl hg11_g56 nofun (det_loadO (off := 1) rfl (ms m0) k11_p6 (by rfl) (by rfl) (loaded_1 na3 us3)) rfl ?_
                      refine hx_on rfl rfl rfl rfl rfl hg11_g56 nofun (det_neq rfl rfl) rfl ?_
                      refine hx_det rfl rfl rfl nofun (det_pick_off rfl hg11_g56 rfl rfl) rfl ?_
                      refine hx_det rfl rfl rfl nofun (det_move rfl) rfl ?_
                      refine hx_on rfl rfl rfl rfl rfl hg11_g72 nofun (det_field rfl fd46_1 rfl) rfl ?_
                      refine hx_on rfl rfl rfl rfl rfl hg11_g72 nofun (det_load rfl m0 (by rfl) na3 us3) rfl ?_
                      refine hx_on rfl rfl rfl rfl rfl hg11_g72 nofun (det_field rfl fd46_3 rfl) rfl ?_
                      refine hx_on rfl rfl rfl rfl rfl hg11_g72 nofun (det_load rfl m0 (by rfl) na3 us3) rfl ?_
                      refine hx_on rfl rfl rfl rfl rfl hg11_g72 nofun (det_add rfl rfl) rfl ?_
                      refine hx_on rfl rfl rfl rfl rfl hg11_g72 nofun (det_move rfl) rfl ?_
                      refine hx_on rfl rfl rfl rfl rfl hg11_g72 nofun (det_move rfl) rfl ?_
                      refine hx_on rfl rfl rfl rfl rfl hg11_g72 nofun (det_indexO rfl rfl (ms m0) k11_p6 un36 sz48) rfl ?_
                      refine hx_on rfl rfl rfl rfl rfl hg11_g72 nofun (det_fieldO rfl (ms m0) k11_p6 fd48_2 rfl) rfl ?_
                      refine hx_on rfl rfl rfl rfl rfl hg11_g72 nofun (det_loadO (off := 2) rfl (ms m0) k11_p6 (by rfl) (by rfl) (loaded_1 na3 us3)) rfl ?_
                      refine hx_on rfl rfl rfl rfl rfl hg11_g72 nofun (det_neq rfl rfl) rfl ?_
                      refine hx_det rfl rfl rfl nofun (det_pick_off rfl hg11_g72 rfl rfl) rfl ?_
                      refine hx_det rfl rfl rfl nofun (det_move rfl) rfl ?_
                      refine hx_on rfl rfl rfl rfl rfl hg11_g85 nofun (det_field rfl fd46_2 rfl) rfl ?_
                      refine hx_on rfl rfl rfl rfl rfl hg11_g85 nofun (det_load rfl m0 (by rfl) na3 us3) rfl ?_
                      refine hx_on rfl rfl rfl rfl rfl hg11_g85 nofun (det_lss rfl rfl) rfl ?_
                      refine hx_det rfl rfl rfl nofun (det_pick_off rfl hg11_g85 rfl rfl) rfl ?_
                      refine hx_det rfl rfl rfl nofun (det_move rfl) rfl ?_
                      refine hx_on rfl rfl rfl rfl rfl hg11_g90 nofun (det_field rfl fd46_4 rfl) rfl ?_
                      refine hx_on rfl rfl rfl rfl rfl hg11_g90 nofun (det_load rfl m0 (by rfl) na3 us3) rfl ?_
                      refine hx_on rfl rfl rfl rfl rfl hg11_g90 nofun (det_lss rfl rfl) rfl ?_
                      refine hx_det rfl rfl rfl nofun (det_pick_off rfl hg11_g90 rfl rfl) rfl ?_
                      refine hx_det rfl rfl rfl nofun (det_move rfl) rfl ?_
                      refine hx_on rfl rfl rfl rfl rfl hg11_g95 nofun (det_field rfl fd46_3 rfl) rfl ?_
                      refine hx_on rfl rfl rfl rfl rfl hg11_g95 nofun (det_load rfl m0 (by rfl) na3 us3) rfl ?_
                      refine hx_on rfl rfl rfl rfl rfl hg11_g95 nofun (det_lss rfl rfl) rfl ?_
                      refine hx_det rfl rfl rfl nofun (det_pick_off rfl hg11_g95 rfl rfl) rfl ?_
                      refine hx_det rfl rfl rfl nofun (det_move rfl) rfl ?_
                      refine hx_off rfl rfl rfl rfl rfl hg11_g100 rfl ?_
                      refine hx_off rfl rfl rfl rfl rfl hg11_g100 rfl ?_
                      refine hx_off rfl rfl rfl rfl rfl hg11_g100 rfl ?_
                      refine hx_det rfl rfl rfl nofun (det_pick_on rfl hg11_g100 rfl rfl) rfl ?_
                      refine hx_det rfl rfl rfl nofun (det_move rfl) rfl ?_
                      refine hx_off rfl rfl rfl rfl rfl rfl rfl ?_
                      refine hx_off rfl rfl rfl rfl rfl rfl rfl ?_
                      refine hx_off rfl rfl rfl rfl rfl rfl rfl ?_
                      refine hx_off rfl rfl rfl rfl rfl rfl rfl ?_
                      refine hx_none rfl rfl rfl rfl rfl rfl ?_
                      refine hx_none rfl rfl rfl rfl rfl rfl ?_
                      refine hx_none rfl rfl rfl rfl rfl rfl ?_
                      refine hx_none rfl rfl rfl rfl rfl rfl ?_
                      refine hx_none rfl rfl rfl rfl rfl rfl ?_
                      refine hx_none rfl rfl rfl rfl rfl rfl ?_
                      refine hx_none rfl rfl rfl rfl rfl rfl ?_
                      refine hx_off rfl rfl rfl rfl rfl rfl rfl ?_
                      refine hx_det rfl rfl rfl nofun (det_pick_on rfl rfl rfl rfl) rfl ?_
                      refine hx_end ?_
                      refine wl_nil ?_
                      replace h := Option.some.inj h
                      subst h
                      exact pn_meetG (true, ()) rfl ⟨rfl, rfl, rfl, rfl, rfl, rfl, rfl, rfl, trivial⟩ (fun _ h => h.to ⟨_, (rs r0), ⟨_, r0, ⟨_, r0, trivial⟩⟩⟩ trivial)
                    · have h := ifF h hg11_g100
                      rcases Bool.eq_false_or_eq_true (decide ((ix r4_2.1 s22.2).SetOff < 0)) with hg11_g105 | hg11_g105
                      · have h := ifT h hg11_g105
                        obtain ⟨k11_p7, h⟩ := chk_some h
                        refine dx_region 71 [[], [0], [], [], [2, 3], [2, 3, 4], [2, 3, 4, 5], [0, 1, 2, 3, 4, 5, 6], [0, 1, 2, 3, 4, 5, 6, 7], [0, 1, 2, 3, 4, 5, 6, 7, 8], [0, 1, 2, 3, 4, 5, 6, 7, 8, 9], [0, 1, 2, 3, 4, 5, 6, 7, 8], [0, 1, 2, 3, 4, 5, 6, 7, 8, 11], [0, 1, 2, 3, 4, 5, 6, 7, 8, 9, 10, 11, 12], [0, 1, 2, 3, 4, 5, 6, 7, 8], [0, 1, 2, 3, 4, 5, 6, 7, 8, 14], [0, 1, 2, 3, 4, 5, 6, 7, 8, 9, 10, 11, 12, 13, 14, 15], [0, 1, 2, 3, 4, 5, 6, 7, 8], [0, 1, 2, 3, 4, 5, 6, 7, 8], [0, 1, 2, 3, 4, 5, 6, 7, 8, 17, 18], [0, 1, 2, 3, 4, 5, 6, 7, 8, 17, 18, 19], [0, 1, 2, 3, 4, 5, 6, 7, 8, 17, 18, 19, 20], [0, 1, 2, 3, 4, 5, 6, 7, 8, 9, 10, 11, 12, 13, 14, 15, 16, 17, 18, 19, 20, 21], [0, 1, 2, 3, 4, 5, 6, 7, 8, 9, 10, 11, 12, 13, 14, 15, 16, 17, 18, 19, 20, 21, 22], [0, 1, 2, 3, 4, 5, 6, 7, 8, 9, 10, 11, 12, 13, 14, 15, 16, 17, 18, 19, 20, 21, 22, 23], [0, 1, 2, 3, 4, 5, 6, 7, 8, 9, 10, 11, 12, 13, 14, 15, 16, 17, 18, 19, 20, 21, 22, 23, 24], [0, 1, 2, 3, 4, 5, 6, 7, 8, 9, 10, 11, 12, 13, 14, 15, 16, 17, 18, 19, 20, 21, 22, 23, 24, 25], [0, 1, 2, 3, 4, 5, 6, 7, 8, 9, 10, 11, 12, 13, 14, 15, 16, 17, 18, 19, 20, 21, 22, 23, 24], [0, 1, 2, 3, 4, 5, 6, 7, 8, 9, 10, 11, 12, 13, 14, 15, 16, 17, 18, 19, 20, 21, 22, 23, 24, 27], [0, 1, 2, 3, 4, 5, 6, 7, 8, 9, 10, 11, 12, 13, 14, 15, 16, 17, 18, 19, 20, 21, 22, 23, 24, 25, 26, 27, 28], [0, 1, 2, 3, 4, 5, 6, 7, 8, 9, 10, 11, 12, 13, 14, 15, 16, 17, 18, 19, 20, 21, 22, 23, 24], [0, 1, 2, 3, 4, 5, 6, 7, 8, 9, 10, 11, 12, 13, 14, 15, 16, 17, 18, 19, 20, 21, 22, 23, 24], [0, 1, 2, 3, 4, 5, 6, 7, 8, 9, 10, 11, 12, 13, 14, 15, 16, 17, 18, 19, 20, 21, 22, 23, 24, 30, 31], [0, 1, 2, 3, 4, 5, 6, 7, 8, 9, 10, 11, 12, 13, 14, 15, 16, 17, 18, 19, 20, 21, 22, 23, 24, 30, 31, 32], [0, 1, 2, 3, 4, 5, 6, 7, 8, 9, 10, 11, 12, 13, 14, 15, 16, 17, 18, 19, 20, 21, 22, 23, 24, 30, 31, 32, 33], [0, 1, 2, 3, 4, 5, 6, 7, 8, 9, 10, 11, 12, 13, 14, 15, 16, 17, 18, 19, 20, 21, 22, 23, 24, 25, 26, 27, 28, 29, 30, 31, 32, 33, 34], [0, 1, 2, 3, 4, 5, 6, 7, 8, 9, 10, 11, 12, 13, 14, 15, 16, 17, 18, 19, 20, 21, 22, 23, 24, 25, 26, 27, 28, 29, 30, 31, 32, 33, 34, 35], [0, 1, 2, 3, 4, 5, 6, 7, 8, 9, 10, 11, 12, 13, 14, 15, 16, 17, 18, 19, 20, 21, 22, 23, 24, 25, 26, 27, 28, 29, 30, 31, 32, 33, 34, 35, 36], [0, 1, 2, 3, 4, 5, 6, 7, 8, 9, 10, 11, 12, 13, 14, 15, 16, 17, 18, 19, 20, 21, 22, 23, 24, 25, 26, 27, 28, 29, 30, 31, 32, 33, 34, 35, 36, 37], [0, 1, 2, 3, 4, 5, 6, 7, 8, 9, 10, 11, 12, 13, 14, 15, 16, 17, 18, 19, 20, 21, 22, 23, 24, 25, 26, 27, 28, 29, 30, 31, 32, 33, 34, 35, 36, 37, 38], [0, 1, 2, 3, 4, 5, 6, 7, 8, 9, 10, 11, 12, 13, 14, 15, 16, 17, 18, 19, 20, 21, 22, 23, 24, 25, 26, 27, 28, 29, 30, 31, 32, 33, 34, 35, 36, 37, 38, 39], [0, 1, 2, 3, 4, 5, 6, 7, 8, 9, 10, 11, 12, 13, 14, 15, 16, 17, 18, 19, 20, 21, 22, 23, 24, 25, 26, 27, 28, 29, 30, 31, 32, 33, 34, 35, 36, 37, 38, 39, 40], [0, 1, 2, 3, 4, 5, 6, 7, 8, 9, 10, 11, 12, 13, 14, 15, 16, 17, 18, 19, 20, 21, 22, 23, 24, 25, 26, 27, 28, 29, 30, 31, 32, 33, 34, 35, 36, 37, 38, 39, 40, 41], [0, 1, 2, 3, 4, 5, 6, 7, 8, 9, 10, 11, 12, 13, 14, 15, 16, 17, 18, 19, 20, 21, 22, 23, 24, 25, 26, 27, 28, 29, 30, 31, 32, 33, 34, 35, 36, 37, 38, 39, 40, 41, 42], [0, 1, 2, 3, 4, 5, 6, 7, 8, 9, 10, 11, 12, 13, 14, 15, 16, 17, 18, 19, 20, 21, 22, 23, 24, 25, 26, 27, 28, 29, 30, 31, 32, 33, 34, 35, 36, 37, 38, 39, 40, 41, 42, 43], [0, 1, 2, 3, 4, 5, 6, 7, 8, 9, 10, 11, 12, 13, 14, 15, 16, 17, 18, 19, 20, 21, 22, 23, 24, 25, 26, 27, 28, 29, 30, 31, 32, 33, 34, 35, 36, 37, 38, 39, 40, 41, 42, 43, 44], [0, 1, 2, 3, 4, 5, 6, 7, 8, 9, 10, 11, 12, 13, 14, 15, 16, 17, 18, 19, 20, 21, 22, 23, 24, 25, 26, 27, 28, 29, 30, 31, 32, 33, 34, 35, 36, 37, 38, 39, 40, 41, 42, 43, 44, 45], [0, 1, 2, 3, 4, 5, 6, 7, 8, 9, 10, 11, 12, 13, 14, 15, 16, 17, 18, 19, 20, 21, 22, 23, 24, 25, 26, 27, 28, 29, 30, 31, 32, 33, 34, 35, 36, 37, 38, 39, 40, 41, 42, 43, 44, 45, 46], [0, 1, 2, 3, 4, 5, 6, 7, 8, 9, 10, 11, 12, 13, 14, 15, 16, 17, 18, 19, 20, 21, 22, 23, 24, 25, 26, 27, 28, 29, 30, 31, 32, 33, 34, 35, 36, 37, 38, 39, 40, 41, 42, 43, 44, 45, 46, 47], [0, 1, 2, 3, 4, 5, 6, 7, 8, 9, 10, 11, 12, 13, 14, 15, 16, 17, 18, 19, 20, 21, 22, 23, 24, 25, 26, 27, 28, 29, 30, 31, 32, 33, 34, 35, 36, 37, 38, 39, 40, 41, 42, 43, 44, 45, 46, 47, 48], [0, 1, 2, 3, 4, 5, 6, 7, 8, 9, 10, 11, 12, 13, 14, 15, 16, 17, 18, 19, 20, 21, 22, 23, 24, 25, 26, 27, 28, 29, 30, 31, 32, 33, 34, 35, 36, 37, 38, 39, 40, 41, 42, 43, 44, 45, 46, 47, 48, 49], [0, 1, 2, 3, 4, 5, 6, 7, 8, 9, 10, 11, 12, 13, 14, 15, 16, 17, 18, 19, 20, 21, 22, 23, 24, 25, 26, 27, 28, 29, 30, 31, 32, 33, 34, 35, 36, 37, 38, 39, 40, 41, 42, 43, 44, 45, 46, 47, 48, 49, 50], [0, 1, 2, 3, 4, 5, 6, 7, 8, 9, 10, 11, 12, 13, 14, 15, 16, 17, 18, 19, 20, 21, 22, 23, 24, 25, 26, 27, 28, 29, 30, 31, 32, 33, 34, 35, 36, 37, 38, 39, 40, 41, 42, 43, 44, 45, 46, 47, 48, 49, 50, 51], [0, 1, 2, 3, 4, 5, 6, 7, 8, 9, 10, 11, 12, 13, 14, 15, 16, 17, 18, 19, 20, 21, 22, 23, 24, 25, 26, 27, 28, 29, 30, 31, 32, 33, 34, 35, 36, 37, 38, 39, 40, 41, 42, 43, 44, 45, 46, 47, 48, 49, 50, 51, 52], [0, 1, 2, 3, 4, 5, 6, 7, 8, 9, 10, 11, 12, 13, 14, 15, 16, 17, 18, 19, 20, 21, 22, 23, 24, 25, 26, 27, 28, 29, 30, 31, 32, 33, 34, 35, 36, 37, 38, 39, 40, 41, 42, 43, 44, 45, 46, 47, 48, 49, 50, 51, 52, 53], [0, 1, 2, 3, 4, 5, 6, 7, 8, 9, 10, 11, 12, 13, 14, 15, 16, 17, 18, 19, 20, 21, 22, 23, 24, 25, 26, 27, 28, 29, 30, 31, 32, 33, 34, 35, 36, 37, 38, 39, 40, 41, 42, 43, 44, 45, 46, 47, 48, 49, 50, 51, 52, 53, 54], [0, 1, 2, 3, 4, 5, 6, 7, 8, 9, 10, 11, 12, 13, 14, 15, 16, 17, 18, 19, 20, 21, 22, 23, 24, 25, 26, 27, 28, 29, 30, 31, 32, 33, 34, 35, 36, 37, 38, 39, 40, 41, 42, 43, 44, 45, 46, 47, 48, 49, 50, 51, 52, 53, 54, 55], [0, 1, 2, 3, 4, 5, 6, 7, 8, 9, 10, 11, 12, 13, 14, 15, 16, 17, 18, 19, 20, 21, 22, 23, 24, 25, 26, 27, 28, 29, 30, 31, 32, 33, 34, 35, 36, 37, 38, 39, 40, 41, 42, 43, 44, 45, 46, 47, 48, 49, 50, 51, 52, 53, 54, 55, 56], [0, 1, 2, 3, 4, 5, 6, 7, 8, 9, 10, 11, 12, 13, 14, 15, 16, 17, 18, 19, 20, 21, 22, 23, 24, 25, 26, 27, 28, 29, 30, 31, 32, 33, 34, 35, 36, 37, 38, 39, 40, 41, 42, 43, 44, 45, 46, 47, 48, 49, 50, 51, 52, 53, 54, 55, 56, 57], [0, 1, 2, 3, 4, 5, 6, 7, 8, 9, 10, 11, 12, 13, 14, 15, 16, 17, 18, 19, 20, 21, 22, 23, 24, 25, 26, 27, 28, 29, 30, 31, 32, 33, 34, 35, 36, 37, 38, 39, 40, 41, 42, 43, 44, 45, 46, 47, 48, 49, 50, 51, 52, 53, 54, 55, 56, 57, 58], [0, 1, 2, 3, 4, 5, 6, 7, 8, 9, 10, 11, 12, 13, 14, 15, 16, 17, 18, 19, 20, 21, 22, 23, 24, 25, 26, 27, 28, 29, 30, 31, 32, 33, 34, 35, 36, 37, 38, 39, 40, 41, 42, 43, 44, 45, 46, 47, 48, 49, 50, 51, 52, 53, 54, 55, 56, 57, 58, 59], [0, 1, 2, 3, 4, 5, 6, 7, 8, 9, 10, 11, 12, 13, 14, 15, 16, 17, 18, 19, 20, 21, 22, 23, 24, 25, 26, 27, 28, 29, 30, 31, 32, 33, 34, 35, 36, 37, 38, 39, 40, 41, 42, 43, 44, 45, 46, 47, 48, 49, 50, 51, 52, 53, 54, 55, 56, 57, 58, 59, 60], [0, 1, 2, 3, 4, 5, 6, 7, 8, 9, 10, 11, 12, 13, 14, 15, 16, 17, 18, 19, 20, 21, 22, 23, 24, 25, 26, 27, 28, 29, 30, 31, 32, 33, 34, 35, 36, 37, 38, 39, 40, 41, 42, 43, 44, 45, 46, 47, 48, 49, 50, 51, 52, 53, 54, 55, 56, 57, 58, 59, 60, 61], [0, 1, 2, 3, 4, 5, 6, 7, 8, 9, 10, 11, 12, 13, 14, 15, 16, 17, 18, 19, 20, 21, 22, 23, 24, 25, 26, 27, 28, 29, 30, 31, 32, 33, 34, 35, 36, 37, 38, 39, 40, 41, 42, 43, 44, 45, 46, 47, 48, 49, 50, 51, 52, 53, 54, 55, 56, 57, 58, 59, 60, 61, 62], [0, 1, 2, 3, 4, 5, 6, 7, 8, 9, 10, 11, 12, 13, 14, 15, 16, 17, 18, 19, 20, 21, 22, 23, 24, 25, 26, 27, 28, 29, 30, 31, 32, 33, 34, 35, 36, 37, 38, 39, 40, 41, 42, 43, 44, 45, 46, 47, 48, 49, 50, 51, 52, 53, 54, 55, 56, 57, 58, 59, 60, 61, 62, 63], [0, 1, 2, 3, 4, 5, 6, 7, 8, 9, 10, 11, 12, 13, 14, 15, 16, 17, 18, 19, 20, 21, 22, 23, 24, 25, 26, 27, 28, 29, 30, 31, 32, 33, 34, 35, 36, 37, 38, 39, 40, 41, 42, 43, 44, 45, 46, 47, 48, 49, 50, 51, 52, 53, 54, 55, 56, 57, 58, 59, 60, 61, 62, 63, 64], [0, 1, 2, 3, 4, 5, 6, 7, 8, 9, 10, 11, 12, 13, 14, 15, 16, 17, 18, 19, 20, 21, 22, 23, 24, 25, 26, 27, 28, 29, 30, 31, 32, 33, 34, 35, 36, 37, 38, 39, 40, 41, 42, 43, 44, 45, 46, 47, 48, 49, 50, 51, 52, 53, 54, 55, 56, 57, 58, 59, 60, 61, 62, 63, 64, 65], [0, 1, 2, 3, 4, 5, 6, 7, 8, 9, 10, 11, 12, 13, 14, 15, 16, 17, 18, 19, 20, 21, 22, 23, 24, 25, 26, 27, 28, 29, 30, 31, 32, 33, 34, 35, 36, 37, 38, 39, 40, 41, 42, 43, 44, 45, 46, 47, 48, 49, 50, 51, 52, 53, 54, 55, 56, 57, 58, 59, 60, 61, 62, 63, 64, 65, 66], [0, 1, 2, 3, 4, 5, 6, 7, 8, 9, 10, 11, 12, 13, 14, 15, 16, 17, 18, 19, 20, 21, 22, 23, 24, 25, 26, 27, 28, 29, 30, 31, 32, 33, 34, 35, 36, 37, 38, 39, 40, 41, 42, 43, 44, 45, 46, 47, 48, 49, 50, 51, 52, 53, 54, 55, 56, 57, 58, 59, 60, 61, 62, 63, 64, 65, 66, 67], [0, 1, 2, 3, 4, 5, 6, 7, 8, 9, 10, 11, 12, 13, 14, 15, 16, 17, 18, 19, 20, 21, 22, 23, 24, 25, 26, 27, 28, 29, 30, 31, 32, 33, 34, 35, 36, 37, 38, 39, 40, 41, 42, 43, 44, 45, 46, 47, 48, 49, 50, 51, 52, 53, 54, 55, 56, 57, 58, 59, 60, 61, 62, 63, 64, 65, 66, 67, 68], [0, 1, 2, 3, 4, 5, 6, 7, 8, 9, 10, 11, 12, 13, 14, 15, 16, 17, 18, 19, 20, 21, 22, 23, 24, 25, 26, 27, 28, 29, 30, 31, 32, 33, 34, 35, 36, 37, 38, 39, 40, 41, 42, 43, 44, 45, 46, 47, 48, 49, 50, 51, 52, 53, 54, 55, 56, 57, 58, 59, 60, 61, 62, 63, 64, 65, 66, 67, 68, 69]] mixed (ord := (.det 0 (.det 1 (.det 2 (.det 3 (.det 4 (.det 5 (.det 6 (.det 7 (.det 8 (.det 9 (.det 10 (.det 11 (.det 12 (.det 13 (.det 14 (.det 15 (.det 16 (.det 17 (.det 18 (.det 19 (.det 20 (.det 21 (.det 22 (.det 23 (.det 24 (.det 25 (.det 26 (.det 27 (.det 28 (.det 29 (.det 30 (.det 31 (.det 32 (.det 33 (.det 34 (.det 35 (.det 36 (.det 37 (.det 38 (.det 39 (.det 40 (.det 41 (.det 42 (.det 43 (.det 44 (.det 45 (.det 46 (.det 47 (.det 48 (.det 49 (.det 50 (.det 51 (.det 52 (.det 53 (.det 54 (.det 55 (.det 56 (.det 57 (.det 58 (.det 59 (.det 60 (.det 61 (.det 62 (.det 63 (.det 64 (.det 65 (.det 66 (.det 67 (.det 68 (.det 69 (.det 70 .done)))))))))))))))))))))))))))))))))))))))))))))))))))))))))))))))))))))))) (by kernel_rfl) ?_   -- region 11
                        refine hx_det rfl rfl rfl nofun (det_field rfl fd46_0 rfl) rfl ?_
                        refine hx_det rfl rfl rfl nofun (det_load rfl m0 (by rfl) na3 us3) rfl ?_
                        refine hx_det rfl rfl rfl nofun (det_move rfl) rfl ?_
                        refine hx_det rfl rfl rfl nofun (det_move rfl) rfl ?_
                        refine hx_det rfl rfl rfl nofun (det_indexO rfl rfl (ms m0) k11_p7 un36 sz48) rfl ?_
                        refine hx_det rfl rfl rfl nofun (det_fieldO rfl (ms m0) k11_p7 fd48_0 rfl) rfl ?_
                        refine hx_det rfl rfl rfl nofun (det_loadO (off := 0) rfl (ms m0) k11_p7 (by rfl) (by rfl) (loaded_1 na3 us3)) rfl ?_
                        refine hx_det rfl rfl rfl nofun (det_neq rfl rfl) rfl ?_
                        refine hx_det rfl rfl rfl nofun (det_move rfl) rfl ?_
                        refine hx_on rfl rfl rfl rfl rfl hg11_g56 nofun (det_field rfl fd46_1 rfl) rfl ?_
                        refine hx_on rfl rfl rfl rfl rfl hg11_g56 nofun (det_load rfl m0 (by rfl) na3 us3) rfl ?_
                        refine hx_on rfl rfl rfl rfl rfl hg11_g56 nofun (det_field rfl fd46_2 rfl) rfl ?_
                        refine hx_on rfl rfl rfl rfl rfl hg11_g56 nofun (det_load rfl m0 (by rfl) na3 us3) rfl ?_
                        refine hx_on rfl rfl rfl rfl rfl hg11_g56 nofun (det_add rfl rfl) rfl ?_
                        refine hx_on rfl rfl rfl rfl rfl hg11_g56 nofun (det_field rfl fd46_4 rfl) rfl ?_
                        refine hx_on rfl rfl rfl rfl rfl hg11_g56 nofun (det_load rfl m0 (by rfl) na3 us3) rfl ?_
                        refine hx_on rfl rfl rfl rfl rfl hg11_g56 nofun (det_add rfl rfl) rfl ?_
                        refine hx_on rfl rfl rfl rfl rfl hg11_g56 nofun (det_move rfl) rfl ?_
                        refine hx_on rfl rfl rfl rfl rfl hg11_g56 nofun (det_move rfl) rfl ?_
                        refine hx_on rfl rfl rfl rfl rfl hg11_g56 nofun (det_indexO rfl rfl (ms m0) k11_p7 un36 sz48) rfl ?_
                        refine hx_on rfl rfl rfl rfl rfl hg11_g56 nofun (det_fieldO rfl (ms m0) k11_p7 fd48_1 rfl) rfl ?_
                        refine hx_on rfl rfl rfl rfl rfl hg11_g56 nofun (det_loadO (off := 1) rfl (ms m0) k11_p7 (by rfl) (by rfl) (loaded_1 na3 us3)) rfl ?_
                        refine hx_on rfl rfl rfl rfl rfl hg11_g56 nofun (det_neq rfl rfl) rfl ?_
                        refine hx_det rfl rfl rfl nofun (det_pick_off rfl hg11_g56 rfl rfl) rfl ?_
                        refine hx_det rfl rfl rfl nofun (det_move rfl) rfl ?_
                        refine hx_on rfl rfl rfl rfl rfl hg11_g72 nofun (det_field rfl fd46_1 rfl) rfl ?_
                        refine hx_on rfl rfl rfl rfl rfl hg11_g72 nofun (det_load rfl m0 (by rfl) na3 us3) rfl ?_
                        refine hx_on rfl rfl rfl rfl rfl hg11_g72 nofun (det_field rfl fd46_3 rfl) rfl ?_
                        refine hx_on rfl rfl rfl rfl rfl hg11_g72 nofun (det_load rfl m0 (by rfl) na3 us3) rfl ?_
                        refine hx_on rfl rfl rfl rfl rfl hg11_g72 nofun (det_add rfl rfl) rfl ?_
                        refine hx_on rfl rfl rfl rfl rfl hg11_g72 nofun (det_move rfl) rfl ?_
                        refine hx_on rfl rfl rfl rfl rfl hg11_g72 nofun (det_move rfl) rfl ?_
                        refine hx_on rfl rfl rfl rfl rfl hg11_g72 nofun (det_indexO rfl rfl (ms m0) k11_p7 un36 sz48) rfl ?_
                        refine hx_on rfl rfl rfl rfl rfl hg11_g72 nofun (det_fieldO rfl (ms m0) k11_p7 fd48_2 rfl) rfl ?_
                        refine hx_on rfl rfl rfl rfl rfl hg11_g72 nofun (det_loadO (off := 2) rfl (ms m0) k11_p7 (by rfl) (by rfl) (loaded_1 na3 us3)) rfl ?_
                        refine hx_on rfl rfl rfl rfl rfl hg11_g72 nofun (det_neq rfl rfl) rfl ?_
                        refine hx_det rfl rfl rfl nofun (det_pick_off rfl hg11_g72 rfl rfl) rfl ?_
                        refine hx_det rfl rfl rfl nofun (det_move rfl) rfl ?_
                        refine hx_on rfl rfl rfl rfl rfl hg11_g85 nofun (det_field rfl fd46_2 rfl) rfl ?_
                        refine hx_on rfl rfl rfl rfl rfl hg11_g85 nofun (det_load rfl m0 (by rfl) na3 us3) rfl ?_
                        refine hx_on rfl rfl rfl rfl rfl hg11_g85 nofun (det_lss rfl rfl) rfl ?_
                        refine hx_det rfl rfl rfl nofun (det_pick_off rfl hg11_g85 rfl rfl) rfl ?_
                        refine hx_det rfl rfl rfl nofun (det_move rfl) rfl ?_
                        refine hx_on rfl rfl rfl rfl rfl hg11_g90 nofun (det_field rfl fd46_4 rfl) rfl ?_
                        refine hx_on rfl rfl rfl rfl rfl hg11_g90 nofun (det_load rfl m0 (by rfl) na3 us3) rfl ?_
                        refine hx_on rfl rfl rfl rfl rfl hg11_g90 nofun (det_lss rfl rfl) rfl ?_
                        refine hx_det rfl rfl rfl nofun (det_pick_off rfl hg11_g90 rfl rfl) rfl ?_
                        refine hx_det rfl rfl rfl nofun (det_move rfl) rfl ?_
                        refine hx_on rfl rfl rfl rfl rfl hg11_g95 nofun (det_field rfl fd46_3 rfl) rfl ?_
                        refine hx_on rfl rfl rfl rfl rfl hg11_g95 nofun (det_load rfl m0 (by rfl) na3 us3) rfl ?_
                        refine hx_on rfl rfl rfl rfl rfl hg11_g95 nofun (det_lss rfl rfl) rfl ?_
                        refine hx_det rfl rfl rfl nofun (det_pick_off rfl hg11_g95 rfl rfl) rfl ?_
                        refine hx_det rfl rfl rfl nofun (det_move rfl) rfl ?_
                        refine hx_on rfl rfl rfl rfl rfl hg11_g100 nofun (det_field rfl fd46_1 rfl) rfl ?_
                        refine hx_on rfl rfl rfl rfl rfl hg11_g100 nofun (det_load rfl m0 (by rfl) na3 us3) rfl ?_
                        refine hx_on rfl rfl rfl rfl rfl hg11_g100 nofun (det_lss rfl rfl) rfl ?_
                        refine hx_det rfl rfl rfl nofun (det_pick_off rfl hg11_g100 rfl rfl) rfl ?_
                        refine hx_det rfl rfl rfl nofun (det_move rfl) rfl ?_
                        refine hx_off rfl rfl rfl rfl rfl hg11_g105 rfl ?_
                        refine hx_off rfl rfl rfl rfl rfl hg11_g105 rfl ?_
                        refine hx_off rfl rfl rfl rfl rfl hg11_g105 rfl ?_
                        refine hx_off rfl rfl rfl rfl rfl hg11_g105 rfl ?_
                        refine hx_none rfl rfl rfl rfl rfl rfl ?_
                        refine hx_none rfl rfl rfl rfl rfl rfl ?_
                        refine hx_none rfl rfl rfl rfl rfl rfl ?_
                        refine hx_none rfl rfl rfl rfl rfl rfl ?_
                        refine hx_none rfl rfl rfl rfl rfl rfl ?_
                        refine hx_none rfl rfl rfl rfl rfl rfl ?_
                        refine hx_none rfl rfl rfl rfl rfl rfl ?_
                        refine hx_off rfl rfl rfl rfl rfl hg11_g105 rfl ?_
                        refine hx_det rfl rfl rfl nofun (det_pick_on rfl hg11_g105 rfl rfl) rfl ?_
                        refine hx_end ?_
                        refine wl_nil ?_
                        replace h := Option.some.inj h
                        subst h
                        exact pn_meetG (true, ()) rfl ⟨rfl, rfl, rfl, rfl, rfl, rfl, rfl, rfl, trivial⟩ (fun _ h => h.to ⟨_, (rs r0), ⟨_, r0, ⟨_, r0, trivial⟩⟩⟩ trivial)
                      · have h := ifF h hg11_g105
                        rcases Bool.eq_false_or_eq_true (decide (0 < (ix r4_2.1 s22.2).Unpaid)) with hg11_g109 | hg11_g109
                        · have h := ifT h hg11_g109
                          rcases Bool.eq_false_or_eq_true (!decide (r4_2.2.1 = 0)) with hg11_g112 | hg11_g112
                          · have h := ifT h hg11_g112
                            obtain ⟨k11_p8, h⟩ := chk_some h
                            refine dx_region 71 [[], [0], [], [], [2, 3], [2, 3, 4], [2, 3, 4, 5], [0, 1, 2, 3, 4, 5, 6], [0, 1, 2, 3, 4, 5, 6, 7], [0, 1, 2, 3, 4, 5, 6, 7, 8], [0, 1, 2, 3, 4, 5, 6, 7, 8, 9], [0, 1, 2, 3, 4, 5, 6, 7, 8], [0, 1, 2, 3, 4, 5, 6, 7, 8, 11], [0, 1, 2, 3, 4, 5, 6, 7, 8, 9, 10, 11, 12], [0, 1, 2, 3, 4, 5, 6, 7, 8], [0, 1, 2, 3, 4, 5, 6, 7, 8, 14], [0, 1, 2, 3, 4, 5, 6, 7, 8, 9, 10, 11, 12, 13, 14, 15], [0, 1, 2, 3, 4, 5, 6, 7, 8], [0, 1, 2, 3, 4, 5, 6, 7, 8], [0, 1, 2, 3, 4, 5, 6, 7, 8, 17, 18], [0, 1, 2, 3, 4, 5, 6, 7, 8, 17, 18, 19], [0, 1, 2, 3, 4, 5, 6, 7, 8, 17, 18, 19, 20], [0, 1, 2, 3, 4, 5, 6, 7, 8, 9, 10, 11, 12, 13, 14, 15, 16, 17, 18, 19, 20, 21], [0, 1, 2, 3, 4, 5, 6, 7, 8, 9, 10, 11, 12, 13, 14, 15, 16, 17, 18, 19, 20, 21, 22], [0, 1, 2, 3, 4, 5, 6, 7, 8, 9, 10, 11, 12, 13, 14, 15, 16, 17, 18, 19, 20, 21, 22, 23], [0, 1, 2, 3, 4, 5, 6, 7, 8, 9, 10, 11, 12, 13, 14, 15, 16, 17, 18, 19, 20, 21, 22, 23, 24], [0, 1, 2, 3, 4, 5, 6, 7, 8, 9, 10, 11, 12, 13, 14, 15, 16, 17, 18, 19, 20, 21, 22, 23, 24, 25], [0, 1, 2, 3, 4, 5, 6, 7, 8, 9, 10, 11, 12, 13, 14, 15, 16, 17, 18, 19, 20, 21, 22, 23, 24], [0, 1, 2, 3, 4, 5, 6, 7, 8, 9, 10, 11, 12, 13, 14, 15, 16, 17, 18, 19, 20, 21, 22, 23, 24, 27], [0, 1, 2, 3, 4, 5, 6, 7, 8, 9, 10, 11, 12, 13, 14, 15, 16, 17, 18, 19, 20, 21, 22, 23, 24, 25, 26, 27, 28], [0, 1, 2, 3, 4, 5, 6, 7, 8, 9, 10, 11, 12, 13, 14, 15, 16, 17, 18, 19, 20, 21, 22, 23, 24], [0, 1, 2, 3, 4, 5, 6, 7, 8, 9, 10, 11, 12, 13, 14, 15, 16, 17, 18, 19, 20, 21, 22, 23, 24], [0, 1, 2, 3, 4, 5, 6, 7, 8, 9, 10, 11, 12, 13, 14, 15, 16, 17, 18, 19, 20, 21, 22, 23, 24, 30, 31], [0, 1, 2, 3, 4, 5, 6, 7, 8, 9, 10, 11, 12, 13, 14, 15, 16, 17, 18, 19, 20, 21, 22, 23, 24, 30, 31, 32], [0, 1, 2, 3, 4, 5, 6, 7, 8, 9, 10, 11, 12, 13, 14, 15, 16, 17, 18, 19, 20, 21, 22, 23, 24, 30, 31, 32, 33], [0, 1, 2, 3, 4, 5, 6, 7, 8, 9, 10, 11, 12, 13, 14, 15, 16, 17, 18, 19, 20, 21, 22, 23, 24, 25, 26, 27, 28, 29, 30, 31, 32, 33, 34], [0, 1, 2, 3, 4, 5, 6, 7, 8, 9, 10, 11, 12, 13, 14, 15, 16, 17, 18, 19, 20, 21, 22, 23, 24, 25, 26, 27, 28, 29, 30, 31, 32, 33, 34, 35], [0, 1, 2, 3, 4, 5, 6, 7, 8, 9, 10, 11, 12, 13, 14, 15, 16, 17, 18, 19, 20, 21, 22, 23, 24, 25, 26, 27, 28, 29, 30, 31, 32, 33, 34, 35, 36], [0, 1, 2, 3, 4, 5, 6, 7, 8, 9, 10, 11, 12, 13, 14, 15, 16, 17, 18, 19, 20, 21, 22, 23, 24, 25, 26, 27, 28, 29, 30, 31, 32, 33, 34, 35, 36, 37], [0, 1, 2, 3, 4, 5, 6, 7, 8, 9, 10, 11, 12, 13, 14, 15, 16, 17, 18, 19, 20, 21, 22, 23, 24, 25, 26, 27, 28, 29, 30, 31, 32, 33, 34, 35, 36, 37, 38], [0, 1, 2, 3, 4, 5, 6, 7, 8, 9, 10, 11, 12, 13, 14, 15, 16, 17, 18, 19, 20, 21, 22, 23, 24, 25, 26, 27, 28, 29, 30, 31, 32, 33, 34, 35, 36, 37, 38, 39], [0, 1, 2, 3, 4, 5, 6, 7, 8, 9, 10, 11, 12, 13, 14, 15, 16, 17, 18, 19, 20, 21, 22, 23, 24, 25, 26, 27, 28, 29, 30, 31, 32, 33, 34, 35, 36, 37, 38, 39, 40], [0, 1, 2, 3, 4, 5, 6, 7, 8, 9, 10, 11, 12, 13, 14, 15, 16, 17, 18, 19, 20, 21, 22, 23, 24, 25, 26, 27, 28, 29, 30, 31, 32, 33, 34, 35, 36, 37, 38, 39, 40, 41], [0, 1, 2, 3, 4, 5, 6, 7, 8, 9, 10, 11, 12, 13, 14, 15, 16, 17, 18, 19, 20, 21, 22, 23, 24, 25, 26, 27, 28, 29, 30, 31, 32, 33, 34, 35, 36, 37, 38, 39, 40, 41, 42], [0, 1, 2, 3, 4, 5, 6, 7, 8, 9, 10, 11, 12, 13, 14, 15, 16, 17, 18, 19, 20, 21, 22, 23, 24, 25, 26, 27, 28, 29, 30, 31, 32, 33, 34, 35, 36, 37, 38, 39, 40, 41, 42, 43], [0, 1, 2, 3, 4, 5, 6, 7, 8, 9, 10, 11, 12, 13, 14, 15, 16, 17, 18, 19, 20, 21, 22, 23, 24, 25, 26, 27, 28, 29, 30, 31, 32, 33, 34, 35, 36, 37, 38, 39, 40, 41, 42, 43, 44], [0, 1, 2, 3, 4, 5, 6, 7, 8, 9, 10, 11, 12, 13, 14, 15, 16, 17, 18, 19, 20, 21, 22, 23, 24, 25, 26, 27, 28, 29, 30, 31, 32, 33, 34, 35, 36, 37, 38, 39, 40, 41, 42, 43, 44, 45], [0, 1, 2, 3, 4, 5, 6, 7, 8, 9, 10, 11, 12, 13, 14, 15, 16, 17, 18, 19, 20, 21, 22, 23, 24, 25, 26, 27, 28, 29, 30, 31, 32, 33, 34, 35, 36, 37, 38, 39, 40, 41, 42, 43, 44, 45, 46], [0, 1, 2, 3, 4, 5, 6, 7, 8, 9, 10, 11, 12, 13, 14, 15, 16, 17, 18, 19, 20, 21, 22, 23, 24, 25, 26, 27, 28, 29, 30, 31, 32, 33, 34, 35, 36, 37, 38, 39, 40, 41, 42, 43, 44, 45, 46, 47], [0, 1, 2, 3, 4, 5, 6, 7, 8, 9, 10, 11, 12, 13, 14, 15, 16, 17, 18, 19, 20, 21, 22, 23, 24, 25, 26, 27, 28, 29, 30, 31, 32, 33, 34, 35, 36, 37, 38, 39, 40, 41, 42, 43, 44, 45, 46, 47, 48], [0, 1, 2, 3, 4, 5, 6, 7, 8, 9, 10, 11, 12, 13, 14, 15, 16, 17, 18, 19, 20, 21, 22, 23, 24, 25, 26, 27, 28, 29, 30, 31, 32, 33, 34, 35, 36, 37, 38, 39, 40, 41, 42, 43, 44, 45, 46, 47, 48, 49], [0, 1, 2, 3, 4, 5, 6, 7, 8, 9, 10, 11, 12, 13, 14, 15, 16, 17, 18, 19, 20, 21, 22, 23, 24, 25, 26, 27, 28, 29, 30, 31, 32, 33, 34, 35, 36, 37, 38, 39, 40, 41, 42, 43, 44, 45, 46, 47, 48, 49, 50], [0, 1, 2, 3, 4, 5, 6, 7, 8, 9, 10, 11, 12, 13, 14, 15, 16, 17, 18, 19, 20, 21, 22, 23, 24, 25, 26, 27, 28, 29, 30, 31, 32, 33, 34, 35, 36, 37, 38, 39, 40, 41, 42, 43, 44, 45, 46, 47, 48, 49, 50, 51], [0, 1, 2, 3, 4, 5, 6, 7, 8, 9, 10, 11, 12, 13, 14, 15, 16, 17, 18, 19, 20, 21, 22, 23, 24, 25, 26, 27, 28, 29, 30, 31, 32, 33, 34, 35, 36, 37, 38, 39, 40, 41, 42, 43, 44, 45, 46, 47, 48, 49, 50, 51, 52], [0, 1, 2, 3, 4, 5, 6, 7, 8, 9, 10, 11, 12, 13, 14, 15, 16, 17, 18, 19, 20, 21, 22, 23, 24, 25, 26, 27, 28, 29, 30, 31, 32, 33, 34, 35, 36, 37, 38, 39, 40, 41, 42, 43, 44, 45, 46, 47, 48, 49, 50, 51, 52, 53], [0, 1, 2, 3, 4, 5, 6, 7, 8, 9, 10, 11, 12, 13, 14, 15, 16, 17, 18, 19, 20, 21, 22, 23, 24, 25, 26, 27, 28, 29, 30, 31, 32, 33, 34, 35, 36, 37, 38, 39, 40, 41, 42, 43, 44, 45, 46, 47, 48, 49, 50, 51, 52, 53, 54], [0, 1, 2, 3, 4, 5, 6, 7, 8, 9, 10, 11, 12, 13, 14, 15, 16, 17, 18, 19, 20, 21, 22, 23, 24, 25, 26, 27, 28, 29, 30, 31, 32, 33, 34, 35, 36, 37, 38, 39, 40, 41, 42, 43, 44, 45, 46, 47, 48, 49, 50, 51, 52, 53, 54, 55], [0, 1, 2, 3, 4, 5, 6, 7, 8, 9, 10, 11, 12, 13, 14, 15, 16, 17, 18, 19, 20, 21, 22, 23, 24, 25, 26, 27, 28, 29, 30, 31, 32, 33, 34, 35, 36, 37, 38, 39, 40, 41, 42, 43, 44, 45, 46, 47, 48, 49, 50, 51, 52, 53, 54, 55, 56], [0, 1, 2, 3, 4, 5, 6, 7, 8, 9, 10, 11, 12, 13, 14, 15, 16, 17, 18, 19, 20, 21, 22, 23, 24, 25, 26, 27, 28, 29, 30, 31, 32, 33, 34, 35, 36, 37, 38, 39, 40, 41, 42, 43, 44, 45, 46, 47, 48, 49, 50, 51, 52, 53, 54, 55, 56, 57], [0, 1, 2, 3, 4, 5, 6, 7, 8, 9, 10, 11, 12, 13, 14, 15, 16, 17, 18, 19, 20, 21, 22, 23, 24, 25, 26, 27, 28, 29, 30, 31, 32, 33, 34, 35, 36, 37, 38, 39, 40, 41, 42, 43, 44, 45, 46, 47, 48, 49, 50, 51, 52, 53, 54, 55, 56, 57, 58], [0, 1, 2, 3, 4, 5, 6, 7, 8, 9, 10, 11, 12, 13, 14, 15, 16, 17, 18, 19, 20, 21, 22, 23, 24, 25, 26, 27, 28, 29, 30, 31, 32, 33, 34, 35, 36, 37, 38, 39, 40, 41, 42, 43, 44, 45, 46, 47, 48, 49, 50, 51, 52, 53, 54, 55, 56, 57, 58, 59], [0, 1, 2, 3, 4, 5, 6, 7, 8, 9, 10, 11, 12, 13, 14, 15, 16, 17, 18, 19, 20, 21, 22, 23, 24, 25, 26, 27, 28, 29, 30, 31, 32, 33, 34, 35, 36, 37, 38, 39, 40, 41, 42, 43, 44, 45, 46, 47, 48, 49, 50, 51, 52, 53, 54, 55, 56, 57, 58, 59, 60], [0, 1, 2, 3, 4, 5, 6, 7, 8, 9, 10, 11, 12, 13, 14, 15, 16, 17, 18, 19, 20, 21, 22, 23, 24, 25, 26, 27, 28, 29, 30, 31, 32, 33, 34, 35, 36, 37, 38, 39, 40, 41, 42, 43, 44, 45, 46, 47, 48, 49, 50, 51, 52, 53, 54, 55, 56, 57, 58, 59, 60, 61], [0, 1, 2, 3, 4, 5, 6, 7, 8, 9, 10, 11, 12, 13, 14, 15, 16, 17, 18, 19, 20, 21, 22, 23, 24, 25, 26, 27, 28, 29, 30, 31, 32, 33, 34, 35, 36, 37, 38, 39, 40, 41, 42, 43, 44, 45, 46, 47, 48, 49, 50, 51, 52, 53, 54, 55, 56, 57, 58, 59, 60, 61, 62], [0, 1, 2, 3, 4, 5, 6, 7, 8, 9, 10, 11, 12, 13, 14, 15, 16, 17, 18, 19, 20, 21, 22, 23, 24, 25, 26, 27, 28, 29, 30, 31, 32, 33, 34, 35, 36, 37, 38, 39, 40, 41, 42, 43, 44, 45, 46, 47, 48, 49, 50, 51, 52, 53, 54, 55, 56, 57, 58, 59, 60, 61, 62, 63], [0, 1, 2, 3, 4, 5, 6, 7, 8, 9, 10, 11, 12, 13, 14, 15, 16, 17, 18, 19, 20, 21, 22, 23, 24, 25, 26, 27, 28, 29, 30, 31, 32, 33, 34, 35, 36, 37, 38, 39, 40, 41, 42, 43, 44, 45, 46, 47, 48, 49, 50, 51, 52, 53, 54, 55, 56, 57, 58, 59, 60, 61, 62, 63, 64], [0, 1, 2, 3, 4, 5, 6, 7, 8, 9, 10, 11, 12, 13, 14, 15, 16, 17, 18, 19, 20, 21, 22, 23, 24, 25, 26, 27, 28, 29, 30, 31, 32, 33, 34, 35, 36, 37, 38, 39, 40, 41, 42, 43, 44, 45, 46, 47, 48, 49, 50, 51, 52, 53, 54, 55, 56, 57, 58, 59, 60, 61, 62, 63, 64, 65], [0, 1, 2, 3, 4, 5, 6, 7, 8, 9, 10, 11, 12, 13, 14, 15, 16, 17, 18, 19, 20, 21, 22, 23, 24, 25, 26, 27, 28, 29, 30, 31, 32, 33, 34, 35, 36, 37, 38, 39, 40, 41, 42, 43, 44, 45, 46, 47, 48, 49, 50, 51, 52, 53, 54, 55, 56, 57, 58, 59, 60, 61, 62, 63, 64, 65, 66], [0, 1, 2, 3, 4, 5, 6, 7, 8, 9, 10, 11, 12, 13, 14, 15, 16, 17, 18, 19, 20, 21, 22, 23, 24, 25, 26, 27, 28, 29, 30, 31, 32, 33, 34, 35, 36, 37, 38, 39, 40, 41, 42, 43, 44, 45, 46, 47, 48, 49, 50, 51, 52, 53, 54, 55, 56, 57, 58, 59, 60, 61, 62, 63, 64, 65, 66, 67], [0, 1, 2, 3, 4, 5, 6, 7, 8, 9, 10, 11, 12, 13, 14, 15, 16, 17, 18, 19, 20, 21, 22, 23, 24, 25, 26, 27, 28, 29, 30, 31, 32, 33, 34, 35, 36, 37, 38, 39, 40, 41, 42, 43, 44, 45, 46, 47, 48, 49, 50, 51, 52, 53, 54, 55, 56, 57, 58, 59, 60, 61, 62, 63, 64, 65, 66, 67, 68], [0, 1, 2, 3, 4, 5, 6, 7, 8, 9, 10, 11, 12, 13, 14, 15, 16, 17, 18, 19, 20, 21, 22, 23, 24, 25, 26, 27, 28, 29, 30, 31, 32, 33, 34, 35, 36, 37, 38, 39, 40, 41, 42, 43, 44, 45, 46, 47, 48, 49, 50, 51, 52, 53, 54, 55, 56, 57, 58, 59, 60, 61, 62, 63, 64, 65, 66, 67, 68, 69]] mixed (ord := (.det 0 (.det 1 (.det 2 (.det 3 (.det 4 (.det 5 (.det 6 (.det 7 (.det 8 (.det 9 (.det 10 (.det 11 (.det 12 (.det 13 (.det 14 (.det 15 (.det 16 (.det 17 (.det 18 (.det 19 (.det 20 (.det 21 (.det 22 (.det 23 (.det 24 (.det 25 (.det 26 (.det 27 (.det 28 (.det 29 (.det 30 (.det 31 (.det 32 (.det 33 (.det 34 (.det 35 (.det 36 (.det 37 (.det 38 (.det 39 (.det 40 (.det 41 (.det 42 (.det 43 (.det 44 (.det 45 (.det 46 (.det 47 (.det 48 (.det 49 (.det 50 (.det 51 (.det 52 (.det 53 (.det 54 (.det 55 (.det 56 (.det 57 (.det 58 (.det 59 (.det 60 (.det 61 (.det 62 (.det 63 (.det 64 (.det 65 (.det 66 (.det 67 (.det 68 (.det 69 (.det 70 .done)))))))))))))))))))))))))))))))))))))))))))))))))))))))))))))))))))))))) (by kernel_rfl) ?_   -- region 11
                            refine hx_det rfl rfl rfl nofun (det_field rfl fd46_0 rfl) rfl ?_
                            refine hx_det rfl rfl rfl nofun (det_load rfl m0 (by rfl) na3 us3) rfl ?_
                            refine hx_det rfl rfl rfl nofun (det_move rfl) rfl ?_
                            refine hx_det rfl rfl rfl nofun (det_move rfl) rfl ?_
                            refine hx_det rfl rfl rfl nofun (det_indexO rfl rfl (ms m0) k11_p8 un36 sz48) rfl ?_
                            refine hx_det rfl rfl rfl nofun (det_fieldO rfl (ms m0) k11_p8 fd48_0 rfl) rfl ?_
                            refine hx_det rfl rfl rfl nofun (det_loadO (off := 0) rfl (ms m0) k11_p8 (by rfl) (by rfl) (loaded_1 na3 us3)) rfl ?_
                            refine hx_det rfl rfl rfl nofun (det_neq rfl rfl) rfl ?_
                            refine hx_det rfl rfl rfl nofun (det_move rfl) rfl ?_
                            refine hx_on rfl rfl rfl rfl rfl hg11_g56 nofun (det_field rfl fd46_1 rfl) rfl ?_
                            refine hx_on rfl rfl rfl rfl rfl hg11_g56 nofun (det_load rfl m0 (by rfl) na3 us3) rfl ?_
                            refine hx_on rfl rfl rfl rfl rfl hg11_g56 nofun (det_field rfl fd46_2 rfl) rfl ?_
                            refine hx_on rfl rfl rfl rfl rfl hg11_g56 nofun (det_load rfl m0 (by rfl) na3 us3) rfl ?_
                            refine hx_on rfl rfl rfl rfl rfl hg11_g56 nofun (det_add rfl rfl) rfl ?_
                            refine hx_on rfl rfl rfl rfl rfl hg11_g56 nofun (det_field rfl fd46_4 rfl) rfl ?_
                            refine hx_on rfl rfl rfl rfl rfl hg11_g56 nofun (det_load rfl m0 (by rfl) na3 us3) rfl ?_
                            refine hx_on rfl rfl rfl rfl rfl hg11_g56 nofun (det_add rfl rfl) rfl ?_
                            refine hx_on rfl rfl rfl rfl rfl hg11_g56 nofun (det_move rfl) rfl ?_
                            refine hx_on rfl rfl rfl rfl rfl hg11_g56 nofun (det_move rfl) rfl ?_
                            refine hx_on rfl rfl rfl rfl rfl hg11_g56 nofun (det_indexO rfl rfl (ms m0) k11_p8 un36 sz48) rfl ?_
                            refine hx_on rfl rfl rfl rfl rfl hg11_g56 nofun (det_fieldO rfl (ms m0) k11_p8 fd48_1 rfl) rfl ?_
                            refine hx_on rfl rfl rfl rfl rfl hg11_g56 nofun (det_loadO (off := 1) rfl (ms m0) k11_p8 (by rfl) (by rfl) (loaded_1 na3 us3)) rfl ?_
                            refine hx_on rfl rfl rfl rfl rfl hg11_g56 nofun (det_neq rfl rfl) rfl ?_
                            refine hx_det rfl rfl rfl nofun (det_pick_off rfl hg11_g56 rfl rfl) rfl ?_
                            refine hx_det rfl rfl rfl nofun (det_move rfl) rfl ?_
                            refine hx_on rfl rfl rfl rfl rfl hg11_g72 nofun (det_field rfl fd46_1 rfl) rfl ?_
                            refine hx_on rfl rfl rfl rfl rfl hg11_g72 nofun (det_load rfl m0 (by rfl) na3 us3) rfl ?_
                            refine hx_on rfl rfl rfl rfl rfl hg11_g72 nofun (det_field rfl fd46_3 rfl) rfl ?_
                            refine hx_on rfl rfl rfl rfl rfl hg11_g72 nofun (det_load rfl m0 (by rfl) na3 us3) rfl ?_
                            refine hx_on rfl rfl rfl rfl rfl hg11_g72 nofun (det_add rfl rfl) rfl ?_
                            refine hx_on rfl rfl rfl rfl rfl hg11_g72 nofun (det_move rfl) rfl ?_
                            refine hx_on rfl rfl rfl rfl rfl hg11_g72 nofun (det_move rfl) rfl ?_
                            refine hx_on rfl rfl rfl rfl rfl hg11_g72 nofun (det_indexO rfl rfl (ms m0) k11_p8 un36 sz48) rfl ?_
                            refine hx_on rfl rfl rfl rfl rfl hg11_g72 nofun (det_fieldO rfl (ms m0) k11_p8 fd48_2 rfl) rfl ?_
                            refine hx_on rfl rfl rfl rfl rfl hg11_g72 nofun (det_loadO (off := 2) rfl (ms m0) k11_p8 (by rfl) (by rfl) (loaded_1 na3 us3)) rfl ?_
                            refine hx_on rfl rfl rfl rfl rfl hg11_g72 nofun (det_neq rfl rfl) rfl ?_
                            refine hx_det rfl rfl rfl nofun (det_pick_off rfl hg11_g72 rfl rfl) rfl ?_
                            refine hx_det rfl rfl rfl nofun (det_move rfl) rfl ?_
                            refine hx_on rfl rfl rfl rfl rfl hg11_g85 nofun (det_field rfl fd46_2 rfl) rfl ?_
                            refine hx_on rfl rfl rfl rfl rfl hg11_g85 nofun (det_load rfl m0 (by rfl) na3 us3) rfl ?_
                            refine hx_on rfl rfl rfl rfl rfl hg11_g85 nofun (det_lss rfl rfl) rfl ?_
                            refine hx_det rfl rfl rfl nofun (det_pick_off rfl hg11_g85 rfl rfl) rfl ?_
                            refine hx_det rfl rfl rfl nofun (det_move rfl) rfl ?_
                            refine hx_on rfl rfl rfl rfl rfl hg11_g90 nofun (det_field rfl fd46_4 rfl) rfl ?_
                            refine hx_on rfl rfl rfl rfl rfl hg11_g90 nofun (det_load rfl m0 (by rfl) na3 us3) rfl ?_
                            refine hx_on rfl rfl rfl rfl rfl hg11_g90 nofun (det_lss rfl rfl) rfl ?_
                            refine hx_det rfl rfl rfl nofun (det_pick_off rfl hg11_g90 rfl rfl) rfl ?_
                            refine hx_det rfl rfl rfl nofun (det_move rfl) rfl ?_
                            refine hx_on rfl rfl rfl rfl rfl hg11_g95 nofun (det_field rfl fd46_3 rfl) rfl ?_
                            refine hx_on rfl rfl rfl rfl rfl hg11_g95 nofun (det_load rfl m0 (by rfl) na3 us3) rfl ?_
                            refine hx_on rfl rfl rfl rfl rfl hg11_g95 nofun (det_lss rfl rfl) rfl ?_
                            refine hx_det rfl rfl rfl nofun (det_pick_off rfl hg11_g95 rfl rfl) rfl ?_
                            refine hx_det rfl rfl rfl nofun (det_move rfl) rfl ?_
                            refine hx_on rfl rfl rfl rfl rfl hg11_g100 nofun (det_field rfl fd46_1 rfl) rfl ?_
                            refine hx_on rfl rfl rfl rfl rfl hg11_g100 nofun (det_load rfl m0 (by rfl) na3 us3) rfl ?_
                            refine hx_on rfl rfl rfl rfl rfl hg11_g100 nofun (det_lss rfl rfl) rfl ?_
                            refine hx_det rfl rfl rfl nofun (det_pick_off rfl hg11_g100 rfl rfl) rfl ?_
                            refine hx_det rfl rfl rfl nofun (det_move rfl) rfl ?_
                            refine hx_on rfl rfl rfl rfl rfl hg11_g105 nofun (det_field rfl fd46_4 rfl) rfl ?_
                            refine hx_on rfl rfl rfl rfl rfl hg11_g105 nofun (det_load rfl m0 (by rfl) na3 us3) rfl ?_
                            refine hx_on rfl rfl rfl rfl rfl hg11_g105 nofun (det_gtr rfl rfl) rfl ?_
                            refine hx_on rfl rfl rfl rfl rfl hg11_g105 nofun (det_move rfl) rfl ?_
                            refine hx_on rfl rfl rfl rfl rfl hg11_g109 nofun (det_move rfl) rfl ?_
                            refine hx_on rfl rfl rfl rfl rfl hg11_g109 nofun (det_neq rfl rfl) rfl ?_
                            refine hx_on rfl rfl rfl rfl rfl hg11_g109 nofun (det_move rfl) rfl ?_
                            refine hx_off rfl rfl rfl rfl rfl hg11_g112 rfl ?_
                            refine hx_off rfl rfl rfl rfl rfl hg11_g112 rfl ?_
                            refine hx_off rfl rfl rfl rfl rfl hg11_g112 rfl ?_
                            refine hx_on rfl rfl rfl rfl rfl hg11_g109 nofun (det_pick_on rfl hg11_g112 rfl rfl) rfl ?_
                            refine hx_on rfl rfl rfl rfl rfl hg11_g105 nofun (det_pick_on rfl hg11_g109 rfl rfl) rfl ?_
                            refine hx_det rfl rfl rfl nofun (det_pick_off rfl hg11_g105 rfl rfl) rfl ?_
                            refine hx_end ?_
                            refine wl_nil ?_
                            replace h := Option.some.inj h
                            subst h
                            exact pn_meetG (true, ()) rfl ⟨rfl, rfl, rfl, rfl, rfl, rfl, rfl, rfl, trivial⟩ (fun _ h => h.to ⟨_, (rs r0), ⟨_, r0, ⟨_, r0, trivial⟩⟩⟩ trivial)
                          · have h := ifF h hg11_g112
                            obtain ⟨k11_p9, h⟩ := chk_some h
                            refine dx_region 71 [[], [0], [], [], [2, 3], [2, 3, 4], [2, 3, 4, 5], [0, 1, 2, 3, 4, 5, 6], [0, 1, 2, 3, 4, 5, 6, 7], [0, 1, 2, 3, 4, 5, 6, 7, 8], [0, 1, 2, 3, 4, 5, 6, 7, 8, 9], [0, 1, 2, 3, 4, 5, 6, 7, 8], [0, 1, 2, 3, 4, 5, 6, 7, 8, 11], [0, 1, 2, 3, 4, 5, 6, 7, 8, 9, 10, 11, 12], [0, 1, 2, 3, 4, 5, 6, 7, 8], [0, 1, 2, 3, 4, 5, 6, 7, 8, 14], [0, 1, 2, 3, 4, 5, 6, 7, 8, 9, 10, 11, 12, 13, 14, 15], [0, 1, 2, 3, 4, 5, 6, 7, 8], [0, 1, 2, 3, 4, 5, 6, 7, 8], [0, 1, 2, 3, 4, 5, 6, 7, 8, 17, 18], [0, 1, 2, 3, 4, 5, 6, 7, 8, 17, 18, 19], [0, 1, 2, 3, 4, 5, 6, 7, 8, 17, 18, 19, 20], [0, 1, 2, 3, 4, 5, 6, 7, 8, 9, 10, 11, 12, 13, 14, 15, 16, 17, 18, 19, 20, 21], [0, 1, 2, 3, 4, 5, 6, 7, 8, 9, 10, 11, 12, 13, 14, 15, 16, 17, 18, 19, 20, 21, 22], [0, 1, 2, 3, 4, 5, 6, 7, 8, 9, 10, 11, 12, 13, 14, 15, 16, 17, 18, 19, 20, 21, 22, 23], [0, 1, 2, 3, 4, 5, 6, 7, 8, 9, 10, 11, 12, 13, 14, 15, 16, 17, 18, 19, 20, 21, 22, 23, 24], [0, 1, 2, 3, 4, 5, 6, 7, 8, 9, 10, 11, 12, 13, 14, 15, 16, 17, 18, 19, 20, 21, 22, 23, 24, 25], [0, 1, 2, 3, 4, 5, 6, 7, 8, 9, 10, 11, 12, 13, 14, 15, 16, 17, 18, 19, 20, 21, 22, 23, 24], [0, 1, 2, 3, 4, 5, 6, 7, 8, 9, 10, 11, 12, 13, 14, 15, 16, 17, 18, 19, 20, 21, 22, 23, 24, 27], [0, 1, 2, 3, 4, 5, 6, 7, 8, 9, 10, 11, 12, 13, 14, 15, 16, 17, 18, 19, 20, 21, 22, 23, 24, 25, 26, 27, 28], [0, 1, 2, 3, 4, 5, 6, 7, 8, 9, 10, 11, 12, 13, 14, 15, 16, 17, 18, 19, 20, 21, 22, 23, 24], [0, 1, 2, 3, 4, 5, 6, 7, 8, 9, 10, 11, 12, 13, 14, 15, 16, 17, 18, 19, 20, 21, 22, 23, 24], [0, 1, 2, 3, 4, 5, 6, 7, 8, 9, 10, 11, 12, 13, 14, 15, 16, 17, 18, 19, 20, 21, 22, 23, 24, 30, 31], [0, 1, 2, 3, 4, 5, 6, 7, 8, 9, 10, 11, 12, 13, 14, 15, 16, 17, 18, 19, 20, 21, 22, 23, 24, 30, 31, 32], [0, 1, 2, 3, 4, 5, 6, 7, 8, 9, 10, 11, 12, 13, 14, 15, 16, 17, 18, 19, 20, 21, 22, 23, 24, 30, 31, 32, 33], [0, 1, 2, 3, 4, 5, 6, 7, 8, 9, 10, 11, 12, 13, 14, 15, 16, 17, 18, 19, 20, 21, 22, 23, 24, 25, 26, 27, 28, 29, 30, 31, 32, 33, 34], [0, 1, 2, 3, 4, 5, 6, 7, 8, 9, 10, 11, 12, 13, 14, 15, 16, 17, 18, 19, 20, 21, 22, 23, 24, 25, 26, 27, 28, 29, 30, 31, 32, 33, 34, 35], [0, 1, 2, 3, 4, 5, 6, 7, 8, 9, 10, 11, 12, 13, 14, 15, 16, 17, 18, 19, 20, 21, 22, 23, 24, 25, 26, 27, 28, 29, 30, 31, 32, 33, 34, 35, 36], [0, 1, 2, 3, 4, 5, 6, 7, 8, 9, 10, 11, 12, 13, 14, 15, 16, 17, 18, 19, 20, 21, 22, 23, 24, 25, 26, 27, 28, 29, 30, 31, 32, 33, 34, 35, 36, 37], [0, 1, 2, 3, 4, 5, 6, 7, 8, 9, 10, 11, 12, 13, 14, 15, 16, 17, 18, 19, 20, 21, 22, 23, 24, 25, 26, 27, 28, 29, 30, 31, 32, 33, 34, 35, 36, 37, 38], [0, 1, 2, 3, 4, 5, 6, 7, 8, 9, 10, 11, 12, 13, 14, 15, 16, 17, 18, 19, 20, 21, 22, 23, 24, 25, 26, 27, 28, 29, 30, 31, 32, 33, 34, 35, 36, 37, 38, 39], [0, 1, 2, 3, 4, 5, 6, 7, 8, 9, 10, 11, 12, 13, 14, 15, 16, 17, 18, 19, 20, 21, 22, 23, 24, 25, 26, 27, 28, 29, 30, 31, 32, 33, 34, 35, 36, 37, 38, 39, 40], [0, 1, 2, 3, 4, 5, 6, 7, 8, 9, 10, 11, 12, 13, 14, 15, 16, 17, 18, 19, 20, 21, 22, 23, 24, 25, 26, 27, 28, 29, 30, 31, 32, 33, 34, 35, 36, 37, 38, 39, 40, 41], [0, 1, 2, 3, 4, 5, 6, 7, 8, 9, 10, 11, 12, 13, 14, 15, 16, 17, 18, 19, 20, 21, 22, 23, 24, 25, 26, 27, 28, 29, 30, 31, 32, 33, 34, 35, 36, 37, 38, 39, 40, 41, 42], [0, 1, 2, 3, 4, 5, 6, 7, 8, 9, 10, 11, 12, 13, 14, 15, 16, 17, 18, 19, 20, 21, 22, 23, 24, 25, 26, 27, 28, 29, 30, 31, 32, 33, 34, 35, 36, 37, 38, 39, 40, 41, 42, 43], [0, 1, 2, 3, 4, 5, 6, 7, 8, 9, 10, 11, 12, 13, 14, 15, 16, 17, 18, 19, 20, 21, 22, 23, 24, 25, 26, 27, 28, 29, 30, 31, 32, 33, 34, 35, 36, 37, 38, 39, 40, 41, 42, 43, 44], [0, 1, 2, 3, 4, 5, 6, 7, 8, 9, 10, 11, 12, 13, 14, 15, 16, 17, 18, 19, 20, 21, 22, 23, 24, 25, 26, 27, 28, 29, 30, 31, 32, 33, 34, 35, 36, 37, 38, 39, 40, 41, 42, 43, 44, 45], [0, 1, 2, 3, 4, 5, 6, 7, 8, 9, 10, 11, 12, 13, 14, 15, 16, 17, 18, 19, 20, 21, 22, 23, 24, 25, 26, 27, 28, 29, 30, 31, 32, 33, 34, 35, 36, 37, 38, 39, 40, 41, 42, 43, 44, 45, 46], [0, 1, 2, 3, 4, 5, 6, 7, 8, 9, 10, 11, 12, 13, 14, 15, 16, 17, 18, 19, 20, 21, 22, 23, 24, 25, 26, 27, 28, 29, 30, 31, 32, 33, 34, 35, 36, 37, 38, 39, 40, 41, 42, 43, 44, 45, 46, 47], [0, 1, 2, 3, 4, 5, 6, 7, 8, 9, 10, 11, 12, 13, 14, 15, 16, 17, 18, 19, 20, 21, 22, 23, 24, 25, 26, 27, 28, 29, 30, 31, 32, 33, 34, 35, 36, 37, 38, 39, 40, 41, 42, 43, 44, 45, 46, 47, 48], [0, 1, 2, 3, 4, 5, 6, 7, 8, 9, 10, 11, 12, 13, 14, 15, 16, 17, 18, 19, 20, 21, 22, 23, 24, 25, 26, 27, 28, 29, 30, 31, 32, 33, 34, 35, 36, 37, 38, 39, 40, 41, 42, 43, 44, 45, 46, 47, 48, 49], [0, 1, 2, 3, 4, 5, 6, 7, 8, 9, 10, 11, 12, 13, 14, 15, 16, 17, 18, 19, 20, 21, 22, 23, 24, 25, 26, 27, 28, 29, 30, 31, 32, 33, 34, 35, 36, 37, 38, 39, 40, 41, 42, 43, 44, 45, 46, 47, 48, 49, 50], [0, 1, 2, 3, 4, 5, 6, 7, 8, 9, 10, 11, 12, 13, 14, 15, 16, 17, 18, 19, 20, 21, 22, 23, 24, 25, 26, 27, 28, 29, 30, 31, 32, 33, 34, 35, 36, 37, 38, 39, 40, 41, 42, 43, 44, 45, 46, 47, 48, 49, 50, 51], [0, 1, 2, 3, 4, 5, 6, 7, 8, 9, 10, 11, 12, 13, 14, 15, 16, 17, 18, 19, 20, 21, 22, 23, 24, 25, 26, 27, 28, 29, 30, 31, 32, 33, 34, 35, 36, 37, 38, 39, 40, 41, 42, 43, 44, 45, 46, 47, 48, 49, 50, 51, 52], [0, 1, 2, 3, 4, 5, 6, 7, 8, 9, 10, 11, 12, 13, 14, 15, 16, 17, 18, 19, 20, 21, 22, 23, 24, 25, 26, 27, 28, 29, 30, 31, 32, 33, 34, 35, 36, 37, 38, 39, 40, 41, 42, 43, 44, 45, 46, 47, 48, 49, 50, 51, 52, 53], [0, 1, 2, 3, 4, 5, 6, 7, 8, 9, 10, 11, 12, 13, 14, 15, 16, 17, 18, 19, 20, 21, 22, 23, 24, 25, 26, 27, 28, 29, 30, 31, 32, 33, 34, 35, 36, 37, 38, 39, 40, 41, 42, 43, 44, 45, 46, 47, 48, 49, 50, 51, 52, 53, 54], [0, 1, 2, 3, 4, 5, 6, 7, 8, 9, 10, 11, 12, 13, 14, 15, 16, 17, 18, 19, 20, 21, 22, 23, 24, 25, 26, 27, 28, 29, 30, 31, 32, 33, 34, 35, 36, 37, 38, 39, 40, 41, 42, 43, 44, 45, 46, 47, 48, 49, 50, 51, 52, 53, 54, 55], [0, 1, 2, 3, 4, 5, 6, 7, 8, 9, 10, 11, 12, 13, 14, 15, 16, 17, 18, 19, 20, 21, 22, 23, 24, 25, 26, 27, 28, 29, 30, 31, 32, 33, 34, 35, 36, 37, 38, 39, 40, 41, 42, 43, 44, 45, 46, 47, 48, 49, 50, 51, 52, 53, 54, 55, 56], [0, 1, 2, 3, 4, 5, 6, 7, 8, 9, 10, 11, 12, 13, 14, 15, 16, 17, 18, 19, 20, 21, 22, 23, 24, 25, 26, 27, 28, 29, 30, 31, 32, 33, 34, 35, 36, 37, 38, 39, 40, 41, 42, 43, 44, 45, 46, 47, 48, 49, 50, 51, 52, 53, 54, 55, 56, 57], [0, 1, 2, 3, 4, 5, 6, 7, 8, 9, 10, 11, 12, 13, 14, 15, 16, 17, 18, 19, 20, 21, 22, 23, 24, 25, 26, 27, 28, 29, 30, 31, 32, 33, 34, 35, 36, 37, 38, 39, 40, 41, 42, 43, 44, 45, 46, 47, 48, 49, 50, 51, 52, 53, 54, 55, 56, 57, 58], [0, 1, 2, 3, 4, 5, 6, 7, 8, 9, 10, 11, 12, 13, 14, 15, 16, 17, 18, 19, 20, 21, 22, 23, 24, 25, 26, 27, 28, 29, 30, 31, 32, 33, 34, 35, 36, 37, 38, 39, 40, 41, 42, 43, 44, 45, 46, 47, 48, 49, 50, 51, 52, 53, 54, 55, 56, 57, 58, 59], [0, 1, 2, 3, 4, 5, 6, 7, 8, 9, 10, 11, 12, 13, 14, 15, 16, 17, 18, 19, 20, 21, 22, 23, 24, 25, 26, 27, 28, 29, 30, 31, 32, 33, 34, 35, 36, 37, 38, 39, 40, 41, 42, 43, 44, 45, 46, 47, 48, 49, 50, 51, 52, 53, 54, 55, 56, 57, 58, 59, 60], [0, 1, 2, 3, 4, 5, 6, 7, 8, 9, 10, 11, 12, 13, 14, 15, 16, 17, 18, 19, 20, 21, 22, 23, 24, 25, 26, 27, 28, 29, 30, 31, 32, 33, 34, 35, 36, 37, 38, 39, 40, 41, 42, 43, 44, 45, 46, 47, 48, 49, 50, 51, 52, 53, 54, 55, 56, 57, 58, 59, 60, 61], [0, 1, 2, 3, 4, 5, 6, 7, 8, 9, 10, 11, 12, 13, 14, 15, 16, 17, 18, 19, 20, 21, 22, 23, 24, 25, 26, 27, 28, 29, 30, 31, 32, 33, 34, 35, 36, 37, 38, 39, 40, 41, 42, 43, 44, 45, 46, 47, 48, 49, 50, 51, 52, 53, 54, 55, 56, 57, 58, 59, 60, 61, 62], [0, 1, 2, 3, 4, 5, 6, 7, 8, 9, 10, 11, 12, 13, 14, 15, 16, 17, 18, 19, 20, 21, 22, 23, 24, 25, 26, 27, 28, 29, 30, 31, 32, 33, 34, 35, 36, 37, 38, 39, 40, 41, 42, 43, 44, 45, 46, 47, 48, 49, 50, 51, 52, 53, 54, 55, 56, 57, 58, 59, 60, 61, 62, 63], [0, 1, 2, 3, 4, 5, 6, 7, 8, 9, 10, 11, 12, 13, 14, 15, 16, 17, 18, 19, 20, 21, 22, 23, 24, 25, 26, 27, 28, 29, 30, 31, 32, 33, 34, 35, 36, 37, 38, 39, 40, 41, 42, 43, 44, 45, 46, 47, 48, 49, 50, 51, 52, 53, 54, 55, 56, 57, 58, 59, 60, 61, 62, 63, 64], [0, 1, 2, 3, 4, 5, 6, 7, 8, 9, 10, 11, 12, 13, 14, 15, 16, 17, 18, 19, 20, 21, 22, 23, 24, 25, 26, 27, 28, 29, 30, 31, 32, 33, 34, 35, 36, 37, 38, 39, 40, 41, 42, 43, 44, 45, 46, 47, 48, 49, 50, 51, 52, 53, 54, 55, 56, 57, 58, 59, 60, 61, 62, 63, 64, 65], [0, 1, 2, 3, 4, 5, 6, 7, 8, 9, 10, 11, 12, 13, 14, 15, 16, 17, 18, 19, 20, 21, 22, 23, 24, 25, 26, 27, 28, 29, 30, 31, 32, 33, 34, 35, 36, 37, 38, 39, 40, 41, 42, 43, 44, 45, 46, 47, 48, 49, 50, 51, 52, 53, 54, 55, 56, 57, 58, 59, 60, 61, 62, 63, 64, 65, 66], [0, 1, 2, 3, 4, 5, 6, 7, 8, 9, 10, 11, 12, 13, 14, 15, 16, 17, 18, 19, 20, 21, 22, 23, 24, 25, 26, 27, 28, 29, 30, 31, 32, 33, 34, 35, 36, 37, 38, 39, 40, 41, 42, 43, 44, 45, 46, 47, 48, 49, 50, 51, 52, 53, 54, 55, 56, 57, 58, 59, 60, 61, 62, 63, 64, 65, 66, 67], [0, 1, 2, 3, 4, 5, 6, 7, 8, 9, 10, 11, 12, 13, 14, 15, 16, 17, 18, 19, 20, 21, 22, 23, 24, 25, 26, 27, 28, 29, 30, 31, 32, 33, 34, 35, 36, 37, 38, 39, 40, 41, 42, 43, 44, 45, 46, 47, 48, 49, 50, 51, 52, 53, 54, 55, 56, 57, 58, 59, 60, 61, 62, 63, 64, 65, 66, 67, 68], [0, 1, 2, 3, 4, 5, 6, 7, 8, 9, 10, 11, 12, 13, 14, 15, 16, 17, 18, 19, 20, 21, 22, 23, 24, 25, 26, 27, 28, 29, 30, 31, 32, 33, 34, 35, 36, 37, 38, 39, 40, 41, 42, 43, 44, 45, 46, 47, 48, 49, 50, 51, 52, 53, 54, 55, 56, 57, 58, 59, 60, 61, 62, 63, 64, 65, 66, 67, 68, 69]] mixed (ord := (.det 0 (.det 1 (.det 2 (.det 3 (.det 4 (.det 5 (.det 6 (.det 7 (.det 8 (.det 9 (.det 10 (.det 11 (.det 12 (.det 13 (.det 14 (.det 15 (.det 16 (.det 17 (.det 18 (.det 19 (.det 20 (.det 21 (.det 22 (.det 23 (.det 24 (.det 25 (.det 26 (.det 27 (.det 28 (.det 29 (.det 30 (.det 31 (.det 32 (.det 33 (.det 34 (.det 35 (.det 36 (.det 37 (.det 38 (.det 39 (.det 40 (.det 41 (.det 42 (.det 43 (.det 44 (.det 45 (.det 46 (.det 47 (.det 48 (.det 49 (.det 50 (.det 51 (.det 52 (.det 53 (.det 54 (.det 55 (.det 56 (.det 57 (.det 58 (.det 59 (.det 60 (.det 61 (.det 62 (.det 63 (.det 64 (.det 65 (.det 66 (.det 67 (.det 68 (.det 69 (.det 70 .done)))))))))))))))))))))))))))))))))))))))))))))))))))))))))))))))))))))))) (by kernel_rfl) ?_   -- region 11
                            refine hx_det rfl rfl rfl nofun (det_field rfl fd46_0 rfl) rfl ?_
                            refine hx_det rfl rfl rfl nofun (det_load rfl m0 (by rfl) na3 us3) rfl ?_
                            refine hx_det rfl rfl rfl nofun (det_move rfl) rfl ?_
                            refine hx_det rfl rfl rfl nofun (det_move rfl) rfl ?_
                            refine hx_det rfl rfl rfl nofun (det_indexO rfl rfl (ms m0) k11_p9 un36 sz48) rfl ?_
                            refine hx_det rfl rfl rfl nofun (det_fieldO rfl (ms m0) k11_p9 fd48_0 rfl) rfl ?_
                            refine hx_det rfl rfl rfl nofun (det_loadO (off := 0) rfl (ms m0) k11_p9 (by rfl) (by rfl) (loaded_1 na3 us3)) rfl ?_
                            refine hx_det rfl rfl rfl nofun (det_neq rfl rfl) rfl ?_
                            refine hx_det rfl rfl rfl nofun (det_move rfl) rfl ?_
                            refine hx_on rfl rfl rfl rfl rfl hg11_g56 nofun (det_field rfl fd46_1 rfl) rfl ?_
                            refine hx_on rfl rfl rfl rfl rfl hg11_g56 nofun (det_load rfl m0 (by rfl) na3 us3) rfl ?_
                            refine hx_on rfl rfl rfl rfl rfl hg11_g56 nofun (det_field rfl fd46_2 rfl) rfl ?_
                            refine hx_on rfl rfl rfl rfl rfl hg11_g56 nofun (det_load rfl m0 (by rfl) na3 us3) rfl ?_
                            refine hx_on rfl rfl rfl rfl rfl hg11_g56 nofun (det_add rfl rfl) rfl ?_
                            refine hx_on rfl rfl rfl rfl rfl hg11_g56 nofun (det_field rfl fd46_4 rfl) rfl ?_
                            refine hx_on rfl rfl rfl rfl rfl hg11_g56 nofun (det_load rfl m0 (by rfl) na3 us3) rfl ?_
                            refine hx_on rfl rfl rfl rfl rfl hg11_g56 nofun (det_add rfl rfl) rfl ?_
                            refine hx_on rfl rfl rfl rfl rfl hg11_g56 nofun (det_move rfl) rfl ?_
                            refine hx_on rfl rfl rfl rfl rfl hg11_g56 nofun (det_move rfl) rfl ?_
                            refine hx_on rfl rfl rfl rfl rfl hg11_g56 nofun (det_indexO rfl rfl (ms m0) k11_p9 un36 sz48) rfl ?_
                            refine hx_on rfl rfl rfl rfl rfl hg11_g56 nofun (det_fieldO rfl (ms m0) k11_p9 fd48_1 rfl) rfl ?_
                            refine hx_on rfl rfl rfl rfl rfl hg11_g56 nofun (det_loadO (off := 1) rfl (ms m0) k11_p9 (by rfl) (by rfl) (loaded_1 na3 us3)) rfl ?_
                            refine hx_on rfl rfl rfl rfl rfl hg11_g56 nofun (det_neq rfl rfl) rfl ?_
                            refine hx_det rfl rfl rfl nofun (det_pick_off rfl hg11_g56 rfl rfl) rfl ?_
                            refine hx_det rfl rfl rfl nofun (det_move rfl) rfl ?_
                            refine hx_on rfl rfl rfl rfl rfl hg11_g72 nofun (det_field rfl fd46_1 rfl) rfl ?_
                            refine hx_on rfl rfl rfl rfl rfl hg11_g72 nofun (det_load rfl m0 (by rfl) na3 us3) rfl ?_
                            refine hx_on rfl rfl rfl rfl rfl hg11_g72 nofun (det_field rfl fd46_3 rfl) rfl ?_
                            refine hx_on rfl rfl rfl rfl rfl hg11_g72 nofun (det_load rfl m0 (by rfl) na3 us3) rfl ?_
                            refine hx_on rfl rfl rfl rfl rfl hg11_g72 nofun (det_add rfl rfl) rfl ?_
                            refine hx_on rfl rfl rfl rfl rfl hg11_g72 nofun (det_move rfl) rfl ?_
                            refine hx_on rfl rfl rfl rfl rfl hg11_g72 nofun (det_move rfl) rfl ?_
                            refine hx_on rfl rfl rfl rfl rfl hg11_g72 nofun (det_indexO rfl rfl (ms m0) k11_p9 un36 sz48) rfl ?_
                            refine hx_on rfl rfl rfl rfl rfl hg11_g72 nofun (det_fieldO rfl (ms m0) k11_p9 fd48_2 rfl) rfl ?_
                            refine hx_on rfl rfl rfl rfl rfl hg11_g72 nofun (det_loadO (off := 2) rfl (ms m0) k11_p9 (by rfl) (by rfl) (loaded_1 na3 us3)) rfl ?_
                            refine hx_on rfl rfl rfl rfl rfl hg11_g72 nofun (det_neq rfl rfl) rfl ?_
                            refine hx_det rfl rfl rfl nofun (det_pick_off rfl hg11_g72 rfl rfl) rfl ?_
                            refine hx_det rfl rfl rfl nofun (det_move rfl) rfl ?_
                            refine hx_on rfl rfl rfl rfl rfl hg11_g85 nofun (det_field rfl fd46_2 rfl) rfl ?_
                            refine hx_on rfl rfl rfl rfl rfl hg11_g85 nofun (det_load rfl m0 (by rfl) na3 us3) rfl ?_
                            refine hx_on rfl rfl rfl rfl rfl hg11_g85 nofun (det_lss rfl rfl) rfl ?_
                            refine hx_det rfl rfl rfl nofun (det_pick_off rfl hg11_g85 rfl rfl) rfl ?_
                            refine hx_det rfl rfl rfl nofun (det_move rfl) rfl ?_
                            refine hx_on rfl rfl rfl rfl rfl hg11_g90 nofun (det_field rfl fd46_4 rfl) rfl ?_
                            refine hx_on rfl rfl rfl rfl rfl hg11_g90 nofun (det_load rfl m0 (by rfl) na3 us3) rfl ?_
                            refine hx_on rfl rfl rfl rfl rfl hg11_g90 nofun (det_lss rfl rfl) rfl ?_
                            refine hx_det rfl rfl rfl nofun (det_pick_off rfl hg11_g90 rfl rfl) rfl ?_
                            refine hx_det rfl rfl rfl nofun (det_move rfl) rfl ?_
                            refine hx_on rfl rfl rfl rfl rfl hg11_g95 nofun (det_field rfl fd46_3 rfl) rfl ?_
                            refine hx_on rfl rfl rfl rfl rfl hg11_g95 nofun (det_load rfl m0 (by rfl) na3 us3) rfl ?_
                            refine hx_on rfl rfl rfl rfl rfl hg11_g95 nofun (det_lss rfl rfl) rfl ?_
                            refine hx_det rfl rfl rfl nofun (det_pick_off rfl hg11_g95 rfl rfl) rfl ?_
                            refine hx_det rfl rfl rfl nofun (det_move rfl) rfl ?_
                            refine hx_on rfl rfl rfl rfl rfl hg11_g100 nofun (det_field rfl fd46_1 rfl) rfl ?_
                            refine hx_on rfl rfl rfl rfl rfl hg11_g100 nofun (det_load rfl m0 (by rfl) na3 us3) rfl ?_
                            refine hx_on rfl rfl rfl rfl rfl hg11_g100 nofun (det_lss rfl rfl) rfl ?_
                            refine hx_det rfl rfl rfl nofun (det_pick_off rfl hg11_g100 rfl rfl) rfl ?_
                            refine hx_det rfl rfl rfl nofun (det_move rfl) rfl ?_
                            refine hx_on rfl rfl rfl rfl rfl hg11_g105 nofun (det_field rfl fd46_4 rfl) rfl ?_
                            refine hx_on rfl rfl rfl rfl rfl hg11_g105 nofun (det_load rfl m0 (by rfl) na3 us3) rfl ?_
                            refine hx_on rfl rfl rfl rfl rfl hg11_g105 nofun (det_gtr rfl rfl) rfl ?_
                            refine hx_on rfl rfl rfl rfl rfl hg11_g105 nofun (det_move rfl) rfl ?_
                            refine hx_on rfl rfl rfl rfl rfl hg11_g109 nofun (det_move rfl) rfl ?_
                            refine hx_on rfl rfl rfl rfl rfl hg11_g109 nofun (det_neq rfl rfl) rfl ?_
                            refine hx_on rfl rfl rfl rfl rfl hg11_g109 nofun (det_move rfl) rfl ?_
                            refine hx_on rfl rfl rfl rfl rfl hg11_g112 nofun (det_field rfl fd46_3 rfl) rfl ?_
                            refine hx_on rfl rfl rfl rfl rfl hg11_g112 nofun (det_load rfl m0 (by rfl) na3 us3) rfl ?_
                            refine hx_on rfl rfl rfl rfl rfl hg11_g112 nofun (det_neq rfl rfl) rfl ?_
                            refine hx_on rfl rfl rfl rfl rfl hg11_g109 nofun (det_pick_off rfl hg11_g112 rfl rfl) rfl ?_
                            refine hx_on rfl rfl rfl rfl rfl hg11_g105 nofun (det_pick_on rfl hg11_g109 rfl rfl) rfl ?_
                            refine hx_det rfl rfl rfl nofun (det_pick_off rfl hg11_g105 rfl rfl) rfl ?_
                            refine hx_end ?_
                            refine wl_nil ?_
                            replace h := Option.some.inj h
                            subst h
                            exact pn_meetG ((!decide ((ix r4_2.1 s22.2).Pays = 0)), ()) rfl ⟨rfl, rfl, rfl, rfl, rfl, rfl, rfl, rfl, trivial⟩ (fun _ h => h.to ⟨_, (rs r0), ⟨_, r0, ⟨_, r0, trivial⟩⟩⟩ trivial)
                        · have h := ifF h hg11_g109
                          obtain ⟨k11_p10, h⟩ := chk_some h
                          refine dx_region 71 [[], [0], [], [], [2, 3], [2, 3, 4], [2, 3, 4, 5], [0, 1, 2, 3, 4, 5, 6], [0, 1, 2, 3, 4, 5, 6, 7], [0, 1, 2, 3, 4, 5, 6, 7, 8], [0, 1, 2, 3, 4, 5, 6, 7, 8, 9], [0, 1, 2, 3, 4, 5, 6, 7, 8], [0, 1, 2, 3, 4, 5, 6, 7, 8, 11], [0, 1, 2, 3, 4, 5, 6, 7, 8, 9, 10, 11, 12], [0, 1, 2, 3, 4, 5, 6, 7, 8], [0, 1, 2, 3, 4, 5, 6, 7, 8, 14], [0, 1, 2, 3, 4, 5, 6, 7, 8, 9, 10, 11, 12, 13, 14, 15], [0, 1, 2, 3, 4, 5, 6, 7, 8], [0, 1, 2, 3, 4, 5, 6, 7, 8], [0, 1, 2, 3, 4, 5, 6, 7, 8, 17, 18], [0, 1, 2, 3, 4, 5, 6, 7, 8, 17, 18, 19], [0, 1, 2, 3, 4, 5, 6, 7, 8, 17, 18, 19, 20], [0, 1, 2, 3, 4, 5, 6, 7, 8, 9, 10, 11, 12, 13, 14, 15, 16, 17, 18, 19, 20, 21], [0, 1, 2, 3, 4, 5, 6, 7, 8, 9, 10, 11, 12, 13, 14, 15, 16, 17, 18, 19, 20, 21, 22], [0, 1, 2, 3, 4, 5, 6, 7, 8, 9, 10, 11, 12, 13, 14, 15, 16, 17, 18, 19, 20, 21, 22, 23], [0, 1, 2, 3, 4, 5, 6, 7, 8, 9, 10, 11, 12, 13, 14, 15, 16, 17, 18, 19, 20, 21, 22, 23, 24], [0, 1, 2, 3, 4, 5, 6, 7, 8, 9, 10, 11, 12, 13, 14, 15, 16, 17, 18, 19, 20, 21, 22, 23, 24, 25], [0, 1, 2, 3, 4, 5, 6, 7, 8, 9, 10, 11, 12, 13, 14, 15, 16, 17, 18, 19, 20, 21, 22, 23, 24], [0, 1, 2, 3, 4, 5, 6, 7, 8, 9, 10, 11, 12, 13, 14, 15, 16, 17, 18, 19, 20, 21, 22, 23, 24, 27], [0, 1, 2, 3, 4, 5, 6, 7, 8, 9, 10, 11, 12, 13, 14, 15, 16, 17, 18, 19, 20, 21, 22, 23, 24, 25, 26, 27, 28], [0, 1, 2, 3, 4, 5, 6, 7, 8, 9, 10, 11, 12, 13, 14, 15, 16, 17, 18, 19, 20, 21, 22, 23, 24], [0, 1, 2, 3, 4, 5, 6, 7, 8, 9, 10, 11, 12, 13, 14, 15, 16, 17, 18, 19, 20, 21, 22, 23, 24], [0, 1, 2, 3, 4, 5, 6, 7, 8, 9, 10, 11, 12, 13, 14, 15, 16, 17, 18, 19, 20, 21, 22, 23, 24, 30, 31], [0, 1, 2, 3, 4, 5, 6, 7, 8, 9, 10, 11, 12, 13, 14, 15, 16, 17, 18, 19, 20, 21, 22, 23, 24, 30, 31, 32], [0, 1, 2, 3, 4, 5, 6, 7, 8, 9, 10, 11, 12, 13, 14, 15, 16, 17, 18, 19, 20, 21, 22, 23, 24, 30, 31, 32, 33], [0, 1, 2, 3, 4, 5, 6, 7, 8, 9, 10, 11, 12, 13, 14, 15, 16, 17, 18, 19, 20, 21, 22, 23, 24, 25, 26, 27, 28, 29, 30, 31, 32, 33, 34], [0, 1, 2, 3, 4, 5, 6, 7, 8, 9, 10, 11, 12, 13, 14, 15, 16, 17, 18, 19, 20, 21, 22, 23, 24, 25, 26, 27, 28, 29, 30, 31, 32, 33, 34, 35], [0, 1, 2, 3, 4, 5, 6, 7, 8, 9, 10, 11, 12, 13, 14, 15, 16, 17, 18, 19, 20, 21, 22, 23, 24, 25, 26, 27, 28, 29, 30, 31, 32, 33, 34, 35, 36], [0, 1, 2, 3, 4, 5, 6, 7, 8, 9, 10, 11, 12, 13, 14, 15, 16, 17, 18, 19, 20, 21, 22, 23, 24, 25, 26, 27, 28, 29, 30, 31, 32, 33, 34, 35, 36, 37], [0, 1, 2, 3, 4, 5, 6, 7, 8, 9, 10, 11, 12, 13, 14, 15, 16, 17, 18, 19, 20, 21, 22, 23, 24, 25, 26, 27, 28, 29, 30, 31, 32, 33, 34, 35, 36, 37, 38], [0, 1, 2, 3, 4, 5, 6, 7, 8, 9, 10, 11, 12, 13, 14, 15, 16, 17, 18, 19, 20, 21, 22, 23, 24, 25, 26, 27, 28, 29, 30, 31, 32, 33, 34, 35, 36, 37, 38, 39], [0, 1, 2, 3, 4, 5, 6, 7, 8, 9, 10, 11, 12, 13, 14, 15, 16, 17, 18, 19, 20, 21, 22, 23, 24, 25, 26, 27, 28, 29, 30, 31, 32, 33, 34, 35, 36, 37, 38, 39, 40], [0, 1, 2, 3, 4, 5, 6, 7, 8, 9, 10, 11, 12, 13, 14, 15, 16, 17, 18, 19, 20, 21, 22, 23, 24, 25, 26, 27, 28, 29, 30, 31, 32, 33, 34, 35, 36, 37, 38, 39, 40, 41], [0, 1, 2, 3, 4, 5, 6, 7, 8, 9, 10, 11, 12, 13, 14, 15, 16, 17, 18, 19, 20, 21, 22, 23, 24, 25, 26, 27, 28, 29, 30, 31, 32, 33, 34, 35, 36, 37, 38, 39, 40, 41, 42], [0, 1, 2, 3, 4, 5, 6, 7, 8, 9, 10, 11, 12, 13, 14, 15, 16, 17, 18, 19, 20, 21, 22, 23, 24, 25, 26, 27, 28, 29, 30, 31, 32, 33, 34, 35, 36, 37, 38, 39, 40, 41, 42, 43], [0, 1, 2, 3, 4, 5, 6, 7, 8, 9, 10, 11, 12, 13, 14, 15, 16, 17, 18, 19, 20, 21, 22, 23, 24, 25, 26, 27, 28, 29, 30, 31, 32, 33, 34, 35, 36, 37, 38, 39, 40, 41, 42, 43, 44], [0, 1, 2, 3, 4, 5, 6, 7, 8, 9, 10, 11, 12, 13, 14, 15, 16, 17, 18, 19, 20, 21, 22, 23, 24, 25, 26, 27, 28, 29, 30, 31, 32, 33, 34, 35, 36, 37, 38, 39, 40, 41, 42, 43, 44, 45], [0, 1, 2, 3, 4, 5, 6, 7, 8, 9, 10, 11, 12, 13, 14, 15, 16, 17, 18, 19, 20, 21, 22, 23, 24, 25, 26, 27, 28, 29, 30, 31, 32, 33, 34, 35, 36, 37, 38, 39, 40, 41, 42, 43, 44, 45, 46], [0, 1, 2, 3, 4, 5, 6, 7, 8, 9, 10, 11, 12, 13, 14, 15, 16, 17, 18, 19, 20, 21, 22, 23, 24, 25, 26, 27, 28, 29, 30, 31, 32, 33, 34, 35, 36, 37, 38, 39, 40, 41, 42, 43, 44, 45, 46, 47], [0, 1, 2, 3, 4, 5, 6, 7, 8, 9, 10, 11, 12, 13, 14, 15, 16, 17, 18, 19, 20, 21, 22, 23, 24, 25, 26, 27, 28, 29, 30, 31, 32, 33, 34, 35, 36, 37, 38, 39, 40, 41, 42, 43, 44, 45, 46, 47, 48], [0, 1, 2, 3, 4, 5, 6, 7, 8, 9, 10, 11, 12, 13, 14, 15, 16, 17, 18, 19, 20, 21, 22, 23, 24, 25, 26, 27, 28, 29, 30, 31, 32, 33, 34, 35, 36, 37, 38, 39, 40, 41, 42, 43, 44, 45, 46, 47, 48, 49], [0, 1, 2, 3, 4, 5, 6, 7, 8, 9, 10, 11, 12, 13, 14, 15, 16, 17, 18, 19, 20, 21, 22, 23, 24, 25, 26, 27, 28, 29, 30, 31, 32, 33, 34, 35, 36, 37, 38, 39, 40, 41, 42, 43, 44, 45, 46, 47, 48, 49, 50], [0, 1, 2, 3, 4, 5, 6, 7, 8, 9, 10, 11, 12, 13, 14, 15, 16, 17, 18, 19, 20, 21, 22, 23, 24, 25, 26, 27, 28, 29, 30, 31, 32, 33, 34, 35, 36, 37, 38, 39, 40, 41, 42, 43, 44, 45, 46, 47, 48, 49, 50, 51], [0, 1, 2, 3, 4, 5, 6, 7, 8, 9, 10, 11, 12, 13, 14, 15, 16, 17, 18, 19, 20, 21, 22, 23, 24, 25, 26, 27, 28, 29, 30, 31, 32, 33, 34, 35, 36, 37, 38, 39, 40, 41, 42, 43, 44, 45, 46, 47, 48, 49, 50, 51, 52], [0, 1, 2, 3, 4, 5, 6, 7, 8, 9, 10, 11, 12, 13, 14, 15, 16, 17, 18, 19, 20, 21, 22, 23, 24, 25, 26, 27, 28, 29, 30, 31, 32, 33, 34, 35, 36, 37, 38, 39, 40, 41, 42, 43, 44, 45, 46, 47, 48, 49, 50, 51, 52, 53], [0, 1, 2, 3, 4, 5, 6, 7, 8, 9, 10, 11, 12, 13, 14, 15, 16, 17, 18, 19, 20, 21, 22, 23, 24, 25, 26, 27, 28, 29, 30, 31, 32, 33, 34, 35, 36, 37, 38, 39, 40, 41, 42, 43, 44, 45, 46, 47, 48, 49, 50, 51, 52, 53, 54], [0, 1, 2, 3, 4, 5, 6, 7, 8, 9, 10, 11, 12, 13, 14, 15, 16, 17, 18, 19, 20, 21, 22, 23, 24, 25, 26, 27, 28, 29, 30, 31, 32, 33, 34, 35, 36, 37, 38, 39, 40, 41, 42, 43, 44, 45, 46, 47, 48, 49, 50, 51, 52, 53, 54, 55], [0, 1, 2, 3, 4, 5, 6, 7, 8, 9, 10, 11, 12, 13, 14, 15, 16, 17, 18, 19, 20, 21, 22, 23, 24, 25, 26, 27, 28, 29, 30, 31, 32, 33, 34, 35, 36, 37, 38, 39, 40, 41, 42, 43, 44, 45, 46, 47, 48, 49, 50, 51, 52, 53, 54, 55, 56], [0, 1, 2, 3, 4, 5, 6, 7, 8, 9, 10, 11, 12, 13, 14, 15, 16, 17, 18, 19, 20, 21, 22, 23, 24, 25, 26, 27, 28, 29, 30, 31, 32, 33, 34, 35, 36, 37, 38, 39, 40, 41, 42, 43, 44, 45, 46, 47, 48, 49, 50, 51, 52, 53, 54, 55, 56, 57], [0, 1, 2, 3, 4, 5, 6, 7, 8, 9, 10, 11, 12, 13, 14, 15, 16, 17, 18, 19, 20, 21, 22, 23, 24, 25, 26, 27, 28, 29, 30, 31, 32, 33, 34, 35, 36, 37, 38, 39, 40, 41, 42, 43, 44, 45, 46, 47, 48, 49, 50, 51, 52, 53, 54, 55, 56, 57, 58], [0, 1, 2, 3, 4, 5, 6, 7, 8, 9, 10, 11, 12, 13, 14, 15, 16, 17, 18, 19, 20, 21, 22, 23, 24, 25, 26, 27, 28, 29, 30, 31, 32, 33, 34, 35, 36, 37, 38, 39, 40, 41, 42, 43, 44, 45, 46, 47, 48, 49, 50, 51, 52, 53, 54, 55, 56, 57, 58, 59], [0, 1, 2, 3, 4, 5, 6, 7, 8, 9, 10, 11, 12, 13, 14, 15, 16, 17, 18, 19, 20, 21, 22, 23, 24, 25, 26, 27, 28, 29, 30, 31, 32, 33, 34, 35, 36, 37, 38, 39, 40, 41, 42, 43, 44, 45, 46, 47, 48, 49, 50, 51, 52, 53, 54, 55, 56, 57, 58, 59, 60], [0, 1, 2, 3, 4, 5, 6, 7, 8, 9, 10, 11, 12, 13, 14, 15, 16, 17, 18, 19, 20, 21, 22, 23, 24, 25, 26, 27, 28, 29, 30, 31, 32, 33, 34, 35, 36, 37, 38, 39, 40, 41, 42, 43, 44, 45, 46, 47, 48, 49, 50, 51, 52, 53, 54, 55, 56, 57, 58, 59, 60, 61], [0, 1, 2, 3, 4, 5, 6, 7, 8, 9, 10, 11, 12, 13, 14, 15, 16, 17, 18, 19, 20, 21, 22, 23, 24, 25, 26, 27, 28, 29, 30, 31, 32, 33, 34, 35, 36, 37, 38, 39, 40, 41, 42, 43, 44, 45, 46, 47, 48, 49, 50, 51, 52, 53, 54, 55, 56, 57, 58, 59, 60, 61, 62], [0, 1, 2, 3, 4, 5, 6, 7, 8, 9, 10, 11, 12, 13, 14, 15, 16, 17, 18, 19, 20, 21, 22, 23, 24, 25, 26, 27, 28, 29, 30, 31, 32, 33, 34, 35, 36, 37, 38, 39, 40, 41, 42, 43, 44, 45, 46, 47, 48, 49, 50, 51, 52, 53, 54, 55, 56, 57, 58, 59, 60, 61, 62, 63], [0, 1, 2, 3, 4, 5, 6, 7, 8, 9, 10, 11, 12, 13, 14, 15, 16, 17, 18, 19, 20, 21, 22, 23, 24, 25, 26, 27, 28, 29, 30, 31, 32, 33, 34, 35, 36, 37, 38, 39, 40, 41, 42, 43, 44, 45, 46, 47, 48, 49, 50, 51, 52, 53, 54, 55, 56, 57, 58, 59, 60, 61, 62, 63, 64], [0, 1, 2, 3, 4, 5, 6, 7, 8, 9, 10, 11, 12, 13, 14, 15, 16, 17, 18, 19, 20, 21, 22, 23, 24, 25, 26, 27, 28, 29, 30, 31, 32, 33, 34, 35, 36, 37, 38, 39, 40, 41, 42, 43, 44, 45, 46, 47, 48, 49, 50, 51, 52, 53, 54, 55, 56, 57, 58, 59, 60, 61, 62, 63, 64, 65], [0, 1, 2, 3, 4, 5, 6, 7, 8, 9, 10, 11, 12, 13, 14, 15, 16, 17, 18, 19, 20, 21, 22, 23, 24, 25, 26, 27, 28, 29, 30, 31, 32, 33, 34, 35, 36, 37, 38, 39, 40, 41, 42, 43, 44, 45, 46, 47, 48, 49, 50, 51, 52, 53, 54, 55, 56, 57, 58, 59, 60, 61, 62, 63, 64, 65, 66], [0, 1, 2, 3, 4, 5, 6, 7, 8, 9, 10, 11, 12, 13, 14, 15, 16, 17, 18, 19, 20, 21, 22, 23, 24, 25, 26, 27, 28, 29, 30, 31, 32, 33, 34, 35, 36, 37, 38, 39, 40, 41, 42, 43, 44, 45, 46, 47, 48, 49, 50, 51, 52, 53, 54, 55, 56, 57, 58, 59, 60, 61, 62, 63, 64, 65, 66, 67], [0, 1, 2, 3, 4, 5, 6, 7, 8, 9, 10, 11, 12, 13, 14, 15, 16, 17, 18, 19, 20, 21, 22, 23, 24, 25, 26, 27, 28, 29, 30, 31, 32, 33, 34, 35, 36, 37, 38, 39, 40, 41, 42, 43, 44, 45, 46, 47, 48, 49, 50, 51, 52, 53, 54, 55, 56, 57, 58, 59, 60, 61, 62, 63, 64, 65, 66, 67, 68], [0, 1, 2, 3, 4, 5, 6, 7, 8, 9, 10, 11, 12, 13, 14, 15, 16, 17, 18, 19, 20, 21, 22, 23, 24, 25, 26, 27, 28, 29, 30, 31, 32, 33, 34, 35, 36, 37, 38, 39, 40, 41, 42, 43, 44, 45, 46, 47, 48, 49, 50, 51, 52, 53, 54, 55, 56, 57, 58, 59, 60, 61, 62, 63, 64, 65, 66, 67, 68, 69]] mixed (ord := (.det 0 (.det 1 (.det 2 (.det 3 (.det 4 (.det 5 (.det 6 (.det 7 (.det 8 (.det 9 (.det 10 (.det 11 (.det 12 (.det 13 (.det 14 (.det 15 (.det 16 (.det 17 (.det 18 (.det 19 (.det 20 (.det 21 (.det 22 (.det 23 (.det 24 (.det 25 (.det 26 (.det 27 (.det 28 (.det 29 (.det 30 (.det 31 (.det 32 (.det 33 (.det 34 (.det 35 (.det 36 (.det 37 (.det 38 (.det 39 (.det 40 (.det 41 (.det 42 (.det 43 (.det 44 (.det 45 (.det 46 (.det 47 (.det 48 (.det 49 (.det 50 (.det 51 (.det 52 (.det 53 (.det 54 (.det 55 (.det 56 (.det 57 (.det 58 (.det 59 (.det 60 (.det 61 (.det 62 (.det 63 (.det 64 (.det 65 (.det 66 (.det 67 (.det 68 (.det 69 (.det 70 .done)))))))))))))))))))))))))))))))))))))))))))))))))))))))))))))))))))))))) (by kernel_rfl) ?_   -- region 11
                          refine hx_det rfl rfl rfl nofun (det_field rfl fd46_0 rfl) rfl ?_
                          refine hx_det rfl rfl rfl nofun (det_load rfl m0 (by rfl) na3 us3) rfl ?_
                          refine hx_det rfl rfl rfl nofun (det_move rfl) rfl ?_
                          refine hx_det rfl rfl rfl nofun (det_move rfl) rfl ?_
                          refine hx_det rfl rfl rfl nofun (det_indexO rfl rfl (ms m0) k11_p10 un36 sz48) rfl ?_
                          refine hx_det rfl rfl rfl nofun (det_fieldO rfl (ms m0) k11_p10 fd48_0 rfl) rfl ?_
                          refine hx_det rfl rfl rfl nofun (det_loadO (off := 0) rfl (ms m0) k11_p10 (by rfl) (by rfl) (loaded_1 na3 us3)) rfl ?_
                          refine hx_det rfl rfl rfl nofun (det_neq rfl rfl) rfl ?_
                          refine hx_det rfl rfl rfl nofun (det_move rfl) rfl ?_
                          refine hx_on rfl rfl rfl rfl rfl hg11_g56 nofun (det_field rfl fd46_1 rfl) rfl ?_
                          refine hx_on rfl rfl rfl rfl rfl hg11_g56 nofun (det_load rfl m0 (by rfl) na3 us3) rfl ?_
                          refine hx_on rfl rfl rfl rfl rfl hg11_g56 nofun (det_field rfl fd46_2 rfl) rfl ?_
                          refine hx_on rfl rfl rfl rfl rfl hg11_g56 nofun (det_load rfl m0 (by rfl) na3 us3) rfl ?_
                          refine hx_on rfl rfl rfl rfl rfl hg11_g56 nofun (det_add rfl rfl) rfl ?_
                          refine hx_on rfl rfl rfl rfl rfl hg11_g56 nofun (det_field rfl fd46_4 rfl) rfl ?_
                          refine hx_on rfl rfl rfl rfl rfl hg11_g56 nofun (det_load rfl m0 (by rfl) na3 us3) rfl ?_
                          refine hx_on rfl rfl rfl rfl rfl hg11_g56 nofun (det_add rfl rfl) rfl ?_
                          refine hx_on rfl rfl rfl rfl rfl hg11_g56 nofun (det_move rfl) rfl ?_
                          refine hx_on rfl rfl rfl rfl rfl hg11_g56 nofun (det_move rfl) rfl ?_
                          refine hx_on rfl rfl rfl rfl rfl hg11_g56 nofun (det_indexO rfl rfl (ms m0) k11_p10 un36 sz48) rfl ?_
                          refine hx_on rfl rfl rfl rfl rfl hg11_g56 nofun (det_fieldO rfl (ms m0) k11_p10 fd48_1 rfl) rfl ?_
                          refine hx_on rfl rfl rfl rfl rfl hg11_g56 nofun (det_loadO (off := 1) rfl (ms m0) k11_p10 (by rfl) (by rfl) (loaded_1 na3 us3)) rfl ?_
                          refine hx_on rfl rfl rfl rfl rfl hg11_g56 nofun (det_neq rfl rfl) rfl ?_
                          refine hx_det rfl rfl rfl nofun (det_pick_off rfl hg11_g56 rfl rfl) rfl ?_
                          refine hx_det rfl rfl rfl nofun (det_move rfl) rfl ?_
                          refine hx_on rfl rfl rfl rfl rfl hg11_g72 nofun (det_field rfl fd46_1 rfl) rfl ?_
                          refine hx_on rfl rfl rfl rfl rfl hg11_g72 nofun (det_load rfl m0 (by rfl) na3 us3) rfl ?_
                          refine hx_on rfl rfl rfl rfl rfl hg11_g72 nofun (det_field rfl fd46_3 rfl) rfl ?_
                          refine hx_on rfl rfl rfl rfl rfl hg11_g72 nofun (det_load rfl m0 (by rfl) na3 us3) rfl ?_
                          refine hx_on rfl rfl rfl rfl rfl hg11_g72 nofun (det_add rfl rfl) rfl ?_
                          refine hx_on rfl rfl rfl rfl rfl hg11_g72 nofun (det_move rfl) rfl ?_
                          refine hx_on rfl rfl rfl rfl rfl hg11_g72 nofun (det_move rfl) rfl ?_
                          refine hx_on rfl rfl rfl rfl rfl hg11_g72 nofun (det_indexO rfl rfl (ms m0) k11_p10 un36 sz48) rfl ?_
                          refine hx_on rfl rfl rfl rfl rfl hg11_g72 nofun (det_fieldO rfl (ms m0) k11_p10 fd48_2 rfl) rfl ?_
                          refine hx_on rfl rfl rfl rfl rfl hg11_g72 nofun (det_loadO (off := 2) rfl (ms m0) k11_p10 (by rfl) (by rfl) (loaded_1 na3 us3)) rfl ?_
                          refine hx_on rfl rfl rfl rfl rfl hg11_g72 nofun (det_neq rfl rfl) rfl ?_
                          refine hx_det rfl rfl rfl nofun (det_pick_off rfl hg11_g72 rfl rfl) rfl ?_
                          refine hx_det rfl rfl rfl nofun (det_move rfl) rfl ?_
                          refine hx_on rfl rfl rfl rfl rfl hg11_g85 nofun (det_field rfl fd46_2 rfl) rfl ?_
                          refine hx_on rfl rfl rfl rfl rfl hg11_g85 nofun (det_load rfl m0 (by rfl) na3 us3) rfl ?_
                          refine hx_on rfl rfl rfl rfl rfl hg11_g85 nofun (det_lss rfl rfl) rfl ?_
                          refine hx_det rfl rfl rfl nofun (det_pick_off rfl hg11_g85 rfl rfl) rfl ?_
                          refine hx_det rfl rfl rfl nofun (det_move rfl) rfl ?_
                          refine hx_on rfl rfl rfl rfl rfl hg11_g90 nofun (det_field rfl fd46_4 rfl) rfl ?_
                          refine hx_on rfl rfl rfl rfl rfl hg11_g90 nofun (det_load rfl m0 (by rfl) na3 us3) rfl ?_
                          refine hx_on rfl rfl rfl rfl rfl hg11_g90 nofun (det_lss rfl rfl) rfl ?_
                          refine hx_det rfl rfl rfl nofun (det_pick_off rfl hg11_g90 rfl rfl) rfl ?_
                          refine hx_det rfl rfl rfl nofun (det_move rfl) rfl ?_
                          refine hx_on rfl rfl rfl rfl rfl hg11_g95 nofun (det_field rfl fd46_3 rfl) rfl ?_
                          refine hx_on rfl rfl rfl rfl rfl hg11_g95 nofun (det_load rfl m0 (by rfl) na3 us3) rfl ?_
                          refine hx_on rfl rfl rfl rfl rfl hg11_g95 nofun (det_lss rfl rfl) rfl ?_
                          refine hx_det rfl rfl rfl nofun (det_pick_off rfl hg11_g95 rfl rfl) rfl ?_
                          refine hx_det rfl rfl rfl nofun (det_move rfl) rfl ?_
                          refine hx_on rfl rfl rfl rfl rfl hg11_g100 nofun (det_field rfl fd46_1 rfl) rfl ?_
                          refine hx_on rfl rfl rfl rfl rfl hg11_g100 nofun (det_load rfl m0 (by rfl) na3 us3) rfl ?_
                          refine hx_on rfl rfl rfl rfl rfl hg11_g100 nofun (det_lss rfl rfl) rfl ?_
                          refine hx_det rfl rfl rfl nofun (det_pick_off rfl hg11_g100 rfl rfl) rfl ?_
                          refine hx_det rfl rfl rfl nofun (det_move rfl) rfl ?_
                          refine hx_on rfl rfl rfl rfl rfl hg11_g105 nofun (det_field rfl fd46_4 rfl) rfl ?_
                          refine hx_on rfl rfl rfl rfl rfl hg11_g105 nofun (det_load rfl m0 (by rfl) na3 us3) rfl ?_
                          refine hx_on rfl rfl rfl rfl rfl hg11_g105 nofun (det_gtr rfl rfl) rfl ?_
                          refine hx_on rfl rfl rfl rfl rfl hg11_g105 nofun (det_move rfl) rfl ?_
                          refine hx_off rfl rfl rfl rfl rfl hg11_g109 rfl ?_
                          refine hx_off rfl rfl rfl rfl rfl hg11_g109 rfl ?_
                          refine hx_off rfl rfl rfl rfl rfl hg11_g109 rfl ?_
                          refine hx_none rfl rfl rfl rfl rfl rfl ?_
                          refine hx_none rfl rfl rfl rfl rfl rfl ?_
                          refine hx_none rfl rfl rfl rfl rfl rfl ?_
                          refine hx_off rfl rfl rfl rfl rfl hg11_g109 rfl ?_
                          refine hx_on rfl rfl rfl rfl rfl hg11_g105 nofun (det_pick_off rfl hg11_g109 rfl rfl) rfl ?_
                          refine hx_det rfl rfl rfl nofun (det_pick_off rfl hg11_g105 rfl rfl) rfl ?_
                          refine hx_end ?_
                          refine wl_nil ?_
                          replace h := Option.some.inj h
                          subst h
                          exact pn_meetG (false, ()) rfl ⟨rfl, rfl, rfl, rfl, rfl, rfl, rfl, rfl, trivial⟩ (fun _ h => h.to ⟨_, (rs r0), ⟨_, r0, ⟨_, r0, trivial⟩⟩⟩ trivial)
        rintro ⟨s33, _⟩ e33
        dsimp only at e33 ⊢
        subst e33
        have h := ho33
        refine wc_cond rfl (fun c35 => ?_) (fun c35 => ?_)
        · have h := ifT h c35
          refine wc_seq ?_
          refine wc_region ?_   -- region 12
          refine wl_det rfl rfl (det_assign rfl) rfl ?_
          refine wl_nil ?_
          refine pn_then ?_
          refine wc_ret ?_
          refine pr_then ?_
          refine pr_block ?_
          refine pr_then ?_
          refine pr_then ?_
          refine pr_block ?_
          refine pr_then ?_
          replace h := Option.some.inj h
          subst h
          replace g22 := nextR g22
          subst g22
          have h := (elimL ho22)
          replace h := Option.some.inj h
          subst h
          have h := (elimR ho18)
          replace h := Option.some.inj h
          subst h
          refine pn_ret (vs := [_]) rfl ⟨rfl, trivial⟩ ⟨rfl, rfl, rfl⟩ (fun _ h => h.to trivial trivial)
        · have h := ifF h c35
          refine wc_skip ?_
          refine pn_then ?_
          refine wc_region ?_   -- region 13
          refine wl_det rfl rfl (det_move rfl) rfl ?_
          refine wl_det rfl rfl (det_field rfl fd46_3 rfl) rfl ?_
          refine wl_det rfl rfl (det_load rfl (ms m0) (by rfl) na3 us3) rfl ?_
          refine wl_det rfl rfl (det_field rfl fd46_2 rfl) rfl ?_
          refine wl_det rfl rfl (det_load rfl (ms m0) (by rfl) na3 us3) rfl ?_
          refine wl_det rfl rfl (det_sub rfl rfl) rfl ?_
          refine wl_det rfl rfl (det_add rfl rfl) rfl ?_
          refine wl_det rfl rfl (det_assign rfl) rfl ?_
          refine wl_nil ?_
          refine pn_block ?_
          refine pn_then ?_
          refine wc_region ?_   -- region 14
          refine wl_det rfl rfl (det_add rfl rfl) rfl ?_
          refine wl_det rfl rfl (det_move rfl) rfl ?_
          refine wl_nil ?_
          replace h := Option.some.inj h
          subst h
          exact pn_some (k22, ((w64 (s22.1 + (w64 ((ix r4_2.1 s22.2).Pays - (ix r4_2.1 s22.2).Gets)))), (w64 (s22.2 + 1))), ()) ⟨nextL g22, Nat.lt_succ_self _⟩ ⟨rfl, rfl, rfl, rfl, rfl, rfl, trivial⟩ (fun _ h => h.to ⟨_, r0, ⟨_, (rs r0), trivial⟩⟩ trivial)
      · have h := ifF h c26
        refine wc_exit ?_
        refine px_then ?_
        refine px_then ?_
        refine px_block ?_
        replace h := Option.some.inj h
        subst h
        replace g22 := nextR g22
        subst g22
        have h := (elimR ho22)
        replace h := Option.some.inj h
        subst h
        exact pn_meetG (s22.1, ()) rfl ⟨rfl, trivial⟩ (fun _ h => h.to trivial trivial)
    rintro ⟨s18, _⟩ e18
    dsimp only at e18 ⊢
    subst e18
    have h := (elimL ho18)
    refine wc_seq ?_
    refine wc_region ?_   -- region 15
    refine wl_det rfl rfl (det_move rfl) rfl ?_
    refine wl_det rfl rfl (det_eql rfl rfl) rfl ?_
    refine wl_det rfl rfl (det_move rfl) rfl ?_
    obtain ⟨q15_4, hq15_4, h⟩ := bind_some h
    have ho15_4 := h
    refine wl_way (decide (s18 = 0)) q15_4 2 131 (fun hg => ?_) (fun hg => ?_) ?_
    · have hg15_4 := hg
      have h := ifT hq15_4 hg
      refine wl_on rfl rfl rfl rfl hg15_4 ?_
      obtain ⟨r15_3, hr15_3, h⟩ := bind_some h
      refine wl_act (act_callS (cap := []) (W_treatylaw38_awake r15_3 hr15_3) rfl rfl rfl bd23 rfl trivial) rfl rfl rfl ?_
      rintro _ _ _ ⟨_, _, ⟨rfl, rfl, rfl⟩, rfl, rfl⟩
      dsimp only [List.nil_append, List.cons_append]
      replace h := Option.some.inj h
      subst h
      refine wl_det rfl rfl (det_pick_on rfl hg15_4 rfl rfl) rfl ?_
      exact wl_nil (pn_qnE (ext_cons rfl (ext_skip rfl (ext_skip rfl ext_refl))) (fun _ h => h))
    · have hg15_4a := hg
      have h := ifF hq15_4 hg
      refine wl_off rfl rfl rfl rfl rfl hg15_4a rfl ?_
      replace h := Option.some.inj h
      subst h
      refine wl_det rfl rfl (det_pick_off rfl hg15_4a rfl rfl) rfl ?_
      exact wl_nil (pn_qnE (ext_cons rfl (ext_skip rfl (ext_skip rfl ext_refl))) (fun _ h => h))
    have h := ho15_4
    refine wl_det rfl rfl (det_assign rfl) rfl ?_
    refine wl_nil ?_
    refine pn_then ?_
    refine wc_ret ?_
    replace h := Option.some.inj h
    subst h
    refine pn_ret (vs := [_]) rfl ⟨rfl, trivial⟩ ⟨rfl, rfl, rfl⟩ (fun _ h => h.to trivial trivial)
end Go.Proofs.Ytoodneljjhbfhaa
