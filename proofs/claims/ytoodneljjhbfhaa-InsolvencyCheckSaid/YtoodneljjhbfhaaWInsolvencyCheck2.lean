/- That functions of the program compute the plain programs of P. Written by a small program. -/
import Derived.Test.YtoodneljjhbfhaaWInsolvencyCheck1
namespace Go.Proofs.Ytoodneljjhbfhaa
open Go.RowKit
def Q_treatyref01_weights (r : Int × Int) : Value → List Ent → List Fact → Prop := fun v θ κ => v = .tuple #[.int .i64 r.1, .int .i64 r.2] ∧ θ = [] ∧ κ = []
theorem plains_treatyref01_weights {r : Int × Int} : ∀ v θ κ, Q_treatyref01_weights r v θ κ → Plains θ := by
  rintro _ _ _ ⟨rfl, rfl, rfl⟩
  exact trivial
set_option maxHeartbeats 4000000 in
set_option maxRecDepth 100000 in
theorem W_treatyref01_weights (a0 : (List Int)) (A0 : Option Addr) (n0 : Nat) (c0 : Nat) (r : Int × Int) (h : treatyref01_weights a0 = some r) : Spec Try.prog 56 [.slice A0 n0 c0] [] [fV (lSlice (lInt .i64)) (.slice A0 n0 c0) a0] (Q_treatyref01_weights r) := by
  unfold treatyref01_weights at h
  refine spec_of (σ := [(0, _)]) Try.func56 rfl rfl rfl rfl ?_
  intro C
  refine wc_know (fun _ h => h.lenF m0) (fun e => ?_)
  subst e
  refine wc_seq ?_
  refine wc_region ?_   -- region 0
  refine wl_det rfl rfl (det_assign rfl) rfl ?_
  refine wl_det rfl rfl (det_assign rfl) rfl ?_
  refine wl_nil ?_
  refine pn_then ?_
  refine wc_seq ?_
  refine wc_region ?_   -- region 1
  refine wl_det rfl rfl (det_assign rfl) rfl ?_
  refine wl_nil ?_
  refine pn_then ?_
  obtain ⟨q4, h, ho4⟩ := bind_some h
  refine wc_meetG (G := Int × Unit) (fun (s4, _) => (.inl s4) = q4) (fun (s4, _) => [(4, .int .i64 s4)]) (fun (_, _) => []) (fun (_, _) => []) ?_ ?_
  · refine wc_seq ?_
    refine wc_region ?_   -- region 2
    refine wl_det rfl rfl (det_assign rfl) rfl ?_
    refine wl_nil ?_
    refine pn_then ?_
    refine wc_block ?_
    obtain ⟨o8, h, ho8⟩ := bind_some h
    obtain ⟨k8, hk8⟩ := loopV_some.1 h
    refine wc_loop (G := Nat × (Int × Int) × Unit) (fun g => IterN (treatyref01_weights_l8 a0) g.1 g.2.1 o8) (fun g => g.1) (fun (_, s8, _) => [(0, .slice A0 a0.length c0), (4, .int .i64 s8.1), (5, .int .i64 s8.2)]) (fun (_, _, _) => []) (fun (_, _, _) => [fV (lSlice (lInt .i64)) (.slice A0 a0.length c0) a0]) (k8, (0, 0), ()) hk8 ⟨rfl, rfl, rfl, trivial⟩ (fun _ h => h.to trivial ⟨m0, trivial⟩) ?_
    rintro ⟨k8, s8, _⟩ hI
    obtain ⟨k8, rfl, q8, h, g8⟩ := IterN.pos hI
    dsimp only at h ⊢
    unfold treatyref01_weights_l8 at h
    refine wc_seq ?_
    refine wc_seq ?_
    refine wc_region ?_   -- region 3
    refine wl_det rfl rfl (det_move rfl) rfl ?_
    refine wl_det rfl rfl (det_move rfl) rfl ?_
    refine wl_det rfl rfl (det_len rfl un22) rfl ?_
    refine wl_det rfl rfl (det_lss rfl rfl) rfl ?_
    refine wl_nil ?_
    refine pn_then ?_
    refine wc_cond rfl (fun c12 => ?_) (fun c12 => ?_)
    · have h := ifT h c12
      refine wc_skip ?_
      refine pn_then ?_
      refine wc_seq ?_
      refine wc_block ?_
      refine wc_seq ?_
      refine wc_seq ?_
      refine wc_region ?_   -- region 5
      refine wl_det rfl rfl (det_move rfl) rfl ?_
      refine wl_det rfl rfl (det_move rfl) rfl ?_
      obtain ⟨k5_2, h⟩ := chk_some h
      refine wl_st (fun _ h => h.openF m0 k5_2) ?_
      refine wl_det rfl rfl (det_indexP rfl rfl (ms m0) k5_2 m0 un22 sz3) rfl ?_
      refine wl_det rfl rfl (det_loadP (off := 0) rfl m0 (by rfl) (by rfl) (loaded_1 na3 us3)) rfl ?_
      refine wl_det rfl rfl (det_lss rfl rfl) rfl ?_
      refine wl_det rfl rfl (det_move rfl) rfl ?_
      refine wl_way (decide ((ix a0 s8.2) < 0)) ((decide ((ix a0 s8.2) < 0)) || (decide (17592186044416 < (ix a0 s8.2)))) 6 23 (fun hg => ?_) (fun hg => ?_) ?_
      · have hg5_11 := hg
        refine wl_off rfl rfl rfl rfl rfl hg5_11 rfl ?_
        refine wl_off rfl rfl rfl rfl rfl hg5_11 rfl ?_
        refine wl_off rfl rfl rfl rfl rfl hg5_11 rfl ?_
        refine wl_off rfl rfl rfl rfl rfl hg5_11 rfl ?_
        refine wl_off rfl rfl rfl rfl rfl hg5_11 rfl ?_
        refine wl_det rfl rfl (det_or_on (r := (decide (17592186044416 < (ix a0 s8.2)))) rfl rfl rfl hg5_11) rfl ?_
        exact wl_nil (pn_qnE (ext_cons rfl (ext_skip rfl (ext_skip rfl (ext_skip rfl (ext_skip rfl (ext_skip rfl (ext_skip rfl ext_refl))))))) (fun _ h => h))
      · have hg5_11a := hg
        refine wl_on rfl rfl rfl rfl hg5_11a ?_
        refine wl_det rfl rfl (det_move rfl) rfl ?_
        refine wl_on rfl rfl rfl rfl hg5_11a ?_
        refine wl_det rfl rfl (det_move rfl) rfl ?_
        refine wl_on rfl rfl rfl rfl hg5_11a ?_
        refine wl_det rfl rfl (det_indexP rfl rfl (ms m0) k5_2 m0 un22 sz3) rfl ?_
        refine wl_on rfl rfl rfl rfl hg5_11a ?_
        refine wl_det rfl rfl (det_loadP (off := 0) rfl m0 (by rfl) (by rfl) (loaded_1 na3 us3)) rfl ?_
        refine wl_on rfl rfl rfl rfl hg5_11a ?_
        refine wl_det rfl rfl (det_gtr rfl rfl) rfl ?_
        refine wl_det rfl rfl (det_or_off rfl rfl rfl hg5_11a) rfl ?_
        exact wl_nil (pn_qnE (ext_cons rfl (ext_skip rfl (ext_skip rfl (ext_skip rfl (ext_skip rfl (ext_skip rfl (ext_skip rfl ext_refl))))))) (fun _ h => h))
      refine wl_nil ?_
      refine pn_then ?_
      refine wc_cond rfl (fun c19 => ?_) (fun c19 => ?_)
      · have h := ifT h c19
        refine wc_seq ?_
        refine wc_region ?_   -- region 6
        refine wl_det rfl rfl (det_assign rfl) rfl ?_
        refine wl_det rfl rfl (det_assign rfl) rfl ?_
        refine wl_nil ?_
        refine pn_then ?_
        refine wc_ret ?_
        refine pr_then ?_
        refine pr_block ?_
        refine pr_then ?_
        refine pr_then ?_
        refine pr_block ?_
        refine pr_then ?_
        replace h := Option.some.inj h
        subst h
        replace g8 := nextR g8
        subst g8
        have h := (elimL ho8)
        replace h := Option.some.inj h
        subst h
        have h := (elimR ho4)
        replace h := Option.some.inj h
        subst h
        refine pn_ret (vs := [_, _]) rfl ⟨rfl, rfl, trivial⟩ ⟨rfl, rfl, rfl⟩ (fun _ h => h.to trivial trivial)
      · have h := ifF h c19
        refine wc_skip ?_
        refine pn_then ?_
        refine wc_region ?_   -- region 7
        refine wl_det rfl rfl (det_move rfl) rfl ?_
        refine wl_det rfl rfl (det_move rfl) rfl ?_
        refine wl_det rfl rfl (det_move rfl) rfl ?_
        refine wl_det rfl rfl (det_indexP rfl rfl (ms m0) k5_2 m0 un22 sz3) rfl ?_
        refine wl_det rfl rfl (det_loadP (off := 0) rfl m0 (by rfl) (by rfl) (loaded_1 na3 us3)) rfl ?_
        refine wl_det rfl rfl (det_add rfl rfl) rfl ?_
        refine wl_det rfl rfl (det_assign rfl) rfl ?_
        refine wl_nil ?_
        refine pn_block ?_
        refine pn_then ?_
        refine wc_region ?_   -- region 4
        refine wl_det rfl rfl (det_move rfl) rfl ?_
        refine wl_det rfl rfl (det_add rfl rfl) rfl ?_
        refine wl_det rfl rfl (det_assign rfl) rfl ?_
        refine wl_nil ?_
        replace h := Option.some.inj h
        subst h
        exact pn_some (k8, ((w64 (s8.1 + (ix a0 s8.2))), (w64 (s8.2 + 1))), ()) ⟨nextL g8, Nat.lt_succ_self _⟩ ⟨rfl, rfl, rfl, trivial⟩ (fun _ h => h.to trivial ⟨(ms m0), trivial⟩)
    · have h := ifF h c12
      refine wc_exit ?_
      refine px_then ?_
      refine px_then ?_
      refine px_block ?_
      replace h := Option.some.inj h
      subst h
      replace g8 := nextR g8
      subst g8
      have h := (elimR ho8)
      replace h := Option.some.inj h
      subst h
      exact pn_meetG (s8.1, ()) rfl ⟨rfl, trivial⟩ (fun _ h => h.to trivial trivial)
  rintro ⟨s4, _⟩ e4
  dsimp only at e4 ⊢
  subst e4
  have h := (elimL ho4)
  refine wc_seq ?_
  refine wc_region ?_   -- region 8
  refine wl_det rfl rfl (det_move rfl) rfl ?_
  refine wl_det rfl rfl (det_assign rfl) rfl ?_
  refine wl_det rfl rfl (det_assign rfl) rfl ?_
  refine wl_nil ?_
  refine pn_then ?_
  refine wc_ret ?_
  replace h := Option.some.inj h
  subst h
  refine pn_ret (vs := [_, _]) rfl ⟨rfl, rfl, trivial⟩ ⟨rfl, rfl, rfl⟩ (fun _ h => h.to trivial trivial)
def Q_treatyref01_Valid (r : Bool) : Value → List Ent → List Fact → Prop := fun v θ κ => v = .bool r ∧ θ = [] ∧ κ = []
theorem plains_treatyref01_Valid {r : Bool} : ∀ v θ κ, Q_treatyref01_Valid r v θ κ → Plains θ := by
  rintro _ _ _ ⟨rfl, rfl, rfl⟩
  exact trivial
set_option maxHeartbeats 4000000 in
set_option maxRecDepth 100000 in
theorem W_treatyref01_Valid (a0 : Int) (r : Bool) (h : treatyref01_Valid a0 = some r) : Spec Try.prog 66 [.int .i64 a0] [] [] (Q_treatyref01_Valid r) := by
  unfold treatyref01_Valid at h
  refine spec_of (σ := [(0, _)]) Try.func66 rfl rfl rfl rfl ?_
  intro C
  refine wc_seq ?_
  refine wc_region ?_   -- region 0
  refine wl_det rfl rfl (det_assign rfl) rfl ?_
  refine wl_nil ?_
  refine pn_then ?_
  refine wc_seq ?_
  refine wc_region ?_   -- region 1
  refine wl_det rfl rfl (det_move rfl) rfl ?_
  refine wl_det rfl rfl (det_geq rfl rfl) rfl ?_
  refine wl_det rfl rfl (det_move rfl) rfl ?_
  refine wl_way (decide ((-17592186044416) ≤ a0)) ((decide ((-17592186044416) ≤ a0)) && (decide (a0 ≤ 17592186044416))) 3 8 (fun hg => ?_) (fun hg => ?_) ?_
  · have hg1_5 := hg
    refine wl_on rfl rfl rfl rfl hg1_5 ?_
    refine wl_det rfl rfl (det_move rfl) rfl ?_
    refine wl_on rfl rfl rfl rfl hg1_5 ?_
    refine wl_det rfl rfl (det_leq rfl rfl) rfl ?_
    refine wl_det rfl rfl (det_and_on rfl rfl rfl hg1_5) rfl ?_
    exact wl_nil (pn_qnE (ext_cons rfl (ext_skip rfl (ext_skip rfl (ext_skip rfl ext_refl)))) (fun _ h => h))
  · have hg1_5a := hg
    refine wl_off rfl rfl rfl rfl rfl hg1_5a rfl ?_
    refine wl_off rfl rfl rfl rfl rfl hg1_5a rfl ?_
    refine wl_det rfl rfl (det_and_off (q := (decide (a0 ≤ 17592186044416))) rfl rfl rfl hg1_5a) rfl ?_
    exact wl_nil (pn_qnE (ext_cons rfl (ext_skip rfl (ext_skip rfl (ext_skip rfl ext_refl)))) (fun _ h => h))
  refine wl_det rfl rfl (det_assign rfl) rfl ?_
  refine wl_nil ?_
  refine pn_then ?_
  refine wc_ret ?_
  replace h := Option.some.inj h
  subst h
  refine pn_ret (vs := [_]) rfl ⟨rfl, trivial⟩ ⟨rfl, rfl, rfl⟩ (fun _ h => h.to trivial trivial)
def Q_treatyref01_Divide (r : Int × Int × Bool) : Value → List Ent → List Fact → Prop := fun v θ κ => v = .tuple #[.int .i64 r.1, .int .i64 r.2.1, .bool r.2.2] ∧ θ = [] ∧ κ = []
theorem plains_treatyref01_Divide {r : Int × Int × Bool} : ∀ v θ κ, Q_treatyref01_Divide r v θ κ → Plains θ := by
  rintro _ _ _ ⟨rfl, rfl, rfl⟩
  exact trivial
set_option maxHeartbeats 4000000 in
set_option maxRecDepth 100000 in
theorem W_treatyref01_Divide (a0 : Int) (a1 : Int) (a2 : Int) (r : Int × Int × Bool) (h : treatyref01_Divide a0 a1 a2 = some r) : Spec Try.prog 67 [.int .i64 a0, .int .i64 a1, .int .i64 a2] [] [] (Q_treatyref01_Divide r) := by
  unfold treatyref01_Divide at h
  refine spec_of (σ := [(0, _), (1, _), (2, _)]) Try.func67 rfl rfl rfl rfl ?_
  intro C
  refine wc_seq ?_
  refine wc_region ?_   -- region 0
  refine wl_det rfl rfl (det_assign rfl) rfl ?_
  refine wl_det rfl rfl (det_assign rfl) rfl ?_
  refine wl_det rfl rfl (det_assign rfl) rfl ?_
  refine wl_nil ?_
  refine pn_then ?_
  refine wc_seq ?_
  refine wc_region ?_   -- region 1
  refine wl_det rfl rfl (det_assign rfl) rfl ?_
  refine wl_det rfl rfl (det_assign rfl) rfl ?_
  refine wl_nil ?_
  refine pn_then ?_
  obtain ⟨q4, h, ho4⟩ := bind_some h
  refine wc_meetG (G := (Int × Int) × Unit) (fun (s4, _) => (.inl s4) = q4) (fun (s4, _) => [(9, .int .i64 s4.1), (10, .int .i64 s4.2)]) (fun (_, _) => []) (fun (_, _) => []) ?_ ?_
  · refine wc_seq ?_
    refine wc_region ?_   -- region 2
    refine wl_det rfl rfl (det_assign rfl) rfl ?_
    refine wl_nil ?_
    refine pn_then ?_
    refine wc_block ?_
    obtain ⟨o8, h, ho8⟩ := bind_some h
    obtain ⟨k8, hk8⟩ := loopV_some.1 h
    refine wc_loop (G := Nat × (Int × Int × Int) × Unit) (fun g => IterN (treatyref01_Divide_l8 a0 a1 a2) g.1 g.2.1 o8) (fun g => g.1) (fun (_, s8, _) => [(0, .int .i64 a0), (1, .int .i64 a1), (2, .int .i64 a2), (9, .int .i64 s8.1), (10, .int .i64 s8.2.1), (11, .int .i64 s8.2.2)]) (fun (_, _, _) => []) (fun (_, _, _) => []) (k8, (0, 0, 45), ()) hk8 ⟨rfl, rfl, rfl, rfl, rfl, rfl, trivial⟩ (fun _ h => h.to trivial trivial) ?_
    rintro ⟨k8, s8, _⟩ hI
    obtain ⟨k8, rfl, q8, h, g8⟩ := IterN.pos hI
    dsimp only at h ⊢
    unfold treatyref01_Divide_l8 at h
    refine wc_seq ?_
    refine wc_seq ?_
    refine wc_region ?_   -- region 3
    refine wl_det rfl rfl (det_move rfl) rfl ?_
    refine wl_det rfl rfl (det_geq rfl rfl) rfl ?_
    refine wl_nil ?_
    refine pn_then ?_
    refine wc_cond rfl (fun c12 => ?_) (fun c12 => ?_)
    · have h := ifT h c12
      refine wc_skip ?_
      refine pn_then ?_
      refine wc_seq ?_
      refine wc_block ?_
      refine wc_seq ?_
      refine wc_region ?_   -- region 5
      refine wl_det rfl rfl (det_move rfl) rfl ?_
      refine wl_det rfl rfl (det_mul rfl rfl) rfl ?_
      refine wl_det rfl rfl (det_move rfl) rfl ?_
      refine wl_det rfl rfl (det_mul rfl rfl) rfl ?_
      refine wl_det rfl rfl (det_assign rfl) rfl ?_
      refine wl_det rfl rfl (det_assign rfl) rfl ?_
      refine wl_nil ?_
      refine pn_then ?_
      obtain ⟨q18, h, ho18⟩ := bind_some h
      refine wc_meetG (G := Int × Unit) (fun (s18, _) => s18 = q18) (fun (s18, _) => [(0, .int .i64 a0), (1, .int .i64 a1), (2, .int .i64 a2), (9, .int .i64 (w64 (2 * s8.1))), (10, .int .i64 s18), (11, .int .i64 s8.2.2)]) (fun (_, _) => []) (fun (_, _) => []) ?_ ?_
      · refine wc_seq ?_
        refine wc_region ?_   -- region 6
        refine wl_det rfl rfl (det_move rfl) rfl ?_
        refine wl_det rfl rfl (det_move rfl) rfl ?_
        refine wl_det rfl rfl (det_conv rfl us3 un54) rfl ?_
        obtain ⟨k6_3, h⟩ := chk_some h
        refine wl_det rfl rfl (det_shr rfl rfl k6_3) rfl ?_
        refine wl_det rfl rfl (det_band rfl rfl) rfl ?_
        refine wl_det rfl rfl (det_eql rfl rfl) rfl ?_
        refine wl_nil ?_
        refine pn_then ?_
        refine wc_cond rfl (fun c21 => ?_) (fun c21 => ?_)
        · have h := ifT h c21
          refine wc_region ?_   -- region 7
          refine wl_det rfl rfl (det_move rfl) rfl ?_
          refine wl_det rfl rfl (det_move rfl) rfl ?_
          refine wl_det rfl rfl (det_add rfl rfl) rfl ?_
          refine wl_det rfl rfl (det_assign rfl) rfl ?_
          refine wl_nil ?_
          replace h := Option.some.inj h
          subst h
          exact pn_meetG ((w64 ((w64 (2 * s8.2.1)) + a1)), ()) rfl ⟨rfl, rfl, rfl, rfl, rfl, rfl, trivial⟩ (fun _ h => h.to trivial trivial)
        · have h := ifF h c21
          refine wc_skip ?_
          replace h := Option.some.inj h
          subst h
          exact pn_meetG ((w64 (2 * s8.2.1)), ()) rfl ⟨rfl, rfl, rfl, rfl, rfl, rfl, trivial⟩ (fun _ h => h.to trivial trivial)
      rintro ⟨s18, _⟩ e18
      dsimp only at e18 ⊢
      subst e18
      have h := ho18
      refine wc_seq ?_
      obtain ⟨k8_p1, h⟩ := chk_some h
      refine dx_region 9 [[], [], [], [1, 2], [0, 1, 2, 3], [], [], [5, 6], [0, 1, 2, 3, 4], [0, 1, 2, 3, 4, 5, 6, 7, 8]] mixed (ord := (.det 0 (.det 1 (.det 2 (.det 3 (.det 4 (.det 5 (.det 6 (.det 7 (.det 8 .done)))))))))) (by kernel_rfl) ?_   -- region 8
      refine hx_det rfl rfl rfl nofun (det_move rfl) rfl ?_
      refine hx_det rfl rfl rfl nofun (det_move rfl) rfl ?_
      refine hx_det rfl rfl rfl nofun (det_move rfl) rfl ?_
      refine hx_det rfl rfl rfl nofun (det_quoB rfl rfl k8_p1) rfl ?_
      refine hx_det rfl rfl rfl nofun (det_add rfl rfl) rfl ?_
      refine hx_det rfl rfl rfl nofun (det_move rfl) rfl ?_
      refine hx_det rfl rfl rfl nofun (det_move rfl) rfl ?_
      refine hx_det rfl rfl rfl nofun (det_remB rfl rfl k8_p1) rfl ?_
      refine hx_det rfl rfl rfl nofun (det_assign rfl) rfl ?_
      refine hx_end ?_
      refine wl_det rfl rfl (det_assign rfl) rfl ?_
      refine wl_nil ?_
      refine pn_then ?_
      refine wc_seq ?_
      refine wc_region ?_   -- region 9
      refine wl_det rfl rfl (det_move rfl) rfl ?_
      refine wl_det rfl rfl (det_gtr rfl rfl) rfl ?_
      refine wl_nil ?_
      refine pn_then ?_
      refine wc_cond rfl (fun c27 => ?_) (fun c27 => ?_)
      · have h := ifT h c27
        refine wc_seq ?_
        refine wc_region ?_   -- region 10
        refine wl_det rfl rfl (det_assign rfl) rfl ?_
        refine wl_det rfl rfl (det_assign rfl) rfl ?_
        refine wl_det rfl rfl (det_assign rfl) rfl ?_
        refine wl_nil ?_
        refine pn_then ?_
        refine wc_ret ?_
        refine pr_block ?_
        refine pr_then ?_
        refine pr_then ?_
        refine pr_block ?_
        refine pr_then ?_
        replace h := Option.some.inj h
        subst h
        replace g8 := nextR g8
        subst g8
        have h := (elimL ho8)
        replace h := Option.some.inj h
        subst h
        have h := (elimR ho4)
        replace h := Option.some.inj h
        subst h
        refine pn_ret (vs := [_, _, _]) rfl ⟨rfl, rfl, rfl, trivial⟩ ⟨rfl, rfl, rfl⟩ (fun _ h => h.to trivial trivial)
      · have h := ifF h c27
        refine wc_skip ?_
        refine pn_block ?_
        refine pn_then ?_
        refine wc_region ?_   -- region 4
        refine wl_det rfl rfl (det_move rfl) rfl ?_
        refine wl_det rfl rfl (det_sub rfl rfl) rfl ?_
        refine wl_det rfl rfl (det_assign rfl) rfl ?_
        refine wl_nil ?_
        replace h := Option.some.inj h
        subst h
        exact pn_some (k8, ((w64 ((w64 (2 * s8.1)) + (w64 (s18.tdiv a2)))), (s18.tmod a2), (w64 (s8.2.2 - 1))), ()) ⟨nextL g8, Nat.lt_succ_self _⟩ ⟨rfl, rfl, rfl, rfl, rfl, rfl, trivial⟩ (fun _ h => h.to trivial trivial)
    · have h := ifF h c12
      refine wc_exit ?_
      refine px_then ?_
      refine px_then ?_
      refine px_block ?_
      replace h := Option.some.inj h
      subst h
      replace g8 := nextR g8
      subst g8
      have h := (elimR ho8)
      replace h := Option.some.inj h
      subst h
      exact pn_meetG ((s8.1, s8.2.1), ()) rfl ⟨rfl, rfl, trivial⟩ (fun _ h => h.to trivial trivial)
  rintro ⟨s4, _⟩ e4
  dsimp only at e4 ⊢
  subst e4
  have h := (elimL ho4)
  refine wc_seq ?_
  refine wc_region ?_   -- region 11
  refine wl_det rfl rfl (det_move rfl) rfl ?_
  refine wl_det rfl rfl (det_move rfl) rfl ?_
  refine wl_det rfl rfl (det_assign rfl) rfl ?_
  refine wl_det rfl rfl (det_assign rfl) rfl ?_
  refine wl_det rfl rfl (det_assign rfl) rfl ?_
  refine wl_nil ?_
  refine pn_then ?_
  refine wc_ret ?_
  replace h := Option.some.inj h
  subst h
  refine pn_ret (vs := [_, _, _]) rfl ⟨rfl, rfl, rfl, trivial⟩ ⟨rfl, rfl, rfl⟩ (fun _ h => h.to trivial trivial)
def Q_treatyref01_Split (r : (List Int) × Int) : Value → List Ent → List Fact → Prop := fun v θ κ => ∃ (pA0 : Option Addr), ∃ (pn0 : Nat), ∃ (pc0 : Nat), v = .tuple #[.slice pA0 pn0 pc0, .int .i64 r.2] ∧ θ = [eS (lInt .i64) 3 pA0 pn0 pc0 r.1] ∧ κ = []
theorem plains_treatyref01_Split {r : (List Int) × Int} : ∀ v θ κ, Q_treatyref01_Split r v θ κ → Plains θ := by
  rintro _ _ _ ⟨_, _, _, rfl, rfl, rfl⟩
  exact ⟨plain_eS, trivial⟩
set_option maxHeartbeats 4000000 in
set_option maxRecDepth 100000 in
theorem W_treatyref01_Split (a0 : Int) (a1 : (List Int)) (A0 : Option Addr) (n0 : Nat) (c0 : Nat) (r : (List Int) × Int) (h : treatyref01_Split a0 a1 = some r) : Spec Try.prog 57 [.int .i64 a0, .slice A0 n0 c0] [] [fV (lSlice (lInt .i64)) (.slice A0 n0 c0) a1] (Q_treatyref01_Split r) := by
  unfold treatyref01_Split at h
  refine spec_of (σ := [(0, _), (1, _)]) Try.func57 rfl rfl rfl rfl ?_
  intro C
  refine wc_know (fun _ h => h.lenF m0) (fun e => ?_)
  subst e
  refine wc_seq ?_
  refine wc_region ?_   -- region 0
  refine wl_det rfl rfl (det_assign rfl) rfl ?_
  refine wl_det rfl rfl (det_assign rfl) rfl ?_
  refine wl_nil ?_
  refine pn_then ?_
  refine wc_seq ?_
  refine wc_seq ?_
  refine wc_region ?_   -- region 1
  refine wl_det rfl rfl (det_move rfl) rfl ?_
  refine wl_det rfl rfl (det_len rfl un22) rfl ?_
  refine wl_det rfl rfl (det_eql rfl rfl) rfl ?_
  refine wl_nil ?_
  refine pn_then ?_
  refine wc_cond rfl (fun c5 => ?_) (fun c5 => ?_)
  · have h := ifT h c5
    refine wc_seq ?_
    refine wc_region ?_   -- region 2
    refine wl_det rfl rfl (det_assign rfl) rfl ?_
    refine wl_det rfl rfl (det_assign rfl) rfl ?_
    refine wl_nil ?_
    refine pn_then ?_
    refine wc_ret ?_
    refine pr_then ?_
    refine pn_st (fun _ h => h.zeroS (lInt .i64) 3 none) ?_
    replace h := Option.some.inj h
    subst h
    refine pn_ret (vs := [_, _]) rfl ⟨rfl, rfl, trivial⟩ ⟨none, 0, 0, rfl, rfl, rfl⟩ (fun _ h => h.to ⟨_, r0, trivial⟩ trivial)
  · have h := ifF h c5
    refine wc_skip ?_
    refine pn_then ?_
    refine wc_seq ?_
    refine wc_seq ?_
    refine wc_region ?_   -- region 3
    refine wl_det rfl rfl (det_move rfl) rfl ?_
    refine wl_det rfl rfl (det_len rfl un22) rfl ?_
    refine wl_det rfl rfl (det_gtr rfl rfl) rfl ?_
    refine wl_nil ?_
    refine pn_then ?_
    refine wc_cond rfl (fun c11 => ?_) (fun c11 => ?_)
    · have h := ifT h c11
      refine wc_seq ?_
      refine wc_region ?_   -- region 4
      refine wl_det rfl rfl (det_assign rfl) rfl ?_
      refine wl_det rfl rfl (det_assign rfl) rfl ?_
      refine wl_nil ?_
      refine pn_then ?_
      refine wc_ret ?_
      refine pr_then ?_
      refine pn_st (fun _ h => h.zeroS (lInt .i64) 3 none) ?_
      replace h := Option.some.inj h
      subst h
      refine pn_ret (vs := [_, _]) rfl ⟨rfl, rfl, trivial⟩ ⟨none, 0, 0, rfl, rfl, rfl⟩ (fun _ h => h.to ⟨_, r0, trivial⟩ trivial)
    · have h := ifF h c11
      refine wc_skip ?_
      refine pn_then ?_
      refine wc_seq ?_
      refine wc_region ?_   -- region 5
      refine wl_det rfl rfl (det_move rfl) rfl ?_
      obtain ⟨r5_1, hr5_1, h⟩ := bind_some h
      refine wl_act (act_callS (cap := []) (W_treatyref01_weights a1 A0 a1.length c0 r5_1 hr5_1) rfl rfl rfl bd56 rfl ⟨m0, trivial⟩) rfl rfl rfl ?_
      rintro _ _ _ ⟨_, _, ⟨rfl, rfl, rfl⟩, rfl, rfl⟩
      dsimp only [List.nil_append, List.cons_append]
      refine wl_det rfl rfl (det_move rfl) rfl ?_
      refine wl_det rfl rfl (det_extract rfl rfl) rfl ?_
      refine wl_det rfl rfl (det_extract rfl rfl) rfl ?_
      refine wl_det rfl rfl (det_assign rfl) rfl ?_
      refine wl_det rfl rfl (det_assign rfl) rfl ?_
      refine wl_nil ?_
      refine pn_then ?_
      refine wc_seq ?_
      refine wc_seq ?_
      refine wc_region ?_   -- region 6
      refine wl_det rfl rfl (det_move rfl) rfl ?_
      refine wl_det rfl rfl (det_neq rfl rfl) rfl ?_
      refine wl_det rfl rfl (det_move rfl) rfl ?_
      obtain ⟨q6_6, hq6_6, h⟩ := bind_some h
      have ho6_6 := h
      refine wl_way (!decide (r5_1.2 = 0)) q6_6 4 33 (fun hg => ?_) (fun hg => ?_) ?_
      · have hg6_6 := hg
        have h := ifT hq6_6 hg
        refine wl_off rfl rfl rfl rfl rfl hg6_6 rfl ?_
        refine wl_off rfl rfl rfl rfl rfl hg6_6 rfl ?_
        refine wl_off rfl rfl rfl rfl rfl hg6_6 rfl ?_
        replace h := Option.some.inj h
        subst h
        refine wl_det rfl rfl (det_pick_on rfl hg6_6 rfl rfl) rfl ?_
        exact wl_nil (pn_qnE (ext_cons rfl (ext_skip rfl (ext_skip rfl (ext_skip rfl (ext_skip rfl ext_refl))))) (fun _ h => h))
      · have hg6_6a := hg
        have h := ifF hq6_6 hg
        refine wl_on rfl rfl rfl rfl hg6_6a ?_
        refine wl_det rfl rfl (det_move rfl) rfl ?_
        refine wl_on rfl rfl rfl rfl hg6_6a ?_
        obtain ⟨r6_4, hr6_4, h⟩ := bind_some h
        refine wl_act (act_callS (cap := []) (W_treatyref01_Valid a0 r6_4 hr6_4) rfl rfl rfl bd66 rfl trivial) rfl rfl rfl ?_
        rintro _ _ _ ⟨_, _, ⟨rfl, rfl, rfl⟩, rfl, rfl⟩
        dsimp only [List.nil_append, List.cons_append]
        refine wl_on rfl rfl rfl rfl hg6_6a ?_
        refine wl_det rfl rfl (det_not rfl) rfl ?_
        replace h := Option.some.inj h
        subst h
        refine wl_det rfl rfl (det_pick_off rfl hg6_6a rfl rfl) rfl ?_
        exact wl_nil (pn_qnE (ext_cons rfl (ext_skip rfl (ext_skip rfl (ext_skip rfl (ext_skip rfl ext_refl))))) (fun _ h => h))
      have h := ho6_6
      refine wl_nil ?_
      refine pn_then ?_
      refine wc_cond rfl (fun c19 => ?_) (fun c19 => ?_)
      · have h := ifT h c19
        refine wc_seq ?_
        refine wc_region ?_   -- region 7
        refine wl_det rfl rfl (det_assign rfl) rfl ?_
        refine wl_det rfl rfl (det_assign rfl) rfl ?_
        refine wl_nil ?_
        refine pn_then ?_
        refine wc_ret ?_
        refine pr_then ?_
        refine pn_st (fun _ h => h.zeroS (lInt .i64) 3 none) ?_
        replace h := Option.some.inj h
        subst h
        refine pn_ret (vs := [_, _]) rfl ⟨rfl, rfl, trivial⟩ ⟨none, 0, 0, rfl, rfl, rfl⟩ (fun _ h => h.to ⟨_, r0, trivial⟩ trivial)
      · have h := ifF h c19
        refine wc_skip ?_
        refine pn_then ?_
        refine wc_seq ?_
        refine wc_seq ?_
        refine wc_region ?_   -- region 8
        refine wl_det rfl rfl (det_move rfl) rfl ?_
        refine wl_det rfl rfl (det_eql rfl rfl) rfl ?_
        refine wl_nil ?_
        refine pn_then ?_
        refine wc_cond rfl (fun c25 => ?_) (fun c25 => ?_)
        · have h := ifT h c25
          refine wc_seq ?_
          refine wc_region ?_   -- region 9
          refine wl_det rfl rfl (det_assign rfl) rfl ?_
          refine wl_det rfl rfl (det_assign rfl) rfl ?_
          refine wl_nil ?_
          refine pn_then ?_
          refine wc_ret ?_
          refine pr_then ?_
          refine pn_st (fun _ h => h.zeroS (lInt .i64) 3 none) ?_
          replace h := Option.some.inj h
          subst h
          refine pn_ret (vs := [_, _]) rfl ⟨rfl, rfl, trivial⟩ ⟨none, 0, 0, rfl, rfl, rfl⟩ (fun _ h => h.to ⟨_, r0, trivial⟩ trivial)
        · have h := ifF h c25
          refine wc_skip ?_
          refine pn_then ?_
          refine wc_seq ?_
          refine wc_region ?_   -- region 10
          refine wl_det rfl rfl (det_move rfl) rfl ?_
          refine wl_det rfl rfl (det_assign rfl) rfl ?_
          refine wl_nil ?_
          refine pn_then ?_
          obtain ⟨q30, h, ho30⟩ := bind_some h
          refine wc_meetG (G := Int × Unit) (fun (s30, _) => s30 = q30) (fun (s30, _) => [(0, .int .i64 a0), (1, .slice A0 a1.length c0), (6, .int .i64 r5_1.1), (8, .int .i64 s30)]) (fun (_, _) => []) (fun (_, _) => [fV (lSlice (lInt .i64)) (.slice A0 a1.length c0) a1]) ?_ ?_
          · refine wc_seq ?_
            refine wc_region ?_   -- region 11
            refine wl_det rfl rfl (det_move rfl) rfl ?_
            refine wl_det rfl rfl (det_lss rfl rfl) rfl ?_
            refine wl_nil ?_
            refine pn_then ?_
            refine wc_cond rfl (fun c33 => ?_) (fun c33 => ?_)
            · have h := ifT h c33
              refine wc_region ?_   -- region 12
              refine wl_det rfl rfl (det_move rfl) rfl ?_
              refine wl_det rfl rfl (det_neg rfl) rfl ?_
              refine wl_det rfl rfl (det_assign rfl) rfl ?_
              refine wl_nil ?_
              replace h := Option.some.inj h
              subst h
              exact pn_meetG ((w64 (0 - a0)), ()) rfl ⟨rfl, rfl, rfl, rfl, trivial⟩ (fun _ h => h.to trivial ⟨m0, trivial⟩)
            · have h := ifF h c33
              refine wc_skip ?_
              replace h := Option.some.inj h
              subst h
              exact pn_meetG (a0, ()) rfl ⟨rfl, rfl, rfl, rfl, trivial⟩ (fun _ h => h.to trivial ⟨m0, trivial⟩)
          rintro ⟨s30, _⟩ e30
          dsimp only at e30 ⊢
          subst e30
          have h := ho30
          obtain ⟨q35, h, ho35⟩ := bind_some h
          refine wc_meetG (G := Unit × Option Addr × Nat × Nat × Option Addr × Nat × Nat × Unit) (fun (s35, _, _, _, _, _, _, _) => s35 = q35) (fun (_, A35_0, n35_0, c35_0, A35_3, n35_3, c35_3, _) => [(0, .int .i64 a0), (1, .slice A0 a1.length c0), (6, .int .i64 r5_1.1), (8, .int .i64 s30), (9, .slice A35_0 n35_0 c35_0), (10, .slice A35_3 n35_3 c35_3)]) (fun (_, A35_0, n35_0, c35_0, A35_3, n35_3, c35_3, _) => [eS (lInt .i64) 3 A35_0 n35_0 c35_0 (List.replicate (a1.length : Int).toNat (0 : Int)), eS (lInt .i64) 3 A35_3 n35_3 c35_3 (List.replicate (a1.length : Int).toNat (0 : Int))]) (fun (_, _, _, _, _, _, _, _) => [fV (lSlice (lInt .i64)) (.slice A0 a1.length c0) a1]) ?_ ?_
          · obtain ⟨k13_p1, h⟩ := chk_some h
            obtain ⟨k13_p2, h⟩ := chk_some h
            refine dx_regionZ (Z := St C [] [_]) 7 [[], [0], [0, 1], [], [3], [3, 4], [0, 1, 2], [0, 1, 2, 3, 4, 5, 6]] mixed (ord := (.det 0 (.det 1 (.det 3 (.det 4 (.alt 2 (.det 6 (.alt 5 .done .dead)) (.alt 5 (.alt 2 (.det 6 .done) .dead) .dead))))))) (by kernel_rfl) (fun _ h => h.to trivial ⟨m0, trivial⟩) ?_   -- region 13
            refine hx_det rfl rfl rfl nofun (det_move rfl) rfl ?_
            refine hx_det rfl rfl rfl nofun (det_len rfl un22) rfl ?_
            refine hx_det rfl rfl rfl nofun (det_move rfl) rfl ?_
            refine hx_det rfl rfl rfl nofun (det_len rfl un22) rfl ?_
            refine hx_or ?_ ?_
            · refine hx_mut rfl rfl rfl (act_makeS (L := (lInt .i64)) (x0 := (0 : Int)) rfl rfl un22 in3 (by refine ⟨rfl, fun _ _ => ?_⟩; first | exact rfl | exact ⟨_, _, _, rfl, rfl, Nat.zero_le _, .inl rfl⟩) rfl rfl k13_p1 (decide_eq_true (Int.le_refl _)) k13_p2) rfl (by rintro _ _ _ ⟨A13_2, c13_2, rfl, rfl, rfl⟩ w hs; exact hs.to trivial ⟨m0, trivial⟩) ?_
              rintro _ _ _ ⟨A13_2, c13_2, rfl, rfl, rfl⟩
              refine hx_det rfl rfl rfl nofun (det_assign rfl) rfl ?_
              refine hx_mut rfl rfl rfl (act_makeS (L := (lInt .i64)) (x0 := (0 : Int)) rfl rfl un22 in3 (by refine ⟨rfl, fun _ _ => ?_⟩; first | exact rfl | exact ⟨_, _, _, rfl, rfl, Nat.zero_le _, .inl rfl⟩) rfl rfl k13_p1 (decide_eq_true (Int.le_refl _)) k13_p2) rfl (by rintro _ _ _ ⟨A13_5, c13_5, rfl, rfl, rfl⟩ w hs; exact hs.to trivial ⟨m0, trivial⟩) ?_
              rintro _ _ _ ⟨A13_5, c13_5, rfl, rfl, rfl⟩
              refine hx_end ?_
              refine wl_det rfl rfl (det_assign rfl) rfl ?_
              refine wl_nil ?_
              replace h := Option.some.inj h
              subst h
              exact pn_meetG ((), A13_2, (List.replicate (a1.length : Int).toNat (0 : Int)).length, c13_2, A13_5, (List.replicate (a1.length : Int).toNat (0 : Int)).length, c13_5, ()) rfl ⟨rfl, rfl, rfl, rfl, rfl, rfl, trivial⟩ (fun _ h => h.to ⟨_, (rs r0), ⟨_, r0, trivial⟩⟩ ⟨m0, trivial⟩)
            refine hx_or ?_ trivial
            refine hx_mut rfl rfl rfl (act_makeS (L := (lInt .i64)) (x0 := (0 : Int)) rfl rfl un22 in3 (by refine ⟨rfl, fun _ _ => ?_⟩; first | exact rfl | exact ⟨_, _, _, rfl, rfl, Nat.zero_le _, .inl rfl⟩) rfl rfl k13_p1 (decide_eq_true (Int.le_refl _)) k13_p2) rfl (by rintro _ _ _ ⟨A13_5, c13_5, rfl, rfl, rfl⟩ w hs; exact hs.to trivial ⟨m0, trivial⟩) ?_
            rintro _ _ _ ⟨A13_5, c13_5, rfl, rfl, rfl⟩
            refine hx_mut rfl rfl rfl (act_makeS (L := (lInt .i64)) (x0 := (0 : Int)) rfl rfl un22 in3 (by refine ⟨rfl, fun _ _ => ?_⟩; first | exact rfl | exact ⟨_, _, _, rfl, rfl, Nat.zero_le _, .inl rfl⟩) rfl rfl k13_p1 (decide_eq_true (Int.le_refl _)) k13_p2) rfl (by rintro _ _ _ ⟨A13_2, c13_2, rfl, rfl, rfl⟩ w hs; exact hs.to trivial ⟨m0, trivial⟩) ?_
            rintro _ _ _ ⟨A13_2, c13_2, rfl, rfl, rfl⟩
            refine hx_det rfl rfl rfl nofun (det_assign rfl) rfl ?_
            refine hx_end ?_
            refine wl_det rfl rfl (det_assign rfl) rfl ?_
            refine wl_nil ?_
            replace h := Option.some.inj h
            subst h
            exact pn_meetG ((), A13_2, (List.replicate (a1.length : Int).toNat (0 : Int)).length, c13_2, A13_5, (List.replicate (a1.length : Int).toNat (0 : Int)).length, c13_5, ()) rfl ⟨rfl, rfl, rfl, rfl, rfl, rfl, trivial⟩ (fun _ h => h.to ⟨_, r0, ⟨_, r0, trivial⟩⟩ ⟨m0, trivial⟩)
          rintro ⟨s35, A35_0, n35_0, c35_0, A35_3, n35_3, c35_3, _⟩ e35
          dsimp only at e35 ⊢
          subst e35
          have h := ho35
          refine wc_know (fun _ h => h.lenO m0) (fun e => ?_)
          subst e
          refine wc_know (fun _ h => h.lenO (ms m0)) (fun e => ?_)
          subst e
          refine wc_seq ?_
          refine wc_region ?_   -- region 14
          refine wl_det rfl rfl (det_move rfl) rfl ?_
          refine wl_det rfl rfl (det_assign rfl) rfl ?_
          refine wl_nil ?_
          refine pn_then ?_
          obtain ⟨q39, h, ho39⟩ := bind_some h
          refine wc_meetG (G := ((List Int) × (List Int) × Int) × Unit) (fun (s39, _) => s39 = q39) (fun (s39, _) => [(0, .int .i64 a0), (1, .slice A0 a1.length c0), (9, .slice A35_0 (List.replicate (a1.length : Int).toNat (0 : Int)).length c35_0), (10, .slice A35_3 (List.replicate (a1.length : Int).toNat (0 : Int)).length c35_3), (11, .int .i64 s39.2.2)]) (fun (s39, _) => [eS (lInt .i64) 3 A35_0 (List.replicate (a1.length : Int).toNat (0 : Int)).length c35_0 s39.1, eS (lInt .i64) 3 A35_3 (List.replicate (a1.length : Int).toNat (0 : Int)).length c35_3 s39.2.1]) (fun (_, _) => [fV (lSlice (lInt .i64)) (.slice A0 a1.length c0) a1]) ?_ ?_
          · refine wc_seq ?_
            refine wc_region ?_   -- region 15
            refine wl_det rfl rfl (det_assign rfl) rfl ?_
            refine wl_nil ?_
            refine pn_then ?_
            refine wc_block ?_
            obtain ⟨k43, hk43⟩ := loopV_some.1 h
            refine wc_loop (G := Nat × ((List Int) × (List Int) × Int × Int) × Unit) (fun g => IterN (treatyref01_Split_l43 a1 r5_1 s30) g.1 g.2.1 q39) (fun g => g.1) (fun (_, s43, _) => [(0, .int .i64 a0), (1, .slice A0 a1.length c0), (6, .int .i64 r5_1.1), (8, .int .i64 s30), (9, .slice A35_0 (List.replicate (a1.length : Int).toNat (0 : Int)).length c35_0), (10, .slice A35_3 (List.replicate (a1.length : Int).toNat (0 : Int)).length c35_3), (11, .int .i64 s43.2.2.1), (12, .int .i64 s43.2.2.2)]) (fun (_, s43, _) => [eS (lInt .i64) 3 A35_0 (List.replicate (a1.length : Int).toNat (0 : Int)).length c35_0 s43.1, eS (lInt .i64) 3 A35_3 (List.replicate (a1.length : Int).toNat (0 : Int)).length c35_3 s43.2.1]) (fun (_, _, _) => [fV (lSlice (lInt .i64)) (.slice A0 a1.length c0) a1]) (k43, ((List.replicate (a1.length : Int).toNat (0 : Int)), (List.replicate (a1.length : Int).toNat (0 : Int)), s30, 0), ()) hk43 ⟨rfl, rfl, rfl, rfl, rfl, rfl, rfl, rfl, trivial⟩ (fun _ h => h.to ⟨_, r0, ⟨_, r0, trivial⟩⟩ ⟨m0, trivial⟩) ?_
            rintro ⟨k43, s43, _⟩ hI
            obtain ⟨k43, rfl, q43, h, g43⟩ := IterN.pos hI
            dsimp only at h ⊢
            unfold treatyref01_Split_l43 at h
            refine wc_seq ?_
            refine wc_seq ?_
            refine wc_region ?_   -- region 16
            refine wl_det rfl rfl (det_move rfl) rfl ?_
            refine wl_det rfl rfl (det_move rfl) rfl ?_
            refine wl_det rfl rfl (det_len rfl un22) rfl ?_
            refine wl_det rfl rfl (det_lss rfl rfl) rfl ?_
            refine wl_nil ?_
            refine pn_then ?_
            refine wc_cond rfl (fun c47 => ?_) (fun c47 => ?_)
            · have h := ifT h c47
              refine wc_skip ?_
              refine pn_then ?_
              refine wc_seq ?_
              refine wc_block ?_
              refine wc_seq ?_
              refine wc_region ?_   -- region 18
              refine wl_det rfl rfl (det_move rfl) rfl ?_
              refine wl_det rfl rfl (det_move rfl) rfl ?_
              refine wl_det rfl rfl (det_move rfl) rfl ?_
              refine wl_det rfl rfl (det_move rfl) rfl ?_
              refine wl_det rfl rfl (det_move rfl) rfl ?_
              refine wl_det rfl rfl (det_move rfl) rfl ?_
              refine wl_det rfl rfl (det_move rfl) rfl ?_
              obtain ⟨k18_7, h⟩ := chk_some h
              refine wl_st (fun _ h => h.openF m0 k18_7) ?_
              refine wl_det rfl rfl (det_indexP rfl rfl (ms m0) k18_7 m0 un22 sz3) rfl ?_
              refine wl_det rfl rfl (det_loadP (off := 0) rfl m0 (by rfl) (by rfl) (loaded_1 na3 us3)) rfl ?_
              refine wl_det rfl rfl (det_move rfl) rfl ?_
              obtain ⟨r18_10, hr18_10, h⟩ := bind_some h
              refine wl_act (act_callS (cap := []) (W_treatyref01_Divide s30 (ix a1 s43.2.2.2) r5_1.1 r18_10 hr18_10) rfl rfl rfl bd67 rfl trivial) rfl rfl rfl ?_
              rintro _ _ _ ⟨_, _, ⟨rfl, rfl, rfl⟩, rfl, rfl⟩
              dsimp only [List.nil_append, List.cons_append]
              refine wl_det rfl rfl (det_move rfl) rfl ?_
              refine wl_det rfl rfl (det_extract rfl rfl) rfl ?_
              refine wl_det rfl rfl (det_extract rfl rfl) rfl ?_
              refine wl_det rfl rfl (det_extract rfl rfl) rfl ?_
              obtain ⟨k18_15, h⟩ := chk_some h
              refine wl_det rfl rfl (det_indexO rfl rfl m0 k18_15 un22 sz3) rfl ?_
              refine wl_act0 (act_storeO (cells := [_]) (off := 0) r18_10.1 rfl rfl rfl s0 k18_15 (by rfl) sz3 (by intro u hu; simp at hu; rcases hu with rfl <;> rfl) (stR_flat rfl rfl)) rfl rfl ?_
              rintro _ _ _ ⟨rfl, rfl⟩
              obtain ⟨k18_17, h⟩ := chk_some h
              refine wl_det rfl rfl (det_indexO rfl rfl (ms m0) k18_17 un22 sz3) rfl ?_
              refine wl_act0 (act_storeO (cells := [_]) (off := 0) r18_10.2.1 rfl rfl rfl (ss s0) k18_17 (by rfl) sz3 (by intro u hu; simp at hu; rcases hu with rfl <;> rfl) (stR_flat rfl rfl)) rfl rfl ?_
              rintro _ _ _ ⟨rfl, rfl⟩
              refine wl_nil ?_
              refine pn_then ?_
              refine wc_region ?_   -- region 19
              refine wl_det rfl rfl (det_move rfl) rfl ?_
              refine wl_det rfl rfl (det_move rfl) rfl ?_
              refine wl_det rfl rfl (det_move rfl) rfl ?_
              obtain ⟨k19_3, h⟩ := chk_some h
              refine wl_det rfl rfl (det_indexO rfl rfl m0 k19_3 un22 sz3) rfl ?_
              refine wl_det rfl rfl (det_loadO (off := 0) rfl m0 k19_3 (by rfl) (by rfl) (loaded_1 na3 us3)) rfl ?_
              refine wl_det rfl rfl (det_sub rfl rfl) rfl ?_
              refine wl_det rfl rfl (det_assign rfl) rfl ?_
              refine wl_nil ?_
              refine pn_block ?_
              refine pn_then ?_
              refine wc_region ?_   -- region 17
              refine wl_det rfl rfl (det_move rfl) rfl ?_
              refine wl_det rfl rfl (det_add rfl rfl) rfl ?_
              refine wl_det rfl rfl (det_assign rfl) rfl ?_
              refine wl_nil ?_
              replace h := Option.some.inj h
              subst h
              exact pn_some (k43, ((upd s43.1 s43.2.2.2 r18_10.1), (upd s43.2.1 s43.2.2.2 r18_10.2.1), (w64 (s43.2.2.1 - (ix (upd s43.1 s43.2.2.2 r18_10.1) s43.2.2.2))), (w64 (s43.2.2.2 + 1))), ()) ⟨nextL g43, Nat.lt_succ_self _⟩ ⟨rfl, rfl, rfl, rfl, rfl, rfl, rfl, rfl, trivial⟩ (fun _ h => h.to ⟨_, r0, ⟨_, r0, trivial⟩⟩ ⟨(ms m0), trivial⟩)
            · have h := ifF h c47
              refine wc_exit ?_
              refine px_then ?_
              refine px_then ?_
              refine px_block ?_
              replace h := Option.some.inj h
              subst h
              replace g43 := nextR g43
              subst g43
              exact pn_meetG ((s43.1, s43.2.1, s43.2.2.1), ()) rfl ⟨rfl, rfl, rfl, rfl, rfl, trivial⟩ (fun _ h => h.to ⟨_, r0, ⟨_, r0, trivial⟩⟩ ⟨m0, trivial⟩)
          rintro ⟨s39, _⟩ e39
          dsimp only at e39 ⊢
          subst e39
          have h := ho39
          obtain ⟨q55, h, ho55⟩ := bind_some h
          refine wc_meetG (G := (List Int) × Unit) (fun (s55, _) => s55 = q55) (fun (_, _) => [(0, .int .i64 a0), (9, .slice A35_0 (List.replicate (a1.length : Int).toNat (0 : Int)).length c35_0)]) (fun (s55, _) => [eS (lInt .i64) 3 A35_0 (List.replicate (a1.length : Int).toNat (0 : Int)).length c35_0 s55]) (fun (_, _) => []) ?_ ?_
          · refine wc_block ?_
            obtain ⟨k57, hk57⟩ := loopV_some.1 h
            refine wc_loop (G := Nat × ((List Int) × (List Int) × Int) × Unit) (fun g => IterN (treatyref01_Split_l57 a1) g.1 g.2.1 q55) (fun g => g.1) (fun (_, s57, _) => [(0, .int .i64 a0), (1, .slice A0 a1.length c0), (9, .slice A35_0 (List.replicate (a1.length : Int).toNat (0 : Int)).length c35_0), (10, .slice A35_3 (List.replicate (a1.length : Int).toNat (0 : Int)).length c35_3), (11, .int .i64 s57.2.2)]) (fun (_, s57, _) => [eS (lInt .i64) 3 A35_0 (List.replicate (a1.length : Int).toNat (0 : Int)).length c35_0 s57.1, eS (lInt .i64) 3 A35_3 (List.replicate (a1.length : Int).toNat (0 : Int)).length c35_3 s57.2.1]) (fun (_, _, _) => [fV (lSlice (lInt .i64)) (.slice A0 a1.length c0) a1]) (k57, (s39.1, s39.2.1, s39.2.2), ()) hk57 ⟨rfl, rfl, rfl, rfl, rfl, trivial⟩ (fun _ h => h.to ⟨_, r0, ⟨_, r0, trivial⟩⟩ ⟨m0, trivial⟩) ?_
            rintro ⟨k57, s57, _⟩ hI
            obtain ⟨k57, rfl, q57, h, g57⟩ := IterN.pos hI
            dsimp only at h ⊢
            unfold treatyref01_Split_l57 at h
            refine wc_seq ?_
            refine wc_seq ?_
            refine wc_region ?_   -- region 20
            refine wl_det rfl rfl (det_move rfl) rfl ?_
            refine wl_det rfl rfl (det_gtr rfl rfl) rfl ?_
            refine wl_nil ?_
            refine pn_then ?_
            refine wc_cond rfl (fun c61 => ?_) (fun c61 => ?_)
            · have h := ifT h c61
              refine wc_skip ?_
              refine pn_then ?_
              obtain ⟨q63, h, ho63⟩ := bind_some h
              refine wc_meetG (G := ((List Int) × (List Int)) × Unit) (fun (s63, _) => s63 = q63) (fun (_, _) => [(0, .int .i64 a0), (1, .slice A0 a1.length c0), (9, .slice A35_0 (List.replicate (a1.length : Int).toNat (0 : Int)).length c35_0), (10, .slice A35_3 (List.replicate (a1.length : Int).toNat (0 : Int)).length c35_3), (11, .int .i64 s57.2.2)]) (fun (s63, _) => [eS (lInt .i64) 3 A35_0 (List.replicate (a1.length : Int).toNat (0 : Int)).length c35_0 s63.1, eS (lInt .i64) 3 A35_3 (List.replicate (a1.length : Int).toNat (0 : Int)).length c35_3 s63.2]) (fun (_, _) => [fV (lSlice (lInt .i64)) (.slice A0 a1.length c0) a1]) ?_ ?_
              · refine wc_block ?_
                refine wc_seq ?_
                refine wc_region ?_   -- region 22
                refine wl_det rfl rfl (det_assign rfl) rfl ?_
                refine wl_nil ?_
                refine pn_then ?_
                obtain ⟨q67, h, ho67⟩ := bind_some h
                refine wc_meetG (G := Int × Unit) (fun (s67, _) => s67 = q67) (fun (s67, _) => [(0, .int .i64 a0), (1, .slice A0 a1.length c0), (9, .slice A35_0 (List.replicate (a1.length : Int).toNat (0 : Int)).length c35_0), (10, .slice A35_3 (List.replicate (a1.length : Int).toNat (0 : Int)).length c35_3), (11, .int .i64 s57.2.2), (13, .int .i64 s67)]) (fun (_, _) => [eS (lInt .i64) 3 A35_0 (List.replicate (a1.length : Int).toNat (0 : Int)).length c35_0 s57.1, eS (lInt .i64) 3 A35_3 (List.replicate (a1.length : Int).toNat (0 : Int)).length c35_3 s57.2.1]) (fun (_, _) => [fV (lSlice (lInt .i64)) (.slice A0 a1.length c0) a1]) ?_ ?_
                · refine wc_seq ?_
                  refine wc_region ?_   -- region 23
                  refine wl_det rfl rfl (det_assign rfl) rfl ?_
                  refine wl_nil ?_
                  refine pn_then ?_
                  refine wc_block ?_
                  obtain ⟨k71, hk71⟩ := loopV_some.1 h
                  refine wc_loop (G := Nat × (Int × Int) × Unit) (fun g => IterN (treatyref01_Split_l71 a1 s57) g.1 g.2.1 q67) (fun g => g.1) (fun (_, s71, _) => [(0, .int .i64 a0), (1, .slice A0 a1.length c0), (9, .slice A35_0 (List.replicate (a1.length : Int).toNat (0 : Int)).length c35_0), (10, .slice A35_3 (List.replicate (a1.length : Int).toNat (0 : Int)).length c35_3), (11, .int .i64 s57.2.2), (13, .int .i64 s71.1), (14, .int .i64 s71.2)]) (fun (_, _, _) => [eS (lInt .i64) 3 A35_0 (List.replicate (a1.length : Int).toNat (0 : Int)).length c35_0 s57.1, eS (lInt .i64) 3 A35_3 (List.replicate (a1.length : Int).toNat (0 : Int)).length c35_3 s57.2.1]) (fun (_, _, _) => [fV (lSlice (lInt .i64)) (.slice A0 a1.length c0) a1]) (k71, (0, 1), ()) hk71 ⟨rfl, rfl, rfl, rfl, rfl, rfl, rfl, trivial⟩ (fun _ h => h.to ⟨_, r0, ⟨_, r0, trivial⟩⟩ ⟨m0, trivial⟩) ?_
                  rintro ⟨k71, s71, _⟩ hI
                  obtain ⟨k71, rfl, q71, h, g71⟩ := IterN.pos hI
                  dsimp only at h ⊢
                  unfold treatyref01_Split_l71 at h
                  refine wc_seq ?_
                  refine wc_seq ?_
                  refine wc_region ?_   -- region 24
                  refine wl_det rfl rfl (det_move rfl) rfl ?_
                  refine wl_det rfl rfl (det_move rfl) rfl ?_
                  refine wl_det rfl rfl (det_len rfl un22) rfl ?_
                  refine wl_det rfl rfl (det_lss rfl rfl) rfl ?_
                  refine wl_nil ?_
                  refine pn_then ?_
                  refine wc_cond rfl (fun c75 => ?_) (fun c75 => ?_)
                  · have h := ifT h c75
                    refine wc_skip ?_
                    refine pn_then ?_
                    obtain ⟨q77, h, ho77⟩ := bind_some h
                    refine wc_meetG (G := Int × Unit) (fun (s77, _) => s77 = q77) (fun (s77, _) => [(0, .int .i64 a0), (1, .slice A0 a1.length c0), (9, .slice A35_0 (List.replicate (a1.length : Int).toNat (0 : Int)).length c35_0), (10, .slice A35_3 (List.replicate (a1.length : Int).toNat (0 : Int)).length c35_3), (11, .int .i64 s57.2.2), (13, .int .i64 s77), (14, .int .i64 s71.2)]) (fun (_, _) => [eS (lInt .i64) 3 A35_0 (List.replicate (a1.length : Int).toNat (0 : Int)).length c35_0 s57.1, eS (lInt .i64) 3 A35_3 (List.replicate (a1.length : Int).toNat (0 : Int)).length c35_3 s57.2.1]) (fun (_, _) => [fV (lSlice (lInt .i64)) (.slice A0 a1.length c0) a1]) ?_ ?_
                    · refine wc_block ?_
                      refine wc_seq ?_
                      obtain ⟨k26_p1, h⟩ := chk_some h
                      obtain ⟨k26_p2, h⟩ := chk_some h
                      refine dx_region 9 [[], [], [0, 1], [0, 1, 2], [], [], [4, 5], [4, 5, 6], [0, 1, 2, 3, 4, 5, 6, 7]] mixed (ord := (.det 0 (.det 1 (.det 2 (.det 3 (.det 4 (.det 5 (.det 6 (.det 7 (.det 8 .done)))))))))) (by kernel_rfl) ?_   -- region 26
                      refine hx_det rfl rfl rfl nofun (det_move rfl) rfl ?_
                      refine hx_det rfl rfl rfl nofun (det_move rfl) rfl ?_
                      refine hx_det rfl rfl rfl nofun (det_indexO rfl rfl (ms m0) k26_p1 un22 sz3) rfl ?_
                      refine hx_det rfl rfl rfl nofun (det_loadO (off := 0) rfl (ms m0) k26_p1 (by rfl) (by rfl) (loaded_1 na3 us3)) rfl ?_
                      refine hx_det rfl rfl rfl nofun (det_move rfl) rfl ?_
                      refine hx_det rfl rfl rfl nofun (det_move rfl) rfl ?_
                      refine hx_det rfl rfl rfl nofun (det_indexO rfl rfl (ms m0) k26_p2 un22 sz3) rfl ?_
                      refine hx_det rfl rfl rfl nofun (det_loadO (off := 0) rfl (ms m0) k26_p2 (by rfl) (by rfl) (loaded_1 na3 us3)) rfl ?_
                      refine hx_det rfl rfl rfl nofun (det_gtr rfl rfl) rfl ?_
                      refine hx_end ?_
                      refine wl_nil ?_
                      refine pn_then ?_
                      refine wc_cond rfl (fun c81 => ?_) (fun c81 => ?_)
                      · have h := ifT h c81
                        refine wc_region ?_   -- region 27
                        refine wl_det rfl rfl (det_move rfl) rfl ?_
                        refine wl_det rfl rfl (det_assign rfl) rfl ?_
                        refine wl_nil ?_
                        refine pn_block ?_
                        replace h := Option.some.inj h
                        subst h
                        exact pn_meetG (s71.2, ()) rfl ⟨rfl, rfl, rfl, rfl, rfl, rfl, rfl, trivial⟩ (fun _ h => h.to ⟨_, r0, ⟨_, r0, trivial⟩⟩ ⟨m0, trivial⟩)
                      · have h := ifF h c81
                        refine wc_skip ?_
                        refine pn_block ?_
                        replace h := Option.some.inj h
                        subst h
                        exact pn_meetG (s71.1, ()) rfl ⟨rfl, rfl, rfl, rfl, rfl, rfl, rfl, trivial⟩ (fun _ h => h.to ⟨_, r0, ⟨_, r0, trivial⟩⟩ ⟨m0, trivial⟩)
                    rintro ⟨s77, _⟩ e77
                    dsimp only at e77 ⊢
                    subst e77
                    have h := ho77
                    refine wc_region ?_   -- region 25
                    refine wl_det rfl rfl (det_move rfl) rfl ?_
                    refine wl_det rfl rfl (det_add rfl rfl) rfl ?_
                    refine wl_det rfl rfl (det_assign rfl) rfl ?_
                    refine wl_nil ?_
                    replace h := Option.some.inj h
                    subst h
                    exact pn_some (k71, (s77, (w64 (s71.2 + 1))), ()) ⟨nextL g71, Nat.lt_succ_self _⟩ ⟨rfl, rfl, rfl, rfl, rfl, rfl, rfl, trivial⟩ (fun _ h => h.to ⟨_, r0, ⟨_, r0, trivial⟩⟩ ⟨m0, trivial⟩)
                  · have h := ifF h c75
                    refine wc_exit ?_
                    refine px_then ?_
                    refine px_then ?_
                    refine px_block ?_
                    replace h := Option.some.inj h
                    subst h
                    replace g71 := nextR g71
                    subst g71
                    exact pn_meetG (s71.1, ()) rfl ⟨rfl, rfl, rfl, rfl, rfl, rfl, trivial⟩ (fun _ h => h.to ⟨_, r0, ⟨_, r0, trivial⟩⟩ ⟨m0, trivial⟩)
                rintro ⟨s67, _⟩ e67
                dsimp only at e67 ⊢
                subst e67
                have h := ho67
                refine wc_region ?_   -- region 28
                refine wl_det rfl rfl (det_move rfl) rfl ?_
                refine wl_det rfl rfl (det_move rfl) rfl ?_
                refine wl_det rfl rfl (det_move rfl) rfl ?_
                refine wl_det rfl rfl (det_move rfl) rfl ?_
                refine wl_det rfl rfl (det_move rfl) rfl ?_
                refine wl_det rfl rfl (det_move rfl) rfl ?_
                obtain ⟨k28_6, h⟩ := chk_some h
                refine wl_det rfl rfl (det_indexO rfl rfl m0 k28_6 un22 sz3) rfl ?_
                refine wl_det rfl rfl (det_loadO (off := 0) rfl m0 k28_6 (by rfl) (by rfl) (loaded_1 na3 us3)) rfl ?_
                refine wl_det rfl rfl (det_add rfl rfl) rfl ?_
                refine wl_det rfl rfl (det_indexO rfl rfl m0 k28_6 un22 sz3) rfl ?_
                refine wl_act0 (act_storeO (cells := [_]) (off := 0) (w64 ((ix s57.1 s67) + 1)) rfl rfl rfl s0 k28_6 (by rfl) sz3 (by intro u hu; simp at hu; rcases hu with rfl <;> rfl) (stR_flat rfl rfl)) rfl rfl ?_
                rintro _ _ _ ⟨rfl, rfl⟩
                obtain ⟨k28_11, h⟩ := chk_some h
                refine wl_det rfl rfl (det_indexO rfl rfl (ms m0) k28_11 un22 sz3) rfl ?_
                refine wl_act0 (act_storeO (cells := [_]) (off := 0) (-1) rfl rfl rfl (ss s0) k28_11 (by rfl) sz3 (by intro u hu; simp at hu; rcases hu with rfl <;> rfl) (stR_flat rfl rfl)) rfl rfl ?_
                rintro _ _ _ ⟨rfl, rfl⟩
                refine wl_nil ?_
                refine pn_block ?_
                replace h := Option.some.inj h
                subst h
                exact pn_meetG (((upd s57.1 s67 (w64 ((ix s57.1 s67) + 1))), (upd s57.2.1 s67 (-1))), ()) rfl ⟨rfl, rfl, rfl, rfl, rfl, trivial⟩ (fun _ h => h.to ⟨_, r0, ⟨_, r0, trivial⟩⟩ ⟨m0, trivial⟩)
              rintro ⟨s63, _⟩ e63
              dsimp only at e63 ⊢
              subst e63
              have h := ho63
              refine wc_region ?_   -- region 21
              refine wl_det rfl rfl (det_move rfl) rfl ?_
              refine wl_det rfl rfl (det_sub rfl rfl) rfl ?_
              refine wl_det rfl rfl (det_assign rfl) rfl ?_
              refine wl_nil ?_
              replace h := Option.some.inj h
              subst h
              exact pn_some (k57, (s63.1, s63.2, (w64 (s57.2.2 - 1))), ()) ⟨nextL g57, Nat.lt_succ_self _⟩ ⟨rfl, rfl, rfl, rfl, rfl, trivial⟩ (fun _ h => h.to ⟨_, r0, ⟨_, r0, trivial⟩⟩ ⟨m0, trivial⟩)
            · have h := ifF h c61
              refine wc_exit ?_
              refine px_then ?_
              refine px_then ?_
              refine px_block ?_
              replace h := Option.some.inj h
              subst h
              replace g57 := nextR g57
              subst g57
              exact pn_meetG (s57.1, ()) rfl ⟨rfl, rfl, trivial⟩ (fun _ h => h.to ⟨_, r0, trivial⟩ trivial)
          rintro ⟨s55, _⟩ e55
          dsimp only at e55 ⊢
          subst e55
          have h := ho55
          obtain ⟨q86, h, ho86⟩ := bind_some h
          refine wc_meetG (G := (List Int) × Unit) (fun (s86, _) => s86 = q86) (fun (_, _) => [(9, .slice A35_0 (List.replicate (a1.length : Int).toNat (0 : Int)).length c35_0)]) (fun (s86, _) => [eS (lInt .i64) 3 A35_0 (List.replicate (a1.length : Int).toNat (0 : Int)).length c35_0 s86]) (fun (_, _) => []) ?_ ?_
          · refine wc_seq ?_
            refine wc_region ?_   -- region 29
            refine wl_det rfl rfl (det_move rfl) rfl ?_
            refine wl_det rfl rfl (det_lss rfl rfl) rfl ?_
            refine wl_nil ?_
            refine pn_then ?_
            refine wc_cond rfl (fun c89 => ?_) (fun c89 => ?_)
            · have h := ifT h c89
              refine wc_seq ?_
              refine wc_region ?_   -- region 30
              refine wl_det rfl rfl (det_assign rfl) rfl ?_
              refine wl_nil ?_
              refine pn_then ?_
              refine wc_block ?_
              obtain ⟨k93, hk93⟩ := loopV_some.1 h
              refine wc_loop (G := Nat × ((List Int) × Int) × Unit) (fun g => IterN (treatyref01_Split_l93 a1) g.1 g.2.1 q86) (fun g => g.1) (fun (_, s93, _) => [(9, .slice A35_0 (List.replicate (a1.length : Int).toNat (0 : Int)).length c35_0), (15, .int .i64 s93.2)]) (fun (_, s93, _) => [eS (lInt .i64) 3 A35_0 (List.replicate (a1.length : Int).toNat (0 : Int)).length c35_0 s93.1]) (fun (_, _, _) => []) (k93, (s55, 0), ()) hk93 ⟨rfl, rfl, trivial⟩ (fun _ h => h.to ⟨_, r0, trivial⟩ trivial) ?_
              rintro ⟨k93, s93, _⟩ hI
              obtain ⟨k93, rfl, q93, h, g93⟩ := IterN.pos hI
              dsimp only at h ⊢
              unfold treatyref01_Split_l93 at h
              refine wc_seq ?_
              refine wc_seq ?_
              refine wc_region ?_   -- region 31
              refine wl_det rfl rfl (det_move rfl) rfl ?_
              refine wl_det rfl rfl (det_move rfl) rfl ?_
              refine wl_det rfl rfl (det_len rfl un22) rfl ?_
              refine wl_det rfl rfl (det_lss rfl rfl) rfl ?_
              refine wl_nil ?_
              refine pn_then ?_
              refine wc_cond rfl (fun c97 => ?_) (fun c97 => ?_)
              · have h := ifT h c97
                refine wc_skip ?_
                refine pn_then ?_
                refine wc_seq ?_
                refine wc_block ?_
                refine wc_region ?_   -- region 33
                refine wl_det rfl rfl (det_move rfl) rfl ?_
                refine wl_det rfl rfl (det_move rfl) rfl ?_
                refine wl_det rfl rfl (det_move rfl) rfl ?_
                refine wl_det rfl rfl (det_move rfl) rfl ?_
                obtain ⟨k33_4, h⟩ := chk_some h
                refine wl_det rfl rfl (det_indexO rfl rfl m0 k33_4 un22 sz3) rfl ?_
                refine wl_det rfl rfl (det_loadO (off := 0) rfl m0 k33_4 (by rfl) (by rfl) (loaded_1 na3 us3)) rfl ?_
                refine wl_det rfl rfl (det_neg rfl) rfl ?_
                refine wl_det rfl rfl (det_indexO rfl rfl m0 k33_4 un22 sz3) rfl ?_
                refine wl_act0 (act_storeO (cells := [_]) (off := 0) (w64 (0 - (ix s93.1 s93.2))) rfl rfl rfl s0 k33_4 (by rfl) sz3 (by intro u hu; simp at hu; rcases hu with rfl <;> rfl) (stR_flat rfl rfl)) rfl rfl ?_
                rintro _ _ _ ⟨rfl, rfl⟩
                refine wl_nil ?_
                refine pn_block ?_
                refine pn_then ?_
                refine wc_region ?_   -- region 32
                refine wl_det rfl rfl (det_move rfl) rfl ?_
                refine wl_det rfl rfl (det_add rfl rfl) rfl ?_
                refine wl_det rfl rfl (det_assign rfl) rfl ?_
                refine wl_nil ?_
                replace h := Option.some.inj h
                subst h
                exact pn_some (k93, ((upd s93.1 s93.2 (w64 (0 - (ix s93.1 s93.2)))), (w64 (s93.2 + 1))), ()) ⟨nextL g93, Nat.lt_succ_self _⟩ ⟨rfl, rfl, trivial⟩ (fun _ h => h.to ⟨_, r0, trivial⟩ trivial)
              · have h := ifF h c97
                refine wc_exit ?_
                refine px_then ?_
                refine px_then ?_
                refine px_block ?_
                replace h := Option.some.inj h
                subst h
                replace g93 := nextR g93
                subst g93
                exact pn_meetG (s93.1, ()) rfl ⟨rfl, trivial⟩ (fun _ h => h.to ⟨_, r0, trivial⟩ trivial)
            · have h := ifF h c89
              refine wc_skip ?_
              replace h := Option.some.inj h
              subst h
              exact pn_meetG (s55, ()) rfl ⟨rfl, trivial⟩ (fun _ h => h.to ⟨_, r0, trivial⟩ trivial)
          rintro ⟨s86, _⟩ e86
          dsimp only at e86 ⊢
          subst e86
          have h := ho86
          refine wc_seq ?_
          refine wc_region ?_   -- region 34
          refine wl_det rfl rfl (det_move rfl) rfl ?_
          refine wl_det rfl rfl (det_assign rfl) rfl ?_
          refine wl_det rfl rfl (det_assign rfl) rfl ?_
          refine wl_nil ?_
          refine pn_then ?_
          refine wc_ret ?_
          replace h := Option.some.inj h
          subst h
          refine pn_ret (vs := [_, _]) rfl ⟨rfl, rfl, trivial⟩ ⟨A35_0, (List.replicate (a1.length : Int).toNat (0 : Int)).length, c35_0, rfl, rfl, rfl⟩ (fun _ h => h.to ⟨_, r0, trivial⟩ trivial)
def Q_treatyref01_Reduce (r : (List Int) × Int) : Value → List Ent → List Fact → Prop := fun v θ κ => ∃ (pA0 : Option Addr), ∃ (pn0 : Nat), ∃ (pc0 : Nat), v = .tuple #[.slice pA0 pn0 pc0, .int .i64 r.2] ∧ θ = [eS (lInt .i64) 3 pA0 pn0 pc0 r.1] ∧ κ = []
theorem plains_treatyref01_Reduce {r : (List Int) × Int} : ∀ v θ κ, Q_treatyref01_Reduce r v θ κ → Plains θ := by
  rintro _ _ _ ⟨_, _, _, rfl, rfl, rfl⟩
  exact ⟨plain_eS, trivial⟩
set_option maxHeartbeats 4000000 in
set_option maxRecDepth 100000 in
theorem W_treatyref01_Reduce (a0 : (List Int)) (a1 : Int) (A0 : Option Addr) (n0 : Nat) (c0 : Nat) (r : (List Int) × Int) (h : treatyref01_Reduce a0 a1 = some r) : Spec Try.prog 49 [.slice A0 n0 c0, .int .i64 a1] [] [fV (lSlice (lInt .i64)) (.slice A0 n0 c0) a0] (Q_treatyref01_Reduce r) := by
  unfold treatyref01_Reduce at h
  refine spec_of (σ := [(0, _), (1, _)]) Try.func49 rfl rfl rfl rfl ?_
  intro C
  refine wc_know (fun _ h => h.lenF m0) (fun e => ?_)
  subst e
  refine wc_seq ?_
  refine wc_region ?_   -- region 0
  refine wl_det rfl rfl (det_assign rfl) rfl ?_
  refine wl_det rfl rfl (det_assign rfl) rfl ?_
  refine wl_nil ?_
  refine pn_then ?_
  refine wc_seq ?_
  refine wc_seq ?_
  refine wc_region ?_   -- region 1
  refine wl_det rfl rfl (det_move rfl) rfl ?_
  refine wl_det rfl rfl (det_len rfl un22) rfl ?_
  refine wl_det rfl rfl (det_gtr rfl rfl) rfl ?_
  refine wl_nil ?_
  refine pn_then ?_
  refine wc_cond rfl (fun c5 => ?_) (fun c5 => ?_)
  · have h := ifT h c5
    refine wc_seq ?_
    refine wc_region ?_   -- region 2
    refine wl_det rfl rfl (det_assign rfl) rfl ?_
    refine wl_det rfl rfl (det_assign rfl) rfl ?_
    refine wl_nil ?_
    refine pn_then ?_
    refine wc_ret ?_
    refine pr_then ?_
    refine pn_st (fun _ h => h.zeroS (lInt .i64) 3 none) ?_
    replace h := Option.some.inj h
    subst h
    refine pn_ret (vs := [_, _]) rfl ⟨rfl, rfl, trivial⟩ ⟨none, 0, 0, rfl, rfl, rfl⟩ (fun _ h => h.to ⟨_, r0, trivial⟩ trivial)
  · have h := ifF h c5
    refine wc_skip ?_
    refine pn_then ?_
    refine wc_seq ?_
    refine wc_region ?_   -- region 3
    refine wl_det rfl rfl (det_move rfl) rfl ?_
    obtain ⟨r3_1, hr3_1, h⟩ := bind_some h
    refine wl_act (act_callS (cap := []) (W_treatyref01_weights a0 A0 a0.length c0 r3_1 hr3_1) rfl rfl rfl bd56 rfl ⟨m0, trivial⟩) rfl rfl rfl ?_
    rintro _ _ _ ⟨_, _, ⟨rfl, rfl, rfl⟩, rfl, rfl⟩
    dsimp only [List.nil_append, List.cons_append]
    refine wl_det rfl rfl (det_move rfl) rfl ?_
    refine wl_det rfl rfl (det_extract rfl rfl) rfl ?_
    refine wl_det rfl rfl (det_extract rfl rfl) rfl ?_
    refine wl_det rfl rfl (det_assign rfl) rfl ?_
    refine wl_det rfl rfl (det_assign rfl) rfl ?_
    refine wl_nil ?_
    refine pn_then ?_
    refine wc_seq ?_
    refine wc_seq ?_
    refine wc_region ?_   -- region 4
    refine wl_det rfl rfl (det_move rfl) rfl ?_
    refine wl_det rfl rfl (det_neq rfl rfl) rfl ?_
    refine wl_det rfl rfl (det_move rfl) rfl ?_
    refine wl_way (!decide (r3_1.2 = 0)) ((!decide (r3_1.2 = 0)) || (decide (a1 < 0))) 3 21 (fun hg => ?_) (fun hg => ?_) ?_
    · have hg4_5 := hg
      refine wl_off rfl rfl rfl rfl rfl hg4_5 rfl ?_
      refine wl_off rfl rfl rfl rfl rfl hg4_5 rfl ?_
      refine wl_det rfl rfl (det_or_on (r := (decide (a1 < 0))) rfl rfl rfl hg4_5) rfl ?_
      exact wl_nil (pn_qnE (ext_cons rfl (ext_skip rfl (ext_skip rfl (ext_skip rfl ext_refl)))) (fun _ h => h))
    · have hg4_5a := hg
      refine wl_on rfl rfl rfl rfl hg4_5a ?_
      refine wl_det rfl rfl (det_move rfl) rfl ?_
      refine wl_on rfl rfl rfl rfl hg4_5a ?_
      refine wl_det rfl rfl (det_lss rfl rfl) rfl ?_
      refine wl_det rfl rfl (det_or_off rfl rfl rfl hg4_5a) rfl ?_
      exact wl_nil (pn_qnE (ext_cons rfl (ext_skip rfl (ext_skip rfl (ext_skip rfl ext_refl)))) (fun _ h => h))
    refine wl_det rfl rfl (det_move rfl) rfl ?_
    refine wl_way ((!decide (r3_1.2 = 0)) || (decide (a1 < 0))) (((!decide (r3_1.2 = 0)) || (decide (a1 < 0))) || (decide (17592186044416 < a1))) 3 25 (fun hg => ?_) (fun hg => ?_) ?_
    · have hg4_9 := hg
      refine wl_off rfl rfl rfl rfl rfl hg4_9 rfl ?_
      refine wl_off rfl rfl rfl rfl rfl hg4_9 rfl ?_
      refine wl_det rfl rfl (det_or_on (r := (decide (17592186044416 < a1))) rfl rfl rfl hg4_9) rfl ?_
      exact wl_nil (pn_qnE (ext_cons rfl (ext_skip rfl (ext_skip rfl (ext_skip rfl ext_refl)))) (fun _ h => h))
    · have hg4_9a := hg
      refine wl_on rfl rfl rfl rfl hg4_9a ?_
      refine wl_det rfl rfl (det_move rfl) rfl ?_
      refine wl_on rfl rfl rfl rfl hg4_9a ?_
      refine wl_det rfl rfl (det_gtr rfl rfl) rfl ?_
      refine wl_det rfl rfl (det_or_off rfl rfl rfl hg4_9a) rfl ?_
      exact wl_nil (pn_qnE (ext_cons rfl (ext_skip rfl (ext_skip rfl (ext_skip rfl ext_refl)))) (fun _ h => h))
    refine wl_nil ?_
    refine pn_then ?_
    refine wc_cond rfl (fun c13 => ?_) (fun c13 => ?_)
    · have h := ifT h c13
      refine wc_seq ?_
      refine wc_region ?_   -- region 5
      refine wl_det rfl rfl (det_assign rfl) rfl ?_
      refine wl_det rfl rfl (det_assign rfl) rfl ?_
      refine wl_nil ?_
      refine pn_then ?_
      refine wc_ret ?_
      refine pr_then ?_
      refine pn_st (fun _ h => h.zeroS (lInt .i64) 3 none) ?_
      replace h := Option.some.inj h
      subst h
      refine pn_ret (vs := [_, _]) rfl ⟨rfl, rfl, trivial⟩ ⟨none, 0, 0, rfl, rfl, rfl⟩ (fun _ h => h.to ⟨_, r0, trivial⟩ trivial)
    · have h := ifF h c13
      refine wc_skip ?_
      refine pn_then ?_
      refine wc_seq ?_
      refine wc_seq ?_
      refine wc_region ?_   -- region 6
      refine wl_det rfl rfl (det_move rfl) rfl ?_
      refine wl_det rfl rfl (det_move rfl) rfl ?_
      refine wl_det rfl rfl (det_leq rfl rfl) rfl ?_
      refine wl_nil ?_
      refine pn_then ?_
      refine wc_cond rfl (fun c19 => ?_) (fun c19 => ?_)
      · have h := ifT h c19
        refine wc_seq ?_
        refine wc_region ?_   -- region 7
        refine wl_act (act_lit0S (lInt .i64) un22 (by kernel_rfl)) rfl rfl rfl ?_
        rintro _ _ _ ⟨A7_0, rfl, rfl, rfl⟩
        refine wl_det rfl rfl (det_move rfl) rfl ?_
        obtain ⟨k7_2, h⟩ := chk_some h
        refine wl_act (act_appendS0 (L := (lInt .i64)) rfl rfl s0 (src_F m0) un22 in3 rfl rfl rfl k7_2) rfl rfl rfl ?_
        rintro _ _ _ ⟨A7_2, c7_2, rfl, rfl, rfl⟩
        refine wl_det rfl rfl (det_assign rfl) rfl ?_
        refine wl_det rfl rfl (det_assign rfl) rfl ?_
        refine wl_nil ?_
        refine pn_then ?_
        refine wc_ret ?_
        refine pr_then ?_
        replace h := Option.some.inj h
        subst h
        refine pn_ret (vs := [_, _]) rfl ⟨rfl, rfl, trivial⟩ ⟨A7_2, a0.length, c7_2, rfl, rfl, rfl⟩ (fun _ h => h.to ⟨_, r0, trivial⟩ trivial)
      · have h := ifF h c19
        refine wc_skip ?_
        refine pn_then ?_
        refine wc_seq ?_
        refine wc_region ?_   -- region 8
        refine wl_det rfl rfl (det_move rfl) rfl ?_
        refine wl_det rfl rfl (det_move rfl) rfl ?_
        obtain ⟨r8_2, hr8_2, h⟩ := bind_some h
        refine wl_act (act_callS (cap := []) (W_treatyref01_Split a1 a0 A0 a0.length c0 r8_2 hr8_2) rfl rfl rfl bd57 rfl ⟨m0, trivial⟩) rfl rfl rfl ?_
        rintro _ _ _ ⟨_, _, ⟨y8_2A0, y8_2n0, y8_2c0, rfl, rfl, rfl⟩, rfl, rfl⟩
        dsimp only [List.nil_append, List.cons_append]
        refine wl_know (fun _ h => h.lenO m0) (fun e => ?_)
        subst e
        refine wl_det rfl rfl (det_extract rfl rfl) rfl ?_
        refine wl_det rfl rfl (det_extract rfl rfl) rfl ?_
        refine wl_det rfl rfl (det_assign rfl) rfl ?_
        refine wl_det rfl rfl (det_assign rfl) rfl ?_
        refine wl_nil ?_
        refine pn_then ?_
        refine wc_ret ?_
        replace h := Option.some.inj h
        subst h
        refine pn_ret (vs := [_, _]) rfl ⟨rfl, rfl, trivial⟩ ⟨y8_2A0, r8_2.1.length, y8_2c0, rfl, rfl, rfl⟩ (fun _ h => h.to ⟨_, r0, trivial⟩ trivial)
def Q_treatyref33_Distribute (r : (List GDividend) × Int × Int) : Value → List Ent → List Fact → Prop := fun v θ κ => ∃ (pA0 : Option Addr), ∃ (pn0 : Nat), ∃ (pc0 : Nat), v = .tuple #[.slice pA0 pn0 pc0, .int .i64 r.2.1, .int .i64 r.2.2] ∧ θ = [eS lGDividend 46 pA0 pn0 pc0 r.1] ∧ κ = []
theorem plains_treatyref33_Distribute {r : (List GDividend) × Int × Int} : ∀ v θ κ, Q_treatyref33_Distribute r v θ κ → Plains θ := by
  rintro _ _ _ ⟨_, _, _, rfl, rfl, rfl⟩
  exact ⟨plain_eS, trivial⟩
set_option maxHeartbeats 4000000 in
set_option maxRecDepth 100000 in
theorem W_treatyref33_Distribute (a0 : Int) (a1 : (List GMutual)) (A0 : Option Addr) (n0 : Nat) (c0 : Nat) (r : (List GDividend) × Int × Int) (h : treatyref33_Distribute a0 a1 = some r) : Spec Try.prog 28 [.int .i64 a0, .slice A0 n0 c0] [] [fV (lSlice lGMutual) (.slice A0 n0 c0) a1] (Q_treatyref33_Distribute r) := by
  unfold treatyref33_Distribute at h
  refine spec_of (σ := [(0, _), (1, _)]) Try.func28 rfl rfl rfl rfl ?_
  intro C
  refine wc_know (fun _ h => h.lenF m0) (fun e => ?_)
  subst e
  refine wc_seq ?_
  refine wc_region ?_   -- region 0
  refine wl_det rfl rfl (det_assign rfl) rfl ?_
  refine wl_det rfl rfl (det_assign rfl) rfl ?_
  refine wl_det rfl rfl (det_assign rfl) rfl ?_
  refine wl_nil ?_
  refine pn_then ?_
  refine wc_seq ?_
  refine wc_seq ?_
  refine wc_region ?_   -- region 1
  refine wl_det rfl rfl (det_move rfl) rfl ?_
  obtain ⟨r1_1, hr1_1, h⟩ := bind_some h
  refine wl_act (act_callS (cap := []) (W_treatyref33_Mutuals a1 A0 a1.length c0 r1_1 hr1_1) rfl rfl rfl bd31 rfl ⟨m0, trivial⟩) rfl rfl rfl ?_
  rintro _ _ _ ⟨_, _, ⟨rfl, rfl, rfl⟩, rfl, rfl⟩
  dsimp only [List.nil_append, List.cons_append]
  refine wl_det rfl rfl (det_assign rfl) rfl ?_
  refine wl_nil ?_
  refine pn_then ?_
  refine wc_seq ?_
  refine wc_region ?_   -- region 2
  refine wl_det rfl rfl (det_move rfl) rfl ?_
  refine wl_det rfl rfl (det_neq rfl rfl) rfl ?_
  refine wl_nil ?_
  refine pn_then ?_
  refine wc_cond rfl (fun c7 => ?_) (fun c7 => ?_)
  · have h := ifT h c7
    refine wc_seq ?_
    refine wc_region ?_   -- region 3
    refine wl_det rfl rfl (det_move rfl) rfl ?_
    refine wl_det rfl rfl (det_assign rfl) rfl ?_
    refine wl_det rfl rfl (det_assign rfl) rfl ?_
    refine wl_det rfl rfl (det_assign rfl) rfl ?_
    refine wl_nil ?_
    refine pn_then ?_
    refine wc_ret ?_
    refine pr_then ?_
    refine pn_st (fun _ h => h.zeroS lGDividend 46 none) ?_
    replace h := Option.some.inj h
    subst h
    refine pn_ret (vs := [_, _, _]) rfl ⟨rfl, rfl, rfl, trivial⟩ ⟨none, 0, 0, rfl, rfl, rfl⟩ (fun _ h => h.to ⟨_, r0, trivial⟩ trivial)
  · have h := ifF h c7
    refine wc_skip ?_
    refine pn_then ?_
    refine wc_seq ?_
    refine wc_seq ?_
    refine wc_region ?_   -- region 4
    refine wl_det rfl rfl (det_move rfl) rfl ?_
    refine wl_det rfl rfl (det_lss rfl rfl) rfl ?_
    refine wl_det rfl rfl (det_move rfl) rfl ?_
    refine wl_way (decide (a0 < 0)) ((decide (a0 < 0)) || (decide (17592186044416 < a0))) 3 28 (fun hg => ?_) (fun hg => ?_) ?_
    · have hg4_5 := hg
      refine wl_off rfl rfl rfl rfl rfl hg4_5 rfl ?_
      refine wl_off rfl rfl rfl rfl rfl hg4_5 rfl ?_
      refine wl_det rfl rfl (det_or_on (r := (decide (17592186044416 < a0))) rfl rfl rfl hg4_5) rfl ?_
      exact wl_nil (pn_qnE (ext_cons rfl (ext_skip rfl (ext_skip rfl (ext_skip rfl ext_refl)))) (fun _ h => h))
    · have hg4_5a := hg
      refine wl_on rfl rfl rfl rfl hg4_5a ?_
      refine wl_det rfl rfl (det_move rfl) rfl ?_
      refine wl_on rfl rfl rfl rfl hg4_5a ?_
      refine wl_det rfl rfl (det_gtr rfl rfl) rfl ?_
      refine wl_det rfl rfl (det_or_off rfl rfl rfl hg4_5a) rfl ?_
      exact wl_nil (pn_qnE (ext_cons rfl (ext_skip rfl (ext_skip rfl (ext_skip rfl ext_refl)))) (fun _ h => h))
    refine wl_nil ?_
    refine pn_then ?_
    refine wc_cond rfl (fun c13 => ?_) (fun c13 => ?_)
    · have h := ifT h c13
      refine wc_seq ?_
      refine wc_region ?_   -- region 5
      refine wl_det rfl rfl (det_assign rfl) rfl ?_
      refine wl_det rfl rfl (det_assign rfl) rfl ?_
      refine wl_det rfl rfl (det_assign rfl) rfl ?_
      refine wl_nil ?_
      refine pn_then ?_
      refine wc_ret ?_
      refine pr_then ?_
      refine pn_st (fun _ h => h.zeroS lGDividend 46 none) ?_
      replace h := Option.some.inj h
      subst h
      refine pn_ret (vs := [_, _, _]) rfl ⟨rfl, rfl, rfl, trivial⟩ ⟨none, 0, 0, rfl, rfl, rfl⟩ (fun _ h => h.to ⟨_, r0, trivial⟩ trivial)
    · have h := ifF h c13
      refine wc_skip ?_
      refine pn_then ?_
      refine wc_seq ?_
      refine wc_region ?_   -- region 6
      refine wl_det rfl rfl (det_move rfl) rfl ?_
      refine wl_det rfl rfl (det_assign rfl) rfl ?_
      refine wl_det rfl rfl (det_assign rfl) rfl ?_
      refine wl_nil ?_
      refine pn_then ?_
      refine wc_seq ?_
      refine wc_region ?_   -- region 7
      refine wl_det rfl rfl (det_assign rfl) rfl ?_
      refine wl_nil ?_
      refine pn_then ?_
      refine wc_seq ?_
      refine wc_region ?_   -- region 8
      refine wl_det rfl rfl (det_assign rfl) rfl ?_
      refine wl_nil ?_
      refine pn_then ?_
      obtain ⟨q22, h, ho22⟩ := bind_some h
      refine wc_meetG (G := (Int × Int × (List Int) × (List GDividend)) × Option Addr × Nat × Nat × Option Addr × Nat × Nat × Unit) (fun (s22, _, _, _, _, _, _, _) => s22 = q22) (fun (s22, A22_0, n22_0, c22_0, A22_3, n22_3, c22_3, _) => [(8, .int .i64 s22.1), (9, .int .i64 s22.2.1), (10, .slice A22_0 n22_0 c22_0), (11, .slice A22_3 n22_3 c22_3)]) (fun (s22, A22_0, n22_0, c22_0, A22_3, n22_3, c22_3, _) => [eS (lInt .i64) 3 A22_0 n22_0 c22_0 s22.2.2.1, eS lGDividend 46 A22_3 n22_3 c22_3 s22.2.2.2]) (fun (_, _, _, _, _, _, _, _) => []) ?_ ?_
      · refine wc_seq ?_
        refine wc_region ?_   -- region 9
        refine wl_det rfl rfl (det_move rfl) rfl ?_
        refine wl_det rfl rfl (det_len rfl un36) rfl ?_
        refine wl_det rfl rfl (det_move rfl) rfl ?_
        refine wl_nil ?_
        refine pn_then ?_
        refine wc_block ?_
        refine wc_st (fun _ h => h.zeroS (lInt .i64) 3 none) ?_
        refine wc_st (fun _ h => h.zeroS lGDividend 46 none) ?_
        obtain ⟨k26, hk26⟩ := loopV_some.1 h
        refine wc_loop (G := Nat × (Int × Int × (List Int) × (List GDividend) × Int) × Option Addr × Nat × Nat × Option Addr × Nat × Nat × Unit) (fun g => IterN (treatyref33_Distribute_l26 a1) g.1 g.2.1 q22) (fun g => g.1) (fun (_, s26, A26_0, n26_0, c26_0, A26_3, n26_3, c26_3, _) => [(8, .int .i64 s26.1), (9, .int .i64 s26.2.1), (10, .slice A26_0 n26_0 c26_0), (11, .slice A26_3 n26_3 c26_3), (30, .slice A0 a1.length c0), (31, .int .i64 (a1.length : Int)), (32, .int .i64 s26.2.2.2.2)]) (fun (_, s26, A26_0, n26_0, c26_0, A26_3, n26_3, c26_3, _) => [eS (lInt .i64) 3 A26_0 n26_0 c26_0 s26.2.2.1, eS lGDividend 46 A26_3 n26_3 c26_3 s26.2.2.2.1]) (fun (_, _, _, _, _, _, _, _, _) => [fV (lSlice lGMutual) (.slice A0 a1.length c0) a1]) (k26, (a0, 0, [], [], 0), none, 0, 0, none, 0, 0, ()) hk26 ⟨rfl, rfl, rfl, rfl, rfl, rfl, rfl, trivial⟩ (fun _ h => h.to ⟨_, (rs r0), ⟨_, r0, trivial⟩⟩ ⟨m0, trivial⟩) ?_
        rintro ⟨k26, s26, A26_0, n26_0, c26_0, A26_3, n26_3, c26_3, _⟩ hI
        obtain ⟨k26, rfl, q26, h, g26⟩ := IterN.pos hI
        dsimp only at h ⊢
        unfold treatyref33_Distribute_l26 at h
        refine wc_know (fun _ h => h.lenO m0) (fun e => ?_)
        subst e
        refine wc_know (fun _ h => h.lenO (ms m0)) (fun e => ?_)
        subst e
        refine wc_seq ?_
        refine wc_region ?_   -- region 10
        refine wl_det rfl rfl (det_lss rfl rfl) rfl ?_
        refine wl_nil ?_
        refine pn_then ?_
        refine wc_seq ?_
        refine wc_cond rfl (fun c30 => ?_) (fun c30 => ?_)
        · have h := ifT h c30
          refine wc_skip ?_
          refine pn_then ?_
          refine wc_seq ?_
          refine wc_block ?_
          refine wc_seq ?_
          refine wc_region ?_   -- region 11
          obtain ⟨k11_0, h⟩ := chk_some h
          refine wl_st (fun _ h => h.openF m0 k11_0) ?_
          refine wl_det rfl rfl (det_indexP rfl rfl (ms m0) k11_0 m0 un36 sz48) rfl ?_
          refine wl_det rfl rfl (det_loadP (off := 0) rfl m0 (by rfl) (by rfl) (loaded_n (cells := [_, _, _]) ag48 sz48)) rfl ?_
          refine wl_act (act_alloc (cs := [_, _, _]) zr48 rfl) rfl rfl rfl ?_
          rintro _ _ _ ⟨b11_2, rfl, rfl, rfl⟩
          refine wl_act0 (act_store (cells := [_, _, _]) (cs' := [_, _, _]) rfl rfl rfl s0 (by rfl) (of_decide_eq_true rfl) sz48 ⟨rfl, rfl, rfl, trivial⟩) rfl rfl ?_
          rintro _ _ _ ⟨rfl, rfl⟩
          refine wl_nil ?_
          refine pn_then ?_
          refine wc_seq ?_
          refine wc_region ?_   -- region 12
          refine wl_det rfl rfl (det_field rfl fd48_1 rfl) rfl ?_
          refine wl_det rfl rfl (det_load rfl m0 (by rfl) na3 us3) rfl ?_
          refine wl_det rfl rfl (det_field rfl fd48_2 rfl) rfl ?_
          refine wl_det rfl rfl (det_load rfl m0 (by rfl) na3 us3) rfl ?_
          refine wl_det rfl rfl (det_minI rfl rfl) rfl ?_
          refine wl_det rfl rfl (det_assign rfl) rfl ?_
          refine wl_nil ?_
          refine pn_then ?_
          refine wc_seq ?_
          refine wc_region ?_   -- region 13
          refine wl_det rfl rfl (det_move rfl) rfl ?_
          refine wl_det rfl rfl (det_field rfl fd48_2 rfl) rfl ?_
          refine wl_det rfl rfl (det_load rfl m0 (by rfl) na3 us3) rfl ?_
          refine wl_det rfl rfl (det_move rfl) rfl ?_
          refine wl_det rfl rfl (det_sub rfl rfl) rfl ?_
          refine wl_det rfl rfl (det_add rfl rfl) rfl ?_
          refine wl_det rfl rfl (det_assign rfl) rfl ?_
          refine wl_nil ?_
          refine pn_then ?_
          refine wc_seq ?_
          refine wc_region ?_   -- region 14
          refine wl_det rfl rfl (det_move rfl) rfl ?_
          refine wl_det rfl rfl (det_field rfl fd48_1 rfl) rfl ?_
          refine wl_det rfl rfl (det_load rfl m0 (by rfl) na3 us3) rfl ?_
          refine wl_det rfl rfl (det_move rfl) rfl ?_
          refine wl_det rfl rfl (det_sub rfl rfl) rfl ?_
          refine wl_det rfl rfl (det_add rfl rfl) rfl ?_
          refine wl_det rfl rfl (det_assign rfl) rfl ?_
          refine wl_nil ?_
          refine pn_then ?_
          refine wc_seq ?_
          refine wc_region ?_   -- region 15
          refine wl_det rfl rfl (det_move rfl) rfl ?_
          refine wl_det rfl rfl (det_field rfl fd48_1 rfl) rfl ?_
          refine wl_det rfl rfl (det_load rfl m0 (by rfl) na3 us3) rfl ?_
          refine wl_det rfl rfl (det_move rfl) rfl ?_
          refine wl_det rfl rfl (det_sub rfl rfl) rfl ?_
          refine wl_act (act_litS (lInt .i64) (vs := [_]) (cs := [_]) [(w64 ((ix a1 s26.2.2.2.2).Owed - (minI (ix a1 s26.2.2.2.2).Owed (ix a1 s26.2.2.2.2).Owes)))] un22 in3 rfl rfl rfl rfl rfl ⟨rfl, trivial⟩ (by rfl) rfl (litR_flat rfl)) rfl rfl rfl ?_
          rintro _ _ _ ⟨A15_5, rfl, rfl, rfl⟩
          obtain ⟨k15_6, h⟩ := chk_some h
          refine wl_act (act_appendS (L := (lInt .i64)) rfl rfl (ss (ss s0)) (src_O m0) un22 in3 rfl rfl rfl k15_6) rfl rfl rfl ?_
          rintro _ _ _ ⟨A15_6, c15_6, rfl, rfl, rfl⟩
          refine wl_det rfl rfl (det_assign rfl) rfl ?_
          refine wl_nil ?_
          refine pn_then ?_
          refine wc_region ?_   -- region 16
          refine wl_det rfl rfl (det_move rfl) rfl ?_
          refine wl_det rfl rfl (det_field rfl fd48_0 rfl) rfl ?_
          refine wl_det rfl rfl (det_load rfl (ms m0) (by rfl) na3 us3) rfl ?_
          refine wl_det rfl rfl (det_move rfl) rfl ?_
          refine wl_det rfl rfl (det_field rfl fd48_2 rfl) rfl ?_
          refine wl_det rfl rfl (det_load rfl (ms m0) (by rfl) na3 us3) rfl ?_
          refine wl_det rfl rfl (det_move rfl) rfl ?_
          refine wl_det rfl rfl (det_sub rfl rfl) rfl ?_
          refine wl_det rfl rfl (det_build (cs := [_, _, _, _, _]) pl46 zr46 rfl rfl (by rfl)) rfl ?_
          refine wl_act (act_litS lGDividend (vs := [_]) (cs := [_, _, _, _, _]) [(GDividend.mk (ix a1 s26.2.2.2.2).Party (minI (ix a1 s26.2.2.2.2).Owed (ix a1 s26.2.2.2.2).Owes) 0 (w64 ((ix a1 s26.2.2.2.2).Owes - (minI (ix a1 s26.2.2.2.2).Owed (ix a1 s26.2.2.2.2).Owes))) 0)] un39 in46 rfl rfl rfl rfl rfl ⟨rfl, trivial⟩ (by rfl) rfl (litR_flat rfl)) rfl rfl rfl ?_
          rintro _ _ _ ⟨A16_9, rfl, rfl, rfl⟩
          obtain ⟨k16_10, h⟩ := chk_some h
          refine wl_act (act_appendS (L := lGDividend) rfl rfl (ss (ss (ss (ss s0)))) (src_O m0) un39 in46 rfl rfl rfl k16_10) rfl rfl rfl ?_
          rintro _ _ _ ⟨A16_10, c16_10, rfl, rfl, rfl⟩
          refine wl_det rfl rfl (det_assign rfl) rfl ?_
          refine wl_nil ?_
          refine pn_block ?_
          refine pn_then ?_
          refine wc_region ?_   -- region 17
          refine wl_det rfl rfl (det_add rfl rfl) rfl ?_
          refine wl_det rfl rfl (det_move rfl) rfl ?_
          refine wl_nil ?_
          replace h := Option.some.inj h
          subst h
          exact pn_some (k26, ((w64 (s26.1 + (w64 ((ix a1 s26.2.2.2.2).Owes - (minI (ix a1 s26.2.2.2.2).Owed (ix a1 s26.2.2.2.2).Owes))))), (w64 (s26.2.1 + (w64 ((ix a1 s26.2.2.2.2).Owed - (minI (ix a1 s26.2.2.2.2).Owed (ix a1 s26.2.2.2.2).Owes))))), (s26.2.2.1 ++ [(w64 ((ix a1 s26.2.2.2.2).Owed - (minI (ix a1 s26.2.2.2.2).Owed (ix a1 s26.2.2.2.2).Owes)))]), (s26.2.2.2.1 ++ [(GDividend.mk (ix a1 s26.2.2.2.2).Party (minI (ix a1 s26.2.2.2.2).Owed (ix a1 s26.2.2.2.2).Owes) 0 (w64 ((ix a1 s26.2.2.2.2).Owes - (minI (ix a1 s26.2.2.2.2).Owed (ix a1 s26.2.2.2.2).Owes))) 0)]), (w64 (s26.2.2.2.2 + 1))), A15_6, (s26.2.2.1 ++ [(w64 ((ix a1 s26.2.2.2.2).Owed - (minI (ix a1 s26.2.2.2.2).Owed (ix a1 s26.2.2.2.2).Owes)))]).length, c15_6, A16_10, (s26.2.2.2.1 ++ [(GDividend.mk (ix a1 s26.2.2.2.2).Party (minI (ix a1 s26.2.2.2.2).Owed (ix a1 s26.2.2.2.2).Owes) 0 (w64 ((ix a1 s26.2.2.2.2).Owes - (minI (ix a1 s26.2.2.2.2).Owed (ix a1 s26.2.2.2.2).Owes))) 0)]).length, c16_10, ()) ⟨nextL g26, Nat.lt_succ_self _⟩ ⟨rfl, rfl, rfl, rfl, rfl, rfl, rfl, trivial⟩ (fun _ h => h.to ⟨_, (rs (rs (rs r0))), ⟨_, (rs (rs (rs r0))), trivial⟩⟩ ⟨(ms m0), trivial⟩)
        · have h := ifF h c30
          refine wc_exit ?_
          refine px_then ?_
          refine px_then ?_
          refine px_block ?_
          replace h := Option.some.inj h
          subst h
          replace g26 := nextR g26
          subst g26
          exact pn_meetG ((s26.1, s26.2.1, s26.2.2.1, s26.2.2.2.1), A26_0, s26.2.2.1.length, c26_0, A26_3, s26.2.2.2.1.length, c26_3, ()) rfl ⟨rfl, rfl, rfl, rfl, trivial⟩ (fun _ h => h.to ⟨_, r0, ⟨_, r0, trivial⟩⟩ trivial)
      rintro ⟨s22, A22_0, n22_0, c22_0, A22_3, n22_3, c22_3, _⟩ e22
      dsimp only at e22 ⊢
      subst e22
      have h := ho22
      refine wc_know (fun _ h => h.lenO m0) (fun e => ?_)
      subst e
      refine wc_know (fun _ h => h.lenO (ms m0)) (fun e => ?_)
      subst e
      refine wc_seq ?_
      refine wc_seq ?_
      refine wc_region ?_   -- region 18
      refine wl_det rfl rfl (det_move rfl) rfl ?_
      refine wl_det rfl rfl (det_gtr rfl rfl) rfl ?_
      refine wl_det rfl rfl (det_move rfl) rfl ?_
      refine wl_way (decide (17592186044416 < s22.1)) ((decide (17592186044416 < s22.1)) || (decide (17592186044416 < s22.2.1))) 3 77 (fun hg => ?_) (fun hg => ?_) ?_
      · have hg18_5 := hg
        refine wl_off rfl rfl rfl rfl rfl hg18_5 rfl ?_
        refine wl_off rfl rfl rfl rfl rfl hg18_5 rfl ?_
        refine wl_det rfl rfl (det_or_on (r := (decide (17592186044416 < s22.2.1))) rfl rfl rfl hg18_5) rfl ?_
        exact wl_nil (pn_qnE (ext_cons rfl (ext_skip rfl (ext_skip rfl (ext_skip rfl ext_refl)))) (fun _ h => h))
      · have hg18_5a := hg
        refine wl_on rfl rfl rfl rfl hg18_5a ?_
        refine wl_det rfl rfl (det_move rfl) rfl ?_
        refine wl_on rfl rfl rfl rfl hg18_5a ?_
        refine wl_det rfl rfl (det_gtr rfl rfl) rfl ?_
        refine wl_det rfl rfl (det_or_off rfl rfl rfl hg18_5a) rfl ?_
        exact wl_nil (pn_qnE (ext_cons rfl (ext_skip rfl (ext_skip rfl (ext_skip rfl ext_refl)))) (fun _ h => h))
      refine wl_nil ?_
      refine pn_then ?_
      refine wc_cond rfl (fun c49 => ?_) (fun c49 => ?_)
      · have h := ifT h c49
        refine wc_seq ?_
        refine wc_region ?_   -- region 19
        refine wl_det rfl rfl (det_assign rfl) rfl ?_
        refine wl_det rfl rfl (det_assign rfl) rfl ?_
        refine wl_det rfl rfl (det_assign rfl) rfl ?_
        refine wl_nil ?_
        refine pn_then ?_
        refine wc_ret ?_
        refine pr_then ?_
        refine pn_st (fun _ h => h.zeroS lGDividend 46 none) ?_
        replace h := Option.some.inj h
        subst h
        refine pn_ret (vs := [_, _, _]) rfl ⟨rfl, rfl, rfl, trivial⟩ ⟨none, 0, 0, rfl, rfl, rfl⟩ (fun _ h => h.to ⟨_, r0, trivial⟩ trivial)
      · have h := ifF h c49
        refine wc_skip ?_
        refine pn_then ?_
        refine wc_seq ?_
        refine wc_region ?_   -- region 20
        refine wl_det rfl rfl (det_move rfl) rfl ?_
        refine wl_det rfl rfl (det_move rfl) rfl ?_
        obtain ⟨r20_2, hr20_2, h⟩ := bind_some h
        refine wl_act (act_callL (cap := []) [eS (lInt .i64) 3 A22_0 s22.2.2.1.length c22_0 s22.2.2.1] (W_treatyref01_Reduce s22.2.2.1 s22.1 A22_0 s22.2.2.1.length c22_0 r20_2 hr20_2) plains_treatyref01_Reduce rfl rfl rfl bd49 rfl ⟨m0, trivial⟩ ⟨.inr ⟨_, m0, lent_eS⟩, trivial⟩) rfl rfl rfl ?_
        rintro _ _ _ ⟨_, _, ⟨y20_2A0, y20_2n0, y20_2c0, rfl, rfl, rfl⟩, rfl, rfl⟩
        dsimp only [List.nil_append, List.cons_append]
        refine wl_know (fun _ h => h.lenO m0) (fun e => ?_)
        subst e
        refine wl_det rfl rfl (det_move rfl) rfl ?_
        refine wl_det rfl rfl (det_extract rfl rfl) rfl ?_
        refine wl_det rfl rfl (det_extract rfl rfl) rfl ?_
        refine wl_det rfl rfl (det_assign rfl) rfl ?_
        refine wl_det rfl rfl (det_assign rfl) rfl ?_
        refine wl_nil ?_
        refine pn_then ?_
        obtain ⟨q54, h, ho54⟩ := bind_some h
        refine wc_meetG (G := (Int × (List GDividend)) × Unit) (fun (s54, _) => s54 = q54) (fun (s54, _) => [(8, .int .i64 s54.1), (11, .slice A22_3 s22.2.2.2.length c22_3)]) (fun (s54, _) => [eS lGDividend 46 A22_3 s22.2.2.2.length c22_3 s54.2]) (fun (_, _) => []) ?_ ?_
        · refine wc_seq ?_
          refine wc_region ?_   -- region 21
          refine wl_det rfl rfl (det_move rfl) rfl ?_
          refine wl_det rfl rfl (det_len rfl un39) rfl ?_
          refine wl_det rfl rfl (det_move rfl) rfl ?_
          refine wl_nil ?_
          refine pn_then ?_
          refine wc_block ?_
          obtain ⟨k58, hk58⟩ := loopV_some.1 h
          refine wc_loop (G := Nat × (Int × (List GDividend) × Int) × Unit) (fun g => IterN (treatyref33_Distribute_l58 s22 r20_2) g.1 g.2.1 q54) (fun g => g.1) (fun (_, s58, _) => [(8, .int .i64 s58.1), (10, .slice A22_0 s22.2.2.1.length c22_0), (11, .slice A22_3 s22.2.2.2.length c22_3), (15, .slice y20_2A0 r20_2.1.length y20_2c0), (85, .int .i64 (s22.2.2.2.length : Int)), (86, .int .i64 s58.2.2)]) (fun (_, s58, _) => [eS (lInt .i64) 3 A22_0 s22.2.2.1.length c22_0 s22.2.2.1, eS lGDividend 46 A22_3 s22.2.2.2.length c22_3 s58.2.1, eS (lInt .i64) 3 y20_2A0 r20_2.1.length y20_2c0 r20_2.1]) (fun (_, _, _) => []) (k58, (s22.1, s22.2.2.2, 0), ()) hk58 ⟨rfl, rfl, rfl, rfl, rfl, rfl, trivial⟩ (fun _ h => h.to ⟨_, (rs r0), ⟨_, (rs r0), ⟨_, r0, trivial⟩⟩⟩ trivial) ?_
          rintro ⟨k58, s58, _⟩ hI
          obtain ⟨k58, rfl, q58, h, g58⟩ := IterN.pos hI
          dsimp only at h ⊢
          unfold treatyref33_Distribute_l58 at h
          refine wc_seq ?_
          refine wc_region ?_   -- region 22
          refine wl_det rfl rfl (det_lss rfl rfl) rfl ?_
          refine wl_nil ?_
          refine pn_then ?_
          refine wc_seq ?_
          refine wc_cond rfl (fun c62 => ?_) (fun c62 => ?_)
          · have h := ifT h c62
            refine wc_skip ?_
            refine pn_then ?_
            refine wc_seq ?_
            refine wc_block ?_
            refine wc_seq ?_
            refine wc_region ?_   -- region 23
            refine wl_det rfl rfl (det_move rfl) rfl ?_
            refine wl_det rfl rfl (det_assign rfl) rfl ?_
            refine wl_nil ?_
            refine pn_then ?_
            refine wc_seq ?_
            obtain ⟨k24_p1, h⟩ := chk_some h
            obtain ⟨k24_p2, h⟩ := chk_some h
            obtain ⟨k24_p3, h⟩ := chk_some h
            obtain ⟨k24_p4, h⟩ := chk_some h
            refine wc_know (fun _ h => h.ixA (ms m0) k24_p3) (fun kx24_x5 => ?_)
            refine dx_regionZ (Z := St C [_, _] []) 20 [[], [], [], [], [], [], [4, 5], [4, 5, 6], [], [], [8, 9], [8, 9, 10], [], [], [12, 13], [12, 13, 14], [8, 9, 10, 11, 12, 13, 14, 15], [0, 1, 4, 5, 6, 7, 8, 9, 10, 11, 12, 13, 14, 15], [0, 1, 4, 5, 6, 7, 8, 9, 10, 11, 12, 13, 14, 15, 17], [0, 1, 4, 5, 6, 7, 8, 9, 10, 11, 12, 13, 14, 15, 17, 18], [0, 1, 2, 3, 4, 5, 6, 7, 8, 9, 10, 11, 12, 13, 14, 15, 16, 17, 18, 19], [0, 1, 2, 3, 4, 5, 6, 7, 8, 9, 10, 11, 12, 13, 14, 15, 16, 17, 18, 19, 20], [0, 1, 2, 3, 4, 5, 6, 7, 8, 9, 10, 11, 12, 13, 14, 15, 16, 17, 18, 19, 20, 21]] mixed (ord := (.det 0 (.det 1 (.det 2 (.det 3 (.det 4 (.det 5 (.det 6 (.det 7 (.det 8 (.det 9 (.det 10 (.det 11 (.det 12 (.det 13 (.det 14 (.det 15 (.det 16 (.det 17 (.det 18 (.alt 19 .done .dead))))))))))))))))))))) (by kernel_rfl) (fun _ h => h.to ⟨_, r0, ⟨_, (rs r0), trivial⟩⟩ trivial) ?_   -- region 24
            refine hx_det rfl rfl rfl nofun (det_move rfl) rfl ?_
            refine hx_det rfl rfl rfl nofun (det_move rfl) rfl ?_
            refine hx_det rfl rfl rfl nofun (det_move rfl) rfl ?_
            refine hx_det rfl rfl rfl nofun (det_move rfl) rfl ?_
            refine hx_det rfl rfl rfl nofun (det_move rfl) rfl ?_
            refine hx_det rfl rfl rfl nofun (det_move rfl) rfl ?_
            refine hx_det rfl rfl rfl nofun (det_indexO rfl rfl (ms m0) k24_p1 un22 sz3) rfl ?_
            refine hx_det rfl rfl rfl nofun (det_loadO (off := 0) rfl (ms m0) k24_p1 (by rfl) (by rfl) (loaded_1 na3 us3)) rfl ?_
            refine hx_det rfl rfl rfl nofun (det_move rfl) rfl ?_
            refine hx_det rfl rfl rfl nofun (det_move rfl) rfl ?_
            refine hx_det rfl rfl rfl nofun (det_indexO rfl rfl m0 k24_p2 un22 sz3) rfl ?_
            refine hx_det rfl rfl rfl nofun (det_loadO (off := 0) rfl m0 k24_p2 (by rfl) (by rfl) (loaded_1 na3 us3)) rfl ?_
            refine hx_det rfl rfl rfl nofun (det_move rfl) rfl ?_
            refine hx_det rfl rfl rfl nofun (det_move rfl) rfl ?_
            refine hx_det rfl rfl rfl nofun (det_indexO rfl rfl (ms m0) k24_p1 un22 sz3) rfl ?_
            refine hx_det rfl rfl rfl nofun (det_loadO (off := 0) rfl (ms m0) k24_p1 (by rfl) (by rfl) (loaded_1 na3 us3)) rfl ?_
            refine hx_det rfl rfl rfl nofun (det_sub rfl rfl) rfl ?_
            refine hx_det rfl rfl rfl nofun (det_indexV rfl rfl kx24_x5 un39 sz46) rfl ?_
            refine hx_now rfl rfl rfl nofun rfl (det_fieldO rfl (ms m0) k24_p3 fd46_2 rfl) rfl ?_
            refine hx_mut0 rfl rfl rfl (act_storeO (cells := [_]) (off := 2) (GDividend.mk (ix s58.2.1 s58.2.2).Party (ix s58.2.1 s58.2.2).SetOff (ix r20_2.1 s58.2.2) (ix s58.2.1 s58.2.2).Pays (ix s58.2.1 s58.2.2).Unpaid) rfl rfl rfl (ss s0) k24_p3 (by rfl) sz3 (by intro u hu; simp at hu; rcases hu with rfl <;> rfl) (stR_flat rfl rfl)) (by rintro _ _ _ ⟨rfl, rfl⟩ w hs; exact hs.to ⟨_, r0, ⟨_, (rs r0), trivial⟩⟩ trivial) ?_
            rintro _ _ _ ⟨rfl, rfl⟩
            refine hx_end ?_
            refine wl_det rfl rfl (det_indexV rfl rfl kx24_x5 un39 sz46) rfl ?_
            refine wl_det rfl rfl (det_fieldO rfl (ms m0) k24_p4 fd46_4 rfl) rfl ?_
            refine wl_act0 (act_storeO (cells := [_]) (off := 4) (GDividend.mk (ix (upd s58.2.1 s58.2.2 (GDividend.mk (ix s58.2.1 s58.2.2).Party (ix s58.2.1 s58.2.2).SetOff (ix r20_2.1 s58.2.2) (ix s58.2.1 s58.2.2).Pays (ix s58.2.1 s58.2.2).Unpaid)) s58.2.2).Party (ix (upd s58.2.1 s58.2.2 (GDividend.mk (ix s58.2.1 s58.2.2).Party (ix s58.2.1 s58.2.2).SetOff (ix r20_2.1 s58.2.2) (ix s58.2.1 s58.2.2).Pays (ix s58.2.1 s58.2.2).Unpaid)) s58.2.2).SetOff (ix (upd s58.2.1 s58.2.2 (GDividend.mk (ix s58.2.1 s58.2.2).Party (ix s58.2.1 s58.2.2).SetOff (ix r20_2.1 s58.2.2) (ix s58.2.1 s58.2.2).Pays (ix s58.2.1 s58.2.2).Unpaid)) s58.2.2).Gets (ix (upd s58.2.1 s58.2.2 (GDividend.mk (ix s58.2.1 s58.2.2).Party (ix s58.2.1 s58.2.2).SetOff (ix r20_2.1 s58.2.2) (ix s58.2.1 s58.2.2).Pays (ix s58.2.1 s58.2.2).Unpaid)) s58.2.2).Pays (w64 ((ix s22.2.2.1 s58.2.2) - (ix r20_2.1 s58.2.2)))) rfl rfl rfl (ss s0) k24_p4 (by rfl) sz3 (by intro u hu; simp at hu; rcases hu with rfl <;> rfl) (stR_flat rfl rfl)) rfl rfl ?_
            rintro _ _ _ ⟨rfl, rfl⟩
            refine wl_nil ?_
            refine pn_then ?_
            refine wc_region ?_   -- region 25
            refine wl_det rfl rfl (det_move rfl) rfl ?_
            refine wl_det rfl rfl (det_move rfl) rfl ?_
            refine wl_det rfl rfl (det_move rfl) rfl ?_
            refine wl_det rfl rfl (det_indexO rfl rfl (ms (ms m0)) k24_p1 un22 sz3) rfl ?_
            refine wl_det rfl rfl (det_loadO (off := 0) rfl (ms (ms m0)) k24_p1 (by rfl) (by rfl) (loaded_1 na3 us3)) rfl ?_
            refine wl_det rfl rfl (det_sub rfl rfl) rfl ?_
            refine wl_det rfl rfl (det_assign rfl) rfl ?_
            refine wl_nil ?_
            refine pn_block ?_
            refine pn_then ?_
            refine wc_region ?_   -- region 26
            refine wl_det rfl rfl (det_add rfl rfl) rfl ?_
            refine wl_det rfl rfl (det_move rfl) rfl ?_
            refine wl_nil ?_
            replace h := Option.some.inj h
            subst h
            exact pn_some (k58, ((w64 (s58.1 - (ix r20_2.1 s58.2.2))), (upd (upd s58.2.1 s58.2.2 (GDividend.mk (ix s58.2.1 s58.2.2).Party (ix s58.2.1 s58.2.2).SetOff (ix r20_2.1 s58.2.2) (ix s58.2.1 s58.2.2).Pays (ix s58.2.1 s58.2.2).Unpaid)) s58.2.2 (GDividend.mk (ix (upd s58.2.1 s58.2.2 (GDividend.mk (ix s58.2.1 s58.2.2).Party (ix s58.2.1 s58.2.2).SetOff (ix r20_2.1 s58.2.2) (ix s58.2.1 s58.2.2).Pays (ix s58.2.1 s58.2.2).Unpaid)) s58.2.2).Party (ix (upd s58.2.1 s58.2.2 (GDividend.mk (ix s58.2.1 s58.2.2).Party (ix s58.2.1 s58.2.2).SetOff (ix r20_2.1 s58.2.2) (ix s58.2.1 s58.2.2).Pays (ix s58.2.1 s58.2.2).Unpaid)) s58.2.2).SetOff (ix (upd s58.2.1 s58.2.2 (GDividend.mk (ix s58.2.1 s58.2.2).Party (ix s58.2.1 s58.2.2).SetOff (ix r20_2.1 s58.2.2) (ix s58.2.1 s58.2.2).Pays (ix s58.2.1 s58.2.2).Unpaid)) s58.2.2).Gets (ix (upd s58.2.1 s58.2.2 (GDividend.mk (ix s58.2.1 s58.2.2).Party (ix s58.2.1 s58.2.2).SetOff (ix r20_2.1 s58.2.2) (ix s58.2.1 s58.2.2).Pays (ix s58.2.1 s58.2.2).Unpaid)) s58.2.2).Pays (w64 ((ix s22.2.2.1 s58.2.2) - (ix r20_2.1 s58.2.2))))), (w64 (s58.2.2 + 1))), ()) ⟨nextL g58, Nat.lt_succ_self _⟩ ⟨rfl, rfl, rfl, rfl, rfl, rfl, trivial⟩ (fun _ h => h.to ⟨_, r0, ⟨_, r0, ⟨_, r0, trivial⟩⟩⟩ trivial)
          · have h := ifF h c62
            refine wc_exit ?_
            refine px_then ?_
            refine px_then ?_
            refine px_block ?_
            replace h := Option.some.inj h
            subst h
            replace g58 := nextR g58
            subst g58
            exact pn_meetG ((s58.1, s58.2.1), ()) rfl ⟨rfl, rfl, trivial⟩ (fun _ h => h.to ⟨_, (rs r0), trivial⟩ trivial)
        rintro ⟨s54, _⟩ e54
        dsimp only at e54 ⊢
        subst e54
        have h := ho54
        refine wc_seq ?_
        refine wc_region ?_   -- region 27
        refine wl_det rfl rfl (det_move rfl) rfl ?_
        refine wl_det rfl rfl (det_move rfl) rfl ?_
        refine wl_det rfl rfl (det_assign rfl) rfl ?_
        refine wl_det rfl rfl (det_assign rfl) rfl ?_
        refine wl_det rfl rfl (det_assign rfl) rfl ?_
        refine wl_nil ?_
        refine pn_then ?_
        refine wc_ret ?_
        replace h := Option.some.inj h
        subst h
        refine pn_ret (vs := [_, _, _]) rfl ⟨rfl, rfl, rfl, trivial⟩ ⟨A22_3, s22.2.2.2.length, c22_3, rfl, rfl, rfl⟩ (fun _ h => h.to ⟨_, r0, trivial⟩ trivial)
def Q_slices_Equal_s_api_Dividend_api_Dividend (r : Bool) : Value → List Ent → List Fact → Prop := fun v θ κ => v = .bool r ∧ θ = [] ∧ κ = []
theorem plains_slices_Equal_s_api_Dividend_api_Dividend {r : Bool} : ∀ v θ κ, Q_slices_Equal_s_api_Dividend_api_Dividend r v θ κ → Plains θ := by
  rintro _ _ _ ⟨rfl, rfl, rfl⟩
  exact trivial
set_option maxHeartbeats 4000000 in
set_option maxRecDepth 100000 in
theorem W_slices_Equal_s_api_Dividend_api_Dividend (a0 : (List GDividend)) (a1 : (List GDividend)) (A0 : Option Addr) (n0 : Nat) (c0 : Nat) (A3 : Option Addr) (n3 : Nat) (c3 : Nat) (r : Bool) (h : slices_Equal_s_api_Dividend_api_Dividend a0 a1 = some r) : Spec Try.prog 50 [.slice A0 n0 c0, .slice A3 n3 c3] [] [fV (lSlice lGDividend) (.slice A0 n0 c0) a0, fV (lSlice lGDividend) (.slice A3 n3 c3) a1] (Q_slices_Equal_s_api_Dividend_api_Dividend r) := by
  unfold slices_Equal_s_api_Dividend_api_Dividend at h
  refine spec_of (σ := [(0, _), (1, _)]) Try.func50 rfl rfl rfl rfl ?_
  intro C
  refine wc_know (fun _ h => h.lenF m0) (fun e => ?_)
  subst e
  refine wc_know (fun _ h => h.lenF (ms m0)) (fun e => ?_)
  subst e
  refine wc_seq ?_
  refine wc_region ?_   -- region 0
  refine wl_det rfl rfl (det_assign rfl) rfl ?_
  refine wl_nil ?_
  refine pn_then ?_
  refine wc_seq ?_
  refine wc_seq ?_
  refine wc_region ?_   -- region 1
  refine wl_det rfl rfl (det_move rfl) rfl ?_
  refine wl_det rfl rfl (det_len rfl un39) rfl ?_
  refine wl_det rfl rfl (det_move rfl) rfl ?_
  refine wl_det rfl rfl (det_len rfl un39) rfl ?_
  refine wl_det rfl rfl (det_neq rfl rfl) rfl ?_
  refine wl_nil ?_
  refine pn_then ?_
  refine wc_cond rfl (fun c5 => ?_) (fun c5 => ?_)
  · have h := ifT h c5
    refine wc_seq ?_
    refine wc_region ?_   -- region 2
    refine wl_det rfl rfl (det_assign rfl) rfl ?_
    refine wl_nil ?_
    refine pn_then ?_
    refine wc_ret ?_
    refine pr_then ?_
    replace h := Option.some.inj h
    subst h
    refine pn_ret (vs := [_]) rfl ⟨rfl, trivial⟩ ⟨rfl, rfl, rfl⟩ (fun _ h => h.to trivial trivial)
  · have h := ifF h c5
    refine wc_skip ?_
    refine pn_then ?_
    obtain ⟨q8, h, ho8⟩ := bind_some h
    refine wc_meetG (G := Unit × Unit) (fun (s8, _) => (.inl s8) = q8) (fun (_, _) => []) (fun (_, _) => []) (fun (_, _) => []) ?_ ?_
    · refine wc_seq ?_
      refine wc_region ?_   -- region 3
      refine wl_det rfl rfl (det_move rfl) rfl ?_
      refine wl_det rfl rfl (det_len rfl un39) rfl ?_
      refine wl_det rfl rfl (det_move rfl) rfl ?_
      refine wl_nil ?_
      refine pn_then ?_
      refine wc_block ?_
      obtain ⟨o12, h, ho12⟩ := bind_some h
      obtain ⟨k12, hk12⟩ := loopV_some.1 h
      refine wc_loop (G := Nat × Int × Unit) (fun g => IterN (slices_Equal_s_api_Dividend_api_Dividend_l12 a0 a1) g.1 g.2.1 o12) (fun g => g.1) (fun (_, s12, _) => [(0, .slice A0 a0.length c0), (1, .slice A3 a1.length c3), (12, .int .i64 (a0.length : Int)), (13, .int .i64 s12)]) (fun (_, _, _) => []) (fun (_, _, _) => [fV (lSlice lGDividend) (.slice A0 a0.length c0) a0, fV (lSlice lGDividend) (.slice A3 a1.length c3) a1]) (k12, 0, ()) hk12 ⟨rfl, rfl, rfl, rfl, trivial⟩ (fun _ h => h.to trivial ⟨m0, ⟨(ms m0), trivial⟩⟩) ?_
      rintro ⟨k12, s12, _⟩ hI
      obtain ⟨k12, rfl, q12, h, g12⟩ := IterN.pos hI
      dsimp only at h ⊢
      unfold slices_Equal_s_api_Dividend_api_Dividend_l12 at h
      refine wc_seq ?_
      refine wc_region ?_   -- region 4
      refine wl_det rfl rfl (det_lss rfl rfl) rfl ?_
      refine wl_nil ?_
      refine pn_then ?_
      refine wc_seq ?_
      refine wc_cond rfl (fun c16 => ?_) (fun c16 => ?_)
      · have h := ifT h c16
        refine wc_skip ?_
        refine pn_then ?_
        refine wc_seq ?_
        refine wc_block ?_
        refine wc_seq ?_
        refine wc_region ?_   -- region 5
        refine wl_det rfl rfl (det_move rfl) rfl ?_
        refine wl_det rfl rfl (det_assign rfl) rfl ?_
        refine wl_nil ?_
        refine pn_then ?_
        refine wc_seq ?_
        obtain ⟨k6_p1, h⟩ := chk_some h
        refine wc_st (fun _ h => h.openF m0 k6_p1) ?_
        obtain ⟨k6_p3, h⟩ := chk_some h
        refine wc_st (fun _ h => h.openF (ms (ms m0)) k6_p3) ?_
        refine dx_region 9 [[], [], [0, 1], [0, 1, 2], [], [], [4, 5], [4, 5, 6], [0, 1, 2, 3, 4, 5, 6, 7]] mixed (ord := (.det 0 (.det 1 (.det 2 (.det 3 (.det 4 (.det 5 (.det 6 (.det 7 (.det 8 .done)))))))))) (by kernel_rfl) ?_   -- region 6
        refine hx_det rfl rfl rfl nofun (det_move rfl) rfl ?_
        refine hx_det rfl rfl rfl nofun (det_move rfl) rfl ?_
        refine hx_det rfl rfl rfl nofun (det_indexP rfl rfl (ms (ms m0)) k6_p1 (ms m0) un39 sz46) rfl ?_
        refine hx_det rfl rfl rfl nofun (det_loadP (off := 0) rfl (ms m0) (by rfl) (by rfl) (loaded_n (cells := [_, _, _, _, _]) ag46 sz46)) rfl ?_
        refine hx_det rfl rfl rfl nofun (det_move rfl) rfl ?_
        refine hx_det rfl rfl rfl nofun (det_move rfl) rfl ?_
        refine hx_det rfl rfl rfl nofun (det_indexP rfl rfl (ms (ms (ms m0))) k6_p3 m0 un39 sz46) rfl ?_
        refine hx_det rfl rfl rfl nofun (det_loadP (off := 0) rfl m0 (by rfl) (by rfl) (loaded_n (cells := [_, _, _, _, _]) ag46 sz46)) rfl ?_
        refine hx_det rfl rfl rfl nofun (det_neqS [_, _, _, _, _] [_, _, _, _, _] eq46 rfl rfl rfl rfl) rfl ?_
        refine hx_end ?_
        refine wl_nil ?_
        refine pn_then ?_
        refine wc_cond rfl (fun c24 => ?_) (fun c24 => ?_)
        · have h := ifT h c24
          refine wc_seq ?_
          refine wc_region ?_   -- region 7
          refine wl_det rfl rfl (det_assign rfl) rfl ?_
          refine wl_nil ?_
          refine pn_then ?_
          refine wc_ret ?_
          refine pr_block ?_
          refine pr_then ?_
          refine pr_then ?_
          refine pr_block ?_
          refine pr_then ?_
          replace h := Option.some.inj h
          subst h
          replace g12 := nextR g12
          subst g12
          have h := (elimL ho12)
          replace h := Option.some.inj h
          subst h
          have h := (elimR ho8)
          replace h := Option.some.inj h
          subst h
          refine pn_ret (vs := [_]) rfl ⟨rfl, trivial⟩ ⟨rfl, rfl, rfl⟩ (fun _ h => h.to trivial trivial)
        · have h := ifF h c24
          refine wc_skip ?_
          refine pn_block ?_
          refine pn_then ?_
          refine wc_region ?_   -- region 8
          refine wl_det rfl rfl (det_add rfl rfl) rfl ?_
          refine wl_det rfl rfl (det_move rfl) rfl ?_
          refine wl_nil ?_
          replace h := Option.some.inj h
          subst h
          exact pn_some (k12, (w64 (s12 + 1)), ()) ⟨nextL g12, Nat.lt_succ_self _⟩ ⟨rfl, rfl, rfl, rfl, trivial⟩ (fun _ h => h.to trivial ⟨(ms (ms m0)), ⟨(ms (ms (ms m0))), trivial⟩⟩)
      · have h := ifF h c16
        refine wc_exit ?_
        refine px_then ?_
        refine px_then ?_
        refine px_block ?_
        replace h := Option.some.inj h
        subst h
        replace g12 := nextR g12
        subst g12
        have h := (elimR ho12)
        replace h := Option.some.inj h
        subst h
        exact pn_meetG ((), ()) rfl trivial (fun _ h => h.to trivial trivial)
    rintro ⟨s8, _⟩ e8
    dsimp only at e8 ⊢
    subst e8
    have h := (elimL ho8)
    refine wc_seq ?_
    refine wc_region ?_   -- region 9
    refine wl_det rfl rfl (det_assign rfl) rfl ?_
    refine wl_nil ?_
    refine pn_then ?_
    refine wc_ret ?_
    replace h := Option.some.inj h
    subst h
    refine pn_ret (vs := [_]) rfl ⟨rfl, trivial⟩ ⟨rfl, rfl, rfl⟩ (fun _ h => h.to trivial trivial)
def Q_insolvency_Check (r : Bool) : Value → List Ent → List Fact → Prop := fun v θ κ => v = .bool r ∧ θ = [] ∧ κ = []
theorem plains_insolvency_Check {r : Bool} : ∀ v θ κ, Q_insolvency_Check r v θ κ → Plains θ := by
  rintro _ _ _ ⟨rfl, rfl, rfl⟩
  exact trivial
set_option maxHeartbeats 4000000 in
set_option maxRecDepth 100000 in
theorem W_insolvency_Check (a0 : Int) (a1 : (List GMutual)) (a2 : (List GDividend)) (a3 : Int) (A0 : Option Addr) (n0 : Nat) (c0 : Nat) (A3 : Option Addr) (n3 : Nat) (c3 : Nat) (r : Bool) (h : insolvency_Check a0 a1 a2 a3 = some r) : Spec Try.prog 34 [.int .i64 a0, .slice A0 n0 c0, .slice A3 n3 c3, .int .i64 a3] [] [fV (lSlice lGMutual) (.slice A0 n0 c0) a1, fV (lSlice lGDividend) (.slice A3 n3 c3) a2] (Q_insolvency_Check r) := by
  unfold insolvency_Check at h
  refine spec_of (σ := [(0, _), (1, _), (2, _), (3, _)]) Try.func34 rfl rfl rfl rfl ?_
  intro C
  refine wc_know (fun _ h => h.lenF m0) (fun e => ?_)
  subst e
  refine wc_know (fun _ h => h.lenF (ms m0)) (fun e => ?_)
  subst e
  refine wc_seq ?_
  refine wc_region ?_   -- region 0
  refine wl_det rfl rfl (det_assign rfl) rfl ?_
  refine wl_nil ?_
  refine pn_then ?_
  refine wc_seq ?_
  refine wc_region ?_   -- region 1
  refine wl_det rfl rfl (det_move rfl) rfl ?_
  refine wl_det rfl rfl (det_move rfl) rfl ?_
  obtain ⟨r1_2, hr1_2, h⟩ := bind_some h
  refine wl_act (act_callS (cap := []) (W_insolvency_Distribute a0 a1 A0 a1.length c0 r1_2 hr1_2) rfl rfl rfl bd27 rfl ⟨m0, trivial⟩) rfl rfl rfl ?_
  rintro _ _ _ ⟨_, _, ⟨y1_2A0, y1_2n0, y1_2c0, rfl, rfl, rfl⟩, rfl, rfl⟩
  dsimp only [List.nil_append, List.cons_append]
  refine wl_know (fun _ h => h.lenO m0) (fun e => ?_)
  subst e
  refine wl_det rfl rfl (det_move rfl) rfl ?_
  refine wl_det rfl rfl (det_extract rfl rfl) rfl ?_
  refine wl_det rfl rfl (det_extract rfl rfl) rfl ?_
  refine wl_det rfl rfl (det_extract rfl rfl) rfl ?_
  refine wl_det rfl rfl (det_assign rfl) rfl ?_
  refine wl_det rfl rfl (det_assign rfl) rfl ?_
  refine wl_det rfl rfl (det_assign rfl) rfl ?_
  refine wl_nil ?_
  refine pn_then ?_
  refine wc_seq ?_
  refine wc_region ?_   -- region 2
  refine wl_det rfl rfl (det_move rfl) rfl ?_
  refine wl_det rfl rfl (det_eql rfl rfl) rfl ?_
  refine wl_det rfl rfl (det_move rfl) rfl ?_
  refine wl_way (decide (r1_2.2.2 = 0)) ((decide (r1_2.2.2 = 0)) && (decide (r1_2.2.1 = a3))) 4 25 (fun hg => ?_) (fun hg => ?_) ?_
  · have hg2_6 := hg
    refine wl_on rfl rfl rfl rfl hg2_6 ?_
    refine wl_det rfl rfl (det_move rfl) rfl ?_
    refine wl_on rfl rfl rfl rfl hg2_6 ?_
    refine wl_det rfl rfl (det_move rfl) rfl ?_
    refine wl_on rfl rfl rfl rfl hg2_6 ?_
    refine wl_det rfl rfl (det_eql rfl rfl) rfl ?_
    refine wl_det rfl rfl (det_and_on rfl rfl rfl hg2_6) rfl ?_
    exact wl_nil (pn_qnE (ext_cons rfl (ext_skip rfl (ext_skip rfl (ext_skip rfl (ext_skip rfl ext_refl))))) (fun _ h => h))
  · have hg2_6a := hg
    refine wl_off rfl rfl rfl rfl rfl hg2_6a rfl ?_
    refine wl_off rfl rfl rfl rfl rfl hg2_6a rfl ?_
    refine wl_off rfl rfl rfl rfl rfl hg2_6a rfl ?_
    refine wl_det rfl rfl (det_and_off (q := (decide (r1_2.2.1 = a3))) rfl rfl rfl hg2_6a) rfl ?_
    exact wl_nil (pn_qnE (ext_cons rfl (ext_skip rfl (ext_skip rfl (ext_skip rfl (ext_skip rfl ext_refl))))) (fun _ h => h))
  refine wl_det rfl rfl (det_move rfl) rfl ?_
  obtain ⟨q2_11, hq2_11, h⟩ := bind_some h
  have ho2_11 := h
  refine wl_way ((decide (r1_2.2.2 = 0)) && (decide (r1_2.2.1 = a3))) q2_11 4 30 (fun hg => ?_) (fun hg => ?_) ?_
  · have hg2_11 := hg
    have h := ifT hq2_11 hg
    refine wl_on rfl rfl rfl rfl hg2_11 ?_
    refine wl_det rfl rfl (det_move rfl) rfl ?_
    refine wl_on rfl rfl rfl rfl hg2_11 ?_
    refine wl_det rfl rfl (det_move rfl) rfl ?_
    refine wl_on rfl rfl rfl rfl hg2_11 ?_
    obtain ⟨r2_10, hr2_10, h⟩ := bind_some h
    refine wl_act (act_callL (cap := []) [eS lGDividend 46 y1_2A0 r1_2.1.length y1_2c0 r1_2.1] (W_slices_Equal_s_api_Dividend_api_Dividend r1_2.1 a2 y1_2A0 r1_2.1.length y1_2c0 A3 a2.length c3 r2_10 hr2_10) plains_slices_Equal_s_api_Dividend_api_Dividend rfl rfl rfl bd50 rfl ⟨m0, trivial⟩ ⟨.inr ⟨_, m0, lent_eS⟩, ⟨.inl (ms m0), trivial⟩⟩) rfl rfl rfl ?_
    rintro _ _ _ ⟨_, _, ⟨rfl, rfl, rfl⟩, rfl, rfl⟩
    dsimp only [List.nil_append, List.cons_append]
    replace h := Option.some.inj h
    subst h
    refine wl_det rfl rfl (det_pick_on rfl hg2_11 rfl rfl) rfl ?_
    exact wl_nil (pn_qnE (ext_cons rfl (ext_skip rfl (ext_skip rfl (ext_skip rfl (ext_skip rfl ext_refl))))) (fun _ h => h))
  · have hg2_11a := hg
    have h := ifF hq2_11 hg
    refine wl_off rfl rfl rfl rfl rfl hg2_11a rfl ?_
    refine wl_off rfl rfl rfl rfl rfl hg2_11a rfl ?_
    refine wl_off rfl rfl rfl rfl rfl hg2_11a rfl ?_
    replace h := Option.some.inj h
    subst h
    refine wl_det rfl rfl (det_pick_off rfl hg2_11a rfl rfl) rfl ?_
    exact wl_nil (pn_qnE (ext_cons rfl (ext_skip rfl (ext_skip rfl (ext_skip rfl (ext_skip rfl ext_refl))))) (fun _ h => h))
  have h := ho2_11
  refine wl_det rfl rfl (det_assign rfl) rfl ?_
  refine wl_nil ?_
  refine pn_then ?_
  refine wc_ret ?_
  replace h := Option.some.inj h
  subst h
  refine pn_ret (vs := [_]) rfl ⟨rfl, trivial⟩ ⟨rfl, rfl, rfl⟩ (fun _ h => h.to trivial trivial)
def Q_treatylaw38_InsolvencyCheck (r : Bool) : Value → List Ent → List Fact → Prop := fun v θ κ => v = .bool r ∧ θ = [] ∧ κ = []
theorem plains_treatylaw38_InsolvencyCheck {r : Bool} : ∀ v θ κ, Q_treatylaw38_InsolvencyCheck r v θ κ → Plains θ := by
  rintro _ _ _ ⟨rfl, rfl, rfl⟩
  exact trivial
set_option maxHeartbeats 4000000 in
set_option maxRecDepth 100000 in
theorem W_treatylaw38_InsolvencyCheck (a0 : Int) (a1 : (List GMutual)) (a2 : (List GDividend)) (a3 : Int) (a4 : (List Int)) (a5 : Int) (a6 : Int) (A0 : Option Addr) (n0 : Nat) (c0 : Nat) (A3 : Option Addr) (n3 : Nat) (c3 : Nat) (A6 : Option Addr) (n6 : Nat) (c6 : Nat) (r : Bool) (h : treatylaw38_InsolvencyCheck a0 a1 a2 a3 a4 a5 a6 = some r) : Spec Try.prog 12 [.int .i64 a0, .slice A0 n0 c0, .slice A3 n3 c3, .int .i64 a3, .slice A6 n6 c6, .int .i64 a5, .int .i64 a6] [] [fV (lSlice lGMutual) (.slice A0 n0 c0) a1, fV (lSlice lGDividend) (.slice A3 n3 c3) a2, fV (lSlice (lInt .i64)) (.slice A6 n6 c6) a4] (Q_treatylaw38_InsolvencyCheck r) := by
  unfold treatylaw38_InsolvencyCheck at h
  refine spec_of (σ := [(0, _), (1, _), (2, _), (3, _), (4, _), (5, _), (6, _)]) Try.func12 rfl rfl rfl rfl ?_
  intro C
  refine wc_know (fun _ h => h.lenF m0) (fun e => ?_)
  subst e
  refine wc_know (fun _ h => h.lenF (ms m0)) (fun e => ?_)
  subst e
  refine wc_know (fun _ h => h.lenF (ms (ms m0))) (fun e => ?_)
  subst e
  refine wc_seq ?_
  refine wc_region ?_   -- region 0
  refine wl_det rfl rfl (det_assign rfl) rfl ?_
  refine wl_nil ?_
  refine pn_then ?_
  refine wc_seq ?_
  refine wc_seq ?_
  refine wc_region ?_   -- region 1
  refine wl_det rfl rfl (det_move rfl) rfl ?_
  refine wl_det rfl rfl (det_len rfl un36) rfl ?_
  refine wl_det rfl rfl (det_gtr rfl rfl) rfl ?_
  refine wl_det rfl rfl (det_move rfl) rfl ?_
  refine wl_way (decide (100 < (a1.length : Int))) ((decide (100 < (a1.length : Int))) || (decide (100 < (a2.length : Int)))) 4 34 (fun hg => ?_) (fun hg => ?_) ?_
  · have hg1_7 := hg
    refine wl_off rfl rfl rfl rfl rfl hg1_7 rfl ?_
    refine wl_off rfl rfl rfl rfl rfl hg1_7 rfl ?_
    refine wl_off rfl rfl rfl rfl rfl hg1_7 rfl ?_
    refine wl_det rfl rfl (det_or_on (r := (decide (100 < (a2.length : Int)))) rfl rfl rfl hg1_7) rfl ?_
    exact wl_nil (pn_qnE (ext_cons rfl (ext_skip rfl (ext_skip rfl (ext_skip rfl (ext_skip rfl ext_refl))))) (fun _ h => h))
  · have hg1_7a := hg
    refine wl_on rfl rfl rfl rfl hg1_7a ?_
    refine wl_det rfl rfl (det_move rfl) rfl ?_
    refine wl_on rfl rfl rfl rfl hg1_7a ?_
    refine wl_det rfl rfl (det_len rfl un39) rfl ?_
    refine wl_on rfl rfl rfl rfl hg1_7a ?_
    refine wl_det rfl rfl (det_gtr rfl rfl) rfl ?_
    refine wl_det rfl rfl (det_or_off rfl rfl rfl hg1_7a) rfl ?_
    exact wl_nil (pn_qnE (ext_cons rfl (ext_skip rfl (ext_skip rfl (ext_skip rfl (ext_skip rfl ext_refl))))) (fun _ h => h))
  refine wl_nil ?_
  refine pn_then ?_
  refine wc_cond rfl (fun c5 => ?_) (fun c5 => ?_)
  · have h := ifT h c5
    refine wc_seq ?_
    refine wc_region ?_   -- region 2
    obtain ⟨r2_0, hr2_0, h⟩ := bind_some h
    refine wl_act (act_callS (cap := []) (W_treatylaw38_awake r2_0 hr2_0) rfl rfl rfl bd23 rfl trivial) rfl rfl rfl ?_
    rintro _ _ _ ⟨_, _, ⟨rfl, rfl, rfl⟩, rfl, rfl⟩
    dsimp only [List.nil_append, List.cons_append]
    refine wl_det rfl rfl (det_assign rfl) rfl ?_
    refine wl_nil ?_
    refine pn_then ?_
    refine wc_ret ?_
    refine pr_then ?_
    replace h := Option.some.inj h
    subst h
    refine pn_ret (vs := [_]) rfl ⟨rfl, trivial⟩ ⟨rfl, rfl, rfl⟩ (fun _ h => h.to trivial trivial)
  · have h := ifF h c5
    refine wc_skip ?_
    refine pn_then ?_
    refine wc_seq ?_
    refine wc_region ?_   -- region 3
    refine wl_det rfl rfl (det_move rfl) rfl ?_
    obtain ⟨r3_1, hr3_1, h⟩ := bind_some h
    refine wl_act (act_callS (cap := []) (W_treatymade2_New a4 A6 a4.length c6 r3_1 hr3_1) rfl rfl rfl bd24 rfl ⟨(ms (ms m0)), trivial⟩) rfl rfl rfl ?_
    rintro _ _ _ ⟨_, _, ⟨y3_1b0, y3_1A1, y3_1n1, y3_1c1, rfl, rfl, rfl⟩, rfl, rfl⟩
    dsimp only [List.nil_append, List.cons_append]
    refine wl_know (fun _ h => h.lenF m0) (fun e => ?_)
    subst e
    refine wl_det rfl rfl (det_assign rfl) rfl ?_
    refine wl_nil ?_
    refine pn_then ?_
    refine wc_seq ?_
    refine wc_region ?_   -- region 4
    refine wl_det rfl rfl (det_move rfl) rfl ?_
    obtain ⟨r4_1, hr4_1, h⟩ := bind_some h
    refine wl_act (act_callS (cap := []) (W_treatymade2_Mutuals r3_1 y3_1b0 y3_1A1 r3_1.L.length y3_1c1 r4_1 hr4_1) rfl rfl rfl bd25 ⟨_, r0, rfl⟩ ⟨m0, trivial⟩) rfl rfl rfl ?_
    rintro _ _ _ ⟨_, _, ⟨y4_1A0, y4_1n0, y4_1c0, y4_1A1, y4_1n1, y4_1c1, rfl, rfl, rfl⟩, rfl, rfl⟩
    dsimp only [List.nil_append, List.cons_append]
    refine wl_know (fun _ h => h.lenO m0) (fun e => ?_)
    subst e
    refine wl_know (fun _ h => h.lenF m0) (fun e => ?_)
    subst e
    refine wl_det rfl rfl (det_assign rfl) rfl ?_
    refine wl_nil ?_
    refine pn_then ?_
    refine wc_seq ?_
    refine wc_region ?_   -- region 5
    refine wl_det rfl rfl (det_move rfl) rfl ?_
    obtain ⟨r5_1, hr5_1, h⟩ := bind_some h
    refine wl_act (act_callS (cap := []) (W_treatymade2_Small r4_1.2 y3_1b0 y4_1A1 r4_1.2.L.length y4_1c1 r5_1 hr5_1) rfl rfl rfl bd26 ⟨_, (rs r0), rfl⟩ ⟨m0, trivial⟩) rfl rfl rfl ?_
    rintro _ _ _ ⟨_, _, ⟨y5_1A0, y5_1n0, y5_1c0, rfl, rfl, rfl⟩, rfl, rfl⟩
    dsimp only [List.nil_append, List.cons_append]
    refine wl_know (fun _ h => h.lenF m0) (fun e => ?_)
    subst e
    refine wl_det rfl rfl (det_assign rfl) rfl ?_
    refine wl_nil ?_
    refine pn_then ?_
    refine wc_seq ?_
    refine wc_region ?_   -- region 6
    refine wl_det rfl rfl (det_move rfl) rfl ?_
    refine wl_det rfl rfl (det_move rfl) rfl ?_
    obtain ⟨r6_2, hr6_2, h⟩ := bind_some h
    refine wl_act (act_callL (cap := []) [eS lGMutual 48 y4_1A0 r4_1.1.length y4_1c0 r4_1.1] (W_treatyref33_Distribute r5_1.1 r4_1.1 y4_1A0 r4_1.1.length y4_1c0 r6_2 hr6_2) plains_treatyref33_Distribute rfl rfl rfl bd28 rfl ⟨(ms m0), trivial⟩ ⟨.inr ⟨_, m0, lent_eS⟩, trivial⟩) rfl rfl rfl ?_
    rintro _ _ _ ⟨_, _, ⟨y6_2A0, y6_2n0, y6_2c0, rfl, rfl, rfl⟩, rfl, rfl⟩
    dsimp only [List.nil_append, List.cons_append]
    refine wl_know (fun _ h => h.lenO m0) (fun e => ?_)
    subst e
    refine wl_det rfl rfl (det_move rfl) rfl ?_
    refine wl_det rfl rfl (det_extract rfl rfl) rfl ?_
    refine wl_det rfl rfl (det_extract rfl rfl) rfl ?_
    refine wl_det rfl rfl (det_extract rfl rfl) rfl ?_
    refine wl_det rfl rfl (det_assign rfl) rfl ?_
    refine wl_det rfl rfl (det_assign rfl) rfl ?_
    refine wl_det rfl rfl (det_assign rfl) rfl ?_
    refine wl_nil ?_
    refine pn_then ?_
    refine wc_seq ?_
    refine wc_seq ?_
    refine wc_region ?_   -- region 7
    refine wl_det rfl rfl (det_move rfl) rfl ?_
    refine wl_det rfl rfl (det_neq rfl rfl) rfl ?_
    refine wl_det rfl rfl (det_move rfl) rfl ?_
    obtain ⟨q7_9, hq7_9, h⟩ := bind_some h
    have ho7_9 := h
    refine wl_way (!decide (r6_2.2.2 = 0)) q7_9 7 58 (fun hg => ?_) (fun hg => ?_) ?_
    · have hg7_9 := hg
      have h := ifT hq7_9 hg
      refine wl_off rfl rfl rfl rfl rfl hg7_9 rfl ?_
      refine wl_off rfl rfl rfl rfl rfl hg7_9 rfl ?_
      refine wl_off rfl rfl rfl rfl rfl hg7_9 rfl ?_
      refine wl_off rfl rfl rfl rfl rfl hg7_9 rfl ?_
      refine wl_off rfl rfl rfl rfl rfl hg7_9 rfl ?_
      refine wl_off rfl rfl rfl rfl rfl hg7_9 rfl ?_
      replace h := Option.some.inj h
      subst h
      refine wl_det rfl rfl (det_pick_on rfl hg7_9 rfl rfl) rfl ?_
      exact wl_nil (pn_qnE (ext_cons rfl (ext_skip rfl (ext_skip rfl (ext_skip rfl (ext_skip rfl (ext_skip rfl (ext_skip rfl (ext_skip rfl ext_refl)))))))) (fun _ h => h))
    · have hg7_9a := hg
      have h := ifF hq7_9 hg
      refine wl_on rfl rfl rfl rfl hg7_9a ?_
      refine wl_det rfl rfl (det_move rfl) rfl ?_
      refine wl_on rfl rfl rfl rfl hg7_9a ?_
      refine wl_det rfl rfl (det_move rfl) rfl ?_
      refine wl_on rfl rfl rfl rfl hg7_9a ?_
      refine wl_det rfl rfl (det_move rfl) rfl ?_
      refine wl_on rfl rfl rfl rfl hg7_9a ?_
      refine wl_det rfl rfl (det_move rfl) rfl ?_
      refine wl_on rfl rfl rfl rfl hg7_9a ?_
      obtain ⟨r7_7, hr7_7, h⟩ := bind_some h
      refine wl_act (act_callL (cap := []) [eS lGMutual 48 y4_1A0 r4_1.1.length y4_1c0 r4_1.1, eS lGDividend 46 y6_2A0 r6_2.1.length y6_2c0 r6_2.1] (W_insolvency_Check r5_1.1 r4_1.1 r6_2.1 r6_2.2.1 y4_1A0 r4_1.1.length y4_1c0 y6_2A0 r6_2.1.length y6_2c0 r7_7 hr7_7) plains_insolvency_Check rfl rfl rfl bd34 rfl ⟨(ms (ms m0)), ⟨m0, trivial⟩⟩ ⟨.inr ⟨_, m0, lent_eS⟩, ⟨.inr ⟨_, (ms m0), lent_eS⟩, trivial⟩⟩) rfl rfl rfl ?_
      rintro _ _ _ ⟨_, _, ⟨rfl, rfl, rfl⟩, rfl, rfl⟩
      dsimp only [List.nil_append, List.cons_append]
      refine wl_on rfl rfl rfl rfl hg7_9a ?_
      refine wl_det rfl rfl (det_not rfl) rfl ?_
      replace h := Option.some.inj h
      subst h
      refine wl_det rfl rfl (det_pick_off rfl hg7_9a rfl rfl) rfl ?_
      exact wl_nil (pn_qnE (ext_cons rfl (ext_skip rfl (ext_skip rfl (ext_skip rfl (ext_skip rfl (ext_skip rfl (ext_skip rfl (ext_skip rfl ext_refl)))))))) (fun _ h => h))
    have h := ho7_9
    refine wl_nil ?_
    refine pn_then ?_
    refine wc_cond rfl (fun c19 => ?_) (fun c19 => ?_)
    · have h := ifT h c19
      refine wc_seq ?_
      refine wc_region ?_   -- region 8
      refine wl_det rfl rfl (det_assign rfl) rfl ?_
      refine wl_nil ?_
      refine pn_then ?_
      refine wc_ret ?_
      refine pr_then ?_
      replace h := Option.some.inj h
      subst h
      refine pn_ret (vs := [_]) rfl ⟨rfl, trivial⟩ ⟨rfl, rfl, rfl⟩ (fun _ h => h.to trivial trivial)
    · have h := ifF h c19
      refine wc_skip ?_
      refine pn_then ?_
      refine wc_seq ?_
      refine wc_region ?_   -- region 9
      refine wl_det rfl rfl (det_move rfl) rfl ?_
      refine wl_det rfl rfl (det_move rfl) rfl ?_
      obtain ⟨r9_2, hr9_2, h⟩ := bind_some h
      refine wl_act (act_callS (cap := []) (W_treatyref33_Distribute a0 a1 A0 a1.length c0 r9_2 hr9_2) rfl rfl rfl bd28 rfl ⟨(ms (ms (ms m0))), trivial⟩) rfl rfl rfl ?_
      rintro _ _ _ ⟨_, _, ⟨y9_2A0, y9_2n0, y9_2c0, rfl, rfl, rfl⟩, rfl, rfl⟩
      dsimp only [List.nil_append, List.cons_append]
      refine wl_know (fun _ h => h.lenO m0) (fun e => ?_)
      subst e
      refine wl_det rfl rfl (det_move rfl) rfl ?_
      refine wl_det rfl rfl (det_extract rfl rfl) rfl ?_
      refine wl_det rfl rfl (det_extract rfl rfl) rfl ?_
      refine wl_det rfl rfl (det_extract rfl rfl) rfl ?_
      refine wl_det rfl rfl (det_assign rfl) rfl ?_
      refine wl_det rfl rfl (det_assign rfl) rfl ?_
      refine wl_det rfl rfl (det_assign rfl) rfl ?_
      refine wl_nil ?_
      refine pn_then ?_
      refine wc_seq ?_
      refine wc_seq ?_
      refine wc_region ?_   -- region 10
      refine wl_det rfl rfl (det_move rfl) rfl ?_
      refine wl_det rfl rfl (det_move rfl) rfl ?_
      refine wl_det rfl rfl (det_move rfl) rfl ?_
      refine wl_det rfl rfl (det_move rfl) rfl ?_
      obtain ⟨r10_4, hr10_4, h⟩ := bind_some h
      refine wl_act (act_callS (cap := []) (W_insolvency_Check a0 a1 a2 a3 A0 a1.length c0 A3 a2.length c3 r10_4 hr10_4) rfl rfl rfl bd34 rfl ⟨(ms (ms (ms m0))), ⟨(ms (ms (ms (ms m0)))), trivial⟩⟩) rfl rfl rfl ?_
      rintro _ _ _ ⟨_, _, ⟨rfl, rfl, rfl⟩, rfl, rfl⟩
      dsimp only [List.nil_append, List.cons_append]
      refine wl_det rfl rfl (det_move rfl) rfl ?_
      refine wl_det rfl rfl (det_eql rfl rfl) rfl ?_
      refine wl_det rfl rfl (det_move rfl) rfl ?_
      obtain ⟨q10_11, hq10_11, h⟩ := bind_some h
      have ho10_11 := h
      refine wl_way (decide (r9_2.2.2 = 0)) q10_11 4 77 (fun hg => ?_) (fun hg => ?_) ?_
      · have hg10_11 := hg
        have h := ifT hq10_11 hg
        refine wl_on rfl rfl rfl rfl hg10_11 ?_
        refine wl_det rfl rfl (det_move rfl) rfl ?_
        refine wl_on rfl rfl rfl rfl hg10_11 ?_
        refine wl_det rfl rfl (det_move rfl) rfl ?_
        refine wl_on rfl rfl rfl rfl hg10_11 ?_
        obtain ⟨r10_10, hr10_10, h⟩ := bind_some h
        refine wl_act (act_callL (cap := []) [eS lGDividend 46 y9_2A0 r9_2.1.length y9_2c0 r9_2.1] (W_treatyref33_SameDividends r9_2.1 a2 y9_2A0 r9_2.1.length y9_2c0 A3 a2.length c3 r10_10 hr10_10) plains_treatyref33_SameDividends rfl rfl rfl bd29 rfl ⟨m0, trivial⟩ ⟨.inr ⟨_, m0, lent_eS⟩, ⟨.inl (ms (ms (ms (ms m0)))), trivial⟩⟩) rfl rfl rfl ?_
        rintro _ _ _ ⟨_, _, ⟨rfl, rfl, rfl⟩, rfl, rfl⟩
        dsimp only [List.nil_append, List.cons_append]
        replace h := Option.some.inj h
        subst h
        refine wl_det rfl rfl (det_pick_on rfl hg10_11 rfl rfl) rfl ?_
        exact wl_nil (pn_qnE (ext_cons rfl (ext_skip rfl (ext_skip rfl (ext_skip rfl (ext_skip rfl ext_refl))))) (fun _ h => h))
      · have hg10_11a := hg
        have h := ifF hq10_11 hg
        refine wl_off rfl rfl rfl rfl rfl hg10_11a rfl ?_
        refine wl_off rfl rfl rfl rfl rfl hg10_11a rfl ?_
        refine wl_off rfl rfl rfl rfl rfl hg10_11a rfl ?_
        replace h := Option.some.inj h
        subst h
        refine wl_det rfl rfl (det_pick_off rfl hg10_11a rfl rfl) rfl ?_
        exact wl_nil (pn_qnE (ext_cons rfl (ext_skip rfl (ext_skip rfl (ext_skip rfl (ext_skip rfl ext_refl))))) (fun _ h => h))
      have h := ho10_11
      refine wl_det rfl rfl (det_move rfl) rfl ?_
      refine wl_way q10_11 (q10_11 && (decide (r9_2.2.1 = a3))) 4 82 (fun hg => ?_) (fun hg => ?_) ?_
      · have hg10_16 := hg
        refine wl_on rfl rfl rfl rfl hg10_16 ?_
        refine wl_det rfl rfl (det_move rfl) rfl ?_
        refine wl_on rfl rfl rfl rfl hg10_16 ?_
        refine wl_det rfl rfl (det_move rfl) rfl ?_
        refine wl_on rfl rfl rfl rfl hg10_16 ?_
        refine wl_det rfl rfl (det_eql rfl rfl) rfl ?_
        refine wl_det rfl rfl (det_and_on rfl rfl rfl hg10_16) rfl ?_
        exact wl_nil (pn_qnE (ext_cons rfl (ext_skip rfl (ext_skip rfl (ext_skip rfl (ext_skip rfl ext_refl))))) (fun _ h => h))
      · have hg10_16a := hg
        refine wl_off rfl rfl rfl rfl rfl hg10_16a rfl ?_
        refine wl_off rfl rfl rfl rfl rfl hg10_16a rfl ?_
        refine wl_off rfl rfl rfl rfl rfl hg10_16a rfl ?_
        refine wl_det rfl rfl (det_and_off (q := (decide (r9_2.2.1 = a3))) rfl rfl rfl hg10_16a) rfl ?_
        exact wl_nil (pn_qnE (ext_cons rfl (ext_skip rfl (ext_skip rfl (ext_skip rfl (ext_skip rfl ext_refl))))) (fun _ h => h))
      refine wl_det rfl rfl (det_bneq rfl rfl un4) rfl ?_
      refine wl_nil ?_
      refine pn_then ?_
      refine wc_cond rfl (fun c27 => ?_) (fun c27 => ?_)
      · have h := ifT h c27
        refine wc_seq ?_
        refine wc_region ?_   -- region 11
        refine wl_det rfl rfl (det_assign rfl) rfl ?_
        refine wl_nil ?_
        refine pn_then ?_
        refine wc_ret ?_
        refine pr_then ?_
        replace h := Option.some.inj h
        subst h
        refine pn_ret (vs := [_]) rfl ⟨rfl, trivial⟩ ⟨rfl, rfl, rfl⟩ (fun _ h => h.to trivial trivial)
      · have h := ifF h c27
        refine wc_skip ?_
        refine pn_then ?_
        refine wc_seq ?_
        refine wc_region ?_   -- region 12
        refine wl_act (act_lit0S lGDividend un39 (by kernel_rfl)) rfl rfl rfl ?_
        rintro _ _ _ ⟨A12_0, rfl, rfl, rfl⟩
        refine wl_det rfl rfl (det_move rfl) rfl ?_
        obtain ⟨k12_2, h⟩ := chk_some h
        refine wl_act (act_appendS0 (L := lGDividend) rfl rfl s0 (src_O (ms (ms m0))) un39 in46 rfl rfl rfl k12_2) rfl rfl rfl ?_
        rintro _ _ _ ⟨A12_2, c12_2, rfl, rfl, rfl⟩
        refine wl_det rfl rfl (det_assign rfl) rfl ?_
        refine wl_nil ?_
        refine pn_then ?_
        obtain ⟨q32, h, ho32⟩ := bind_some h
        refine wc_meetG (G := (List GDividend) × Unit) (fun (s32, _) => s32 = q32) (fun (_, _) => [(6, .int .i64 a6), (16, .slice y4_1A0 r4_1.1.length y4_1c0), (17, .int .i64 r5_1.1), (18, .slice y6_2A0 r6_2.1.length y6_2c0), (19, .int .i64 r6_2.2.1), (24, .slice A12_2 r6_2.1.length c12_2)]) (fun (s32, _) => [eS lGMutual 48 y4_1A0 r4_1.1.length y4_1c0 r4_1.1, eS lGDividend 46 y6_2A0 r6_2.1.length y6_2c0 r6_2.1, eS lGDividend 46 A12_2 r6_2.1.length c12_2 s32]) (fun (_, _) => []) ?_ ?_
        · refine wc_seq ?_
          refine wc_region ?_   -- region 13
          refine wl_det rfl rfl (det_move rfl) rfl ?_
          refine wl_det rfl rfl (det_len rfl un39) rfl ?_
          refine wl_det rfl rfl (det_gtr rfl rfl) rfl ?_
          refine wl_nil ?_
          refine pn_then ?_
          refine wc_cond rfl (fun c35 => ?_) (fun c35 => ?_)
          · have h := ifT h c35
            refine wc_seq ?_
            refine wc_region ?_   -- region 14
            refine wl_det rfl rfl (det_move rfl) rfl ?_
            refine wl_det rfl rfl (det_move rfl) rfl ?_
            refine wl_det rfl rfl (det_shr rfl rfl rfl) rfl ?_
            refine wl_det rfl rfl (det_band rfl rfl) rfl ?_
            refine wl_det rfl rfl (det_move rfl) rfl ?_
            refine wl_det rfl rfl (det_len rfl un39) rfl ?_
            obtain ⟨k14_6, h⟩ := chk_some h
            refine wl_det rfl rfl (det_remB rfl rfl k14_6) rfl ?_
            obtain ⟨k14_7, h⟩ := chk_some h
            refine wl_det rfl rfl (det_indexO rfl rfl m0 k14_7 un39 sz46) rfl ?_
            refine wl_det rfl rfl (det_assign rfl) rfl ?_
            refine wl_nil ?_
            refine pn_then ?_
            refine wc_seq ?_
            refine dx_region 16 [[], [0], [0, 1], [], [3], [3, 4], [], [6], [6, 7], [], [9], [9, 10], [], [12], [12, 13], [0, 1, 2, 3, 4, 5, 6, 7, 8, 9, 10, 11, 12, 13, 14], [0, 1, 2, 3, 4, 5, 6, 7, 8, 9, 10, 11, 12, 13, 14, 15]] mixed (ord := (.det 0 (.det 1 (.det 2 (.det 3 (.det 4 (.det 5 (.det 6 (.det 7 (.det 8 (.det 9 (.det 10 (.det 11 (.det 12 (.det 13 (.det 14 (.alt 15 .done .dead))))))))))))))))) (by kernel_rfl) ?_   -- region 15
            refine hx_det rfl rfl rfl nofun (det_move rfl) rfl ?_
            refine hx_det rfl rfl rfl nofun (det_nilCheckO rfl m0 k14_7) rfl ?_
            refine hx_det rfl rfl rfl nofun (det_fieldO rfl m0 k14_7 fd46_0 rfl) rfl ?_
            refine hx_det rfl rfl rfl nofun (det_move rfl) rfl ?_
            refine hx_det rfl rfl rfl nofun (det_nilCheckO rfl m0 k14_7) rfl ?_
            refine hx_det rfl rfl rfl nofun (det_fieldO rfl m0 k14_7 fd46_1 rfl) rfl ?_
            refine hx_det rfl rfl rfl nofun (det_move rfl) rfl ?_
            refine hx_det rfl rfl rfl nofun (det_nilCheckO rfl m0 k14_7) rfl ?_
            refine hx_det rfl rfl rfl nofun (det_fieldO rfl m0 k14_7 fd46_2 rfl) rfl ?_
            refine hx_det rfl rfl rfl nofun (det_move rfl) rfl ?_
            refine hx_det rfl rfl rfl nofun (det_nilCheckO rfl m0 k14_7) rfl ?_
            refine hx_det rfl rfl rfl nofun (det_fieldO rfl m0 k14_7 fd46_3 rfl) rfl ?_
            refine hx_det rfl rfl rfl nofun (det_move rfl) rfl ?_
            refine hx_det rfl rfl rfl nofun (det_nilCheckO rfl m0 k14_7) rfl ?_
            refine hx_det rfl rfl rfl nofun (det_fieldO rfl m0 k14_7 fd46_4 rfl) rfl ?_
            refine hx_act rfl rfl rfl (act_litB (vs := [_, _, _, _, _]) (cs := [_, _, _, _, _]) un56 in55 rfl rfl rfl rfl ⟨rfl, rfl, rfl, rfl, rfl, trivial⟩ (by rfl)) rfl (by rintro _ _ _ ⟨b15_15, rfl, rfl, rfl⟩; first | exact ⟨_ :: [], [], rfl, rfl⟩ | exact ⟨[], [_], rfl, rfl⟩ | exact ⟨[], [], rfl, rfl⟩) ?_
            rintro _ _ _ ⟨b15_15, rfl, rfl, rfl⟩
            refine hx_end ?_
            refine wl_det rfl rfl (det_assign rfl) rfl ?_
            refine wl_nil ?_
            refine pn_then ?_
            refine wc_region ?_   -- region 16
            refine wl_det rfl rfl (det_move rfl) rfl ?_
            refine wl_det rfl rfl (det_move rfl) rfl ?_
            refine wl_det rfl rfl (det_band rfl rfl) rfl ?_
            refine wl_det rfl rfl (det_move rfl) rfl ?_
            refine wl_det rfl rfl (det_len rfl un56) rfl ?_
            refine wl_det rfl rfl (det_remB rfl rfl rfl) rfl ?_
            obtain ⟨k16_6, h⟩ := chk_some h
            obtain ⟨k16_6a, h⟩ := chk_some h
            refine wl_det rfl rfl (det_indexV rfl rfl (ixT k16_6 k16_6a) un56 sz55) rfl ?_
            rcases Bool.eq_false_or_eq_true (decide (((bAnd .i64 a5 7).tmod 5) = 0)) with hg16_t0 | hg16_t0
            · have h := ifT h hg16_t0
              refine wl_det rfl rfl (det_loadT (k := 0) (i := ((bAnd .i64 a5 7).tmod 5)) rfl m0 hg16_t0 rfl na55 us55) rfl ?_
              refine wl_det rfl rfl (det_nilCheckO rfl (ms m0) k14_7) rfl ?_
              refine wl_det rfl rfl (det_loadO (off := 0) rfl (ms m0) k14_7 (by rfl) (by rfl) (loaded_1 na3 us3)) rfl ?_
              refine wl_det rfl rfl (det_move rfl) rfl ?_
              refine wl_det rfl rfl (det_band rfl rfl) rfl ?_
              refine wl_det rfl rfl (det_add rfl rfl) rfl ?_
              refine wl_det rfl rfl (det_nilCheckO rfl (ms m0) k14_7) rfl ?_
              refine wl_act0 (act_storeO (cells := [_]) (off := 0) (GDividend.mk (w64 ((ix r6_2.1 ((bAnd .i64 (bShr .i64 a5 3) 15).tmod (r6_2.1.length : Int))).Party + (bAnd .i64 a6 3))) (ix r6_2.1 ((bAnd .i64 (bShr .i64 a5 3) 15).tmod (r6_2.1.length : Int))).SetOff (ix r6_2.1 ((bAnd .i64 (bShr .i64 a5 3) 15).tmod (r6_2.1.length : Int))).Gets (ix r6_2.1 ((bAnd .i64 (bShr .i64 a5 3) 15).tmod (r6_2.1.length : Int))).Pays (ix r6_2.1 ((bAnd .i64 (bShr .i64 a5 3) 15).tmod (r6_2.1.length : Int))).Unpaid) rfl rfl rfl (ss s0) k14_7 (by rfl) sz3 (by intro u hu; simp at hu; rcases hu with rfl <;> rfl) (stR_flat rfl rfl)) rfl rfl ?_
              rintro _ _ _ ⟨rfl, rfl⟩
              refine wl_nil ?_
              replace h := Option.some.inj h
              subst h
              exact pn_meetG ((upd r6_2.1 ((bAnd .i64 (bShr .i64 a5 3) 15).tmod (r6_2.1.length : Int)) (GDividend.mk (w64 ((ix r6_2.1 ((bAnd .i64 (bShr .i64 a5 3) 15).tmod (r6_2.1.length : Int))).Party + (bAnd .i64 a6 3))) (ix r6_2.1 ((bAnd .i64 (bShr .i64 a5 3) 15).tmod (r6_2.1.length : Int))).SetOff (ix r6_2.1 ((bAnd .i64 (bShr .i64 a5 3) 15).tmod (r6_2.1.length : Int))).Gets (ix r6_2.1 ((bAnd .i64 (bShr .i64 a5 3) 15).tmod (r6_2.1.length : Int))).Pays (ix r6_2.1 ((bAnd .i64 (bShr .i64 a5 3) 15).tmod (r6_2.1.length : Int))).Unpaid)), ()) rfl ⟨rfl, rfl, rfl, rfl, rfl, rfl, trivial⟩ (fun _ h => h.to ⟨_, (rs (rs (rs (rs (rs r0))))), ⟨_, (rs (rs (rs r0))), ⟨_, (rs r0), trivial⟩⟩⟩ trivial)
            · have h := ifF h hg16_t0
              rcases Bool.eq_false_or_eq_true (decide (((bAnd .i64 a5 7).tmod 5) = 1)) with hg16_t1 | hg16_t1
              · have h := ifT h hg16_t1
                refine wl_det rfl rfl (det_loadT (k := 1) (i := ((bAnd .i64 a5 7).tmod 5)) rfl m0 hg16_t1 rfl na55 us55) rfl ?_
                refine wl_det rfl rfl (det_nilCheckO rfl (ms m0) k14_7) rfl ?_
                refine wl_det rfl rfl (det_loadO (off := 1) rfl (ms m0) k14_7 (by rfl) (by rfl) (loaded_1 na3 us3)) rfl ?_
                refine wl_det rfl rfl (det_move rfl) rfl ?_
                refine wl_det rfl rfl (det_band rfl rfl) rfl ?_
                refine wl_det rfl rfl (det_add rfl rfl) rfl ?_
                refine wl_det rfl rfl (det_nilCheckO rfl (ms m0) k14_7) rfl ?_
                refine wl_act0 (act_storeO (cells := [_]) (off := 1) (GDividend.mk (ix r6_2.1 ((bAnd .i64 (bShr .i64 a5 3) 15).tmod (r6_2.1.length : Int))).Party (w64 ((ix r6_2.1 ((bAnd .i64 (bShr .i64 a5 3) 15).tmod (r6_2.1.length : Int))).SetOff + (bAnd .i64 a6 3))) (ix r6_2.1 ((bAnd .i64 (bShr .i64 a5 3) 15).tmod (r6_2.1.length : Int))).Gets (ix r6_2.1 ((bAnd .i64 (bShr .i64 a5 3) 15).tmod (r6_2.1.length : Int))).Pays (ix r6_2.1 ((bAnd .i64 (bShr .i64 a5 3) 15).tmod (r6_2.1.length : Int))).Unpaid) rfl rfl rfl (ss s0) k14_7 (by rfl) sz3 (by intro u hu; simp at hu; rcases hu with rfl <;> rfl) (stR_flat rfl rfl)) rfl rfl ?_
                rintro _ _ _ ⟨rfl, rfl⟩
                refine wl_nil ?_
                replace h := Option.some.inj h
                subst h
                exact pn_meetG ((upd r6_2.1 ((bAnd .i64 (bShr .i64 a5 3) 15).tmod (r6_2.1.length : Int)) (GDividend.mk (ix r6_2.1 ((bAnd .i64 (bShr .i64 a5 3) 15).tmod (r6_2.1.length : Int))).Party (w64 ((ix r6_2.1 ((bAnd .i64 (bShr .i64 a5 3) 15).tmod (r6_2.1.length : Int))).SetOff + (bAnd .i64 a6 3))) (ix r6_2.1 ((bAnd .i64 (bShr .i64 a5 3) 15).tmod (r6_2.1.length : Int))).Gets (ix r6_2.1 ((bAnd .i64 (bShr .i64 a5 3) 15).tmod (r6_2.1.length : Int))).Pays (ix r6_2.1 ((bAnd .i64 (bShr .i64 a5 3) 15).tmod (r6_2.1.length : Int))).Unpaid)), ()) rfl ⟨rfl, rfl, rfl, rfl, rfl, rfl, trivial⟩ (fun _ h => h.to ⟨_, (rs (rs (rs (rs (rs r0))))), ⟨_, (rs (rs (rs r0))), ⟨_, (rs r0), trivial⟩⟩⟩ trivial)
              · have h := ifF h hg16_t1
                rcases Bool.eq_false_or_eq_true (decide (((bAnd .i64 a5 7).tmod 5) = 2)) with hg16_t2 | hg16_t2
                · have h := ifT h hg16_t2
                  refine wl_det rfl rfl (det_loadT (k := 2) (i := ((bAnd .i64 a5 7).tmod 5)) rfl m0 hg16_t2 rfl na55 us55) rfl ?_
                  refine wl_det rfl rfl (det_nilCheckO rfl (ms m0) k14_7) rfl ?_
                  refine wl_det rfl rfl (det_loadO (off := 2) rfl (ms m0) k14_7 (by rfl) (by rfl) (loaded_1 na3 us3)) rfl ?_
                  refine wl_det rfl rfl (det_move rfl) rfl ?_
                  refine wl_det rfl rfl (det_band rfl rfl) rfl ?_
                  refine wl_det rfl rfl (det_add rfl rfl) rfl ?_
                  refine wl_det rfl rfl (det_nilCheckO rfl (ms m0) k14_7) rfl ?_
                  refine wl_act0 (act_storeO (cells := [_]) (off := 2) (GDividend.mk (ix r6_2.1 ((bAnd .i64 (bShr .i64 a5 3) 15).tmod (r6_2.1.length : Int))).Party (ix r6_2.1 ((bAnd .i64 (bShr .i64 a5 3) 15).tmod (r6_2.1.length : Int))).SetOff (w64 ((ix r6_2.1 ((bAnd .i64 (bShr .i64 a5 3) 15).tmod (r6_2.1.length : Int))).Gets + (bAnd .i64 a6 3))) (ix r6_2.1 ((bAnd .i64 (bShr .i64 a5 3) 15).tmod (r6_2.1.length : Int))).Pays (ix r6_2.1 ((bAnd .i64 (bShr .i64 a5 3) 15).tmod (r6_2.1.length : Int))).Unpaid) rfl rfl rfl (ss s0) k14_7 (by rfl) sz3 (by intro u hu; simp at hu; rcases hu with rfl <;> rfl) (stR_flat rfl rfl)) rfl rfl ?_
                  rintro _ _ _ ⟨rfl, rfl⟩
                  refine wl_nil ?_
                  replace h := Option.some.inj h
                  subst h
                  exact pn_meetG ((upd r6_2.1 ((bAnd .i64 (bShr .i64 a5 3) 15).tmod (r6_2.1.length : Int)) (GDividend.mk (ix r6_2.1 ((bAnd .i64 (bShr .i64 a5 3) 15).tmod (r6_2.1.length : Int))).Party (ix r6_2.1 ((bAnd .i64 (bShr .i64 a5 3) 15).tmod (r6_2.1.length : Int))).SetOff (w64 ((ix r6_2.1 ((bAnd .i64 (bShr .i64 a5 3) 15).tmod (r6_2.1.length : Int))).Gets + (bAnd .i64 a6 3))) (ix r6_2.1 ((bAnd .i64 (bShr .i64 a5 3) 15).tmod (r6_2.1.length : Int))).Pays (ix r6_2.1 ((bAnd .i64 (bShr .i64 a5 3) 15).tmod (r6_2.1.length : Int))).Unpaid)), ()) rfl ⟨rfl, rfl, rfl, rfl, rfl, rfl, trivial⟩ (fun _ h => h.to ⟨_, (rs (rs (rs (rs (rs r0))))), ⟨_, (rs (rs (rs r0))), ⟨_, (rs r0), trivial⟩⟩⟩ trivial)
                · have h := ifF h hg16_t2
                  rcases Bool.eq_false_or_eq_true (decide (((bAnd .i64 a5 7).tmod 5) = 3)) with hg16_t3 | hg16_t3
                  · have h := ifT h hg16_t3
                    refine wl_det rfl rfl (det_loadT (k := 3) (i := ((bAnd .i64 a5 7).tmod 5)) rfl m0 hg16_t3 rfl na55 us55) rfl ?_
                    refine wl_det rfl rfl (det_nilCheckO rfl (ms m0) k14_7) rfl ?_
                    refine wl_det rfl rfl (det_loadO (off := 3) rfl (ms m0) k14_7 (by rfl) (by rfl) (loaded_1 na3 us3)) rfl ?_
                    refine wl_det rfl rfl (det_move rfl) rfl ?_
                    refine wl_det rfl rfl (det_band rfl rfl) rfl ?_
                    refine wl_det rfl rfl (det_add rfl rfl) rfl ?_
                    refine wl_det rfl rfl (det_nilCheckO rfl (ms m0) k14_7) rfl ?_
                    refine wl_act0 (act_storeO (cells := [_]) (off := 3) (GDividend.mk (ix r6_2.1 ((bAnd .i64 (bShr .i64 a5 3) 15).tmod (r6_2.1.length : Int))).Party (ix r6_2.1 ((bAnd .i64 (bShr .i64 a5 3) 15).tmod (r6_2.1.length : Int))).SetOff (ix r6_2.1 ((bAnd .i64 (bShr .i64 a5 3) 15).tmod (r6_2.1.length : Int))).Gets (w64 ((ix r6_2.1 ((bAnd .i64 (bShr .i64 a5 3) 15).tmod (r6_2.1.length : Int))).Pays + (bAnd .i64 a6 3))) (ix r6_2.1 ((bAnd .i64 (bShr .i64 a5 3) 15).tmod (r6_2.1.length : Int))).Unpaid) rfl rfl rfl (ss s0) k14_7 (by rfl) sz3 (by intro u hu; simp at hu; rcases hu with rfl <;> rfl) (stR_flat rfl rfl)) rfl rfl ?_
                    rintro _ _ _ ⟨rfl, rfl⟩
                    refine wl_nil ?_
                    replace h := Option.some.inj h
                    subst h
                    exact pn_meetG ((upd r6_2.1 ((bAnd .i64 (bShr .i64 a5 3) 15).tmod (r6_2.1.length : Int)) (GDividend.mk (ix r6_2.1 ((bAnd .i64 (bShr .i64 a5 3) 15).tmod (r6_2.1.length : Int))).Party (ix r6_2.1 ((bAnd .i64 (bShr .i64 a5 3) 15).tmod (r6_2.1.length : Int))).SetOff (ix r6_2.1 ((bAnd .i64 (bShr .i64 a5 3) 15).tmod (r6_2.1.length : Int))).Gets (w64 ((ix r6_2.1 ((bAnd .i64 (bShr .i64 a5 3) 15).tmod (r6_2.1.length : Int))).Pays + (bAnd .i64 a6 3))) (ix r6_2.1 ((bAnd .i64 (bShr .i64 a5 3) 15).tmod (r6_2.1.length : Int))).Unpaid)), ()) rfl ⟨rfl, rfl, rfl, rfl, rfl, rfl, trivial⟩ (fun _ h => h.to ⟨_, (rs (rs (rs (rs (rs r0))))), ⟨_, (rs (rs (rs r0))), ⟨_, (rs r0), trivial⟩⟩⟩ trivial)
                  · have h := ifF h hg16_t3
                    refine wl_det rfl rfl (det_loadT (k := 4) (i := ((bAnd .i64 a5 7).tmod 5)) rfl m0 (by simp only [decide_eq_true_eq, decide_eq_false_iff_not] at k16_6 k16_6a hg16_t0 hg16_t1 hg16_t2 hg16_t3 ⊢; omega) rfl na55 us55) rfl ?_
                    refine wl_det rfl rfl (det_nilCheckO rfl (ms m0) k14_7) rfl ?_
                    refine wl_det rfl rfl (det_loadO (off := 4) rfl (ms m0) k14_7 (by rfl) (by rfl) (loaded_1 na3 us3)) rfl ?_
                    refine wl_det rfl rfl (det_move rfl) rfl ?_
                    refine wl_det rfl rfl (det_band rfl rfl) rfl ?_
                    refine wl_det rfl rfl (det_add rfl rfl) rfl ?_
                    refine wl_det rfl rfl (det_nilCheckO rfl (ms m0) k14_7) rfl ?_
                    refine wl_act0 (act_storeO (cells := [_]) (off := 4) (GDividend.mk (ix r6_2.1 ((bAnd .i64 (bShr .i64 a5 3) 15).tmod (r6_2.1.length : Int))).Party (ix r6_2.1 ((bAnd .i64 (bShr .i64 a5 3) 15).tmod (r6_2.1.length : Int))).SetOff (ix r6_2.1 ((bAnd .i64 (bShr .i64 a5 3) 15).tmod (r6_2.1.length : Int))).Gets (ix r6_2.1 ((bAnd .i64 (bShr .i64 a5 3) 15).tmod (r6_2.1.length : Int))).Pays (w64 ((ix r6_2.1 ((bAnd .i64 (bShr .i64 a5 3) 15).tmod (r6_2.1.length : Int))).Unpaid + (bAnd .i64 a6 3)))) rfl rfl rfl (ss s0) k14_7 (by rfl) sz3 (by intro u hu; simp at hu; rcases hu with rfl <;> rfl) (stR_flat rfl rfl)) rfl rfl ?_
                    rintro _ _ _ ⟨rfl, rfl⟩
                    refine wl_nil ?_
                    replace h := Option.some.inj h
                    subst h
                    exact pn_meetG ((upd r6_2.1 ((bAnd .i64 (bShr .i64 a5 3) 15).tmod (r6_2.1.length : Int)) (GDividend.mk (ix r6_2.1 ((bAnd .i64 (bShr .i64 a5 3) 15).tmod (r6_2.1.length : Int))).Party (ix r6_2.1 ((bAnd .i64 (bShr .i64 a5 3) 15).tmod (r6_2.1.length : Int))).SetOff (ix r6_2.1 ((bAnd .i64 (bShr .i64 a5 3) 15).tmod (r6_2.1.length : Int))).Gets (ix r6_2.1 ((bAnd .i64 (bShr .i64 a5 3) 15).tmod (r6_2.1.length : Int))).Pays (w64 ((ix r6_2.1 ((bAnd .i64 (bShr .i64 a5 3) 15).tmod (r6_2.1.length : Int))).Unpaid + (bAnd .i64 a6 3))))), ()) rfl ⟨rfl, rfl, rfl, rfl, rfl, rfl, trivial⟩ (fun _ h => h.to ⟨_, (rs (rs (rs (rs (rs r0))))), ⟨_, (rs (rs (rs r0))), ⟨_, (rs r0), trivial⟩⟩⟩ trivial)
          · have h := ifF h c35
            refine wc_skip ?_
            replace h := Option.some.inj h
            subst h
            exact pn_meetG (r6_2.1, ()) rfl ⟨rfl, rfl, rfl, rfl, rfl, rfl, trivial⟩ (fun _ h => h.to ⟨_, (rs (rs (rs (rs r0)))), ⟨_, (rs (rs r0)), ⟨_, r0, trivial⟩⟩⟩ trivial)
        rintro ⟨s32, _⟩ e32
        dsimp only at e32 ⊢
        subst e32
        have h := ho32
        refine wc_seq ?_
        refine wc_region ?_   -- region 17
        refine wl_det rfl rfl (det_move rfl) rfl ?_
        refine wl_det rfl rfl (det_move rfl) rfl ?_
        refine wl_det rfl rfl (det_move rfl) rfl ?_
        refine wl_det rfl rfl (det_move rfl) rfl ?_
        obtain ⟨r17_4, hr17_4, h⟩ := bind_some h
        refine wl_act (act_callL (cap := []) [eS lGMutual 48 y4_1A0 r4_1.1.length y4_1c0 r4_1.1, eS lGDividend 46 A12_2 r6_2.1.length c12_2 s32] (W_insolvency_Check r5_1.1 r4_1.1 s32 r6_2.2.1 y4_1A0 r4_1.1.length y4_1c0 A12_2 r6_2.1.length c12_2 r17_4 hr17_4) plains_insolvency_Check rfl rfl rfl bd34 rfl ⟨m0, ⟨(ms (ms m0)), trivial⟩⟩ ⟨.inr ⟨_, m0, lent_eS⟩, ⟨.inr ⟨_, (ms m0), lent_eS⟩, trivial⟩⟩) rfl rfl rfl ?_
        rintro _ _ _ ⟨_, _, ⟨rfl, rfl, rfl⟩, rfl, rfl⟩
        dsimp only [List.nil_append, List.cons_append]
        refine wl_det rfl rfl (det_move rfl) rfl ?_
        refine wl_det rfl rfl (det_move rfl) rfl ?_
        obtain ⟨r17_7, hr17_7, h⟩ := bind_some h
        refine wl_act (act_callL (cap := []) [eS lGDividend 46 y6_2A0 r6_2.1.length y6_2c0 r6_2.1, eS lGDividend 46 A12_2 r6_2.1.length c12_2 s32] (W_treatyref33_SameDividends r6_2.1 s32 y6_2A0 r6_2.1.length y6_2c0 A12_2 r6_2.1.length c12_2 r17_7 hr17_7) plains_treatyref33_SameDividends rfl rfl rfl bd29 rfl ⟨(ms m0), ⟨(ms (ms m0)), trivial⟩⟩ ⟨.inr ⟨_, m0, lent_eS⟩, ⟨.inr ⟨_, (ms m0), lent_eS⟩, trivial⟩⟩) rfl rfl rfl ?_
        rintro _ _ _ ⟨_, _, ⟨rfl, rfl, rfl⟩, rfl, rfl⟩
        dsimp only [List.nil_append, List.cons_append]
        refine wl_det rfl rfl (det_beql rfl rfl un4) rfl ?_
        refine wl_det rfl rfl (det_move rfl) rfl ?_
        obtain ⟨q17_22, hq17_22, h⟩ := bind_some h
        have ho17_22 := h
        refine wl_way (r17_4 == r17_7) q17_22 13 150 (fun hg => ?_) (fun hg => ?_) ?_
        · have hg17_22 := hg
          have h := ifT hq17_22 hg
          refine wl_on rfl rfl rfl rfl hg17_22 ?_
          refine wl_det rfl rfl (det_move rfl) rfl ?_
          refine wl_on rfl rfl rfl rfl hg17_22 ?_
          refine wl_det rfl rfl (det_move rfl) rfl ?_
          refine wl_on rfl rfl rfl rfl hg17_22 ?_
          refine wl_det rfl rfl (det_move rfl) rfl ?_
          refine wl_on rfl rfl rfl rfl hg17_22 ?_
          refine wl_det rfl rfl (det_move rfl) rfl ?_
          refine wl_on rfl rfl rfl rfl hg17_22 ?_
          refine wl_det rfl rfl (det_move rfl) rfl ?_
          refine wl_on rfl rfl rfl rfl hg17_22 ?_
          refine wl_det rfl rfl (det_band rfl rfl) rfl ?_
          refine wl_on rfl rfl rfl rfl hg17_22 ?_
          refine wl_det rfl rfl (det_add rfl rfl) rfl ?_
          refine wl_on rfl rfl rfl rfl hg17_22 ?_
          obtain ⟨r17_17, hr17_17, h⟩ := bind_some h
          refine wl_act (act_callL (cap := []) [eS lGMutual 48 y4_1A0 r4_1.1.length y4_1c0 r4_1.1, eS lGDividend 46 y6_2A0 r6_2.1.length y6_2c0 r6_2.1] (W_insolvency_Check r5_1.1 r4_1.1 r6_2.1 (w64 (r6_2.2.1 + (bAnd .i64 a6 3))) y4_1A0 r4_1.1.length y4_1c0 y6_2A0 r6_2.1.length y6_2c0 r17_17 hr17_17) plains_insolvency_Check rfl rfl rfl bd34 rfl ⟨m0, ⟨(ms m0), trivial⟩⟩ ⟨.inr ⟨_, m0, lent_eS⟩, ⟨.inr ⟨_, (ms m0), lent_eS⟩, trivial⟩⟩) rfl rfl rfl ?_
          rintro _ _ _ ⟨_, _, ⟨rfl, rfl, rfl⟩, rfl, rfl⟩
          dsimp only [List.nil_append, List.cons_append]
          refine wl_on rfl rfl rfl rfl hg17_22 ?_
          refine wl_det rfl rfl (det_move rfl) rfl ?_
          refine wl_on rfl rfl rfl rfl hg17_22 ?_
          refine wl_det rfl rfl (det_band rfl rfl) rfl ?_
          refine wl_on rfl rfl rfl rfl hg17_22 ?_
          refine wl_det rfl rfl (det_eql rfl rfl) rfl ?_
          refine wl_on rfl rfl rfl rfl hg17_22 ?_
          refine wl_det rfl rfl (det_beql rfl rfl un4) rfl ?_
          replace h := Option.some.inj h
          subst h
          refine wl_det rfl rfl (det_pick_on rfl hg17_22 rfl rfl) rfl ?_
          exact wl_nil (pn_qnE (ext_cons rfl (ext_skip rfl (ext_skip rfl (ext_skip rfl (ext_skip rfl (ext_skip rfl (ext_skip rfl (ext_skip rfl (ext_skip rfl (ext_skip rfl (ext_skip rfl (ext_skip rfl (ext_skip rfl (ext_skip rfl ext_refl)))))))))))))) (fun _ h => h))
        · have hg17_22a := hg
          have h := ifF hq17_22 hg
          refine wl_off rfl rfl rfl rfl rfl hg17_22a rfl ?_
          refine wl_off rfl rfl rfl rfl rfl hg17_22a rfl ?_
          refine wl_off rfl rfl rfl rfl rfl hg17_22a rfl ?_
          refine wl_off rfl rfl rfl rfl rfl hg17_22a rfl ?_
          refine wl_off rfl rfl rfl rfl rfl hg17_22a rfl ?_
          refine wl_off rfl rfl rfl rfl rfl hg17_22a rfl ?_
          refine wl_off rfl rfl rfl rfl rfl hg17_22a rfl ?_
          refine wl_off rfl rfl rfl rfl rfl hg17_22a rfl ?_
          refine wl_off rfl rfl rfl rfl rfl hg17_22a rfl ?_
          refine wl_off rfl rfl rfl rfl rfl hg17_22a rfl ?_
          refine wl_off rfl rfl rfl rfl rfl hg17_22a rfl ?_
          refine wl_off rfl rfl rfl rfl rfl hg17_22a rfl ?_
          replace h := Option.some.inj h
          subst h
          refine wl_det rfl rfl (det_pick_off rfl hg17_22a rfl rfl) rfl ?_
          exact wl_nil (pn_qnE (ext_cons rfl (ext_skip rfl (ext_skip rfl (ext_skip rfl (ext_skip rfl (ext_skip rfl (ext_skip rfl (ext_skip rfl (ext_skip rfl (ext_skip rfl (ext_skip rfl (ext_skip rfl (ext_skip rfl (ext_skip rfl ext_refl)))))))))))))) (fun _ h => h))
        have h := ho17_22
        refine wl_det rfl rfl (det_move rfl) rfl ?_
        obtain ⟨q17_25, hq17_25, h⟩ := bind_some h
        have ho17_25 := h
        refine wl_way q17_22 q17_25 2 153 (fun hg => ?_) (fun hg => ?_) ?_
        · have hg17_25 := hg
          have h := ifT hq17_25 hg
          refine wl_on rfl rfl rfl rfl hg17_25 ?_
          obtain ⟨r17_24, hr17_24, h⟩ := bind_some h
          refine wl_act (act_callS (cap := []) (W_treatylaw38_awake r17_24 hr17_24) rfl rfl rfl bd23 rfl trivial) rfl rfl rfl ?_
          rintro _ _ _ ⟨_, _, ⟨rfl, rfl, rfl⟩, rfl, rfl⟩
          dsimp only [List.nil_append, List.cons_append]
          replace h := Option.some.inj h
          subst h
          refine wl_det rfl rfl (det_pick_on rfl hg17_25 rfl rfl) rfl ?_
          exact wl_nil (pn_qnE (ext_cons rfl (ext_skip rfl (ext_skip rfl ext_refl))) (fun _ h => h))
        · have hg17_25a := hg
          have h := ifF hq17_25 hg
          refine wl_off rfl rfl rfl rfl rfl hg17_25a rfl ?_
          replace h := Option.some.inj h
          subst h
          refine wl_det rfl rfl (det_pick_off rfl hg17_25a rfl rfl) rfl ?_
          exact wl_nil (pn_qnE (ext_cons rfl (ext_skip rfl (ext_skip rfl ext_refl))) (fun _ h => h))
        have h := ho17_25
        refine wl_det rfl rfl (det_assign rfl) rfl ?_
        refine wl_nil ?_
        refine pn_then ?_
        refine wc_ret ?_
        replace h := Option.some.inj h
        subst h
        refine pn_ret (vs := [_]) rfl ⟨rfl, trivial⟩ ⟨rfl, rfl, rfl⟩ (fun _ h => h.to trivial trivial)
end Go.Proofs.Ytoodneljjhbfhaa
