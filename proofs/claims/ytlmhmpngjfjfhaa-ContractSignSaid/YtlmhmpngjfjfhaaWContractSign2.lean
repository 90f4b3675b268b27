/- That functions of the program compute the plain programs of P. Written by a small program. -/
import Derived.Test.YtlmhmpngjfjfhaaWContractSign1
namespace Go.Proofs.Ytlmhmpngjfjfhaa
open Go.RowKit
def Q_treatyref01_Split (r : (List Int) × Int) : Value → List Ent → List Fact → Prop := fun v θ κ => ∃ (pA0 : Option Addr), ∃ (pn0 : Nat), ∃ (pc0 : Nat), v = .tuple #[.slice pA0 pn0 pc0, .int .i64 r.2] ∧ θ = [eS (lInt .i64) 3 pA0 pn0 pc0 r.1] ∧ κ = []
theorem plains_treatyref01_Split {r : (List Int) × Int} : ∀ v θ κ, Q_treatyref01_Split r v θ κ → Plains θ := by
  rintro _ _ _ ⟨_, _, _, rfl, rfl, rfl⟩
  exact ⟨plain_eS, trivial⟩
set_option maxRecDepth 100000 in
theorem W_treatyref01_Split (a0 : Int) (a1 : (List Int)) (A0 : Option Addr) (n0 : Nat) (c0 : Nat) (r : (List Int) × Int) (h : treatyref01_Split a0 a1 = some r) : Spec Try.prog 52 [.int .i64 a0, .slice A0 n0 c0] [] [fV (lSlice (lInt .i64)) (.slice A0 n0 c0) a1] (Q_treatyref01_Split r) := by
  unfold treatyref01_Split at h
  refine spec_of (σ := [(0, _), (1, _)]) Try.func52 rfl rfl rfl rfl ?_
  intro C
  refine wc_know (fun _ h => h.lenF m0) (fun e => ?_)
  subst e
  refine wc_seq ?_
  refine wc_region ?_   -- region 0
  refine wl_det rfl rfl (det_assign rfl) rfl ?_
  refine wl_det rfl rfl (det_assign rfl) rfl ?_
  refine wl_nil ?_
  refine pn_then ?_
  refine wc_seq ?_
  refine wc_seq ?_
  refine wc_region ?_   -- region 1
  refine wl_det rfl rfl (det_move rfl) rfl ?_
  refine wl_det rfl rfl (det_len rfl un23) rfl ?_
  refine wl_det rfl rfl (det_eql rfl rfl) rfl ?_
  refine wl_nil ?_
  refine pn_then ?_
  refine wc_cond rfl (fun c5 => ?_) (fun c5 => ?_)
  · have h := ifT h c5
    refine wc_seq ?_
    refine wc_region ?_   -- region 2
    refine wl_det rfl rfl (det_assign rfl) rfl ?_
    refine wl_det rfl rfl (det_assign rfl) rfl ?_
    refine wl_nil ?_
    refine pn_then ?_
    refine wc_ret ?_
    refine pr_then ?_
    refine pn_st (fun _ h => h.zeroS (lInt .i64) 3 none) ?_
    replace h := Option.some.inj h
    subst h
    refine pn_ret (vs := [_, _]) rfl ⟨rfl, rfl, trivial⟩ ⟨none, 0, 0, rfl, rfl, rfl⟩ (fun _ h => h.to ⟨_, r0, trivial⟩ trivial)
  · have h := ifF h c5
    refine wc_skip ?_
    refine pn_then ?_
    refine wc_seq ?_
    refine wc_seq ?_
    refine wc_region ?_   -- region 3
    refine wl_det rfl rfl (det_move rfl) rfl ?_
    refine wl_det rfl rfl (det_len rfl un23) rfl ?_
    refine wl_det rfl rfl (det_gtr rfl rfl) rfl ?_
    refine wl_nil ?_
    refine pn_then ?_
    refine wc_cond rfl (fun c11 => ?_) (fun c11 => ?_)
    · have h := ifT h c11
      refine wc_seq ?_
      refine wc_region ?_   -- region 4
      refine wl_det rfl rfl (det_assign rfl) rfl ?_
      refine wl_det rfl rfl (det_assign rfl) rfl ?_
      refine wl_nil ?_
      refine pn_then ?_
      refine wc_ret ?_
      refine pr_then ?_
      refine pn_st (fun _ h => h.zeroS (lInt .i64) 3 none) ?_
      replace h := Option.some.inj h
      subst h
      refine pn_ret (vs := [_, _]) rfl ⟨rfl, rfl, trivial⟩ ⟨none, 0, 0, rfl, rfl, rfl⟩ (fun _ h => h.to ⟨_, r0, trivial⟩ trivial)
    · have h := ifF h c11
      refine wc_skip ?_
      refine pn_then ?_
      refine wc_seq ?_
      refine wc_region ?_   -- region 5
      refine wl_det rfl rfl (det_move rfl) rfl ?_
      obtain ⟨r5_1, hr5_1, h⟩ := bind_some h
      refine wl_act (act_callS (cap := []) (W_treatyref01_weights a1 A0 a1.length c0 r5_1 hr5_1) rfl rfl rfl bd69 rfl ⟨m0, trivial⟩) rfl rfl rfl ?_
      rintro _ _ _ ⟨_, _, ⟨rfl, rfl, rfl⟩, rfl, rfl⟩
      dsimp only [List.nil_append, List.cons_append]
      refine wl_det rfl rfl (det_move rfl) rfl ?_
      refine wl_det rfl rfl (det_extract rfl rfl) rfl ?_
      refine wl_det rfl rfl (det_extract rfl rfl) rfl ?_
      refine wl_det rfl rfl (det_assign rfl) rfl ?_
      refine wl_det rfl rfl (det_assign rfl) rfl ?_
      refine wl_nil ?_
      refine pn_then ?_
      refine wc_seq ?_
      refine wc_seq ?_
      refine wc_region ?_   -- region 6
      refine wl_det rfl rfl (det_move rfl) rfl ?_
      refine wl_det rfl rfl (det_neq rfl rfl) rfl ?_
      refine wl_det rfl rfl (det_move rfl) rfl ?_
      obtain ⟨q6_6, hq6_6, h⟩ := bind_some h
      have ho6_6 := h
      refine wl_way (!decide (r5_1.2 = 0)) q6_6 4 33 (fun hg => ?_) (fun hg => ?_) ?_
      · have hg6_6 := hg
        have h := ifT hq6_6 hg
        refine wl_off rfl rfl rfl rfl rfl hg6_6 rfl ?_
        refine wl_off rfl rfl rfl rfl rfl hg6_6 rfl ?_
        refine wl_off rfl rfl rfl rfl rfl hg6_6 rfl ?_
        replace h := Option.some.inj h
        subst h
        refine wl_det rfl rfl (det_pick_on rfl hg6_6 rfl rfl) rfl ?_
        exact wl_nil (pn_qnE (ext_cons rfl (ext_skip rfl (ext_skip rfl (ext_skip rfl (ext_skip rfl ext_refl))))) (fun _ h => h))
      · have hg6_6a := hg
        have h := ifF hq6_6 hg
        refine wl_on rfl rfl rfl rfl hg6_6a ?_
        refine wl_det rfl rfl (det_move rfl) rfl ?_
        refine wl_on rfl rfl rfl rfl hg6_6a ?_
        obtain ⟨r6_4, hr6_4, h⟩ := bind_some h
        refine wl_act (act_callS (cap := []) (W_treatyref01_Valid a0 r6_4 hr6_4) rfl rfl rfl bd51 rfl trivial) rfl rfl rfl ?_
        rintro _ _ _ ⟨_, _, ⟨rfl, rfl, rfl⟩, rfl, rfl⟩
        dsimp only [List.nil_append, List.cons_append]
        refine wl_on rfl rfl rfl rfl hg6_6a ?_
        refine wl_det rfl rfl (det_not rfl) rfl ?_
        replace h := Option.some.inj h
        subst h
        refine wl_det rfl rfl (det_pick_off rfl hg6_6a rfl rfl) rfl ?_
        exact wl_nil (pn_qnE (ext_cons rfl (ext_skip rfl (ext_skip rfl (ext_skip rfl (ext_skip rfl ext_refl))))) (fun _ h => h))
      have h := ho6_6
      refine wl_nil ?_
      refine pn_then ?_
      refine wc_cond rfl (fun c19 => ?_) (fun c19 => ?_)
      · have h := ifT h c19
        refine wc_seq ?_
        refine wc_region ?_   -- region 7
        refine wl_det rfl rfl (det_assign rfl) rfl ?_
        refine wl_det rfl rfl (det_assign rfl) rfl ?_
        refine wl_nil ?_
        refine pn_then ?_
        refine wc_ret ?_
        refine pr_then ?_
        refine pn_st (fun _ h => h.zeroS (lInt .i64) 3 none) ?_
        replace h := Option.some.inj h
        subst h
        refine pn_ret (vs := [_, _]) rfl ⟨rfl, rfl, trivial⟩ ⟨none, 0, 0, rfl, rfl, rfl⟩ (fun _ h => h.to ⟨_, r0, trivial⟩ trivial)
      · have h := ifF h c19
        refine wc_skip ?_
        refine pn_then ?_
        refine wc_seq ?_
        refine wc_seq ?_
        refine wc_region ?_   -- region 8
        refine wl_det rfl rfl (det_move rfl) rfl ?_
        refine wl_det rfl rfl (det_eql rfl rfl) rfl ?_
        refine wl_nil ?_
        refine pn_then ?_
        refine wc_cond rfl (fun c25 => ?_) (fun c25 => ?_)
        · have h := ifT h c25
          refine wc_seq ?_
          refine wc_region ?_   -- region 9
          refine wl_det rfl rfl (det_assign rfl) rfl ?_
          refine wl_det rfl rfl (det_assign rfl) rfl ?_
          refine wl_nil ?_
          refine pn_then ?_
          refine wc_ret ?_
          refine pr_then ?_
          refine pn_st (fun _ h => h.zeroS (lInt .i64) 3 none) ?_
          replace h := Option.some.inj h
          subst h
          refine pn_ret (vs := [_, _]) rfl ⟨rfl, rfl, trivial⟩ ⟨none, 0, 0, rfl, rfl, rfl⟩ (fun _ h => h.to ⟨_, r0, trivial⟩ trivial)
        · have h := ifF h c25
          refine wc_skip ?_
          refine pn_then ?_
          refine wc_seq ?_
          refine wc_region ?_   -- region 10
          refine wl_det rfl rfl (det_move rfl) rfl ?_
          refine wl_det rfl rfl (det_assign rfl) rfl ?_
          refine wl_nil ?_
          refine pn_then ?_
          obtain ⟨q30, h, ho30⟩ := bind_some h
          refine wc_meetG (G := Int × Unit) (fun (s30, _) => s30 = q30) (fun (s30, _) => [(0, .int .i64 a0), (1, .slice A0 a1.length c0), (6, .int .i64 r5_1.1), (8, .int .i64 s30)]) (fun (_, _) => []) (fun (_, _) => [fV (lSlice (lInt .i64)) (.slice A0 a1.length c0) a1]) ?_ ?_
          · refine wc_seq ?_
            refine wc_region ?_   -- region 11
            refine wl_det rfl rfl (det_move rfl) rfl ?_
            refine wl_det rfl rfl (det_lss rfl rfl) rfl ?_
            refine wl_nil ?_
            refine pn_then ?_
            refine wc_cond rfl (fun c33 => ?_) (fun c33 => ?_)
            · have h := ifT h c33
              refine wc_region ?_   -- region 12
              refine wl_det rfl rfl (det_move rfl) rfl ?_
              refine wl_det rfl rfl (det_neg rfl) rfl ?_
              refine wl_det rfl rfl (det_assign rfl) rfl ?_
              refine wl_nil ?_
              replace h := Option.some.inj h
              subst h
              exact pn_meetG ((w64 (0 - a0)), ()) rfl ⟨rfl, rfl, rfl, rfl, trivial⟩ (fun _ h => h.to trivial ⟨m0, trivial⟩)
            · have h := ifF h c33
              refine wc_skip ?_
              replace h := Option.some.inj h
              subst h
              exact pn_meetG (a0, ()) rfl ⟨rfl, rfl, rfl, rfl, trivial⟩ (fun _ h => h.to trivial ⟨m0, trivial⟩)
          rintro ⟨s30, _⟩ e30
          dsimp only at e30 ⊢
          subst e30
          have h := ho30
          obtain ⟨q35, h, ho35⟩ := bind_some h
          refine wc_meetG (G := Unit × Option Addr × Nat × Nat × Option Addr × Nat × Nat × Unit) (fun (s35, _, _, _, _, _, _, _) => s35 = q35) (fun (_, A35_0, n35_0, c35_0, A35_3, n35_3, c35_3, _) => [(0, .int .i64 a0), (1, .slice A0 a1.length c0), (6, .int .i64 r5_1.1), (8, .int .i64 s30), (9, .slice A35_0 n35_0 c35_0), (10, .slice A35_3 n35_3 c35_3)]) (fun (_, A35_0, n35_0, c35_0, A35_3, n35_3, c35_3, _) => [eS (lInt .i64) 3 A35_0 n35_0 c35_0 (List.replicate (a1.length : Int).toNat (0 : Int)), eS (lInt .i64) 3 A35_3 n35_3 c35_3 (List.replicate (a1.length : Int).toNat (0 : Int))]) (fun (_, _, _, _, _, _, _, _) => [fV (lSlice (lInt .i64)) (.slice A0 a1.length c0) a1]) ?_ ?_
          · obtain ⟨k13_p1, h⟩ := chk_some h
            obtain ⟨k13_p2, h⟩ := chk_some h
            refine dx_regionZ (Z := St C [] [_]) 7 [[], [0], [0, 1], [], [3], [3, 4], [0, 1, 2], [0, 1, 2, 3, 4, 5, 6]] mixed (ord := (.det 0 (.det 1 (.det 3 (.det 4 (.alt 2 (.det 6 (.alt 5 .done .dead)) (.alt 5 (.alt 2 (.det 6 .done) .dead) .dead))))))) (by kernel_rfl) (fun _ h => h.to trivial ⟨m0, trivial⟩) ?_   -- region 13
            refine hx_det rfl rfl rfl nofun (det_move rfl) rfl ?_
            refine hx_det rfl rfl rfl nofun (det_len rfl un23) rfl ?_
            refine hx_det rfl rfl rfl nofun (det_move rfl) rfl ?_
            refine hx_det rfl rfl rfl nofun (det_len rfl un23) rfl ?_
            refine hx_or ?_ ?_
            · refine hx_mut rfl rfl rfl (act_makeS (L := (lInt .i64)) (x0 := (0 : Int)) rfl rfl un23 in3 (by refine ⟨rfl, fun _ _ => ?_⟩; first | exact rfl | exact ⟨_, _, _, rfl, rfl, Nat.zero_le _, .inl rfl⟩) rfl rfl k13_p1 (decide_eq_true (Int.le_refl _)) k13_p2) rfl (by rintro _ _ _ ⟨A13_2, c13_2, rfl, rfl, rfl⟩ w hs; exact hs.to trivial ⟨m0, trivial⟩) ?_
              rintro _ _ _ ⟨A13_2, c13_2, rfl, rfl, rfl⟩
              refine hx_det rfl rfl rfl nofun (det_assign rfl) rfl ?_
              refine hx_mut rfl rfl rfl (act_makeS (L := (lInt .i64)) (x0 := (0 : Int)) rfl rfl un23 in3 (by refine ⟨rfl, fun _ _ => ?_⟩; first | exact rfl | exact ⟨_, _, _, rfl, rfl, Nat.zero_le _, .inl rfl⟩) rfl rfl k13_p1 (decide_eq_true (Int.le_refl _)) k13_p2) rfl (by rintro _ _ _ ⟨A13_5, c13_5, rfl, rfl, rfl⟩ w hs; exact hs.to trivial ⟨m0, trivial⟩) ?_
              rintro _ _ _ ⟨A13_5, c13_5, rfl, rfl, rfl⟩
              refine hx_end ?_
              refine wl_det rfl rfl (det_assign rfl) rfl ?_
              refine wl_nil ?_
              replace h := Option.some.inj h
              subst h
              exact pn_meetG ((), A13_2, (List.replicate (a1.length : Int).toNat (0 : Int)).length, c13_2, A13_5, (List.replicate (a1.length : Int).toNat (0 : Int)).length, c13_5, ()) rfl ⟨rfl, rfl, rfl, rfl, rfl, rfl, trivial⟩ (fun _ h => h.to ⟨_, (rs r0), ⟨_, r0, trivial⟩⟩ ⟨m0, trivial⟩)
            refine hx_or ?_ trivial
            refine hx_mut rfl rfl rfl (act_makeS (L := (lInt .i64)) (x0 := (0 : Int)) rfl rfl un23 in3 (by refine ⟨rfl, fun _ _ => ?_⟩; first | exact rfl | exact ⟨_, _, _, rfl, rfl, Nat.zero_le _, .inl rfl⟩) rfl rfl k13_p1 (decide_eq_true (Int.le_refl _)) k13_p2) rfl (by rintro _ _ _ ⟨A13_5, c13_5, rfl, rfl, rfl⟩ w hs; exact hs.to trivial ⟨m0, trivial⟩) ?_
            rintro _ _ _ ⟨A13_5, c13_5, rfl, rfl, rfl⟩
            refine hx_mut rfl rfl rfl (act_makeS (L := (lInt .i64)) (x0 := (0 : Int)) rfl rfl un23 in3 (by refine ⟨rfl, fun _ _ => ?_⟩; first | exact rfl | exact ⟨_, _, _, rfl, rfl, Nat.zero_le _, .inl rfl⟩) rfl rfl k13_p1 (decide_eq_true (Int.le_refl _)) k13_p2) rfl (by rintro _ _ _ ⟨A13_2, c13_2, rfl, rfl, rfl⟩ w hs; exact hs.to trivial ⟨m0, trivial⟩) ?_
            rintro _ _ _ ⟨A13_2, c13_2, rfl, rfl, rfl⟩
            refine hx_det rfl rfl rfl nofun (det_assign rfl) rfl ?_
            refine hx_end ?_
            refine wl_det rfl rfl (det_assign rfl) rfl ?_
            refine wl_nil ?_
            replace h := Option.some.inj h
            subst h
            exact pn_meetG ((), A13_2, (List.replicate (a1.length : Int).toNat (0 : Int)).length, c13_2, A13_5, (List.replicate (a1.length : Int).toNat (0 : Int)).length, c13_5, ()) rfl ⟨rfl, rfl, rfl, rfl, rfl, rfl, trivial⟩ (fun _ h => h.to ⟨_, r0, ⟨_, r0, trivial⟩⟩ ⟨m0, trivial⟩)
          rintro ⟨s35, A35_0, n35_0, c35_0, A35_3, n35_3, c35_3, _⟩ e35
          dsimp only at e35 ⊢
          subst e35
          have h := ho35
          refine wc_know (fun _ h => h.lenO m0) (fun e => ?_)
          subst e
          refine wc_know (fun _ h => h.lenO (ms m0)) (fun e => ?_)
          subst e
          refine wc_seq ?_
          refine wc_region ?_   -- region 14
          refine wl_det rfl rfl (det_move rfl) rfl ?_
          refine wl_det rfl rfl (det_assign rfl) rfl ?_
          refine wl_nil ?_
          refine pn_then ?_
          obtain ⟨q39, h, ho39⟩ := bind_some h
          refine wc_meetG (G := ((List Int) × (List Int) × Int) × Unit) (fun (s39, _) => s39 = q39) (fun (s39, _) => [(0, .int .i64 a0), (1, .slice A0 a1.length c0), (9, .slice A35_0 (List.replicate (a1.length : Int).toNat (0 : Int)).length c35_0), (10, .slice A35_3 (List.replicate (a1.length : Int).toNat (0 : Int)).length c35_3), (11, .int .i64 s39.2.2)]) (fun (s39, _) => [eS (lInt .i64) 3 A35_0 (List.replicate (a1.length : Int).toNat (0 : Int)).length c35_0 s39.1, eS (lInt .i64) 3 A35_3 (List.replicate (a1.length : Int).toNat (0 : Int)).length c35_3 s39.2.1]) (fun (_, _) => [fV (lSlice (lInt .i64)) (.slice A0 a1.length c0) a1]) ?_ ?_
          · refine wc_seq ?_
            refine wc_region ?_   -- region 15
            refine wl_det rfl rfl (det_assign rfl) rfl ?_
            refine wl_nil ?_
            refine pn_then ?_
            refine wc_block ?_
            obtain ⟨k43, hk43⟩ := loopV_some.1 h
            refine wc_loop (G := Nat × ((List Int) × (List Int) × Int × Int) × Unit) (fun g => IterN (treatyref01_Split_l43 a1 r5_1 s30) g.1 g.2.1 q39) (fun g => g.1) (fun (_, s43, _) => [(0, .int .i64 a0), (1, .slice A0 a1.length c0), (6, .int .i64 r5_1.1), (8, .int .i64 s30), (9, .slice A35_0 (List.replicate (a1.length : Int).toNat (0 : Int)).length c35_0), (10, .slice A35_3 (List.replicate (a1.length : Int).toNat (0 : Int)).length c35_3), (11, .int .i64 s43.2.2.1), (12, .int .i64 s43.2.2.2)]) (fun (_, s43, _) => [eS (lInt .i64) 3 A35_0 (List.replicate (a1.length : Int).toNat (0 : Int)).length c35_0 s43.1, eS (lInt .i64) 3 A35_3 (List.replicate (a1.length : Int).toNat (0 : Int)).length c35_3 s43.2.1]) (fun (_, _, _) => [fV (lSlice (lInt .i64)) (.slice A0 a1.length c0) a1]) (k43, ((List.replicate (a1.length : Int).toNat (0 : Int)), (List.replicate (a1.length : Int).toNat (0 : Int)), s30, 0), ()) hk43 ⟨rfl, rfl, rfl, rfl, rfl, rfl, rfl, rfl, trivial⟩ (fun _ h => h.to ⟨_, r0, ⟨_, r0, trivial⟩⟩ ⟨m0, trivial⟩) ?_
            rintro ⟨k43, s43, _⟩ hI
            obtain ⟨k43, rfl, q43, h, g43⟩ := IterN.pos hI
            dsimp only at h ⊢
            unfold treatyref01_Split_l43 at h
            refine wc_seq ?_
            refine wc_seq ?_
            refine wc_region ?_   -- region 16
            refine wl_det rfl rfl (det_move rfl) rfl ?_
            refine wl_det rfl rfl (det_move rfl) rfl ?_
            refine wl_det rfl rfl (det_len rfl un23) rfl ?_
            refine wl_det rfl rfl (det_lss rfl rfl) rfl ?_
            refine wl_nil ?_
            refine pn_then ?_
            refine wc_cond rfl (fun c47 => ?_) (fun c47 => ?_)
            · have h := ifT h c47
              refine wc_skip ?_
              refine pn_then ?_
              refine wc_seq ?_
              refine wc_block ?_
              refine wc_seq ?_
              refine wc_region ?_   -- region 18
              refine wl_det rfl rfl (det_move rfl) rfl ?_
              refine wl_det rfl rfl (det_move rfl) rfl ?_
              refine wl_det rfl rfl (det_move rfl) rfl ?_
              refine wl_det rfl rfl (det_move rfl) rfl ?_
              refine wl_det rfl rfl (det_move rfl) rfl ?_
              refine wl_det rfl rfl (det_move rfl) rfl ?_
              refine wl_det rfl rfl (det_move rfl) rfl ?_
              obtain ⟨k18_7, h⟩ := chk_some h
              refine wl_st (fun _ h => h.openF m0 k18_7) ?_
              refine wl_det rfl rfl (det_indexP rfl rfl (ms m0) k18_7 m0 un23 sz3) rfl ?_
              refine wl_det rfl rfl (det_loadP (off := 0) rfl m0 (by rfl) (by rfl) (loaded_1 na3 us3)) rfl ?_
              refine wl_det rfl rfl (det_move rfl) rfl ?_
              obtain ⟨r18_10, hr18_10, h⟩ := bind_some h
              refine wl_act (act_callS (cap := []) (W_treatyref01_Divide s30 (ix a1 s43.2.2.2) r5_1.1 r18_10 hr18_10) rfl rfl rfl bd70 rfl trivial) rfl rfl rfl ?_
              rintro _ _ _ ⟨_, _, ⟨rfl, rfl, rfl⟩, rfl, rfl⟩
              dsimp only [List.nil_append, List.cons_append]
              refine wl_det rfl rfl (det_move rfl) rfl ?_
              refine wl_det rfl rfl (det_extract rfl rfl) rfl ?_
              refine wl_det rfl rfl (det_extract rfl rfl) rfl ?_
              refine wl_det rfl rfl (det_extract rfl rfl) rfl ?_
              obtain ⟨k18_15, h⟩ := chk_some h
              refine wl_det rfl rfl (det_indexO rfl rfl m0 k18_15 un23 sz3) rfl ?_
              refine wl_act0 (act_storeO (cells := [_]) (off := 0) r18_10.1 rfl rfl rfl s0 k18_15 (by rfl) sz3 (by intro u hu; simp at hu; rcases hu with rfl <;> rfl) (stR_flat rfl rfl)) rfl rfl ?_
              rintro _ _ _ ⟨rfl, rfl⟩
              obtain ⟨k18_17, h⟩ := chk_some h
              refine wl_det rfl rfl (det_indexO rfl rfl (ms m0) k18_17 un23 sz3) rfl ?_
              refine wl_act0 (act_storeO (cells := [_]) (off := 0) r18_10.2.1 rfl rfl rfl (ss s0) k18_17 (by rfl) sz3 (by intro u hu; simp at hu; rcases hu with rfl <;> rfl) (stR_flat rfl rfl)) rfl rfl ?_
              rintro _ _ _ ⟨rfl, rfl⟩
              refine wl_nil ?_
              refine pn_then ?_
              refine wc_region ?_   -- region 19
              refine wl_det rfl rfl (det_move rfl) rfl ?_
              refine wl_det rfl rfl (det_move rfl) rfl ?_
              refine wl_det rfl rfl (det_move rfl) rfl ?_
              obtain ⟨k19_3, h⟩ := chk_some h
              refine wl_det rfl rfl (det_indexO rfl rfl m0 k19_3 un23 sz3) rfl ?_
              refine wl_det rfl rfl (det_loadO (off := 0) rfl m0 k19_3 (by rfl) (by rfl) (loaded_1 na3 us3)) rfl ?_
              refine wl_det rfl rfl (det_sub rfl rfl) rfl ?_
              refine wl_det rfl rfl (det_assign rfl) rfl ?_
              refine wl_nil ?_
              refine pn_block ?_
              refine pn_then ?_
              refine wc_region ?_   -- region 17
              refine wl_det rfl rfl (det_move rfl) rfl ?_
              refine wl_det rfl rfl (det_add rfl rfl) rfl ?_
              refine wl_det rfl rfl (det_assign rfl) rfl ?_
              refine wl_nil ?_
              replace h := Option.some.inj h
              subst h
              exact pn_some (k43, ((upd s43.1 s43.2.2.2 r18_10.1), (upd s43.2.1 s43.2.2.2 r18_10.2.1), (w64 (s43.2.2.1 - (ix (upd s43.1 s43.2.2.2 r18_10.1) s43.2.2.2))), (w64 (s43.2.2.2 + 1))), ()) ⟨nextL g43, Nat.lt_succ_self _⟩ ⟨rfl, rfl, rfl, rfl, rfl, rfl, rfl, rfl, trivial⟩ (fun _ h => h.to ⟨_, r0, ⟨_, r0, trivial⟩⟩ ⟨(ms m0), trivial⟩)
            · have h := ifF h c47
              refine wc_exit ?_
              refine px_then ?_
              refine px_then ?_
              refine px_block ?_
              replace h := Option.some.inj h
              subst h
              replace g43 := nextR g43
              subst g43
              exact pn_meetG ((s43.1, s43.2.1, s43.2.2.1), ()) rfl ⟨rfl, rfl, rfl, rfl, rfl, trivial⟩ (fun _ h => h.to ⟨_, r0, ⟨_, r0, trivial⟩⟩ ⟨m0, trivial⟩)
          rintro ⟨s39, _⟩ e39
          dsimp only at e39 ⊢
          subst e39
          have h := ho39
          obtain ⟨q55, h, ho55⟩ := bind_some h
          refine wc_meetG (G := (List Int) × Unit) (fun (s55, _) => s55 = q55) (fun (_, _) => [(0, .int .i64 a0), (9, .slice A35_0 (List.replicate (a1.length : Int).toNat (0 : Int)).length c35_0)]) (fun (s55, _) => [eS (lInt .i64) 3 A35_0 (List.replicate (a1.length : Int).toNat (0 : Int)).length c35_0 s55]) (fun (_, _) => []) ?_ ?_
          · refine wc_block ?_
            obtain ⟨k57, hk57⟩ := loopV_some.1 h
            refine wc_loop (G := Nat × ((List Int) × (List Int) × Int) × Unit) (fun g => IterN (treatyref01_Split_l57 a1) g.1 g.2.1 q55) (fun g => g.1) (fun (_, s57, _) => [(0, .int .i64 a0), (1, .slice A0 a1.length c0), (9, .slice A35_0 (List.replicate (a1.length : Int).toNat (0 : Int)).length c35_0), (10, .slice A35_3 (List.replicate (a1.length : Int).toNat (0 : Int)).length c35_3), (11, .int .i64 s57.2.2)]) (fun (_, s57, _) => [eS (lInt .i64) 3 A35_0 (List.replicate (a1.length : Int).toNat (0 : Int)).length c35_0 s57.1, eS (lInt .i64) 3 A35_3 (List.replicate (a1.length : Int).toNat (0 : Int)).length c35_3 s57.2.1]) (fun (_, _, _) => [fV (lSlice (lInt .i64)) (.slice A0 a1.length c0) a1]) (k57, (s39.1, s39.2.1, s39.2.2), ()) hk57 ⟨rfl, rfl, rfl, rfl, rfl, trivial⟩ (fun _ h => h.to ⟨_, r0, ⟨_, r0, trivial⟩⟩ ⟨m0, trivial⟩) ?_
            rintro ⟨k57, s57, _⟩ hI
            obtain ⟨k57, rfl, q57, h, g57⟩ := IterN.pos hI
            dsimp only at h ⊢
            unfold treatyref01_Split_l57 at h
            refine wc_seq ?_
            refine wc_seq ?_
            refine wc_region ?_   -- region 20
            refine wl_det rfl rfl (det_move rfl) rfl ?_
            refine wl_det rfl rfl (det_gtr rfl rfl) rfl ?_
            refine wl_nil ?_
            refine pn_then ?_
            refine wc_cond rfl (fun c61 => ?_) (fun c61 => ?_)
            · have h := ifT h c61
              refine wc_skip ?_
              refine pn_then ?_
              obtain ⟨q63, h, ho63⟩ := bind_some h
              refine wc_meetG (G := ((List Int) × (List Int)) × Unit) (fun (s63, _) => s63 = q63) (fun (_, _) => [(0, .int .i64 a0), (1, .slice A0 a1.length c0), (9, .slice A35_0 (List.replicate (a1.length : Int).toNat (0 : Int)).length c35_0), (10, .slice A35_3 (List.replicate (a1.length : Int).toNat (0 : Int)).length c35_3), (11, .int .i64 s57.2.2)]) (fun (s63, _) => [eS (lInt .i64) 3 A35_0 (List.replicate (a1.length : Int).toNat (0 : Int)).length c35_0 s63.1, eS (lInt .i64) 3 A35_3 (List.replicate (a1.length : Int).toNat (0 : Int)).length c35_3 s63.2]) (fun (_, _) => [fV (lSlice (lInt .i64)) (.slice A0 a1.length c0) a1]) ?_ ?_
              · refine wc_block ?_
                refine wc_seq ?_
                refine wc_region ?_   -- region 22
                refine wl_det rfl rfl (det_assign rfl) rfl ?_
                refine wl_nil ?_
                refine pn_then ?_
                obtain ⟨q67, h, ho67⟩ := bind_some h
                refine wc_meetG (G := Int × Unit) (fun (s67, _) => s67 = q67) (fun (s67, _) => [(0, .int .i64 a0), (1, .slice A0 a1.length c0), (9, .slice A35_0 (List.replicate (a1.length : Int).toNat (0 : Int)).length c35_0), (10, .slice A35_3 (List.replicate (a1.length : Int).toNat (0 : Int)).length c35_3), (11, .int .i64 s57.2.2), (13, .int .i64 s67)]) (fun (_, _) => [eS (lInt .i64) 3 A35_0 (List.replicate (a1.length : Int).toNat (0 : Int)).length c35_0 s57.1, eS (lInt .i64) 3 A35_3 (List.replicate (a1.length : Int).toNat (0 : Int)).length c35_3 s57.2.1]) (fun (_, _) => [fV (lSlice (lInt .i64)) (.slice A0 a1.length c0) a1]) ?_ ?_
                · refine wc_seq ?_
                  refine wc_region ?_   -- region 23
                  refine wl_det rfl rfl (det_assign rfl) rfl ?_
                  refine wl_nil ?_
                  refine pn_then ?_
                  refine wc_block ?_
                  obtain ⟨k71, hk71⟩ := loopV_some.1 h
                  refine wc_loop (G := Nat × (Int × Int) × Unit) (fun g => IterN (treatyref01_Split_l71 a1 s57) g.1 g.2.1 q67) (fun g => g.1) (fun (_, s71, _) => [(0, .int .i64 a0), (1, .slice A0 a1.length c0), (9, .slice A35_0 (List.replicate (a1.length : Int).toNat (0 : Int)).length c35_0), (10, .slice A35_3 (List.replicate (a1.length : Int).toNat (0 : Int)).length c35_3), (11, .int .i64 s57.2.2), (13, .int .i64 s71.1), (14, .int .i64 s71.2)]) (fun (_, _, _) => [eS (lInt .i64) 3 A35_0 (List.replicate (a1.length : Int).toNat (0 : Int)).length c35_0 s57.1, eS (lInt .i64) 3 A35_3 (List.replicate (a1.length : Int).toNat (0 : Int)).length c35_3 s57.2.1]) (fun (_, _, _) => [fV (lSlice (lInt .i64)) (.slice A0 a1.length c0) a1]) (k71, (0, 1), ()) hk71 ⟨rfl, rfl, rfl, rfl, rfl, rfl, rfl, trivial⟩ (fun _ h => h.to ⟨_, r0, ⟨_, r0, trivial⟩⟩ ⟨m0, trivial⟩) ?_
                  rintro ⟨k71, s71, _⟩ hI
                  obtain ⟨k71, rfl, q71, h, g71⟩ := IterN.pos hI
                  dsimp only at h ⊢
                  unfold treatyref01_Split_l71 at h
                  refine wc_seq ?_
                  refine wc_seq ?_
                  refine wc_region ?_   -- region 24
                  refine wl_det rfl rfl (det_move rfl) rfl ?_
                  refine wl_det rfl rfl (det_move rfl) rfl ?_
                  refine wl_det rfl rfl (det_len rfl un23) rfl ?_
                  refine wl_det rfl rfl (det_lss rfl rfl) rfl ?_
                  refine wl_nil ?_
                  refine pn_then ?_
                  refine wc_cond rfl (fun c75 => ?_) (fun c75 => ?_)
                  · have h := ifT h c75
                    refine wc_skip ?_
                    refine pn_then ?_
                    obtain ⟨q77, h, ho77⟩ := bind_some h
                    refine wc_meetG (G := Int × Unit) (fun (s77, _) => s77 = q77) (fun (s77, _) => [(0, .int .i64 a0), (1, .slice A0 a1.length c0), (9, .slice A35_0 (List.replicate (a1.length : Int).toNat (0 : Int)).length c35_0), (10, .slice A35_3 (List.replicate (a1.length : Int).toNat (0 : Int)).length c35_3), (11, .int .i64 s57.2.2), (13, .int .i64 s77), (14, .int .i64 s71.2)]) (fun (_, _) => [eS (lInt .i64) 3 A35_0 (List.replicate (a1.length : Int).toNat (0 : Int)).length c35_0 s57.1, eS (lInt .i64) 3 A35_3 (List.replicate (a1.length : Int).toNat (0 : Int)).length c35_3 s57.2.1]) (fun (_, _) => [fV (lSlice (lInt .i64)) (.slice A0 a1.length c0) a1]) ?_ ?_
                    · refine wc_block ?_
                      refine wc_seq ?_
                      obtain ⟨k26_p1, h⟩ := chk_some h
                      obtain ⟨k26_p2, h⟩ := chk_some h
                      refine dx_region 9 [[], [], [0, 1], [0, 1, 2], [], [], [4, 5], [4, 5, 6], [0, 1, 2, 3, 4, 5, 6, 7]] mixed (ord := (.det 0 (.det 1 (.det 2 (.det 3 (.det 4 (.det 5 (.det 6 (.det 7 (.det 8 .done)))))))))) (by kernel_rfl) ?_   -- region 26
                      refine hx_det rfl rfl rfl nofun (det_move rfl) rfl ?_
                      refine hx_det rfl rfl rfl nofun (det_move rfl) rfl ?_
                      refine hx_det rfl rfl rfl nofun (det_indexO rfl rfl (ms m0) k26_p1 un23 sz3) rfl ?_
                      refine hx_det rfl rfl rfl nofun (det_loadO (off := 0) rfl (ms m0) k26_p1 (by rfl) (by rfl) (loaded_1 na3 us3)) rfl ?_
                      refine hx_det rfl rfl rfl nofun (det_move rfl) rfl ?_
                      refine hx_det rfl rfl rfl nofun (det_move rfl) rfl ?_
                      refine hx_det rfl rfl rfl nofun (det_indexO rfl rfl (ms m0) k26_p2 un23 sz3) rfl ?_
                      refine hx_det rfl rfl rfl nofun (det_loadO (off := 0) rfl (ms m0) k26_p2 (by rfl) (by rfl) (loaded_1 na3 us3)) rfl ?_
                      refine hx_det rfl rfl rfl nofun (det_gtr rfl rfl) rfl ?_
                      refine hx_end ?_
                      refine wl_nil ?_
                      refine pn_then ?_
                      refine wc_cond rfl (fun c81 => ?_) (fun c81 => ?_)
                      · have h := ifT h c81
                        refine wc_region ?_   -- region 27
                        refine wl_det rfl rfl (det_move rfl) rfl ?_
                        refine wl_det rfl rfl (det_assign rfl) rfl ?_
                        refine wl_nil ?_
                        refine pn_block ?_
                        replace h := Option.some.inj h
                        subst h
                        exact pn_meetG (s71.2, ()) rfl ⟨rfl, rfl, rfl, rfl, rfl, rfl, rfl, trivial⟩ (fun _ h => h.to ⟨_, r0, ⟨_, r0, trivial⟩⟩ ⟨m0, trivial⟩)
                      · have h := ifF h c81
                        refine wc_skip ?_
                        refine pn_block ?_
                        replace h := Option.some.inj h
                        subst h
                        exact pn_meetG (s71.1, ()) rfl ⟨rfl, rfl, rfl, rfl, rfl, rfl, rfl, trivial⟩ (fun _ h => h.to ⟨_, r0, ⟨_, r0, trivial⟩⟩ ⟨m0, trivial⟩)
                    rintro ⟨s77, _⟩ e77
                    dsimp only at e77 ⊢
                    subst e77
                    have h := ho77
                    refine wc_region ?_   -- region 25
                    refine wl_det rfl rfl (det_move rfl) rfl ?_
                    refine wl_det rfl rfl (det_add rfl rfl) rfl ?_
                    refine wl_det rfl rfl (det_assign rfl) rfl ?_
                    refine wl_nil ?_
                    replace h := Option.some.inj h
                    subst h
                    exact pn_some (k71, (s77, (w64 (s71.2 + 1))), ()) ⟨nextL g71, Nat.lt_succ_self _⟩ ⟨rfl, rfl, rfl, rfl, rfl, rfl, rfl, trivial⟩ (fun _ h => h.to ⟨_, r0, ⟨_, r0, trivial⟩⟩ ⟨m0, trivial⟩)
                  · have h := ifF h c75
                    refine wc_exit ?_
                    refine px_then ?_
                    refine px_then ?_
                    refine px_block ?_
                    replace h := Option.some.inj h
                    subst h
                    replace g71 := nextR g71
                    subst g71
                    exact pn_meetG (s71.1, ()) rfl ⟨rfl, rfl, rfl, rfl, rfl, rfl, trivial⟩ (fun _ h => h.to ⟨_, r0, ⟨_, r0, trivial⟩⟩ ⟨m0, trivial⟩)
                rintro ⟨s67, _⟩ e67
                dsimp only at e67 ⊢
                subst e67
                have h := ho67
                refine wc_region ?_   -- region 28
                refine wl_det rfl rfl (det_move rfl) rfl ?_
                refine wl_det rfl rfl (det_move rfl) rfl ?_
                refine wl_det rfl rfl (det_move rfl) rfl ?_
                refine wl_det rfl rfl (det_move rfl) rfl ?_
                refine wl_det rfl rfl (det_move rfl) rfl ?_
                refine wl_det rfl rfl (det_move rfl) rfl ?_
                obtain ⟨k28_6, h⟩ := chk_some h
                refine wl_det rfl rfl (det_indexO rfl rfl m0 k28_6 un23 sz3) rfl ?_
                refine wl_det rfl rfl (det_loadO (off := 0) rfl m0 k28_6 (by rfl) (by rfl) (loaded_1 na3 us3)) rfl ?_
                refine wl_det rfl rfl (det_add rfl rfl) rfl ?_
                refine wl_det rfl rfl (det_indexO rfl rfl m0 k28_6 un23 sz3) rfl ?_
                refine wl_act0 (act_storeO (cells := [_]) (off := 0) (w64 ((ix s57.1 s67) + 1)) rfl rfl rfl s0 k28_6 (by rfl) sz3 (by intro u hu; simp at hu; rcases hu with rfl <;> rfl) (stR_flat rfl rfl)) rfl rfl ?_
                rintro _ _ _ ⟨rfl, rfl⟩
                obtain ⟨k28_11, h⟩ := chk_some h
                refine wl_det rfl rfl (det_indexO rfl rfl (ms m0) k28_11 un23 sz3) rfl ?_
                refine wl_act0 (act_storeO (cells := [_]) (off := 0) (-1) rfl rfl rfl (ss s0) k28_11 (by rfl) sz3 (by intro u hu; simp at hu; rcases hu with rfl <;> rfl) (stR_flat rfl rfl)) rfl rfl ?_
                rintro _ _ _ ⟨rfl, rfl⟩
                refine wl_nil ?_
                refine pn_block ?_
                replace h := Option.some.inj h
                subst h
                exact pn_meetG (((upd s57.1 s67 (w64 ((ix s57.1 s67) + 1))), (upd s57.2.1 s67 (-1))), ()) rfl ⟨rfl, rfl, rfl, rfl, rfl, trivial⟩ (fun _ h => h.to ⟨_, r0, ⟨_, r0, trivial⟩⟩ ⟨m0, trivial⟩)
              rintro ⟨s63, _⟩ e63
              dsimp only at e63 ⊢
              subst e63
              have h := ho63
              refine wc_region ?_   -- region 21
              refine wl_det rfl rfl (det_move rfl) rfl ?_
              refine wl_det rfl rfl (det_sub rfl rfl) rfl ?_
              refine wl_det rfl rfl (det_assign rfl) rfl ?_
              refine wl_nil ?_
              replace h := Option.some.inj h
              subst h
              exact pn_some (k57, (s63.1, s63.2, (w64 (s57.2.2 - 1))), ()) ⟨nextL g57, Nat.lt_succ_self _⟩ ⟨rfl, rfl, rfl, rfl, rfl, trivial⟩ (fun _ h => h.to ⟨_, r0, ⟨_, r0, trivial⟩⟩ ⟨m0, trivial⟩)
            · have h := ifF h c61
              refine wc_exit ?_
              refine px_then ?_
              refine px_then ?_
              refine px_block ?_
              replace h := Option.some.inj h
              subst h
              replace g57 := nextR g57
              subst g57
              exact pn_meetG (s57.1, ()) rfl ⟨rfl, rfl, trivial⟩ (fun _ h => h.to ⟨_, r0, trivial⟩ trivial)
          rintro ⟨s55, _⟩ e55
          dsimp only at e55 ⊢
          subst e55
          have h := ho55
          obtain ⟨q86, h, ho86⟩ := bind_some h
          refine wc_meetG (G := (List Int) × Unit) (fun (s86, _) => s86 = q86) (fun (_, _) => [(9, .slice A35_0 (List.replicate (a1.length : Int).toNat (0 : Int)).length c35_0)]) (fun (s86, _) => [eS (lInt .i64) 3 A35_0 (List.replicate (a1.length : Int).toNat (0 : Int)).length c35_0 s86]) (fun (_, _) => []) ?_ ?_
          · refine wc_seq ?_
            refine wc_region ?_   -- region 29
            refine wl_det rfl rfl (det_move rfl) rfl ?_
            refine wl_det rfl rfl (det_lss rfl rfl) rfl ?_
            refine wl_nil ?_
            refine pn_then ?_
            refine wc_cond rfl (fun c89 => ?_) (fun c89 => ?_)
            · have h := ifT h c89
              refine wc_seq ?_
              refine wc_region ?_   -- region 30
              refine wl_det rfl rfl (det_assign rfl) rfl ?_
              refine wl_nil ?_
              refine pn_then ?_
              refine wc_block ?_
              obtain ⟨k93, hk93⟩ := loopV_some.1 h
              refine wc_loop (G := Nat × ((List Int) × Int) × Unit) (fun g => IterN (treatyref01_Split_l93 a1) g.1 g.2.1 q86) (fun g => g.1) (fun (_, s93, _) => [(9, .slice A35_0 (List.replicate (a1.length : Int).toNat (0 : Int)).length c35_0), (15, .int .i64 s93.2)]) (fun (_, s93, _) => [eS (lInt .i64) 3 A35_0 (List.replicate (a1.length : Int).toNat (0 : Int)).length c35_0 s93.1]) (fun (_, _, _) => []) (k93, (s55, 0), ()) hk93 ⟨rfl, rfl, trivial⟩ (fun _ h => h.to ⟨_, r0, trivial⟩ trivial) ?_
              rintro ⟨k93, s93, _⟩ hI
              obtain ⟨k93, rfl, q93, h, g93⟩ := IterN.pos hI
              dsimp only at h ⊢
              unfold treatyref01_Split_l93 at h
              refine wc_seq ?_
              refine wc_seq ?_
              refine wc_region ?_   -- region 31
              refine wl_det rfl rfl (det_move rfl) rfl ?_
              refine wl_det rfl rfl (det_move rfl) rfl ?_
              refine wl_det rfl rfl (det_len rfl un23) rfl ?_
              refine wl_det rfl rfl (det_lss rfl rfl) rfl ?_
              refine wl_nil ?_
              refine pn_then ?_
              refine wc_cond rfl (fun c97 => ?_) (fun c97 => ?_)
              · have h := ifT h c97
                refine wc_skip ?_
                refine pn_then ?_
                refine wc_seq ?_
                refine wc_block ?_
                refine wc_region ?_   -- region 33
                refine wl_det rfl rfl (det_move rfl) rfl ?_
                refine wl_det rfl rfl (det_move rfl) rfl ?_
                refine wl_det rfl rfl (det_move rfl) rfl ?_
                refine wl_det rfl rfl (det_move rfl) rfl ?_
                obtain ⟨k33_4, h⟩ := chk_some h
                refine wl_det rfl rfl (det_indexO rfl rfl m0 k33_4 un23 sz3) rfl ?_
                refine wl_det rfl rfl (det_loadO (off := 0) rfl m0 k33_4 (by rfl) (by rfl) (loaded_1 na3 us3)) rfl ?_
                refine wl_det rfl rfl (det_neg rfl) rfl ?_
                refine wl_det rfl rfl (det_indexO rfl rfl m0 k33_4 un23 sz3) rfl ?_
                refine wl_act0 (act_storeO (cells := [_]) (off := 0) (w64 (0 - (ix s93.1 s93.2))) rfl rfl rfl s0 k33_4 (by rfl) sz3 (by intro u hu; simp at hu; rcases hu with rfl <;> rfl) (stR_flat rfl rfl)) rfl rfl ?_
                rintro _ _ _ ⟨rfl, rfl⟩
                refine wl_nil ?_
                refine pn_block ?_
                refine pn_then ?_
                refine wc_region ?_   -- region 32
                refine wl_det rfl rfl (det_move rfl) rfl ?_
                refine wl_det rfl rfl (det_add rfl rfl) rfl ?_
                refine wl_det rfl rfl (det_assign rfl) rfl ?_
                refine wl_nil ?_
                replace h := Option.some.inj h
                subst h
                exact pn_some (k93, ((upd s93.1 s93.2 (w64 (0 - (ix s93.1 s93.2)))), (w64 (s93.2 + 1))), ()) ⟨nextL g93, Nat.lt_succ_self _⟩ ⟨rfl, rfl, trivial⟩ (fun _ h => h.to ⟨_, r0, trivial⟩ trivial)
              · have h := ifF h c97
                refine wc_exit ?_
                refine px_then ?_
                refine px_then ?_
                refine px_block ?_
                replace h := Option.some.inj h
                subst h
                replace g93 := nextR g93
                subst g93
                exact pn_meetG (s93.1, ()) rfl ⟨rfl, trivial⟩ (fun _ h => h.to ⟨_, r0, trivial⟩ trivial)
            · have h := ifF h c89
              refine wc_skip ?_
              replace h := Option.some.inj h
              subst h
              exact pn_meetG (s55, ()) rfl ⟨rfl, trivial⟩ (fun _ h => h.to ⟨_, r0, trivial⟩ trivial)
          rintro ⟨s86, _⟩ e86
          dsimp only at e86 ⊢
          subst e86
          have h := ho86
          refine wc_seq ?_
          refine wc_region ?_   -- region 34
          refine wl_det rfl rfl (det_move rfl) rfl ?_
          refine wl_det rfl rfl (det_assign rfl) rfl ?_
          refine wl_det rfl rfl (det_assign rfl) rfl ?_
          refine wl_nil ?_
          refine pn_then ?_
          refine wc_ret ?_
          replace h := Option.some.inj h
          subst h
          refine pn_ret (vs := [_, _]) rfl ⟨rfl, rfl, trivial⟩ ⟨A35_0, (List.replicate (a1.length : Int).toNat (0 : Int)).length, c35_0, rfl, rfl, rfl⟩ (fun _ h => h.to ⟨_, r0, trivial⟩ trivial)
def Q_treatyref01_Reduce (r : (List Int) × Int) : Value → List Ent → List Fact → Prop := fun v θ κ => ∃ (pA0 : Option Addr), ∃ (pn0 : Nat), ∃ (pc0 : Nat), v = .tuple #[.slice pA0 pn0 pc0, .int .i64 r.2] ∧ θ = [eS (lInt .i64) 3 pA0 pn0 pc0 r.1] ∧ κ = []
theorem plains_treatyref01_Reduce {r : (List Int) × Int} : ∀ v θ κ, Q_treatyref01_Reduce r v θ κ → Plains θ := by
  rintro _ _ _ ⟨_, _, _, rfl, rfl, rfl⟩
  exact ⟨plain_eS, trivial⟩
set_option maxRecDepth 100000 in
theorem W_treatyref01_Reduce (a0 : (List Int)) (a1 : Int) (A0 : Option Addr) (n0 : Nat) (c0 : Nat) (r : (List Int) × Int) (h : treatyref01_Reduce a0 a1 = some r) : Spec Try.prog 54 [.slice A0 n0 c0, .int .i64 a1] [] [fV (lSlice (lInt .i64)) (.slice A0 n0 c0) a0] (Q_treatyref01_Reduce r) := by
  unfold treatyref01_Reduce at h
  refine spec_of (σ := [(0, _), (1, _)]) Try.func54 rfl rfl rfl rfl ?_
  intro C
  refine wc_know (fun _ h => h.lenF m0) (fun e => ?_)
  subst e
  refine wc_seq ?_
  refine wc_region ?_   -- region 0
  refine wl_det rfl rfl (det_assign rfl) rfl ?_
  refine wl_det rfl rfl (det_assign rfl) rfl ?_
  refine wl_nil ?_
  refine pn_then ?_
  refine wc_seq ?_
  refine wc_seq ?_
  refine wc_region ?_   -- region 1
  refine wl_det rfl rfl (det_move rfl) rfl ?_
  refine wl_det rfl rfl (det_len rfl un23) rfl ?_
  refine wl_det rfl rfl (det_gtr rfl rfl) rfl ?_
  refine wl_nil ?_
  refine pn_then ?_
  refine wc_cond rfl (fun c5 => ?_) (fun c5 => ?_)
  · have h := ifT h c5
    refine wc_seq ?_
    refine wc_region ?_   -- region 2
    refine wl_det rfl rfl (det_assign rfl) rfl ?_
    refine wl_det rfl rfl (det_assign rfl) rfl ?_
    refine wl_nil ?_
    refine pn_then ?_
    refine wc_ret ?_
    refine pr_then ?_
    refine pn_st (fun _ h => h.zeroS (lInt .i64) 3 none) ?_
    replace h := Option.some.inj h
    subst h
    refine pn_ret (vs := [_, _]) rfl ⟨rfl, rfl, trivial⟩ ⟨none, 0, 0, rfl, rfl, rfl⟩ (fun _ h => h.to ⟨_, r0, trivial⟩ trivial)
  · have h := ifF h c5
    refine wc_skip ?_
    refine pn_then ?_
    refine wc_seq ?_
    refine wc_region ?_   -- region 3
    refine wl_det rfl rfl (det_move rfl) rfl ?_
    obtain ⟨r3_1, hr3_1, h⟩ := bind_some h
    refine wl_act (act_callS (cap := []) (W_treatyref01_weights a0 A0 a0.length c0 r3_1 hr3_1) rfl rfl rfl bd69 rfl ⟨m0, trivial⟩) rfl rfl rfl ?_
    rintro _ _ _ ⟨_, _, ⟨rfl, rfl, rfl⟩, rfl, rfl⟩
    dsimp only [List.nil_append, List.cons_append]
    refine wl_det rfl rfl (det_move rfl) rfl ?_
    refine wl_det rfl rfl (det_extract rfl rfl) rfl ?_
    refine wl_det rfl rfl (det_extract rfl rfl) rfl ?_
    refine wl_det rfl rfl (det_assign rfl) rfl ?_
    refine wl_det rfl rfl (det_assign rfl) rfl ?_
    refine wl_nil ?_
    refine pn_then ?_
    refine wc_seq ?_
    refine wc_seq ?_
    refine wc_region ?_   -- region 4
    refine wl_det rfl rfl (det_move rfl) rfl ?_
    refine wl_det rfl rfl (det_neq rfl rfl) rfl ?_
    refine wl_det rfl rfl (det_move rfl) rfl ?_
    refine wl_way (!decide (r3_1.2 = 0)) ((!decide (r3_1.2 = 0)) || (decide (a1 < 0))) 3 21 (fun hg => ?_) (fun hg => ?_) ?_
    · have hg4_5 := hg
      refine wl_off rfl rfl rfl rfl rfl hg4_5 rfl ?_
      refine wl_off rfl rfl rfl rfl rfl hg4_5 rfl ?_
      refine wl_det rfl rfl (det_or_on (r := (decide (a1 < 0))) rfl rfl rfl hg4_5) rfl ?_
      exact wl_nil (pn_qnE (ext_cons rfl (ext_skip rfl (ext_skip rfl (ext_skip rfl ext_refl)))) (fun _ h => h))
    · have hg4_5a := hg
      refine wl_on rfl rfl rfl rfl hg4_5a ?_
      refine wl_det rfl rfl (det_move rfl) rfl ?_
      refine wl_on rfl rfl rfl rfl hg4_5a ?_
      refine wl_det rfl rfl (det_lss rfl rfl) rfl ?_
      refine wl_det rfl rfl (det_or_off rfl rfl rfl hg4_5a) rfl ?_
      exact wl_nil (pn_qnE (ext_cons rfl (ext_skip rfl (ext_skip rfl (ext_skip rfl ext_refl)))) (fun _ h => h))
    refine wl_det rfl rfl (det_move rfl) rfl ?_
    refine wl_way ((!decide (r3_1.2 = 0)) || (decide (a1 < 0))) (((!decide (r3_1.2 = 0)) || (decide (a1 < 0))) || (decide (17592186044416 < a1))) 3 25 (fun hg => ?_) (fun hg => ?_) ?_
    · have hg4_9 := hg
      refine wl_off rfl rfl rfl rfl rfl hg4_9 rfl ?_
      refine wl_off rfl rfl rfl rfl rfl hg4_9 rfl ?_
      refine wl_det rfl rfl (det_or_on (r := (decide (17592186044416 < a1))) rfl rfl rfl hg4_9) rfl ?_
      exact wl_nil (pn_qnE (ext_cons rfl (ext_skip rfl (ext_skip rfl (ext_skip rfl ext_refl)))) (fun _ h => h))
    · have hg4_9a := hg
      refine wl_on rfl rfl rfl rfl hg4_9a ?_
      refine wl_det rfl rfl (det_move rfl) rfl ?_
      refine wl_on rfl rfl rfl rfl hg4_9a ?_
      refine wl_det rfl rfl (det_gtr rfl rfl) rfl ?_
      refine wl_det rfl rfl (det_or_off rfl rfl rfl hg4_9a) rfl ?_
      exact wl_nil (pn_qnE (ext_cons rfl (ext_skip rfl (ext_skip rfl (ext_skip rfl ext_refl)))) (fun _ h => h))
    refine wl_nil ?_
    refine pn_then ?_
    refine wc_cond rfl (fun c13 => ?_) (fun c13 => ?_)
    · have h := ifT h c13
      refine wc_seq ?_
      refine wc_region ?_   -- region 5
      refine wl_det rfl rfl (det_assign rfl) rfl ?_
      refine wl_det rfl rfl (det_assign rfl) rfl ?_
      refine wl_nil ?_
      refine pn_then ?_
      refine wc_ret ?_
      refine pr_then ?_
      refine pn_st (fun _ h => h.zeroS (lInt .i64) 3 none) ?_
      replace h := Option.some.inj h
      subst h
      refine pn_ret (vs := [_, _]) rfl ⟨rfl, rfl, trivial⟩ ⟨none, 0, 0, rfl, rfl, rfl⟩ (fun _ h => h.to ⟨_, r0, trivial⟩ trivial)
    · have h := ifF h c13
      refine wc_skip ?_
      refine pn_then ?_
      refine wc_seq ?_
      refine wc_seq ?_
      refine wc_region ?_   -- region 6
      refine wl_det rfl rfl (det_move rfl) rfl ?_
      refine wl_det rfl rfl (det_move rfl) rfl ?_
      refine wl_det rfl rfl (det_leq rfl rfl) rfl ?_
      refine wl_nil ?_
      refine pn_then ?_
      refine wc_cond rfl (fun c19 => ?_) (fun c19 => ?_)
      · have h := ifT h c19
        refine wc_seq ?_
        refine wc_region ?_   -- region 7
        refine wl_act (act_lit0S (lInt .i64) un23 (by kernel_rfl)) rfl rfl rfl ?_
        rintro _ _ _ ⟨A7_0, rfl, rfl, rfl⟩
        refine wl_det rfl rfl (det_move rfl) rfl ?_
        obtain ⟨k7_2, h⟩ := chk_some h
        refine wl_act (act_appendS0 (L := (lInt .i64)) rfl rfl s0 (src_F m0) un23 in3 rfl rfl rfl k7_2) rfl rfl rfl ?_
        rintro _ _ _ ⟨A7_2, c7_2, rfl, rfl, rfl⟩
        refine wl_det rfl rfl (det_assign rfl) rfl ?_
        refine wl_det rfl rfl (det_assign rfl) rfl ?_
        refine wl_nil ?_
        refine pn_then ?_
        refine wc_ret ?_
        refine pr_then ?_
        replace h := Option.some.inj h
        subst h
        refine pn_ret (vs := [_, _]) rfl ⟨rfl, rfl, trivial⟩ ⟨A7_2, a0.length, c7_2, rfl, rfl, rfl⟩ (fun _ h => h.to ⟨_, r0, trivial⟩ trivial)
      · have h := ifF h c19
        refine wc_skip ?_
        refine pn_then ?_
        refine wc_seq ?_
        refine wc_region ?_   -- region 8
        refine wl_det rfl rfl (det_move rfl) rfl ?_
        refine wl_det rfl rfl (det_move rfl) rfl ?_
        obtain ⟨r8_2, hr8_2, h⟩ := bind_some h
        refine wl_act (act_callS (cap := []) (W_treatyref01_Split a1 a0 A0 a0.length c0 r8_2 hr8_2) rfl rfl rfl bd52 rfl ⟨m0, trivial⟩) rfl rfl rfl ?_
        rintro _ _ _ ⟨_, _, ⟨y8_2A0, y8_2n0, y8_2c0, rfl, rfl, rfl⟩, rfl, rfl⟩
        dsimp only [List.nil_append, List.cons_append]
        refine wl_know (fun _ h => h.lenO m0) (fun e => ?_)
        subst e
        refine wl_det rfl rfl (det_extract rfl rfl) rfl ?_
        refine wl_det rfl rfl (det_extract rfl rfl) rfl ?_
        refine wl_det rfl rfl (det_assign rfl) rfl ?_
        refine wl_det rfl rfl (det_assign rfl) rfl ?_
        refine wl_nil ?_
        refine pn_then ?_
        refine wc_ret ?_
        replace h := Option.some.inj h
        subst h
        refine pn_ret (vs := [_, _]) rfl ⟨rfl, rfl, trivial⟩ ⟨y8_2A0, r8_2.1.length, y8_2c0, rfl, rfl, rfl⟩ (fun _ h => h.to ⟨_, r0, trivial⟩ trivial)
def Q_treatyref20_Sign (r : (List GPart) × Int) : Value → List Ent → List Fact → Prop := fun v θ κ => ∃ (pA0 : Option Addr), ∃ (pn0 : Nat), ∃ (pc0 : Nat), v = .tuple #[.slice pA0 pn0 pc0, .int .i64 r.2] ∧ θ = [eS lGPart 25 pA0 pn0 pc0 r.1] ∧ κ = []
theorem plains_treatyref20_Sign {r : (List GPart) × Int} : ∀ v θ κ, Q_treatyref20_Sign r v θ κ → Plains θ := by
  rintro _ _ _ ⟨_, _, _, rfl, rfl, rfl⟩
  exact ⟨plain_eS, trivial⟩
set_option maxRecDepth 100000 in
theorem W_treatyref20_Sign (a0 : (List GPart)) (a1 : Int) (A0 : Option Addr) (n0 : Nat) (c0 : Nat) (r : (List GPart) × Int) (h : treatyref20_Sign a0 a1 = some r) : Spec Try.prog 26 [.slice A0 n0 c0, .int .i64 a1] [] [fV (lSlice lGPart) (.slice A0 n0 c0) a0] (Q_treatyref20_Sign r) := by
  unfold treatyref20_Sign at h
  refine spec_of (σ := [(0, _), (1, _)]) Try.func26 rfl rfl rfl rfl ?_
  intro C
  refine wc_know (fun _ h => h.lenF m0) (fun e => ?_)
  subst e
  refine wc_seq ?_
  refine wc_region ?_   -- region 0
  refine wl_det rfl rfl (det_assign rfl) rfl ?_
  refine wl_det rfl rfl (det_assign rfl) rfl ?_
  refine wl_nil ?_
  refine pn_then ?_
  refine wc_seq ?_
  refine wc_seq ?_
  refine wc_region ?_   -- region 1
  refine wl_det rfl rfl (det_move rfl) rfl ?_
  obtain ⟨r1_1, hr1_1, h⟩ := bind_some h
  refine wl_act (act_callS (cap := []) (W_treatyref20_parts a0 A0 a0.length c0 r1_1 hr1_1) rfl rfl rfl bd47 rfl ⟨m0, trivial⟩) rfl rfl rfl ?_
  rintro _ _ _ ⟨_, _, ⟨rfl, rfl, rfl⟩, rfl, rfl⟩
  dsimp only [List.nil_append, List.cons_append]
  refine wl_det rfl rfl (det_move rfl) rfl ?_
  refine wl_det rfl rfl (det_extract rfl rfl) rfl ?_
  refine wl_det rfl rfl (det_extract rfl rfl) rfl ?_
  refine wl_det rfl rfl (det_assign rfl) rfl ?_
  refine wl_det rfl rfl (det_assign rfl) rfl ?_
  refine wl_nil ?_
  refine pn_then ?_
  refine wc_seq ?_
  refine wc_region ?_   -- region 2
  refine wl_det rfl rfl (det_move rfl) rfl ?_
  refine wl_det rfl rfl (det_neq rfl rfl) rfl ?_
  refine wl_nil ?_
  refine pn_then ?_
  refine wc_cond rfl (fun c7 => ?_) (fun c7 => ?_)
  · have h := ifT h c7
    refine wc_seq ?_
    refine wc_region ?_   -- region 3
    refine wl_det rfl rfl (det_move rfl) rfl ?_
    refine wl_det rfl rfl (det_assign rfl) rfl ?_
    refine wl_det rfl rfl (det_assign rfl) rfl ?_
    refine wl_nil ?_
    refine pn_then ?_
    refine wc_ret ?_
    refine pr_then ?_
    refine pn_st (fun _ h => h.zeroS lGPart 25 none) ?_
    replace h := Option.some.inj h
    subst h
    refine pn_ret (vs := [_, _]) rfl ⟨rfl, rfl, trivial⟩ ⟨none, 0, 0, rfl, rfl, rfl⟩ (fun _ h => h.to ⟨_, r0, trivial⟩ trivial)
  · have h := ifF h c7
    refine wc_skip ?_
    refine pn_then ?_
    refine wc_seq ?_
    refine wc_seq ?_
    refine wc_region ?_   -- region 4
    refine wl_det rfl rfl (det_move rfl) rfl ?_
    refine wl_det rfl rfl (det_lss rfl rfl) rfl ?_
    refine wl_det rfl rfl (det_move rfl) rfl ?_
    refine wl_way (decide (a1 < 0)) ((decide (a1 < 0)) || (decide (1000000 < a1))) 3 25 (fun hg => ?_) (fun hg => ?_) ?_
    · have hg4_5 := hg
      refine wl_off rfl rfl rfl rfl rfl hg4_5 rfl ?_
      refine wl_off rfl rfl rfl rfl rfl hg4_5 rfl ?_
      refine wl_det rfl rfl (det_or_on (r := (decide (1000000 < a1))) rfl rfl rfl hg4_5) rfl ?_
      exact wl_nil (pn_qnE (ext_cons rfl (ext_skip rfl (ext_skip rfl (ext_skip rfl ext_refl)))) (fun _ h => h))
    · have hg4_5a := hg
      refine wl_on rfl rfl rfl rfl hg4_5a ?_
      refine wl_det rfl rfl (det_move rfl) rfl ?_
      refine wl_on rfl rfl rfl rfl hg4_5a ?_
      refine wl_det rfl rfl (det_gtr rfl rfl) rfl ?_
      refine wl_det rfl rfl (det_or_off rfl rfl rfl hg4_5a) rfl ?_
      exact wl_nil (pn_qnE (ext_cons rfl (ext_skip rfl (ext_skip rfl (ext_skip rfl ext_refl)))) (fun _ h => h))
    refine wl_nil ?_
    refine pn_then ?_
    refine wc_cond rfl (fun c13 => ?_) (fun c13 => ?_)
    · have h := ifT h c13
      refine wc_seq ?_
      refine wc_region ?_   -- region 5
      refine wl_det rfl rfl (det_assign rfl) rfl ?_
      refine wl_det rfl rfl (det_assign rfl) rfl ?_
      refine wl_nil ?_
      refine pn_then ?_
      refine wc_ret ?_
      refine pr_then ?_
      refine pn_st (fun _ h => h.zeroS lGPart 25 none) ?_
      replace h := Option.some.inj h
      subst h
      refine pn_ret (vs := [_, _]) rfl ⟨rfl, rfl, trivial⟩ ⟨none, 0, 0, rfl, rfl, rfl⟩ (fun _ h => h.to ⟨_, r0, trivial⟩ trivial)
    · have h := ifF h c13
      refine wc_skip ?_
      refine pn_then ?_
      refine wc_seq ?_
      refine wc_region ?_   -- region 6
      refine wl_det rfl rfl (det_assign rfl) rfl ?_
      refine wl_nil ?_
      refine pn_then ?_
      obtain ⟨q18, h, ho18⟩ := bind_some h
      refine wc_meetG (G := (List Int) × Option Addr × Nat × Nat × Unit) (fun (s18, _, _, _, _) => s18 = q18) (fun (_, A18_0, n18_0, c18_0, _) => [(0, .slice A0 a0.length c0), (1, .int .i64 a1), (8, .slice A18_0 n18_0 c18_0)]) (fun (s18, A18_0, n18_0, c18_0, _) => [eS (lInt .i64) 3 A18_0 n18_0 c18_0 s18]) (fun (_, _, _, _, _) => [fV (lSlice lGPart) (.slice A0 a0.length c0) a0]) ?_ ?_
      · refine wc_seq ?_
        refine wc_region ?_   -- region 7
        refine wl_det rfl rfl (det_assign rfl) rfl ?_
        refine wl_nil ?_
        refine pn_then ?_
        refine wc_block ?_
        refine wc_st (fun _ h => h.zeroS (lInt .i64) 3 none) ?_
        obtain ⟨k22, hk22⟩ := loopV_some.1 h
        refine wc_loop (G := Nat × ((List Int) × Int) × Option Addr × Nat × Nat × Unit) (fun g => IterN (treatyref20_Sign_l22 a0) g.1 g.2.1 q18) (fun g => g.1) (fun (_, s22, A22_0, n22_0, c22_0, _) => [(0, .slice A0 a0.length c0), (1, .int .i64 a1), (8, .slice A22_0 n22_0 c22_0), (9, .int .i64 s22.2)]) (fun (_, s22, A22_0, n22_0, c22_0, _) => [eS (lInt .i64) 3 A22_0 n22_0 c22_0 s22.1]) (fun (_, _, _, _, _, _) => [fV (lSlice lGPart) (.slice A0 a0.length c0) a0]) (k22, ([], 0), none, 0, 0, ()) hk22 ⟨rfl, rfl, rfl, rfl, trivial⟩ (fun _ h => h.to ⟨_, r0, trivial⟩ ⟨m0, trivial⟩) ?_
        rintro ⟨k22, s22, A22_0, n22_0, c22_0, _⟩ hI
        obtain ⟨k22, rfl, q22, h, g22⟩ := IterN.pos hI
        dsimp only at h ⊢
        unfold treatyref20_Sign_l22 at h
        refine wc_know (fun _ h => h.lenO m0) (fun e => ?_)
        subst e
        refine wc_seq ?_
        refine wc_seq ?_
        refine wc_region ?_   -- region 8
        refine wl_det rfl rfl (det_move rfl) rfl ?_
        refine wl_det rfl rfl (det_move rfl) rfl ?_
        refine wl_det rfl rfl (det_len rfl un22) rfl ?_
        refine wl_det rfl rfl (det_lss rfl rfl) rfl ?_
        refine wl_nil ?_
        refine pn_then ?_
        refine wc_cond rfl (fun c26 => ?_) (fun c26 => ?_)
        · have h := ifT h c26
          refine wc_skip ?_
          refine pn_then ?_
          refine wc_seq ?_
          refine wc_block ?_
          refine wc_region ?_   -- region 10
          refine wl_det rfl rfl (det_move rfl) rfl ?_
          refine wl_det rfl rfl (det_move rfl) rfl ?_
          refine wl_det rfl rfl (det_move rfl) rfl ?_
          obtain ⟨k10_3, h⟩ := chk_some h
          refine wl_st (fun _ h => h.openF m0 k10_3) ?_
          refine wl_det rfl rfl (det_indexP rfl rfl (ms m0) k10_3 m0 un22 sz25) rfl ?_
          refine wl_det rfl rfl (det_fieldP rfl m0 fd25_1 rfl) rfl ?_
          refine wl_det rfl rfl (det_loadP (off := 1) rfl m0 (by rfl) (by rfl) (loaded_1 na3 us3)) rfl ?_
          refine wl_act (act_litS (lInt .i64) (vs := [_]) (cs := [_]) [(ix a0 s22.2).Share] un23 in3 rfl rfl rfl rfl rfl ⟨rfl, trivial⟩ (by rfl) rfl (litR_flat rfl)) rfl rfl rfl ?_
          rintro _ _ _ ⟨A10_6, rfl, rfl, rfl⟩
          obtain ⟨k10_7, h⟩ := chk_some h
          refine wl_act (act_appendS (L := (lInt .i64)) rfl rfl (ss s0) (src_O m0) un23 in3 rfl rfl rfl k10_7) rfl rfl rfl ?_
          rintro _ _ _ ⟨A10_7, c10_7, rfl, rfl, rfl⟩
          refine wl_det rfl rfl (det_assign rfl) rfl ?_
          refine wl_nil ?_
          refine pn_block ?_
          refine pn_then ?_
          refine wc_region ?_   -- region 9
          refine wl_det rfl rfl (det_move rfl) rfl ?_
          refine wl_det rfl rfl (det_add rfl rfl) rfl ?_
          refine wl_det rfl rfl (det_assign rfl) rfl ?_
          refine wl_nil ?_
          replace h := Option.some.inj h
          subst h
          exact pn_some (k22, ((s22.1 ++ [(ix a0 s22.2).Share]), (w64 (s22.2 + 1))), A10_7, (s22.1 ++ [(ix a0 s22.2).Share]).length, c10_7, ()) ⟨nextL g22, Nat.lt_succ_self _⟩ ⟨rfl, rfl, rfl, rfl, trivial⟩ (fun _ h => h.to ⟨_, (rs r0), trivial⟩ ⟨(ms m0), trivial⟩)
        · have h := ifF h c26
          refine wc_exit ?_
          refine px_then ?_
          refine px_then ?_
          refine px_block ?_
          replace h := Option.some.inj h
          subst h
          replace g22 := nextR g22
          subst g22
          exact pn_meetG (s22.1, A22_0, s22.1.length, c22_0, ()) rfl ⟨rfl, rfl, rfl, trivial⟩ (fun _ h => h.to ⟨_, r0, trivial⟩ ⟨m0, trivial⟩)
      rintro ⟨s18, A18_0, n18_0, c18_0, _⟩ e18
      dsimp only at e18 ⊢
      subst e18
      have h := ho18
      refine wc_know (fun _ h => h.lenO m0) (fun e => ?_)
      subst e
      refine wc_seq ?_
      refine wc_region ?_   -- region 11
      refine wl_det rfl rfl (det_move rfl) rfl ?_
      refine wl_det rfl rfl (det_move rfl) rfl ?_
      obtain ⟨r11_2, hr11_2, h⟩ := bind_some h
      refine wl_act (act_callL (cap := []) [eS (lInt .i64) 3 A18_0 s18.length c18_0 s18] (W_treatyref01_Reduce s18 a1 A18_0 s18.length c18_0 r11_2 hr11_2) plains_treatyref01_Reduce rfl rfl rfl bd54 rfl ⟨m0, trivial⟩ ⟨.inr ⟨_, m0, lent_eS⟩, trivial⟩) rfl rfl rfl ?_
      rintro _ _ _ ⟨_, _, ⟨y11_2A0, y11_2n0, y11_2c0, rfl, rfl, rfl⟩, rfl, rfl⟩
      dsimp only [List.nil_append, List.cons_append]
      refine wl_know (fun _ h => h.lenO m0) (fun e => ?_)
      subst e
      refine wl_det rfl rfl (det_move rfl) rfl ?_
      refine wl_det rfl rfl (det_extract rfl rfl) rfl ?_
      refine wl_det rfl rfl (det_extract rfl rfl) rfl ?_
      refine wl_det rfl rfl (det_assign rfl) rfl ?_
      refine wl_nil ?_
      refine pn_then ?_
      refine wc_seq ?_
      refine wc_region ?_   -- region 12
      refine wl_det rfl rfl (det_assign rfl) rfl ?_
      refine wl_nil ?_
      refine pn_then ?_
      obtain ⟨q36, h, ho36⟩ := bind_some h
      refine wc_meetG (G := (List GPart) × Option Addr × Nat × Nat × Unit) (fun (s36, _, _, _, _) => s36 = q36) (fun (_, A36_0, n36_0, c36_0, _) => [(10, .slice A36_0 n36_0 c36_0)]) (fun (s36, A36_0, n36_0, c36_0, _) => [eS lGPart 25 A36_0 n36_0 c36_0 s36]) (fun (_, _, _, _, _) => []) ?_ ?_
      · refine wc_seq ?_
        refine wc_region ?_   -- region 13
        refine wl_det rfl rfl (det_assign rfl) rfl ?_
        refine wl_nil ?_
        refine pn_then ?_
        refine wc_block ?_
        refine wc_st (fun _ h => h.zeroS lGPart 25 none) ?_
        obtain ⟨k40, hk40⟩ := loopV_some.1 h
        refine wc_loop (G := Nat × ((List GPart) × Int) × Option Addr × Nat × Nat × Unit) (fun g => IterN (treatyref20_Sign_l40 a0 r11_2) g.1 g.2.1 q36) (fun g => g.1) (fun (_, s40, A40_0, n40_0, c40_0, _) => [(0, .slice A0 a0.length c0), (8, .slice y11_2A0 r11_2.1.length y11_2c0), (10, .slice A40_0 n40_0 c40_0), (11, .int .i64 s40.2)]) (fun (_, s40, A40_0, n40_0, c40_0, _) => [eS (lInt .i64) 3 y11_2A0 r11_2.1.length y11_2c0 r11_2.1, eS lGPart 25 A40_0 n40_0 c40_0 s40.1]) (fun (_, _, _, _, _, _) => [fV (lSlice lGPart) (.slice A0 a0.length c0) a0]) (k40, ([], 0), none, 0, 0, ()) hk40 ⟨rfl, rfl, rfl, rfl, trivial⟩ (fun _ h => h.to ⟨_, (rs r0), ⟨_, r0, trivial⟩⟩ ⟨m0, trivial⟩) ?_
        rintro ⟨k40, s40, A40_0, n40_0, c40_0, _⟩ hI
        obtain ⟨k40, rfl, q40, h, g40⟩ := IterN.pos hI
        dsimp only at h ⊢
        unfold treatyref20_Sign_l40 at h
        refine wc_know (fun _ h => h.lenO (ms m0)) (fun e => ?_)
        subst e
        refine wc_seq ?_
        refine wc_seq ?_
        refine wc_region ?_   -- region 14
        refine wl_det rfl rfl (det_move rfl) rfl ?_
        refine wl_det rfl rfl (det_move rfl) rfl ?_
        refine wl_det rfl rfl (det_len rfl un22) rfl ?_
        refine wl_det rfl rfl (det_lss rfl rfl) rfl ?_
        refine wl_nil ?_
        refine pn_then ?_
        refine wc_cond rfl (fun c44 => ?_) (fun c44 => ?_)
        · have h := ifT h c44
          refine wc_skip ?_
          refine pn_then ?_
          obtain ⟨q46, h, ho46⟩ := bind_some h
          refine wc_meetG (G := (List GPart) × Option Addr × Nat × Nat × Unit) (fun (s46, _, _, _, _) => s46 = q46) (fun (_, A46_0, n46_0, c46_0, _) => [(0, .slice A0 a0.length c0), (8, .slice y11_2A0 r11_2.1.length y11_2c0), (10, .slice A46_0 n46_0 c46_0), (11, .int .i64 s40.2)]) (fun (s46, A46_0, n46_0, c46_0, _) => [eS (lInt .i64) 3 y11_2A0 r11_2.1.length y11_2c0 r11_2.1, eS lGPart 25 A46_0 n46_0 c46_0 s46]) (fun (_, _, _, _, _) => [fV (lSlice lGPart) (.slice A0 a0.length c0) a0]) ?_ ?_
          · refine wc_block ?_
            refine wc_seq ?_
            refine wc_region ?_   -- region 16
            refine wl_det rfl rfl (det_move rfl) rfl ?_
            refine wl_det rfl rfl (det_move rfl) rfl ?_
            obtain ⟨k16_2, h⟩ := chk_some h
            refine wl_det rfl rfl (det_indexO rfl rfl m0 k16_2 un23 sz3) rfl ?_
            refine wl_det rfl rfl (det_loadO (off := 0) rfl m0 k16_2 (by rfl) (by rfl) (loaded_1 na3 us3)) rfl ?_
            refine wl_det rfl rfl (det_gtr rfl rfl) rfl ?_
            refine wl_nil ?_
            refine pn_then ?_
            refine wc_cond rfl (fun c50 => ?_) (fun c50 => ?_)
            · have h := ifT h c50
              obtain ⟨k17_p1, h⟩ := chk_some h
              refine wc_st (fun _ h => h.openF m0 k17_p1) ?_
              obtain ⟨k17_p3, h⟩ := chk_some h
              refine dx_region 12 [[], [], [], [1, 2], [1, 2, 3], [1, 2, 3, 4], [], [], [6, 7], [6, 7, 8], [1, 2, 3, 4, 5, 6, 7, 8, 9], [1, 2, 3, 4, 5, 6, 7, 8, 9, 10], [0, 1, 2, 3, 4, 5, 6, 7, 8, 9, 10, 11], [0, 1, 2, 3, 4, 5, 6, 7, 8, 9, 10, 11, 12]] mixed (ord := (.det 0 (.det 1 (.det 2 (.det 3 (.det 4 (.det 5 (.det 6 (.det 7 (.det 8 (.det 9 (.det 10 (.alt 11 .done .dead))))))))))))) (by kernel_rfl) ?_   -- region 17
              refine hx_det rfl rfl rfl nofun (det_move rfl) rfl ?_
              refine hx_det rfl rfl rfl nofun (det_move rfl) rfl ?_
              refine hx_det rfl rfl rfl nofun (det_move rfl) rfl ?_
              refine hx_det rfl rfl rfl nofun (det_indexP rfl rfl (ms m0) k17_p1 m0 un22 sz25) rfl ?_
              refine hx_det rfl rfl rfl nofun (det_fieldP rfl m0 fd25_0 rfl) rfl ?_
              refine hx_det rfl rfl rfl nofun (det_loadP (off := 0) rfl m0 (by rfl) (by rfl) (loaded_1 na3 us3)) rfl ?_
              refine hx_det rfl rfl rfl nofun (det_move rfl) rfl ?_
              refine hx_det rfl rfl rfl nofun (det_move rfl) rfl ?_
              refine hx_det rfl rfl rfl nofun (det_indexO rfl rfl m0 k16_2 un23 sz3) rfl ?_
              refine hx_det rfl rfl rfl nofun (det_loadO (off := 0) rfl m0 k16_2 (by rfl) (by rfl) (loaded_1 na3 us3)) rfl ?_
              refine hx_det rfl rfl rfl nofun (det_build (cs := [_, _]) pl25 zr25 rfl rfl (by rfl)) rfl ?_
              refine hx_act rfl rfl rfl (act_litS lGPart (vs := [_]) (cs := [_, _]) [(GPart.mk (ix a0 s40.2).Party (ix r11_2.1 s40.2))] un22 in25 rfl rfl rfl rfl rfl ⟨rfl, trivial⟩ (by rfl) rfl (litR_flat rfl)) rfl (by rintro _ _ _ ⟨A17_11, rfl, rfl, rfl⟩; first | exact ⟨_ :: [], [], rfl, rfl⟩ | exact ⟨[], [_], rfl, rfl⟩ | exact ⟨[], [], rfl, rfl⟩) ?_
              rintro _ _ _ ⟨A17_11, rfl, rfl, rfl⟩
              refine hx_end ?_
              refine wl_act (act_appendS (L := lGPart) rfl rfl (ss (ss s0)) (src_O m0) un22 in25 rfl rfl rfl k17_p3) rfl rfl rfl ?_
              rintro _ _ _ ⟨A17_12, c17_12, rfl, rfl, rfl⟩
              refine wl_det rfl rfl (det_assign rfl) rfl ?_
              refine wl_nil ?_
              refine pn_block ?_
              replace h := Option.some.inj h
              subst h
              exact pn_meetG ((s40.1 ++ [(GPart.mk (ix a0 s40.2).Party (ix r11_2.1 s40.2))]), A17_12, (s40.1 ++ [(GPart.mk (ix a0 s40.2).Party (ix r11_2.1 s40.2))]).length, c17_12, ()) rfl ⟨rfl, rfl, rfl, rfl, trivial⟩ (fun _ h => h.to ⟨_, (rs r0), ⟨_, (rs r0), trivial⟩⟩ ⟨(ms m0), trivial⟩)
            · have h := ifF h c50
              refine wc_skip ?_
              refine pn_block ?_
              replace h := Option.some.inj h
              subst h
              exact pn_meetG (s40.1, A40_0, s40.1.length, c40_0, ()) rfl ⟨rfl, rfl, rfl, rfl, trivial⟩ (fun _ h => h.to ⟨_, r0, ⟨_, r0, trivial⟩⟩ ⟨m0, trivial⟩)
          rintro ⟨s46, A46_0, n46_0, c46_0, _⟩ e46
          dsimp only at e46 ⊢
          subst e46
          have h := ho46
          refine wc_know (fun _ h => h.lenO (ms m0)) (fun e => ?_)
          subst e
          refine wc_region ?_   -- region 15
          refine wl_det rfl rfl (det_move rfl) rfl ?_
          refine wl_det rfl rfl (det_add rfl rfl) rfl ?_
          refine wl_det rfl rfl (det_assign rfl) rfl ?_
          refine wl_nil ?_
          replace h := Option.some.inj h
          subst h
          exact pn_some (k40, (s46, (w64 (s40.2 + 1))), A46_0, s46.length, c46_0, ()) ⟨nextL g40, Nat.lt_succ_self _⟩ ⟨rfl, rfl, rfl, rfl, trivial⟩ (fun _ h => h.to ⟨_, r0, ⟨_, r0, trivial⟩⟩ ⟨m0, trivial⟩)
        · have h := ifF h c44
          refine wc_exit ?_
          refine px_then ?_
          refine px_then ?_
          refine px_block ?_
          replace h := Option.some.inj h
          subst h
          replace g40 := nextR g40
          subst g40
          exact pn_meetG (s40.1, A40_0, s40.1.length, c40_0, ()) rfl ⟨rfl, trivial⟩ (fun _ h => h.to ⟨_, (rs r0), trivial⟩ trivial)
      rintro ⟨s36, A36_0, n36_0, c36_0, _⟩ e36
      dsimp only at e36 ⊢
      subst e36
      have h := ho36
      refine wc_know (fun _ h => h.lenO m0) (fun e => ?_)
      subst e
      refine wc_seq ?_
      refine wc_region ?_   -- region 18
      refine wl_det rfl rfl (det_move rfl) rfl ?_
      refine wl_det rfl rfl (det_assign rfl) rfl ?_
      refine wl_det rfl rfl (det_assign rfl) rfl ?_
      refine wl_nil ?_
      refine pn_then ?_
      refine wc_ret ?_
      replace h := Option.some.inj h
      subst h
      refine pn_ret (vs := [_, _]) rfl ⟨rfl, rfl, trivial⟩ ⟨A36_0, s36.length, c36_0, rfl, rfl, rfl⟩ (fun _ h => h.to ⟨_, r0, trivial⟩ trivial)
def Q_treatymade_New (r : GDeck) : Value → List Ent → List Fact → Prop := fun v θ κ => ∃ (pb0 : Nat), ∃ (pA1 : Option Addr), ∃ (pn1 : Nat), ∃ (pc1 : Nat), v = .pointer (some ⟨pb0, 0, none⟩) ∧ θ = [eBlk pb0 71 [.slice pA1 pn1 pc1, .int .i64 r.At]] ∧ κ = [fV (lSlice (lInt .i64)) (.slice pA1 pn1 pc1) r.L]
set_option maxRecDepth 100000 in
theorem W_treatymade_New (a0 : (List Int)) (A0 : Option Addr) (n0 : Nat) (c0 : Nat) (r : GDeck) (h : treatymade_New a0 = some r) : Spec Try.prog 16 [.slice A0 n0 c0] [] [fV (lSlice (lInt .i64)) (.slice A0 n0 c0) a0] (Q_treatymade_New r) := by
  unfold treatymade_New at h
  refine spec_of (σ := [(0, _)]) Try.func16 rfl rfl rfl rfl ?_
  intro C
  refine wc_know (fun _ h => h.lenF m0) (fun e => ?_)
  subst e
  refine wc_seq ?_
  refine wc_region ?_   -- region 0
  refine wl_det rfl rfl (det_assign rfl) rfl ?_
  refine wl_nil ?_
  refine pn_then ?_
  refine wc_seq ?_
  refine wc_region ?_   -- region 1
  refine wl_det rfl rfl (det_move rfl) rfl ?_
  refine wl_det rfl rfl (det_build (cs := [_, _]) pl71 zr71 rfl rfl (by rfl)) rfl ?_
  refine wl_act (act_box (cs := [_, _]) rfl rfl) rfl rfl rfl ?_
  rintro _ _ _ ⟨b1_2, rfl, rfl, rfl⟩
  refine wl_det rfl rfl (det_assign rfl) rfl ?_
  refine wl_nil ?_
  refine pn_then ?_
  refine wc_ret ?_
  replace h := Option.some.inj h
  subst h
  refine pn_ret (vs := [_]) rfl ⟨rfl, trivial⟩ ⟨b1_2, A0, a0.length, c0, rfl, rfl, rfl⟩ (fun _ h => h.to ⟨_, r0, trivial⟩ ⟨m0, trivial⟩)
def Q_treatymade_Deck_Next (Ba0 : Nat) (r : Int × GDeck) : Value → List Ent → List Fact → Prop := fun v θ κ => ∃ (pA0 : Option Addr), ∃ (pn0 : Nat), ∃ (pc0 : Nat), v = .int .i64 r.1 ∧ θ = [eBlk Ba0 71 [.slice pA0 pn0 pc0, .int .i64 r.2.At]] ∧ κ = [fV (lSlice (lInt .i64)) (.slice pA0 pn0 pc0) r.2.L]
set_option maxRecDepth 100000 in
theorem W_treatymade_Deck_Next (a0 : GDeck) (a1 : Int) (Ba0 : Nat) (A1 : Option Addr) (n1 : Nat) (c1 : Nat) (r : Int × GDeck) (h : treatymade_Deck_Next a0 a1 = some r) : Spec Try.prog 45 [.pointer (some ⟨Ba0, 0, none⟩), .int .i64 a1] [eBlk Ba0 71 [.slice A1 n1 c1, .int .i64 a0.At]] [fV (lSlice (lInt .i64)) (.slice A1 n1 c1) a0.L] (Q_treatymade_Deck_Next Ba0 r) := by
  unfold treatymade_Deck_Next at h
  refine spec_of (σ := [(0, _), (1, _)]) Try.func45 rfl rfl rfl rfl ?_
  intro C
  refine wc_know (fun _ h => h.lenF m0) (fun e => ?_)
  subst e
  refine wc_seq ?_
  refine wc_region ?_   -- region 0
  refine wl_det rfl rfl (det_assign rfl) rfl ?_
  refine wl_nil ?_
  refine pn_then ?_
  refine wc_seq ?_
  refine wc_seq ?_
  refine dx_region 10 [[], [0], [0, 1], [0, 1, 2], [], [4], [4, 5], [4, 5, 6], [4, 5, 6, 7], [0, 1, 2, 3, 4, 5, 6, 7, 8]] mixed (ord := (.det 0 (.det 1 (.det 2 (.det 3 (.det 4 (.det 5 (.det 6 (.det 7 (.det 8 (.det 9 .done))))))))))) (by kernel_rfl) ?_   -- region 1
  refine hx_det rfl rfl rfl nofun (det_move rfl) rfl ?_
  refine hx_det rfl rfl rfl nofun (det_nilCheckB rfl) rfl ?_
  refine hx_det rfl rfl rfl nofun (det_field rfl fd71_1 rfl) rfl ?_
  refine hx_det rfl rfl rfl nofun (det_load rfl m0 (by rfl) na3 us3) rfl ?_
  refine hx_det rfl rfl rfl nofun (det_move rfl) rfl ?_
  refine hx_det rfl rfl rfl nofun (det_nilCheckB rfl) rfl ?_
  refine hx_det rfl rfl rfl nofun (det_field rfl fd71_0 rfl) rfl ?_
  refine hx_det rfl rfl rfl nofun (det_load rfl m0 (by rfl) na23 us23) rfl ?_
  refine hx_det rfl rfl rfl nofun (det_len rfl un23) rfl ?_
  refine hx_det rfl rfl rfl nofun (det_geq rfl rfl) rfl ?_
  refine hx_end ?_
  refine wl_nil ?_
  refine pn_then ?_
  refine wc_cond rfl (fun c5 => ?_) (fun c5 => ?_)
  · have h := ifT h c5
    refine wc_seq ?_
    refine wc_region ?_   -- region 2
    refine wl_det rfl rfl (det_assign rfl) rfl ?_
    refine wl_nil ?_
    refine pn_then ?_
    refine wc_ret ?_
    refine pr_then ?_
    replace h := Option.some.inj h
    subst h
    refine pn_ret (vs := [_]) rfl ⟨rfl, trivial⟩ ⟨A1, a0.L.length, c1, rfl, rfl, rfl⟩ (fun _ h => h.to ⟨_, r0, trivial⟩ ⟨m0, trivial⟩)
  · have h := ifF h c5
    refine wc_skip ?_
    refine pn_then ?_
    refine wc_seq ?_
    refine wc_region ?_   -- region 3
    refine wl_det rfl rfl (det_move rfl) rfl ?_
    refine wl_det rfl rfl (det_nilCheckB rfl) rfl ?_
    refine wl_det rfl rfl (det_field rfl fd71_1 rfl) rfl ?_
    refine wl_det rfl rfl (det_load rfl m0 (by rfl) na3 us3) rfl ?_
    refine wl_det rfl rfl (det_add rfl rfl) rfl ?_
    refine wl_det rfl rfl (det_nilCheckB rfl) rfl ?_
    refine wl_det rfl rfl (det_field rfl fd71_1 rfl) rfl ?_
    refine wl_act0 (act_store (cells := [_]) (cs' := [_, _]) rfl rfl rfl s0 (by rfl) (of_decide_eq_true rfl) sz3 ⟨rfl, trivial⟩) rfl rfl ?_
    rintro _ _ _ ⟨rfl, rfl⟩
    refine wl_nil ?_
    refine pn_then ?_
    refine wc_seq ?_
    obtain ⟨k4_p1, h⟩ := chk_some h
    refine wc_st (fun _ h => h.openF m0 k4_p1) ?_
    obtain ⟨k4_p3, h⟩ := chk_some h
    refine dx_region 17 [[], [0], [0, 1], [0, 1, 2], [], [4], [4, 5], [4, 5, 6], [4, 5, 6, 7], [0, 1, 2, 3, 4, 5, 6, 7, 8], [0, 1, 2, 3, 4, 5, 6, 7, 8, 9], [], [0, 1, 2, 3, 4, 5, 6, 7, 8, 9, 10, 11], [], [0, 1, 2, 3, 4, 5, 6, 7, 8, 9, 10, 11, 12, 13], [], [0, 1, 2, 3, 4, 5, 6, 7, 8, 9, 10, 11, 12, 13, 14, 15], [0, 1, 2, 3, 4, 5, 6, 7, 8, 9, 10, 11, 12, 13, 14, 15, 16]] mixed (ord := (.det 0 (.det 1 (.det 2 (.det 3 (.det 4 (.det 5 (.det 6 (.det 7 (.det 8 (.det 9 (.det 10 (.det 11 (.det 12 (.det 13 (.det 14 (.det 15 (.det 16 .done)))))))))))))))))) (by kernel_rfl) ?_   -- region 4
    refine hx_det rfl rfl rfl nofun (det_move rfl) rfl ?_
    refine hx_det rfl rfl rfl nofun (det_nilCheckB rfl) rfl ?_
    refine hx_det rfl rfl rfl nofun (det_field rfl fd71_0 rfl) rfl ?_
    refine hx_det rfl rfl rfl nofun (det_load rfl m0 (by rfl) na23 us23) rfl ?_
    refine hx_det rfl rfl rfl nofun (det_move rfl) rfl ?_
    refine hx_det rfl rfl rfl nofun (det_nilCheckB rfl) rfl ?_
    refine hx_det rfl rfl rfl nofun (det_field rfl fd71_1 rfl) rfl ?_
    refine hx_det rfl rfl rfl nofun (det_load rfl m0 (by rfl) na3 us3) rfl ?_
    refine hx_det rfl rfl rfl nofun (det_sub rfl rfl) rfl ?_
    refine hx_det rfl rfl rfl nofun (det_indexP rfl rfl (ms m0) k4_p1 m0 un23 sz3) rfl ?_
    refine hx_det rfl rfl rfl nofun (det_loadP (off := 0) rfl m0 (by rfl) (by rfl) (loaded_1 na3 us3)) rfl ?_
    refine hx_det rfl rfl rfl nofun (det_move rfl) rfl ?_
    refine hx_det rfl rfl rfl nofun (det_remB rfl rfl k4_p3) rfl ?_
    refine hx_det rfl rfl rfl nofun (det_move rfl) rfl ?_
    refine hx_det rfl rfl rfl nofun (det_add rfl rfl) rfl ?_
    refine hx_det rfl rfl rfl nofun (det_move rfl) rfl ?_
    refine hx_det rfl rfl rfl nofun (det_remB rfl rfl k4_p3) rfl ?_
    refine hx_end ?_
    refine wl_det rfl rfl (det_assign rfl) rfl ?_
    refine wl_nil ?_
    refine pn_then ?_
    refine wc_ret ?_
    replace h := Option.some.inj h
    subst h
    refine pn_ret (vs := [_]) rfl ⟨rfl, trivial⟩ ⟨A1, a0.L.length, c1, rfl, rfl, rfl⟩ (fun _ h => h.to ⟨_, r0, trivial⟩ ⟨(ms m0), trivial⟩)
def Q_treatymade_Deck_Upto (Ba0 : Nat) (r : Int × GDeck) : Value → List Ent → List Fact → Prop := fun v θ κ => ∃ (pA0 : Option Addr), ∃ (pn0 : Nat), ∃ (pc0 : Nat), v = .int .i64 r.1 ∧ θ = [eBlk Ba0 71 [.slice pA0 pn0 pc0, .int .i64 r.2.At]] ∧ κ = [fV (lSlice (lInt .i64)) (.slice pA0 pn0 pc0) r.2.L]
set_option maxRecDepth 100000 in
theorem W_treatymade_Deck_Upto (a0 : GDeck) (a1 : Int) (Ba0 : Nat) (A1 : Option Addr) (n1 : Nat) (c1 : Nat) (r : Int × GDeck) (h : treatymade_Deck_Upto a0 a1 = some r) : Spec Try.prog 28 [.pointer (some ⟨Ba0, 0, none⟩), .int .i64 a1] [eBlk Ba0 71 [.slice A1 n1 c1, .int .i64 a0.At]] [fV (lSlice (lInt .i64)) (.slice A1 n1 c1) a0.L] (Q_treatymade_Deck_Upto Ba0 r) := by
  unfold treatymade_Deck_Upto at h
  refine spec_of (σ := [(0, _), (1, _)]) Try.func28 rfl rfl rfl rfl ?_
  intro C
  refine wc_know (fun _ h => h.lenF m0) (fun e => ?_)
  subst e
  refine wc_seq ?_
  refine wc_region ?_   -- region 0
  refine wl_det rfl rfl (det_assign rfl) rfl ?_
  refine wl_nil ?_
  refine pn_then ?_
  refine wc_seq ?_
  refine wc_seq ?_
  refine wc_region ?_   -- region 1
  refine wl_det rfl rfl (det_move rfl) rfl ?_
  obtain ⟨r1_1, hr1_1, h⟩ := bind_some h
  refine wl_act (act_callS (cap := []) (W_treatymade_Deck_Next a0 6 Ba0 A1 a0.L.length c1 r1_1 hr1_1) rfl rfl rfl bd45 ⟨_, r0, rfl⟩ ⟨m0, trivial⟩) rfl rfl rfl ?_
  rintro _ _ _ ⟨_, _, ⟨y1_1A0, y1_1n0, y1_1c0, rfl, rfl, rfl⟩, rfl, rfl⟩
  dsimp only [List.nil_append, List.cons_append]
  refine wl_know (fun _ h => h.lenF m0) (fun e => ?_)
  subst e
  refine wl_nil ?_
  refine pn_then ?_
  refine wc_block ?_
  refine wc_seq ?_
  refine wc_region ?_   -- region 2
  refine wl_det rfl rfl (det_eql rfl rfl) rfl ?_
  refine wl_det rfl rfl (det_assign rfl) rfl ?_
  refine wl_nil ?_
  refine pn_then ?_
  refine wc_cond rfl (fun c8 => ?_) (fun c8 => ?_)
  · have h := ifT h c8
    refine wc_seq ?_
    refine wc_region ?_   -- region 3
    refine wl_det rfl rfl (det_move rfl) rfl ?_
    obtain ⟨r3_1, hr3_1, h⟩ := bind_some h
    refine wl_act (act_callS (cap := []) (W_treatymade_Deck_Next r1_1.2 4 Ba0 y1_1A0 r1_1.2.L.length y1_1c0 r3_1 hr3_1) rfl rfl rfl bd45 ⟨_, r0, rfl⟩ ⟨m0, trivial⟩) rfl rfl rfl ?_
    rintro _ _ _ ⟨_, _, ⟨y3_1A0, y3_1n0, y3_1c0, rfl, rfl, rfl⟩, rfl, rfl⟩
    dsimp only [List.nil_append, List.cons_append]
    refine wl_know (fun _ h => h.lenF m0) (fun e => ?_)
    subst e
    refine wl_det rfl rfl (det_move rfl) rfl ?_
    refine wl_det rfl rfl (det_minI rfl rfl) rfl ?_
    refine wl_det rfl rfl (det_assign rfl) rfl ?_
    refine wl_nil ?_
    refine pn_then ?_
    refine wc_ret ?_
    refine pr_block ?_
    refine pr_then ?_
    replace h := Option.some.inj h
    subst h
    refine pn_ret (vs := [_]) rfl ⟨rfl, trivial⟩ ⟨y3_1A0, r3_1.2.L.length, y3_1c0, rfl, rfl, rfl⟩ (fun _ h => h.to ⟨_, r0, trivial⟩ ⟨m0, trivial⟩)
  · have h := ifF h c8
    refine wc_seq ?_
    refine wc_region ?_   -- region 4
    refine wl_det rfl rfl (det_eql rfl rfl) rfl ?_
    refine wl_det rfl rfl (det_assign rfl) rfl ?_
    refine wl_nil ?_
    refine pn_then ?_
    refine wc_cond rfl (fun c13 => ?_) (fun c13 => ?_)
    · have h := ifT h c13
      refine wc_seq ?_
      refine wc_region ?_   -- region 5
      refine wl_det rfl rfl (det_move rfl) rfl ?_
      obtain ⟨r5_1, hr5_1, h⟩ := bind_some h
      refine wl_act (act_callS (cap := []) (W_treatymade_Deck_Next r1_1.2 100 Ba0 y1_1A0 r1_1.2.L.length y1_1c0 r5_1 hr5_1) rfl rfl rfl bd45 ⟨_, r0, rfl⟩ ⟨m0, trivial⟩) rfl rfl rfl ?_
      rintro _ _ _ ⟨_, _, ⟨y5_1A0, y5_1n0, y5_1c0, rfl, rfl, rfl⟩, rfl, rfl⟩
      dsimp only [List.nil_append, List.cons_append]
      refine wl_know (fun _ h => h.lenF m0) (fun e => ?_)
      subst e
      refine wl_det rfl rfl (det_move rfl) rfl ?_
      refine wl_det rfl rfl (det_minI rfl rfl) rfl ?_
      refine wl_det rfl rfl (det_assign rfl) rfl ?_
      refine wl_nil ?_
      refine pn_then ?_
      refine wc_ret ?_
      refine pr_block ?_
      refine pr_then ?_
      replace h := Option.some.inj h
      subst h
      refine pn_ret (vs := [_]) rfl ⟨rfl, trivial⟩ ⟨y5_1A0, r5_1.2.L.length, y5_1c0, rfl, rfl, rfl⟩ (fun _ h => h.to ⟨_, r0, trivial⟩ ⟨m0, trivial⟩)
    · have h := ifF h c13
      refine wc_seq ?_
      refine wc_region ?_   -- region 6
      refine wl_det rfl rfl (det_eql rfl rfl) rfl ?_
      refine wl_det rfl rfl (det_assign rfl) rfl ?_
      refine wl_nil ?_
      refine pn_then ?_
      refine wc_cond rfl (fun c18 => ?_) (fun c18 => ?_)
      · have h := ifT h c18
        refine wc_seq ?_
        refine wc_region ?_   -- region 7
        refine wl_det rfl rfl (det_move rfl) rfl ?_
        obtain ⟨r7_1, hr7_1, h⟩ := bind_some h
        refine wl_act (act_callS (cap := []) (W_treatymade_Deck_Next r1_1.2 1048576 Ba0 y1_1A0 r1_1.2.L.length y1_1c0 r7_1 hr7_1) rfl rfl rfl bd45 ⟨_, r0, rfl⟩ ⟨m0, trivial⟩) rfl rfl rfl ?_
        rintro _ _ _ ⟨_, _, ⟨y7_1A0, y7_1n0, y7_1c0, rfl, rfl, rfl⟩, rfl, rfl⟩
        dsimp only [List.nil_append, List.cons_append]
        refine wl_know (fun _ h => h.lenF m0) (fun e => ?_)
        subst e
        refine wl_det rfl rfl (det_move rfl) rfl ?_
        refine wl_det rfl rfl (det_minI rfl rfl) rfl ?_
        refine wl_det rfl rfl (det_assign rfl) rfl ?_
        refine wl_nil ?_
        refine pn_then ?_
        refine wc_ret ?_
        refine pr_block ?_
        refine pr_then ?_
        replace h := Option.some.inj h
        subst h
        refine pn_ret (vs := [_]) rfl ⟨rfl, trivial⟩ ⟨y7_1A0, r7_1.2.L.length, y7_1c0, rfl, rfl, rfl⟩ (fun _ h => h.to ⟨_, r0, trivial⟩ ⟨m0, trivial⟩)
      · have h := ifF h c18
        refine wc_seq ?_
        refine wc_region ?_   -- region 8
        refine wl_det rfl rfl (det_eql rfl rfl) rfl ?_
        refine wl_det rfl rfl (det_assign rfl) rfl ?_
        refine wl_nil ?_
        refine pn_then ?_
        refine wc_cond rfl (fun c23 => ?_) (fun c23 => ?_)
        · have h := ifT h c23
          refine wc_seq ?_
          refine wc_region ?_   -- region 9
          refine wl_det rfl rfl (det_move rfl) rfl ?_
          refine wl_det rfl rfl (det_move rfl) rfl ?_
          refine wl_det rfl rfl (det_move rfl) rfl ?_
          refine wl_det rfl rfl (det_add rfl rfl) rfl ?_
          refine wl_det rfl rfl (det_minI rfl rfl) rfl ?_
          obtain ⟨r9_5, hr9_5, h⟩ := bind_some h
          refine wl_act (act_callS (cap := []) (W_treatymade_Deck_Next r1_1.2 (minI 3 (w64 (a1 + 1))) Ba0 y1_1A0 r1_1.2.L.length y1_1c0 r9_5 hr9_5) rfl rfl rfl bd45 ⟨_, r0, rfl⟩ ⟨m0, trivial⟩) rfl rfl rfl ?_
          rintro _ _ _ ⟨_, _, ⟨y9_5A0, y9_5n0, y9_5c0, rfl, rfl, rfl⟩, rfl, rfl⟩
          dsimp only [List.nil_append, List.cons_append]
          refine wl_know (fun _ h => h.lenF m0) (fun e => ?_)
          subst e
          refine wl_det rfl rfl (det_sub rfl rfl) rfl ?_
          refine wl_det rfl rfl (det_assign rfl) rfl ?_
          refine wl_nil ?_
          refine pn_then ?_
          refine wc_ret ?_
          refine pr_block ?_
          refine pr_then ?_
          replace h := Option.some.inj h
          subst h
          refine pn_ret (vs := [_]) rfl ⟨rfl, trivial⟩ ⟨y9_5A0, r9_5.2.L.length, y9_5c0, rfl, rfl, rfl⟩ (fun _ h => h.to ⟨_, r0, trivial⟩ ⟨m0, trivial⟩)
        · have h := ifF h c23
          refine wc_skip ?_
          refine pn_block ?_
          refine pn_then ?_
          refine wc_seq ?_
          refine wc_region ?_   -- region 10
          refine wl_det rfl rfl (det_move rfl) rfl ?_
          refine wl_det rfl rfl (det_move rfl) rfl ?_
          refine wl_det rfl rfl (det_add rfl rfl) rfl ?_
          obtain ⟨r10_3, hr10_3, h⟩ := bind_some h
          refine wl_act (act_callS (cap := []) (W_treatymade_Deck_Next r1_1.2 (w64 (a1 + 1)) Ba0 y1_1A0 r1_1.2.L.length y1_1c0 r10_3 hr10_3) rfl rfl rfl bd45 ⟨_, r0, rfl⟩ ⟨m0, trivial⟩) rfl rfl rfl ?_
          rintro _ _ _ ⟨_, _, ⟨y10_3A0, y10_3n0, y10_3c0, rfl, rfl, rfl⟩, rfl, rfl⟩
          dsimp only [List.nil_append, List.cons_append]
          refine wl_know (fun _ h => h.lenF m0) (fun e => ?_)
          subst e
          refine wl_det rfl rfl (det_assign rfl) rfl ?_
          refine wl_nil ?_
          refine pn_then ?_
          refine wc_ret ?_
          replace h := Option.some.inj h
          subst h
          refine pn_ret (vs := [_]) rfl ⟨rfl, trivial⟩ ⟨y10_3A0, r10_3.2.L.length, y10_3c0, rfl, rfl, rfl⟩ (fun _ h => h.to ⟨_, r0, trivial⟩ ⟨m0, trivial⟩)
def Q_treatylaw20_written (Ba0 : Nat) (r : (List GPart) × GDeck) : Value → List Ent → List Fact → Prop := fun v θ κ => ∃ (pA0 : Option Addr), ∃ (pn0 : Nat), ∃ (pc0 : Nat), ∃ (pA1 : Option Addr), ∃ (pn1 : Nat), ∃ (pc1 : Nat), v = .slice pA0 pn0 pc0 ∧ θ = [eS lGPart 25 pA0 pn0 pc0 r.1, eBlk Ba0 71 [.slice pA1 pn1 pc1, .int .i64 r.2.At]] ∧ κ = [fV (lSlice (lInt .i64)) (.slice pA1 pn1 pc1) r.2.L]
set_option maxRecDepth 100000 in
theorem W_treatylaw20_written (a0 : GDeck) (Ba0 : Nat) (A1 : Option Addr) (n1 : Nat) (c1 : Nat) (r : (List GPart) × GDeck) (h : treatylaw20_written a0 = some r) : Spec Try.prog 27 [.pointer (some ⟨Ba0, 0, none⟩)] [eBlk Ba0 71 [.slice A1 n1 c1, .int .i64 a0.At]] [fV (lSlice (lInt .i64)) (.slice A1 n1 c1) a0.L] (Q_treatylaw20_written Ba0 r) := by
  unfold treatylaw20_written at h
  refine spec_of (σ := [(0, _)]) Try.func27 rfl rfl rfl rfl ?_
  intro C
  refine wc_know (fun _ h => h.lenF m0) (fun e => ?_)
  subst e
  refine wc_seq ?_
  refine wc_region ?_   -- region 0
  refine wl_det rfl rfl (det_assign rfl) rfl ?_
  refine wl_nil ?_
  refine pn_then ?_
  refine wc_seq ?_
  refine wc_region ?_   -- region 1
  refine wl_det rfl rfl (det_assign rfl) rfl ?_
  refine wl_nil ?_
  refine pn_then ?_
  refine wc_seq ?_
  refine wc_region ?_   -- region 2
  refine wl_det rfl rfl (det_assign rfl) rfl ?_
  refine wl_nil ?_
  refine pn_then ?_
  obtain ⟨q6, h, ho6⟩ := bind_some h
  refine wc_meetG (G := ((List Int) × Int × (List GPart)) × Option Addr × Nat × Nat × Option Addr × Nat × Nat × Unit) (fun (s6, _, _, _, _, _, _, _) => s6 = q6) (fun (_, _, _, _, A6_3, n6_3, c6_3, _) => [(3, .slice A6_3 n6_3 c6_3)]) (fun (s6, A6_0, n6_0, c6_0, A6_3, n6_3, c6_3, _) => [eBlk Ba0 71 [.slice A6_0 n6_0 c6_0, .int .i64 s6.2.1], eS lGPart 25 A6_3 n6_3 c6_3 s6.2.2]) (fun (s6, A6_0, n6_0, c6_0, _, _, _, _) => [fV (lSlice (lInt .i64)) (.slice A6_0 n6_0 c6_0) s6.1]) ?_ ?_
  · refine wc_seq ?_
    refine wc_region ?_   -- region 3
    refine wl_det rfl rfl (det_move rfl) rfl ?_
    obtain ⟨r3_1, hr3_1, h⟩ := bind_some h
    refine wl_act (act_callS (cap := []) (W_treatymade_Deck_Next a0 7 Ba0 A1 a0.L.length c1 r3_1 hr3_1) rfl rfl rfl bd45 ⟨_, r0, rfl⟩ ⟨m0, trivial⟩) rfl rfl rfl ?_
    rintro _ _ _ ⟨_, _, ⟨y3_1A0, y3_1n0, y3_1c0, rfl, rfl, rfl⟩, rfl, rfl⟩
    dsimp only [List.nil_append, List.cons_append]
    refine wl_know (fun _ h => h.lenF m0) (fun e => ?_)
    subst e
    refine wl_det rfl rfl (det_assign rfl) rfl ?_
    refine wl_nil ?_
    refine pn_then ?_
    refine wc_block ?_
    refine wc_st (fun _ h => h.zeroS lGPart 25 none) ?_
    obtain ⟨k10, hk10⟩ := loopV_some.1 h
    refine wc_loop (G := Nat × ((List Int) × Int × (List GPart) × Int × Int) × Option Addr × Nat × Nat × Option Addr × Nat × Nat × Unit) (fun g => IterN treatylaw20_written_l10 g.1 g.2.1 q6) (fun g => g.1) (fun (_, s10, _, _, _, A10_3, n10_3, c10_3, _) => [(0, .pointer (some ⟨Ba0, 0, none⟩)), (3, .slice A10_3 n10_3 c10_3), (4, .int .i64 s10.2.2.2.1), (5, .int .i64 s10.2.2.2.2)]) (fun (_, s10, A10_0, n10_0, c10_0, A10_3, n10_3, c10_3, _) => [eBlk Ba0 71 [.slice A10_0 n10_0 c10_0, .int .i64 s10.2.1], eS lGPart 25 A10_3 n10_3 c10_3 s10.2.2.1]) (fun (_, s10, A10_0, n10_0, c10_0, _, _, _, _) => [fV (lSlice (lInt .i64)) (.slice A10_0 n10_0 c10_0) s10.1]) (k10, (r3_1.2.L, r3_1.2.At, [], 0, r3_1.1), y3_1A0, r3_1.2.L.length, y3_1c0, none, 0, 0, ()) hk10 ⟨rfl, rfl, rfl, rfl, trivial⟩ (fun _ h => h.to ⟨_, (rs r0), ⟨_, r0, trivial⟩⟩ ⟨m0, trivial⟩) ?_
    rintro ⟨k10, s10, A10_0, n10_0, c10_0, A10_3, n10_3, c10_3, _⟩ hI
    obtain ⟨k10, rfl, q10, h, g10⟩ := IterN.pos hI
    dsimp only at h ⊢
    unfold treatylaw20_written_l10 at h
    refine wc_know (fun _ h => h.lenF m0) (fun e => ?_)
    subst e
    refine wc_know (fun _ h => h.lenO (ms m0)) (fun e => ?_)
    subst e
    refine wc_seq ?_
    refine wc_seq ?_
    refine wc_region ?_   -- region 4
    refine wl_det rfl rfl (det_move rfl) rfl ?_
    refine wl_det rfl rfl (det_gtr rfl rfl) rfl ?_
    refine wl_nil ?_
    refine pn_then ?_
    refine wc_cond rfl (fun c14 => ?_) (fun c14 => ?_)
    · have h := ifT h c14
      refine wc_skip ?_
      refine pn_then ?_
      refine wc_seq ?_
      refine wc_block ?_
      refine wc_seq ?_
      refine wc_region ?_   -- region 6
      refine wl_det rfl rfl (det_move rfl) rfl ?_
      refine wl_det rfl rfl (det_add rfl rfl) rfl ?_
      refine wl_det rfl rfl (det_move rfl) rfl ?_
      obtain ⟨r6_3, hr6_3, h⟩ := bind_some h
      refine wl_act (act_callS (cap := []) (W_treatymade_Deck_Next (GDeck.mk s10.1 s10.2.1) 2 Ba0 A10_0 s10.1.length c10_0 r6_3 hr6_3) rfl rfl rfl bd45 ⟨_, r0, rfl⟩ ⟨m0, trivial⟩) rfl rfl rfl ?_
      rintro _ _ _ ⟨_, _, ⟨y6_3A0, y6_3n0, y6_3c0, rfl, rfl, rfl⟩, rfl, rfl⟩
      dsimp only [List.nil_append, List.cons_append]
      refine wl_know (fun _ h => h.lenF m0) (fun e => ?_)
      subst e
      refine wl_det rfl rfl (det_add rfl rfl) rfl ?_
      refine wl_det rfl rfl (det_assign rfl) rfl ?_
      refine wl_nil ?_
      refine pn_then ?_
      refine wc_region ?_   -- region 7
      refine wl_det rfl rfl (det_move rfl) rfl ?_
      refine wl_det rfl rfl (det_move rfl) rfl ?_
      refine wl_det rfl rfl (det_move rfl) rfl ?_
      obtain ⟨r7_3, hr7_3, h⟩ := bind_some h
      refine wl_act (act_callS (cap := []) (W_treatymade_Deck_Upto r6_3.2 999999 Ba0 y6_3A0 r6_3.2.L.length y6_3c0 r7_3 hr7_3) rfl rfl rfl bd28 ⟨_, r0, rfl⟩ ⟨m0, trivial⟩) rfl rfl rfl ?_
      rintro _ _ _ ⟨_, _, ⟨y7_3A0, y7_3n0, y7_3c0, rfl, rfl, rfl⟩, rfl, rfl⟩
      dsimp only [List.nil_append, List.cons_append]
      refine wl_know (fun _ h => h.lenF m0) (fun e => ?_)
      subst e
      refine wl_det rfl rfl (det_add rfl rfl) rfl ?_
      refine wl_det rfl rfl (det_build (cs := [_, _]) pl25 zr25 rfl rfl (by rfl)) rfl ?_
      refine wl_act (act_litS lGPart (vs := [_]) (cs := [_, _]) [(GPart.mk (w64 ((w64 (s10.2.2.2.1 + 1)) + r6_3.1)) (w64 (1 + r7_3.1)))] un22 in25 rfl rfl rfl rfl rfl ⟨rfl, trivial⟩ (by rfl) rfl (litR_flat rfl)) rfl rfl rfl ?_
      rintro _ _ _ ⟨A7_6, rfl, rfl, rfl⟩
      obtain ⟨k7_7, h⟩ := chk_some h
      refine wl_act (act_appendS (L := lGPart) rfl rfl (ss (ss s0)) (src_O m0) un22 in25 rfl rfl rfl k7_7) rfl rfl rfl ?_
      rintro _ _ _ ⟨A7_7, c7_7, rfl, rfl, rfl⟩
      refine wl_det rfl rfl (det_assign rfl) rfl ?_
      refine wl_nil ?_
      refine pn_block ?_
      refine pn_then ?_
      refine wc_region ?_   -- region 5
      refine wl_det rfl rfl (det_move rfl) rfl ?_
      refine wl_det rfl rfl (det_sub rfl rfl) rfl ?_
      refine wl_det rfl rfl (det_assign rfl) rfl ?_
      refine wl_nil ?_
      replace h := Option.some.inj h
      subst h
      exact pn_some (k10, (r7_3.2.L, r7_3.2.At, (s10.2.2.1 ++ [(GPart.mk (w64 ((w64 (s10.2.2.2.1 + 1)) + r6_3.1)) (w64 (1 + r7_3.1)))]), (w64 ((w64 (s10.2.2.2.1 + 1)) + r6_3.1)), (w64 (s10.2.2.2.2 - 1))), y7_3A0, r7_3.2.L.length, y7_3c0, A7_7, (s10.2.2.1 ++ [(GPart.mk (w64 ((w64 (s10.2.2.2.1 + 1)) + r6_3.1)) (w64 (1 + r7_3.1)))]).length, c7_7, ()) ⟨nextL g10, Nat.lt_succ_self _⟩ ⟨rfl, rfl, rfl, rfl, trivial⟩ (fun _ h => h.to ⟨_, (rs r0), ⟨_, (rs r0), trivial⟩⟩ ⟨m0, trivial⟩)
    · have h := ifF h c14
      refine wc_exit ?_
      refine px_then ?_
      refine px_then ?_
      refine px_block ?_
      replace h := Option.some.inj h
      subst h
      replace g10 := nextR g10
      subst g10
      exact pn_meetG ((s10.1, s10.2.1, s10.2.2.1), A10_0, s10.1.length, c10_0, A10_3, s10.2.2.1.length, c10_3, ()) rfl ⟨rfl, trivial⟩ (fun _ h => h.to ⟨_, r0, ⟨_, r0, trivial⟩⟩ ⟨m0, trivial⟩)
  rintro ⟨s6, A6_0, n6_0, c6_0, A6_3, n6_3, c6_3, _⟩ e6
  dsimp only at e6 ⊢
  subst e6
  have h := ho6
  refine wc_know (fun _ h => h.lenF m0) (fun e => ?_)
  subst e
  refine wc_know (fun _ h => h.lenO (ms m0)) (fun e => ?_)
  subst e
  refine wc_seq ?_
  refine wc_region ?_   -- region 8
  refine wl_det rfl rfl (det_move rfl) rfl ?_
  refine wl_det rfl rfl (det_assign rfl) rfl ?_
  refine wl_nil ?_
  refine pn_then ?_
  refine wc_ret ?_
  replace h := Option.some.inj h
  subst h
  refine pn_ret (vs := [_]) rfl ⟨rfl, trivial⟩ ⟨A6_3, s6.2.2.length, c6_3, A6_0, s6.1.length, c6_0, rfl, rfl, rfl⟩ (fun _ h => h.to ⟨_, (rs r0), ⟨_, r0, trivial⟩⟩ ⟨m0, trivial⟩)
def Q_treatyref20_SameParts (r : Bool) : Value → List Ent → List Fact → Prop := fun v θ κ => v = .bool r ∧ θ = [] ∧ κ = []
theorem plains_treatyref20_SameParts {r : Bool} : ∀ v θ κ, Q_treatyref20_SameParts r v θ κ → Plains θ := by
  rintro _ _ _ ⟨rfl, rfl, rfl⟩
  exact trivial
set_option maxRecDepth 100000 in
theorem W_treatyref20_SameParts (a0 : (List GPart)) (a1 : (List GPart)) (A0 : Option Addr) (n0 : Nat) (c0 : Nat) (A3 : Option Addr) (n3 : Nat) (c3 : Nat) (r : Bool) (h : treatyref20_SameParts a0 a1 = some r) : Spec Try.prog 29 [.slice A0 n0 c0, .slice A3 n3 c3] [] [fV (lSlice lGPart) (.slice A0 n0 c0) a0, fV (lSlice lGPart) (.slice A3 n3 c3) a1] (Q_treatyref20_SameParts r) := by
  unfold treatyref20_SameParts at h
  refine spec_of (σ := [(0, _), (1, _)]) Try.func29 rfl rfl rfl rfl ?_
  intro C
  refine wc_know (fun _ h => h.lenF m0) (fun e => ?_)
  subst e
  refine wc_know (fun _ h => h.lenF (ms m0)) (fun e => ?_)
  subst e
  refine wc_seq ?_
  refine wc_region ?_   -- region 0
  refine wl_det rfl rfl (det_assign rfl) rfl ?_
  refine wl_nil ?_
  refine pn_then ?_
  refine wc_seq ?_
  refine wc_seq ?_
  refine wc_region ?_   -- region 1
  refine wl_det rfl rfl (det_move rfl) rfl ?_
  refine wl_det rfl rfl (det_len rfl un22) rfl ?_
  refine wl_det rfl rfl (det_move rfl) rfl ?_
  refine wl_det rfl rfl (det_len rfl un22) rfl ?_
  refine wl_det rfl rfl (det_neq rfl rfl) rfl ?_
  refine wl_nil ?_
  refine pn_then ?_
  refine wc_cond rfl (fun c5 => ?_) (fun c5 => ?_)
  · have h := ifT h c5
    refine wc_seq ?_
    refine wc_region ?_   -- region 2
    refine wl_det rfl rfl (det_assign rfl) rfl ?_
    refine wl_nil ?_
    refine pn_then ?_
    refine wc_ret ?_
    refine pr_then ?_
    replace h := Option.some.inj h
    subst h
    refine pn_ret (vs := [_]) rfl ⟨rfl, trivial⟩ ⟨rfl, rfl, rfl⟩ (fun _ h => h.to trivial trivial)
  · have h := ifF h c5
    refine wc_skip ?_
    refine pn_then ?_
    obtain ⟨q8, h, ho8⟩ := bind_some h
    refine wc_meetG (G := Unit × Unit) (fun (s8, _) => (.inl s8) = q8) (fun (_, _) => []) (fun (_, _) => []) (fun (_, _) => []) ?_ ?_
    · refine wc_seq ?_
      refine wc_region ?_   -- region 3
      refine wl_det rfl rfl (det_assign rfl) rfl ?_
      refine wl_nil ?_
      refine pn_then ?_
      refine wc_block ?_
      obtain ⟨o12, h, ho12⟩ := bind_some h
      obtain ⟨k12, hk12⟩ := loopV_some.1 h
      refine wc_loop (G := Nat × Int × Unit) (fun g => IterN (treatyref20_SameParts_l12 a0 a1) g.1 g.2.1 o12) (fun g => g.1) (fun (_, s12, _) => [(0, .slice A0 a0.length c0), (1, .slice A3 a1.length c3), (5, .int .i64 s12)]) (fun (_, _, _) => []) (fun (_, _, _) => [fV (lSlice lGPart) (.slice A0 a0.length c0) a0, fV (lSlice lGPart) (.slice A3 a1.length c3) a1]) (k12, 0, ()) hk12 ⟨rfl, rfl, rfl, trivial⟩ (fun _ h => h.to trivial ⟨m0, ⟨(ms m0), trivial⟩⟩) ?_
      rintro ⟨k12, s12, _⟩ hI
      obtain ⟨k12, rfl, q12, h, g12⟩ := IterN.pos hI
      dsimp only at h ⊢
      unfold treatyref20_SameParts_l12 at h
      refine wc_seq ?_
      refine wc_seq ?_
      refine wc_region ?_   -- region 4
      refine wl_det rfl rfl (det_move rfl) rfl ?_
      refine wl_det rfl rfl (det_move rfl) rfl ?_
      refine wl_det rfl rfl (det_len rfl un22) rfl ?_
      refine wl_det rfl rfl (det_lss rfl rfl) rfl ?_
      refine wl_nil ?_
      refine pn_then ?_
      refine wc_cond rfl (fun c16 => ?_) (fun c16 => ?_)
      · have h := ifT h c16
        refine wc_skip ?_
        refine pn_then ?_
        refine wc_seq ?_
        refine wc_block ?_
        refine wc_seq ?_
        obtain ⟨k6_p1, h⟩ := chk_some h
        refine wc_st (fun _ h => h.openF m0 k6_p1) ?_
        obtain ⟨k6_p3, h⟩ := chk_some h
        refine wc_st (fun _ h => h.openF (ms (ms m0)) k6_p3) ?_
        refine dx_region 9 [[], [], [0, 1], [0, 1, 2], [], [], [4, 5], [4, 5, 6], [0, 1, 2, 3, 4, 5, 6, 7]] mixed (ord := (.det 0 (.det 1 (.det 2 (.det 3 (.det 4 (.det 5 (.det 6 (.det 7 (.det 8 .done)))))))))) (by kernel_rfl) ?_   -- region 6
        refine hx_det rfl rfl rfl nofun (det_move rfl) rfl ?_
        refine hx_det rfl rfl rfl nofun (det_move rfl) rfl ?_
        refine hx_det rfl rfl rfl nofun (det_indexP rfl rfl (ms (ms m0)) k6_p1 (ms m0) un22 sz25) rfl ?_
        refine hx_det rfl rfl rfl nofun (det_loadP (off := 0) rfl (ms m0) (by rfl) (by rfl) (loaded_n (cells := [_, _]) ag25 sz25)) rfl ?_
        refine hx_det rfl rfl rfl nofun (det_move rfl) rfl ?_
        refine hx_det rfl rfl rfl nofun (det_move rfl) rfl ?_
        refine hx_det rfl rfl rfl nofun (det_indexP rfl rfl (ms (ms (ms m0))) k6_p3 m0 un22 sz25) rfl ?_
        refine hx_det rfl rfl rfl nofun (det_loadP (off := 0) rfl m0 (by rfl) (by rfl) (loaded_n (cells := [_, _]) ag25 sz25)) rfl ?_
        refine hx_det rfl rfl rfl nofun (det_neqS [_, _] [_, _] eq25 rfl rfl rfl rfl) rfl ?_
        refine hx_end ?_
        refine wl_nil ?_
        refine pn_then ?_
        refine wc_cond rfl (fun c22 => ?_) (fun c22 => ?_)
        · have h := ifT h c22
          refine wc_seq ?_
          refine wc_region ?_   -- region 7
          refine wl_det rfl rfl (det_assign rfl) rfl ?_
          refine wl_nil ?_
          refine pn_then ?_
          refine wc_ret ?_
          refine pr_block ?_
          refine pr_then ?_
          refine pr_then ?_
          refine pr_block ?_
          refine pr_then ?_
          replace h := Option.some.inj h
          subst h
          replace g12 := nextR g12
          subst g12
          have h := (elimL ho12)
          replace h := Option.some.inj h
          subst h
          have h := (elimR ho8)
          replace h := Option.some.inj h
          subst h
          refine pn_ret (vs := [_]) rfl ⟨rfl, trivial⟩ ⟨rfl, rfl, rfl⟩ (fun _ h => h.to trivial trivial)
        · have h := ifF h c22
          refine wc_skip ?_
          refine pn_block ?_
          refine pn_then ?_
          refine wc_region ?_   -- region 5
          refine wl_det rfl rfl (det_move rfl) rfl ?_
          refine wl_det rfl rfl (det_add rfl rfl) rfl ?_
          refine wl_det rfl rfl (det_assign rfl) rfl ?_
          refine wl_nil ?_
          replace h := Option.some.inj h
          subst h
          exact pn_some (k12, (w64 (s12 + 1)), ()) ⟨nextL g12, Nat.lt_succ_self _⟩ ⟨rfl, rfl, rfl, trivial⟩ (fun _ h => h.to trivial ⟨(ms (ms m0)), ⟨(ms (ms (ms m0))), trivial⟩⟩)
      · have h := ifF h c16
        refine wc_exit ?_
        refine px_then ?_
        refine px_then ?_
        refine px_block ?_
        replace h := Option.some.inj h
        subst h
        replace g12 := nextR g12
        subst g12
        have h := (elimR ho12)
        replace h := Option.some.inj h
        subst h
        exact pn_meetG ((), ()) rfl trivial (fun _ h => h.to trivial trivial)
    rintro ⟨s8, _⟩ e8
    dsimp only at e8 ⊢
    subst e8
    have h := (elimL ho8)
    refine wc_seq ?_
    refine wc_region ?_   -- region 8
    refine wl_det rfl rfl (det_assign rfl) rfl ?_
    refine wl_nil ?_
    refine pn_then ?_
    refine wc_ret ?_
    replace h := Option.some.inj h
    subst h
    refine pn_ret (vs := [_]) rfl ⟨rfl, trivial⟩ ⟨rfl, rfl, rfl⟩ (fun _ h => h.to trivial trivial)
def Q_treatylaw20_ContractSign (r : Bool) : Value → List Ent → List Fact → Prop := fun v θ κ => v = .bool r ∧ θ = [] ∧ κ = []
theorem plains_treatylaw20_ContractSign {r : Bool} : ∀ v θ κ, Q_treatylaw20_ContractSign r v θ κ → Plains θ := by
  rintro _ _ _ ⟨rfl, rfl, rfl⟩
  exact trivial
set_option maxRecDepth 100000 in
theorem W_treatylaw20_ContractSign (a0 : (List GPart)) (a1 : Int) (a2 : (List Int)) (a3 : Int) (A0 : Option Addr) (n0 : Nat) (c0 : Nat) (A3 : Option Addr) (n3 : Nat) (c3 : Nat) (r : Bool) (h : treatylaw20_ContractSign a0 a1 a2 a3 = some r) : Spec Try.prog 6 [.slice A0 n0 c0, .int .i64 a1, .slice A3 n3 c3, .int .i64 a3] [] [fV (lSlice lGPart) (.slice A0 n0 c0) a0, fV (lSlice (lInt .i64)) (.slice A3 n3 c3) a2] (Q_treatylaw20_ContractSign r) := by
  unfold treatylaw20_ContractSign at h
  refine spec_of (σ := [(0, _), (1, _), (2, _), (3, _)]) Try.func6 rfl rfl rfl rfl ?_
  intro C
  refine wc_know (fun _ h => h.lenF m0) (fun e => ?_)
  subst e
  refine wc_know (fun _ h => h.lenF (ms m0)) (fun e => ?_)
  subst e
  refine wc_seq ?_
  refine wc_region ?_   -- region 0
  refine wl_det rfl rfl (det_assign rfl) rfl ?_
  refine wl_nil ?_
  refine pn_then ?_
  refine wc_seq ?_
  refine wc_seq ?_
  refine wc_region ?_   -- region 1
  refine wl_det rfl rfl (det_move rfl) rfl ?_
  refine wl_det rfl rfl (det_len rfl un22) rfl ?_
  refine wl_det rfl rfl (det_gtr rfl rfl) rfl ?_
  refine wl_nil ?_
  refine pn_then ?_
  refine wc_cond rfl (fun c5 => ?_) (fun c5 => ?_)
  · have h := ifT h c5
    refine wc_seq ?_
    refine wc_region ?_   -- region 2
    obtain ⟨r2_0, hr2_0, h⟩ := bind_some h
    refine wl_act (act_callS (cap := []) (W_treatylaw20_awake r2_0 hr2_0) rfl rfl rfl bd15 rfl trivial) rfl rfl rfl ?_
    rintro _ _ _ ⟨_, _, ⟨rfl, rfl, rfl⟩, rfl, rfl⟩
    dsimp only [List.nil_append, List.cons_append]
    refine wl_det rfl rfl (det_assign rfl) rfl ?_
    refine wl_nil ?_
    refine pn_then ?_
    refine wc_ret ?_
    refine pr_then ?_
    replace h := Option.some.inj h
    subst h
    refine pn_ret (vs := [_]) rfl ⟨rfl, trivial⟩ ⟨rfl, rfl, rfl⟩ (fun _ h => h.to trivial trivial)
  · have h := ifF h c5
    refine wc_skip ?_
    refine pn_then ?_
    refine wc_seq ?_
    refine wc_region ?_   -- region 3
    refine wl_det rfl rfl (det_move rfl) rfl ?_
    refine wl_det rfl rfl (det_move rfl) rfl ?_
    obtain ⟨r3_2, hr3_2, h⟩ := bind_some h
    refine wl_act (act_callS (cap := []) (W_contract_Sign a0 a1 A0 a0.length c0 r3_2 hr3_2) rfl rfl rfl bd25 rfl ⟨m0, trivial⟩) rfl rfl rfl ?_
    rintro _ _ _ ⟨_, _, ⟨y3_2A0, y3_2n0, y3_2c0, rfl, rfl, rfl⟩, rfl, rfl⟩
    dsimp only [List.nil_append, List.cons_append]
    refine wl_know (fun _ h => h.lenO m0) (fun e => ?_)
    subst e
    refine wl_det rfl rfl (det_move rfl) rfl ?_
    refine wl_det rfl rfl (det_extract rfl rfl) rfl ?_
    refine wl_det rfl rfl (det_extract rfl rfl) rfl ?_
    refine wl_det rfl rfl (det_assign rfl) rfl ?_
    refine wl_det rfl rfl (det_assign rfl) rfl ?_
    refine wl_nil ?_
    refine pn_then ?_
    refine wc_seq ?_
    refine wc_region ?_   -- region 4
    refine wl_det rfl rfl (det_move rfl) rfl ?_
    refine wl_det rfl rfl (det_move rfl) rfl ?_
    obtain ⟨r4_2, hr4_2, h⟩ := bind_some h
    refine wl_act (act_callS (cap := []) (W_treatyref20_Sign a0 a1 A0 a0.length c0 r4_2 hr4_2) rfl rfl rfl bd26 rfl ⟨m0, trivial⟩) rfl rfl rfl ?_
    rintro _ _ _ ⟨_, _, ⟨y4_2A0, y4_2n0, y4_2c0, rfl, rfl, rfl⟩, rfl, rfl⟩
    dsimp only [List.nil_append, List.cons_append]
    refine wl_know (fun _ h => h.lenO m0) (fun e => ?_)
    subst e
    refine wl_det rfl rfl (det_move rfl) rfl ?_
    refine wl_det rfl rfl (det_extract rfl rfl) rfl ?_
    refine wl_det rfl rfl (det_extract rfl rfl) rfl ?_
    refine wl_det rfl rfl (det_assign rfl) rfl ?_
    refine wl_det rfl rfl (det_assign rfl) rfl ?_
    refine wl_nil ?_
    refine pn_then ?_
    refine wc_seq ?_
    refine wc_region ?_   -- region 5
    refine wl_det rfl rfl (det_move rfl) rfl ?_
    obtain ⟨r5_1, hr5_1, h⟩ := bind_some h
    refine wl_act (act_callS (cap := []) (W_treatymade_New a2 A3 a2.length c3 r5_1 hr5_1) rfl rfl rfl bd16 rfl ⟨(ms m0), trivial⟩) rfl rfl rfl ?_
    rintro _ _ _ ⟨_, _, ⟨y5_1b0, y5_1A1, y5_1n1, y5_1c1, rfl, rfl, rfl⟩, rfl, rfl⟩
    dsimp only [List.nil_append, List.cons_append]
    refine wl_know (fun _ h => h.lenF m0) (fun e => ?_)
    subst e
    refine wl_det rfl rfl (det_assign rfl) rfl ?_
    refine wl_nil ?_
    refine pn_then ?_
    refine wc_seq ?_
    refine wc_region ?_   -- region 6
    refine wl_det rfl rfl (det_move rfl) rfl ?_
    obtain ⟨r6_1, hr6_1, h⟩ := bind_some h
    refine wl_act (act_callS (cap := []) (W_treatylaw20_written r5_1 y5_1b0 y5_1A1 r5_1.L.length y5_1c1 r6_1 hr6_1) rfl rfl rfl bd27 ⟨_, r0, rfl⟩ ⟨m0, trivial⟩) rfl rfl rfl ?_
    rintro _ _ _ ⟨_, _, ⟨y6_1A0, y6_1n0, y6_1c0, y6_1A1, y6_1n1, y6_1c1, rfl, rfl, rfl⟩, rfl, rfl⟩
    dsimp only [List.nil_append, List.cons_append]
    refine wl_know (fun _ h => h.lenO m0) (fun e => ?_)
    subst e
    refine wl_know (fun _ h => h.lenF m0) (fun e => ?_)
    subst e
    refine wl_det rfl rfl (det_assign rfl) rfl ?_
    refine wl_nil ?_
    refine pn_then ?_
    refine wc_seq ?_
    refine wc_region ?_   -- region 7
    refine wl_det rfl rfl (det_move rfl) rfl ?_
    obtain ⟨r7_1, hr7_1, h⟩ := bind_some h
    refine wl_act (act_callS (cap := []) (W_treatymade_Deck_Upto r6_1.2 1000000 y5_1b0 y6_1A1 r6_1.2.L.length y6_1c1 r7_1 hr7_1) rfl rfl rfl bd28 ⟨_, (rs r0), rfl⟩ ⟨m0, trivial⟩) rfl rfl rfl ?_
    rintro _ _ _ ⟨_, _, ⟨y7_1A0, y7_1n0, y7_1c0, rfl, rfl, rfl⟩, rfl, rfl⟩
    dsimp only [List.nil_append, List.cons_append]
    refine wl_know (fun _ h => h.lenF m0) (fun e => ?_)
    subst e
    refine wl_det rfl rfl (det_assign rfl) rfl ?_
    refine wl_nil ?_
    refine pn_then ?_
    refine wc_seq ?_
    refine wc_region ?_   -- region 8
    refine wl_det rfl rfl (det_move rfl) rfl ?_
    refine wl_det rfl rfl (det_move rfl) rfl ?_
    obtain ⟨r8_2, hr8_2, h⟩ := bind_some h
    refine wl_act (act_callL (cap := []) [eS lGPart 25 y6_1A0 r6_1.1.length y6_1c0 r6_1.1] (W_contract_Sign r6_1.1 r7_1.1 y6_1A0 r6_1.1.length y6_1c0 r8_2 hr8_2) plains_contract_Sign rfl rfl rfl bd25 rfl ⟨(ms m0), trivial⟩ ⟨.inr ⟨_, m0, lent_eS⟩, trivial⟩) rfl rfl rfl ?_
    rintro _ _ _ ⟨_, _, ⟨y8_2A0, y8_2n0, y8_2c0, rfl, rfl, rfl⟩, rfl, rfl⟩
    dsimp only [List.nil_append, List.cons_append]
    refine wl_know (fun _ h => h.lenO m0) (fun e => ?_)
    subst e
    refine wl_det rfl rfl (det_move rfl) rfl ?_
    refine wl_det rfl rfl (det_extract rfl rfl) rfl ?_
    refine wl_det rfl rfl (det_extract rfl rfl) rfl ?_
    refine wl_det rfl rfl (det_assign rfl) rfl ?_
    refine wl_det rfl rfl (det_assign rfl) rfl ?_
    refine wl_nil ?_
    refine pn_then ?_
    refine wc_seq ?_
    refine wc_region ?_   -- region 9
    refine wl_det rfl rfl (det_move rfl) rfl ?_
    refine wl_det rfl rfl (det_move rfl) rfl ?_
    obtain ⟨r9_2, hr9_2, h⟩ := bind_some h
    refine wl_act (act_callL (cap := []) [eS lGPart 25 y6_1A0 r6_1.1.length y6_1c0 r6_1.1] (W_treatyref20_Sign r6_1.1 r7_1.1 y6_1A0 r6_1.1.length y6_1c0 r9_2 hr9_2) plains_treatyref20_Sign rfl rfl rfl bd26 rfl ⟨(ms (ms m0)), trivial⟩ ⟨.inr ⟨_, m0, lent_eS⟩, trivial⟩) rfl rfl rfl ?_
    rintro _ _ _ ⟨_, _, ⟨y9_2A0, y9_2n0, y9_2c0, rfl, rfl, rfl⟩, rfl, rfl⟩
    dsimp only [List.nil_append, List.cons_append]
    refine wl_know (fun _ h => h.lenO m0) (fun e => ?_)
    subst e
    refine wl_det rfl rfl (det_move rfl) rfl ?_
    refine wl_det rfl rfl (det_extract rfl rfl) rfl ?_
    refine wl_det rfl rfl (det_extract rfl rfl) rfl ?_
    refine wl_det rfl rfl (det_assign rfl) rfl ?_
    refine wl_det rfl rfl (det_assign rfl) rfl ?_
    refine wl_nil ?_
    refine pn_then ?_
    refine wc_seq ?_
    refine wc_region ?_   -- region 10
    refine wl_det rfl rfl (det_move rfl) rfl ?_
    refine wl_det rfl rfl (det_move rfl) rfl ?_
    obtain ⟨r10_2, hr10_2, h⟩ := bind_some h
    refine wl_act (act_callL (cap := []) [eS lGPart 25 y6_1A0 r6_1.1.length y6_1c0 r6_1.1] (W_contract_Sign r6_1.1 a3 y6_1A0 r6_1.1.length y6_1c0 r10_2 hr10_2) plains_contract_Sign rfl rfl rfl bd25 rfl ⟨(ms (ms (ms m0))), trivial⟩ ⟨.inr ⟨_, m0, lent_eS⟩, trivial⟩) rfl rfl rfl ?_
    rintro _ _ _ ⟨_, _, ⟨y10_2A0, y10_2n0, y10_2c0, rfl, rfl, rfl⟩, rfl, rfl⟩
    dsimp only [List.nil_append, List.cons_append]
    refine wl_know (fun _ h => h.lenO m0) (fun e => ?_)
    subst e
    refine wl_det rfl rfl (det_move rfl) rfl ?_
    refine wl_det rfl rfl (det_extract rfl rfl) rfl ?_
    refine wl_det rfl rfl (det_extract rfl rfl) rfl ?_
    refine wl_det rfl rfl (det_assign rfl) rfl ?_
    refine wl_det rfl rfl (det_assign rfl) rfl ?_
    refine wl_nil ?_
    refine pn_then ?_
    refine wc_seq ?_
    refine wc_region ?_   -- region 11
    refine wl_det rfl rfl (det_move rfl) rfl ?_
    refine wl_det rfl rfl (det_move rfl) rfl ?_
    obtain ⟨r11_2, hr11_2, h⟩ := bind_some h
    refine wl_act (act_callL (cap := []) [eS lGPart 25 y6_1A0 r6_1.1.length y6_1c0 r6_1.1] (W_treatyref20_Sign r6_1.1 a3 y6_1A0 r6_1.1.length y6_1c0 r11_2 hr11_2) plains_treatyref20_Sign rfl rfl rfl bd26 rfl ⟨(ms (ms (ms (ms m0)))), trivial⟩ ⟨.inr ⟨_, m0, lent_eS⟩, trivial⟩) rfl rfl rfl ?_
    rintro _ _ _ ⟨_, _, ⟨y11_2A0, y11_2n0, y11_2c0, rfl, rfl, rfl⟩, rfl, rfl⟩
    dsimp only [List.nil_append, List.cons_append]
    refine wl_know (fun _ h => h.lenO m0) (fun e => ?_)
    subst e
    refine wl_det rfl rfl (det_move rfl) rfl ?_
    refine wl_det rfl rfl (det_extract rfl rfl) rfl ?_
    refine wl_det rfl rfl (det_extract rfl rfl) rfl ?_
    refine wl_det rfl rfl (det_assign rfl) rfl ?_
    refine wl_det rfl rfl (det_assign rfl) rfl ?_
    refine wl_nil ?_
    refine pn_then ?_
    refine wc_seq ?_
    refine wc_region ?_   -- region 12
    refine wl_det rfl rfl (det_move rfl) rfl ?_
    refine wl_det rfl rfl (det_move rfl) rfl ?_
    obtain ⟨r12_2, hr12_2, h⟩ := bind_some h
    refine wl_act (act_callL (cap := []) [eS lGPart 25 y3_2A0 r3_2.1.length y3_2c0 r3_2.1, eS lGPart 25 y4_2A0 r4_2.1.length y4_2c0 r4_2.1] (W_treatyref20_SameParts r3_2.1 r4_2.1 y3_2A0 r3_2.1.length y3_2c0 y4_2A0 r4_2.1.length y4_2c0 r12_2 hr12_2) plains_treatyref20_SameParts rfl rfl rfl bd29 rfl ⟨(ms (ms (ms (ms (ms (ms (ms m0))))))), ⟨(ms (ms (ms (ms (ms (ms m0)))))), trivial⟩⟩ ⟨.inr ⟨_, m0, lent_eS⟩, ⟨.inr ⟨_, (ms m0), lent_eS⟩, trivial⟩⟩) rfl rfl rfl ?_
    rintro _ _ _ ⟨_, _, ⟨rfl, rfl, rfl⟩, rfl, rfl⟩
    dsimp only [List.nil_append, List.cons_append]
    refine wl_det rfl rfl (det_move rfl) rfl ?_
    refine wl_way r12_2 (r12_2 && (decide (r3_2.2 = r4_2.2))) 4 77 (fun hg => ?_) (fun hg => ?_) ?_
    · have hg12_7 := hg
      refine wl_on rfl rfl rfl rfl hg12_7 ?_
      refine wl_det rfl rfl (det_move rfl) rfl ?_
      refine wl_on rfl rfl rfl rfl hg12_7 ?_
      refine wl_det rfl rfl (det_move rfl) rfl ?_
      refine wl_on rfl rfl rfl rfl hg12_7 ?_
      refine wl_det rfl rfl (det_eql rfl rfl) rfl ?_
      refine wl_det rfl rfl (det_and_on rfl rfl rfl hg12_7) rfl ?_
      exact wl_nil (pn_qnE (ext_cons rfl (ext_skip rfl (ext_skip rfl (ext_skip rfl (ext_skip rfl ext_refl))))) (fun _ h => h))
    · have hg12_7a := hg
      refine wl_off rfl rfl rfl rfl rfl hg12_7a rfl ?_
      refine wl_off rfl rfl rfl rfl rfl hg12_7a rfl ?_
      refine wl_off rfl rfl rfl rfl rfl hg12_7a rfl ?_
      refine wl_det rfl rfl (det_and_off (q := (decide (r3_2.2 = r4_2.2))) rfl rfl rfl hg12_7a) rfl ?_
      exact wl_nil (pn_qnE (ext_cons rfl (ext_skip rfl (ext_skip rfl (ext_skip rfl (ext_skip rfl ext_refl))))) (fun _ h => h))
    refine wl_det rfl rfl (det_move rfl) rfl ?_
    obtain ⟨q12_12, hq12_12, h⟩ := bind_some h
    have ho12_12 := h
    refine wl_way (r12_2 && (decide (r3_2.2 = r4_2.2))) q12_12 4 82 (fun hg => ?_) (fun hg => ?_) ?_
    · have hg12_12 := hg
      have h := ifT hq12_12 hg
      refine wl_on rfl rfl rfl rfl hg12_12 ?_
      refine wl_det rfl rfl (det_move rfl) rfl ?_
      refine wl_on rfl rfl rfl rfl hg12_12 ?_
      refine wl_det rfl rfl (det_move rfl) rfl ?_
      refine wl_on rfl rfl rfl rfl hg12_12 ?_
      obtain ⟨r12_11, hr12_11, h⟩ := bind_some h
      refine wl_act (act_callL (cap := []) [eS lGPart 25 y8_2A0 r8_2.1.length y8_2c0 r8_2.1, eS lGPart 25 y9_2A0 r9_2.1.length y9_2c0 r9_2.1] (W_treatyref20_SameParts r8_2.1 r9_2.1 y8_2A0 r8_2.1.length y8_2c0 y9_2A0 r9_2.1.length y9_2c0 r12_11 hr12_11) plains_treatyref20_SameParts rfl rfl rfl bd29 rfl ⟨(ms (ms (ms m0))), ⟨(ms (ms m0)), trivial⟩⟩ ⟨.inr ⟨_, m0, lent_eS⟩, ⟨.inr ⟨_, (ms m0), lent_eS⟩, trivial⟩⟩) rfl rfl rfl ?_
      rintro _ _ _ ⟨_, _, ⟨rfl, rfl, rfl⟩, rfl, rfl⟩
      dsimp only [List.nil_append, List.cons_append]
      replace h := Option.some.inj h
      subst h
      refine wl_det rfl rfl (det_pick_on rfl hg12_12 rfl rfl) rfl ?_
      exact wl_nil (pn_qnE (ext_cons rfl (ext_skip rfl (ext_skip rfl (ext_skip rfl (ext_skip rfl ext_refl))))) (fun _ h => h))
    · have hg12_12a := hg
      have h := ifF hq12_12 hg
      refine wl_off rfl rfl rfl rfl rfl hg12_12a rfl ?_
      refine wl_off rfl rfl rfl rfl rfl hg12_12a rfl ?_
      refine wl_off rfl rfl rfl rfl rfl hg12_12a rfl ?_
      replace h := Option.some.inj h
      subst h
      refine wl_det rfl rfl (det_pick_off rfl hg12_12a rfl rfl) rfl ?_
      exact wl_nil (pn_qnE (ext_cons rfl (ext_skip rfl (ext_skip rfl (ext_skip rfl (ext_skip rfl ext_refl))))) (fun _ h => h))
    have h := ho12_12
    refine wl_det rfl rfl (det_move rfl) rfl ?_
    refine wl_way q12_12 (q12_12 && (decide (r8_2.2 = r9_2.2))) 4 87 (fun hg => ?_) (fun hg => ?_) ?_
    · have hg12_17 := hg
      refine wl_on rfl rfl rfl rfl hg12_17 ?_
      refine wl_det rfl rfl (det_move rfl) rfl ?_
      refine wl_on rfl rfl rfl rfl hg12_17 ?_
      refine wl_det rfl rfl (det_move rfl) rfl ?_
      refine wl_on rfl rfl rfl rfl hg12_17 ?_
      refine wl_det rfl rfl (det_eql rfl rfl) rfl ?_
      refine wl_det rfl rfl (det_and_on rfl rfl rfl hg12_17) rfl ?_
      exact wl_nil (pn_qnE (ext_cons rfl (ext_skip rfl (ext_skip rfl (ext_skip rfl (ext_skip rfl ext_refl))))) (fun _ h => h))
    · have hg12_17a := hg
      refine wl_off rfl rfl rfl rfl rfl hg12_17a rfl ?_
      refine wl_off rfl rfl rfl rfl rfl hg12_17a rfl ?_
      refine wl_off rfl rfl rfl rfl rfl hg12_17a rfl ?_
      refine wl_det rfl rfl (det_and_off (q := (decide (r8_2.2 = r9_2.2))) rfl rfl rfl hg12_17a) rfl ?_
      exact wl_nil (pn_qnE (ext_cons rfl (ext_skip rfl (ext_skip rfl (ext_skip rfl (ext_skip rfl ext_refl))))) (fun _ h => h))
    refine wl_det rfl rfl (det_move rfl) rfl ?_
    obtain ⟨q12_22, hq12_22, h⟩ := bind_some h
    have ho12_22 := h
    refine wl_way (q12_12 && (decide (r8_2.2 = r9_2.2))) q12_22 4 92 (fun hg => ?_) (fun hg => ?_) ?_
    · have hg12_22 := hg
      have h := ifT hq12_22 hg
      refine wl_on rfl rfl rfl rfl hg12_22 ?_
      refine wl_det rfl rfl (det_move rfl) rfl ?_
      refine wl_on rfl rfl rfl rfl hg12_22 ?_
      refine wl_det rfl rfl (det_move rfl) rfl ?_
      refine wl_on rfl rfl rfl rfl hg12_22 ?_
      obtain ⟨r12_21, hr12_21, h⟩ := bind_some h
      refine wl_act (act_callL (cap := []) [eS lGPart 25 y10_2A0 r10_2.1.length y10_2c0 r10_2.1, eS lGPart 25 y11_2A0 r11_2.1.length y11_2c0 r11_2.1] (W_treatyref20_SameParts r10_2.1 r11_2.1 y10_2A0 r10_2.1.length y10_2c0 y11_2A0 r11_2.1.length y11_2c0 r12_21 hr12_21) plains_treatyref20_SameParts rfl rfl rfl bd29 rfl ⟨(ms m0), ⟨m0, trivial⟩⟩ ⟨.inr ⟨_, m0, lent_eS⟩, ⟨.inr ⟨_, (ms m0), lent_eS⟩, trivial⟩⟩) rfl rfl rfl ?_
      rintro _ _ _ ⟨_, _, ⟨rfl, rfl, rfl⟩, rfl, rfl⟩
      dsimp only [List.nil_append, List.cons_append]
      replace h := Option.some.inj h
      subst h
      refine wl_det rfl rfl (det_pick_on rfl hg12_22 rfl rfl) rfl ?_
      exact wl_nil (pn_qnE (ext_cons rfl (ext_skip rfl (ext_skip rfl (ext_skip rfl (ext_skip rfl ext_refl))))) (fun _ h => h))
    · have hg12_22a := hg
      have h := ifF hq12_22 hg
      refine wl_off rfl rfl rfl rfl rfl hg12_22a rfl ?_
      refine wl_off rfl rfl rfl rfl rfl hg12_22a rfl ?_
      refine wl_off rfl rfl rfl rfl rfl hg12_22a rfl ?_
      replace h := Option.some.inj h
      subst h
      refine wl_det rfl rfl (det_pick_off rfl hg12_22a rfl rfl) rfl ?_
      exact wl_nil (pn_qnE (ext_cons rfl (ext_skip rfl (ext_skip rfl (ext_skip rfl (ext_skip rfl ext_refl))))) (fun _ h => h))
    have h := ho12_22
    refine wl_det rfl rfl (det_move rfl) rfl ?_
    refine wl_way q12_22 (q12_22 && (decide (r10_2.2 = r11_2.2))) 4 97 (fun hg => ?_) (fun hg => ?_) ?_
    · have hg12_27 := hg
      refine wl_on rfl rfl rfl rfl hg12_27 ?_
      refine wl_det rfl rfl (det_move rfl) rfl ?_
      refine wl_on rfl rfl rfl rfl hg12_27 ?_
      refine wl_det rfl rfl (det_move rfl) rfl ?_
      refine wl_on rfl rfl rfl rfl hg12_27 ?_
      refine wl_det rfl rfl (det_eql rfl rfl) rfl ?_
      refine wl_det rfl rfl (det_and_on rfl rfl rfl hg12_27) rfl ?_
      exact wl_nil (pn_qnE (ext_cons rfl (ext_skip rfl (ext_skip rfl (ext_skip rfl (ext_skip rfl ext_refl))))) (fun _ h => h))
    · have hg12_27a := hg
      refine wl_off rfl rfl rfl rfl rfl hg12_27a rfl ?_
      refine wl_off rfl rfl rfl rfl rfl hg12_27a rfl ?_
      refine wl_off rfl rfl rfl rfl rfl hg12_27a rfl ?_
      refine wl_det rfl rfl (det_and_off (q := (decide (r10_2.2 = r11_2.2))) rfl rfl rfl hg12_27a) rfl ?_
      exact wl_nil (pn_qnE (ext_cons rfl (ext_skip rfl (ext_skip rfl (ext_skip rfl (ext_skip rfl ext_refl))))) (fun _ h => h))
    refine wl_det rfl rfl (det_move rfl) rfl ?_
    obtain ⟨q12_30, hq12_30, h⟩ := bind_some h
    have ho12_30 := h
    refine wl_way (q12_22 && (decide (r10_2.2 = r11_2.2))) q12_30 2 100 (fun hg => ?_) (fun hg => ?_) ?_
    · have hg12_30 := hg
      have h := ifT hq12_30 hg
      refine wl_on rfl rfl rfl rfl hg12_30 ?_
      obtain ⟨r12_29, hr12_29, h⟩ := bind_some h
      refine wl_act (act_callS (cap := []) (W_treatylaw20_awake r12_29 hr12_29) rfl rfl rfl bd15 rfl trivial) rfl rfl rfl ?_
      rintro _ _ _ ⟨_, _, ⟨rfl, rfl, rfl⟩, rfl, rfl⟩
      dsimp only [List.nil_append, List.cons_append]
      replace h := Option.some.inj h
      subst h
      refine wl_det rfl rfl (det_pick_on rfl hg12_30 rfl rfl) rfl ?_
      exact wl_nil (pn_qnE (ext_cons rfl (ext_skip rfl (ext_skip rfl ext_refl))) (fun _ h => h))
    · have hg12_30a := hg
      have h := ifF hq12_30 hg
      refine wl_off rfl rfl rfl rfl rfl hg12_30a rfl ?_
      replace h := Option.some.inj h
      subst h
      refine wl_det rfl rfl (det_pick_off rfl hg12_30a rfl rfl) rfl ?_
      exact wl_nil (pn_qnE (ext_cons rfl (ext_skip rfl (ext_skip rfl ext_refl))) (fun _ h => h))
    have h := ho12_30
    refine wl_det rfl rfl (det_assign rfl) rfl ?_
    refine wl_nil ?_
    refine pn_then ?_
    refine wc_ret ?_
    replace h := Option.some.inj h
    subst h
    refine pn_ret (vs := [_]) rfl ⟨rfl, trivial⟩ ⟨rfl, rfl, rfl⟩ (fun _ h => h.to trivial trivial)
end Go.Proofs.Ytlmhmpngjfjfhaa
