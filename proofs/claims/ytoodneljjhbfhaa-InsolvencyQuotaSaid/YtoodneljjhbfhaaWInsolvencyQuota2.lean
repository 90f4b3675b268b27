/- That functions of the program compute the plain programs of P. Written by a small program. -/
import Derived.Test.YtoodneljjhbfhaaWInsolvencyQuota1
namespace Go.Proofs.Ytoodneljjhbfhaa
open Go.RowKit
def Q_treatylaw38_InsolvencyQuota (r : Bool) : Value → List Ent → List Fact → Prop := fun v θ κ => v = .bool r ∧ θ = [] ∧ κ = []
theorem plains_treatylaw38_InsolvencyQuota {r : Bool} : ∀ v θ κ, Q_treatylaw38_InsolvencyQuota r v θ κ → Plains θ := by
  rintro _ _ _ ⟨rfl, rfl, rfl⟩
  exact trivial
set_option maxHeartbeats 4000000 in
set_option maxRecDepth 100000 in
theorem W_treatylaw38_InsolvencyQuota (a0 : (List Int)) (A0 : Option Addr) (n0 : Nat) (c0 : Nat) (r : Bool) (h : treatylaw38_InsolvencyQuota a0 = some r) : Spec Try.prog 8 [.slice A0 n0 c0] [] [fV (lSlice (lInt .i64)) (.slice A0 n0 c0) a0] (Q_treatylaw38_InsolvencyQuota r) := by
  unfold treatylaw38_InsolvencyQuota at h
  refine spec_of (σ := [(0, _)]) Try.func8 rfl rfl rfl rfl ?_
  intro C
  refine wc_know (fun _ h => h.lenF m0) (fun e => ?_)
  subst e
  refine wc_seq ?_
  refine wc_region ?_   -- region 0
  refine wl_det rfl rfl (det_assign rfl) rfl ?_
  refine wl_nil ?_
  refine pn_then ?_
  refine wc_seq ?_
  refine wc_region ?_   -- region 1
  refine wl_det rfl rfl (det_move rfl) rfl ?_
  obtain ⟨r1_1, hr1_1, h⟩ := bind_some h
  refine wl_act (act_callS (cap := []) (W_treatymade2_New a0 A0 a0.length c0 r1_1 hr1_1) rfl rfl rfl bd24 rfl ⟨m0, trivial⟩) rfl rfl rfl ?_
  rintro _ _ _ ⟨_, _, ⟨y1_1b0, y1_1A1, y1_1n1, y1_1c1, rfl, rfl, rfl⟩, rfl, rfl⟩
  dsimp only [List.nil_append, List.cons_append]
  refine wl_know (fun _ h => h.lenF m0) (fun e => ?_)
  subst e
  refine wl_det rfl rfl (det_assign rfl) rfl ?_
  refine wl_nil ?_
  refine pn_then ?_
  refine wc_seq ?_
  refine wc_region ?_   -- region 2
  refine wl_det rfl rfl (det_move rfl) rfl ?_
  obtain ⟨r2_1, hr2_1, h⟩ := bind_some h
  refine wl_act (act_callS (cap := []) (W_treatymade2_Mutuals r1_1 y1_1b0 y1_1A1 r1_1.L.length y1_1c1 r2_1 hr2_1) rfl rfl rfl bd25 ⟨_, r0, rfl⟩ ⟨m0, trivial⟩) rfl rfl rfl ?_
  rintro _ _ _ ⟨_, _, ⟨y2_1A0, y2_1n0, y2_1c0, y2_1A1, y2_1n1, y2_1c1, rfl, rfl, rfl⟩, rfl, rfl⟩
  dsimp only [List.nil_append, List.cons_append]
  refine wl_know (fun _ h => h.lenO m0) (fun e => ?_)
  subst e
  refine wl_know (fun _ h => h.lenF m0) (fun e => ?_)
  subst e
  refine wl_det rfl rfl (det_assign rfl) rfl ?_
  refine wl_nil ?_
  refine pn_then ?_
  obtain ⟨q6, h, ho6⟩ := bind_some h
  refine wc_meetG (G := (List GMutual) × Unit) (fun (s6, _) => s6 = q6) (fun (_, _) => [(3, .pointer (some ⟨y1_1b0, 0, none⟩)), (4, .slice y2_1A0 r2_1.1.length y2_1c0)]) (fun (s6, _) => [eBlk y1_1b0 67 [.slice y2_1A1 r2_1.2.L.length y2_1c1, .int .i64 r2_1.2.At], eS lGMutual 48 y2_1A0 r2_1.1.length y2_1c0 s6]) (fun (_, _) => [fV (lSlice (lInt .i64)) (.slice y2_1A1 r2_1.2.L.length y2_1c1) r2_1.2.L]) ?_ ?_
  · refine wc_seq ?_
    refine wc_region ?_   -- region 3
    refine wl_det rfl rfl (det_move rfl) rfl ?_
    refine wl_det rfl rfl (det_len rfl un36) rfl ?_
    refine wl_det rfl rfl (det_move rfl) rfl ?_
    refine wl_nil ?_
    refine pn_then ?_
    refine wc_block ?_
    obtain ⟨k10, hk10⟩ := loopV_some.1 h
    refine wc_loop (G := Nat × ((List GMutual) × Int) × Unit) (fun g => IterN (treatylaw38_InsolvencyQuota_l10 r2_1) g.1 g.2.1 q6) (fun g => g.1) (fun (_, s10, _) => [(3, .pointer (some ⟨y1_1b0, 0, none⟩)), (4, .slice y2_1A0 r2_1.1.length y2_1c0), (22, .int .i64 (r2_1.1.length : Int)), (23, .int .i64 s10.2)]) (fun (_, s10, _) => [eBlk y1_1b0 67 [.slice y2_1A1 r2_1.2.L.length y2_1c1, .int .i64 r2_1.2.At], eS lGMutual 48 y2_1A0 r2_1.1.length y2_1c0 s10.1]) (fun (_, _, _) => [fV (lSlice (lInt .i64)) (.slice y2_1A1 r2_1.2.L.length y2_1c1) r2_1.2.L]) (k10, (r2_1.1, 0), ()) hk10 ⟨rfl, rfl, rfl, rfl, trivial⟩ (fun _ h => h.to ⟨_, (rs r0), ⟨_, r0, trivial⟩⟩ ⟨m0, trivial⟩) ?_
    rintro ⟨k10, s10, _⟩ hI
    obtain ⟨k10, rfl, q10, h, g10⟩ := IterN.pos hI
    dsimp only at h ⊢
    unfold treatylaw38_InsolvencyQuota_l10 at h
    refine wc_seq ?_
    refine wc_region ?_   -- region 4
    refine wl_det rfl rfl (det_lss rfl rfl) rfl ?_
    refine wl_nil ?_
    refine pn_then ?_
    refine wc_seq ?_
    refine wc_cond rfl (fun c14 => ?_) (fun c14 => ?_)
    · have h := ifT h c14
      refine wc_skip ?_
      refine pn_then ?_
      refine wc_seq ?_
      refine wc_block ?_
      refine wc_seq ?_
      refine wc_region ?_   -- region 5
      refine wl_det rfl rfl (det_move rfl) rfl ?_
      refine wl_det rfl rfl (det_assign rfl) rfl ?_
      refine wl_nil ?_
      refine pn_then ?_
      obtain ⟨k6_p1, h⟩ := chk_some h
      obtain ⟨k6_p2, h⟩ := chk_some h
      refine wc_know (fun _ h => h.ixA (ms m0) k6_p1) (fun kx6_x3 => ?_)
      refine dx_regionZ (Z := St C [_] [_]) 19 [[], [], [], [], [], [], [4, 5], [4, 5, 6], [4, 5, 6, 7], [4, 5, 6, 7, 8], [], [], [10, 11], [10, 11, 12], [10, 11, 12, 13], [10, 11, 12, 13, 14], [0, 1, 4, 5, 6, 7, 8, 9, 10, 11, 12, 13, 14], [0, 1, 4, 5, 6, 7, 8, 9, 10, 11, 12, 13, 14, 16], [0, 1, 4, 5, 6, 7, 8, 9, 10, 11, 12, 13, 14, 16, 17], [0, 1, 2, 3, 4, 5, 6, 7, 8, 9, 10, 11, 12, 13, 14, 15, 16, 17, 18], [0, 1, 2, 3, 4, 5, 6, 7, 8, 9, 10, 11, 12, 13, 14, 15, 16, 17, 18, 19], [0, 1, 2, 3, 4, 5, 6, 7, 8, 9, 10, 11, 12, 13, 14, 15, 16, 17, 18, 19, 20]] mixed (ord := (.det 0 (.det 1 (.det 2 (.det 3 (.det 4 (.det 5 (.det 6 (.det 7 (.det 8 (.det 9 (.det 10 (.det 11 (.det 12 (.det 13 (.det 14 (.det 15 (.det 16 (.det 17 (.alt 18 .done .dead)))))))))))))))))))) (by kernel_rfl) (fun _ h => h.to ⟨_, r0, trivial⟩ ⟨m0, trivial⟩) ?_   -- region 6
      refine hx_det rfl rfl rfl nofun (det_move rfl) rfl ?_
      refine hx_det rfl rfl rfl nofun (det_move rfl) rfl ?_
      refine hx_det rfl rfl rfl nofun (det_move rfl) rfl ?_
      refine hx_det rfl rfl rfl nofun (det_move rfl) rfl ?_
      refine hx_det rfl rfl rfl nofun (det_move rfl) rfl ?_
      refine hx_det rfl rfl rfl nofun (det_move rfl) rfl ?_
      refine hx_det rfl rfl rfl nofun (det_indexV rfl rfl kx6_x3 un36 sz48) rfl ?_
      refine hx_now rfl rfl rfl nofun rfl (det_fieldO rfl (ms m0) k6_p1 fd48_1 rfl) rfl ?_
      refine hx_now rfl rfl rfl nofun rfl (det_loadO (off := 1) rfl (ms m0) k6_p1 (by rfl) (by rfl) (loaded_1 na3 us3)) rfl ?_
      refine hx_det rfl rfl rfl nofun (det_band rfl rfl) rfl ?_
      refine hx_det rfl rfl rfl nofun (det_move rfl) rfl ?_
      refine hx_det rfl rfl rfl nofun (det_move rfl) rfl ?_
      refine hx_det rfl rfl rfl nofun (det_indexV rfl rfl kx6_x3 un36 sz48) rfl ?_
      refine hx_now rfl rfl rfl nofun rfl (det_fieldO rfl (ms m0) k6_p1 fd48_2 rfl) rfl ?_
      refine hx_now rfl rfl rfl nofun rfl (det_loadO (off := 2) rfl (ms m0) k6_p1 (by rfl) (by rfl) (loaded_1 na3 us3)) rfl ?_
      refine hx_det rfl rfl rfl nofun (det_band rfl rfl) rfl ?_
      refine hx_det rfl rfl rfl nofun (det_indexV rfl rfl kx6_x3 un36 sz48) rfl ?_
      refine hx_now rfl rfl rfl nofun rfl (det_fieldO rfl (ms m0) k6_p1 fd48_1 rfl) rfl ?_
      refine hx_mut0 rfl rfl rfl (act_storeO (cells := [_]) (off := 1) (GMutual.mk (ix s10.1 s10.2).Party (bAnd .i64 (ix s10.1 s10.2).Owed 1048575) (ix s10.1 s10.2).Owes) rfl rfl rfl (ss s0) k6_p1 (by rfl) sz3 (by intro u hu; simp at hu; rcases hu with rfl <;> rfl) (stR_flat rfl rfl)) (by rintro _ _ _ ⟨rfl, rfl⟩ w hs; exact hs.to ⟨_, r0, trivial⟩ ⟨m0, trivial⟩) ?_
      rintro _ _ _ ⟨rfl, rfl⟩
      refine hx_end ?_
      refine wl_det rfl rfl (det_indexV rfl rfl kx6_x3 un36 sz48) rfl ?_
      refine wl_det rfl rfl (det_fieldO rfl (ms m0) k6_p2 fd48_2 rfl) rfl ?_
      refine wl_act0 (act_storeO (cells := [_]) (off := 2) (GMutual.mk (ix (upd s10.1 s10.2 (GMutual.mk (ix s10.1 s10.2).Party (bAnd .i64 (ix s10.1 s10.2).Owed 1048575) (ix s10.1 s10.2).Owes)) s10.2).Party (ix (upd s10.1 s10.2 (GMutual.mk (ix s10.1 s10.2).Party (bAnd .i64 (ix s10.1 s10.2).Owed 1048575) (ix s10.1 s10.2).Owes)) s10.2).Owed (bAnd .i64 (ix s10.1 s10.2).Owes 1048575)) rfl rfl rfl (ss s0) k6_p2 (by rfl) sz3 (by intro u hu; simp at hu; rcases hu with rfl <;> rfl) (stR_flat rfl rfl)) rfl rfl ?_
      rintro _ _ _ ⟨rfl, rfl⟩
      refine wl_nil ?_
      refine pn_block ?_
      refine pn_then ?_
      refine wc_region ?_   -- region 7
      refine wl_det rfl rfl (det_add rfl rfl) rfl ?_
      refine wl_det rfl rfl (det_move rfl) rfl ?_
      refine wl_nil ?_
      replace h := Option.some.inj h
      subst h
      exact pn_some (k10, ((upd (upd s10.1 s10.2 (GMutual.mk (ix s10.1 s10.2).Party (bAnd .i64 (ix s10.1 s10.2).Owed 1048575) (ix s10.1 s10.2).Owes)) s10.2 (GMutual.mk (ix (upd s10.1 s10.2 (GMutual.mk (ix s10.1 s10.2).Party (bAnd .i64 (ix s10.1 s10.2).Owed 1048575) (ix s10.1 s10.2).Owes)) s10.2).Party (ix (upd s10.1 s10.2 (GMutual.mk (ix s10.1 s10.2).Party (bAnd .i64 (ix s10.1 s10.2).Owed 1048575) (ix s10.1 s10.2).Owes)) s10.2).Owed (bAnd .i64 (ix s10.1 s10.2).Owes 1048575))), (w64 (s10.2 + 1))), ()) ⟨nextL g10, Nat.lt_succ_self _⟩ ⟨rfl, rfl, rfl, rfl, trivial⟩ (fun _ h => h.to ⟨_, r0, ⟨_, r0, trivial⟩⟩ ⟨m0, trivial⟩)
    · have h := ifF h c14
      refine wc_exit ?_
      refine px_then ?_
      refine px_then ?_
      refine px_block ?_
      replace h := Option.some.inj h
      subst h
      replace g10 := nextR g10
      subst g10
      exact pn_meetG (s10.1, ()) rfl ⟨rfl, rfl, trivial⟩ (fun _ h => h.to ⟨_, r0, ⟨_, r0, trivial⟩⟩ ⟨m0, trivial⟩)
  rintro ⟨s6, _⟩ e6
  dsimp only at e6 ⊢
  subst e6
  have h := ho6
  refine wc_seq ?_
  refine wc_region ?_   -- region 8
  refine wl_det rfl rfl (det_move rfl) rfl ?_
  obtain ⟨r8_1, hr8_1, h⟩ := bind_some h
  refine wl_act (act_callS (cap := []) (W_treatymade2_Small r2_1.2 y1_1b0 y2_1A1 r2_1.2.L.length y2_1c1 r8_1 hr8_1) rfl rfl rfl bd26 ⟨_, r0, rfl⟩ ⟨m0, trivial⟩) rfl rfl rfl ?_
  rintro _ _ _ ⟨_, _, ⟨y8_1A0, y8_1n0, y8_1c0, rfl, rfl, rfl⟩, rfl, rfl⟩
  dsimp only [List.nil_append, List.cons_append]
  refine wl_know (fun _ h => h.lenF m0) (fun e => ?_)
  subst e
  refine wl_det rfl rfl (det_band rfl rfl) rfl ?_
  refine wl_det rfl rfl (det_assign rfl) rfl ?_
  refine wl_nil ?_
  refine pn_then ?_
  refine wc_seq ?_
  refine wc_region ?_   -- region 9
  refine wl_det rfl rfl (det_move rfl) rfl ?_
  refine wl_det rfl rfl (det_move rfl) rfl ?_
  obtain ⟨r9_2, hr9_2, h⟩ := bind_some h
  refine wl_act (act_callL (cap := []) [eS lGMutual 48 y2_1A0 r2_1.1.length y2_1c0 s6] (W_insolvency_Distribute (bAnd .i64 r8_1.1 1048575) s6 y2_1A0 r2_1.1.length y2_1c0 r9_2 hr9_2) plains_insolvency_Distribute rfl rfl rfl bd27 rfl ⟨(ms m0), trivial⟩ ⟨.inr ⟨_, m0, lent_eS⟩, trivial⟩) rfl rfl rfl ?_
  rintro _ _ _ ⟨_, _, ⟨y9_2A0, y9_2n0, y9_2c0, rfl, rfl, rfl⟩, rfl, rfl⟩
  dsimp only [List.nil_append, List.cons_append]
  refine wl_know (fun _ h => h.lenO m0) (fun e => ?_)
  subst e
  refine wl_det rfl rfl (det_move rfl) rfl ?_
  refine wl_det rfl rfl (det_extract rfl rfl) rfl ?_
  refine wl_det rfl rfl (det_extract rfl rfl) rfl ?_
  refine wl_det rfl rfl (det_extract rfl rfl) rfl ?_
  refine wl_det rfl rfl (det_assign rfl) rfl ?_
  refine wl_det rfl rfl (det_assign rfl) rfl ?_
  refine wl_det rfl rfl (det_assign rfl) rfl ?_
  refine wl_nil ?_
  refine pn_then ?_
  refine wc_seq ?_
  refine wc_seq ?_
  refine wc_region ?_   -- region 10
  refine wl_det rfl rfl (det_move rfl) rfl ?_
  refine wl_det rfl rfl (det_neq rfl rfl) rfl ?_
  refine wl_det rfl rfl (det_move rfl) rfl ?_
  refine wl_way (!decide (r9_2.2.2 = 0)) ((!decide (r9_2.2.2 = 0)) || (!decide ((r9_2.1.length : Int) = (r2_1.1.length : Int)))) 6 65 (fun hg => ?_) (fun hg => ?_) ?_
  · have hg10_8 := hg
    refine wl_off rfl rfl rfl rfl rfl hg10_8 rfl ?_
    refine wl_off rfl rfl rfl rfl rfl hg10_8 rfl ?_
    refine wl_off rfl rfl rfl rfl rfl hg10_8 rfl ?_
    refine wl_off rfl rfl rfl rfl rfl hg10_8 rfl ?_
    refine wl_off rfl rfl rfl rfl rfl hg10_8 rfl ?_
    refine wl_det rfl rfl (det_or_on (r := (!decide ((r9_2.1.length : Int) = (r2_1.1.length : Int)))) rfl rfl rfl hg10_8) rfl ?_
    exact wl_nil (pn_qnE (ext_cons rfl (ext_skip rfl (ext_skip rfl (ext_skip rfl (ext_skip rfl (ext_skip rfl (ext_skip rfl ext_refl))))))) (fun _ h => h))
  · have hg10_8a := hg
    refine wl_on rfl rfl rfl rfl hg10_8a ?_
    refine wl_det rfl rfl (det_move rfl) rfl ?_
    refine wl_on rfl rfl rfl rfl hg10_8a ?_
    refine wl_det rfl rfl (det_len rfl un39) rfl ?_
    refine wl_on rfl rfl rfl rfl hg10_8a ?_
    refine wl_det rfl rfl (det_move rfl) rfl ?_
    refine wl_on rfl rfl rfl rfl hg10_8a ?_
    refine wl_det rfl rfl (det_len rfl un36) rfl ?_
    refine wl_on rfl rfl rfl rfl hg10_8a ?_
    refine wl_det rfl rfl (det_neq rfl rfl) rfl ?_
    refine wl_det rfl rfl (det_or_off rfl rfl rfl hg10_8a) rfl ?_
    exact wl_nil (pn_qnE (ext_cons rfl (ext_skip rfl (ext_skip rfl (ext_skip rfl (ext_skip rfl (ext_skip rfl (ext_skip rfl ext_refl))))))) (fun _ h => h))
  refine wl_nil ?_
  refine pn_then ?_
  refine wc_cond rfl (fun c29 => ?_) (fun c29 => ?_)
  · have h := ifT h c29
    refine wc_seq ?_
    refine wc_region ?_   -- region 11
    refine wl_det rfl rfl (det_assign rfl) rfl ?_
    refine wl_nil ?_
    refine pn_then ?_
    refine wc_ret ?_
    refine pr_then ?_
    replace h := Option.some.inj h
    subst h
    refine pn_ret (vs := [_]) rfl ⟨rfl, trivial⟩ ⟨rfl, rfl, rfl⟩ (fun _ h => h.to trivial trivial)
  · have h := ifF h c29
    refine wc_skip ?_
    refine pn_then ?_
    refine wc_seq ?_
    refine wc_region ?_   -- region 12
    refine wl_det rfl rfl (det_move rfl) rfl ?_
    refine wl_det rfl rfl (det_assign rfl) rfl ?_
    refine wl_det rfl rfl (det_assign rfl) rfl ?_
    refine wl_nil ?_
    refine pn_then ?_
    obtain ⟨q34, h, ho34⟩ := bind_some h
    refine wc_meetG (G := (Int × Int) × Unit) (fun (s34, _) => s34 = q34) (fun (s34, _) => [(7, .slice y9_2A0 r9_2.1.length y9_2c0), (8, .int .i64 r9_2.2.1), (10, .int .i64 s34.1), (11, .int .i64 s34.2)]) (fun (_, _) => [eS lGDividend 46 y9_2A0 r9_2.1.length y9_2c0 r9_2.1]) (fun (_, _) => []) ?_ ?_
    · refine wc_seq ?_
      refine wc_region ?_   -- region 13
      refine wl_det rfl rfl (det_move rfl) rfl ?_
      refine wl_det rfl rfl (det_len rfl un39) rfl ?_
      refine wl_det rfl rfl (det_move rfl) rfl ?_
      refine wl_nil ?_
      refine pn_then ?_
      refine wc_block ?_
      obtain ⟨k38, hk38⟩ := loopV_some.1 h
      refine wc_loop (G := Nat × (Int × Int × Int) × Unit) (fun g => IterN (treatylaw38_InsolvencyQuota_l38 r9_2) g.1 g.2.1 q34) (fun g => g.1) (fun (_, s38, _) => [(7, .slice y9_2A0 r9_2.1.length y9_2c0), (8, .int .i64 r9_2.2.1), (10, .int .i64 s38.1), (11, .int .i64 s38.2.1), (67, .slice y9_2A0 r9_2.1.length y9_2c0), (68, .int .i64 (r9_2.1.length : Int)), (69, .int .i64 s38.2.2)]) (fun (_, _, _) => [eS lGDividend 46 y9_2A0 r9_2.1.length y9_2c0 r9_2.1]) (fun (_, _, _) => []) (k38, ((bAnd .i64 r8_1.1 1048575), 0, 0), ()) hk38 ⟨rfl, rfl, rfl, rfl, rfl, rfl, rfl, trivial⟩ (fun _ h => h.to ⟨_, r0, trivial⟩ trivial) ?_
      rintro ⟨k38, s38, _⟩ hI
      obtain ⟨k38, rfl, q38, h, g38⟩ := IterN.pos hI
      dsimp only at h ⊢
      unfold treatylaw38_InsolvencyQuota_l38 at h
      refine wc_seq ?_
      refine wc_region ?_   -- region 14
      refine wl_det rfl rfl (det_lss rfl rfl) rfl ?_
      refine wl_nil ?_
      refine pn_then ?_
      refine wc_seq ?_
      refine wc_cond rfl (fun c42 => ?_) (fun c42 => ?_)
      · have h := ifT h c42
        refine wc_skip ?_
        refine pn_then ?_
        refine wc_seq ?_
        refine wc_block ?_
        refine wc_seq ?_
        refine wc_region ?_   -- region 15
        obtain ⟨k15_0, h⟩ := chk_some h
        refine wl_det rfl rfl (det_indexO rfl rfl m0 k15_0 un39 sz46) rfl ?_
        refine wl_det rfl rfl (det_loadO (off := 0) rfl m0 k15_0 (by rfl) (by rfl) (loaded_n (cells := [_, _, _, _, _]) ag46 sz46)) rfl ?_
        refine wl_act (act_alloc (cs := [_, _, _, _, _]) zr46 rfl) rfl rfl rfl ?_
        rintro _ _ _ ⟨b15_2, rfl, rfl, rfl⟩
        refine wl_act0 (act_store (cells := [_, _, _, _, _]) (cs' := [_, _, _, _, _]) rfl rfl rfl s0 (by rfl) (of_decide_eq_true rfl) sz46 ⟨rfl, rfl, rfl, rfl, rfl, trivial⟩) rfl rfl ?_
        rintro _ _ _ ⟨rfl, rfl⟩
        refine wl_nil ?_
        refine pn_then ?_
        refine wc_seq ?_
        refine wc_region ?_   -- region 16
        refine wl_det rfl rfl (det_move rfl) rfl ?_
        refine wl_det rfl rfl (det_field rfl fd46_3 rfl) rfl ?_
        refine wl_det rfl rfl (det_load rfl m0 (by rfl) na3 us3) rfl ?_
        refine wl_det rfl rfl (det_add rfl rfl) rfl ?_
        refine wl_det rfl rfl (det_assign rfl) rfl ?_
        refine wl_nil ?_
        refine pn_then ?_
        refine wc_region ?_   -- region 17
        refine wl_det rfl rfl (det_move rfl) rfl ?_
        refine wl_det rfl rfl (det_field rfl fd46_2 rfl) rfl ?_
        refine wl_det rfl rfl (det_load rfl m0 (by rfl) na3 us3) rfl ?_
        refine wl_det rfl rfl (det_field rfl fd46_4 rfl) rfl ?_
        refine wl_det rfl rfl (det_load rfl m0 (by rfl) na3 us3) rfl ?_
        refine wl_det rfl rfl (det_add rfl rfl) rfl ?_
        refine wl_det rfl rfl (det_add rfl rfl) rfl ?_
        refine wl_det rfl rfl (det_assign rfl) rfl ?_
        refine wl_nil ?_
        refine pn_block ?_
        refine pn_then ?_
        refine wc_region ?_   -- region 18
        refine wl_det rfl rfl (det_add rfl rfl) rfl ?_
        refine wl_det rfl rfl (det_move rfl) rfl ?_
        refine wl_nil ?_
        replace h := Option.some.inj h
        subst h
        exact pn_some (k38, ((w64 (s38.1 + (ix r9_2.1 s38.2.2).Pays)), (w64 (s38.2.1 + (w64 ((ix r9_2.1 s38.2.2).Gets + (ix r9_2.1 s38.2.2).Unpaid)))), (w64 (s38.2.2 + 1))), ()) ⟨nextL g38, Nat.lt_succ_self _⟩ ⟨rfl, rfl, rfl, rfl, rfl, rfl, rfl, trivial⟩ (fun _ h => h.to ⟨_, (rs r0), trivial⟩ trivial)
      · have h := ifF h c42
        refine wc_exit ?_
        refine px_then ?_
        refine px_then ?_
        refine px_block ?_
        replace h := Option.some.inj h
        subst h
        replace g38 := nextR g38
        subst g38
        exact pn_meetG ((s38.1, s38.2.1), ()) rfl ⟨rfl, rfl, rfl, rfl, trivial⟩ (fun _ h => h.to ⟨_, r0, trivial⟩ trivial)
    rintro ⟨s34, _⟩ e34
    dsimp only at e34 ⊢
    subst e34
    have h := ho34
    refine wc_seq ?_
    refine wc_seq ?_
    refine wc_region ?_   -- region 19
    refine wl_det rfl rfl (det_move rfl) rfl ?_
    refine wl_det rfl rfl (det_gtr rfl rfl) rfl ?_
    refine wl_det rfl rfl (det_move rfl) rfl ?_
    refine wl_way (decide (0 < r9_2.2.1)) ((decide (0 < r9_2.2.1)) || (decide (s34.2 = 0))) 3 90 (fun hg => ?_) (fun hg => ?_) ?_
    · have hg19_5 := hg
      refine wl_off rfl rfl rfl rfl rfl hg19_5 rfl ?_
      refine wl_off rfl rfl rfl rfl rfl hg19_5 rfl ?_
      refine wl_det rfl rfl (det_or_on (r := (decide (s34.2 = 0))) rfl rfl rfl hg19_5) rfl ?_
      exact wl_nil (pn_qnE (ext_cons rfl (ext_skip rfl (ext_skip rfl (ext_skip rfl ext_refl)))) (fun _ h => h))
    · have hg19_5a := hg
      refine wl_on rfl rfl rfl rfl hg19_5a ?_
      refine wl_det rfl rfl (det_move rfl) rfl ?_
      refine wl_on rfl rfl rfl rfl hg19_5a ?_
      refine wl_det rfl rfl (det_eql rfl rfl) rfl ?_
      refine wl_det rfl rfl (det_or_off rfl rfl rfl hg19_5a) rfl ?_
      exact wl_nil (pn_qnE (ext_cons rfl (ext_skip rfl (ext_skip rfl (ext_skip rfl ext_refl)))) (fun _ h => h))
    refine wl_nil ?_
    refine pn_then ?_
    refine wc_cond rfl (fun c55 => ?_) (fun c55 => ?_)
    · have h := ifT h c55
      refine wc_seq ?_
      refine wc_region ?_   -- region 20
      obtain ⟨r20_0, hr20_0, h⟩ := bind_some h
      refine wl_act (act_callS (cap := []) (W_treatylaw38_awake r20_0 hr20_0) rfl rfl rfl bd23 rfl trivial) rfl rfl rfl ?_
      rintro _ _ _ ⟨_, _, ⟨rfl, rfl, rfl⟩, rfl, rfl⟩
      dsimp only [List.nil_append, List.cons_append]
      refine wl_det rfl rfl (det_assign rfl) rfl ?_
      refine wl_nil ?_
      refine pn_then ?_
      refine wc_ret ?_
      refine pr_then ?_
      replace h := Option.some.inj h
      subst h
      refine pn_ret (vs := [_]) rfl ⟨rfl, trivial⟩ ⟨rfl, rfl, rfl⟩ (fun _ h => h.to trivial trivial)
    · have h := ifF h c55
      refine wc_skip ?_
      refine pn_then ?_
      obtain ⟨q58, h, ho58⟩ := bind_some h
      refine wc_meetG (G := Unit × Unit) (fun (s58, _) => (.inl s58) = q58) (fun (_, _) => []) (fun (_, _) => []) (fun (_, _) => []) ?_ ?_
      · refine wc_seq ?_
        refine wc_region ?_   -- region 21
        refine wl_det rfl rfl (det_move rfl) rfl ?_
        refine wl_det rfl rfl (det_len rfl un39) rfl ?_
        refine wl_det rfl rfl (det_move rfl) rfl ?_
        refine wl_nil ?_
        refine pn_then ?_
        refine wc_block ?_
        obtain ⟨o62, h, ho62⟩ := bind_some h
        obtain ⟨k62, hk62⟩ := loopV_some.1 h
        refine wc_loop (G := Nat × Int × Unit) (fun g => IterN (treatylaw38_InsolvencyQuota_l62 r9_2 s34) g.1 g.2.1 o62) (fun g => g.1) (fun (_, s62, _) => [(10, .int .i64 s34.1), (11, .int .i64 s34.2), (92, .slice y9_2A0 r9_2.1.length y9_2c0), (93, .int .i64 (r9_2.1.length : Int)), (94, .int .i64 s62)]) (fun (_, _, _) => [eS lGDividend 46 y9_2A0 r9_2.1.length y9_2c0 r9_2.1]) (fun (_, _, _) => []) (k62, 0, ()) hk62 ⟨rfl, rfl, rfl, rfl, rfl, trivial⟩ (fun _ h => h.to ⟨_, r0, trivial⟩ trivial) ?_
        rintro ⟨k62, s62, _⟩ hI
        obtain ⟨k62, rfl, q62, h, g62⟩ := IterN.pos hI
        dsimp only at h ⊢
        unfold treatylaw38_InsolvencyQuota_l62 at h
        refine wc_seq ?_
        refine wc_region ?_   -- region 22
        refine wl_det rfl rfl (det_lss rfl rfl) rfl ?_
        refine wl_nil ?_
        refine pn_then ?_
        refine wc_seq ?_
        refine wc_cond rfl (fun c66 => ?_) (fun c66 => ?_)
        · have h := ifT h c66
          refine wc_skip ?_
          refine pn_then ?_
          refine wc_seq ?_
          refine wc_block ?_
          refine wc_seq ?_
          refine wc_region ?_   -- region 23
          obtain ⟨k23_0, h⟩ := chk_some h
          refine wl_det rfl rfl (det_indexO rfl rfl m0 k23_0 un39 sz46) rfl ?_
          refine wl_det rfl rfl (det_loadO (off := 0) rfl m0 k23_0 (by rfl) (by rfl) (loaded_n (cells := [_, _, _, _, _]) ag46 sz46)) rfl ?_
          refine wl_act (act_alloc (cs := [_, _, _, _, _]) zr46 rfl) rfl rfl rfl ?_
          rintro _ _ _ ⟨b23_2, rfl, rfl, rfl⟩
          refine wl_act0 (act_store (cells := [_, _, _, _, _]) (cs' := [_, _, _, _, _]) rfl rfl rfl s0 (by rfl) (of_decide_eq_true rfl) sz46 ⟨rfl, rfl, rfl, rfl, rfl, trivial⟩) rfl rfl ?_
          rintro _ _ _ ⟨rfl, rfl⟩
          refine wl_nil ?_
          refine pn_then ?_
          refine wc_seq ?_
          refine wc_region ?_   -- region 24
          refine wl_det rfl rfl (det_field rfl fd46_2 rfl) rfl ?_
          refine wl_det rfl rfl (det_load rfl m0 (by rfl) na3 us3) rfl ?_
          refine wl_det rfl rfl (det_field rfl fd46_4 rfl) rfl ?_
          refine wl_det rfl rfl (det_load rfl m0 (by rfl) na3 us3) rfl ?_
          refine wl_det rfl rfl (det_add rfl rfl) rfl ?_
          refine wl_det rfl rfl (det_move rfl) rfl ?_
          refine wl_det rfl rfl (det_mul rfl rfl) rfl ?_
          refine wl_det rfl rfl (det_field rfl fd46_2 rfl) rfl ?_
          refine wl_det rfl rfl (det_load rfl m0 (by rfl) na3 us3) rfl ?_
          refine wl_det rfl rfl (det_move rfl) rfl ?_
          refine wl_det rfl rfl (det_mul rfl rfl) rfl ?_
          refine wl_det rfl rfl (det_sub rfl rfl) rfl ?_
          refine wl_det rfl rfl (det_assign rfl) rfl ?_
          refine wl_nil ?_
          refine pn_then ?_
          refine wc_seq ?_
          refine wc_region ?_   -- region 25
          refine wl_det rfl rfl (det_move rfl) rfl ?_
          refine wl_det rfl rfl (det_move rfl) rfl ?_
          refine wl_det rfl rfl (det_geq rfl rfl) rfl ?_
          refine wl_det rfl rfl (det_move rfl) rfl ?_
          refine wl_way (decide (s34.2 ≤ (w64 ((w64 ((w64 ((ix r9_2.1 s62).Gets + (ix r9_2.1 s62).Unpaid)) * s34.1)) - (w64 ((ix r9_2.1 s62).Gets * s34.2)))))) ((decide (s34.2 ≤ (w64 ((w64 ((w64 ((ix r9_2.1 s62).Gets + (ix r9_2.1 s62).Unpaid)) * s34.1)) - (w64 ((ix r9_2.1 s62).Gets * s34.2)))))) || (decide (s34.2 ≤ (w64 (0 - (w64 ((w64 ((w64 ((ix r9_2.1 s62).Gets + (ix r9_2.1 s62).Unpaid)) * s34.1)) - (w64 ((ix r9_2.1 s62).Gets * s34.2))))))))) 5 118 (fun hg => ?_) (fun hg => ?_) ?_
          · have hg25_8 := hg
            refine wl_off rfl rfl rfl rfl rfl hg25_8 rfl ?_
            refine wl_off rfl rfl rfl rfl rfl hg25_8 rfl ?_
            refine wl_off rfl rfl rfl rfl rfl hg25_8 rfl ?_
            refine wl_off rfl rfl rfl rfl rfl hg25_8 rfl ?_
            refine wl_det rfl rfl (det_or_on (r := (decide (s34.2 ≤ (w64 (0 - (w64 ((w64 ((w64 ((ix r9_2.1 s62).Gets + (ix r9_2.1 s62).Unpaid)) * s34.1)) - (w64 ((ix r9_2.1 s62).Gets * s34.2))))))))) rfl rfl rfl hg25_8) rfl ?_
            exact wl_nil (pn_qnE (ext_cons rfl (ext_skip rfl (ext_skip rfl (ext_skip rfl (ext_skip rfl (ext_skip rfl ext_refl)))))) (fun _ h => h))
          · have hg25_8a := hg
            refine wl_on rfl rfl rfl rfl hg25_8a ?_
            refine wl_det rfl rfl (det_move rfl) rfl ?_
            refine wl_on rfl rfl rfl rfl hg25_8a ?_
            refine wl_det rfl rfl (det_neg rfl) rfl ?_
            refine wl_on rfl rfl rfl rfl hg25_8a ?_
            refine wl_det rfl rfl (det_move rfl) rfl ?_
            refine wl_on rfl rfl rfl rfl hg25_8a ?_
            refine wl_det rfl rfl (det_geq rfl rfl) rfl ?_
            refine wl_det rfl rfl (det_or_off rfl rfl rfl hg25_8a) rfl ?_
            exact wl_nil (pn_qnE (ext_cons rfl (ext_skip rfl (ext_skip rfl (ext_skip rfl (ext_skip rfl (ext_skip rfl ext_refl)))))) (fun _ h => h))
          refine wl_nil ?_
          refine pn_then ?_
          refine wc_cond rfl (fun c76 => ?_) (fun c76 => ?_)
          · have h := ifT h c76
            refine wc_seq ?_
            refine wc_region ?_   -- region 26
            refine wl_det rfl rfl (det_assign rfl) rfl ?_
            refine wl_nil ?_
            refine pn_then ?_
            refine wc_ret ?_
            refine pr_block ?_
            refine pr_then ?_
            refine pr_then ?_
            refine pr_block ?_
            refine pr_then ?_
            replace h := Option.some.inj h
            subst h
            replace g62 := nextR g62
            subst g62
            have h := (elimL ho62)
            replace h := Option.some.inj h
            subst h
            have h := (elimR ho58)
            replace h := Option.some.inj h
            subst h
            refine pn_ret (vs := [_]) rfl ⟨rfl, trivial⟩ ⟨rfl, rfl, rfl⟩ (fun _ h => h.to trivial trivial)
          · have h := ifF h c76
            refine wc_skip ?_
            refine pn_block ?_
            refine pn_then ?_
            refine wc_region ?_   -- region 27
            refine wl_det rfl rfl (det_add rfl rfl) rfl ?_
            refine wl_det rfl rfl (det_move rfl) rfl ?_
            refine wl_nil ?_
            replace h := Option.some.inj h
            subst h
            exact pn_some (k62, (w64 (s62 + 1)), ()) ⟨nextL g62, Nat.lt_succ_self _⟩ ⟨rfl, rfl, rfl, rfl, rfl, trivial⟩ (fun _ h => h.to ⟨_, (rs r0), trivial⟩ trivial)
        · have h := ifF h c66
          refine wc_exit ?_
          refine px_then ?_
          refine px_then ?_
          refine px_block ?_
          replace h := Option.some.inj h
          subst h
          replace g62 := nextR g62
          subst g62
          have h := (elimR ho62)
          replace h := Option.some.inj h
          subst h
          exact pn_meetG ((), ()) rfl trivial (fun _ h => h.to trivial trivial)
      rintro ⟨s58, _⟩ e58
      dsimp only at e58 ⊢
      subst e58
      have h := (elimL ho58)
      refine wc_seq ?_
      refine wc_region ?_   -- region 28
      obtain ⟨r28_0, hr28_0, h⟩ := bind_some h
      refine wl_act (act_callS (cap := []) (W_treatylaw38_awake r28_0 hr28_0) rfl rfl rfl bd23 rfl trivial) rfl rfl rfl ?_
      rintro _ _ _ ⟨_, _, ⟨rfl, rfl, rfl⟩, rfl, rfl⟩
      dsimp only [List.nil_append, List.cons_append]
      refine wl_det rfl rfl (det_assign rfl) rfl ?_
      refine wl_nil ?_
      refine pn_then ?_
      refine wc_ret ?_
      replace h := Option.some.inj h
      subst h
      refine pn_ret (vs := [_]) rfl ⟨rfl, trivial⟩ ⟨rfl, rfl, rfl⟩ (fun _ h => h.to trivial trivial)
end Go.Proofs.Ytoodneljjhbfhaa
