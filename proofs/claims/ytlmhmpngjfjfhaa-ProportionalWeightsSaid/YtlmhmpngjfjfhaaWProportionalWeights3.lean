/- That functions of the program compute the plain programs of P. Written by a small program. -/
import Derived.Test.YtlmhmpngjfjfhaaWProportionalWeights2
namespace Go.Proofs.Ytlmhmpngjfjfhaa
open Go.RowKit
def Q_cmp_Or_int (r : Int) : Value → List Ent → List Fact → Prop := fun v θ κ => v = .int .i64 r ∧ θ = [] ∧ κ = []
theorem plains_cmp_Or_int {r : Int} : ∀ v θ κ, Q_cmp_Or_int r v θ κ → Plains θ := by
  rintro _ _ _ ⟨rfl, rfl, rfl⟩
  exact trivial
set_option maxHeartbeats 4000000 in
set_option maxRecDepth 100000 in
theorem W_cmp_Or_int (a0 : (List Int)) (A0 : Option Addr) (n0 : Nat) (c0 : Nat) (r : Int) (h : cmp_Or_int a0 = some r) : Spec Try.prog 83 [.slice A0 n0 c0] [] [fV (lSlice (lInt .i64)) (.slice A0 n0 c0) a0] (Q_cmp_Or_int r) := by
  unfold cmp_Or_int at h
  refine spec_of (σ := [(0, _)]) Try.func83 rfl rfl rfl rfl ?_
  intro C
  refine wc_know (fun _ h => h.lenF m0) (fun e => ?_)
  subst e
  refine wc_seq ?_
  refine wc_region ?_   -- region 0
  refine wl_det rfl rfl (det_assign rfl) rfl ?_
  refine wl_nil ?_
  refine pn_then ?_
  refine wc_seq ?_
  refine wc_region ?_   -- region 1
  refine wl_det rfl rfl (det_assign rfl) rfl ?_
  refine wl_nil ?_
  refine pn_then ?_
  obtain ⟨q4, h, ho4⟩ := bind_some h
  refine wc_meetG (G := Unit × Unit) (fun (s4, _) => (.inl s4) = q4) (fun (_, _) => [(3, .int .i64 0)]) (fun (_, _) => []) (fun (_, _) => []) ?_ ?_
  · refine wc_seq ?_
    refine wc_region ?_   -- region 2
    refine wl_det rfl rfl (det_move rfl) rfl ?_
    refine wl_det rfl rfl (det_len rfl un23) rfl ?_
    refine wl_det rfl rfl (det_move rfl) rfl ?_
    refine wl_nil ?_
    refine pn_then ?_
    refine wc_block ?_
    obtain ⟨o8, h, ho8⟩ := bind_some h
    obtain ⟨k8, hk8⟩ := loopV_some.1 h
    refine wc_loop (G := Nat × Int × Unit) (fun g => IterN (cmp_Or_int_l8 a0) g.1 g.2.1 o8) (fun g => g.1) (fun (_, s8, _) => [(3, .int .i64 0), (6, .slice A0 a0.length c0), (7, .int .i64 (a0.length : Int)), (8, .int .i64 s8)]) (fun (_, _, _) => []) (fun (_, _, _) => [fV (lSlice (lInt .i64)) (.slice A0 a0.length c0) a0]) (k8, 0, ()) hk8 ⟨rfl, rfl, rfl, rfl, trivial⟩ (fun _ h => h.to trivial ⟨m0, trivial⟩) ?_
    rintro ⟨k8, s8, _⟩ hI
    obtain ⟨k8, rfl, q8, h, g8⟩ := IterN.pos hI
    dsimp only at h ⊢
    unfold cmp_Or_int_l8 at h
    refine wc_seq ?_
    refine wc_region ?_   -- region 3
    refine wl_det rfl rfl (det_lss rfl rfl) rfl ?_
    refine wl_nil ?_
    refine pn_then ?_
    refine wc_seq ?_
    refine wc_cond rfl (fun cd12 => ?_) (fun cd12 => ?_)
    · have h := ifT h cd12
      refine wc_skip ?_
      refine pn_then ?_
      refine wc_seq ?_
      refine wc_block ?_
      refine wc_seq ?_
      refine wc_region ?_   -- region 4
      obtain ⟨k4_0, h⟩ := chk_some h
      refine wl_st (fun _ h => h.openF m0 k4_0) ?_
      refine wl_det rfl rfl (det_indexP rfl rfl (ms m0) k4_0 m0 un23 sz3) rfl ?_
      refine wl_det rfl rfl (det_loadP (off := 0) rfl m0 (by rfl) (by rfl) (loaded_1 na3 us3)) rfl ?_
      refine wl_det rfl rfl (det_assign rfl) rfl ?_
      refine wl_nil ?_
      refine pn_then ?_
      refine wc_seq ?_
      refine wc_region ?_   -- region 5
      refine wl_det rfl rfl (det_move rfl) rfl ?_
      refine wl_det rfl rfl (det_move rfl) rfl ?_
      refine wl_det rfl rfl (det_neq rfl rfl) rfl ?_
      refine wl_nil ?_
      refine pn_then ?_
      refine wc_cond rfl (fun cd20 => ?_) (fun cd20 => ?_)
      · have h := ifT h cd20
        refine wc_seq ?_
        refine wc_region ?_   -- region 6
        refine wl_det rfl rfl (det_move rfl) rfl ?_
        refine wl_det rfl rfl (det_assign rfl) rfl ?_
        refine wl_nil ?_
        refine pn_then ?_
        refine wc_ret ?_
        refine pr_block ?_
        refine pr_then ?_
        refine pr_then ?_
        refine pr_block ?_
        refine pr_then ?_
        replace h := Option.some.inj h
        subst h
        replace g8 := nextR g8
        subst g8
        have h := (elimL ho8)
        replace h := Option.some.inj h
        subst h
        have h := (elimR ho4)
        replace h := Option.some.inj h
        subst h
        refine pn_ret (vs := [_]) rfl ⟨rfl, trivial⟩ ⟨rfl, rfl, rfl⟩ (fun _ h => h.to trivial trivial)
      · have h := ifF h cd20
        refine wc_skip ?_
        refine pn_block ?_
        refine pn_then ?_
        refine wc_region ?_   -- region 7
        refine wl_det rfl rfl (det_add rfl rfl) rfl ?_
        refine wl_det rfl rfl (det_move rfl) rfl ?_
        refine wl_nil ?_
        replace h := Option.some.inj h
        subst h
        exact pn_some (k8, (w64 (s8 + 1)), ()) ⟨nextL g8, Nat.lt_succ_self _⟩ ⟨rfl, rfl, rfl, rfl, trivial⟩ (fun _ h => h.to trivial ⟨(ms m0), trivial⟩)
    · have h := ifF h cd12
      refine wc_exit ?_
      refine px_then ?_
      refine px_then ?_
      refine px_block ?_
      replace h := Option.some.inj h
      subst h
      replace g8 := nextR g8
      subst g8
      have h := (elimR ho8)
      replace h := Option.some.inj h
      subst h
      exact pn_meetG ((), ()) rfl ⟨rfl, trivial⟩ (fun _ h => h.to trivial trivial)
  rintro ⟨s4, _⟩ e4
  dsimp only at e4 ⊢
  subst e4
  have h := (elimL ho4)
  refine wc_seq ?_
  refine wc_region ?_   -- region 8
  refine wl_det rfl rfl (det_move rfl) rfl ?_
  refine wl_det rfl rfl (det_assign rfl) rfl ?_
  refine wl_nil ?_
  refine pn_then ?_
  refine wc_ret ?_
  replace h := Option.some.inj h
  subst h
  refine pn_ret (vs := [_]) rfl ⟨rfl, trivial⟩ ⟨rfl, rfl, rfl⟩ (fun _ h => h.to trivial trivial)
def Q_split_divide_c1 (Ba2 : Nat) (A1 : Option Addr) (n1 : Nat) (c1 : Nat) (r : Int) : Value → List Ent → List Fact → Prop := fun v θ κ => v = .int .i64 r ∧ θ = [eBlk Ba2 99 [.slice A1 n1 c1]] ∧ κ = []
theorem plains_split_divide_c1 {Ba2 : Nat} {A1 : Option Addr} {n1 : Nat} {c1 : Nat} {r : Int} : ∀ v θ κ, Q_split_divide_c1 Ba2 A1 n1 c1 r v θ κ → Plains θ := by
  rintro _ _ _ ⟨rfl, rfl, rfl⟩
  exact ⟨plain_eBlk, trivial⟩
set_option maxHeartbeats 4000000 in
set_option maxRecDepth 100000 in
theorem W_split_divide_c1 (a0 : Int) (a1 : Int) (a2 : (List Int)) (Ba2 : Nat) (A1 : Option Addr) (n1 : Nat) (c1 : Nat) (r : Int) (h : split_divide_c1 a0 a1 a2 = some r) : Spec Try.prog 82 [.int .i64 a0, .int .i64 a1, .pointer (some ⟨Ba2, 0, none⟩)] [eBlk Ba2 99 [.slice A1 n1 c1]] [fV (lSlice (lInt .u64)) (.slice A1 n1 c1) a2] (Q_split_divide_c1 Ba2 A1 n1 c1 r) := by
  unfold split_divide_c1 at h
  refine spec_of (σ := [(0, _), (1, _), (2, _)]) Try.func82 rfl rfl rfl rfl ?_
  intro C
  refine wc_know (fun _ h => h.lenF m0) (fun e => ?_)
  subst e
  refine wc_seq ?_
  refine wc_region ?_   -- region 0
  refine wl_det rfl rfl (det_assign rfl) rfl ?_
  refine wl_nil ?_
  refine pn_then ?_
  refine wc_seq ?_
  obtain ⟨k1_p1, h⟩ := chk_some h
  refine wc_st (fun _ h => h.openF m0 k1_p1) ?_
  obtain ⟨k1_p3, h⟩ := chk_some h
  refine wc_st (fun _ h => h.openF (ms m0) k1_p3) ?_
  refine dx_region 14 [[], [], [0, 1], [0, 1, 2], [], [], [4, 5], [4, 5, 6], [0, 1, 2, 3, 4, 5, 6, 7], [], [], [0, 1, 2, 3, 4, 5, 6, 7, 8, 9, 10], [0, 1, 2, 3, 4, 5, 6, 7, 8, 9, 10, 11], [0, 1, 2, 3, 4, 5, 6, 7, 8, 9, 10, 11, 12], [0, 1, 2, 3, 4, 5, 6, 7, 8, 9, 10, 11, 12, 13]] mixed (ord := (.det 0 (.det 1 (.det 2 (.det 3 (.det 4 (.det 5 (.det 6 (.det 7 (.det 9 (.det 10 (.alt 8 (.alt 11 (.alt 12 (.alt 13 .done .dead) .dead) .dead) .dead)))))))))))) (by kernel_rfl) ?_   -- region 1
  refine hx_det rfl rfl rfl nofun (det_load rfl m0 (by rfl) na99 us99) rfl ?_
  refine hx_det rfl rfl rfl nofun (det_move rfl) rfl ?_
  refine hx_det rfl rfl rfl nofun (det_indexP rfl rfl (ms (ms m0)) k1_p1 (ms m0) un99 sz100) rfl ?_
  refine hx_det rfl rfl rfl nofun (det_loadP (off := 0) rfl (ms m0) (by rfl) (by rfl) (loaded_1 na100 us100)) rfl ?_
  refine hx_det rfl rfl rfl nofun (det_load rfl m0 (by rfl) na99 us99) rfl ?_
  refine hx_det rfl rfl rfl nofun (det_move rfl) rfl ?_
  refine hx_det rfl rfl rfl nofun (det_indexP rfl rfl (ms (ms m0)) k1_p3 m0 un99 sz100) rfl ?_
  refine hx_det rfl rfl rfl nofun (det_loadP (off := 0) rfl m0 (by rfl) (by rfl) (loaded_1 na100 us100)) rfl ?_
  refine hx_det rfl rfl rfl nofun (det_move rfl) rfl ?_
  refine hx_det rfl rfl rfl nofun (det_move rfl) rfl ?_
  obtain ⟨r1_8, hr1_8, h⟩ := bind_some h
  refine hx_act rfl rfl rfl (act_callS (cap := []) (W_cmp_Compare_uint64 (ix a2 a1) (ix a2 a0) r1_8 hr1_8) rfl rfl rfl bd84 rfl trivial) rfl (by rintro _ _ _ ⟨_, _, _, rfl, rfl⟩; first | exact ⟨_, _, rfl, rfl⟩ | exact ⟨_, [], rfl, rfl⟩) ?_
  rintro _ _ _ ⟨_, _, ⟨rfl, rfl, rfl⟩, rfl, rfl⟩
  dsimp only [List.nil_append, List.cons_append]
  obtain ⟨r1_11, hr1_11, h⟩ := bind_some h
  refine hx_act rfl rfl rfl (act_callS (cap := []) (W_cmp_Compare_int a0 a1 r1_11 hr1_11) rfl rfl rfl bd85 rfl trivial) rfl (by rintro _ _ _ ⟨_, _, _, rfl, rfl⟩; first | exact ⟨_, _, rfl, rfl⟩ | exact ⟨_, [], rfl, rfl⟩) ?_
  rintro _ _ _ ⟨_, _, ⟨rfl, rfl, rfl⟩, rfl, rfl⟩
  dsimp only [List.nil_append, List.cons_append]
  refine hx_act rfl rfl rfl (act_litS (lInt .i64) (vs := [_, _]) (cs := [_, _]) [r1_8, r1_11] un23 in3 rfl rfl rfl rfl rfl ⟨rfl, rfl, trivial⟩ (by rfl) rfl (litR_flat rfl)) rfl (by rintro _ _ _ ⟨A1_12, rfl, rfl, rfl⟩; first | exact ⟨_ :: [], [], rfl, rfl⟩ | exact ⟨[], [_], rfl, rfl⟩ | exact ⟨[], [], rfl, rfl⟩) ?_
  rintro _ _ _ ⟨A1_12, rfl, rfl, rfl⟩
  obtain ⟨r1_13, hr1_13, h⟩ := bind_some h
  refine hx_act rfl rfl rfl (act_callL (cap := []) [eS (lInt .i64) 3 A1_12 2 2 [r1_8, r1_11]] (W_cmp_Or_int [r1_8, r1_11] A1_12 2 2 r1_13 hr1_13) plains_cmp_Or_int rfl rfl rfl bd83 rfl ⟨m0, trivial⟩ ⟨.inr ⟨_, m0, lent_eS⟩, trivial⟩) rfl (by rintro _ _ _ ⟨_, _, _, rfl, rfl⟩; first | exact ⟨_, _, rfl, rfl⟩ | exact ⟨_, [], rfl, rfl⟩) ?_
  rintro _ _ _ ⟨_, _, ⟨rfl, rfl, rfl⟩, rfl, rfl⟩
  dsimp only [List.nil_append, List.cons_append]
  refine hx_end ?_
  refine wl_det rfl rfl (det_assign rfl) rfl ?_
  refine wl_nil ?_
  refine pn_then ?_
  refine wc_ret ?_
  replace h := Option.some.inj h
  subst h
  refine pn_ret (vs := [_]) rfl ⟨rfl, trivial⟩ ⟨rfl, rfl, rfl⟩ (fun _ h => h.to ⟨_, (rs r0), trivial⟩ trivial)
def Q_slices_SortFunc_s_int_int_o_split_divide_c1 (A0 : Option Addr) (n0 : Nat) (c0 : Nat) (Ba1_0 : Nat) (A4 : Option Addr) (n4 : Nat) (c4 : Nat) (r : (List Int)) : Value → List Ent → List Fact → Prop := fun v θ κ => v = .tuple #[] ∧ θ = [eS (lInt .i64) 3 A0 n0 c0 r, eBlk Ba1_0 99 [.slice A4 n4 c4]] ∧ κ = []
theorem plains_slices_SortFunc_s_int_int_o_split_divide_c1 {A0 : Option Addr} {n0 : Nat} {c0 : Nat} {Ba1_0 : Nat} {A4 : Option Addr} {n4 : Nat} {c4 : Nat} {r : (List Int)} : ∀ v θ κ, Q_slices_SortFunc_s_int_int_o_split_divide_c1 A0 n0 c0 Ba1_0 A4 n4 c4 r v θ κ → Plains θ := by
  rintro _ _ _ ⟨rfl, rfl, rfl⟩
  exact ⟨plain_eS, plain_eBlk, trivial⟩
theorem W_slices_SortFunc_s_int_int_o_split_divide_c1 (a0 : (List Int)) (a1_0 : (List Int)) (A0 : Option Addr) (n0 : Nat) (c0 : Nat) (Ba1_0 : Nat) (A4 : Option Addr) (n4 : Nat) (c4 : Nat) (r : (List Int)) (h : slices_SortFunc_s_int_int_o_split_divide_c1 a0 a1_0 = some r) : Spec Try.prog 86 [.slice A0 n0 c0, .func (.func 82) #[] #[.pointer (some ⟨Ba1_0, 0, none⟩)]] [eS (lInt .i64) 3 A0 n0 c0 a0, eBlk Ba1_0 99 [.slice A4 n4 c4]] [fV (lSlice (lInt .u64)) (.slice A4 n4 c4) a1_0] (Q_slices_SortFunc_s_int_int_o_split_divide_c1 A0 n0 c0 Ba1_0 A4 n4 c4 r) :=
  spec_sort1 (ρ := Try.sort86_ren) Try.sort86 rfl (fun _ => rfl) (cap := [.pointer (some ⟨Ba1_0, 0, none⟩)]) (θ₀ := [eBlk Ba1_0 99 [.slice A4 n4 c4]]) bd82 ⟨⟨_, _, _, rfl⟩, trivial⟩ (fun x y r h => W_split_divide_c1 x y a1_0 Ba1_0 A4 n4 c4 r h) h A0 n0 c0
def Q_split_divide (r : (List Int)) : Value → List Ent → List Fact → Prop := fun v θ κ => ∃ (pA0 : Option Addr), ∃ (pn0 : Nat), ∃ (pc0 : Nat), v = .slice pA0 pn0 pc0 ∧ θ = [eS (lInt .i64) 3 pA0 pn0 pc0 r] ∧ κ = []
theorem plains_split_divide {r : (List Int)} : ∀ v θ κ, Q_split_divide r v θ κ → Plains θ := by
  rintro _ _ _ ⟨_, _, _, rfl, rfl, rfl⟩
  exact ⟨plain_eS, trivial⟩
set_option maxHeartbeats 4000000 in
set_option maxRecDepth 100000 in
theorem W_split_divide (a0 : Int) (a1 : (List Int)) (a2 : Int) (A0 : Option Addr) (n0 : Nat) (c0 : Nat) (r : (List Int)) (h : split_divide a0 a1 a2 = some r) : Spec Try.prog 68 [.int .i64 a0, .slice A0 n0 c0, .int .i64 a2] [] [fV (lSlice (lInt .i64)) (.slice A0 n0 c0) a1] (Q_split_divide r) := by
  unfold split_divide at h
  refine spec_of (σ := [(0, _), (1, _), (2, _)]) Try.func68 rfl rfl rfl rfl ?_
  intro C
  refine wc_know (fun _ h => h.lenF m0) (fun e => ?_)
  subst e
  refine wc_seq ?_
  refine wc_region ?_   -- region 0
  refine wl_det rfl rfl (det_assign rfl) rfl ?_
  refine wl_nil ?_
  refine pn_then ?_
  refine wc_seq ?_
  refine wc_region ?_   -- region 1
  refine wl_det rfl rfl (det_move rfl) rfl ?_
  refine wl_det rfl rfl (det_len rfl un23) rfl ?_
  obtain ⟨k1_2, h⟩ := chk_some h
  obtain ⟨k1_2a, h⟩ := chk_some h
  refine wl_act (act_makeS (L := (lInt .i64)) (x0 := (0 : Int)) rfl rfl un23 in3 (by refine ⟨rfl, fun _ _ => ?_⟩; first | exact rfl | exact ⟨_, _, _, rfl, rfl, Nat.zero_le _, .inl rfl⟩) rfl rfl k1_2 (decide_eq_true (Int.le_refl _)) k1_2a) rfl rfl rfl ?_
  rintro _ _ _ ⟨A1_2, c1_2, rfl, rfl, rfl⟩
  refine wl_det rfl rfl (det_assign rfl) rfl ?_
  refine wl_nil ?_
  refine pn_then ?_
  refine wc_seq ?_
  refine wc_region ?_   -- region 2
  refine wl_det rfl rfl (det_move rfl) rfl ?_
  refine wl_det rfl rfl (det_len rfl un23) rfl ?_
  refine wl_act (act_makeS (L := (lInt .u64)) (x0 := (0 : Int)) rfl rfl un99 in100 (by refine ⟨rfl, fun _ _ => ?_⟩; first | exact rfl | exact ⟨_, _, _, rfl, rfl, Nat.zero_le _, .inl rfl⟩) rfl rfl k1_2 (decide_eq_true (Int.le_refl _)) k1_2a) rfl rfl rfl ?_
  rintro _ _ _ ⟨A2_2, c2_2, rfl, rfl, rfl⟩
  refine wl_act (act_alloc (cs := [_]) zr99 rfl) rfl rfl rfl ?_
  rintro _ _ _ ⟨b2_3, rfl, rfl, rfl⟩
  refine wl_act0 (act_store (cells := [_]) (cs' := [_]) rfl rfl rfl s0 (by rfl) (of_decide_eq_true rfl) sz99 ⟨rfl, trivial⟩) rfl rfl ?_
  rintro _ _ _ ⟨rfl, rfl⟩
  refine wl_nil ?_
  refine pn_then ?_
  refine wc_seq ?_
  refine wc_region ?_   -- region 3
  refine wl_det rfl rfl (det_move rfl) rfl ?_
  refine wl_det rfl rfl (det_len rfl un23) rfl ?_
  refine wl_act (act_makeS (L := (lInt .i64)) (x0 := (0 : Int)) rfl rfl un23 in3 (by refine ⟨rfl, fun _ _ => ?_⟩; first | exact rfl | exact ⟨_, _, _, rfl, rfl, Nat.zero_le _, .inl rfl⟩) rfl rfl k1_2 (decide_eq_true (Int.le_refl _)) k1_2a) rfl rfl rfl ?_
  rintro _ _ _ ⟨A3_2, c3_2, rfl, rfl, rfl⟩
  refine wl_det rfl rfl (det_assign rfl) rfl ?_
  refine wl_nil ?_
  refine pn_then ?_
  refine wc_seq ?_
  refine wc_region ?_   -- region 4
  refine wl_det rfl rfl (det_move rfl) rfl ?_
  refine wl_det rfl rfl (det_assign rfl) rfl ?_
  refine wl_nil ?_
  refine pn_then ?_
  obtain ⟨q10, h, ho10⟩ := bind_some h
  refine wc_meetG (G := ((List Int) × (List Int) × (List Int) × Int) × Unit) (fun (s10, _) => s10 = q10) (fun (s10, _) => [(7, .slice A1_2 (List.replicate (a1.length : Int).toNat (0 : Int)).length c1_2), (8, .pointer (some ⟨b2_3, 0, none⟩)), (9, .slice A3_2 (List.replicate (a1.length : Int).toNat (0 : Int)).length c3_2), (10, .int .i64 s10.2.2.2)]) (fun (s10, _) => [eS (lInt .i64) 3 A1_2 (List.replicate (a1.length : Int).toNat (0 : Int)).length c1_2 s10.1, eBlk b2_3 99 [.slice A2_2 (List.replicate (a1.length : Int).toNat (0 : Int)).length c2_2], eS (lInt .u64) 100 A2_2 (List.replicate (a1.length : Int).toNat (0 : Int)).length c2_2 s10.2.1, eS (lInt .i64) 3 A3_2 (List.replicate (a1.length : Int).toNat (0 : Int)).length c3_2 s10.2.2.1]) (fun (_, _) => []) ?_ ?_
  · refine wc_seq ?_
    refine wc_region ?_   -- region 5
    refine wl_det rfl rfl (det_move rfl) rfl ?_
    refine wl_det rfl rfl (det_len rfl un23) rfl ?_
    refine wl_det rfl rfl (det_move rfl) rfl ?_
    refine wl_nil ?_
    refine pn_then ?_
    refine wc_block ?_
    obtain ⟨k14, hk14⟩ := loopV_some.1 h
    refine wc_loop (G := Nat × ((List Int) × (List Int) × (List Int) × Int × Int) × Unit) (fun g => IterN (split_divide_l14 a0 a1 a2) g.1 g.2.1 q10) (fun g => g.1) (fun (_, s14, _) => [(0, .int .i64 a0), (2, .int .i64 a2), (7, .slice A1_2 (List.replicate (a1.length : Int).toNat (0 : Int)).length c1_2), (8, .pointer (some ⟨b2_3, 0, none⟩)), (9, .slice A3_2 (List.replicate (a1.length : Int).toNat (0 : Int)).length c3_2), (10, .int .i64 s14.2.2.2.1), (30, .slice A0 a1.length c0), (31, .int .i64 (a1.length : Int)), (32, .int .i64 s14.2.2.2.2)]) (fun (_, s14, _) => [eS (lInt .i64) 3 A1_2 (List.replicate (a1.length : Int).toNat (0 : Int)).length c1_2 s14.1, eBlk b2_3 99 [.slice A2_2 (List.replicate (a1.length : Int).toNat (0 : Int)).length c2_2], eS (lInt .u64) 100 A2_2 (List.replicate (a1.length : Int).toNat (0 : Int)).length c2_2 s14.2.1, eS (lInt .i64) 3 A3_2 (List.replicate (a1.length : Int).toNat (0 : Int)).length c3_2 s14.2.2.1]) (fun (_, _, _) => [fV (lSlice (lInt .i64)) (.slice A0 a1.length c0) a1]) (k14, ((List.replicate (a1.length : Int).toNat (0 : Int)), (List.replicate (a1.length : Int).toNat (0 : Int)), (List.replicate (a1.length : Int).toNat (0 : Int)), a0, 0), ()) hk14 ⟨rfl, rfl, rfl, rfl, rfl, rfl, rfl, rfl, rfl, trivial⟩ (fun _ h => h.to ⟨_, (rs (rs (rs r0))), ⟨_, (rs r0), ⟨_, (rs r0), ⟨_, r0, trivial⟩⟩⟩⟩ ⟨m0, trivial⟩) ?_
    rintro ⟨k14, s14, _⟩ hI
    obtain ⟨k14, rfl, q14, h, g14⟩ := IterN.pos hI
    dsimp only at h ⊢
    unfold split_divide_l14 at h
    refine wc_seq ?_
    refine wc_region ?_   -- region 6
    refine wl_det rfl rfl (det_lss rfl rfl) rfl ?_
    refine wl_nil ?_
    refine pn_then ?_
    refine wc_seq ?_
    refine wc_cond rfl (fun cd18 => ?_) (fun cd18 => ?_)
    · have h := ifT h cd18
      refine wc_skip ?_
      refine pn_then ?_
      refine wc_seq ?_
      refine wc_block ?_
      refine wc_seq ?_
      refine wc_region ?_   -- region 7
      refine wl_det rfl rfl (det_move rfl) rfl ?_
      obtain ⟨k7_1, h⟩ := chk_some h
      refine wl_st (fun _ h => h.openF m0 k7_1) ?_
      refine wl_det rfl rfl (det_indexP rfl rfl (ms m0) k7_1 m0 un23 sz3) rfl ?_
      refine wl_det rfl rfl (det_loadP (off := 0) rfl m0 (by rfl) (by rfl) (loaded_1 na3 us3)) rfl ?_
      refine wl_det rfl rfl (det_assign rfl) rfl ?_
      refine wl_det rfl rfl (det_assign rfl) rfl ?_
      refine wl_nil ?_
      refine pn_then ?_
      refine wc_seq ?_
      refine wc_region ?_   -- region 8
      refine wl_det rfl rfl (det_move rfl) rfl ?_
      refine wl_det rfl rfl (det_conv rfl us3 un100) rfl ?_
      refine wl_det rfl rfl (det_move rfl) rfl ?_
      refine wl_det rfl rfl (det_conv rfl us3 un100) rfl ?_
      obtain ⟨r8_4, hr8_4, h⟩ := bind_some h
      refine wl_act (act_callS (cap := []) (W_bits_Mul64 (u64 a0) (u64 (ix a1 s14.2.2.2.2)) r8_4 hr8_4) rfl rfl rfl bd80 rfl trivial) rfl rfl rfl ?_
      rintro _ _ _ ⟨_, _, ⟨rfl, rfl, rfl⟩, rfl, rfl⟩
      dsimp only [List.nil_append, List.cons_append]
      refine wl_det rfl rfl (det_move rfl) rfl ?_
      refine wl_det rfl rfl (det_extract rfl rfl) rfl ?_
      refine wl_det rfl rfl (det_extract rfl rfl) rfl ?_
      refine wl_det rfl rfl (det_assign rfl) rfl ?_
      refine wl_det rfl rfl (det_assign rfl) rfl ?_
      refine wl_nil ?_
      refine pn_then ?_
      refine wc_seq ?_
      refine wc_region ?_   -- region 9
      refine wl_det rfl rfl (det_move rfl) rfl ?_
      refine wl_det rfl rfl (det_move rfl) rfl ?_
      refine wl_det rfl rfl (det_move rfl) rfl ?_
      refine wl_det rfl rfl (det_conv rfl us3 un100) rfl ?_
      obtain ⟨r9_4, hr9_4, h⟩ := bind_some h
      refine wl_act (act_callS (cap := []) (W_bits_Div64 r8_4.1 r8_4.2 (u64 a2) r9_4 hr9_4) rfl rfl rfl bd81 rfl trivial) rfl rfl rfl ?_
      rintro _ _ _ ⟨_, _, ⟨rfl, rfl, rfl⟩, rfl, rfl⟩
      dsimp only [List.nil_append, List.cons_append]
      refine wl_det rfl rfl (det_move rfl) rfl ?_
      refine wl_det rfl rfl (det_extract rfl rfl) rfl ?_
      refine wl_det rfl rfl (det_extract rfl rfl) rfl ?_
      refine wl_det rfl rfl (det_assign rfl) rfl ?_
      refine wl_det rfl rfl (det_assign rfl) rfl ?_
      refine wl_nil ?_
      refine pn_then ?_
      refine wc_seq ?_
      obtain ⟨k10_p1, h⟩ := chk_some h
      obtain ⟨k10_p2, h⟩ := chk_some h
      obtain ⟨k10_p3, h⟩ := chk_some h
      refine wc_know (fun _ h => h.ixA m0 k10_p1) (fun kx10_x4 => ?_)
      refine wc_know (fun _ h => h.ixA (ms (ms m0)) k10_p2) (fun kx10_x5 => ?_)
      refine dx_regionZ (Z := St C [_, _] [_, _]) 14 [[], [], [], [], [], [], [], [6], [], [], [0, 1, 6, 7], [0, 1, 6, 7, 10], [0, 1, 2, 3, 6, 7, 8, 10, 11], [0, 1, 2, 3, 6, 7, 8, 10, 11, 12], [0, 1, 2, 3, 4, 5, 6, 7, 8, 9, 10, 11, 12, 13], [0, 1, 2, 3, 4, 5, 6, 7, 8, 9, 10, 11, 12, 13, 14]] mixed (ord := (.det 0 (.det 1 (.det 2 (.det 3 (.det 4 (.det 5 (.det 6 (.det 7 (.det 8 (.det 9 (.det 10 (.alt 11 (.det 12 (.alt 13 .done .dead)) .dead))))))))))))) (by kernel_rfl) (fun _ h => h.to ⟨_, (rs r0), ⟨_, (rs (rs r0)), trivial⟩⟩ ⟨m0, ⟨(ms m0), trivial⟩⟩) ?_   -- region 10
      refine hx_det rfl rfl rfl nofun (det_move rfl) rfl ?_
      refine hx_det rfl rfl rfl nofun (det_move rfl) rfl ?_
      refine hx_det rfl rfl rfl nofun (det_load rfl m0 (by rfl) na99 us99) rfl ?_
      refine hx_det rfl rfl rfl nofun (det_move rfl) rfl ?_
      refine hx_det rfl rfl rfl nofun (det_move rfl) rfl ?_
      refine hx_det rfl rfl rfl nofun (det_move rfl) rfl ?_
      refine hx_det rfl rfl rfl nofun (det_move rfl) rfl ?_
      refine hx_det rfl rfl rfl nofun (det_conv rfl us100 un3) rfl ?_
      refine hx_det rfl rfl rfl nofun (det_move rfl) rfl ?_
      refine hx_det rfl rfl rfl nofun (det_move rfl) rfl ?_
      refine hx_det rfl rfl rfl nofun (det_indexV rfl rfl kx10_x4 un23 sz3) rfl ?_
      refine hx_mut0 rfl rfl rfl (act_storeO (cells := [_]) (off := 0) (w64 r9_4.1) rfl rfl rfl s0 k10_p1 (by rfl) sz3 (by intro u hu; simp at hu; rcases hu with rfl <;> rfl) (stR_flat rfl rfl)) (by rintro _ _ _ ⟨rfl, rfl⟩ w hs; exact hs.to ⟨_, (rs r0), ⟨_, (rs (rs r0)), trivial⟩⟩ ⟨m0, ⟨(ms m0), trivial⟩⟩) ?_
      rintro _ _ _ ⟨rfl, rfl⟩
      refine hx_det rfl rfl rfl nofun (det_indexV rfl rfl kx10_x5 un99 sz100) rfl ?_
      refine hx_mut0 rfl rfl rfl (act_storeO (cells := [_]) (off := 0) r9_4.2 rfl rfl rfl (ss (ss s0)) k10_p2 (by rfl) sz100 (by intro u hu; simp at hu; rcases hu with rfl <;> rfl) (stR_flat rfl rfl)) (by rintro _ _ _ ⟨rfl, rfl⟩ w hs; exact hs.to ⟨_, (rs r0), ⟨_, (rs (rs r0)), trivial⟩⟩ ⟨m0, ⟨(ms m0), trivial⟩⟩) ?_
      rintro _ _ _ ⟨rfl, rfl⟩
      refine hx_end ?_
      refine wl_det rfl rfl (det_indexO rfl rfl (ms (ms (ms m0))) k10_p3 un23 sz3) rfl ?_
      refine wl_act0 (act_storeO (cells := [_]) (off := 0) s14.2.2.2.2 rfl rfl rfl (ss (ss (ss s0))) k10_p3 (by rfl) sz3 (by intro u hu; simp at hu; rcases hu with rfl <;> rfl) (stR_flat rfl rfl)) rfl rfl ?_
      rintro _ _ _ ⟨rfl, rfl⟩
      refine wl_nil ?_
      refine pn_then ?_
      refine wc_region ?_   -- region 11
      refine wl_det rfl rfl (det_move rfl) rfl ?_
      refine wl_det rfl rfl (det_move rfl) rfl ?_
      refine wl_det rfl rfl (det_move rfl) rfl ?_
      refine wl_det rfl rfl (det_indexV rfl rfl kx10_x4 un23 sz3) rfl ?_
      obtain ⟨k11_4, h⟩ := chk_some h
      refine wl_det rfl rfl (det_loadO (off := 0) rfl m0 k11_4 (by rfl) (by rfl) (loaded_1 na3 us3)) rfl ?_
      refine wl_det rfl rfl (det_sub rfl rfl) rfl ?_
      refine wl_det rfl rfl (det_assign rfl) rfl ?_
      refine wl_nil ?_
      refine pn_block ?_
      refine pn_then ?_
      refine wc_region ?_   -- region 12
      refine wl_det rfl rfl (det_add rfl rfl) rfl ?_
      refine wl_det rfl rfl (det_move rfl) rfl ?_
      refine wl_nil ?_
      replace h := Option.some.inj h
      subst h
      exact pn_some (k14, ((upd s14.1 s14.2.2.2.2 (w64 r9_4.1)), (upd s14.2.1 s14.2.2.2.2 r9_4.2), (upd s14.2.2.1 s14.2.2.2.2 s14.2.2.2.2), (w64 (s14.2.2.2.1 - (ix (upd s14.1 s14.2.2.2.2 (w64 r9_4.1)) s14.2.2.2.2))), (w64 (s14.2.2.2.2 + 1))), ()) ⟨nextL g14, Nat.lt_succ_self _⟩ ⟨rfl, rfl, rfl, rfl, rfl, rfl, rfl, rfl, rfl, trivial⟩ (fun _ h => h.to ⟨_, r0, ⟨_, r0, ⟨_, r0, ⟨_, r0, trivial⟩⟩⟩⟩ ⟨(ms m0), trivial⟩)
    · have h := ifF h cd18
      refine wc_exit ?_
      refine px_then ?_
      refine px_then ?_
      refine px_block ?_
      replace h := Option.some.inj h
      subst h
      replace g14 := nextR g14
      subst g14
      exact pn_meetG ((s14.1, s14.2.1, s14.2.2.1, s14.2.2.2.1), ()) rfl ⟨rfl, rfl, rfl, rfl, trivial⟩ (fun _ h => h.to ⟨_, r0, ⟨_, r0, ⟨_, r0, ⟨_, r0, trivial⟩⟩⟩⟩ trivial)
  rintro ⟨s10, _⟩ e10
  dsimp only at e10 ⊢
  subst e10
  have h := ho10
  refine wc_seq ?_
  refine wc_region ?_   -- region 13
  refine wl_det rfl rfl (det_makeFunc rfl) rfl ?_
  refine wl_det rfl rfl (det_assign rfl) rfl ?_
  refine wl_nil ?_
  refine pn_then ?_
  refine wc_seq ?_
  refine wc_region ?_   -- region 14
  refine wl_det rfl rfl (det_move rfl) rfl ?_
  refine wl_det rfl rfl (det_move rfl) rfl ?_
  obtain ⟨r14_2, hr14_2, h⟩ := bind_some h
  refine wl_act (act_callL (cap := []) [eS (lInt .u64) 100 A2_2 (List.replicate (a1.length : Int).toNat (0 : Int)).length c2_2 s10.2.1] (W_slices_SortFunc_s_int_int_o_split_divide_c1 s10.2.2.1 s10.2.1 A3_2 (List.replicate (a1.length : Int).toNat (0 : Int)).length c3_2 b2_3 A2_2 (List.replicate (a1.length : Int).toNat (0 : Int)).length c2_2 r14_2 hr14_2) plains_slices_SortFunc_s_int_int_o_split_divide_c1 rfl rfl rfl bd86 ⟨_, (rs (rs (rs r0))), ⟨_, (rs r0), rfl⟩⟩ ⟨(ms m0), trivial⟩ ⟨.inr ⟨_, m0, lent_eS⟩, trivial⟩) rfl rfl rfl ?_
  rintro _ _ _ ⟨_, _, ⟨rfl, rfl, rfl⟩, rfl, rfl⟩
  dsimp only [List.nil_append, List.cons_append]
  refine wl_nil ?_
  refine pn_then ?_
  obtain ⟨q36, h, ho36⟩ := bind_some h
  refine wc_meetG (G := (List Int) × Unit) (fun (s36, _) => s36 = q36) (fun (_, _) => [(7, .slice A1_2 (List.replicate (a1.length : Int).toNat (0 : Int)).length c1_2)]) (fun (s36, _) => [eS (lInt .i64) 3 A1_2 (List.replicate (a1.length : Int).toNat (0 : Int)).length c1_2 s36]) (fun (_, _) => []) ?_ ?_
  · refine wc_seq ?_
    refine wc_region ?_   -- region 15
    refine wl_det rfl rfl (det_move rfl) rfl ?_
    refine wl_det rfl rfl (det_move rfl) rfl ?_
    refine wl_st (fun _ h => h.shutS r0) ?_
    obtain ⟨k15_2, h⟩ := chk_some h
    obtain ⟨k15_2a, h⟩ := chk_some h
    refine wl_act (act_sliceH rfl rfl m0 un23 sz3 rfl k15_2 k15_2a) rfl rfl rfl ?_
    rintro _ _ _ ⟨A15_2, c15_2, rfl, rfl, rfl⟩
    refine wl_det rfl rfl (det_len rfl un23) rfl ?_
    refine wl_det rfl rfl (det_move rfl) rfl ?_
    refine wl_nil ?_
    refine pn_then ?_
    refine wc_block ?_
    obtain ⟨k40, hk40⟩ := loopV_some.1 h
    refine wc_loop (G := Nat × ((List Int) × Int) × Unit) (fun g => IterN (split_divide_l40 s10 r14_2) g.1 g.2.1 q36) (fun g => g.1) (fun (_, s40, _) => [(7, .slice A1_2 (List.replicate (a1.length : Int).toNat (0 : Int)).length c1_2), (79, .slice A15_2 (r14_2.take s10.2.2.2.toNat).length c15_2), (80, .int .i64 ((r14_2.take s10.2.2.2.toNat).length : Int)), (81, .int .i64 s40.2)]) (fun (_, s40, _) => [eS (lInt .i64) 3 A1_2 (List.replicate (a1.length : Int).toNat (0 : Int)).length c1_2 s40.1]) (fun (_, _, _) => [fV (lSlice (lInt .i64)) (.slice A15_2 (r14_2.take s10.2.2.2.toNat).length c15_2) (r14_2.take s10.2.2.2.toNat)]) (k40, (s10.1, 0), ()) hk40 ⟨rfl, rfl, rfl, rfl, trivial⟩ (fun _ h => h.to ⟨_, (rs r0), trivial⟩ ⟨m0, trivial⟩) ?_
    rintro ⟨k40, s40, _⟩ hI
    obtain ⟨k40, rfl, q40, h, g40⟩ := IterN.pos hI
    dsimp only at h ⊢
    unfold split_divide_l40 at h
    refine wc_seq ?_
    refine wc_region ?_   -- region 16
    refine wl_det rfl rfl (det_lss rfl rfl) rfl ?_
    refine wl_nil ?_
    refine pn_then ?_
    refine wc_seq ?_
    refine wc_cond rfl (fun cd44 => ?_) (fun cd44 => ?_)
    · have h := ifT h cd44
      refine wc_skip ?_
      refine pn_then ?_
      refine wc_seq ?_
      refine wc_block ?_
      refine wc_seq ?_
      refine wc_region ?_   -- region 17
      obtain ⟨k17_0, h⟩ := chk_some h
      refine wl_st (fun _ h => h.openF m0 k17_0) ?_
      refine wl_det rfl rfl (det_indexP rfl rfl (ms m0) k17_0 m0 un23 sz3) rfl ?_
      refine wl_det rfl rfl (det_loadP (off := 0) rfl m0 (by rfl) (by rfl) (loaded_1 na3 us3)) rfl ?_
      refine wl_det rfl rfl (det_assign rfl) rfl ?_
      refine wl_nil ?_
      refine pn_then ?_
      refine wc_region ?_   -- region 18
      refine wl_det rfl rfl (det_move rfl) rfl ?_
      refine wl_det rfl rfl (det_move rfl) rfl ?_
      obtain ⟨k18_2, h⟩ := chk_some h
      refine wl_det rfl rfl (det_indexO rfl rfl m0 k18_2 un23 sz3) rfl ?_
      refine wl_det rfl rfl (det_loadO (off := 0) rfl m0 k18_2 (by rfl) (by rfl) (loaded_1 na3 us3)) rfl ?_
      refine wl_det rfl rfl (det_add rfl rfl) rfl ?_
      refine wl_det rfl rfl (det_indexO rfl rfl m0 k18_2 un23 sz3) rfl ?_
      refine wl_act0 (act_storeO (cells := [_]) (off := 0) (w64 ((ix s40.1 (ix (r14_2.take s10.2.2.2.toNat) s40.2)) + 1)) rfl rfl rfl s0 k18_2 (by rfl) sz3 (by intro u hu; simp at hu; rcases hu with rfl <;> rfl) (stR_flat rfl rfl)) rfl rfl ?_
      rintro _ _ _ ⟨rfl, rfl⟩
      refine wl_nil ?_
      refine pn_block ?_
      refine pn_then ?_
      refine wc_region ?_   -- region 19
      refine wl_det rfl rfl (det_add rfl rfl) rfl ?_
      refine wl_det rfl rfl (det_move rfl) rfl ?_
      refine wl_nil ?_
      replace h := Option.some.inj h
      subst h
      exact pn_some (k40, ((upd s40.1 (ix (r14_2.take s10.2.2.2.toNat) s40.2) (w64 ((ix s40.1 (ix (r14_2.take s10.2.2.2.toNat) s40.2)) + 1))), (w64 (s40.2 + 1))), ()) ⟨nextL g40, Nat.lt_succ_self _⟩ ⟨rfl, rfl, rfl, rfl, trivial⟩ (fun _ h => h.to ⟨_, r0, trivial⟩ ⟨(ms m0), trivial⟩)
    · have h := ifF h cd44
      refine wc_exit ?_
      refine px_then ?_
      refine px_then ?_
      refine px_block ?_
      replace h := Option.some.inj h
      subst h
      replace g40 := nextR g40
      subst g40
      exact pn_meetG (s40.1, ()) rfl ⟨rfl, trivial⟩ (fun _ h => h.to ⟨_, r0, trivial⟩ trivial)
  rintro ⟨s36, _⟩ e36
  dsimp only at e36 ⊢
  subst e36
  have h := ho36
  refine wc_seq ?_
  refine wc_region ?_   -- region 20
  refine wl_det rfl rfl (det_move rfl) rfl ?_
  refine wl_det rfl rfl (det_assign rfl) rfl ?_
  refine wl_nil ?_
  refine pn_then ?_
  refine wc_ret ?_
  replace h := Option.some.inj h
  subst h
  refine pn_ret (vs := [_]) rfl ⟨rfl, trivial⟩ ⟨A1_2, (List.replicate (a1.length : Int).toNat (0 : Int)).length, c1_2, rfl, rfl, rfl⟩ (fun _ h => h.to ⟨_, r0, trivial⟩ trivial)
def Q_split_Split (r : (List Int) × Int) : Value → List Ent → List Fact → Prop := fun v θ κ => ∃ (pA0 : Option Addr), ∃ (pn0 : Nat), ∃ (pc0 : Nat), v = .tuple #[.slice pA0 pn0 pc0, .int .i64 r.2] ∧ θ = [eS (lInt .i64) 3 pA0 pn0 pc0 r.1] ∧ κ = []
theorem plains_split_Split {r : (List Int) × Int} : ∀ v θ κ, Q_split_Split r v θ κ → Plains θ := by
  rintro _ _ _ ⟨_, _, _, rfl, rfl, rfl⟩
  exact ⟨plain_eS, trivial⟩
set_option maxHeartbeats 4000000 in
set_option maxRecDepth 100000 in
theorem W_split_Split (a0 : Int) (a1 : (List Int)) (A0 : Option Addr) (n0 : Nat) (c0 : Nat) (r : (List Int) × Int) (h : split_Split a0 a1 = some r) : Spec Try.prog 50 [.int .i64 a0, .slice A0 n0 c0] [] [fV (lSlice (lInt .i64)) (.slice A0 n0 c0) a1] (Q_split_Split r) := by
  unfold split_Split at h
  refine spec_of (σ := [(0, _), (1, _)]) Try.func50 rfl rfl rfl rfl ?_
  intro C
  refine wc_know (fun _ h => h.lenF m0) (fun e => ?_)
  subst e
  refine wc_seq ?_
  refine wc_region ?_   -- region 0
  refine wl_det rfl rfl (det_assign rfl) rfl ?_
  refine wl_det rfl rfl (det_assign rfl) rfl ?_
  refine wl_nil ?_
  refine pn_then ?_
  refine wc_seq ?_
  refine wc_seq ?_
  refine wc_region ?_   -- region 1
  refine wl_det rfl rfl (det_move rfl) rfl ?_
  refine wl_det rfl rfl (det_len rfl un23) rfl ?_
  refine wl_det rfl rfl (det_eql rfl rfl) rfl ?_
  refine wl_nil ?_
  refine pn_then ?_
  refine wc_cond rfl (fun cd5 => ?_) (fun cd5 => ?_)
  · have h := ifT h cd5
    refine wc_seq ?_
    refine wc_region ?_   -- region 2
    refine wl_det rfl rfl (det_assign rfl) rfl ?_
    refine wl_det rfl rfl (det_assign rfl) rfl ?_
    refine wl_nil ?_
    refine pn_then ?_
    refine wc_ret ?_
    refine pr_then ?_
    refine pn_st (fun _ h => h.zeroS (lInt .i64) 3 none) ?_
    replace h := Option.some.inj h
    subst h
    refine pn_ret (vs := [_, _]) rfl ⟨rfl, rfl, trivial⟩ ⟨none, 0, 0, rfl, rfl, rfl⟩ (fun _ h => h.to ⟨_, r0, trivial⟩ trivial)
  · have h := ifF h cd5
    refine wc_skip ?_
    refine pn_then ?_
    refine wc_seq ?_
    refine wc_seq ?_
    refine wc_region ?_   -- region 3
    refine wl_det rfl rfl (det_move rfl) rfl ?_
    refine wl_det rfl rfl (det_len rfl un23) rfl ?_
    refine wl_det rfl rfl (det_gtr rfl rfl) rfl ?_
    refine wl_nil ?_
    refine pn_then ?_
    refine wc_cond rfl (fun cd11 => ?_) (fun cd11 => ?_)
    · have h := ifT h cd11
      refine wc_seq ?_
      refine wc_region ?_   -- region 4
      refine wl_det rfl rfl (det_assign rfl) rfl ?_
      refine wl_det rfl rfl (det_assign rfl) rfl ?_
      refine wl_nil ?_
      refine pn_then ?_
      refine wc_ret ?_
      refine pr_then ?_
      refine pn_st (fun _ h => h.zeroS (lInt .i64) 3 none) ?_
      replace h := Option.some.inj h
      subst h
      refine pn_ret (vs := [_, _]) rfl ⟨rfl, rfl, trivial⟩ ⟨none, 0, 0, rfl, rfl, rfl⟩ (fun _ h => h.to ⟨_, r0, trivial⟩ trivial)
    · have h := ifF h cd11
      refine wc_skip ?_
      refine pn_then ?_
      refine wc_seq ?_
      refine wc_seq ?_
      refine wc_region ?_   -- region 5
      refine wl_det rfl rfl (det_move rfl) rfl ?_
      obtain ⟨r5_1, hr5_1, h⟩ := bind_some h
      refine wl_act (act_callS (cap := []) (W_amount_Valid a0 r5_1 hr5_1) rfl rfl rfl bd48 rfl trivial) rfl rfl rfl ?_
      rintro _ _ _ ⟨_, _, ⟨rfl, rfl, rfl⟩, rfl, rfl⟩
      dsimp only [List.nil_append, List.cons_append]
      refine wl_det rfl rfl (det_not rfl) rfl ?_
      refine wl_det rfl rfl (det_move rfl) rfl ?_
      obtain ⟨q5_7, hq5_7, h⟩ := bind_some h
      have ho5_7 := h
      refine wl_way (!r5_1) q5_7 4 22 (fun hg => ?_) (fun hg => ?_) ?_
      · have hg5_7 := hg
        have h := ifT hq5_7 hg
        refine wl_off rfl rfl rfl rfl rfl hg5_7 rfl ?_
        refine wl_off rfl rfl rfl rfl rfl hg5_7 rfl ?_
        refine wl_off rfl rfl rfl rfl rfl hg5_7 rfl ?_
        replace h := Option.some.inj h
        subst h
        refine wl_det rfl rfl (det_pick_on rfl hg5_7 rfl rfl) rfl ?_
        exact wl_nil (pn_qnE (ext_cons rfl (ext_skip rfl (ext_skip rfl (ext_skip rfl (ext_skip rfl ext_refl))))) (fun _ h => h))
      · have hg5_7a := hg
        have h := ifF hq5_7 hg
        refine wl_on rfl rfl rfl rfl hg5_7a ?_
        refine wl_det rfl rfl (det_move rfl) rfl ?_
        refine wl_on rfl rfl rfl rfl hg5_7a ?_
        obtain ⟨r5_5, hr5_5, h⟩ := bind_some h
        refine wl_act (act_callS (cap := []) (W_split_inRange a1 A0 a1.length c0 r5_5 hr5_5) rfl rfl rfl bd66 rfl ⟨m0, trivial⟩) rfl rfl rfl ?_
        rintro _ _ _ ⟨_, _, ⟨rfl, rfl, rfl⟩, rfl, rfl⟩
        dsimp only [List.nil_append, List.cons_append]
        refine wl_on rfl rfl rfl rfl hg5_7a ?_
        refine wl_det rfl rfl (det_not rfl) rfl ?_
        replace h := Option.some.inj h
        subst h
        refine wl_det rfl rfl (det_pick_off rfl hg5_7a rfl rfl) rfl ?_
        exact wl_nil (pn_qnE (ext_cons rfl (ext_skip rfl (ext_skip rfl (ext_skip rfl (ext_skip rfl ext_refl))))) (fun _ h => h))
      have h := ho5_7
      refine wl_nil ?_
      refine pn_then ?_
      refine wc_cond rfl (fun cd17 => ?_) (fun cd17 => ?_)
      · have h := ifT h cd17
        refine wc_seq ?_
        refine wc_region ?_   -- region 6
        refine wl_det rfl rfl (det_assign rfl) rfl ?_
        refine wl_det rfl rfl (det_assign rfl) rfl ?_
        refine wl_nil ?_
        refine pn_then ?_
        refine wc_ret ?_
        refine pr_then ?_
        refine pn_st (fun _ h => h.zeroS (lInt .i64) 3 none) ?_
        replace h := Option.some.inj h
        subst h
        refine pn_ret (vs := [_, _]) rfl ⟨rfl, rfl, trivial⟩ ⟨none, 0, 0, rfl, rfl, rfl⟩ (fun _ h => h.to ⟨_, r0, trivial⟩ trivial)
      · have h := ifF h cd17
        refine wc_skip ?_
        refine pn_then ?_
        refine wc_seq ?_
        refine wc_region ?_   -- region 7
        refine wl_det rfl rfl (det_move rfl) rfl ?_
        obtain ⟨r7_1, hr7_1, h⟩ := bind_some h
        refine wl_act (act_callS (cap := []) (W_split_total a1 A0 a1.length c0 r7_1 hr7_1) rfl rfl rfl bd67 rfl ⟨m0, trivial⟩) rfl rfl rfl ?_
        rintro _ _ _ ⟨_, _, ⟨rfl, rfl, rfl⟩, rfl, rfl⟩
        dsimp only [List.nil_append, List.cons_append]
        refine wl_det rfl rfl (det_assign rfl) rfl ?_
        refine wl_nil ?_
        refine pn_then ?_
        refine wc_seq ?_
        refine wc_seq ?_
        refine wc_region ?_   -- region 8
        refine wl_det rfl rfl (det_move rfl) rfl ?_
        refine wl_det rfl rfl (det_eql rfl rfl) rfl ?_
        refine wl_nil ?_
        refine pn_then ?_
        refine wc_cond rfl (fun cd25 => ?_) (fun cd25 => ?_)
        · have h := ifT h cd25
          refine wc_seq ?_
          refine wc_region ?_   -- region 9
          refine wl_det rfl rfl (det_assign rfl) rfl ?_
          refine wl_det rfl rfl (det_assign rfl) rfl ?_
          refine wl_nil ?_
          refine pn_then ?_
          refine wc_ret ?_
          refine pr_then ?_
          refine pn_st (fun _ h => h.zeroS (lInt .i64) 3 none) ?_
          replace h := Option.some.inj h
          subst h
          refine pn_ret (vs := [_, _]) rfl ⟨rfl, rfl, trivial⟩ ⟨none, 0, 0, rfl, rfl, rfl⟩ (fun _ h => h.to ⟨_, r0, trivial⟩ trivial)
        · have h := ifF h cd25
          refine wc_skip ?_
          refine pn_then ?_
          refine wc_seq ?_
          refine wc_seq ?_
          refine wc_region ?_   -- region 10
          refine wl_det rfl rfl (det_move rfl) rfl ?_
          refine wl_det rfl rfl (det_geq rfl rfl) rfl ?_
          refine wl_nil ?_
          refine pn_then ?_
          refine wc_cond rfl (fun cd31 => ?_) (fun cd31 => ?_)
          · have h := ifT h cd31
            refine wc_seq ?_
            refine wc_region ?_   -- region 11
            refine wl_det rfl rfl (det_move rfl) rfl ?_
            refine wl_det rfl rfl (det_move rfl) rfl ?_
            refine wl_det rfl rfl (det_move rfl) rfl ?_
            obtain ⟨r11_3, hr11_3, h⟩ := bind_some h
            refine wl_act (act_callS (cap := []) (W_split_divide a0 a1 r7_1 A0 a1.length c0 r11_3 hr11_3) rfl rfl rfl bd68 rfl ⟨m0, trivial⟩) rfl rfl rfl ?_
            rintro _ _ _ ⟨_, _, ⟨y11_3A0, y11_3n0, y11_3c0, rfl, rfl, rfl⟩, rfl, rfl⟩
            dsimp only [List.nil_append, List.cons_append]
            refine wl_know (fun _ h => h.lenO m0) (fun e => ?_)
            subst e
            refine wl_det rfl rfl (det_assign rfl) rfl ?_
            refine wl_det rfl rfl (det_assign rfl) rfl ?_
            refine wl_nil ?_
            refine pn_then ?_
            refine wc_ret ?_
            refine pr_then ?_
            replace h := Option.some.inj h
            subst h
            refine pn_ret (vs := [_, _]) rfl ⟨rfl, rfl, trivial⟩ ⟨y11_3A0, r11_3.length, y11_3c0, rfl, rfl, rfl⟩ (fun _ h => h.to ⟨_, r0, trivial⟩ trivial)
          · have h := ifF h cd31
            refine wc_skip ?_
            refine pn_then ?_
            refine wc_seq ?_
            refine wc_region ?_   -- region 12
            refine wl_det rfl rfl (det_move rfl) rfl ?_
            refine wl_det rfl rfl (det_neg rfl) rfl ?_
            refine wl_det rfl rfl (det_move rfl) rfl ?_
            refine wl_det rfl rfl (det_move rfl) rfl ?_
            obtain ⟨r12_4, hr12_4, h⟩ := bind_some h
            refine wl_act (act_callS (cap := []) (W_split_divide (w64 (0 - a0)) a1 r7_1 A0 a1.length c0 r12_4 hr12_4) rfl rfl rfl bd68 rfl ⟨m0, trivial⟩) rfl rfl rfl ?_
            rintro _ _ _ ⟨_, _, ⟨y12_4A0, y12_4n0, y12_4c0, rfl, rfl, rfl⟩, rfl, rfl⟩
            dsimp only [List.nil_append, List.cons_append]
            refine wl_know (fun _ h => h.lenO m0) (fun e => ?_)
            subst e
            refine wl_det rfl rfl (det_assign rfl) rfl ?_
            refine wl_nil ?_
            refine pn_then ?_
            obtain ⟨q36, h, ho36⟩ := bind_some h
            refine wc_meetG (G := (List Int) × Unit) (fun (s36, _) => s36 = q36) (fun (_, _) => [(7, .slice y12_4A0 r12_4.length y12_4c0)]) (fun (s36, _) => [eS (lInt .i64) 3 y12_4A0 r12_4.length y12_4c0 s36]) (fun (_, _) => []) ?_ ?_
            · refine wc_seq ?_
              refine wc_region ?_   -- region 13
              refine wl_det rfl rfl (det_move rfl) rfl ?_
              refine wl_det rfl rfl (det_len rfl un23) rfl ?_
              refine wl_det rfl rfl (det_move rfl) rfl ?_
              refine wl_nil ?_
              refine pn_then ?_
              refine wc_block ?_
              obtain ⟨k40, hk40⟩ := loopV_some.1 h
              refine wc_loop (G := Nat × ((List Int) × Int) × Unit) (fun g => IterN (split_Split_l40 r12_4) g.1 g.2.1 q36) (fun g => g.1) (fun (_, s40, _) => [(7, .slice y12_4A0 r12_4.length y12_4c0), (39, .int .i64 (r12_4.length : Int)), (40, .int .i64 s40.2)]) (fun (_, s40, _) => [eS (lInt .i64) 3 y12_4A0 r12_4.length y12_4c0 s40.1]) (fun (_, _, _) => []) (k40, (r12_4, 0), ()) hk40 ⟨rfl, rfl, rfl, trivial⟩ (fun _ h => h.to ⟨_, r0, trivial⟩ trivial) ?_
              rintro ⟨k40, s40, _⟩ hI
              obtain ⟨k40, rfl, q40, h, g40⟩ := IterN.pos hI
              dsimp only at h ⊢
              unfold split_Split_l40 at h
              refine wc_seq ?_
              refine wc_region ?_   -- region 14
              refine wl_det rfl rfl (det_lss rfl rfl) rfl ?_
              refine wl_nil ?_
              refine pn_then ?_
              refine wc_seq ?_
              refine wc_cond rfl (fun cd44 => ?_) (fun cd44 => ?_)
              · have h := ifT h cd44
                refine wc_skip ?_
                refine pn_then ?_
                refine wc_seq ?_
                refine wc_block ?_
                refine wc_seq ?_
                refine wc_region ?_   -- region 15
                refine wl_det rfl rfl (det_move rfl) rfl ?_
                refine wl_det rfl rfl (det_assign rfl) rfl ?_
                refine wl_nil ?_
                refine pn_then ?_
                refine wc_region ?_   -- region 16
                refine wl_det rfl rfl (det_move rfl) rfl ?_
                refine wl_det rfl rfl (det_move rfl) rfl ?_
                refine wl_det rfl rfl (det_move rfl) rfl ?_
                refine wl_det rfl rfl (det_move rfl) rfl ?_
                obtain ⟨k16_4, h⟩ := chk_some h
                refine wl_det rfl rfl (det_indexO rfl rfl m0 k16_4 un23 sz3) rfl ?_
                refine wl_det rfl rfl (det_loadO (off := 0) rfl m0 k16_4 (by rfl) (by rfl) (loaded_1 na3 us3)) rfl ?_
                refine wl_det rfl rfl (det_neg rfl) rfl ?_
                refine wl_det rfl rfl (det_indexO rfl rfl m0 k16_4 un23 sz3) rfl ?_
                refine wl_act0 (act_storeO (cells := [_]) (off := 0) (w64 (0 - (ix s40.1 s40.2))) rfl rfl rfl s0 k16_4 (by rfl) sz3 (by intro u hu; simp at hu; rcases hu with rfl <;> rfl) (stR_flat rfl rfl)) rfl rfl ?_
                rintro _ _ _ ⟨rfl, rfl⟩
                refine wl_nil ?_
                refine pn_block ?_
                refine pn_then ?_
                refine wc_region ?_   -- region 17
                refine wl_det rfl rfl (det_add rfl rfl) rfl ?_
                refine wl_det rfl rfl (det_move rfl) rfl ?_
                refine wl_nil ?_
                replace h := Option.some.inj h
                subst h
                exact pn_some (k40, ((upd s40.1 s40.2 (w64 (0 - (ix s40.1 s40.2)))), (w64 (s40.2 + 1))), ()) ⟨nextL g40, Nat.lt_succ_self _⟩ ⟨rfl, rfl, rfl, trivial⟩ (fun _ h => h.to ⟨_, r0, trivial⟩ trivial)
              · have h := ifF h cd44
                refine wc_exit ?_
                refine px_then ?_
                refine px_then ?_
                refine px_block ?_
                replace h := Option.some.inj h
                subst h
                replace g40 := nextR g40
                subst g40
                exact pn_meetG (s40.1, ()) rfl ⟨rfl, trivial⟩ (fun _ h => h.to ⟨_, r0, trivial⟩ trivial)
            rintro ⟨s36, _⟩ e36
            dsimp only at e36 ⊢
            subst e36
            have h := ho36
            refine wc_seq ?_
            refine wc_region ?_   -- region 18
            refine wl_det rfl rfl (det_move rfl) rfl ?_
            refine wl_det rfl rfl (det_assign rfl) rfl ?_
            refine wl_det rfl rfl (det_assign rfl) rfl ?_
            refine wl_nil ?_
            refine pn_then ?_
            refine wc_ret ?_
            replace h := Option.some.inj h
            subst h
            refine pn_ret (vs := [_, _]) rfl ⟨rfl, rfl, trivial⟩ ⟨y12_4A0, r12_4.length, y12_4c0, rfl, rfl, rfl⟩ (fun _ h => h.to ⟨_, r0, trivial⟩ trivial)
def Q_proportional_divide (r : (List Int) × Int) : Value → List Ent → List Fact → Prop := fun v θ κ => ∃ (pA0 : Option Addr), ∃ (pn0 : Nat), ∃ (pc0 : Nat), v = .tuple #[.slice pA0 pn0 pc0, .int .i64 r.2] ∧ θ = [eS (lInt .i64) 3 pA0 pn0 pc0 r.1] ∧ κ = []
theorem plains_proportional_divide {r : (List Int) × Int} : ∀ v θ κ, Q_proportional_divide r v θ κ → Plains θ := by
  rintro _ _ _ ⟨_, _, _, rfl, rfl, rfl⟩
  exact ⟨plain_eS, trivial⟩
set_option maxHeartbeats 4000000 in
set_option maxRecDepth 100000 in
theorem W_proportional_divide (a0 : GTreaty) (a1 : Int) (a2 : Int) (A0 : Option Addr) (n0 : Nat) (c0 : Nat) (A3 : Option Addr) (n3 : Nat) (c3 : Nat) (A6 : Option Addr) (n6 : Nat) (c6 : Nat) (A9 : Option Addr) (n9 : Nat) (c9 : Nat) (A12 : Option Addr) (n12 : Nat) (c12 : Nat) (r : (List Int) × Int) (h : proportional_divide a0 a1 a2 = some r) : Spec Try.prog 60 [.agg #[.int .i64 a0.ID, .int .i64 a0.Kind, .int .i64 a0.Period.From, .int .i64 a0.Period.To, .slice A0 n0 c0, .slice A3 n3 c3, .int .i64 a0.Risk, .int .i64 a0.Cession, .int .i64 a0.Line, .int .i64 a0.Lines, .int .i64 a0.Retention, .int .i64 a0.Limit, .int .i64 a0.Window, .int .i64 a0.Deductible, .int .i64 a0.Aggregate, .int .i64 a0.Premium, .slice A6 n6 c6, .bool a0.Timed, .int .i64 a0.Base, .slice A9 n9 c9, .slice A12 n12 c12], .int .i64 a1, .int .i64 a2] [] [fV (lSlice (lInt .i64)) (.slice A0 n0 c0) a0.Perils, fV (lSlice (lInt .i64)) (.slice A3 n3 c3) a0.Areas, fV (lSlice (lInt .i64)) (.slice A6 n6 c6) a0.Reinstatements, fV (lSlice (lInt .i64)) (.slice A9 n9 c9) a0.Inures, fV (lSlice lGPart) (.slice A12 n12 c12) a0.Parts] (Q_proportional_divide r) := by
  unfold proportional_divide at h
  refine spec_of (σ := [(0, _), (1, _), (2, _)]) Try.func60 rfl rfl rfl rfl ?_
  intro C
  refine wc_know (fun _ h => h.lenF m0) (fun e => ?_)
  subst e
  refine wc_know (fun _ h => h.lenF (ms m0)) (fun e => ?_)
  subst e
  refine wc_know (fun _ h => h.lenF (ms (ms m0))) (fun e => ?_)
  subst e
  refine wc_know (fun _ h => h.lenF (ms (ms (ms m0)))) (fun e => ?_)
  subst e
  refine wc_know (fun _ h => h.lenF (ms (ms (ms (ms m0))))) (fun e => ?_)
  subst e
  refine wc_seq ?_
  refine wc_region ?_   -- region 0
  refine wl_act (act_box (cs := [_, _, _, _, _, _, _, _, _, _, _, _, _, _, _, _, _, _, _, _, _]) rfl rfl) rfl rfl rfl ?_
  rintro _ _ _ ⟨b0_0, rfl, rfl, rfl⟩
  refine wl_det rfl rfl (det_assign rfl) rfl ?_
  refine wl_det rfl rfl (det_assign rfl) rfl ?_
  refine wl_nil ?_
  refine pn_then ?_
  refine wc_seq ?_
  refine wc_region ?_   -- region 1
  refine wl_det rfl rfl (det_loadN (cells := [_, _, _, _, _, _, _, _, _, _, _, _, _, _, _, _, _, _, _, _, _]) rfl m0 (by rfl) ag49 sz49) rfl ?_
  refine wl_det rfl rfl (det_move rfl) rfl ?_
  obtain ⟨r1_2, hr1_2, h⟩ := bind_some h
  refine wl_act (act_callS (cap := []) (W_proportional_Weights a0 a1 A0 a0.Perils.length c0 A3 a0.Areas.length c3 A6 a0.Reinstatements.length c6 A9 a0.Inures.length c9 A12 a0.Parts.length c12 r1_2 hr1_2) rfl rfl rfl bd31 rfl ⟨m0, ⟨(ms m0), ⟨(ms (ms m0)), ⟨(ms (ms (ms m0))), ⟨(ms (ms (ms (ms m0)))), trivial⟩⟩⟩⟩⟩) rfl rfl rfl ?_
  rintro _ _ _ ⟨_, _, ⟨y1_2A0, y1_2n0, y1_2c0, rfl, rfl, rfl⟩, rfl, rfl⟩
  dsimp only [List.nil_append, List.cons_append]
  refine wl_know (fun _ h => h.lenF m0) (fun e => ?_)
  subst e
  refine wl_det rfl rfl (det_move rfl) rfl ?_
  refine wl_det rfl rfl (det_extract rfl rfl) rfl ?_
  refine wl_det rfl rfl (det_extract rfl rfl) rfl ?_
  refine wl_det rfl rfl (det_assign rfl) rfl ?_
  refine wl_det rfl rfl (det_assign rfl) rfl ?_
  refine wl_nil ?_
  refine pn_then ?_
  refine wc_seq ?_
  refine wc_seq ?_
  refine wc_region ?_   -- region 2
  refine wl_det rfl rfl (det_move rfl) rfl ?_
  refine wl_det rfl rfl (det_neq rfl rfl) rfl ?_
  refine wl_nil ?_
  refine pn_then ?_
  refine wc_cond rfl (fun cd7 => ?_) (fun cd7 => ?_)
  · have h := ifT h cd7
    refine wc_seq ?_
    refine wc_region ?_   -- region 3
    refine wl_det rfl rfl (det_move rfl) rfl ?_
    refine wl_det rfl rfl (det_assign rfl) rfl ?_
    refine wl_det rfl rfl (det_assign rfl) rfl ?_
    refine wl_nil ?_
    refine pn_then ?_
    refine wc_ret ?_
    refine pr_then ?_
    refine pn_st (fun _ h => h.zeroS (lInt .i64) 3 none) ?_
    replace h := Option.some.inj h
    subst h
    refine pn_ret (vs := [_, _]) rfl ⟨rfl, rfl, trivial⟩ ⟨none, 0, 0, rfl, rfl, rfl⟩ (fun _ h => h.to ⟨_, r0, trivial⟩ trivial)
  · have h := ifF h cd7
    refine wc_skip ?_
    refine pn_then ?_
    refine wc_seq ?_
    refine wc_seq ?_
    refine wc_region ?_   -- region 4
    refine wl_det rfl rfl (det_move rfl) rfl ?_
    refine wl_det rfl rfl (det_lss rfl rfl) rfl ?_
    refine wl_det rfl rfl (det_move rfl) rfl ?_
    refine wl_way (decide (a2 < 0)) ((decide (a2 < 0)) || (decide (17592186044416 < a2))) 3 24 (fun hg => ?_) (fun hg => ?_) ?_
    · have hg4_5 := hg
      refine wl_off rfl rfl rfl rfl rfl hg4_5 rfl ?_
      refine wl_off rfl rfl rfl rfl rfl hg4_5 rfl ?_
      refine wl_det rfl rfl (det_or_on (r := (decide (17592186044416 < a2))) rfl rfl rfl hg4_5) rfl ?_
      exact wl_nil (pn_qnE (ext_cons rfl (ext_skip rfl (ext_skip rfl (ext_skip rfl ext_refl)))) (fun _ h => h))
    · have hg4_5a := hg
      refine wl_on rfl rfl rfl rfl hg4_5a ?_
      refine wl_det rfl rfl (det_move rfl) rfl ?_
      refine wl_on rfl rfl rfl rfl hg4_5a ?_
      refine wl_det rfl rfl (det_gtr rfl rfl) rfl ?_
      refine wl_det rfl rfl (det_or_off rfl rfl rfl hg4_5a) rfl ?_
      exact wl_nil (pn_qnE (ext_cons rfl (ext_skip rfl (ext_skip rfl (ext_skip rfl ext_refl)))) (fun _ h => h))
    refine wl_nil ?_
    refine pn_then ?_
    refine wc_cond rfl (fun cd13 => ?_) (fun cd13 => ?_)
    · have h := ifT h cd13
      refine wc_seq ?_
      refine wc_region ?_   -- region 5
      refine wl_det rfl rfl (det_assign rfl) rfl ?_
      refine wl_det rfl rfl (det_assign rfl) rfl ?_
      refine wl_nil ?_
      refine pn_then ?_
      refine wc_ret ?_
      refine pr_then ?_
      refine pn_st (fun _ h => h.zeroS (lInt .i64) 3 none) ?_
      replace h := Option.some.inj h
      subst h
      refine pn_ret (vs := [_, _]) rfl ⟨rfl, rfl, trivial⟩ ⟨none, 0, 0, rfl, rfl, rfl⟩ (fun _ h => h.to ⟨_, r0, trivial⟩ trivial)
    · have h := ifF h cd13
      refine wc_skip ?_
      refine pn_then ?_
      refine wc_seq ?_
      refine wc_region ?_   -- region 6
      refine wl_det rfl rfl (det_move rfl) rfl ?_
      refine wl_det rfl rfl (det_move rfl) rfl ?_
      obtain ⟨r6_2, hr6_2, h⟩ := bind_some h
      refine wl_act (act_callS (cap := []) (W_split_Split a2 r1_2.1 y1_2A0 r1_2.1.length y1_2c0 r6_2 hr6_2) rfl rfl rfl bd50 rfl ⟨m0, trivial⟩) rfl rfl rfl ?_
      rintro _ _ _ ⟨_, _, ⟨y6_2A0, y6_2n0, y6_2c0, rfl, rfl, rfl⟩, rfl, rfl⟩
      dsimp only [List.nil_append, List.cons_append]
      refine wl_know (fun _ h => h.lenO m0) (fun e => ?_)
      subst e
      refine wl_det rfl rfl (det_extract rfl rfl) rfl ?_
      refine wl_det rfl rfl (det_extract rfl rfl) rfl ?_
      refine wl_det rfl rfl (det_assign rfl) rfl ?_
      refine wl_det rfl rfl (det_assign rfl) rfl ?_
      refine wl_nil ?_
      refine pn_then ?_
      refine wc_ret ?_
      replace h := Option.some.inj h
      subst h
      refine pn_ret (vs := [_, _]) rfl ⟨rfl, rfl, trivial⟩ ⟨y6_2A0, r6_2.1.length, y6_2c0, rfl, rfl, rfl⟩ (fun _ h => h.to ⟨_, r0, trivial⟩ trivial)
def Q_proportional_Cede (r : GCession × Int) : Value → List Ent → List Fact → Prop := fun v θ κ => v = .tuple #[.agg #[.int .i64 r.1.Ceded, .int .i64 r.1.Kept, .int .i64 r.1.Excess], .int .i64 r.2] ∧ θ = [] ∧ κ = []
theorem plains_proportional_Cede {r : GCession × Int} : ∀ v θ κ, Q_proportional_Cede r v θ κ → Plains θ := by
  rintro _ _ _ ⟨rfl, rfl, rfl⟩
  exact trivial
set_option maxHeartbeats 4000000 in
set_option maxRecDepth 100000 in
theorem W_proportional_Cede (a0 : GTreaty) (a1 : Int) (a2 : Int) (A0 : Option Addr) (n0 : Nat) (c0 : Nat) (A3 : Option Addr) (n3 : Nat) (c3 : Nat) (A6 : Option Addr) (n6 : Nat) (c6 : Nat) (A9 : Option Addr) (n9 : Nat) (c9 : Nat) (A12 : Option Addr) (n12 : Nat) (c12 : Nat) (r : GCession × Int) (h : proportional_Cede a0 a1 a2 = some r) : Spec Try.prog 35 [.agg #[.int .i64 a0.ID, .int .i64 a0.Kind, .int .i64 a0.Period.From, .int .i64 a0.Period.To, .slice A0 n0 c0, .slice A3 n3 c3, .int .i64 a0.Risk, .int .i64 a0.Cession, .int .i64 a0.Line, .int .i64 a0.Lines, .int .i64 a0.Retention, .int .i64 a0.Limit, .int .i64 a0.Window, .int .i64 a0.Deductible, .int .i64 a0.Aggregate, .int .i64 a0.Premium, .slice A6 n6 c6, .bool a0.Timed, .int .i64 a0.Base, .slice A9 n9 c9, .slice A12 n12 c12], .int .i64 a1, .int .i64 a2] [] [fV (lSlice (lInt .i64)) (.slice A0 n0 c0) a0.Perils, fV (lSlice (lInt .i64)) (.slice A3 n3 c3) a0.Areas, fV (lSlice (lInt .i64)) (.slice A6 n6 c6) a0.Reinstatements, fV (lSlice (lInt .i64)) (.slice A9 n9 c9) a0.Inures, fV (lSlice lGPart) (.slice A12 n12 c12) a0.Parts] (Q_proportional_Cede r) := by
  unfold proportional_Cede at h
  refine spec_of (σ := [(0, _), (1, _), (2, _)]) Try.func35 rfl rfl rfl rfl ?_
  intro C
  refine wc_know (fun _ h => h.lenF m0) (fun e => ?_)
  subst e
  refine wc_know (fun _ h => h.lenF (ms m0)) (fun e => ?_)
  subst e
  refine wc_know (fun _ h => h.lenF (ms (ms m0))) (fun e => ?_)
  subst e
  refine wc_know (fun _ h => h.lenF (ms (ms (ms m0)))) (fun e => ?_)
  subst e
  refine wc_know (fun _ h => h.lenF (ms (ms (ms (ms m0))))) (fun e => ?_)
  subst e
  refine wc_seq ?_
  refine wc_region ?_   -- region 0
  refine wl_act (act_box (cs := [_, _, _, _, _, _, _, _, _, _, _, _, _, _, _, _, _, _, _, _, _]) rfl rfl) rfl rfl rfl ?_
  rintro _ _ _ ⟨b0_0, rfl, rfl, rfl⟩
  refine wl_act (act_alloc (cs := [_, _, _]) zr56 rfl) rfl rfl rfl ?_
  rintro _ _ _ ⟨b0_1, rfl, rfl, rfl⟩
  refine wl_det rfl rfl (det_assign rfl) rfl ?_
  refine wl_nil ?_
  refine pn_then ?_
  refine wc_seq ?_
  refine wc_region ?_   -- region 1
  refine wl_det rfl rfl (det_loadN (cells := [_, _, _, _, _, _, _, _, _, _, _, _, _, _, _, _, _, _, _, _, _]) rfl (ms m0) (by rfl) ag49 sz49) rfl ?_
  refine wl_det rfl rfl (det_move rfl) rfl ?_
  refine wl_det rfl rfl (det_move rfl) rfl ?_
  obtain ⟨r1_3, hr1_3, h⟩ := bind_some h
  refine wl_act (act_callS (cap := []) (W_proportional_divide a0 a1 a2 A0 a0.Perils.length c0 A3 a0.Areas.length c3 A6 a0.Reinstatements.length c6 A9 a0.Inures.length c9 A12 a0.Parts.length c12 r1_3 hr1_3) rfl rfl rfl bd60 rfl ⟨m0, ⟨(ms m0), ⟨(ms (ms m0)), ⟨(ms (ms (ms m0))), ⟨(ms (ms (ms (ms m0)))), trivial⟩⟩⟩⟩⟩) rfl rfl rfl ?_
  rintro _ _ _ ⟨_, _, ⟨y1_3A0, y1_3n0, y1_3c0, rfl, rfl, rfl⟩, rfl, rfl⟩
  dsimp only [List.nil_append, List.cons_append]
  refine wl_know (fun _ h => h.lenO m0) (fun e => ?_)
  subst e
  refine wl_det rfl rfl (det_move rfl) rfl ?_
  refine wl_det rfl rfl (det_extract rfl rfl) rfl ?_
  refine wl_det rfl rfl (det_extract rfl rfl) rfl ?_
  refine wl_det rfl rfl (det_assign rfl) rfl ?_
  refine wl_det rfl rfl (det_assign rfl) rfl ?_
  refine wl_nil ?_
  refine pn_then ?_
  refine wc_seq ?_
  refine wc_seq ?_
  refine wc_region ?_   -- region 2
  refine wl_det rfl rfl (det_move rfl) rfl ?_
  refine wl_det rfl rfl (det_neq rfl rfl) rfl ?_
  refine wl_nil ?_
  refine pn_then ?_
  refine wc_cond rfl (fun cd7 => ?_) (fun cd7 => ?_)
  · have h := ifT h cd7
    refine wc_seq ?_
    refine wc_region ?_   -- region 3
    refine wl_det rfl rfl (det_build (cs := [_, _, _]) pl56 zr56 rfl rfl (by rfl)) rfl ?_
    refine wl_det rfl rfl (det_move rfl) rfl ?_
    refine wl_act0 (act_store (cells := [_, _, _]) (cs' := [_, _, _]) rfl rfl rfl (ss s0) (by rfl) (of_decide_eq_true rfl) sz56 ⟨rfl, rfl, rfl, trivial⟩) rfl rfl ?_
    rintro _ _ _ ⟨rfl, rfl⟩
    refine wl_det rfl rfl (det_assign rfl) rfl ?_
    refine wl_nil ?_
    refine pn_then ?_
    refine wc_ret ?_
    refine pr_then ?_
    replace h := Option.some.inj h
    subst h
    refine pn_ret (vs := [_, _]) rfl ⟨⟨_, _, [_, _, _], rfl, (ms m0), ag56, sz56, rfl⟩, rfl, trivial⟩ ⟨rfl, rfl, rfl⟩ (fun _ h => h.to trivial trivial)
  · have h := ifF h cd7
    refine wc_skip ?_
    refine pn_then ?_
    refine wc_seq ?_
    obtain ⟨k4_p1, h⟩ := chk_some h
    obtain ⟨k4_p2, h⟩ := chk_some h
    obtain ⟨k4_p3, h⟩ := chk_some h
    refine dx_region 11 [[], [0], [0, 1], [], [3], [3, 4], [], [6], [6, 7], [0, 1, 2, 3, 4, 5, 6, 7, 8], [], [0, 1, 2, 3, 4, 5, 6, 7, 8, 9, 10]] mixed (ord := (.det 0 (.det 1 (.det 2 (.det 3 (.det 4 (.det 5 (.det 6 (.det 7 (.det 8 (.det 9 (.alt 10 .done .dead)))))))))))) (by kernel_rfl) ?_   -- region 4
    refine hx_det rfl rfl rfl nofun (det_move rfl) rfl ?_
    refine hx_det rfl rfl rfl nofun (det_indexO rfl rfl m0 k4_p1 un23 sz3) rfl ?_
    refine hx_det rfl rfl rfl nofun (det_loadO (off := 0) rfl m0 k4_p1 (by rfl) (by rfl) (loaded_1 na3 us3)) rfl ?_
    refine hx_det rfl rfl rfl nofun (det_move rfl) rfl ?_
    refine hx_det rfl rfl rfl nofun (det_indexO rfl rfl m0 k4_p2 un23 sz3) rfl ?_
    refine hx_det rfl rfl rfl nofun (det_loadO (off := 0) rfl m0 k4_p2 (by rfl) (by rfl) (loaded_1 na3 us3)) rfl ?_
    refine hx_det rfl rfl rfl nofun (det_move rfl) rfl ?_
    refine hx_det rfl rfl rfl nofun (det_indexO rfl rfl m0 k4_p3 un23 sz3) rfl ?_
    refine hx_det rfl rfl rfl nofun (det_loadO (off := 0) rfl m0 k4_p3 (by rfl) (by rfl) (loaded_1 na3 us3)) rfl ?_
    refine hx_det rfl rfl rfl nofun (det_build (cs := [_, _, _]) pl56 zr56 rfl rfl (by rfl)) rfl ?_
    refine hx_act rfl rfl rfl (act_alloc (cs := [_, _, _]) zr56 rfl) rfl (by rintro _ _ _ ⟨b4_10, rfl, rfl, rfl⟩; first | exact ⟨_ :: [], [], rfl, rfl⟩ | exact ⟨[], [_], rfl, rfl⟩ | exact ⟨[], [], rfl, rfl⟩) ?_
    rintro _ _ _ ⟨b4_10, rfl, rfl, rfl⟩
    refine hx_end ?_
    refine wl_act0 (act_store (cells := [_, _, _]) (cs' := [_, _, _]) rfl rfl rfl s0 (by rfl) (of_decide_eq_true rfl) sz56 ⟨rfl, rfl, rfl, trivial⟩) rfl rfl ?_
    rintro _ _ _ ⟨rfl, rfl⟩
    refine wl_nil ?_
    refine pn_then ?_
    obtain ⟨q12, h, ho12⟩ := bind_some h
    refine wc_meetG (G := (Int × Int) × Unit) (fun (s12, _) => s12 = q12) (fun (_, _) => [(6, .pointer (some ⟨b0_1, 0, none⟩)), (10, .pointer (some ⟨b4_10, 0, none⟩))]) (fun (s12, _) => [eBlk b0_1 56 [.int .i64 0, .int .i64 0, .int .i64 0], eBlk b4_10 56 [.int .i64 s12.1, .int .i64 (ix r1_3.1 0), .int .i64 s12.2]]) (fun (_, _) => []) ?_ ?_
    · refine wc_seq ?_
      refine wc_region ?_   -- region 5
      refine wl_det rfl rfl (det_field rfl fd49_1 rfl) rfl ?_
      refine wl_det rfl rfl (det_load rfl (ms (ms (ms m0))) (by rfl) na3 us3) rfl ?_
      refine wl_det rfl rfl (det_eql rfl rfl) rfl ?_
      refine wl_det rfl rfl (det_move rfl) rfl ?_
      refine wl_way (decide (a0.Kind = 1)) ((decide (a0.Kind = 1)) && (decide (0 < a0.Limit))) 4 39 (fun hg => ?_) (fun hg => ?_) ?_
      · have hg5_7 := hg
        refine wl_on rfl rfl rfl rfl hg5_7 ?_
        refine wl_det rfl rfl (det_field rfl fd49_10 rfl) rfl ?_
        refine wl_on rfl rfl rfl rfl hg5_7 ?_
        refine wl_det rfl rfl (det_load rfl (ms (ms (ms m0))) (by rfl) na3 us3) rfl ?_
        refine wl_on rfl rfl rfl rfl hg5_7 ?_
        refine wl_det rfl rfl (det_gtr rfl rfl) rfl ?_
        refine wl_det rfl rfl (det_and_on rfl rfl rfl hg5_7) rfl ?_
        exact wl_nil (pn_qnE (ext_cons rfl (ext_skip rfl (ext_skip rfl (ext_skip rfl (ext_skip rfl ext_refl))))) (fun _ h => h))
      · have hg5_7a := hg
        refine wl_off rfl rfl rfl rfl rfl hg5_7a rfl ?_
        refine wl_off rfl rfl rfl rfl rfl hg5_7a rfl ?_
        refine wl_off rfl rfl rfl rfl rfl hg5_7a rfl ?_
        refine wl_det rfl rfl (det_and_off (q := (decide (0 < a0.Limit))) rfl rfl rfl hg5_7a) rfl ?_
        exact wl_nil (pn_qnE (ext_cons rfl (ext_skip rfl (ext_skip rfl (ext_skip rfl (ext_skip rfl ext_refl))))) (fun _ h => h))
      refine wl_det rfl rfl (det_move rfl) rfl ?_
      refine wl_way ((decide (a0.Kind = 1)) && (decide (0 < a0.Limit))) (((decide (a0.Kind = 1)) && (decide (0 < a0.Limit))) && (decide (a0.Limit < (ix r1_3.1 1)))) 6 46 (fun hg => ?_) (fun hg => ?_) ?_
      · have hg5_14 := hg
        refine wl_on rfl rfl rfl rfl hg5_14 ?_
        refine wl_det rfl rfl (det_field rfl fd56_0 rfl) rfl ?_
        refine wl_on rfl rfl rfl rfl hg5_14 ?_
        refine wl_det rfl rfl (det_load rfl m0 (by rfl) na3 us3) rfl ?_
        refine wl_on rfl rfl rfl rfl hg5_14 ?_
        refine wl_det rfl rfl (det_field rfl fd49_10 rfl) rfl ?_
        refine wl_on rfl rfl rfl rfl hg5_14 ?_
        refine wl_det rfl rfl (det_load rfl (ms (ms (ms m0))) (by rfl) na3 us3) rfl ?_
        refine wl_on rfl rfl rfl rfl hg5_14 ?_
        refine wl_det rfl rfl (det_gtr rfl rfl) rfl ?_
        refine wl_det rfl rfl (det_and_on rfl rfl rfl hg5_14) rfl ?_
        exact wl_nil (pn_qnE (ext_cons rfl (ext_skip rfl (ext_skip rfl (ext_skip rfl (ext_skip rfl (ext_skip rfl (ext_skip rfl ext_refl))))))) (fun _ h => h))
      · have hg5_14a := hg
        refine wl_off rfl rfl rfl rfl rfl hg5_14a rfl ?_
        refine wl_off rfl rfl rfl rfl rfl hg5_14a rfl ?_
        refine wl_off rfl rfl rfl rfl rfl hg5_14a rfl ?_
        refine wl_off rfl rfl rfl rfl rfl hg5_14a rfl ?_
        refine wl_off rfl rfl rfl rfl rfl hg5_14a rfl ?_
        refine wl_det rfl rfl (det_and_off (q := (decide (a0.Limit < (ix r1_3.1 1)))) rfl rfl rfl hg5_14a) rfl ?_
        exact wl_nil (pn_qnE (ext_cons rfl (ext_skip rfl (ext_skip rfl (ext_skip rfl (ext_skip rfl (ext_skip rfl (ext_skip rfl ext_refl))))))) (fun _ h => h))
      refine wl_nil ?_
      refine pn_then ?_
      refine wc_cond rfl (fun cd15 => ?_) (fun cd15 => ?_)
      · have h := ifT h cd15
        refine wc_seq ?_
        refine wc_region ?_   -- region 6
        refine wl_det rfl rfl (det_field rfl fd56_2 rfl) rfl ?_
        refine wl_det rfl rfl (det_load rfl m0 (by rfl) na3 us3) rfl ?_
        refine wl_det rfl rfl (det_field rfl fd56_0 rfl) rfl ?_
        refine wl_det rfl rfl (det_load rfl m0 (by rfl) na3 us3) rfl ?_
        refine wl_det rfl rfl (det_field rfl fd49_10 rfl) rfl ?_
        refine wl_det rfl rfl (det_load rfl (ms (ms (ms m0))) (by rfl) na3 us3) rfl ?_
        refine wl_det rfl rfl (det_sub rfl rfl) rfl ?_
        refine wl_det rfl rfl (det_add rfl rfl) rfl ?_
        refine wl_det rfl rfl (det_field rfl fd56_2 rfl) rfl ?_
        refine wl_act0 (act_store (cells := [_]) (cs' := [_, _, _]) rfl rfl rfl s0 (by rfl) (of_decide_eq_true rfl) sz3 ⟨rfl, trivial⟩) rfl rfl ?_
        rintro _ _ _ ⟨rfl, rfl⟩
        refine wl_nil ?_
        refine pn_then ?_
        refine wc_region ?_   -- region 7
        refine wl_det rfl rfl (det_field rfl fd49_10 rfl) rfl ?_
        refine wl_det rfl rfl (det_load rfl (ms (ms (ms m0))) (by rfl) na3 us3) rfl ?_
        refine wl_det rfl rfl (det_field rfl fd56_0 rfl) rfl ?_
        refine wl_act0 (act_store (cells := [_]) (cs' := [_, _, _]) rfl rfl rfl s0 (by rfl) (of_decide_eq_true rfl) sz3 ⟨rfl, trivial⟩) rfl rfl ?_
        rintro _ _ _ ⟨rfl, rfl⟩
        refine wl_nil ?_
        replace h := Option.some.inj h
        subst h
        exact pn_meetG ((a0.Limit, (w64 ((ix r1_3.1 2) + (w64 ((ix r1_3.1 1) - a0.Limit))))), ()) rfl ⟨rfl, rfl, trivial⟩ (fun _ h => h.to ⟨_, (rs (rs r0)), ⟨_, r0, trivial⟩⟩ trivial)
      · have h := ifF h cd15
        refine wc_skip ?_
        replace h := Option.some.inj h
        subst h
        exact pn_meetG (((ix r1_3.1 1), (ix r1_3.1 2)), ()) rfl ⟨rfl, rfl, trivial⟩ (fun _ h => h.to ⟨_, (rs (rs r0)), ⟨_, r0, trivial⟩⟩ trivial)
    rintro ⟨s12, _⟩ e12
    dsimp only at e12 ⊢
    subst e12
    have h := ho12
    refine wc_seq ?_
    refine wc_region ?_   -- region 8
    refine wl_det rfl rfl (det_loadN (cells := [_, _, _]) rfl (ms m0) (by rfl) ag56 sz56) rfl ?_
    refine wl_act0 (act_store (cells := [_, _, _]) (cs' := [_, _, _]) rfl rfl rfl s0 (by rfl) (of_decide_eq_true rfl) sz56 ⟨rfl, rfl, rfl, trivial⟩) rfl rfl ?_
    rintro _ _ _ ⟨rfl, rfl⟩
    refine wl_det rfl rfl (det_assign rfl) rfl ?_
    refine wl_nil ?_
    refine pn_then ?_
    refine wc_ret ?_
    replace h := Option.some.inj h
    subst h
    refine pn_ret (vs := [_, _]) rfl ⟨⟨_, _, [_, _, _], rfl, m0, ag56, sz56, rfl⟩, rfl, trivial⟩ ⟨rfl, rfl, rfl⟩ (fun _ h => h.to trivial trivial)
def Q_treatylaw21_awake (r : Bool) : Value → List Ent → List Fact → Prop := fun v θ κ => v = .bool r ∧ θ = [] ∧ κ = []
theorem plains_treatylaw21_awake {r : Bool} : ∀ v θ κ, Q_treatylaw21_awake r v θ κ → Plains θ := by
  rintro _ _ _ ⟨rfl, rfl, rfl⟩
  exact trivial
set_option maxHeartbeats 4000000 in
set_option maxRecDepth 100000 in
theorem W_treatylaw21_awake (r : Bool) (h : treatylaw21_awake = some r) : Spec Try.prog 34 [] [] [] (Q_treatylaw21_awake r) := by
  unfold treatylaw21_awake at h
  refine spec_of (σ := []) Try.func34 rfl rfl rfl rfl ?_
  intro C
  refine wc_seq ?_
  refine wc_region ?_   -- region 0
  refine wl_det rfl rfl (det_assign rfl) rfl ?_
  refine wl_nil ?_
  refine pn_then ?_
  refine wc_seq ?_
  refine wc_region ?_   -- region 1
  refine wl_det rfl rfl (det_build (cs := [_, _]) pl47 zr47 rfl rfl (by rfl)) rfl ?_
  refine wl_det rfl rfl (det_build (cs := [_, _, _, _, _, _, _, _, _, _, _, _, _, _, _, _, _, _, _, _, _]) pl49 zr49 rfl rfl (by rfl)) rfl ?_
  refine wl_act (act_alloc (cs := [_, _, _, _, _, _, _, _, _, _, _, _, _, _, _, _, _, _, _, _, _]) zr49 rfl) rfl rfl rfl ?_
  rintro _ _ _ ⟨b1_2, rfl, rfl, rfl⟩
  refine wl_act0 (act_store (cells := [_, _, _, _, _, _, _, _, _, _, _, _, _, _, _, _, _, _, _, _, _]) (cs' := [_, _, _, _, _, _, _, _, _, _, _, _, _, _, _, _, _, _, _, _, _]) rfl rfl rfl s0 (by rfl) (of_decide_eq_true rfl) sz49 ⟨rfl, rfl, rfl, rfl, rfl, rfl, rfl, rfl, rfl, rfl, rfl, rfl, rfl, rfl, rfl, rfl, rfl, rfl, rfl, rfl, rfl, trivial⟩) rfl rfl ?_
  rintro _ _ _ ⟨rfl, rfl⟩
  refine wl_nil ?_
  refine pn_then ?_
  refine wc_seq ?_
  refine wc_region ?_   -- region 2
  refine wl_det rfl rfl (det_loadN (cells := [_, _, _, _, _, _, _, _, _, _, _, _, _, _, _, _, _, _, _, _, _]) rfl m0 (by rfl) ag49 sz49) rfl ?_
  refine wl_st (fun _ h => h.zeroF (lInt .i64) none 0) ?_
  refine wl_st (fun _ h => h.zeroF lGPart none 0) ?_
  obtain ⟨r2_1, hr2_1, h⟩ := bind_some h
  refine wl_act (act_callS (cap := []) (W_proportional_Cede (GTreaty.mk 1 2 (GPeriod.mk 0 9) [] [] 0 0 100 4 0 0 0 0 0 0 [] false 0 [] []) 1000 50 none 0 0 none 0 0 none 0 0 none 0 0 none 0 0 r2_1 hr2_1) rfl rfl rfl bd35 rfl ⟨(ms m0), ⟨(ms m0), ⟨(ms m0), ⟨(ms m0), ⟨m0, trivial⟩⟩⟩⟩⟩) rfl rfl rfl ?_
  rintro _ _ _ ⟨_, _, ⟨rfl, rfl, rfl⟩, rfl, rfl⟩
  dsimp only [List.nil_append, List.cons_append]
  refine wl_det rfl rfl (det_move rfl) rfl ?_
  refine wl_det rfl rfl (det_extract rfl rfl) rfl ?_
  refine wl_det rfl rfl (det_extract rfl rfl) rfl ?_
  refine wl_act (act_alloc (cs := [_, _, _]) zr56 rfl) rfl rfl rfl ?_
  rintro _ _ _ ⟨b2_5, rfl, rfl, rfl⟩
  refine wl_act0 (act_store (cells := [_, _, _]) (cs' := [_, _, _]) rfl rfl rfl s0 (by rfl) (of_decide_eq_true rfl) sz56 ⟨rfl, rfl, rfl, trivial⟩) rfl rfl ?_
  rintro _ _ _ ⟨rfl, rfl⟩
  refine wl_det rfl rfl (det_assign rfl) rfl ?_
  refine wl_nil ?_
  refine pn_then ?_
  refine wc_seq ?_
  refine wc_region ?_   -- region 3
  refine wl_det rfl rfl (det_loadN (cells := [_, _, _, _, _, _, _, _, _, _, _, _, _, _, _, _, _, _, _, _, _]) rfl (ms m0) (by rfl) ag49 sz49) rfl ?_
  obtain ⟨r3_1, hr3_1, h⟩ := bind_some h
  refine wl_act (act_callS (cap := []) (W_proportional_Cede (GTreaty.mk 1 2 (GPeriod.mk 0 9) [] [] 0 0 100 4 0 0 0 0 0 0 [] false 0 [] []) 80 50 none 0 0 none 0 0 none 0 0 none 0 0 none 0 0 r3_1 hr3_1) rfl rfl rfl bd35 rfl ⟨(ms m0), ⟨(ms m0), ⟨(ms m0), ⟨(ms m0), ⟨m0, trivial⟩⟩⟩⟩⟩) rfl rfl rfl ?_
  rintro _ _ _ ⟨_, _, ⟨rfl, rfl, rfl⟩, rfl, rfl⟩
  dsimp only [List.nil_append, List.cons_append]
  refine wl_det rfl rfl (det_move rfl) rfl ?_
  refine wl_det rfl rfl (det_extract rfl rfl) rfl ?_
  refine wl_det rfl rfl (det_extract rfl rfl) rfl ?_
  refine wl_act (act_alloc (cs := [_, _, _]) zr56 rfl) rfl rfl rfl ?_
  rintro _ _ _ ⟨b3_5, rfl, rfl, rfl⟩
  refine wl_act0 (act_store (cells := [_, _, _]) (cs' := [_, _, _]) rfl rfl rfl s0 (by rfl) (of_decide_eq_true rfl) sz56 ⟨rfl, rfl, rfl, trivial⟩) rfl rfl ?_
  rintro _ _ _ ⟨rfl, rfl⟩
  refine wl_det rfl rfl (det_assign rfl) rfl ?_
  refine wl_nil ?_
  refine pn_then ?_
  refine wc_seq ?_
  refine wc_region ?_   -- region 4
  refine wl_det rfl rfl (det_move rfl) rfl ?_
  refine wl_det rfl rfl (det_eql rfl rfl) rfl ?_
  refine wl_det rfl rfl (det_move rfl) rfl ?_
  refine wl_way (decide (r2_1.2 = 0)) ((decide (r2_1.2 = 0)) && (decide (r3_1.2 = 0))) 3 23 (fun hg => ?_) (fun hg => ?_) ?_
  · have hg4_5 := hg
    refine wl_on rfl rfl rfl rfl hg4_5 ?_
    refine wl_det rfl rfl (det_move rfl) rfl ?_
    refine wl_on rfl rfl rfl rfl hg4_5 ?_
    refine wl_det rfl rfl (det_eql rfl rfl) rfl ?_
    refine wl_det rfl rfl (det_and_on rfl rfl rfl hg4_5) rfl ?_
    exact wl_nil (pn_qnE (ext_cons rfl (ext_skip rfl (ext_skip rfl (ext_skip rfl ext_refl)))) (fun _ h => h))
  · have hg4_5a := hg
    refine wl_off rfl rfl rfl rfl rfl hg4_5a rfl ?_
    refine wl_off rfl rfl rfl rfl rfl hg4_5a rfl ?_
    refine wl_det rfl rfl (det_and_off (q := (decide (r3_1.2 = 0))) rfl rfl rfl hg4_5a) rfl ?_
    exact wl_nil (pn_qnE (ext_cons rfl (ext_skip rfl (ext_skip rfl (ext_skip rfl ext_refl)))) (fun _ h => h))
  refine wl_det rfl rfl (det_move rfl) rfl ?_
  refine wl_way ((decide (r2_1.2 = 0)) && (decide (r3_1.2 = 0))) (((decide (r2_1.2 = 0)) && (decide (r3_1.2 = 0))) && (decide ([r2_1.1.Ceded, r2_1.1.Kept, r2_1.1.Excess] = [20, 5, 25]))) 4 28 (fun hg => ?_) (fun hg => ?_) ?_
  · have hg4_10 := hg
    refine wl_on rfl rfl rfl rfl hg4_10 ?_
    refine wl_det rfl rfl (det_loadN (cells := [_, _, _]) rfl (ms m0) (by rfl) ag56 sz56) rfl ?_
    refine wl_on rfl rfl rfl rfl hg4_10 ?_
    refine wl_det rfl rfl (det_build (cs := [_, _, _]) pl56 zr56 rfl rfl (by rfl)) rfl ?_
    refine wl_on rfl rfl rfl rfl hg4_10 ?_
    refine wl_det rfl rfl (det_eqlS [_, _, _] [_, _, _] eq56 rfl rfl rfl rfl) rfl ?_
    refine wl_det rfl rfl (det_and_on rfl rfl rfl hg4_10) rfl ?_
    exact wl_nil (pn_qnE (ext_cons rfl (ext_skip rfl (ext_skip rfl (ext_skip rfl (ext_skip rfl ext_refl))))) (fun _ h => h))
  · have hg4_10a := hg
    refine wl_off rfl rfl rfl rfl rfl hg4_10a rfl ?_
    refine wl_off rfl rfl rfl rfl rfl hg4_10a rfl ?_
    refine wl_off rfl rfl rfl rfl rfl hg4_10a rfl ?_
    refine wl_det rfl rfl (det_and_off (q := (decide ([r2_1.1.Ceded, r2_1.1.Kept, r2_1.1.Excess] = [20, 5, 25]))) rfl rfl rfl hg4_10a) rfl ?_
    exact wl_nil (pn_qnE (ext_cons rfl (ext_skip rfl (ext_skip rfl (ext_skip rfl (ext_skip rfl ext_refl))))) (fun _ h => h))
  refine wl_det rfl rfl (det_move rfl) rfl ?_
  refine wl_way (((decide (r2_1.2 = 0)) && (decide (r3_1.2 = 0))) && (decide ([r2_1.1.Ceded, r2_1.1.Kept, r2_1.1.Excess] = [20, 5, 25]))) ((((decide (r2_1.2 = 0)) && (decide (r3_1.2 = 0))) && (decide ([r2_1.1.Ceded, r2_1.1.Kept, r2_1.1.Excess] = [20, 5, 25]))) && (decide ([r3_1.1.Ceded, r3_1.1.Kept, r3_1.1.Excess] = [0, 50, 0]))) 4 33 (fun hg => ?_) (fun hg => ?_) ?_
  · have hg4_15 := hg
    refine wl_on rfl rfl rfl rfl hg4_15 ?_
    refine wl_det rfl rfl (det_loadN (cells := [_, _, _]) rfl m0 (by rfl) ag56 sz56) rfl ?_
    refine wl_on rfl rfl rfl rfl hg4_15 ?_
    refine wl_det rfl rfl (det_build (cs := [_, _, _]) pl56 zr56 rfl rfl (by rfl)) rfl ?_
    refine wl_on rfl rfl rfl rfl hg4_15 ?_
    refine wl_det rfl rfl (det_eqlS [_, _, _] [_, _, _] eq56 rfl rfl rfl rfl) rfl ?_
    refine wl_det rfl rfl (det_and_on rfl rfl rfl hg4_15) rfl ?_
    exact wl_nil (pn_qnE (ext_cons rfl (ext_skip rfl (ext_skip rfl (ext_skip rfl (ext_skip rfl ext_refl))))) (fun _ h => h))
  · have hg4_15a := hg
    refine wl_off rfl rfl rfl rfl rfl hg4_15a rfl ?_
    refine wl_off rfl rfl rfl rfl rfl hg4_15a rfl ?_
    refine wl_off rfl rfl rfl rfl rfl hg4_15a rfl ?_
    refine wl_det rfl rfl (det_and_off (q := (decide ([r3_1.1.Ceded, r3_1.1.Kept, r3_1.1.Excess] = [0, 50, 0]))) rfl rfl rfl hg4_15a) rfl ?_
    exact wl_nil (pn_qnE (ext_cons rfl (ext_skip rfl (ext_skip rfl (ext_skip rfl (ext_skip rfl ext_refl))))) (fun _ h => h))
  refine wl_det rfl rfl (det_assign rfl) rfl ?_
  refine wl_nil ?_
  refine pn_then ?_
  refine wc_ret ?_
  replace h := Option.some.inj h
  subst h
  refine pn_ret (vs := [_]) rfl ⟨rfl, trivial⟩ ⟨rfl, rfl, rfl⟩ (fun _ h => h.to trivial trivial)
def Q_treatylaw21_ProportionalWeights (r : Bool) : Value → List Ent → List Fact → Prop := fun v θ κ => v = .bool r ∧ θ = [] ∧ κ = []
theorem plains_treatylaw21_ProportionalWeights {r : Bool} : ∀ v θ κ, Q_treatylaw21_ProportionalWeights r v θ κ → Plains θ := by
  rintro _ _ _ ⟨rfl, rfl, rfl⟩
  exact trivial
set_option maxHeartbeats 4000000 in
set_option maxRecDepth 100000 in
theorem W_treatylaw21_ProportionalWeights (a0 : (List Int)) (a1 : Int) (a2 : Int) (A0 : Option Addr) (n0 : Nat) (c0 : Nat) (r : Bool) (h : treatylaw21_ProportionalWeights a0 a1 a2 = some r) : Spec Try.prog 8 [.slice A0 n0 c0, .int .i64 a1, .int .u8 a2] [] [fV (lSlice (lInt .i64)) (.slice A0 n0 c0) a0] (Q_treatylaw21_ProportionalWeights r) := by
  unfold treatylaw21_ProportionalWeights at h
  refine spec_of (σ := [(0, _), (1, _), (2, _)]) Try.func8 rfl rfl rfl rfl ?_
  intro C
  refine wc_know (fun _ h => h.lenF m0) (fun e => ?_)
  subst e
  refine wc_seq ?_
  refine wc_region ?_   -- region 0
  refine wl_det rfl rfl (det_assign rfl) rfl ?_
  refine wl_nil ?_
  refine pn_then ?_
  refine wc_seq ?_
  refine wc_region ?_   -- region 1
  refine wl_det rfl rfl (det_move rfl) rfl ?_
  obtain ⟨r1_1, hr1_1, h⟩ := bind_some h
  refine wl_act (act_callS (cap := []) (W_treatylaw21_made a0 A0 a0.length c0 r1_1 hr1_1) rfl rfl rfl bd30 rfl ⟨m0, trivial⟩) rfl rfl rfl ?_
  rintro _ _ _ ⟨_, _, ⟨y1_1A0, y1_1n0, y1_1c0, y1_1A1, y1_1n1, y1_1c1, y1_1A2, y1_1n2, y1_1c2, y1_1A3, y1_1n3, y1_1c3, y1_1A4, y1_1n4, y1_1c4, y1_1b5, y1_1A6, y1_1n6, y1_1c6, rfl, rfl, rfl⟩, rfl, rfl⟩
  dsimp only [List.nil_append, List.cons_append]
  refine wl_know (fun _ h => h.lenO m0) (fun e => ?_)
  subst e
  refine wl_know (fun _ h => h.lenO (ms m0)) (fun e => ?_)
  subst e
  refine wl_know (fun _ h => h.lenO (ms (ms m0))) (fun e => ?_)
  subst e
  refine wl_know (fun _ h => h.lenO (ms (ms (ms m0)))) (fun e => ?_)
  subst e
  refine wl_know (fun _ h => h.lenO (ms (ms (ms (ms m0))))) (fun e => ?_)
  subst e
  refine wl_know (fun _ h => h.lenF m0) (fun e => ?_)
  subst e
  refine wl_det rfl rfl (det_move rfl) rfl ?_
  refine wl_det rfl rfl (det_extract rfl rfl) rfl ?_
  refine wl_det rfl rfl (det_extract rfl rfl) rfl ?_
  refine wl_act (act_alloc (cs := [_, _, _, _, _, _, _, _, _, _, _, _, _, _, _, _, _, _, _, _, _]) zr49 rfl) rfl rfl rfl ?_
  rintro _ _ _ ⟨b1_5, rfl, rfl, rfl⟩
  refine wl_act0 (act_store (cells := [_, _, _, _, _, _, _, _, _, _, _, _, _, _, _, _, _, _, _, _, _]) (cs' := [_, _, _, _, _, _, _, _, _, _, _, _, _, _, _, _, _, _, _, _, _]) rfl rfl rfl s0 (by rfl) (of_decide_eq_true rfl) sz49 ⟨rfl, rfl, rfl, rfl, rfl, rfl, rfl, rfl, rfl, rfl, rfl, rfl, rfl, rfl, rfl, rfl, rfl, rfl, rfl, rfl, rfl, trivial⟩) rfl rfl ?_
  rintro _ _ _ ⟨rfl, rfl⟩
  refine wl_det rfl rfl (det_assign rfl) rfl ?_
  refine wl_nil ?_
  refine pn_then ?_
  refine wc_seq ?_
  refine wc_region ?_   -- region 2
  refine wl_det rfl rfl (det_loadN (cells := [_, _, _, _, _, _, _, _, _, _, _, _, _, _, _, _, _, _, _, _, _]) rfl m0 (by rfl) ag49 sz49) rfl ?_
  refine wl_det rfl rfl (det_move rfl) rfl ?_
  refine wl_st (fun _ h => h.shutS (rs r0)) ?_
  refine wl_st (fun _ h => h.shutS (rs r0)) ?_
  refine wl_st (fun _ h => h.shutS (rs r0)) ?_
  refine wl_st (fun _ h => h.shutS (rs r0)) ?_
  refine wl_st (fun _ h => h.shutS (rs r0)) ?_
  obtain ⟨r2_2, hr2_2, h⟩ := bind_some h
  refine wl_act (act_callS (cap := []) (W_proportional_Weights r1_1.1 a1 y1_1A0 r1_1.1.Perils.length y1_1c0 y1_1A1 r1_1.1.Areas.length y1_1c1 y1_1A2 r1_1.1.Reinstatements.length y1_1c2 y1_1A3 r1_1.1.Inures.length y1_1c3 y1_1A4 r1_1.1.Parts.length y1_1c4 r2_2 hr2_2) rfl rfl rfl bd31 rfl ⟨(ms (ms (ms (ms m0)))), ⟨(ms (ms (ms m0))), ⟨(ms (ms m0)), ⟨(ms m0), ⟨m0, trivial⟩⟩⟩⟩⟩) rfl rfl rfl ?_
  rintro _ _ _ ⟨_, _, ⟨y2_2A0, y2_2n0, y2_2c0, rfl, rfl, rfl⟩, rfl, rfl⟩
  dsimp only [List.nil_append, List.cons_append]
  refine wl_know (fun _ h => h.lenF m0) (fun e => ?_)
  subst e
  refine wl_det rfl rfl (det_move rfl) rfl ?_
  refine wl_det rfl rfl (det_extract rfl rfl) rfl ?_
  refine wl_det rfl rfl (det_extract rfl rfl) rfl ?_
  refine wl_det rfl rfl (det_assign rfl) rfl ?_
  refine wl_det rfl rfl (det_assign rfl) rfl ?_
  refine wl_nil ?_
  refine pn_then ?_
  refine wc_seq ?_
  refine wc_region ?_   -- region 3
  refine wl_det rfl rfl (det_loadN (cells := [_, _, _, _, _, _, _, _, _, _, _, _, _, _, _, _, _, _, _, _, _]) rfl m0 (by rfl) ag49 sz49) rfl ?_
  refine wl_det rfl rfl (det_move rfl) rfl ?_
  obtain ⟨r3_2, hr3_2, h⟩ := bind_some h
  refine wl_act (act_callS (cap := []) (W_treatyref20_Weights r1_1.1 a1 y1_1A0 r1_1.1.Perils.length y1_1c0 y1_1A1 r1_1.1.Areas.length y1_1c1 y1_1A2 r1_1.1.Reinstatements.length y1_1c2 y1_1A3 r1_1.1.Inures.length y1_1c3 y1_1A4 r1_1.1.Parts.length y1_1c4 r3_2 hr3_2) rfl rfl rfl bd32 rfl ⟨(ms (ms (ms (ms (ms m0))))), ⟨(ms (ms (ms (ms m0)))), ⟨(ms (ms (ms m0))), ⟨(ms (ms m0)), ⟨(ms m0), trivial⟩⟩⟩⟩⟩) rfl rfl rfl ?_
  rintro _ _ _ ⟨_, _, ⟨y3_2A0, y3_2n0, y3_2c0, rfl, rfl, rfl⟩, rfl, rfl⟩
  dsimp only [List.nil_append, List.cons_append]
  refine wl_know (fun _ h => h.lenO m0) (fun e => ?_)
  subst e
  refine wl_det rfl rfl (det_move rfl) rfl ?_
  refine wl_det rfl rfl (det_extract rfl rfl) rfl ?_
  refine wl_det rfl rfl (det_extract rfl rfl) rfl ?_
  refine wl_det rfl rfl (det_assign rfl) rfl ?_
  refine wl_det rfl rfl (det_assign rfl) rfl ?_
  refine wl_nil ?_
  refine pn_then ?_
  refine wc_seq ?_
  refine wc_region ?_   -- region 4
  refine wl_det rfl rfl (det_move rfl) rfl ?_
  obtain ⟨r4_1, hr4_1, h⟩ := bind_some h
  refine wl_act (act_callS (cap := []) (W_treatymade_Deck_Upto r1_1.2 68719476736 y1_1b5 y1_1A6 r1_1.2.L.length y1_1c6 r4_1 hr4_1) rfl rfl rfl bd28 ⟨_, (rs (rs r0)), rfl⟩ ⟨(ms (ms (ms (ms (ms (ms m0)))))), trivial⟩) rfl rfl rfl ?_
  rintro _ _ _ ⟨_, _, ⟨y4_1A0, y4_1n0, y4_1c0, rfl, rfl, rfl⟩, rfl, rfl⟩
  dsimp only [List.nil_append, List.cons_append]
  refine wl_know (fun _ h => h.lenF m0) (fun e => ?_)
  subst e
  refine wl_det rfl rfl (det_assign rfl) rfl ?_
  refine wl_nil ?_
  refine pn_then ?_
  refine wc_seq ?_
  refine wc_region ?_   -- region 5
  refine wl_det rfl rfl (det_loadN (cells := [_, _, _, _, _, _, _, _, _, _, _, _, _, _, _, _, _, _, _, _, _]) rfl (ms (ms m0)) (by rfl) ag49 sz49) rfl ?_
  refine wl_det rfl rfl (det_move rfl) rfl ?_
  obtain ⟨r5_2, hr5_2, h⟩ := bind_some h
  refine wl_act (act_callS (cap := []) (W_proportional_Weights r1_1.1 r4_1.1 y1_1A0 r1_1.1.Perils.length y1_1c0 y1_1A1 r1_1.1.Areas.length y1_1c1 y1_1A2 r1_1.1.Reinstatements.length y1_1c2 y1_1A3 r1_1.1.Inures.length y1_1c3 y1_1A4 r1_1.1.Parts.length y1_1c4 r5_2 hr5_2) rfl rfl rfl bd31 rfl ⟨(ms (ms (ms (ms (ms (ms m0)))))), ⟨(ms (ms (ms (ms (ms m0))))), ⟨(ms (ms (ms (ms m0)))), ⟨(ms (ms (ms m0))), ⟨(ms (ms m0)), trivial⟩⟩⟩⟩⟩) rfl rfl rfl ?_
  rintro _ _ _ ⟨_, _, ⟨y5_2A0, y5_2n0, y5_2c0, rfl, rfl, rfl⟩, rfl, rfl⟩
  dsimp only [List.nil_append, List.cons_append]
  refine wl_know (fun _ h => h.lenF m0) (fun e => ?_)
  subst e
  refine wl_det rfl rfl (det_move rfl) rfl ?_
  refine wl_det rfl rfl (det_extract rfl rfl) rfl ?_
  refine wl_det rfl rfl (det_extract rfl rfl) rfl ?_
  refine wl_det rfl rfl (det_assign rfl) rfl ?_
  refine wl_det rfl rfl (det_assign rfl) rfl ?_
  refine wl_nil ?_
  refine pn_then ?_
  refine wc_seq ?_
  refine wc_region ?_   -- region 6
  refine wl_det rfl rfl (det_loadN (cells := [_, _, _, _, _, _, _, _, _, _, _, _, _, _, _, _, _, _, _, _, _]) rfl (ms (ms m0)) (by rfl) ag49 sz49) rfl ?_
  refine wl_det rfl rfl (det_move rfl) rfl ?_
  obtain ⟨r6_2, hr6_2, h⟩ := bind_some h
  refine wl_act (act_callS (cap := []) (W_treatyref20_Weights r1_1.1 r4_1.1 y1_1A0 r1_1.1.Perils.length y1_1c0 y1_1A1 r1_1.1.Areas.length y1_1c1 y1_1A2 r1_1.1.Reinstatements.length y1_1c2 y1_1A3 r1_1.1.Inures.length y1_1c3 y1_1A4 r1_1.1.Parts.length y1_1c4 r6_2 hr6_2) rfl rfl rfl bd32 rfl ⟨(ms (ms (ms (ms (ms (ms (ms m0))))))), ⟨(ms (ms (ms (ms (ms (ms m0)))))), ⟨(ms (ms (ms (ms (ms m0))))), ⟨(ms (ms (ms (ms m0)))), ⟨(ms (ms (ms m0))), trivial⟩⟩⟩⟩⟩) rfl rfl rfl ?_
  rintro _ _ _ ⟨_, _, ⟨y6_2A0, y6_2n0, y6_2c0, rfl, rfl, rfl⟩, rfl, rfl⟩
  dsimp only [List.nil_append, List.cons_append]
  refine wl_know (fun _ h => h.lenO m0) (fun e => ?_)
  subst e
  refine wl_det rfl rfl (det_move rfl) rfl ?_
  refine wl_det rfl rfl (det_extract rfl rfl) rfl ?_
  refine wl_det rfl rfl (det_extract rfl rfl) rfl ?_
  refine wl_det rfl rfl (det_assign rfl) rfl ?_
  refine wl_det rfl rfl (det_assign rfl) rfl ?_
  refine wl_nil ?_
  refine pn_then ?_
  refine wc_seq ?_
  refine wc_region ?_   -- region 7
  refine wl_det rfl rfl (det_move rfl) rfl ?_
  refine wl_det rfl rfl (det_move rfl) rfl ?_
  obtain ⟨r7_2, hr7_2, h⟩ := bind_some h
  refine wl_act (act_callS (cap := []) (W_treatylaw21_anyTreaty a0 a2 A0 a0.length c0 r7_2 hr7_2) rfl rfl rfl bd33 rfl ⟨(ms (ms (ms (ms (ms (ms (ms (ms (ms m0))))))))), trivial⟩) rfl rfl rfl ?_
  rintro _ _ _ ⟨_, _, ⟨y7_2A0, y7_2n0, y7_2c0, y7_2A1, y7_2n1, y7_2c1, y7_2A2, y7_2n2, y7_2c2, y7_2A3, y7_2n3, y7_2c3, y7_2A4, y7_2n4, y7_2c4, rfl, rfl, rfl⟩, rfl, rfl⟩
  dsimp only [List.nil_append, List.cons_append]
  refine wl_know (fun _ h => h.lenO m0) (fun e => ?_)
  subst e
  refine wl_know (fun _ h => h.lenO (ms m0)) (fun e => ?_)
  subst e
  refine wl_know (fun _ h => h.lenO (ms (ms m0))) (fun e => ?_)
  subst e
  refine wl_know (fun _ h => h.lenO (ms (ms (ms m0)))) (fun e => ?_)
  subst e
  refine wl_know (fun _ h => h.lenO (ms (ms (ms (ms m0))))) (fun e => ?_)
  subst e
  refine wl_act (act_alloc (cs := [_, _, _, _, _, _, _, _, _, _, _, _, _, _, _, _, _, _, _, _, _]) zr49 rfl) rfl rfl rfl ?_
  rintro _ _ _ ⟨b7_3, rfl, rfl, rfl⟩
  refine wl_act0 (act_store (cells := [_, _, _, _, _, _, _, _, _, _, _, _, _, _, _, _, _, _, _, _, _]) (cs' := [_, _, _, _, _, _, _, _, _, _, _, _, _, _, _, _, _, _, _, _, _]) rfl rfl rfl s0 (by rfl) (of_decide_eq_true rfl) sz49 ⟨rfl, rfl, rfl, rfl, rfl, rfl, rfl, rfl, rfl, rfl, rfl, rfl, rfl, rfl, rfl, rfl, rfl, rfl, rfl, rfl, rfl, trivial⟩) rfl rfl ?_
  rintro _ _ _ ⟨rfl, rfl⟩
  refine wl_nil ?_
  refine pn_then ?_
  refine wc_seq ?_
  refine wc_region ?_   -- region 8
  refine wl_det rfl rfl (det_loadN (cells := [_, _, _, _, _, _, _, _, _, _, _, _, _, _, _, _, _, _, _, _, _]) rfl m0 (by rfl) ag49 sz49) rfl ?_
  refine wl_det rfl rfl (det_move rfl) rfl ?_
  refine wl_st (fun _ h => h.shutS (rs r0)) ?_
  refine wl_st (fun _ h => h.shutS (rs r0)) ?_
  refine wl_st (fun _ h => h.shutS (rs r0)) ?_
  refine wl_st (fun _ h => h.shutS (rs r0)) ?_
  refine wl_st (fun _ h => h.shutS (rs r0)) ?_
  obtain ⟨r8_2, hr8_2, h⟩ := bind_some h
  refine wl_act (act_callS (cap := []) (W_proportional_Weights r7_2 r4_1.1 y7_2A0 r7_2.Perils.length y7_2c0 y7_2A1 r7_2.Areas.length y7_2c1 y7_2A2 r7_2.Reinstatements.length y7_2c2 y7_2A3 r7_2.Inures.length y7_2c3 y7_2A4 r7_2.Parts.length y7_2c4 r8_2 hr8_2) rfl rfl rfl bd31 rfl ⟨(ms (ms (ms (ms m0)))), ⟨(ms (ms (ms m0))), ⟨(ms (ms m0)), ⟨(ms m0), ⟨m0, trivial⟩⟩⟩⟩⟩) rfl rfl rfl ?_
  rintro _ _ _ ⟨_, _, ⟨y8_2A0, y8_2n0, y8_2c0, rfl, rfl, rfl⟩, rfl, rfl⟩
  dsimp only [List.nil_append, List.cons_append]
  refine wl_know (fun _ h => h.lenF m0) (fun e => ?_)
  subst e
  refine wl_det rfl rfl (det_move rfl) rfl ?_
  refine wl_det rfl rfl (det_extract rfl rfl) rfl ?_
  refine wl_det rfl rfl (det_extract rfl rfl) rfl ?_
  refine wl_det rfl rfl (det_assign rfl) rfl ?_
  refine wl_det rfl rfl (det_assign rfl) rfl ?_
  refine wl_nil ?_
  refine pn_then ?_
  refine wc_seq ?_
  refine wc_region ?_   -- region 9
  refine wl_det rfl rfl (det_loadN (cells := [_, _, _, _, _, _, _, _, _, _, _, _, _, _, _, _, _, _, _, _, _]) rfl m0 (by rfl) ag49 sz49) rfl ?_
  refine wl_det rfl rfl (det_move rfl) rfl ?_
  obtain ⟨r9_2, hr9_2, h⟩ := bind_some h
  refine wl_act (act_callS (cap := []) (W_treatyref20_Weights r7_2 r4_1.1 y7_2A0 r7_2.Perils.length y7_2c0 y7_2A1 r7_2.Areas.length y7_2c1 y7_2A2 r7_2.Reinstatements.length y7_2c2 y7_2A3 r7_2.Inures.length y7_2c3 y7_2A4 r7_2.Parts.length y7_2c4 r9_2 hr9_2) rfl rfl rfl bd32 rfl ⟨(ms (ms (ms (ms (ms m0))))), ⟨(ms (ms (ms (ms m0)))), ⟨(ms (ms (ms m0))), ⟨(ms (ms m0)), ⟨(ms m0), trivial⟩⟩⟩⟩⟩) rfl rfl rfl ?_
  rintro _ _ _ ⟨_, _, ⟨y9_2A0, y9_2n0, y9_2c0, rfl, rfl, rfl⟩, rfl, rfl⟩
  dsimp only [List.nil_append, List.cons_append]
  refine wl_know (fun _ h => h.lenO m0) (fun e => ?_)
  subst e
  refine wl_det rfl rfl (det_move rfl) rfl ?_
  refine wl_det rfl rfl (det_extract rfl rfl) rfl ?_
  refine wl_det rfl rfl (det_extract rfl rfl) rfl ?_
  refine wl_det rfl rfl (det_assign rfl) rfl ?_
  refine wl_det rfl rfl (det_assign rfl) rfl ?_
  refine wl_nil ?_
  refine pn_then ?_
  refine wc_seq ?_
  refine wc_region ?_   -- region 10
  refine wl_det rfl rfl (det_move rfl) rfl ?_
  refine wl_det rfl rfl (det_move rfl) rfl ?_
  obtain ⟨r10_2, hr10_2, h⟩ := bind_some h
  refine wl_act (act_callL (cap := []) [eS (lInt .i64) 3 y3_2A0 r3_2.1.length y3_2c0 r3_2.1] (W_treatyref01_SameInts r2_2.1 r3_2.1 y2_2A0 r2_2.1.length y2_2c0 y3_2A0 r3_2.1.length y3_2c0 r10_2 hr10_2) plains_treatyref01_SameInts rfl rfl rfl bd24 rfl ⟨(ms (ms (ms (ms m0)))), trivial⟩ ⟨.inl (ms (ms (ms (ms (ms (ms (ms (ms m0)))))))), ⟨.inr ⟨_, m0, lent_eS⟩, trivial⟩⟩) rfl rfl rfl ?_
  rintro _ _ _ ⟨_, _, ⟨rfl, rfl, rfl⟩, rfl, rfl⟩
  dsimp only [List.nil_append, List.cons_append]
  refine wl_det rfl rfl (det_move rfl) rfl ?_
  refine wl_way r10_2 (r10_2 && (decide (r2_2.2 = r3_2.2))) 4 76 (fun hg => ?_) (fun hg => ?_) ?_
  · have hg10_7 := hg
    refine wl_on rfl rfl rfl rfl hg10_7 ?_
    refine wl_det rfl rfl (det_move rfl) rfl ?_
    refine wl_on rfl rfl rfl rfl hg10_7 ?_
    refine wl_det rfl rfl (det_move rfl) rfl ?_
    refine wl_on rfl rfl rfl rfl hg10_7 ?_
    refine wl_det rfl rfl (det_eql rfl rfl) rfl ?_
    refine wl_det rfl rfl (det_and_on rfl rfl rfl hg10_7) rfl ?_
    exact wl_nil (pn_qnE (ext_cons rfl (ext_skip rfl (ext_skip rfl (ext_skip rfl (ext_skip rfl ext_refl))))) (fun _ h => h))
  · have hg10_7a := hg
    refine wl_off rfl rfl rfl rfl rfl hg10_7a rfl ?_
    refine wl_off rfl rfl rfl rfl rfl hg10_7a rfl ?_
    refine wl_off rfl rfl rfl rfl rfl hg10_7a rfl ?_
    refine wl_det rfl rfl (det_and_off (q := (decide (r2_2.2 = r3_2.2))) rfl rfl rfl hg10_7a) rfl ?_
    exact wl_nil (pn_qnE (ext_cons rfl (ext_skip rfl (ext_skip rfl (ext_skip rfl (ext_skip rfl ext_refl))))) (fun _ h => h))
  refine wl_det rfl rfl (det_move rfl) rfl ?_
  obtain ⟨q10_12, hq10_12, h⟩ := bind_some h
  have ho10_12 := h
  refine wl_way (r10_2 && (decide (r2_2.2 = r3_2.2))) q10_12 4 81 (fun hg => ?_) (fun hg => ?_) ?_
  · have hg10_12 := hg
    have h := ifT hq10_12 hg
    refine wl_on rfl rfl rfl rfl hg10_12 ?_
    refine wl_det rfl rfl (det_move rfl) rfl ?_
    refine wl_on rfl rfl rfl rfl hg10_12 ?_
    refine wl_det rfl rfl (det_move rfl) rfl ?_
    refine wl_on rfl rfl rfl rfl hg10_12 ?_
    obtain ⟨r10_11, hr10_11, h⟩ := bind_some h
    refine wl_act (act_callL (cap := []) [eS (lInt .i64) 3 y6_2A0 r6_2.1.length y6_2c0 r6_2.1] (W_treatyref01_SameInts r5_2.1 r6_2.1 y5_2A0 r5_2.1.length y5_2c0 y6_2A0 r6_2.1.length y6_2c0 r10_11 hr10_11) plains_treatyref01_SameInts rfl rfl rfl bd24 rfl ⟨(ms (ms m0)), trivial⟩ ⟨.inl (ms (ms (ms (ms (ms (ms m0)))))), ⟨.inr ⟨_, m0, lent_eS⟩, trivial⟩⟩) rfl rfl rfl ?_
    rintro _ _ _ ⟨_, _, ⟨rfl, rfl, rfl⟩, rfl, rfl⟩
    dsimp only [List.nil_append, List.cons_append]
    replace h := Option.some.inj h
    subst h
    refine wl_det rfl rfl (det_pick_on rfl hg10_12 rfl rfl) rfl ?_
    exact wl_nil (pn_qnE (ext_cons rfl (ext_skip rfl (ext_skip rfl (ext_skip rfl (ext_skip rfl ext_refl))))) (fun _ h => h))
  · have hg10_12a := hg
    have h := ifF hq10_12 hg
    refine wl_off rfl rfl rfl rfl rfl hg10_12a rfl ?_
    refine wl_off rfl rfl rfl rfl rfl hg10_12a rfl ?_
    refine wl_off rfl rfl rfl rfl rfl hg10_12a rfl ?_
    replace h := Option.some.inj h
    subst h
    refine wl_det rfl rfl (det_pick_off rfl hg10_12a rfl rfl) rfl ?_
    exact wl_nil (pn_qnE (ext_cons rfl (ext_skip rfl (ext_skip rfl (ext_skip rfl (ext_skip rfl ext_refl))))) (fun _ h => h))
  have h := ho10_12
  refine wl_det rfl rfl (det_move rfl) rfl ?_
  refine wl_way q10_12 (q10_12 && (decide (r5_2.2 = r6_2.2))) 4 86 (fun hg => ?_) (fun hg => ?_) ?_
  · have hg10_17 := hg
    refine wl_on rfl rfl rfl rfl hg10_17 ?_
    refine wl_det rfl rfl (det_move rfl) rfl ?_
    refine wl_on rfl rfl rfl rfl hg10_17 ?_
    refine wl_det rfl rfl (det_move rfl) rfl ?_
    refine wl_on rfl rfl rfl rfl hg10_17 ?_
    refine wl_det rfl rfl (det_eql rfl rfl) rfl ?_
    refine wl_det rfl rfl (det_and_on rfl rfl rfl hg10_17) rfl ?_
    exact wl_nil (pn_qnE (ext_cons rfl (ext_skip rfl (ext_skip rfl (ext_skip rfl (ext_skip rfl ext_refl))))) (fun _ h => h))
  · have hg10_17a := hg
    refine wl_off rfl rfl rfl rfl rfl hg10_17a rfl ?_
    refine wl_off rfl rfl rfl rfl rfl hg10_17a rfl ?_
    refine wl_off rfl rfl rfl rfl rfl hg10_17a rfl ?_
    refine wl_det rfl rfl (det_and_off (q := (decide (r5_2.2 = r6_2.2))) rfl rfl rfl hg10_17a) rfl ?_
    exact wl_nil (pn_qnE (ext_cons rfl (ext_skip rfl (ext_skip rfl (ext_skip rfl (ext_skip rfl ext_refl))))) (fun _ h => h))
  refine wl_det rfl rfl (det_move rfl) rfl ?_
  obtain ⟨q10_22, hq10_22, h⟩ := bind_some h
  have ho10_22 := h
  refine wl_way (q10_12 && (decide (r5_2.2 = r6_2.2))) q10_22 4 91 (fun hg => ?_) (fun hg => ?_) ?_
  · have hg10_22 := hg
    have h := ifT hq10_22 hg
    refine wl_on rfl rfl rfl rfl hg10_22 ?_
    refine wl_det rfl rfl (det_move rfl) rfl ?_
    refine wl_on rfl rfl rfl rfl hg10_22 ?_
    refine wl_det rfl rfl (det_move rfl) rfl ?_
    refine wl_on rfl rfl rfl rfl hg10_22 ?_
    obtain ⟨r10_21, hr10_21, h⟩ := bind_some h
    refine wl_act (act_callL (cap := []) [eS (lInt .i64) 3 y9_2A0 r9_2.1.length y9_2c0 r9_2.1] (W_treatyref01_SameInts r8_2.1 r9_2.1 y8_2A0 r8_2.1.length y8_2c0 y9_2A0 r9_2.1.length y9_2c0 r10_21 hr10_21) plains_treatyref01_SameInts rfl rfl rfl bd24 rfl ⟨m0, trivial⟩ ⟨.inl m0, ⟨.inr ⟨_, m0, lent_eS⟩, trivial⟩⟩) rfl rfl rfl ?_
    rintro _ _ _ ⟨_, _, ⟨rfl, rfl, rfl⟩, rfl, rfl⟩
    dsimp only [List.nil_append, List.cons_append]
    replace h := Option.some.inj h
    subst h
    refine wl_det rfl rfl (det_pick_on rfl hg10_22 rfl rfl) rfl ?_
    exact wl_nil (pn_qnE (ext_cons rfl (ext_skip rfl (ext_skip rfl (ext_skip rfl (ext_skip rfl ext_refl))))) (fun _ h => h))
  · have hg10_22a := hg
    have h := ifF hq10_22 hg
    refine wl_off rfl rfl rfl rfl rfl hg10_22a rfl ?_
    refine wl_off rfl rfl rfl rfl rfl hg10_22a rfl ?_
    refine wl_off rfl rfl rfl rfl rfl hg10_22a rfl ?_
    replace h := Option.some.inj h
    subst h
    refine wl_det rfl rfl (det_pick_off rfl hg10_22a rfl rfl) rfl ?_
    exact wl_nil (pn_qnE (ext_cons rfl (ext_skip rfl (ext_skip rfl (ext_skip rfl (ext_skip rfl ext_refl))))) (fun _ h => h))
  have h := ho10_22
  refine wl_det rfl rfl (det_move rfl) rfl ?_
  refine wl_way q10_22 (q10_22 && (decide (r8_2.2 = r9_2.2))) 4 96 (fun hg => ?_) (fun hg => ?_) ?_
  · have hg10_27 := hg
    refine wl_on rfl rfl rfl rfl hg10_27 ?_
    refine wl_det rfl rfl (det_move rfl) rfl ?_
    refine wl_on rfl rfl rfl rfl hg10_27 ?_
    refine wl_det rfl rfl (det_move rfl) rfl ?_
    refine wl_on rfl rfl rfl rfl hg10_27 ?_
    refine wl_det rfl rfl (det_eql rfl rfl) rfl ?_
    refine wl_det rfl rfl (det_and_on rfl rfl rfl hg10_27) rfl ?_
    exact wl_nil (pn_qnE (ext_cons rfl (ext_skip rfl (ext_skip rfl (ext_skip rfl (ext_skip rfl ext_refl))))) (fun _ h => h))
  · have hg10_27a := hg
    refine wl_off rfl rfl rfl rfl rfl hg10_27a rfl ?_
    refine wl_off rfl rfl rfl rfl rfl hg10_27a rfl ?_
    refine wl_off rfl rfl rfl rfl rfl hg10_27a rfl ?_
    refine wl_det rfl rfl (det_and_off (q := (decide (r8_2.2 = r9_2.2))) rfl rfl rfl hg10_27a) rfl ?_
    exact wl_nil (pn_qnE (ext_cons rfl (ext_skip rfl (ext_skip rfl (ext_skip rfl (ext_skip rfl ext_refl))))) (fun _ h => h))
  refine wl_det rfl rfl (det_move rfl) rfl ?_
  obtain ⟨q10_30, hq10_30, h⟩ := bind_some h
  have ho10_30 := h
  refine wl_way (q10_22 && (decide (r8_2.2 = r9_2.2))) q10_30 2 99 (fun hg => ?_) (fun hg => ?_) ?_
  · have hg10_30 := hg
    have h := ifT hq10_30 hg
    refine wl_on rfl rfl rfl rfl hg10_30 ?_
    obtain ⟨r10_29, hr10_29, h⟩ := bind_some h
    refine wl_act (act_callS (cap := []) (W_treatylaw21_awake r10_29 hr10_29) rfl rfl rfl bd34 rfl trivial) rfl rfl rfl ?_
    rintro _ _ _ ⟨_, _, ⟨rfl, rfl, rfl⟩, rfl, rfl⟩
    dsimp only [List.nil_append, List.cons_append]
    replace h := Option.some.inj h
    subst h
    refine wl_det rfl rfl (det_pick_on rfl hg10_30 rfl rfl) rfl ?_
    exact wl_nil (pn_qnE (ext_cons rfl (ext_skip rfl (ext_skip rfl ext_refl))) (fun _ h => h))
  · have hg10_30a := hg
    have h := ifF hq10_30 hg
    refine wl_off rfl rfl rfl rfl rfl hg10_30a rfl ?_
    replace h := Option.some.inj h
    subst h
    refine wl_det rfl rfl (det_pick_off rfl hg10_30a rfl rfl) rfl ?_
    exact wl_nil (pn_qnE (ext_cons rfl (ext_skip rfl (ext_skip rfl ext_refl))) (fun _ h => h))
  have h := ho10_30
  refine wl_det rfl rfl (det_assign rfl) rfl ?_
  refine wl_nil ?_
  refine pn_then ?_
  refine wc_ret ?_
  replace h := Option.some.inj h
  subst h
  refine pn_ret (vs := [_]) rfl ⟨rfl, trivial⟩ ⟨rfl, rfl, rfl⟩ (fun _ h => h.to trivial trivial)
end Go.Proofs.Ytlmhmpngjfjfhaa
