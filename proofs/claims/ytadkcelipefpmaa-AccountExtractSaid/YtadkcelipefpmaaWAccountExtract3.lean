/- That functions of the program compute the plain programs of P. Written by a small program. -/
import Derived.Test.YtadkcelipefpmaaWAccountExtract2
namespace Go.Proofs.Ytadkcelipefpmaa
open Go.RowKit
def Q_treatyref33_SameEntries (r : Bool) : Value → List Ent → List Fact → Prop := fun v θ κ => v = .bool r ∧ θ = [] ∧ κ = []
theorem plains_treatyref33_SameEntries {r : Bool} : ∀ v θ κ, Q_treatyref33_SameEntries r v θ κ → Plains θ := by
  rintro _ _ _ ⟨rfl, rfl, rfl⟩
  exact trivial
set_option maxHeartbeats 4000000 in
set_option maxRecDepth 100000 in
theorem W_treatyref33_SameEntries (a0 : (List GEntry)) (a1 : (List GEntry)) (A0 : Option Addr) (n0 : Nat) (c0 : Nat) (A3 : Option Addr) (n3 : Nat) (c3 : Nat) (r : Bool) (h : treatyref33_SameEntries a0 a1 = some r) : Spec Try.prog 28 [.slice A0 n0 c0, .slice A3 n3 c3] [] [fV (lSlice lGEntry) (.slice A0 n0 c0) a0, fV (lSlice lGEntry) (.slice A3 n3 c3) a1] (Q_treatyref33_SameEntries r) := by
  unfold treatyref33_SameEntries at h
  refine spec_of (σ := [(0, _), (1, _)]) Try.func28 rfl rfl rfl rfl ?_
  intro C
  refine wc_know (fun _ h => h.lenF m0) (fun e => ?_)
  subst e
  refine wc_know (fun _ h => h.lenF (ms m0)) (fun e => ?_)
  subst e
  refine wc_seq ?_
  refine wc_region ?_   -- region 0
  refine wl_det rfl rfl (det_assign rfl) rfl ?_
  refine wl_nil ?_
  refine pn_then ?_
  refine wc_seq ?_
  refine wc_seq ?_
  refine wc_region ?_   -- region 1
  refine wl_det rfl rfl (det_move rfl) rfl ?_
  refine wl_det rfl rfl (det_len rfl un37) rfl ?_
  refine wl_det rfl rfl (det_move rfl) rfl ?_
  refine wl_det rfl rfl (det_len rfl un37) rfl ?_
  refine wl_det rfl rfl (det_neq rfl rfl) rfl ?_
  refine wl_nil ?_
  refine pn_then ?_
  refine wc_cond rfl (fun cd5 => ?_) (fun cd5 => ?_)
  · have h := ifT h cd5
    refine wc_seq ?_
    refine wc_region ?_   -- region 2
    refine wl_det rfl rfl (det_assign rfl) rfl ?_
    refine wl_nil ?_
    refine pn_then ?_
    refine wc_ret ?_
    refine pr_then ?_
    replace h := Option.some.inj h
    subst h
    refine pn_ret (vs := [_]) rfl ⟨rfl, trivial⟩ ⟨rfl, rfl, rfl⟩ (fun _ h => h.to trivial trivial)
  · have h := ifF h cd5
    refine wc_skip ?_
    refine pn_then ?_
    obtain ⟨q8, h, ho8⟩ := bind_some h
    refine wc_meetG (G := Unit × Unit) (fun (s8, _) => (.inl s8) = q8) (fun (_, _) => []) (fun (_, _) => []) (fun (_, _) => []) ?_ ?_
    · refine wc_seq ?_
      refine wc_region ?_   -- region 3
      refine wl_det rfl rfl (det_move rfl) rfl ?_
      refine wl_det rfl rfl (det_len rfl un37) rfl ?_
      refine wl_det rfl rfl (det_move rfl) rfl ?_
      refine wl_nil ?_
      refine pn_then ?_
      refine wc_block ?_
      obtain ⟨o12, h, ho12⟩ := bind_some h
      obtain ⟨k12, hk12⟩ := loopV_some.1 h
      refine wc_loop (G := Nat × Int × Unit) (fun g => IterN (treatyref33_SameEntries_l12 a0 a1) g.1 g.2.1 o12) (fun g => g.1) (fun (_, s12, _) => [(0, .slice A0 a0.length c0), (1, .slice A3 a1.length c3), (12, .int .i64 (a0.length : Int)), (13, .int .i64 s12)]) (fun (_, _, _) => []) (fun (_, _, _) => [fV (lSlice lGEntry) (.slice A0 a0.length c0) a0, fV (lSlice lGEntry) (.slice A3 a1.length c3) a1]) (k12, 0, ()) hk12 ⟨rfl, rfl, rfl, rfl, trivial⟩ (fun _ h => h.to trivial ⟨m0, ⟨(ms m0), trivial⟩⟩) ?_
      rintro ⟨k12, s12, _⟩ hI
      obtain ⟨k12, rfl, q12, h, g12⟩ := IterN.pos hI
      dsimp only at h ⊢
      unfold treatyref33_SameEntries_l12 at h
      refine wc_seq ?_
      refine wc_region ?_   -- region 4
      refine wl_det rfl rfl (det_lss rfl rfl) rfl ?_
      refine wl_nil ?_
      refine pn_then ?_
      refine wc_seq ?_
      refine wc_cond rfl (fun cd16 => ?_) (fun cd16 => ?_)
      · have h := ifT h cd16
        refine wc_skip ?_
        refine pn_then ?_
        refine wc_seq ?_
        refine wc_block ?_
        refine wc_seq ?_
        refine wc_region ?_   -- region 5
        refine wl_det rfl rfl (det_move rfl) rfl ?_
        refine wl_det rfl rfl (det_assign rfl) rfl ?_
        refine wl_nil ?_
        refine pn_then ?_
        refine wc_seq ?_
        obtain ⟨k6_p1, h⟩ := chk_some h
        refine wc_st (fun _ h => h.openF m0 k6_p1) ?_
        obtain ⟨k6_p3, h⟩ := chk_some h
        refine wc_st (fun _ h => h.openF (ms (ms m0)) k6_p3) ?_
        refine dx_region 9 [[], [], [0, 1], [0, 1, 2], [], [], [4, 5], [4, 5, 6], [0, 1, 2, 3, 4, 5, 6, 7]] mixed (ord := (.det 0 (.det 1 (.det 2 (.det 3 (.det 4 (.det 5 (.det 6 (.det 7 (.det 8 .done)))))))))) (by kernel_rfl) ?_   -- region 6
        refine hx_det rfl rfl rfl nofun (det_move rfl) rfl ?_
        refine hx_det rfl rfl rfl nofun (det_move rfl) rfl ?_
        refine hx_det rfl rfl rfl nofun (det_indexP rfl rfl (ms (ms m0)) k6_p1 (ms m0) un37 sz41) rfl ?_
        refine hx_det rfl rfl rfl nofun (det_loadP (off := 0) rfl (ms m0) (by rfl) (by rfl) (loaded_n (cells := [_, _, _, _, _]) ag41 sz41)) rfl ?_
        refine hx_det rfl rfl rfl nofun (det_move rfl) rfl ?_
        refine hx_det rfl rfl rfl nofun (det_move rfl) rfl ?_
        refine hx_det rfl rfl rfl nofun (det_indexP rfl rfl (ms (ms (ms m0))) k6_p3 m0 un37 sz41) rfl ?_
        refine hx_det rfl rfl rfl nofun (det_loadP (off := 0) rfl m0 (by rfl) (by rfl) (loaded_n (cells := [_, _, _, _, _]) ag41 sz41)) rfl ?_
        refine hx_det rfl rfl rfl nofun (det_neqS [_, _, _, _, _] [_, _, _, _, _] eq41 rfl rfl rfl rfl) rfl ?_
        refine hx_end ?_
        refine wl_nil ?_
        refine pn_then ?_
        refine wc_cond rfl (fun cd24 => ?_) (fun cd24 => ?_)
        · have h := ifT h cd24
          refine wc_seq ?_
          refine wc_region ?_   -- region 7
          refine wl_det rfl rfl (det_assign rfl) rfl ?_
          refine wl_nil ?_
          refine pn_then ?_
          refine wc_ret ?_
          refine pr_block ?_
          refine pr_then ?_
          refine pr_then ?_
          refine pr_block ?_
          refine pr_then ?_
          replace h := Option.some.inj h
          subst h
          replace g12 := nextR g12
          subst g12
          have h := (elimL ho12)
          replace h := Option.some.inj h
          subst h
          have h := (elimR ho8)
          replace h := Option.some.inj h
          subst h
          refine pn_ret (vs := [_]) rfl ⟨rfl, trivial⟩ ⟨rfl, rfl, rfl⟩ (fun _ h => h.to trivial trivial)
        · have h := ifF h cd24
          refine wc_skip ?_
          refine pn_block ?_
          refine pn_then ?_
          refine wc_region ?_   -- region 8
          refine wl_det rfl rfl (det_add rfl rfl) rfl ?_
          refine wl_det rfl rfl (det_move rfl) rfl ?_
          refine wl_nil ?_
          replace h := Option.some.inj h
          subst h
          exact pn_some (k12, (w64 (s12 + 1)), ()) ⟨nextL g12, Nat.lt_succ_self _⟩ ⟨rfl, rfl, rfl, rfl, trivial⟩ (fun _ h => h.to trivial ⟨(ms (ms m0)), ⟨(ms (ms (ms m0))), trivial⟩⟩)
      · have h := ifF h cd16
        refine wc_exit ?_
        refine px_then ?_
        refine px_then ?_
        refine px_block ?_
        replace h := Option.some.inj h
        subst h
        replace g12 := nextR g12
        subst g12
        have h := (elimR ho12)
        replace h := Option.some.inj h
        subst h
        exact pn_meetG ((), ()) rfl trivial (fun _ h => h.to trivial trivial)
    rintro ⟨s8, _⟩ e8
    dsimp only at e8 ⊢
    subst e8
    have h := (elimL ho8)
    refine wc_seq ?_
    refine wc_region ?_   -- region 9
    refine wl_det rfl rfl (det_assign rfl) rfl ?_
    refine wl_nil ?_
    refine pn_then ?_
    refine wc_ret ?_
    replace h := Option.some.inj h
    subst h
    refine pn_ret (vs := [_]) rfl ⟨rfl, trivial⟩ ⟨rfl, rfl, rfl⟩ (fun _ h => h.to trivial trivial)
def Q_account_Statement_c1_c1 (Ba1 : Nat) (Ba2 : Nat) (Ba3 : Nat) (a1 : Int) (a2 : Int) (a3 : Int) (r : Bool) : Value → List Ent → List Fact → Prop := fun v θ κ => v = .bool r ∧ θ = [eBlk Ba1 3 [.int .i64 a1], eBlk Ba2 3 [.int .i64 a2], eBlk Ba3 3 [.int .i64 a3]] ∧ κ = []
theorem plains_account_Statement_c1_c1 {Ba1 : Nat} {Ba2 : Nat} {Ba3 : Nat} {a1 : Int} {a2 : Int} {a3 : Int} {r : Bool} : ∀ v θ κ, Q_account_Statement_c1_c1 Ba1 Ba2 Ba3 a1 a2 a3 r v θ κ → Plains θ := by
  rintro _ _ _ ⟨rfl, rfl, rfl⟩
  exact ⟨plain_eBlk, plain_eBlk, plain_eBlk, trivial⟩
set_option maxHeartbeats 4000000 in
set_option maxRecDepth 100000 in
theorem W_account_Statement_c1_c1 (a0 : GPosting) (a1 : Int) (a2 : Int) (a3 : Int) (Ba1 : Nat) (Ba2 : Nat) (Ba3 : Nat) (r : Bool) (h : account_Statement_c1_c1 a0 a1 a2 a3 = some r) : Spec Try.prog 66 [.agg #[.int .i64 a0.Number, .int .i64 a0.Period, .int .i64 a0.Entry.Kind, .int .i64 a0.Entry.Treaty, .int .i64 a0.Entry.Party, .int .i64 a0.Entry.Loss, .int .i64 a0.Entry.Amount], .pointer (some ⟨Ba1, 0, none⟩), .pointer (some ⟨Ba2, 0, none⟩), .pointer (some ⟨Ba3, 0, none⟩)] [eBlk Ba1 3 [.int .i64 a1], eBlk Ba2 3 [.int .i64 a2], eBlk Ba3 3 [.int .i64 a3]] [] (Q_account_Statement_c1_c1 Ba1 Ba2 Ba3 a1 a2 a3 r) := by
  unfold account_Statement_c1_c1 at h
  refine spec_of (σ := [(0, _), (1, _), (2, _), (3, _)]) Try.func66 rfl rfl rfl rfl ?_
  intro C
  refine wc_seq ?_
  refine wc_region ?_   -- region 0
  refine wl_act (act_box (cs := [_, _, _, _, _, _, _]) rfl rfl) rfl rfl rfl ?_
  rintro _ _ _ ⟨b0_0, rfl, rfl, rfl⟩
  refine wl_det rfl rfl (det_assign rfl) rfl ?_
  refine wl_nil ?_
  refine pn_then ?_
  refine wc_seq ?_
  refine wc_region ?_   -- region 1
  refine wl_det rfl rfl (det_field rfl fd73_2 rfl) rfl ?_
  refine wl_det rfl rfl (det_field rfl fd41_1 rfl) rfl ?_
  refine wl_det rfl rfl (det_load rfl m0 (by rfl) na3 us3) rfl ?_
  refine wl_det rfl rfl (det_load rfl (ms m0) (by rfl) na3 us3) rfl ?_
  refine wl_det rfl rfl (det_eql rfl rfl) rfl ?_
  refine wl_det rfl rfl (det_move rfl) rfl ?_
  refine wl_way (decide (a0.Entry.Treaty = a1)) ((decide (a0.Entry.Treaty = a1)) && (decide (a0.Entry.Party = a2))) 6 17 (fun hg => ?_) (fun hg => ?_) ?_
  · have hg1_11 := hg
    refine wl_on rfl rfl rfl rfl hg1_11 ?_
    refine wl_det rfl rfl (det_field rfl fd73_2 rfl) rfl ?_
    refine wl_on rfl rfl rfl rfl hg1_11 ?_
    refine wl_det rfl rfl (det_field rfl fd41_2 rfl) rfl ?_
    refine wl_on rfl rfl rfl rfl hg1_11 ?_
    refine wl_det rfl rfl (det_load rfl m0 (by rfl) na3 us3) rfl ?_
    refine wl_on rfl rfl rfl rfl hg1_11 ?_
    refine wl_det rfl rfl (det_load rfl (ms (ms m0)) (by rfl) na3 us3) rfl ?_
    refine wl_on rfl rfl rfl rfl hg1_11 ?_
    refine wl_det rfl rfl (det_eql rfl rfl) rfl ?_
    refine wl_det rfl rfl (det_and_on rfl rfl rfl hg1_11) rfl ?_
    exact wl_nil (pn_qnE (ext_cons rfl (ext_skip rfl (ext_skip rfl (ext_skip rfl (ext_skip rfl (ext_skip rfl (ext_skip rfl ext_refl))))))) (fun _ h => h))
  · have hg1_11a := hg
    refine wl_off rfl rfl rfl rfl rfl hg1_11a rfl ?_
    refine wl_off rfl rfl rfl rfl rfl hg1_11a rfl ?_
    refine wl_off rfl rfl rfl rfl rfl hg1_11a rfl ?_
    refine wl_off rfl rfl rfl rfl rfl hg1_11a rfl ?_
    refine wl_off rfl rfl rfl rfl rfl hg1_11a rfl ?_
    refine wl_det rfl rfl (det_and_off (q := (decide (a0.Entry.Party = a2))) rfl rfl rfl hg1_11a) rfl ?_
    exact wl_nil (pn_qnE (ext_cons rfl (ext_skip rfl (ext_skip rfl (ext_skip rfl (ext_skip rfl (ext_skip rfl (ext_skip rfl ext_refl))))))) (fun _ h => h))
  refine wl_det rfl rfl (det_move rfl) rfl ?_
  refine wl_way ((decide (a0.Entry.Treaty = a1)) && (decide (a0.Entry.Party = a2))) (((decide (a0.Entry.Treaty = a1)) && (decide (a0.Entry.Party = a2))) && (decide (a0.Period < a3))) 5 23 (fun hg => ?_) (fun hg => ?_) ?_
  · have hg1_17 := hg
    refine wl_on rfl rfl rfl rfl hg1_17 ?_
    refine wl_det rfl rfl (det_field rfl fd73_1 rfl) rfl ?_
    refine wl_on rfl rfl rfl rfl hg1_17 ?_
    refine wl_det rfl rfl (det_load rfl m0 (by rfl) na3 us3) rfl ?_
    refine wl_on rfl rfl rfl rfl hg1_17 ?_
    refine wl_det rfl rfl (det_load rfl (ms (ms (ms m0))) (by rfl) na3 us3) rfl ?_
    refine wl_on rfl rfl rfl rfl hg1_17 ?_
    refine wl_det rfl rfl (det_lss rfl rfl) rfl ?_
    refine wl_det rfl rfl (det_and_on rfl rfl rfl hg1_17) rfl ?_
    exact wl_nil (pn_qnE (ext_cons rfl (ext_skip rfl (ext_skip rfl (ext_skip rfl (ext_skip rfl (ext_skip rfl ext_refl)))))) (fun _ h => h))
  · have hg1_17a := hg
    refine wl_off rfl rfl rfl rfl rfl hg1_17a rfl ?_
    refine wl_off rfl rfl rfl rfl rfl hg1_17a rfl ?_
    refine wl_off rfl rfl rfl rfl rfl hg1_17a rfl ?_
    refine wl_off rfl rfl rfl rfl rfl hg1_17a rfl ?_
    refine wl_det rfl rfl (det_and_off (q := (decide (a0.Period < a3))) rfl rfl rfl hg1_17a) rfl ?_
    exact wl_nil (pn_qnE (ext_cons rfl (ext_skip rfl (ext_skip rfl (ext_skip rfl (ext_skip rfl (ext_skip rfl ext_refl)))))) (fun _ h => h))
  refine wl_det rfl rfl (det_assign rfl) rfl ?_
  refine wl_nil ?_
  refine pn_then ?_
  refine wc_ret ?_
  replace h := Option.some.inj h
  subst h
  refine pn_ret (vs := [_]) rfl ⟨rfl, trivial⟩ ⟨rfl, rfl, rfl⟩ (fun _ h => h.to ⟨_, (rs r0), ⟨_, (rs r0), ⟨_, (rs r0), trivial⟩⟩⟩ trivial)
def Q_account_sum_account_Statement_c1_c1 (Ba1_0 : Nat) (Ba1_1 : Nat) (Ba1_2 : Nat) (a1_0 : Int) (a1_1 : Int) (a1_2 : Int) (r : GBalance × Int) : Value → List Ent → List Fact → Prop := fun v θ κ => v = .tuple #[.agg #[.int .i64 r.1.Due, .int .i64 r.1.Reserve], .int .i64 r.2] ∧ θ = [eBlk Ba1_0 3 [.int .i64 a1_0], eBlk Ba1_1 3 [.int .i64 a1_1], eBlk Ba1_2 3 [.int .i64 a1_2]] ∧ κ = []
theorem plains_account_sum_account_Statement_c1_c1 {Ba1_0 : Nat} {Ba1_1 : Nat} {Ba1_2 : Nat} {a1_0 : Int} {a1_1 : Int} {a1_2 : Int} {r : GBalance × Int} : ∀ v θ κ, Q_account_sum_account_Statement_c1_c1 Ba1_0 Ba1_1 Ba1_2 a1_0 a1_1 a1_2 r v θ κ → Plains θ := by
  rintro _ _ _ ⟨rfl, rfl, rfl⟩
  exact ⟨plain_eBlk, plain_eBlk, plain_eBlk, trivial⟩
set_option maxHeartbeats 4000000 in
set_option maxRecDepth 100000 in
theorem W_account_sum_account_Statement_c1_c1 (a0 : GLedger) (a1_0 : Int) (a1_1 : Int) (a1_2 : Int) (A0 : Option Addr) (n0 : Nat) (c0 : Nat) (Ba1_0 : Nat) (Ba1_1 : Nat) (Ba1_2 : Nat) (r : GBalance × Int) (h : account_sum_account_Statement_c1_c1 a0 a1_0 a1_1 a1_2 = some r) : Spec Try.prog 47 [.agg #[.int .i64 a0.Closed, .slice A0 n0 c0], .func (.func 66) #[] #[.pointer (some ⟨Ba1_0, 0, none⟩), .pointer (some ⟨Ba1_1, 0, none⟩), .pointer (some ⟨Ba1_2, 0, none⟩)]] [eBlk Ba1_0 3 [.int .i64 a1_0], eBlk Ba1_1 3 [.int .i64 a1_1], eBlk Ba1_2 3 [.int .i64 a1_2]] [fV (lSlice lGPosting) (.slice A0 n0 c0) a0.Postings] (Q_account_sum_account_Statement_c1_c1 Ba1_0 Ba1_1 Ba1_2 a1_0 a1_1 a1_2 r) := by
  unfold account_sum_account_Statement_c1_c1 at h
  refine spec_of (σ := [(0, _), (1, _)]) Try.func47 rfl rfl rfl rfl ?_
  intro C
  refine wc_know (fun _ h => h.lenF m0) (fun e => ?_)
  subst e
  refine wc_seq ?_
  refine wc_region ?_   -- region 0
  refine wl_act (act_box (cs := [_, _]) rfl rfl) rfl rfl rfl ?_
  rintro _ _ _ ⟨b0_0, rfl, rfl, rfl⟩
  refine wl_act (act_alloc (cs := [_, _]) zr30 rfl) rfl rfl rfl ?_
  rintro _ _ _ ⟨b0_1, rfl, rfl, rfl⟩
  refine wl_det rfl rfl (det_assign rfl) rfl ?_
  refine wl_nil ?_
  refine pn_then ?_
  refine wc_seq ?_
  refine wc_region ?_   -- region 1
  refine wl_act (act_alloc (cs := [_, _]) zr30 rfl) rfl rfl rfl ?_
  rintro _ _ _ ⟨b1_0, rfl, rfl, rfl⟩
  refine wl_nil ?_
  refine pn_then ?_
  obtain ⟨q4, h, ho4⟩ := bind_some h
  refine wc_meetG (G := (Int × Int) × Unit) (fun (s4, _) => s4 = q4) (fun (_, _) => [(4, .pointer (some ⟨b0_1, 0, none⟩)), (6, .pointer (some ⟨b1_0, 0, none⟩))]) (fun (s4, _) => [eBlk Ba1_2 3 [.int .i64 a1_2], eBlk Ba1_1 3 [.int .i64 a1_1], eBlk Ba1_0 3 [.int .i64 a1_0], eBlk b0_1 30 [.int .i64 0, .int .i64 0], eBlk b1_0 30 [.int .i64 s4.1, .int .i64 s4.2]]) (fun (_, _) => []) ?_ ?_
  · refine wc_seq ?_
    refine wc_region ?_   -- region 2
    refine wl_det rfl rfl (det_field rfl fd25_1 rfl) rfl ?_
    refine wl_det rfl rfl (det_load rfl (ms (ms m0)) (by rfl) na23 us23) rfl ?_
    refine wl_det rfl rfl (det_len rfl un23) rfl ?_
    refine wl_det rfl rfl (det_move rfl) rfl ?_
    refine wl_nil ?_
    refine pn_then ?_
    refine wc_block ?_
    obtain ⟨k8, hk8⟩ := loopV_some.1 h
    refine wc_loop (G := Nat × (Int × Int × Int) × Unit) (fun g => IterN (account_sum_account_Statement_c1_c1_l8 a0 a1_0 a1_1 a1_2) g.1 g.2.1 q4) (fun g => g.1) (fun (_, s8, _) => [(1, .func (.func 66) #[] #[.pointer (some ⟨Ba1_0, 0, none⟩), .pointer (some ⟨Ba1_1, 0, none⟩), .pointer (some ⟨Ba1_2, 0, none⟩)]), (4, .pointer (some ⟨b0_1, 0, none⟩)), (6, .pointer (some ⟨b1_0, 0, none⟩)), (10, .slice A0 a0.Postings.length c0), (11, .int .i64 (a0.Postings.length : Int)), (12, .int .i64 s8.2.2)]) (fun (_, s8, _) => [eBlk Ba1_2 3 [.int .i64 a1_2], eBlk Ba1_1 3 [.int .i64 a1_1], eBlk Ba1_0 3 [.int .i64 a1_0], eBlk b0_1 30 [.int .i64 0, .int .i64 0], eBlk b1_0 30 [.int .i64 s8.1, .int .i64 s8.2.1]]) (fun (_, _, _) => [fV (lSlice lGPosting) (.slice A0 a0.Postings.length c0) a0.Postings]) (k8, (0, 0, 0), ()) hk8 ⟨rfl, rfl, rfl, rfl, rfl, rfl, trivial⟩ (fun _ h => h.to ⟨_, (rs (rs (rs (rs (rs r0))))), ⟨_, (rs (rs (rs (rs r0)))), ⟨_, (rs (rs (rs r0))), ⟨_, (rs r0), ⟨_, r0, trivial⟩⟩⟩⟩⟩ ⟨m0, trivial⟩) ?_
    rintro ⟨k8, s8, _⟩ hI
    obtain ⟨k8, rfl, q8, h, g8⟩ := IterN.pos hI
    dsimp only at h ⊢
    unfold account_sum_account_Statement_c1_c1_l8 at h
    refine wc_seq ?_
    refine wc_region ?_   -- region 3
    refine wl_det rfl rfl (det_lss rfl rfl) rfl ?_
    refine wl_nil ?_
    refine pn_then ?_
    refine wc_seq ?_
    refine wc_cond rfl (fun cd12 => ?_) (fun cd12 => ?_)
    · have h := ifT h cd12
      refine wc_skip ?_
      refine pn_then ?_
      obtain ⟨q14, h, ho14⟩ := bind_some h
      refine wc_meetG (G := (Int × Int) × Unit) (fun (s14, _) => s14 = q14) (fun (_, _) => [(1, .func (.func 66) #[] #[.pointer (some ⟨Ba1_0, 0, none⟩), .pointer (some ⟨Ba1_1, 0, none⟩), .pointer (some ⟨Ba1_2, 0, none⟩)]), (4, .pointer (some ⟨b0_1, 0, none⟩)), (6, .pointer (some ⟨b1_0, 0, none⟩)), (10, .slice A0 a0.Postings.length c0), (11, .int .i64 (a0.Postings.length : Int)), (12, .int .i64 s8.2.2)]) (fun (s14, _) => [eBlk Ba1_2 3 [.int .i64 a1_2], eBlk Ba1_1 3 [.int .i64 a1_1], eBlk Ba1_0 3 [.int .i64 a1_0], eBlk b0_1 30 [.int .i64 0, .int .i64 0], eBlk b1_0 30 [.int .i64 s14.1, .int .i64 s14.2]]) (fun (_, _) => [fV (lSlice lGPosting) (.slice A0 a0.Postings.length c0) a0.Postings]) ?_ ?_
      · refine wc_block ?_
        refine wc_seq ?_
        refine wc_region ?_   -- region 4
        obtain ⟨k4_0, h⟩ := chk_some h
        refine wl_st (fun _ h => h.openF m0 k4_0) ?_
        refine wl_det rfl rfl (det_indexP rfl rfl (ms m0) k4_0 m0 un23 sz73) rfl ?_
        refine wl_det rfl rfl (det_loadP (off := 0) rfl m0 (by rfl) (by rfl) (loaded_n (cells := [_, _, _, _, _, _, _]) ag73 sz73)) rfl ?_
        refine wl_act (act_alloc (cs := [_, _, _, _, _, _, _]) zr73 rfl) rfl rfl rfl ?_
        rintro _ _ _ ⟨b4_2, rfl, rfl, rfl⟩
        refine wl_act0 (act_store (cells := [_, _, _, _, _, _, _]) (cs' := [_, _, _, _, _, _, _]) rfl rfl rfl s0 (by rfl) (of_decide_eq_true rfl) sz73 ⟨rfl, rfl, rfl, rfl, rfl, rfl, rfl, trivial⟩) rfl rfl ?_
        rintro _ _ _ ⟨rfl, rfl⟩
        refine wl_nil ?_
        refine pn_then ?_
        refine wc_block ?_
        refine wc_seq ?_
        refine wc_region ?_   -- region 6
        refine wl_det rfl rfl (det_move rfl) rfl ?_
        refine wl_det rfl rfl (det_loadN (cells := [_, _, _, _, _, _, _]) rfl m0 (by rfl) ag73 sz73) rfl ?_
        obtain ⟨r6_2, hr6_2, h⟩ := bind_some h
        refine wl_act (act_callS (cap := [_, _, _]) (W_account_Statement_c1_c1 (ix a0.Postings s8.2.2) a1_0 a1_1 a1_2 Ba1_0 Ba1_1 Ba1_2 r6_2 hr6_2) rfl rfl rfl bd66 ⟨_, (rs (rs (rs r0))), ⟨_, (rs (rs r0)), ⟨_, (rs r0), rfl⟩⟩⟩ trivial) rfl rfl rfl ?_
        rintro _ _ _ ⟨_, _, ⟨rfl, rfl, rfl⟩, rfl, rfl⟩
        dsimp only [List.nil_append, List.cons_append]
        refine wl_det rfl rfl (det_not rfl) rfl ?_
        refine wl_det rfl rfl (det_assign rfl) rfl ?_
        refine wl_nil ?_
        refine pn_then ?_
        refine wc_cond rfl (fun cd21 => ?_) (fun cd21 => ?_)
        · have h := ifT h cd21
          refine wc_skip ?_
          refine pn_block ?_
          refine pn_block ?_
          replace h := Option.some.inj h
          subst h
          exact pn_meetG ((s8.1, s8.2.1), ()) rfl ⟨rfl, rfl, rfl, rfl, rfl, rfl, trivial⟩ (fun _ h => h.to ⟨_, (rs (rs r0)), ⟨_, (rs r0), ⟨_, r0, ⟨_, (rs r0), ⟨_, (rs r0), trivial⟩⟩⟩⟩⟩ ⟨(ms m0), trivial⟩)
        · have h := ifF h cd21
          refine wc_seq ?_
          refine wc_region ?_   -- region 7
          refine wl_det rfl rfl (det_field rfl fd73_2 rfl) rfl ?_
          refine wl_det rfl rfl (det_field rfl fd41_0 rfl) rfl ?_
          refine wl_det rfl rfl (det_load rfl (ms (ms (ms m0))) (by rfl) na3 us3) rfl ?_
          refine wl_det rfl rfl (det_eql rfl rfl) rfl ?_
          refine wl_det rfl rfl (det_assign rfl) rfl ?_
          refine wl_nil ?_
          refine pn_then ?_
          refine wc_cond rfl (fun cd24 => ?_) (fun cd24 => ?_)
          · have h := ifT h cd24
            refine wc_region ?_   -- region 8
            refine wl_det rfl rfl (det_field rfl fd30_1 rfl) rfl ?_
            refine wl_det rfl rfl (det_load rfl (ms (ms (ms (ms (ms m0))))) (by rfl) na3 us3) rfl ?_
            refine wl_det rfl rfl (det_field rfl fd73_2 rfl) rfl ?_
            refine wl_det rfl rfl (det_field rfl fd41_4 rfl) rfl ?_
            refine wl_det rfl rfl (det_load rfl (ms (ms (ms m0))) (by rfl) na3 us3) rfl ?_
            refine wl_det rfl rfl (det_add rfl rfl) rfl ?_
            refine wl_det rfl rfl (det_field rfl fd30_1 rfl) rfl ?_
            refine wl_act0 (act_store (cells := [_]) (cs' := [_, _]) rfl rfl rfl (ss (ss (ss (ss (ss s0))))) (by rfl) (of_decide_eq_true rfl) sz3 ⟨rfl, trivial⟩) rfl rfl ?_
            rintro _ _ _ ⟨rfl, rfl⟩
            refine wl_nil ?_
            refine pn_block ?_
            refine pn_block ?_
            replace h := Option.some.inj h
            subst h
            exact pn_meetG ((s8.1, (w64 (s8.2.1 + (ix a0.Postings s8.2.2).Entry.Amount))), ()) rfl ⟨rfl, rfl, rfl, rfl, rfl, rfl, trivial⟩ (fun _ h => h.to ⟨_, (rs (rs r0)), ⟨_, (rs r0), ⟨_, r0, ⟨_, (rs r0), ⟨_, (rs r0), trivial⟩⟩⟩⟩⟩ ⟨(ms m0), trivial⟩)
          · have h := ifF h cd24
            refine wc_region ?_   -- region 5
            refine wl_det rfl rfl (det_field rfl fd30_0 rfl) rfl ?_
            refine wl_det rfl rfl (det_load rfl (ms (ms (ms (ms (ms m0))))) (by rfl) na3 us3) rfl ?_
            refine wl_det rfl rfl (det_field rfl fd73_2 rfl) rfl ?_
            refine wl_det rfl rfl (det_field rfl fd41_4 rfl) rfl ?_
            refine wl_det rfl rfl (det_load rfl (ms (ms (ms m0))) (by rfl) na3 us3) rfl ?_
            refine wl_det rfl rfl (det_add rfl rfl) rfl ?_
            refine wl_det rfl rfl (det_field rfl fd30_0 rfl) rfl ?_
            refine wl_act0 (act_store (cells := [_]) (cs' := [_, _]) rfl rfl rfl (ss (ss (ss (ss (ss s0))))) (by rfl) (of_decide_eq_true rfl) sz3 ⟨rfl, trivial⟩) rfl rfl ?_
            rintro _ _ _ ⟨rfl, rfl⟩
            refine wl_nil ?_
            refine pn_block ?_
            refine pn_block ?_
            replace h := Option.some.inj h
            subst h
            exact pn_meetG (((w64 (s8.1 + (ix a0.Postings s8.2.2).Entry.Amount)), s8.2.1), ()) rfl ⟨rfl, rfl, rfl, rfl, rfl, rfl, trivial⟩ (fun _ h => h.to ⟨_, (rs (rs r0)), ⟨_, (rs r0), ⟨_, r0, ⟨_, (rs r0), ⟨_, (rs r0), trivial⟩⟩⟩⟩⟩ ⟨(ms m0), trivial⟩)
      rintro ⟨s14, _⟩ e14
      dsimp only at e14 ⊢
      subst e14
      have h := ho14
      refine wc_region ?_   -- region 9
      refine wl_det rfl rfl (det_add rfl rfl) rfl ?_
      refine wl_det rfl rfl (det_move rfl) rfl ?_
      refine wl_nil ?_
      replace h := Option.some.inj h
      subst h
      exact pn_some (k8, (s14.1, s14.2, (w64 (s8.2.2 + 1))), ()) ⟨nextL g8, Nat.lt_succ_self _⟩ ⟨rfl, rfl, rfl, rfl, rfl, rfl, trivial⟩ (fun _ h => h.to ⟨_, r0, ⟨_, r0, ⟨_, r0, ⟨_, r0, ⟨_, r0, trivial⟩⟩⟩⟩⟩ ⟨m0, trivial⟩)
    · have h := ifF h cd12
      refine wc_exit ?_
      refine px_then ?_
      refine px_then ?_
      refine px_block ?_
      replace h := Option.some.inj h
      subst h
      replace g8 := nextR g8
      subst g8
      exact pn_meetG ((s8.1, s8.2.1), ()) rfl ⟨rfl, rfl, trivial⟩ (fun _ h => h.to ⟨_, r0, ⟨_, r0, ⟨_, r0, ⟨_, r0, ⟨_, r0, trivial⟩⟩⟩⟩⟩ trivial)
  rintro ⟨s4, _⟩ e4
  dsimp only at e4 ⊢
  subst e4
  have h := ho4
  refine wc_seq ?_
  refine wc_seq ?_
  refine wc_region ?_   -- region 10
  refine wl_det rfl rfl (det_field rfl fd30_0 rfl) rfl ?_
  refine wl_det rfl rfl (det_load rfl (ms (ms (ms (ms m0)))) (by rfl) na3 us3) rfl ?_
  obtain ⟨r10_2, hr10_2, h⟩ := bind_some h
  refine wl_act (act_callS (cap := []) (W_amount_Valid s4.1 r10_2 hr10_2) rfl rfl rfl bd51 rfl trivial) rfl rfl rfl ?_
  rintro _ _ _ ⟨_, _, ⟨rfl, rfl, rfl⟩, rfl, rfl⟩
  dsimp only [List.nil_append, List.cons_append]
  refine wl_det rfl rfl (det_not rfl) rfl ?_
  refine wl_det rfl rfl (det_move rfl) rfl ?_
  obtain ⟨q10_9, hq10_9, h⟩ := bind_some h
  have ho10_9 := h
  refine wl_way (!r10_2) q10_9 5 50 (fun hg => ?_) (fun hg => ?_) ?_
  · have hg10_9 := hg
    have h := ifT hq10_9 hg
    refine wl_off rfl rfl rfl rfl rfl hg10_9 rfl ?_
    refine wl_off rfl rfl rfl rfl rfl hg10_9 rfl ?_
    refine wl_off rfl rfl rfl rfl rfl hg10_9 rfl ?_
    refine wl_off rfl rfl rfl rfl rfl hg10_9 rfl ?_
    replace h := Option.some.inj h
    subst h
    refine wl_det rfl rfl (det_pick_on rfl hg10_9 rfl rfl) rfl ?_
    exact wl_nil (pn_qnE (ext_cons rfl (ext_skip rfl (ext_skip rfl (ext_skip rfl (ext_skip rfl (ext_skip rfl ext_refl)))))) (fun _ h => h))
  · have hg10_9a := hg
    have h := ifF hq10_9 hg
    refine wl_on rfl rfl rfl rfl hg10_9a ?_
    refine wl_det rfl rfl (det_field rfl fd30_1 rfl) rfl ?_
    refine wl_on rfl rfl rfl rfl hg10_9a ?_
    refine wl_det rfl rfl (det_load rfl (ms (ms (ms (ms m0)))) (by rfl) na3 us3) rfl ?_
    refine wl_on rfl rfl rfl rfl hg10_9a ?_
    obtain ⟨r10_7, hr10_7, h⟩ := bind_some h
    refine wl_act (act_callS (cap := []) (W_amount_Valid s4.2 r10_7 hr10_7) rfl rfl rfl bd51 rfl trivial) rfl rfl rfl ?_
    rintro _ _ _ ⟨_, _, ⟨rfl, rfl, rfl⟩, rfl, rfl⟩
    dsimp only [List.nil_append, List.cons_append]
    refine wl_on rfl rfl rfl rfl hg10_9a ?_
    refine wl_det rfl rfl (det_not rfl) rfl ?_
    replace h := Option.some.inj h
    subst h
    refine wl_det rfl rfl (det_pick_off rfl hg10_9a rfl rfl) rfl ?_
    exact wl_nil (pn_qnE (ext_cons rfl (ext_skip rfl (ext_skip rfl (ext_skip rfl (ext_skip rfl (ext_skip rfl ext_refl)))))) (fun _ h => h))
  have h := ho10_9
  refine wl_nil ?_
  refine pn_then ?_
  refine wc_cond rfl (fun cd31 => ?_) (fun cd31 => ?_)
  · have h := ifT h cd31
    refine wc_seq ?_
    refine wc_region ?_   -- region 11
    refine wl_det rfl rfl (det_build (cs := [_, _]) pl30 zr30 rfl rfl (by rfl)) rfl ?_
    refine wl_act0 (act_store (cells := [_, _]) (cs' := [_, _]) rfl rfl rfl (ss (ss (ss s0))) (by rfl) (of_decide_eq_true rfl) sz30 ⟨rfl, rfl, trivial⟩) rfl rfl ?_
    rintro _ _ _ ⟨rfl, rfl⟩
    refine wl_det rfl rfl (det_assign rfl) rfl ?_
    refine wl_nil ?_
    refine pn_then ?_
    refine wc_ret ?_
    refine pr_then ?_
    replace h := Option.some.inj h
    subst h
    refine pn_ret (vs := [_, _]) rfl ⟨⟨_, _, [_, _], rfl, (ms (ms (ms m0))), ag30, sz30, rfl⟩, rfl, trivial⟩ ⟨rfl, rfl, rfl⟩ (fun _ h => h.to ⟨_, (rs (rs r0)), ⟨_, (rs r0), ⟨_, r0, trivial⟩⟩⟩ trivial)
  · have h := ifF h cd31
    refine wc_skip ?_
    refine pn_then ?_
    refine wc_seq ?_
    refine wc_region ?_   -- region 12
    refine wl_det rfl rfl (det_loadN (cells := [_, _]) rfl (ms (ms (ms (ms m0)))) (by rfl) ag30 sz30) rfl ?_
    refine wl_act0 (act_store (cells := [_, _]) (cs' := [_, _]) rfl rfl rfl (ss (ss (ss s0))) (by rfl) (of_decide_eq_true rfl) sz30 ⟨rfl, rfl, trivial⟩) rfl rfl ?_
    rintro _ _ _ ⟨rfl, rfl⟩
    refine wl_det rfl rfl (det_assign rfl) rfl ?_
    refine wl_nil ?_
    refine pn_then ?_
    refine wc_ret ?_
    replace h := Option.some.inj h
    subst h
    refine pn_ret (vs := [_, _]) rfl ⟨⟨_, _, [_, _], rfl, (ms (ms (ms m0))), ag30, sz30, rfl⟩, rfl, trivial⟩ ⟨rfl, rfl, rfl⟩ (fun _ h => h.to ⟨_, (rs (rs r0)), ⟨_, (rs r0), ⟨_, r0, trivial⟩⟩⟩ trivial)
def Q_account_Statement_c1 (Ba1 : Nat) (Ba2 : Nat) (Ba3 : Nat) (a1 : GLedger) (a2 : Int) (a3 : Int) (A1 : Option Addr) (n1 : Nat) (c1 : Nat) (r : GBalance × Int) : Value → List Ent → List Fact → Prop := fun v θ κ => v = .tuple #[.agg #[.int .i64 r.1.Due, .int .i64 r.1.Reserve], .int .i64 r.2] ∧ θ = [eBlk Ba1 25 [.int .i64 a1.Closed, .slice A1 n1 c1], eBlk Ba2 3 [.int .i64 a2], eBlk Ba3 3 [.int .i64 a3]] ∧ κ = []
theorem plains_account_Statement_c1 {Ba1 : Nat} {Ba2 : Nat} {Ba3 : Nat} {a1 : GLedger} {a2 : Int} {a3 : Int} {A1 : Option Addr} {n1 : Nat} {c1 : Nat} {r : GBalance × Int} : ∀ v θ κ, Q_account_Statement_c1 Ba1 Ba2 Ba3 a1 a2 a3 A1 n1 c1 r v θ κ → Plains θ := by
  rintro _ _ _ ⟨rfl, rfl, rfl⟩
  exact ⟨plain_eBlk, plain_eBlk, plain_eBlk, trivial⟩
set_option maxHeartbeats 4000000 in
set_option maxRecDepth 100000 in
theorem W_account_Statement_c1 (a0 : Int) (a1 : GLedger) (a2 : Int) (a3 : Int) (Ba1 : Nat) (A1 : Option Addr) (n1 : Nat) (c1 : Nat) (Ba2 : Nat) (Ba3 : Nat) (r : GBalance × Int) (h : account_Statement_c1 a0 a1 a2 a3 = some r) : Spec Try.prog 65 [.int .i64 a0, .pointer (some ⟨Ba1, 0, none⟩), .pointer (some ⟨Ba2, 0, none⟩), .pointer (some ⟨Ba3, 0, none⟩)] [eBlk Ba1 25 [.int .i64 a1.Closed, .slice A1 n1 c1], eBlk Ba2 3 [.int .i64 a2], eBlk Ba3 3 [.int .i64 a3]] [fV (lSlice lGPosting) (.slice A1 n1 c1) a1.Postings] (Q_account_Statement_c1 Ba1 Ba2 Ba3 a1 a2 a3 A1 n1 c1 r) := by
  unfold account_Statement_c1 at h
  refine spec_of (σ := [(0, _), (1, _), (2, _), (3, _)]) Try.func65 rfl rfl rfl rfl ?_
  intro C
  refine wc_know (fun _ h => h.lenF m0) (fun e => ?_)
  subst e
  refine wc_seq ?_
  refine wc_region ?_   -- region 0
  refine wl_act (act_box (cs := [_]) rfl rfl) rfl rfl rfl ?_
  rintro _ _ _ ⟨b0_0, rfl, rfl, rfl⟩
  refine wl_act (act_alloc (cs := [_, _]) zr30 rfl) rfl rfl rfl ?_
  rintro _ _ _ ⟨b0_1, rfl, rfl, rfl⟩
  refine wl_det rfl rfl (det_assign rfl) rfl ?_
  refine wl_nil ?_
  refine pn_then ?_
  refine wc_seq ?_
  refine wc_region ?_   -- region 1
  refine wl_det rfl rfl (det_loadN (cells := [_, _]) rfl (ms (ms m0)) (by rfl) ag25 sz25) rfl ?_
  refine wl_det rfl rfl (det_makeFunc rfl) rfl ?_
  obtain ⟨r1_2, hr1_2, h⟩ := bind_some h
  refine wl_act (act_callS (cap := []) (W_account_sum_account_Statement_c1_c1 a1 a2 a3 a0 A1 a1.Postings.length c1 Ba2 Ba3 b0_0 r1_2 hr1_2) rfl rfl rfl bd47 ⟨_, (rs (rs (rs r0))), ⟨_, (rs (rs (rs r0))), ⟨_, (rs r0), rfl⟩⟩⟩ ⟨m0, trivial⟩) rfl rfl rfl ?_
  rintro _ _ _ ⟨_, _, ⟨rfl, rfl, rfl⟩, rfl, rfl⟩
  dsimp only [List.nil_append, List.cons_append]
  refine wl_det rfl rfl (det_extract rfl rfl) rfl ?_
  refine wl_det rfl rfl (det_extract rfl rfl) rfl ?_
  refine wl_act0 (act_store (cells := [_, _]) (cs' := [_, _]) rfl rfl rfl (ss (ss (ss s0))) (by rfl) (of_decide_eq_true rfl) sz30 ⟨rfl, rfl, trivial⟩) rfl rfl ?_
  rintro _ _ _ ⟨rfl, rfl⟩
  refine wl_det rfl rfl (det_assign rfl) rfl ?_
  refine wl_nil ?_
  refine pn_then ?_
  refine wc_ret ?_
  replace h := Option.some.inj h
  subst h
  refine pn_ret (vs := [_, _]) rfl ⟨⟨_, _, [_, _], rfl, (ms (ms (ms m0))), ag30, sz30, rfl⟩, rfl, trivial⟩ ⟨rfl, rfl, rfl⟩ (fun _ h => h.to ⟨_, (rs (rs (rs (rs r0)))), ⟨_, r0, ⟨_, r0, trivial⟩⟩⟩ trivial)
def Q_account_Statement (r : GStatement × Int) : Value → List Ent → List Fact → Prop := fun v θ κ => ∃ (pA0 : Option Addr), ∃ (pn0 : Nat), ∃ (pc0 : Nat), v = .tuple #[.agg #[.int .i64 r.1.Treaty, .int .i64 r.1.Party, .int .i64 r.1.Period, .int .i64 r.1.Opening.Due, .int .i64 r.1.Opening.Reserve, .slice pA0 pn0 pc0, .int .i64 r.1.Closing.Due, .int .i64 r.1.Closing.Reserve], .int .i64 r.2] ∧ θ = [eS lGPosting 73 pA0 pn0 pc0 r.1.Postings] ∧ κ = []
theorem plains_account_Statement {r : GStatement × Int} : ∀ v θ κ, Q_account_Statement r v θ κ → Plains θ := by
  rintro _ _ _ ⟨_, _, _, rfl, rfl, rfl⟩
  exact ⟨plain_eS, trivial⟩
set_option maxHeartbeats 4000000 in
set_option maxRecDepth 100000 in
theorem W_account_Statement (a0 : GLedger) (a1 : Int) (a2 : Int) (a3 : Int) (A0 : Option Addr) (n0 : Nat) (c0 : Nat) (r : GStatement × Int) (h : account_Statement a0 a1 a2 a3 = some r) : Spec Try.prog 49 [.agg #[.int .i64 a0.Closed, .slice A0 n0 c0], .int .i64 a1, .int .i64 a2, .int .i64 a3] [] [fV (lSlice lGPosting) (.slice A0 n0 c0) a0.Postings] (Q_account_Statement r) := by
  unfold account_Statement at h
  refine spec_of (σ := [(0, _), (1, _), (2, _), (3, _)]) Try.func49 rfl rfl rfl rfl ?_
  intro C
  refine wc_know (fun _ h => h.lenF m0) (fun e => ?_)
  subst e
  refine wc_seq ?_
  refine wc_region ?_   -- region 0
  refine wl_act (act_box (cs := [_, _]) rfl rfl) rfl rfl rfl ?_
  rintro _ _ _ ⟨b0_0, rfl, rfl, rfl⟩
  refine wl_act (act_box (cs := [_]) rfl rfl) rfl rfl rfl ?_
  rintro _ _ _ ⟨b0_1, rfl, rfl, rfl⟩
  refine wl_act (act_box (cs := [_]) rfl rfl) rfl rfl rfl ?_
  rintro _ _ _ ⟨b0_2, rfl, rfl, rfl⟩
  refine wl_act (act_alloc (cs := [_, _, _, _, _, _, _, _]) zr77 rfl) rfl rfl rfl ?_
  rintro _ _ _ ⟨b0_3, rfl, rfl, rfl⟩
  refine wl_det rfl rfl (det_assign rfl) rfl ?_
  refine wl_nil ?_
  refine pn_then ?_
  refine wc_seq ?_
  refine wc_seq ?_
  refine wc_region ?_   -- region 1
  refine wl_det rfl rfl (det_loadN (cells := [_, _]) rfl (ms (ms (ms m0))) (by rfl) ag25 sz25) rfl ?_
  obtain ⟨r1_1, hr1_1, h⟩ := bind_some h
  refine wl_act (act_callS (cap := []) (W_ledger_Validate a0 A0 a0.Postings.length c0 r1_1 hr1_1) rfl rfl rfl bd16 rfl ⟨m0, trivial⟩) rfl rfl rfl ?_
  rintro _ _ _ ⟨_, _, ⟨rfl, rfl, rfl⟩, rfl, rfl⟩
  dsimp only [List.nil_append, List.cons_append]
  refine wl_det rfl rfl (det_assign rfl) rfl ?_
  refine wl_nil ?_
  refine pn_then ?_
  refine wc_seq ?_
  refine wc_region ?_   -- region 2
  refine wl_det rfl rfl (det_move rfl) rfl ?_
  refine wl_det rfl rfl (det_neq rfl rfl) rfl ?_
  refine wl_nil ?_
  refine pn_then ?_
  refine wc_cond rfl (fun cd7 => ?_) (fun cd7 => ?_)
  · have h := ifT h cd7
    refine wc_seq ?_
    refine wc_region ?_   -- region 3
    refine wl_det rfl rfl (det_build (cs := [_, _, _, _, _, _, _, _]) pl77 zr77 rfl rfl (by rfl)) rfl ?_
    refine wl_det rfl rfl (det_move rfl) rfl ?_
    refine wl_act0 (act_store (cells := [_, _, _, _, _, _, _, _]) (cs' := [_, _, _, _, _, _, _, _]) rfl rfl rfl s0 (by rfl) (of_decide_eq_true rfl) sz77 ⟨rfl, rfl, rfl, rfl, rfl, rfl, rfl, rfl, trivial⟩) rfl rfl ?_
    rintro _ _ _ ⟨rfl, rfl⟩
    refine wl_det rfl rfl (det_assign rfl) rfl ?_
    refine wl_nil ?_
    refine pn_then ?_
    refine wc_ret ?_
    refine pr_then ?_
    refine pn_st (fun _ h => h.zeroS lGPosting 73 none) ?_
    replace h := Option.some.inj h
    subst h
    refine pn_ret (vs := [_, _]) rfl ⟨⟨_, _, [_, _, _, _, _, _, _, _], rfl, (ms m0), ag77, sz77, rfl⟩, rfl, trivial⟩ ⟨none, 0, 0, rfl, rfl, rfl⟩ (fun _ h => h.to ⟨_, r0, trivial⟩ trivial)
  · have h := ifF h cd7
    refine wc_skip ?_
    refine pn_then ?_
    refine wc_seq ?_
    refine wc_seq ?_
    refine wc_region ?_   -- region 4
    refine wl_det rfl rfl (det_move rfl) rfl ?_
    refine wl_det rfl rfl (det_lss rfl rfl) rfl ?_
    refine wl_det rfl rfl (det_move rfl) rfl ?_
    refine wl_way (decide (a3 < 0)) ((decide (a3 < 0)) || (decide (a0.Closed < a3))) 5 29 (fun hg => ?_) (fun hg => ?_) ?_
    · have hg4_7 := hg
      refine wl_off rfl rfl rfl rfl rfl hg4_7 rfl ?_
      refine wl_off rfl rfl rfl rfl rfl hg4_7 rfl ?_
      refine wl_off rfl rfl rfl rfl rfl hg4_7 rfl ?_
      refine wl_off rfl rfl rfl rfl rfl hg4_7 rfl ?_
      refine wl_det rfl rfl (det_or_on (r := (decide (a0.Closed < a3))) rfl rfl rfl hg4_7) rfl ?_
      exact wl_nil (pn_qnE (ext_cons rfl (ext_skip rfl (ext_skip rfl (ext_skip rfl (ext_skip rfl (ext_skip rfl ext_refl)))))) (fun _ h => h))
    · have hg4_7a := hg
      refine wl_on rfl rfl rfl rfl hg4_7a ?_
      refine wl_det rfl rfl (det_move rfl) rfl ?_
      refine wl_on rfl rfl rfl rfl hg4_7a ?_
      refine wl_det rfl rfl (det_field rfl fd25_0 rfl) rfl ?_
      refine wl_on rfl rfl rfl rfl hg4_7a ?_
      refine wl_det rfl rfl (det_load rfl (ms (ms (ms m0))) (by rfl) na3 us3) rfl ?_
      refine wl_on rfl rfl rfl rfl hg4_7a ?_
      refine wl_det rfl rfl (det_gtr rfl rfl) rfl ?_
      refine wl_det rfl rfl (det_or_off rfl rfl rfl hg4_7a) rfl ?_
      exact wl_nil (pn_qnE (ext_cons rfl (ext_skip rfl (ext_skip rfl (ext_skip rfl (ext_skip rfl (ext_skip rfl ext_refl)))))) (fun _ h => h))
    refine wl_nil ?_
    refine pn_then ?_
    refine wc_cond rfl (fun cd13 => ?_) (fun cd13 => ?_)
    · have h := ifT h cd13
      refine wc_seq ?_
      refine wc_region ?_   -- region 5
      refine wl_det rfl rfl (det_build (cs := [_, _, _, _, _, _, _, _]) pl77 zr77 rfl rfl (by rfl)) rfl ?_
      refine wl_act0 (act_store (cells := [_, _, _, _, _, _, _, _]) (cs' := [_, _, _, _, _, _, _, _]) rfl rfl rfl s0 (by rfl) (of_decide_eq_true rfl) sz77 ⟨rfl, rfl, rfl, rfl, rfl, rfl, rfl, rfl, trivial⟩) rfl rfl ?_
      rintro _ _ _ ⟨rfl, rfl⟩
      refine wl_det rfl rfl (det_assign rfl) rfl ?_
      refine wl_nil ?_
      refine pn_then ?_
      refine wc_ret ?_
      refine pr_then ?_
      refine pn_st (fun _ h => h.zeroS lGPosting 73 none) ?_
      replace h := Option.some.inj h
      subst h
      refine pn_ret (vs := [_, _]) rfl ⟨⟨_, _, [_, _, _, _, _, _, _, _], rfl, (ms m0), ag77, sz77, rfl⟩, rfl, trivial⟩ ⟨none, 0, 0, rfl, rfl, rfl⟩ (fun _ h => h.to ⟨_, r0, trivial⟩ trivial)
    · have h := ifF h cd13
      refine wc_skip ?_
      refine pn_then ?_
      refine wc_seq ?_
      refine wc_region ?_   -- region 6
      refine wl_det rfl rfl (det_makeFunc rfl) rfl ?_
      refine wl_det rfl rfl (det_assign rfl) rfl ?_
      refine wl_nil ?_
      refine pn_then ?_
      refine wc_seq ?_
      refine wc_region ?_   -- region 7
      refine wl_det rfl rfl (det_load rfl (ms (ms m0)) (by rfl) na3 us3) rfl ?_
      refine wl_det rfl rfl (det_load rfl (ms m0) (by rfl) na3 us3) rfl ?_
      refine wl_det rfl rfl (det_move rfl) rfl ?_
      refine wl_det rfl rfl (det_build (cs := [_, _, _, _, _, _, _, _]) pl77 zr77 rfl rfl (by rfl)) rfl ?_
      refine wl_act (act_alloc (cs := [_, _, _, _, _, _, _, _]) zr77 rfl) rfl rfl rfl ?_
      rintro _ _ _ ⟨b7_4, rfl, rfl, rfl⟩
      refine wl_act0 (act_store (cells := [_, _, _, _, _, _, _, _]) (cs' := [_, _, _, _, _, _, _, _]) rfl rfl rfl s0 (by rfl) (of_decide_eq_true rfl) sz77 ⟨rfl, rfl, rfl, rfl, rfl, rfl, rfl, rfl, trivial⟩) rfl rfl ?_
      rintro _ _ _ ⟨rfl, rfl⟩
      refine wl_nil ?_
      refine pn_then ?_
      refine wc_seq ?_
      refine wc_region ?_   -- region 8
      refine wl_det rfl rfl (det_assign rfl) rfl ?_
      refine wl_nil ?_
      refine pn_then ?_
      refine wc_seq ?_
      refine wc_seq ?_
      refine wc_region ?_   -- region 9
      refine wl_det rfl rfl (det_move rfl) rfl ?_
      refine wl_det rfl rfl (det_move rfl) rfl ?_
      obtain ⟨r9_2, hr9_2, h⟩ := bind_some h
      refine wl_act (act_callS (cap := [_, _, _]) (W_account_Statement_c1 a3 a0 a1 a2 b0_0 A0 a0.Postings.length c0 b0_1 b0_2 r9_2 hr9_2) rfl rfl rfl bd65 ⟨_, (rs (rs (rs (rs r0)))), ⟨_, (rs (rs (rs r0))), ⟨_, (rs (rs r0)), rfl⟩⟩⟩ ⟨m0, trivial⟩) rfl rfl rfl ?_
      rintro _ _ _ ⟨_, _, ⟨rfl, rfl, rfl⟩, rfl, rfl⟩
      dsimp only [List.nil_append, List.cons_append]
      refine wl_det rfl rfl (det_move rfl) rfl ?_
      refine wl_det rfl rfl (det_extract rfl rfl) rfl ?_
      refine wl_det rfl rfl (det_extract rfl rfl) rfl ?_
      refine wl_det rfl rfl (det_field rfl fd77_3 rfl) rfl ?_
      refine wl_act0 (act_store (cells := [_, _]) (cs' := [_, _, _, _, _, _, _, _]) rfl rfl rfl (ss (ss (ss s0))) (by rfl) (of_decide_eq_true rfl) sz30 ⟨rfl, rfl, trivial⟩) rfl rfl ?_
      rintro _ _ _ ⟨rfl, rfl⟩
      refine wl_det rfl rfl (det_assign rfl) rfl ?_
      refine wl_nil ?_
      refine pn_then ?_
      refine wc_seq ?_
      refine wc_region ?_   -- region 10
      refine wl_det rfl rfl (det_move rfl) rfl ?_
      refine wl_det rfl rfl (det_neq rfl rfl) rfl ?_
      refine wl_nil ?_
      refine pn_then ?_
      refine wc_cond rfl (fun cd27 => ?_) (fun cd27 => ?_)
      · have h := ifT h cd27
        refine wc_seq ?_
        refine wc_region ?_   -- region 11
        refine wl_det rfl rfl (det_build (cs := [_, _, _, _, _, _, _, _]) pl77 zr77 rfl rfl (by rfl)) rfl ?_
        refine wl_det rfl rfl (det_move rfl) rfl ?_
        refine wl_act0 (act_store (cells := [_, _, _, _, _, _, _, _]) (cs' := [_, _, _, _, _, _, _, _]) rfl rfl rfl (ss (ss (ss (ss s0)))) (by rfl) (of_decide_eq_true rfl) sz77 ⟨rfl, rfl, rfl, rfl, rfl, rfl, rfl, rfl, trivial⟩) rfl rfl ?_
        rintro _ _ _ ⟨rfl, rfl⟩
        refine wl_det rfl rfl (det_assign rfl) rfl ?_
        refine wl_nil ?_
        refine pn_then ?_
        refine wc_ret ?_
        refine pr_then ?_
        refine pn_st (fun _ h => h.zeroS lGPosting 73 none) ?_
        replace h := Option.some.inj h
        subst h
        refine pn_ret (vs := [_, _]) rfl ⟨⟨_, _, [_, _, _, _, _, _, _, _], rfl, (ms (ms (ms (ms (ms m0))))), ag77, sz77, rfl⟩, rfl, trivial⟩ ⟨none, 0, 0, rfl, rfl, rfl⟩ (fun _ h => h.to ⟨_, r0, trivial⟩ trivial)
      · have h := ifF h cd27
        refine wc_skip ?_
        refine pn_then ?_
        refine wc_seq ?_
        refine wc_seq ?_
        refine wc_region ?_   -- region 12
        refine wl_det rfl rfl (det_move rfl) rfl ?_
        refine wl_det rfl rfl (det_move rfl) rfl ?_
        refine wl_det rfl rfl (det_add rfl rfl) rfl ?_
        obtain ⟨r12_3, hr12_3, h⟩ := bind_some h
        refine wl_act (act_callS (cap := [_, _, _]) (W_account_Statement_c1 (w64 (a3 + 1)) a0 a1 a2 b0_0 A0 a0.Postings.length c0 b0_1 b0_2 r12_3 hr12_3) rfl rfl rfl bd65 ⟨_, r0, ⟨_, r0, ⟨_, r0, rfl⟩⟩⟩ ⟨m0, trivial⟩) rfl rfl rfl ?_
        rintro _ _ _ ⟨_, _, ⟨rfl, rfl, rfl⟩, rfl, rfl⟩
        dsimp only [List.nil_append, List.cons_append]
        refine wl_det rfl rfl (det_move rfl) rfl ?_
        refine wl_det rfl rfl (det_extract rfl rfl) rfl ?_
        refine wl_det rfl rfl (det_extract rfl rfl) rfl ?_
        refine wl_det rfl rfl (det_field rfl fd77_5 rfl) rfl ?_
        refine wl_act0 (act_store (cells := [_, _]) (cs' := [_, _, _, _, _, _, _, _]) rfl rfl rfl (ss (ss (ss s0))) (by rfl) (of_decide_eq_true rfl) sz30 ⟨rfl, rfl, trivial⟩) rfl rfl ?_
        rintro _ _ _ ⟨rfl, rfl⟩
        refine wl_det rfl rfl (det_assign rfl) rfl ?_
        refine wl_nil ?_
        refine pn_then ?_
        refine wc_seq ?_
        refine wc_region ?_   -- region 13
        refine wl_det rfl rfl (det_move rfl) rfl ?_
        refine wl_det rfl rfl (det_neq rfl rfl) rfl ?_
        refine wl_nil ?_
        refine pn_then ?_
        refine wc_cond rfl (fun cd35 => ?_) (fun cd35 => ?_)
        · have h := ifT h cd35
          refine wc_seq ?_
          refine wc_region ?_   -- region 14
          refine wl_det rfl rfl (det_build (cs := [_, _, _, _, _, _, _, _]) pl77 zr77 rfl rfl (by rfl)) rfl ?_
          refine wl_det rfl rfl (det_move rfl) rfl ?_
          refine wl_act0 (act_store (cells := [_, _, _, _, _, _, _, _]) (cs' := [_, _, _, _, _, _, _, _]) rfl rfl rfl (ss (ss (ss (ss s0)))) (by rfl) (of_decide_eq_true rfl) sz77 ⟨rfl, rfl, rfl, rfl, rfl, rfl, rfl, rfl, trivial⟩) rfl rfl ?_
          rintro _ _ _ ⟨rfl, rfl⟩
          refine wl_det rfl rfl (det_assign rfl) rfl ?_
          refine wl_nil ?_
          refine pn_then ?_
          refine wc_ret ?_
          refine pr_then ?_
          refine pn_st (fun _ h => h.zeroS lGPosting 73 none) ?_
          replace h := Option.some.inj h
          subst h
          refine pn_ret (vs := [_, _]) rfl ⟨⟨_, _, [_, _, _, _, _, _, _, _], rfl, (ms (ms (ms (ms (ms m0))))), ag77, sz77, rfl⟩, rfl, trivial⟩ ⟨none, 0, 0, rfl, rfl, rfl⟩ (fun _ h => h.to ⟨_, r0, trivial⟩ trivial)
        · have h := ifF h cd35
          refine wc_skip ?_
          refine pn_then ?_
          obtain ⟨q38, h, ho38⟩ := bind_some h
          refine wc_meetG (G := (List GPosting) × Option Addr × Nat × Nat × Unit) (fun (s38, _, _, _, _) => s38 = q38) (fun (_, _, _, _, _) => [(8, .pointer (some ⟨b0_3, 0, none⟩)), (12, .pointer (some ⟨b7_4, 0, none⟩))]) (fun (s38, A38_0, n38_0, c38_0, _) => [eBlk b0_3 77 [.int .i64 0, .int .i64 0, .int .i64 0, .int .i64 0, .int .i64 0, .slice none 0 0, .int .i64 0, .int .i64 0], eBlk b7_4 77 [.int .i64 a1, .int .i64 a2, .int .i64 a3, .int .i64 r9_2.1.Due, .int .i64 r9_2.1.Reserve, .slice A38_0 n38_0 c38_0, .int .i64 r12_3.1.Due, .int .i64 r12_3.1.Reserve], eS lGPosting 73 A38_0 n38_0 c38_0 s38]) (fun (_, _, _, _, _) => []) ?_ ?_
          · refine wc_seq ?_
            refine wc_region ?_   -- region 15
            refine wl_det rfl rfl (det_field rfl fd25_1 rfl) rfl ?_
            refine wl_det rfl rfl (det_load rfl m0 (by rfl) na23 us23) rfl ?_
            refine wl_det rfl rfl (det_len rfl un23) rfl ?_
            refine wl_det rfl rfl (det_move rfl) rfl ?_
            refine wl_nil ?_
            refine pn_then ?_
            refine wc_block ?_
            refine wc_st (fun _ h => h.zeroS lGPosting 73 none) ?_
            obtain ⟨k42, hk42⟩ := loopV_some.1 h
            refine wc_loop (G := Nat × ((List GPosting) × Int) × Option Addr × Nat × Nat × Unit) (fun g => IterN (account_Statement_l42 a0 a1 a2 a3) g.1 g.2.1 q38) (fun g => g.1) (fun (_, s42, _, _, _, _) => [(3, .int .i64 a3), (5, .pointer (some ⟨b0_1, 0, none⟩)), (6, .pointer (some ⟨b0_2, 0, none⟩)), (8, .pointer (some ⟨b0_3, 0, none⟩)), (12, .pointer (some ⟨b7_4, 0, none⟩)), (60, .slice A0 a0.Postings.length c0), (61, .int .i64 (a0.Postings.length : Int)), (62, .int .i64 s42.2)]) (fun (_, s42, A42_0, n42_0, c42_0, _) => [eBlk b0_1 3 [.int .i64 a1], eBlk b0_2 3 [.int .i64 a2], eBlk b0_3 77 [.int .i64 0, .int .i64 0, .int .i64 0, .int .i64 0, .int .i64 0, .slice none 0 0, .int .i64 0, .int .i64 0], eBlk b7_4 77 [.int .i64 a1, .int .i64 a2, .int .i64 a3, .int .i64 r9_2.1.Due, .int .i64 r9_2.1.Reserve, .slice A42_0 n42_0 c42_0, .int .i64 r12_3.1.Due, .int .i64 r12_3.1.Reserve], eS lGPosting 73 A42_0 n42_0 c42_0 s42.1]) (fun (_, _, _, _, _, _) => [fV (lSlice lGPosting) (.slice A0 a0.Postings.length c0) a0.Postings]) (k42, ([], 0), none, 0, 0, ()) hk42 ⟨rfl, rfl, rfl, rfl, rfl, rfl, rfl, rfl, trivial⟩ (fun _ h => h.to ⟨_, (rs (rs r0)), ⟨_, (rs (rs r0)), ⟨_, (rs (rs (rs r0))), ⟨_, (rs (rs r0)), ⟨_, r0, trivial⟩⟩⟩⟩⟩ ⟨m0, trivial⟩) ?_
            rintro ⟨k42, s42, A42_0, n42_0, c42_0, _⟩ hI
            obtain ⟨k42, rfl, q42, h, g42⟩ := IterN.pos hI
            dsimp only at h ⊢
            unfold account_Statement_l42 at h
            refine wc_know (fun _ h => h.lenO (ms (ms (ms (ms m0))))) (fun e => ?_)
            subst e
            refine wc_seq ?_
            refine wc_region ?_   -- region 16
            refine wl_det rfl rfl (det_lss rfl rfl) rfl ?_
            refine wl_nil ?_
            refine pn_then ?_
            refine wc_seq ?_
            refine wc_cond rfl (fun cd46 => ?_) (fun cd46 => ?_)
            · have h := ifT h cd46
              refine wc_skip ?_
              refine pn_then ?_
              obtain ⟨q48, h, ho48⟩ := bind_some h
              refine wc_meetG (G := (List GPosting) × Option Addr × Nat × Nat × Unit) (fun (s48, _, _, _, _) => s48 = q48) (fun (_, _, _, _, _) => [(3, .int .i64 a3), (5, .pointer (some ⟨b0_1, 0, none⟩)), (6, .pointer (some ⟨b0_2, 0, none⟩)), (8, .pointer (some ⟨b0_3, 0, none⟩)), (12, .pointer (some ⟨b7_4, 0, none⟩)), (60, .slice A0 a0.Postings.length c0), (61, .int .i64 (a0.Postings.length : Int)), (62, .int .i64 s42.2)]) (fun (s48, A48_0, n48_0, c48_0, _) => [eBlk b0_1 3 [.int .i64 a1], eBlk b0_2 3 [.int .i64 a2], eBlk b0_3 77 [.int .i64 0, .int .i64 0, .int .i64 0, .int .i64 0, .int .i64 0, .slice none 0 0, .int .i64 0, .int .i64 0], eBlk b7_4 77 [.int .i64 a1, .int .i64 a2, .int .i64 a3, .int .i64 r9_2.1.Due, .int .i64 r9_2.1.Reserve, .slice A48_0 n48_0 c48_0, .int .i64 r12_3.1.Due, .int .i64 r12_3.1.Reserve], eS lGPosting 73 A48_0 n48_0 c48_0 s48]) (fun (_, _, _, _, _) => [fV (lSlice lGPosting) (.slice A0 a0.Postings.length c0) a0.Postings]) ?_ ?_
              · refine wc_block ?_
                refine wc_seq ?_
                refine wc_region ?_   -- region 17
                obtain ⟨k17_0, h⟩ := chk_some h
                refine wl_st (fun _ h => h.openF m0 k17_0) ?_
                refine wl_det rfl rfl (det_indexP rfl rfl (ms m0) k17_0 m0 un23 sz73) rfl ?_
                refine wl_det rfl rfl (det_loadP (off := 0) rfl m0 (by rfl) (by rfl) (loaded_n (cells := [_, _, _, _, _, _, _]) ag73 sz73)) rfl ?_
                refine wl_act (act_alloc (cs := [_, _, _, _, _, _, _]) zr73 rfl) rfl rfl rfl ?_
                rintro _ _ _ ⟨b17_2, rfl, rfl, rfl⟩
                refine wl_act0 (act_store (cells := [_, _, _, _, _, _, _]) (cs' := [_, _, _, _, _, _, _]) rfl rfl rfl s0 (by rfl) (of_decide_eq_true rfl) sz73 ⟨rfl, rfl, rfl, rfl, rfl, rfl, rfl, trivial⟩) rfl rfl ?_
                rintro _ _ _ ⟨rfl, rfl⟩
                refine wl_nil ?_
                refine pn_then ?_
                refine wc_seq ?_
                refine wc_region ?_   -- region 18
                refine wl_det rfl rfl (det_field rfl fd73_2 rfl) rfl ?_
                refine wl_det rfl rfl (det_field rfl fd41_1 rfl) rfl ?_
                refine wl_det rfl rfl (det_load rfl m0 (by rfl) na3 us3) rfl ?_
                refine wl_det rfl rfl (det_load rfl (ms m0) (by rfl) na3 us3) rfl ?_
                refine wl_det rfl rfl (det_eql rfl rfl) rfl ?_
                refine wl_det rfl rfl (det_move rfl) rfl ?_
                refine wl_way (decide ((ix a0.Postings s42.2).Entry.Treaty = a1)) ((decide ((ix a0.Postings s42.2).Entry.Treaty = a1)) && (decide ((ix a0.Postings s42.2).Entry.Party = a2))) 6 77 (fun hg => ?_) (fun hg => ?_) ?_
                · have hg18_11 := hg
                  refine wl_on rfl rfl rfl rfl hg18_11 ?_
                  refine wl_det rfl rfl (det_field rfl fd73_2 rfl) rfl ?_
                  refine wl_on rfl rfl rfl rfl hg18_11 ?_
                  refine wl_det rfl rfl (det_field rfl fd41_2 rfl) rfl ?_
                  refine wl_on rfl rfl rfl rfl hg18_11 ?_
                  refine wl_det rfl rfl (det_load rfl m0 (by rfl) na3 us3) rfl ?_
                  refine wl_on rfl rfl rfl rfl hg18_11 ?_
                  refine wl_det rfl rfl (det_load rfl (ms (ms m0)) (by rfl) na3 us3) rfl ?_
                  refine wl_on rfl rfl rfl rfl hg18_11 ?_
                  refine wl_det rfl rfl (det_eql rfl rfl) rfl ?_
                  refine wl_det rfl rfl (det_and_on rfl rfl rfl hg18_11) rfl ?_
                  exact wl_nil (pn_qnE (ext_cons rfl (ext_skip rfl (ext_skip rfl (ext_skip rfl (ext_skip rfl (ext_skip rfl (ext_skip rfl ext_refl))))))) (fun _ h => h))
                · have hg18_11a := hg
                  refine wl_off rfl rfl rfl rfl rfl hg18_11a rfl ?_
                  refine wl_off rfl rfl rfl rfl rfl hg18_11a rfl ?_
                  refine wl_off rfl rfl rfl rfl rfl hg18_11a rfl ?_
                  refine wl_off rfl rfl rfl rfl rfl hg18_11a rfl ?_
                  refine wl_off rfl rfl rfl rfl rfl hg18_11a rfl ?_
                  refine wl_det rfl rfl (det_and_off (q := (decide ((ix a0.Postings s42.2).Entry.Party = a2))) rfl rfl rfl hg18_11a) rfl ?_
                  exact wl_nil (pn_qnE (ext_cons rfl (ext_skip rfl (ext_skip rfl (ext_skip rfl (ext_skip rfl (ext_skip rfl (ext_skip rfl ext_refl))))))) (fun _ h => h))
                refine wl_det rfl rfl (det_move rfl) rfl ?_
                refine wl_way ((decide ((ix a0.Postings s42.2).Entry.Treaty = a1)) && (decide ((ix a0.Postings s42.2).Entry.Party = a2))) (((decide ((ix a0.Postings s42.2).Entry.Treaty = a1)) && (decide ((ix a0.Postings s42.2).Entry.Party = a2))) && (decide ((ix a0.Postings s42.2).Period = a3))) 5 83 (fun hg => ?_) (fun hg => ?_) ?_
                · have hg18_17 := hg
                  refine wl_on rfl rfl rfl rfl hg18_17 ?_
                  refine wl_det rfl rfl (det_field rfl fd73_1 rfl) rfl ?_
                  refine wl_on rfl rfl rfl rfl hg18_17 ?_
                  refine wl_det rfl rfl (det_load rfl m0 (by rfl) na3 us3) rfl ?_
                  refine wl_on rfl rfl rfl rfl hg18_17 ?_
                  refine wl_det rfl rfl (det_move rfl) rfl ?_
                  refine wl_on rfl rfl rfl rfl hg18_17 ?_
                  refine wl_det rfl rfl (det_eql rfl rfl) rfl ?_
                  refine wl_det rfl rfl (det_and_on rfl rfl rfl hg18_17) rfl ?_
                  exact wl_nil (pn_qnE (ext_cons rfl (ext_skip rfl (ext_skip rfl (ext_skip rfl (ext_skip rfl (ext_skip rfl ext_refl)))))) (fun _ h => h))
                · have hg18_17a := hg
                  refine wl_off rfl rfl rfl rfl rfl hg18_17a rfl ?_
                  refine wl_off rfl rfl rfl rfl rfl hg18_17a rfl ?_
                  refine wl_off rfl rfl rfl rfl rfl hg18_17a rfl ?_
                  refine wl_off rfl rfl rfl rfl rfl hg18_17a rfl ?_
                  refine wl_det rfl rfl (det_and_off (q := (decide ((ix a0.Postings s42.2).Period = a3))) rfl rfl rfl hg18_17a) rfl ?_
                  exact wl_nil (pn_qnE (ext_cons rfl (ext_skip rfl (ext_skip rfl (ext_skip rfl (ext_skip rfl (ext_skip rfl ext_refl)))))) (fun _ h => h))
                refine wl_nil ?_
                refine pn_then ?_
                refine wc_cond rfl (fun cd54 => ?_) (fun cd54 => ?_)
                · have h := ifT h cd54
                  refine wc_region ?_   -- region 19
                  refine wl_det rfl rfl (det_field rfl fd77_4 rfl) rfl ?_
                  refine wl_det rfl rfl (det_load rfl (ms (ms (ms (ms m0)))) (by rfl) na23 us23) rfl ?_
                  refine wl_det rfl rfl (det_loadN (cells := [_, _, _, _, _, _, _]) rfl m0 (by rfl) ag73 sz73) rfl ?_
                  refine wl_act (act_litS lGPosting (vs := [_]) (cs := [_, _, _, _, _, _, _]) [(ix a0.Postings s42.2)] un23 in73 rfl rfl rfl rfl rfl ⟨rfl, trivial⟩ (by rfl) rfl (litR_flat rfl)) rfl rfl rfl ?_
                  rintro _ _ _ ⟨A19_3, rfl, rfl, rfl⟩
                  obtain ⟨k19_4, h⟩ := chk_some h
                  refine wl_act (act_appendS (L := lGPosting) rfl rfl (ss (ss (ss (ss (ss (ss s0)))))) (src_O m0) un23 in73 rfl rfl rfl k19_4) rfl rfl rfl ?_
                  rintro _ _ _ ⟨A19_4, c19_4, rfl, rfl, rfl⟩
                  refine wl_det rfl rfl (det_field rfl fd77_4 rfl) rfl ?_
                  refine wl_act0 (act_store (cells := [_]) (cs' := [_, _, _, _, _, _, _, _]) rfl rfl rfl (ss (ss (ss (ss (ss s0))))) (by rfl) (of_decide_eq_true rfl) sz23 ⟨rfl, trivial⟩) rfl rfl ?_
                  rintro _ _ _ ⟨rfl, rfl⟩
                  refine wl_nil ?_
                  refine pn_block ?_
                  replace h := Option.some.inj h
                  subst h
                  exact pn_meetG ((s42.1 ++ [(ix a0.Postings s42.2)]), A19_4, (s42.1 ++ [(ix a0.Postings s42.2)]).length, c19_4, ()) rfl ⟨rfl, rfl, rfl, rfl, rfl, rfl, rfl, rfl, trivial⟩ (fun _ h => h.to ⟨_, (rs (rs r0)), ⟨_, (rs (rs r0)), ⟨_, (rs (rs r0)), ⟨_, (rs (rs r0)), ⟨_, (rs (rs r0)), trivial⟩⟩⟩⟩⟩ ⟨(ms m0), trivial⟩)
                · have h := ifF h cd54
                  refine wc_skip ?_
                  refine pn_block ?_
                  replace h := Option.some.inj h
                  subst h
                  exact pn_meetG (s42.1, A42_0, s42.1.length, c42_0, ()) rfl ⟨rfl, rfl, rfl, rfl, rfl, rfl, rfl, rfl, trivial⟩ (fun _ h => h.to ⟨_, (rs r0), ⟨_, (rs r0), ⟨_, (rs r0), ⟨_, (rs r0), ⟨_, (rs r0), trivial⟩⟩⟩⟩⟩ ⟨(ms m0), trivial⟩)
              rintro ⟨s48, A48_0, n48_0, c48_0, _⟩ e48
              dsimp only at e48 ⊢
              subst e48
              have h := ho48
              refine wc_know (fun _ h => h.lenO (ms (ms (ms (ms m0))))) (fun e => ?_)
              subst e
              refine wc_region ?_   -- region 20
              refine wl_det rfl rfl (det_add rfl rfl) rfl ?_
              refine wl_det rfl rfl (det_move rfl) rfl ?_
              refine wl_nil ?_
              replace h := Option.some.inj h
              subst h
              exact pn_some (k42, (s48, (w64 (s42.2 + 1))), A48_0, s48.length, c48_0, ()) ⟨nextL g42, Nat.lt_succ_self _⟩ ⟨rfl, rfl, rfl, rfl, rfl, rfl, rfl, rfl, trivial⟩ (fun _ h => h.to ⟨_, r0, ⟨_, r0, ⟨_, r0, ⟨_, r0, ⟨_, r0, trivial⟩⟩⟩⟩⟩ ⟨m0, trivial⟩)
            · have h := ifF h cd46
              refine wc_exit ?_
              refine px_then ?_
              refine px_then ?_
              refine px_block ?_
              replace h := Option.some.inj h
              subst h
              replace g42 := nextR g42
              subst g42
              exact pn_meetG (s42.1, A42_0, s42.1.length, c42_0, ()) rfl ⟨rfl, rfl, trivial⟩ (fun _ h => h.to ⟨_, (rs (rs r0)), ⟨_, (rs (rs r0)), ⟨_, (rs (rs r0)), trivial⟩⟩⟩ trivial)
          rintro ⟨s38, A38_0, n38_0, c38_0, _⟩ e38
          dsimp only at e38 ⊢
          subst e38
          have h := ho38
          refine wc_know (fun _ h => h.lenO (ms (ms m0))) (fun e => ?_)
          subst e
          refine wc_seq ?_
          refine wc_region ?_   -- region 21
          refine wl_det rfl rfl (det_loadN (cells := [_, _, _, _, _, _, _, _]) rfl (ms m0) (by rfl) ag77 sz77) rfl ?_
          refine wl_act0 (act_store (cells := [_, _, _, _, _, _, _, _]) (cs' := [_, _, _, _, _, _, _, _]) rfl rfl rfl s0 (by rfl) (of_decide_eq_true rfl) sz77 ⟨rfl, rfl, rfl, rfl, rfl, rfl, rfl, rfl, trivial⟩) rfl rfl ?_
          rintro _ _ _ ⟨rfl, rfl⟩
          refine wl_det rfl rfl (det_assign rfl) rfl ?_
          refine wl_nil ?_
          refine pn_then ?_
          refine wc_ret ?_
          replace h := Option.some.inj h
          subst h
          refine pn_ret (vs := [_, _]) rfl ⟨⟨_, _, [_, _, _, _, _, _, _, _], rfl, m0, ag77, sz77, rfl⟩, rfl, trivial⟩ ⟨A38_0, s38.length, c38_0, rfl, rfl, rfl⟩ (fun _ h => h.to ⟨_, (rs (rs r0)), trivial⟩ trivial)
def Q_treatyref33_SameStatement (r : Bool) : Value → List Ent → List Fact → Prop := fun v θ κ => v = .bool r ∧ θ = [] ∧ κ = []
theorem plains_treatyref33_SameStatement {r : Bool} : ∀ v θ κ, Q_treatyref33_SameStatement r v θ κ → Plains θ := by
  rintro _ _ _ ⟨rfl, rfl, rfl⟩
  exact trivial
set_option maxHeartbeats 4000000 in
set_option maxRecDepth 100000 in
theorem W_treatyref33_SameStatement (a0 : GStatement) (a1 : GStatement) (A0 : Option Addr) (n0 : Nat) (c0 : Nat) (A3 : Option Addr) (n3 : Nat) (c3 : Nat) (r : Bool) (h : treatyref33_SameStatement a0 a1 = some r) : Spec Try.prog 50 [.agg #[.int .i64 a0.Treaty, .int .i64 a0.Party, .int .i64 a0.Period, .int .i64 a0.Opening.Due, .int .i64 a0.Opening.Reserve, .slice A0 n0 c0, .int .i64 a0.Closing.Due, .int .i64 a0.Closing.Reserve], .agg #[.int .i64 a1.Treaty, .int .i64 a1.Party, .int .i64 a1.Period, .int .i64 a1.Opening.Due, .int .i64 a1.Opening.Reserve, .slice A3 n3 c3, .int .i64 a1.Closing.Due, .int .i64 a1.Closing.Reserve]] [] [fV (lSlice lGPosting) (.slice A0 n0 c0) a0.Postings, fV (lSlice lGPosting) (.slice A3 n3 c3) a1.Postings] (Q_treatyref33_SameStatement r) := by
  unfold treatyref33_SameStatement at h
  refine spec_of (σ := [(0, _), (1, _)]) Try.func50 rfl rfl rfl rfl ?_
  intro C
  refine wc_know (fun _ h => h.lenF m0) (fun e => ?_)
  subst e
  refine wc_know (fun _ h => h.lenF (ms m0)) (fun e => ?_)
  subst e
  refine wc_seq ?_
  refine wc_region ?_   -- region 0
  refine wl_act (act_box (cs := [_, _, _, _, _, _, _, _]) rfl rfl) rfl rfl rfl ?_
  rintro _ _ _ ⟨b0_0, rfl, rfl, rfl⟩
  refine wl_act (act_box (cs := [_, _, _, _, _, _, _, _]) rfl rfl) rfl rfl rfl ?_
  rintro _ _ _ ⟨b0_1, rfl, rfl, rfl⟩
  refine wl_det rfl rfl (det_assign rfl) rfl ?_
  refine wl_nil ?_
  refine pn_then ?_
  refine wc_seq ?_
  refine wc_region ?_   -- region 1
  refine wl_det rfl rfl (det_field rfl fd77_0 rfl) rfl ?_
  refine wl_det rfl rfl (det_load rfl (ms m0) (by rfl) na3 us3) rfl ?_
  refine wl_det rfl rfl (det_field rfl fd77_0 rfl) rfl ?_
  refine wl_det rfl rfl (det_load rfl m0 (by rfl) na3 us3) rfl ?_
  refine wl_det rfl rfl (det_eql rfl rfl) rfl ?_
  refine wl_det rfl rfl (det_move rfl) rfl ?_
  refine wl_way (decide (a0.Treaty = a1.Treaty)) ((decide (a0.Treaty = a1.Treaty)) && (decide (a0.Party = a1.Party))) 6 16 (fun hg => ?_) (fun hg => ?_) ?_
  · have hg1_11 := hg
    refine wl_on rfl rfl rfl rfl hg1_11 ?_
    refine wl_det rfl rfl (det_field rfl fd77_1 rfl) rfl ?_
    refine wl_on rfl rfl rfl rfl hg1_11 ?_
    refine wl_det rfl rfl (det_load rfl (ms m0) (by rfl) na3 us3) rfl ?_
    refine wl_on rfl rfl rfl rfl hg1_11 ?_
    refine wl_det rfl rfl (det_field rfl fd77_1 rfl) rfl ?_
    refine wl_on rfl rfl rfl rfl hg1_11 ?_
    refine wl_det rfl rfl (det_load rfl m0 (by rfl) na3 us3) rfl ?_
    refine wl_on rfl rfl rfl rfl hg1_11 ?_
    refine wl_det rfl rfl (det_eql rfl rfl) rfl ?_
    refine wl_det rfl rfl (det_and_on rfl rfl rfl hg1_11) rfl ?_
    exact wl_nil (pn_qnE (ext_cons rfl (ext_skip rfl (ext_skip rfl (ext_skip rfl (ext_skip rfl (ext_skip rfl (ext_skip rfl ext_refl))))))) (fun _ h => h))
  · have hg1_11a := hg
    refine wl_off rfl rfl rfl rfl rfl hg1_11a rfl ?_
    refine wl_off rfl rfl rfl rfl rfl hg1_11a rfl ?_
    refine wl_off rfl rfl rfl rfl rfl hg1_11a rfl ?_
    refine wl_off rfl rfl rfl rfl rfl hg1_11a rfl ?_
    refine wl_off rfl rfl rfl rfl rfl hg1_11a rfl ?_
    refine wl_det rfl rfl (det_and_off (q := (decide (a0.Party = a1.Party))) rfl rfl rfl hg1_11a) rfl ?_
    exact wl_nil (pn_qnE (ext_cons rfl (ext_skip rfl (ext_skip rfl (ext_skip rfl (ext_skip rfl (ext_skip rfl (ext_skip rfl ext_refl))))))) (fun _ h => h))
  refine wl_det rfl rfl (det_move rfl) rfl ?_
  refine wl_way ((decide (a0.Treaty = a1.Treaty)) && (decide (a0.Party = a1.Party))) (((decide (a0.Treaty = a1.Treaty)) && (decide (a0.Party = a1.Party))) && (decide (a0.Period = a1.Period))) 6 23 (fun hg => ?_) (fun hg => ?_) ?_
  · have hg1_18 := hg
    refine wl_on rfl rfl rfl rfl hg1_18 ?_
    refine wl_det rfl rfl (det_field rfl fd77_2 rfl) rfl ?_
    refine wl_on rfl rfl rfl rfl hg1_18 ?_
    refine wl_det rfl rfl (det_load rfl (ms m0) (by rfl) na3 us3) rfl ?_
    refine wl_on rfl rfl rfl rfl hg1_18 ?_
    refine wl_det rfl rfl (det_field rfl fd77_2 rfl) rfl ?_
    refine wl_on rfl rfl rfl rfl hg1_18 ?_
    refine wl_det rfl rfl (det_load rfl m0 (by rfl) na3 us3) rfl ?_
    refine wl_on rfl rfl rfl rfl hg1_18 ?_
    refine wl_det rfl rfl (det_eql rfl rfl) rfl ?_
    refine wl_det rfl rfl (det_and_on rfl rfl rfl hg1_18) rfl ?_
    exact wl_nil (pn_qnE (ext_cons rfl (ext_skip rfl (ext_skip rfl (ext_skip rfl (ext_skip rfl (ext_skip rfl (ext_skip rfl ext_refl))))))) (fun _ h => h))
  · have hg1_18a := hg
    refine wl_off rfl rfl rfl rfl rfl hg1_18a rfl ?_
    refine wl_off rfl rfl rfl rfl rfl hg1_18a rfl ?_
    refine wl_off rfl rfl rfl rfl rfl hg1_18a rfl ?_
    refine wl_off rfl rfl rfl rfl rfl hg1_18a rfl ?_
    refine wl_off rfl rfl rfl rfl rfl hg1_18a rfl ?_
    refine wl_det rfl rfl (det_and_off (q := (decide (a0.Period = a1.Period))) rfl rfl rfl hg1_18a) rfl ?_
    exact wl_nil (pn_qnE (ext_cons rfl (ext_skip rfl (ext_skip rfl (ext_skip rfl (ext_skip rfl (ext_skip rfl (ext_skip rfl ext_refl))))))) (fun _ h => h))
  refine wl_det rfl rfl (det_move rfl) rfl ?_
  refine wl_way (((decide (a0.Treaty = a1.Treaty)) && (decide (a0.Party = a1.Party))) && (decide (a0.Period = a1.Period))) ((((decide (a0.Treaty = a1.Treaty)) && (decide (a0.Party = a1.Party))) && (decide (a0.Period = a1.Period))) && (decide ([a0.Opening.Due, a0.Opening.Reserve] = [a1.Opening.Due, a1.Opening.Reserve]))) 6 30 (fun hg => ?_) (fun hg => ?_) ?_
  · have hg1_25 := hg
    refine wl_on rfl rfl rfl rfl hg1_25 ?_
    refine wl_det rfl rfl (det_field rfl fd77_3 rfl) rfl ?_
    refine wl_on rfl rfl rfl rfl hg1_25 ?_
    refine wl_det rfl rfl (det_loadN (cells := [_, _]) rfl (ms m0) (by rfl) ag30 sz30) rfl ?_
    refine wl_on rfl rfl rfl rfl hg1_25 ?_
    refine wl_det rfl rfl (det_field rfl fd77_3 rfl) rfl ?_
    refine wl_on rfl rfl rfl rfl hg1_25 ?_
    refine wl_det rfl rfl (det_loadN (cells := [_, _]) rfl m0 (by rfl) ag30 sz30) rfl ?_
    refine wl_on rfl rfl rfl rfl hg1_25 ?_
    refine wl_det rfl rfl (det_eqlS [_, _] [_, _] eq30 rfl rfl rfl rfl) rfl ?_
    refine wl_det rfl rfl (det_and_on rfl rfl rfl hg1_25) rfl ?_
    exact wl_nil (pn_qnE (ext_cons rfl (ext_skip rfl (ext_skip rfl (ext_skip rfl (ext_skip rfl (ext_skip rfl (ext_skip rfl ext_refl))))))) (fun _ h => h))
  · have hg1_25a := hg
    refine wl_off rfl rfl rfl rfl rfl hg1_25a rfl ?_
    refine wl_off rfl rfl rfl rfl rfl hg1_25a rfl ?_
    refine wl_off rfl rfl rfl rfl rfl hg1_25a rfl ?_
    refine wl_off rfl rfl rfl rfl rfl hg1_25a rfl ?_
    refine wl_off rfl rfl rfl rfl rfl hg1_25a rfl ?_
    refine wl_det rfl rfl (det_and_off (q := (decide ([a0.Opening.Due, a0.Opening.Reserve] = [a1.Opening.Due, a1.Opening.Reserve]))) rfl rfl rfl hg1_25a) rfl ?_
    exact wl_nil (pn_qnE (ext_cons rfl (ext_skip rfl (ext_skip rfl (ext_skip rfl (ext_skip rfl (ext_skip rfl (ext_skip rfl ext_refl))))))) (fun _ h => h))
  refine wl_det rfl rfl (det_move rfl) rfl ?_
  refine wl_way ((((decide (a0.Treaty = a1.Treaty)) && (decide (a0.Party = a1.Party))) && (decide (a0.Period = a1.Period))) && (decide ([a0.Opening.Due, a0.Opening.Reserve] = [a1.Opening.Due, a1.Opening.Reserve]))) (((((decide (a0.Treaty = a1.Treaty)) && (decide (a0.Party = a1.Party))) && (decide (a0.Period = a1.Period))) && (decide ([a0.Opening.Due, a0.Opening.Reserve] = [a1.Opening.Due, a1.Opening.Reserve]))) && (decide ([a0.Closing.Due, a0.Closing.Reserve] = [a1.Closing.Due, a1.Closing.Reserve]))) 6 37 (fun hg => ?_) (fun hg => ?_) ?_
  · have hg1_32 := hg
    refine wl_on rfl rfl rfl rfl hg1_32 ?_
    refine wl_det rfl rfl (det_field rfl fd77_5 rfl) rfl ?_
    refine wl_on rfl rfl rfl rfl hg1_32 ?_
    refine wl_det rfl rfl (det_loadN (cells := [_, _]) rfl (ms m0) (by rfl) ag30 sz30) rfl ?_
    refine wl_on rfl rfl rfl rfl hg1_32 ?_
    refine wl_det rfl rfl (det_field rfl fd77_5 rfl) rfl ?_
    refine wl_on rfl rfl rfl rfl hg1_32 ?_
    refine wl_det rfl rfl (det_loadN (cells := [_, _]) rfl m0 (by rfl) ag30 sz30) rfl ?_
    refine wl_on rfl rfl rfl rfl hg1_32 ?_
    refine wl_det rfl rfl (det_eqlS [_, _] [_, _] eq30 rfl rfl rfl rfl) rfl ?_
    refine wl_det rfl rfl (det_and_on rfl rfl rfl hg1_32) rfl ?_
    exact wl_nil (pn_qnE (ext_cons rfl (ext_skip rfl (ext_skip rfl (ext_skip rfl (ext_skip rfl (ext_skip rfl (ext_skip rfl ext_refl))))))) (fun _ h => h))
  · have hg1_32a := hg
    refine wl_off rfl rfl rfl rfl rfl hg1_32a rfl ?_
    refine wl_off rfl rfl rfl rfl rfl hg1_32a rfl ?_
    refine wl_off rfl rfl rfl rfl rfl hg1_32a rfl ?_
    refine wl_off rfl rfl rfl rfl rfl hg1_32a rfl ?_
    refine wl_off rfl rfl rfl rfl rfl hg1_32a rfl ?_
    refine wl_det rfl rfl (det_and_off (q := (decide ([a0.Closing.Due, a0.Closing.Reserve] = [a1.Closing.Due, a1.Closing.Reserve]))) rfl rfl rfl hg1_32a) rfl ?_
    exact wl_nil (pn_qnE (ext_cons rfl (ext_skip rfl (ext_skip rfl (ext_skip rfl (ext_skip rfl (ext_skip rfl (ext_skip rfl ext_refl))))))) (fun _ h => h))
  refine wl_det rfl rfl (det_move rfl) rfl ?_
  obtain ⟨q1_39, hq1_39, h⟩ := bind_some h
  have ho1_39 := h
  refine wl_way (((((decide (a0.Treaty = a1.Treaty)) && (decide (a0.Party = a1.Party))) && (decide (a0.Period = a1.Period))) && (decide ([a0.Opening.Due, a0.Opening.Reserve] = [a1.Opening.Due, a1.Opening.Reserve]))) && (decide ([a0.Closing.Due, a0.Closing.Reserve] = [a1.Closing.Due, a1.Closing.Reserve]))) q1_39 6 44 (fun hg => ?_) (fun hg => ?_) ?_
  · have hg1_39 := hg
    have h := ifT hq1_39 hg
    refine wl_on rfl rfl rfl rfl hg1_39 ?_
    refine wl_det rfl rfl (det_field rfl fd77_4 rfl) rfl ?_
    refine wl_on rfl rfl rfl rfl hg1_39 ?_
    refine wl_det rfl rfl (det_load rfl (ms m0) (by rfl) na23 us23) rfl ?_
    refine wl_on rfl rfl rfl rfl hg1_39 ?_
    refine wl_det rfl rfl (det_field rfl fd77_4 rfl) rfl ?_
    refine wl_on rfl rfl rfl rfl hg1_39 ?_
    refine wl_det rfl rfl (det_load rfl m0 (by rfl) na23 us23) rfl ?_
    refine wl_on rfl rfl rfl rfl hg1_39 ?_
    obtain ⟨r1_38, hr1_38, h⟩ := bind_some h
    refine wl_act (act_callS (cap := []) (W_treatyref33_SamePostings a0.Postings a1.Postings A0 a0.Postings.length c0 A3 a1.Postings.length c3 r1_38 hr1_38) rfl rfl rfl bd37 rfl ⟨m0, ⟨(ms m0), trivial⟩⟩) rfl rfl rfl ?_
    rintro _ _ _ ⟨_, _, ⟨rfl, rfl, rfl⟩, rfl, rfl⟩
    dsimp only [List.nil_append, List.cons_append]
    replace h := Option.some.inj h
    subst h
    refine wl_det rfl rfl (det_pick_on rfl hg1_39 rfl rfl) rfl ?_
    exact wl_nil (pn_qnE (ext_cons rfl (ext_skip rfl (ext_skip rfl (ext_skip rfl (ext_skip rfl (ext_skip rfl (ext_skip rfl ext_refl))))))) (fun _ h => h))
  · have hg1_39a := hg
    have h := ifF hq1_39 hg
    refine wl_off rfl rfl rfl rfl rfl hg1_39a rfl ?_
    refine wl_off rfl rfl rfl rfl rfl hg1_39a rfl ?_
    refine wl_off rfl rfl rfl rfl rfl hg1_39a rfl ?_
    refine wl_off rfl rfl rfl rfl rfl hg1_39a rfl ?_
    refine wl_off rfl rfl rfl rfl rfl hg1_39a rfl ?_
    replace h := Option.some.inj h
    subst h
    refine wl_det rfl rfl (det_pick_off rfl hg1_39a rfl rfl) rfl ?_
    exact wl_nil (pn_qnE (ext_cons rfl (ext_skip rfl (ext_skip rfl (ext_skip rfl (ext_skip rfl (ext_skip rfl (ext_skip rfl ext_refl))))))) (fun _ h => h))
  have h := ho1_39
  refine wl_det rfl rfl (det_assign rfl) rfl ?_
  refine wl_nil ?_
  refine pn_then ?_
  refine wc_ret ?_
  replace h := Option.some.inj h
  subst h
  refine pn_ret (vs := [_]) rfl ⟨rfl, trivial⟩ ⟨rfl, rfl, rfl⟩ (fun _ h => h.to trivial trivial)
def Q_treatylaw34_awake (r : Bool) : Value → List Ent → List Fact → Prop := fun v θ κ => v = .bool r ∧ θ = [] ∧ κ = []
theorem plains_treatylaw34_awake {r : Bool} : ∀ v θ κ, Q_treatylaw34_awake r v θ κ → Plains θ := by
  rintro _ _ _ ⟨rfl, rfl, rfl⟩
  exact trivial
set_option maxHeartbeats 4000000 in
set_option maxRecDepth 100000 in
theorem W_treatylaw34_awake (r : Bool) (h : treatylaw34_awake = some r) : Spec Try.prog 19 [] [] [] (Q_treatylaw34_awake r) := by
  unfold treatylaw34_awake at h
  refine spec_of (σ := []) Try.func19 rfl rfl rfl rfl ?_
  intro C
  refine wc_seq ?_
  refine wc_region ?_   -- region 0
  refine wl_det rfl rfl (det_assign rfl) rfl ?_
  refine wl_nil ?_
  refine pn_then ?_
  refine wc_seq ?_
  refine wc_region ?_   -- region 1
  refine wl_det rfl rfl (det_build (cs := [_, _, _, _, _]) pl41 zr41 rfl rfl (by rfl)) rfl ?_
  refine wl_det rfl rfl (det_build (cs := [_, _, _, _, _]) pl41 zr41 rfl rfl (by rfl)) rfl ?_
  refine wl_act (act_alloc (cs := [_, _, _, _, _]) zr41 rfl) rfl rfl rfl ?_
  rintro _ _ _ ⟨b1_2, rfl, rfl, rfl⟩
  refine wl_act (act_alloc (cs := [_, _, _, _, _]) zr41 rfl) rfl rfl rfl ?_
  rintro _ _ _ ⟨b1_3, rfl, rfl, rfl⟩
  refine wl_act0 (act_store (cells := [_, _, _, _, _]) (cs' := [_, _, _, _, _]) rfl rfl rfl (ss s0) (by rfl) (of_decide_eq_true rfl) sz41 ⟨rfl, rfl, rfl, rfl, rfl, trivial⟩) rfl rfl ?_
  rintro _ _ _ ⟨rfl, rfl⟩
  refine wl_act0 (act_store (cells := [_, _, _, _, _]) (cs' := [_, _, _, _, _]) rfl rfl rfl s0 (by rfl) (of_decide_eq_true rfl) sz41 ⟨rfl, rfl, rfl, rfl, rfl, trivial⟩) rfl rfl ?_
  rintro _ _ _ ⟨rfl, rfl⟩
  refine wl_nil ?_
  refine pn_then ?_
  refine wc_seq ?_
  refine wc_region ?_   -- region 2
  refine wl_det rfl rfl (det_loadN (cells := [_, _, _, _, _]) rfl (ms m0) (by rfl) ag41 sz41) rfl ?_
  refine wl_det rfl rfl (det_build (cs := [_, _, _, _, _, _, _]) pl73 zr73 rfl rfl (by rfl)) rfl ?_
  refine wl_det rfl rfl (det_loadN (cells := [_, _, _, _, _]) rfl m0 (by rfl) ag41 sz41) rfl ?_
  refine wl_det rfl rfl (det_build (cs := [_, _, _, _, _, _, _]) pl73 zr73 rfl rfl (by rfl)) rfl ?_
  refine wl_act (act_litS lGPosting (vs := [_, _]) (cs := [_, _, _, _, _, _, _, _, _, _, _, _, _, _]) [(GPosting.mk 1 0 (GEntry.mk 1 5 2 7 100)), (GPosting.mk 2 1 (GEntry.mk 1 5 2 7 (-20)))] un23 in73 rfl rfl rfl rfl rfl ⟨rfl, rfl, trivial⟩ (by rfl) rfl (litR_flat rfl)) rfl rfl rfl ?_
  rintro _ _ _ ⟨A2_4, rfl, rfl, rfl⟩
  refine wl_det rfl rfl (det_build (cs := [_, _]) pl25 zr25 rfl rfl (by rfl)) rfl ?_
  refine wl_act (act_alloc (cs := [_, _]) zr25 rfl) rfl rfl rfl ?_
  rintro _ _ _ ⟨b2_6, rfl, rfl, rfl⟩
  refine wl_act0 (act_store (cells := [_, _]) (cs' := [_, _]) rfl rfl rfl s0 (by rfl) (of_decide_eq_true rfl) sz25 ⟨rfl, rfl, trivial⟩) rfl rfl ?_
  rintro _ _ _ ⟨rfl, rfl⟩
  refine wl_nil ?_
  refine pn_then ?_
  refine wc_seq ?_
  refine wc_region ?_   -- region 3
  refine wl_det rfl rfl (det_loadN (cells := [_, _]) rfl m0 (by rfl) ag25 sz25) rfl ?_
  obtain ⟨r3_1, hr3_1, h⟩ := bind_some h
  refine wl_act (act_callL (cap := []) [eS lGPosting 73 A2_4 2 2 [(GPosting.mk 1 0 (GEntry.mk 1 5 2 7 100)), (GPosting.mk 2 1 (GEntry.mk 1 5 2 7 (-20)))]] (W_account_Statement (GLedger.mk 1 [(GPosting.mk 1 0 (GEntry.mk 1 5 2 7 100)), (GPosting.mk 2 1 (GEntry.mk 1 5 2 7 (-20)))]) 5 2 1 A2_4 2 2 r3_1 hr3_1) plains_account_Statement rfl rfl rfl bd49 rfl ⟨(ms m0), trivial⟩ ⟨.inr ⟨_, m0, lent_eS⟩, trivial⟩) rfl rfl rfl ?_
  rintro _ _ _ ⟨_, _, ⟨y3_1A0, y3_1n0, y3_1c0, rfl, rfl, rfl⟩, rfl, rfl⟩
  dsimp only [List.nil_append, List.cons_append]
  refine wl_know (fun _ h => h.lenO m0) (fun e => ?_)
  subst e
  refine wl_det rfl rfl (det_move rfl) rfl ?_
  refine wl_det rfl rfl (det_extract rfl rfl) rfl ?_
  refine wl_det rfl rfl (det_extract rfl rfl) rfl ?_
  refine wl_act (act_alloc (cs := [_, _, _, _, _, _, _, _]) zr77 rfl) rfl rfl rfl ?_
  rintro _ _ _ ⟨b3_5, rfl, rfl, rfl⟩
  refine wl_act0 (act_store (cells := [_, _, _, _, _, _, _, _]) (cs' := [_, _, _, _, _, _, _, _]) rfl rfl rfl s0 (by rfl) (of_decide_eq_true rfl) sz77 ⟨rfl, rfl, rfl, rfl, rfl, rfl, rfl, rfl, trivial⟩) rfl rfl ?_
  rintro _ _ _ ⟨rfl, rfl⟩
  refine wl_det rfl rfl (det_assign rfl) rfl ?_
  refine wl_nil ?_
  refine pn_then ?_
  obtain ⟨q8, h, ho8⟩ := bind_some h
  refine wc_meetG (G := Bool × Unit) (fun (s8, _) => s8 = q8) (fun (s8, _) => [(0, .bool s8)]) (fun (_, _) => []) (fun (_, _) => []) ?_ ?_
  · rcases Bool.eq_false_or_eq_true (decide (r3_1.2 = 0)) with hg4_g21 | hg4_g21
    · have h := ifT h hg4_g21
      refine wc_st (fun _ h => h.shutS (rs (rs (rs r0)))) ?_
      obtain ⟨k4_p1, h⟩ := chk_some h
      refine dx_region 12 [[], [0], [0, 1], [0, 1, 2], [0, 1, 2], [0, 1, 2], [0, 1, 2, 5], [0, 1, 2, 5, 6], [0, 1, 2], [0, 1, 2, 4, 5, 6, 7, 8], [0, 1, 2, 3, 4, 5, 6, 7, 8, 9], [0, 1, 2, 3, 4, 5, 6, 7, 8, 9, 10], [0, 1, 2, 3, 4, 5, 6, 7, 8, 9, 10, 11]] mixed (ord := (.det 0 (.det 1 (.det 2 (.det 3 (.det 4 (.det 5 (.det 6 (.det 8 (.alt 7 (.det 9 (.alt 10 (.det 11 .done) .dead)) .dead)))))))))) (by kernel_rfl) ?_   -- region 4
      refine hx_det rfl rfl rfl nofun (det_move rfl) rfl ?_
      refine hx_det rfl rfl rfl nofun (det_eql rfl rfl) rfl ?_
      refine hx_det rfl rfl rfl nofun (det_move rfl) rfl ?_
      refine hx_on rfl rfl rfl rfl rfl hg4_g21 nofun (det_loadN (cells := [_, _, _, _, _, _, _, _]) rfl m0 (by rfl) ag77 sz77) rfl ?_
      refine hx_on rfl rfl rfl rfl rfl hg4_g21 nofun (det_build (cs := [_, _]) pl30 zr30 rfl rfl (by rfl)) rfl ?_
      refine hx_on rfl rfl rfl rfl rfl hg4_g21 nofun (det_field rfl fd25_1 rfl) rfl ?_
      refine hx_on rfl rfl rfl rfl rfl hg4_g21 nofun (det_load rfl (ms (ms m0)) (by rfl) na23 us23) rfl ?_
      refine hx_on rfl rfl rfl rfl rfl hg4_g21 nofun (det_build (cs := [_, _]) pl30 zr30 rfl rfl (by rfl)) rfl ?_
      refine hx_actG rfl rfl rfl rfl rfl hg4_g21 (act_sliceL rfl rfl m0 un23 sz73 rfl rfl k4_p1) rfl (by rintro _ _ _ ⟨A4_7, c4_7, rfl, rfl, rfl⟩; first | exact ⟨_ :: [], [], rfl, rfl⟩ | exact ⟨[], [_], rfl, rfl⟩ | exact ⟨[], [], rfl, rfl⟩) ?_
      rintro _ _ _ ⟨A4_7, c4_7, rfl, rfl, rfl⟩
      refine hx_on rfl rfl rfl rfl rfl hg4_g21 nofun (det_build (cs := [_, _, _, _, _, _, _, _]) pl77 zr77 rfl rfl (by rfl)) rfl ?_
      obtain ⟨r4_10, hr4_10, h⟩ := bind_some h
      refine hx_actG rfl rfl rfl rfl rfl hg4_g21 (act_callL (cap := []) [eS lGPosting 73 y3_1A0 r3_1.1.Postings.length y3_1c0 r3_1.1.Postings] (W_treatyref33_SameStatement r3_1.1 (GStatement.mk 5 2 1 (GBalance.mk 100 0) ([(GPosting.mk 1 0 (GEntry.mk 1 5 2 7 100)), (GPosting.mk 2 1 (GEntry.mk 1 5 2 7 (-20)))].drop (1 : Int).toNat) (GBalance.mk 80 0)) y3_1A0 r3_1.1.Postings.length y3_1c0 A4_7 ([(GPosting.mk 1 0 (GEntry.mk 1 5 2 7 100)), (GPosting.mk 2 1 (GEntry.mk 1 5 2 7 (-20)))].drop (1 : Int).toNat).length c4_7 r4_10 hr4_10) plains_treatyref33_SameStatement rfl rfl rfl bd50 rfl ⟨(ms m0), trivial⟩ ⟨.inr ⟨_, m0, lent_eS⟩, ⟨.inl m0, trivial⟩⟩) rfl (by rintro _ _ _ ⟨_, _, _, rfl, rfl⟩; first | exact ⟨_, _, rfl, rfl⟩ | exact ⟨_, [], rfl, rfl⟩) ?_
      rintro _ _ _ ⟨_, _, ⟨rfl, rfl, rfl⟩, rfl, rfl⟩
      dsimp only [List.nil_append, List.cons_append]
      refine hx_det rfl rfl rfl nofun (det_pick_on rfl hg4_g21 rfl rfl) rfl ?_
      refine hx_end ?_
      refine wl_det rfl rfl (det_assign rfl) rfl ?_
      refine wl_nil ?_
      replace h := Option.some.inj h
      subst h
      exact pn_meetG (r4_10, ()) rfl ⟨rfl, trivial⟩ (fun _ h => h.to trivial trivial)
    · have h := ifF h hg4_g21
      refine dx_region 12 [[], [0], [0, 1], [0, 1, 2], [0, 1, 2], [0, 1, 2], [0, 1, 2, 5], [0, 1, 2, 5, 6], [0, 1, 2], [0, 1, 2, 4, 5, 6, 7, 8], [0, 1, 2, 3, 4, 5, 6, 7, 8, 9], [0, 1, 2, 3, 4, 5, 6, 7, 8, 9, 10], [0, 1, 2, 3, 4, 5, 6, 7, 8, 9, 10, 11]] mixed (ord := (.det 0 (.det 1 (.det 2 (.det 3 (.det 4 (.det 5 (.det 6 (.det 7 (.det 8 (.det 9 (.det 10 (.det 11 .done))))))))))))) (by kernel_rfl) ?_   -- region 4
      refine hx_det rfl rfl rfl nofun (det_move rfl) rfl ?_
      refine hx_det rfl rfl rfl nofun (det_eql rfl rfl) rfl ?_
      refine hx_det rfl rfl rfl nofun (det_move rfl) rfl ?_
      refine hx_off rfl rfl rfl rfl rfl hg4_g21 rfl ?_
      refine hx_off rfl rfl rfl rfl rfl hg4_g21 rfl ?_
      refine hx_off rfl rfl rfl rfl rfl hg4_g21 rfl ?_
      refine hx_off rfl rfl rfl rfl rfl hg4_g21 rfl ?_
      refine hx_off rfl rfl rfl rfl rfl hg4_g21 rfl ?_
      refine hx_off rfl rfl rfl rfl rfl hg4_g21 rfl ?_
      refine hx_off rfl rfl rfl rfl rfl hg4_g21 rfl ?_
      refine hx_off rfl rfl rfl rfl rfl hg4_g21 rfl ?_
      refine hx_det rfl rfl rfl nofun (det_pick_off rfl hg4_g21 rfl rfl) rfl ?_
      refine hx_end ?_
      refine wl_det rfl rfl (det_assign rfl) rfl ?_
      refine wl_nil ?_
      replace h := Option.some.inj h
      subst h
      exact pn_meetG (false, ()) rfl ⟨rfl, trivial⟩ (fun _ h => h.to trivial trivial)
  rintro ⟨s8, _⟩ e8
  dsimp only at e8 ⊢
  subst e8
  have h := ho8
  refine wc_ret ?_
  replace h := Option.some.inj h
  subst h
  refine pn_ret (vs := [_]) rfl ⟨rfl, trivial⟩ ⟨rfl, rfl, rfl⟩ (fun _ h => h.to trivial trivial)
def Q_treatylaw34_AccountExtract (r : Bool) : Value → List Ent → List Fact → Prop := fun v θ κ => v = .bool r ∧ θ = [] ∧ κ = []
theorem plains_treatylaw34_AccountExtract {r : Bool} : ∀ v θ κ, Q_treatylaw34_AccountExtract r v θ κ → Plains θ := by
  rintro _ _ _ ⟨rfl, rfl, rfl⟩
  exact trivial
set_option maxHeartbeats 4000000 in
set_option maxRecDepth 100000 in
theorem W_treatylaw34_AccountExtract (a0 : (List Int)) (a1 : (List Int)) (a2 : Int) (a3 : Int) (a4 : Int) (A0 : Option Addr) (n0 : Nat) (c0 : Nat) (A3 : Option Addr) (n3 : Nat) (c3 : Nat) (r : Bool) (h : treatylaw34_AccountExtract a0 a1 a2 a3 a4 = some r) : Spec Try.prog 10 [.slice A0 n0 c0, .slice A3 n3 c3, .int .i64 a2, .int .i64 a3, .int .i64 a4] [] [fV (lSlice (lInt .i64)) (.slice A0 n0 c0) a0, fV (lSlice (lInt .i64)) (.slice A3 n3 c3) a1] (Q_treatylaw34_AccountExtract r) := by
  unfold treatylaw34_AccountExtract at h
  refine spec_of (σ := [(0, _), (1, _), (2, _), (3, _), (4, _)]) Try.func10 rfl rfl rfl rfl ?_
  intro C
  refine wc_know (fun _ h => h.lenF m0) (fun e => ?_)
  subst e
  refine wc_know (fun _ h => h.lenF (ms m0)) (fun e => ?_)
  subst e
  refine wc_seq ?_
  refine wc_region ?_   -- region 0
  refine wl_det rfl rfl (det_assign rfl) rfl ?_
  refine wl_nil ?_
  refine pn_then ?_
  refine wc_seq ?_
  refine wc_region ?_   -- region 1
  refine wl_det rfl rfl (det_move rfl) rfl ?_
  refine wl_det rfl rfl (det_move rfl) rfl ?_
  refine wl_det rfl rfl (det_move rfl) rfl ?_
  obtain ⟨r1_3, hr1_3, h⟩ := bind_some h
  refine wl_act (act_callS (cap := []) (W_treatylaw34_few a0 a2 a3 A0 a0.length c0 r1_3 hr1_3) rfl rfl rfl bd38 rfl ⟨m0, trivial⟩) rfl rfl rfl ?_
  rintro _ _ _ ⟨_, _, ⟨y1_3A0, y1_3n0, y1_3c0, y1_3A1, y1_3n1, y1_3c1, rfl, rfl, rfl⟩, rfl, rfl⟩
  dsimp only [List.nil_append, List.cons_append]
  refine wl_know (fun _ h => h.lenF m0) (fun e => ?_)
  subst e
  refine wl_know (fun _ h => h.lenO m0) (fun e => ?_)
  subst e
  refine wl_det rfl rfl (det_move rfl) rfl ?_
  refine wl_det rfl rfl (det_extract rfl rfl) rfl ?_
  refine wl_det rfl rfl (det_extract rfl rfl) rfl ?_
  refine wl_act (act_alloc (cs := [_, _]) zr25 rfl) rfl rfl rfl ?_
  rintro _ _ _ ⟨b1_7, rfl, rfl, rfl⟩
  refine wl_act (act_alloc (cs := [_, _]) zr25 rfl) rfl rfl rfl ?_
  rintro _ _ _ ⟨b1_8, rfl, rfl, rfl⟩
  refine wl_act0 (act_store (cells := [_, _]) (cs' := [_, _]) rfl rfl rfl (ss s0) (by rfl) (of_decide_eq_true rfl) sz25 ⟨rfl, rfl, trivial⟩) rfl rfl ?_
  rintro _ _ _ ⟨rfl, rfl⟩
  refine wl_act0 (act_store (cells := [_, _]) (cs' := [_, _]) rfl rfl rfl s0 (by rfl) (of_decide_eq_true rfl) sz25 ⟨rfl, rfl, trivial⟩) rfl rfl ?_
  rintro _ _ _ ⟨rfl, rfl⟩
  refine wl_nil ?_
  refine pn_then ?_
  refine wc_seq ?_
  refine wc_region ?_   -- region 2
  refine wl_det rfl rfl (det_move rfl) rfl ?_
  obtain ⟨r2_1, hr2_1, h⟩ := bind_some h
  refine wl_act (act_callS (cap := []) (W_treatymade2_New a1 A3 a1.length c3 r2_1 hr2_1) rfl rfl rfl bd14 rfl ⟨(ms (ms m0)), trivial⟩) rfl rfl rfl ?_
  rintro _ _ _ ⟨_, _, ⟨y2_1b0, y2_1A1, y2_1n1, y2_1c1, rfl, rfl, rfl⟩, rfl, rfl⟩
  dsimp only [List.nil_append, List.cons_append]
  refine wl_know (fun _ h => h.lenF m0) (fun e => ?_)
  subst e
  obtain ⟨r2_2, hr2_2, h⟩ := bind_some h
  refine wl_act (act_callS (cap := []) (W_treatymade2_Ledger r2_1 6 y2_1b0 y2_1A1 r2_1.L.length y2_1c1 r2_2 hr2_2) rfl rfl rfl bd13 ⟨_, r0, rfl⟩ ⟨m0, trivial⟩) rfl rfl rfl ?_
  rintro _ _ _ ⟨_, _, ⟨y2_2A0, y2_2n0, y2_2c0, y2_2A1, y2_2n1, y2_2c1, rfl, rfl, rfl⟩, rfl, rfl⟩
  dsimp only [List.nil_append, List.cons_append]
  refine wl_know (fun _ h => h.lenF m0) (fun e => ?_)
  subst e
  refine wl_know (fun _ h => h.lenF (ms m0)) (fun e => ?_)
  subst e
  refine wl_act (act_alloc (cs := [_, _]) zr25 rfl) rfl rfl rfl ?_
  rintro _ _ _ ⟨b2_3, rfl, rfl, rfl⟩
  refine wl_act0 (act_store (cells := [_, _]) (cs' := [_, _]) rfl rfl rfl s0 (by rfl) (of_decide_eq_true rfl) sz25 ⟨rfl, rfl, trivial⟩) rfl rfl ?_
  rintro _ _ _ ⟨rfl, rfl⟩
  refine wl_nil ?_
  refine pn_then ?_
  obtain ⟨q6, h, ho6⟩ := bind_some h
  refine wc_meetG (G := Unit × Unit) (fun (s6, _) => (.inl s6) = q6) (fun (_, _) => []) (fun (_, _) => []) (fun (_, _) => []) ?_ ?_
  · refine wc_seq ?_
    refine wc_region ?_   -- region 3
    refine wl_det rfl rfl (det_loadN (cells := [_, _]) rfl (ms (ms (ms m0))) (by rfl) ag25 sz25) rfl ?_
    refine wl_det rfl rfl (det_loadN (cells := [_, _]) rfl (ms (ms m0)) (by rfl) ag25 sz25) rfl ?_
    refine wl_st (fun _ h => h.fact (f := fC lGLedger [.int .i64 r1_3.1.Closed, .slice y1_3A0 r1_3.1.Postings.length y1_3c0] r1_3.1) (mkGLedger ⟨h.facts _ (ms (ms (ms m0))), trivial⟩)) ?_
    refine wl_st (fun _ h => h.shutS (rs (rs (rs (rs r0))))) ?_
    refine wl_st (fun _ h => h.fact (f := fC lGLedger [.int .i64 r1_3.2.Closed, .slice y1_3A1 r1_3.2.Postings.length y1_3c1] r1_3.2) (mkGLedger ⟨h.facts _ m0, trivial⟩)) ?_
    refine wl_act (act_litS lGLedger (vs := [_, _]) (cs := [_, _, _, _]) [r1_3.1, r1_3.2] un52 in25 rfl rfl rfl rfl rfl ⟨rfl, rfl, trivial⟩ (by rfl) rfl (fun _ h => by have q := (oneF h (ms (ms m0))).cat (oneF h m0); exact q)) rfl rfl rfl ?_
    rintro _ _ _ ⟨A3_2, rfl, rfl, rfl⟩
    refine wl_det rfl rfl (det_len rfl un52) rfl ?_
    refine wl_det rfl rfl (det_move rfl) rfl ?_
    refine wl_nil ?_
    refine pn_then ?_
    refine wc_block ?_
    refine wc_st (fun _ h => h.shutS r0) ?_
    obtain ⟨o10, h, ho10⟩ := bind_some h
    obtain ⟨k10, hk10⟩ := loopV_some.1 h
    refine wc_loop (G := Nat × Int × Unit) (fun g => IterN (treatylaw34_AccountExtract_l10 a4 r1_3 r2_2) g.1 g.2.1 o10) (fun g => g.1) (fun (_, s10, _) => [(4, .int .i64 a4), (13, .pointer (some ⟨b2_3, 0, none⟩)), (42, .slice A3_2 2 2), (43, .int .i64 (2 : Int)), (44, .int .i64 s10)]) (fun (_, _, _) => [eBlk b2_3 25 [.int .i64 r2_2.1.Closed, .slice y2_2A0 r2_2.1.Postings.length y2_2c0]]) (fun (_, _, _) => [fV (lSlice lGPosting) (.slice y2_2A0 r2_2.1.Postings.length y2_2c0) r2_2.1.Postings, fV (lSlice lGLedger) (.slice A3_2 2 2) [r1_3.1, r1_3.2]]) (k10, 0, ()) hk10 ⟨rfl, rfl, rfl, rfl, rfl, trivial⟩ (fun _ h => h.to ⟨_, r0, trivial⟩ ⟨(ms (ms (ms (ms m0)))), ⟨m0, trivial⟩⟩) ?_
    rintro ⟨k10, s10, _⟩ hI
    obtain ⟨k10, rfl, q10, h, g10⟩ := IterN.pos hI
    dsimp only at h ⊢
    unfold treatylaw34_AccountExtract_l10 at h
    refine wc_seq ?_
    refine wc_region ?_   -- region 4
    refine wl_det rfl rfl (det_lss rfl rfl) rfl ?_
    refine wl_nil ?_
    refine pn_then ?_
    refine wc_seq ?_
    refine wc_cond rfl (fun cd14 => ?_) (fun cd14 => ?_)
    · have h := ifT h cd14
      refine wc_skip ?_
      refine pn_then ?_
      obtain ⟨q16, h, ho16⟩ := bind_some h
      refine wc_meetG (G := Unit × Unit) (fun (s16, _) => (.inl s16) = q16) (fun (_, _) => [(4, .int .i64 a4), (13, .pointer (some ⟨b2_3, 0, none⟩)), (42, .slice A3_2 2 2), (43, .int .i64 (2 : Int)), (44, .int .i64 s10)]) (fun (_, _) => [eBlk b2_3 25 [.int .i64 r2_2.1.Closed, .slice y2_2A0 r2_2.1.Postings.length y2_2c0]]) (fun (_, _) => [fV (lSlice lGPosting) (.slice y2_2A0 r2_2.1.Postings.length y2_2c0) r2_2.1.Postings, fV (lSlice lGLedger) (.slice A3_2 2 2) [r1_3.1, r1_3.2]]) ?_ ?_
      · refine wc_block ?_
        refine wc_seq ?_
        refine wc_region ?_   -- region 5
        obtain ⟨k5_0, h⟩ := chk_some h
        refine wl_ex (G := Option Addr × Nat) _ _ (fun _ => True) (fun _ h => openGLedger h (ms m0) k5_0) ?_
        rintro ⟨A5_0, c5_0⟩ -
        dsimp only
        refine wl_det rfl rfl (det_indexP rfl rfl (ms (ms (ms m0))) k5_0 m0 un52 sz25) rfl ?_
        refine wl_det rfl rfl (det_loadP (off := 0) rfl m0 (by rfl) (by rfl) (loaded_n (cells := [_, _]) ag25 sz25)) rfl ?_
        refine wl_act (act_alloc (cs := [_, _]) zr25 rfl) rfl rfl rfl ?_
        rintro _ _ _ ⟨b5_2, rfl, rfl, rfl⟩
        refine wl_act0 (act_store (cells := [_, _]) (cs' := [_, _]) rfl rfl rfl s0 (by rfl) (of_decide_eq_true rfl) sz25 ⟨rfl, rfl, trivial⟩) rfl rfl ?_
        rintro _ _ _ ⟨rfl, rfl⟩
        refine wl_nil ?_
        refine pn_then ?_
        obtain ⟨q20, h, ho20⟩ := bind_some h
        refine wc_meetG (G := Unit × Unit) (fun (s20, _) => (.inl s20) = q20) (fun (_, _) => [(4, .int .i64 a4), (13, .pointer (some ⟨b2_3, 0, none⟩)), (15, .pointer (some ⟨b5_2, 0, none⟩)), (42, .slice A3_2 2 2), (43, .int .i64 (2 : Int)), (44, .int .i64 s10)]) (fun (_, _) => [eBlk b2_3 25 [.int .i64 r2_2.1.Closed, .slice y2_2A0 r2_2.1.Postings.length y2_2c0], eBlk b5_2 25 [.int .i64 (ix [r1_3.1, r1_3.2] s10).Closed, .slice A5_0 (ix [r1_3.1, r1_3.2] s10).Postings.length c5_0]]) (fun (_, _) => [fV (lSlice lGPosting) (.slice y2_2A0 r2_2.1.Postings.length y2_2c0) r2_2.1.Postings, fV (lSlice lGPosting) (.slice A5_0 (ix [r1_3.1, r1_3.2] s10).Postings.length c5_0) (ix [r1_3.1, r1_3.2] s10).Postings, fV (lSlice lGLedger) (.slice A3_2 2 2) [r1_3.1, r1_3.2]]) ?_ ?_
        · refine wc_seq ?_
          refine wc_region ?_   -- region 6
          refine wl_det rfl rfl (det_move rfl) rfl ?_
          refine wl_det rfl rfl (det_move rfl) rfl ?_
          refine wl_det rfl rfl (det_band rfl rfl) rfl ?_
          refine wl_act (act_litS (lInt .i64) (vs := [_, _]) (cs := [_, _]) [a4, (bAnd .i64 a4 3)] un22 in3 rfl rfl rfl rfl rfl ⟨rfl, rfl, trivial⟩ (by rfl) rfl (litR_flat rfl)) rfl rfl rfl ?_
          rintro _ _ _ ⟨A6_3, rfl, rfl, rfl⟩
          refine wl_det rfl rfl (det_len rfl un22) rfl ?_
          refine wl_det rfl rfl (det_move rfl) rfl ?_
          refine wl_nil ?_
          refine pn_then ?_
          refine wc_block ?_
          obtain ⟨o24, h, ho24⟩ := bind_some h
          obtain ⟨k24, hk24⟩ := loopV_some.1 h
          refine wc_loop (G := Nat × Int × Unit) (fun g => IterN (treatylaw34_AccountExtract_l24 a4 r1_3 s10) g.1 g.2.1 o24) (fun g => g.1) (fun (_, s24, _) => [(4, .int .i64 a4), (13, .pointer (some ⟨b2_3, 0, none⟩)), (15, .pointer (some ⟨b5_2, 0, none⟩)), (42, .slice A3_2 2 2), (43, .int .i64 (2 : Int)), (44, .int .i64 s10), (51, .slice A6_3 2 2), (52, .int .i64 (2 : Int)), (53, .int .i64 s24)]) (fun (_, _, _) => [eBlk b2_3 25 [.int .i64 r2_2.1.Closed, .slice y2_2A0 r2_2.1.Postings.length y2_2c0], eBlk b5_2 25 [.int .i64 (ix [r1_3.1, r1_3.2] s10).Closed, .slice A5_0 (ix [r1_3.1, r1_3.2] s10).Postings.length c5_0], eS (lInt .i64) 3 A6_3 2 2 [a4, (bAnd .i64 a4 3)]]) (fun (_, _, _) => [fV (lSlice lGPosting) (.slice y2_2A0 r2_2.1.Postings.length y2_2c0) r2_2.1.Postings, fV (lSlice lGPosting) (.slice A5_0 (ix [r1_3.1, r1_3.2] s10).Postings.length c5_0) (ix [r1_3.1, r1_3.2] s10).Postings, fV (lSlice lGLedger) (.slice A3_2 2 2) [r1_3.1, r1_3.2]]) (k24, 0, ()) hk24 ⟨rfl, rfl, rfl, rfl, rfl, rfl, rfl, rfl, rfl, trivial⟩ (fun _ h => h.to ⟨_, (rs (rs r0)), ⟨_, (rs r0), ⟨_, r0, trivial⟩⟩⟩ ⟨(ms (ms m0)), ⟨(ms m0), ⟨(ms (ms (ms m0))), trivial⟩⟩⟩) ?_
          rintro ⟨k24, s24, _⟩ hI
          obtain ⟨k24, rfl, q24, h, g24⟩ := IterN.pos hI
          dsimp only at h ⊢
          unfold treatylaw34_AccountExtract_l24 at h
          refine wc_seq ?_
          refine wc_region ?_   -- region 7
          refine wl_det rfl rfl (det_lss rfl rfl) rfl ?_
          refine wl_nil ?_
          refine pn_then ?_
          refine wc_seq ?_
          refine wc_cond rfl (fun cd28 => ?_) (fun cd28 => ?_)
          · have h := ifT h cd28
            refine wc_skip ?_
            refine pn_then ?_
            refine wc_seq ?_
            refine wc_block ?_
            refine wc_seq ?_
            refine wc_region ?_   -- region 8
            obtain ⟨k8_0, h⟩ := chk_some h
            refine wl_det rfl rfl (det_indexO rfl rfl (ms (ms m0)) k8_0 un22 sz3) rfl ?_
            refine wl_det rfl rfl (det_loadO (off := 0) rfl (ms (ms m0)) k8_0 (by rfl) (by rfl) (loaded_1 na3 us3)) rfl ?_
            refine wl_det rfl rfl (det_assign rfl) rfl ?_
            refine wl_nil ?_
            refine pn_then ?_
            refine wc_seq ?_
            refine wc_region ?_   -- region 9
            refine wl_det rfl rfl (det_loadN (cells := [_, _]) rfl (ms m0) (by rfl) ag25 sz25) rfl ?_
            refine wl_det rfl rfl (det_move rfl) rfl ?_
            obtain ⟨r9_2, hr9_2, h⟩ := bind_some h
            refine wl_act (act_callS (cap := []) (W_account_Extract (ix [r1_3.1, r1_3.2] s10) (ix [a4, (bAnd .i64 a4 3)] s24) A5_0 (ix [r1_3.1, r1_3.2] s10).Postings.length c5_0 r9_2 hr9_2) rfl rfl rfl bd15 rfl ⟨(ms m0), trivial⟩) rfl rfl rfl ?_
            rintro _ _ _ ⟨_, _, ⟨y9_2A0, y9_2n0, y9_2c0, rfl, rfl, rfl⟩, rfl, rfl⟩
            dsimp only [List.nil_append, List.cons_append]
            refine wl_know (fun _ h => h.lenO m0) (fun e => ?_)
            subst e
            refine wl_det rfl rfl (det_move rfl) rfl ?_
            refine wl_det rfl rfl (det_extract rfl rfl) rfl ?_
            refine wl_det rfl rfl (det_extract rfl rfl) rfl ?_
            refine wl_act (act_alloc (cs := [_, _]) zr25 rfl) rfl rfl rfl ?_
            rintro _ _ _ ⟨b9_6, rfl, rfl, rfl⟩
            refine wl_act0 (act_store (cells := [_, _]) (cs' := [_, _]) rfl rfl rfl s0 (by rfl) (of_decide_eq_true rfl) sz25 ⟨rfl, rfl, trivial⟩) rfl rfl ?_
            rintro _ _ _ ⟨rfl, rfl⟩
            refine wl_det rfl rfl (det_assign rfl) rfl ?_
            refine wl_nil ?_
            refine pn_then ?_
            refine wc_seq ?_
            refine wc_region ?_   -- region 10
            refine wl_det rfl rfl (det_loadN (cells := [_, _]) rfl (ms (ms (ms m0))) (by rfl) ag25 sz25) rfl ?_
            refine wl_det rfl rfl (det_move rfl) rfl ?_
            obtain ⟨r10_2, hr10_2, h⟩ := bind_some h
            refine wl_act (act_callS (cap := []) (W_treatyref33_Extract (ix [r1_3.1, r1_3.2] s10) (ix [a4, (bAnd .i64 a4 3)] s24) A5_0 (ix [r1_3.1, r1_3.2] s10).Postings.length c5_0 r10_2 hr10_2) rfl rfl rfl bd39 rfl ⟨(ms m0), trivial⟩) rfl rfl rfl ?_
            rintro _ _ _ ⟨_, _, ⟨y10_2A0, y10_2n0, y10_2c0, rfl, rfl, rfl⟩, rfl, rfl⟩
            dsimp only [List.nil_append, List.cons_append]
            refine wl_know (fun _ h => h.lenO m0) (fun e => ?_)
            subst e
            refine wl_det rfl rfl (det_move rfl) rfl ?_
            refine wl_det rfl rfl (det_extract rfl rfl) rfl ?_
            refine wl_det rfl rfl (det_extract rfl rfl) rfl ?_
            refine wl_act (act_alloc (cs := [_, _]) zr25 rfl) rfl rfl rfl ?_
            rintro _ _ _ ⟨b10_6, rfl, rfl, rfl⟩
            refine wl_act0 (act_store (cells := [_, _]) (cs' := [_, _]) rfl rfl rfl s0 (by rfl) (of_decide_eq_true rfl) sz25 ⟨rfl, rfl, trivial⟩) rfl rfl ?_
            rintro _ _ _ ⟨rfl, rfl⟩
            refine wl_det rfl rfl (det_assign rfl) rfl ?_
            refine wl_nil ?_
            refine pn_then ?_
            refine wc_seq ?_
            refine wc_region ?_   -- region 11
            refine wl_det rfl rfl (det_loadN (cells := [_, _]) rfl (ms (ms m0)) (by rfl) ag25 sz25) rfl ?_
            refine wl_det rfl rfl (det_loadN (cells := [_, _]) rfl m0 (by rfl) ag25 sz25) rfl ?_
            obtain ⟨r11_2, hr11_2, h⟩ := bind_some h
            refine wl_act (act_callL (cap := []) [eS lGPosting 73 y9_2A0 r9_2.1.Postings.length y9_2c0 r9_2.1.Postings, eS lGPosting 73 y10_2A0 r10_2.1.Postings.length y10_2c0 r10_2.1.Postings] (W_treatyref33_SameLedger r9_2.1 r10_2.1 y9_2A0 r9_2.1.Postings.length y9_2c0 y10_2A0 r10_2.1.Postings.length y10_2c0 r11_2 hr11_2) plains_treatyref33_SameLedger rfl rfl rfl bd33 rfl ⟨(ms (ms (ms m0))), ⟨(ms m0), trivial⟩⟩ ⟨.inr ⟨_, m0, lent_eS⟩, ⟨.inr ⟨_, (ms m0), lent_eS⟩, trivial⟩⟩) rfl rfl rfl ?_
            rintro _ _ _ ⟨_, _, ⟨rfl, rfl, rfl⟩, rfl, rfl⟩
            dsimp only [List.nil_append, List.cons_append]
            refine wl_det rfl rfl (det_not rfl) rfl ?_
            refine wl_det rfl rfl (det_move rfl) rfl ?_
            refine wl_way (!r11_2) ((!r11_2) || (!decide (r9_2.2 = r10_2.2))) 4 77 (fun hg => ?_) (fun hg => ?_) ?_
            · have hg11_8 := hg
              refine wl_off rfl rfl rfl rfl rfl hg11_8 rfl ?_
              refine wl_off rfl rfl rfl rfl rfl hg11_8 rfl ?_
              refine wl_off rfl rfl rfl rfl rfl hg11_8 rfl ?_
              refine wl_det rfl rfl (det_or_on (r := (!decide (r9_2.2 = r10_2.2))) rfl rfl rfl hg11_8) rfl ?_
              exact wl_nil (pn_qnE (ext_cons rfl (ext_skip rfl (ext_skip rfl (ext_skip rfl (ext_skip rfl ext_refl))))) (fun _ h => h))
            · have hg11_8a := hg
              refine wl_on rfl rfl rfl rfl hg11_8a ?_
              refine wl_det rfl rfl (det_move rfl) rfl ?_
              refine wl_on rfl rfl rfl rfl hg11_8a ?_
              refine wl_det rfl rfl (det_move rfl) rfl ?_
              refine wl_on rfl rfl rfl rfl hg11_8a ?_
              refine wl_det rfl rfl (det_neq rfl rfl) rfl ?_
              refine wl_det rfl rfl (det_or_off rfl rfl rfl hg11_8a) rfl ?_
              exact wl_nil (pn_qnE (ext_cons rfl (ext_skip rfl (ext_skip rfl (ext_skip rfl (ext_skip rfl ext_refl))))) (fun _ h => h))
            refine wl_nil ?_
            refine pn_then ?_
            refine wc_cond rfl (fun cd40 => ?_) (fun cd40 => ?_)
            · have h := ifT h cd40
              refine wc_seq ?_
              refine wc_region ?_   -- region 12
              refine wl_det rfl rfl (det_assign rfl) rfl ?_
              refine wl_nil ?_
              refine pn_then ?_
              refine wc_ret ?_
              refine pr_block ?_
              refine pr_then ?_
              refine pr_then ?_
              refine pr_block ?_
              refine pr_then ?_
              refine pr_block ?_
              refine pr_then ?_
              refine pr_then ?_
              refine pr_block ?_
              refine pr_then ?_
              replace h := Option.some.inj h
              subst h
              replace g24 := nextR g24
              subst g24
              have h := (elimL ho24)
              replace h := Option.some.inj h
              subst h
              have h := (elimR ho20)
              replace h := Option.some.inj h
              subst h
              have h := (elimR ho16)
              replace h := Option.some.inj h
              subst h
              replace g10 := nextR g10
              subst g10
              have h := (elimL ho10)
              replace h := Option.some.inj h
              subst h
              have h := (elimR ho6)
              replace h := Option.some.inj h
              subst h
              refine pn_ret (vs := [_]) rfl ⟨rfl, trivial⟩ ⟨rfl, rfl, rfl⟩ (fun _ h => h.to trivial trivial)
            · have h := ifF h cd40
              refine wc_skip ?_
              refine pn_block ?_
              refine pn_then ?_
              refine wc_region ?_   -- region 13
              refine wl_det rfl rfl (det_add rfl rfl) rfl ?_
              refine wl_det rfl rfl (det_move rfl) rfl ?_
              refine wl_nil ?_
              replace h := Option.some.inj h
              subst h
              exact pn_some (k24, (w64 (s24 + 1)), ()) ⟨nextL g24, Nat.lt_succ_self _⟩ ⟨rfl, rfl, rfl, rfl, rfl, rfl, rfl, rfl, rfl, trivial⟩ (fun _ h => h.to ⟨_, (rs (rs (rs (rs r0)))), ⟨_, (rs (rs (rs (rs r0)))), ⟨_, (rs (rs (rs (rs r0)))), trivial⟩⟩⟩ ⟨m0, ⟨(ms m0), ⟨(ms (ms m0)), trivial⟩⟩⟩)
          · have h := ifF h cd28
            refine wc_exit ?_
            refine px_then ?_
            refine px_then ?_
            refine px_block ?_
            replace h := Option.some.inj h
            subst h
            replace g24 := nextR g24
            subst g24
            have h := (elimR ho24)
            replace h := Option.some.inj h
            subst h
            exact pn_meetG ((), ()) rfl ⟨rfl, rfl, rfl, rfl, rfl, rfl, trivial⟩ (fun _ h => h.to ⟨_, r0, ⟨_, r0, trivial⟩⟩ ⟨m0, ⟨(ms m0), ⟨(ms (ms m0)), trivial⟩⟩⟩)
        rintro ⟨s20, _⟩ e20
        dsimp only at e20 ⊢
        subst e20
        have h := (elimL ho20)
        refine wc_seq ?_
        refine wc_region ?_   -- region 14
        refine wl_det rfl rfl (det_loadN (cells := [_, _]) rfl (ms m0) (by rfl) ag25 sz25) rfl ?_
        refine wl_det rfl rfl (det_loadN (cells := [_, _]) rfl m0 (by rfl) ag25 sz25) rfl ?_
        obtain ⟨r14_2, hr14_2, h⟩ := bind_some h
        refine wl_act (act_callS (cap := []) (W_account_Differences (ix [r1_3.1, r1_3.2] s10) r2_2.1 A5_0 (ix [r1_3.1, r1_3.2] s10).Postings.length c5_0 y2_2A0 r2_2.1.Postings.length y2_2c0 r14_2 hr14_2) rfl rfl rfl bd40 rfl ⟨(ms m0), ⟨m0, trivial⟩⟩) rfl rfl rfl ?_
        rintro _ _ _ ⟨_, _, ⟨y14_2A0, y14_2n0, y14_2c0, rfl, rfl, rfl⟩, rfl, rfl⟩
        dsimp only [List.nil_append, List.cons_append]
        refine wl_know (fun _ h => h.lenO m0) (fun e => ?_)
        subst e
        refine wl_det rfl rfl (det_move rfl) rfl ?_
        refine wl_det rfl rfl (det_extract rfl rfl) rfl ?_
        refine wl_det rfl rfl (det_extract rfl rfl) rfl ?_
        refine wl_det rfl rfl (det_assign rfl) rfl ?_
        refine wl_det rfl rfl (det_assign rfl) rfl ?_
        refine wl_nil ?_
        refine pn_then ?_
        refine wc_seq ?_
        refine wc_region ?_   -- region 15
        refine wl_det rfl rfl (det_loadN (cells := [_, _]) rfl (ms (ms m0)) (by rfl) ag25 sz25) rfl ?_
        refine wl_det rfl rfl (det_loadN (cells := [_, _]) rfl (ms m0) (by rfl) ag25 sz25) rfl ?_
        obtain ⟨r15_2, hr15_2, h⟩ := bind_some h
        refine wl_act (act_callS (cap := []) (W_treatyref33_Differences (ix [r1_3.1, r1_3.2] s10) r2_2.1 A5_0 (ix [r1_3.1, r1_3.2] s10).Postings.length c5_0 y2_2A0 r2_2.1.Postings.length y2_2c0 r15_2 hr15_2) rfl rfl rfl bd41 rfl ⟨(ms m0), ⟨m0, trivial⟩⟩) rfl rfl rfl ?_
        rintro _ _ _ ⟨_, _, ⟨y15_2A0, y15_2n0, y15_2c0, rfl, rfl, rfl⟩, rfl, rfl⟩
        dsimp only [List.nil_append, List.cons_append]
        refine wl_know (fun _ h => h.lenO m0) (fun e => ?_)
        subst e
        refine wl_det rfl rfl (det_move rfl) rfl ?_
        refine wl_det rfl rfl (det_extract rfl rfl) rfl ?_
        refine wl_det rfl rfl (det_extract rfl rfl) rfl ?_
        refine wl_det rfl rfl (det_assign rfl) rfl ?_
        refine wl_det rfl rfl (det_assign rfl) rfl ?_
        refine wl_nil ?_
        refine pn_then ?_
        refine wc_seq ?_
        refine wc_region ?_   -- region 16
        refine wl_det rfl rfl (det_loadN (cells := [_, _]) rfl (ms (ms m0)) (by rfl) ag25 sz25) rfl ?_
        refine wl_det rfl rfl (det_loadN (cells := [_, _]) rfl (ms (ms (ms m0))) (by rfl) ag25 sz25) rfl ?_
        obtain ⟨r16_2, hr16_2, h⟩ := bind_some h
        refine wl_act (act_callS (cap := []) (W_account_Differences r2_2.1 (ix [r1_3.1, r1_3.2] s10) y2_2A0 r2_2.1.Postings.length y2_2c0 A5_0 (ix [r1_3.1, r1_3.2] s10).Postings.length c5_0 r16_2 hr16_2) rfl rfl rfl bd40 rfl ⟨m0, ⟨(ms m0), trivial⟩⟩) rfl rfl rfl ?_
        rintro _ _ _ ⟨_, _, ⟨y16_2A0, y16_2n0, y16_2c0, rfl, rfl, rfl⟩, rfl, rfl⟩
        dsimp only [List.nil_append, List.cons_append]
        refine wl_know (fun _ h => h.lenO m0) (fun e => ?_)
        subst e
        refine wl_det rfl rfl (det_move rfl) rfl ?_
        refine wl_det rfl rfl (det_extract rfl rfl) rfl ?_
        refine wl_det rfl rfl (det_extract rfl rfl) rfl ?_
        refine wl_det rfl rfl (det_assign rfl) rfl ?_
        refine wl_det rfl rfl (det_assign rfl) rfl ?_
        refine wl_nil ?_
        refine pn_then ?_
        refine wc_seq ?_
        refine wc_region ?_   -- region 17
        refine wl_det rfl rfl (det_loadN (cells := [_, _]) rfl (ms (ms (ms m0))) (by rfl) ag25 sz25) rfl ?_
        refine wl_det rfl rfl (det_loadN (cells := [_, _]) rfl (ms (ms (ms (ms m0)))) (by rfl) ag25 sz25) rfl ?_
        obtain ⟨r17_2, hr17_2, h⟩ := bind_some h
        refine wl_act (act_callS (cap := []) (W_treatyref33_Differences r2_2.1 (ix [r1_3.1, r1_3.2] s10) y2_2A0 r2_2.1.Postings.length y2_2c0 A5_0 (ix [r1_3.1, r1_3.2] s10).Postings.length c5_0 r17_2 hr17_2) rfl rfl rfl bd41 rfl ⟨m0, ⟨(ms m0), trivial⟩⟩) rfl rfl rfl ?_
        rintro _ _ _ ⟨_, _, ⟨y17_2A0, y17_2n0, y17_2c0, rfl, rfl, rfl⟩, rfl, rfl⟩
        dsimp only [List.nil_append, List.cons_append]
        refine wl_know (fun _ h => h.lenO m0) (fun e => ?_)
        subst e
        refine wl_det rfl rfl (det_move rfl) rfl ?_
        refine wl_det rfl rfl (det_extract rfl rfl) rfl ?_
        refine wl_det rfl rfl (det_extract rfl rfl) rfl ?_
        refine wl_det rfl rfl (det_assign rfl) rfl ?_
        refine wl_det rfl rfl (det_assign rfl) rfl ?_
        refine wl_nil ?_
        refine pn_then ?_
        refine wc_seq ?_
        refine wc_region ?_   -- region 18
        refine wl_det rfl rfl (det_move rfl) rfl ?_
        refine wl_det rfl rfl (det_move rfl) rfl ?_
        obtain ⟨r18_2, hr18_2, h⟩ := bind_some h
        refine wl_act (act_callL (cap := []) [eS lGEntry 41 y14_2A0 r14_2.1.length y14_2c0 r14_2.1, eS lGEntry 41 y15_2A0 r15_2.1.length y15_2c0 r15_2.1] (W_treatyref33_SameEntries r14_2.1 r15_2.1 y14_2A0 r14_2.1.length y14_2c0 y15_2A0 r15_2.1.length y15_2c0 r18_2 hr18_2) plains_treatyref33_SameEntries rfl rfl rfl bd28 rfl ⟨(ms (ms (ms m0))), ⟨(ms (ms m0)), trivial⟩⟩ ⟨.inr ⟨_, m0, lent_eS⟩, ⟨.inr ⟨_, (ms m0), lent_eS⟩, trivial⟩⟩) rfl rfl rfl ?_
        rintro _ _ _ ⟨_, _, ⟨rfl, rfl, rfl⟩, rfl, rfl⟩
        dsimp only [List.nil_append, List.cons_append]
        refine wl_det rfl rfl (det_not rfl) rfl ?_
        refine wl_det rfl rfl (det_move rfl) rfl ?_
        refine wl_way (!r18_2) ((!r18_2) || (!decide (r14_2.2 = r15_2.2))) 4 111 (fun hg => ?_) (fun hg => ?_) ?_
        · have hg18_8 := hg
          refine wl_off rfl rfl rfl rfl rfl hg18_8 rfl ?_
          refine wl_off rfl rfl rfl rfl rfl hg18_8 rfl ?_
          refine wl_off rfl rfl rfl rfl rfl hg18_8 rfl ?_
          refine wl_det rfl rfl (det_or_on (r := (!decide (r14_2.2 = r15_2.2))) rfl rfl rfl hg18_8) rfl ?_
          exact wl_nil (pn_qnE (ext_cons rfl (ext_skip rfl (ext_skip rfl (ext_skip rfl (ext_skip rfl ext_refl))))) (fun _ h => h))
        · have hg18_8a := hg
          refine wl_on rfl rfl rfl rfl hg18_8a ?_
          refine wl_det rfl rfl (det_move rfl) rfl ?_
          refine wl_on rfl rfl rfl rfl hg18_8a ?_
          refine wl_det rfl rfl (det_move rfl) rfl ?_
          refine wl_on rfl rfl rfl rfl hg18_8a ?_
          refine wl_det rfl rfl (det_neq rfl rfl) rfl ?_
          refine wl_det rfl rfl (det_or_off rfl rfl rfl hg18_8a) rfl ?_
          exact wl_nil (pn_qnE (ext_cons rfl (ext_skip rfl (ext_skip rfl (ext_skip rfl (ext_skip rfl ext_refl))))) (fun _ h => h))
        refine wl_det rfl rfl (det_move rfl) rfl ?_
        obtain ⟨q18_14, hq18_14, h⟩ := bind_some h
        have ho18_14 := h
        refine wl_way ((!r18_2) || (!decide (r14_2.2 = r15_2.2))) q18_14 5 117 (fun hg => ?_) (fun hg => ?_) ?_
        · have hg18_14 := hg
          have h := ifT hq18_14 hg
          refine wl_off rfl rfl rfl rfl rfl hg18_14 rfl ?_
          refine wl_off rfl rfl rfl rfl rfl hg18_14 rfl ?_
          refine wl_off rfl rfl rfl rfl rfl hg18_14 rfl ?_
          refine wl_off rfl rfl rfl rfl rfl hg18_14 rfl ?_
          replace h := Option.some.inj h
          subst h
          refine wl_det rfl rfl (det_pick_on rfl hg18_14 rfl rfl) rfl ?_
          exact wl_nil (pn_qnE (ext_cons rfl (ext_skip rfl (ext_skip rfl (ext_skip rfl (ext_skip rfl (ext_skip rfl ext_refl)))))) (fun _ h => h))
        · have hg18_14a := hg
          have h := ifF hq18_14 hg
          refine wl_on rfl rfl rfl rfl hg18_14a ?_
          refine wl_det rfl rfl (det_move rfl) rfl ?_
          refine wl_on rfl rfl rfl rfl hg18_14a ?_
          refine wl_det rfl rfl (det_move rfl) rfl ?_
          refine wl_on rfl rfl rfl rfl hg18_14a ?_
          obtain ⟨r18_12, hr18_12, h⟩ := bind_some h
          refine wl_act (act_callL (cap := []) [eS lGEntry 41 y16_2A0 r16_2.1.length y16_2c0 r16_2.1, eS lGEntry 41 y17_2A0 r17_2.1.length y17_2c0 r17_2.1] (W_treatyref33_SameEntries r16_2.1 r17_2.1 y16_2A0 r16_2.1.length y16_2c0 y17_2A0 r17_2.1.length y17_2c0 r18_12 hr18_12) plains_treatyref33_SameEntries rfl rfl rfl bd28 rfl ⟨(ms m0), ⟨m0, trivial⟩⟩ ⟨.inr ⟨_, m0, lent_eS⟩, ⟨.inr ⟨_, (ms m0), lent_eS⟩, trivial⟩⟩) rfl rfl rfl ?_
          rintro _ _ _ ⟨_, _, ⟨rfl, rfl, rfl⟩, rfl, rfl⟩
          dsimp only [List.nil_append, List.cons_append]
          refine wl_on rfl rfl rfl rfl hg18_14a ?_
          refine wl_det rfl rfl (det_not rfl) rfl ?_
          replace h := Option.some.inj h
          subst h
          refine wl_det rfl rfl (det_pick_off rfl hg18_14a rfl rfl) rfl ?_
          exact wl_nil (pn_qnE (ext_cons rfl (ext_skip rfl (ext_skip rfl (ext_skip rfl (ext_skip rfl (ext_skip rfl ext_refl)))))) (fun _ h => h))
        have h := ho18_14
        refine wl_det rfl rfl (det_move rfl) rfl ?_
        refine wl_way q18_14 (q18_14 || (!decide (r16_2.2 = r17_2.2))) 4 122 (fun hg => ?_) (fun hg => ?_) ?_
        · have hg18_19 := hg
          refine wl_off rfl rfl rfl rfl rfl hg18_19 rfl ?_
          refine wl_off rfl rfl rfl rfl rfl hg18_19 rfl ?_
          refine wl_off rfl rfl rfl rfl rfl hg18_19 rfl ?_
          refine wl_det rfl rfl (det_or_on (r := (!decide (r16_2.2 = r17_2.2))) rfl rfl rfl hg18_19) rfl ?_
          exact wl_nil (pn_qnE (ext_cons rfl (ext_skip rfl (ext_skip rfl (ext_skip rfl (ext_skip rfl ext_refl))))) (fun _ h => h))
        · have hg18_19a := hg
          refine wl_on rfl rfl rfl rfl hg18_19a ?_
          refine wl_det rfl rfl (det_move rfl) rfl ?_
          refine wl_on rfl rfl rfl rfl hg18_19a ?_
          refine wl_det rfl rfl (det_move rfl) rfl ?_
          refine wl_on rfl rfl rfl rfl hg18_19a ?_
          refine wl_det rfl rfl (det_neq rfl rfl) rfl ?_
          refine wl_det rfl rfl (det_or_off rfl rfl rfl hg18_19a) rfl ?_
          exact wl_nil (pn_qnE (ext_cons rfl (ext_skip rfl (ext_skip rfl (ext_skip rfl (ext_skip rfl ext_refl))))) (fun _ h => h))
        refine wl_nil ?_
        refine pn_then ?_
        refine wc_cond rfl (fun cd54 => ?_) (fun cd54 => ?_)
        · have h := ifT h cd54
          refine wc_seq ?_
          refine wc_region ?_   -- region 19
          refine wl_det rfl rfl (det_assign rfl) rfl ?_
          refine wl_nil ?_
          refine pn_then ?_
          refine wc_ret ?_
          refine pr_block ?_
          refine pr_then ?_
          refine pr_then ?_
          refine pr_block ?_
          refine pr_then ?_
          replace h := Option.some.inj h
          subst h
          have h := (elimR ho16)
          replace h := Option.some.inj h
          subst h
          replace g10 := nextR g10
          subst g10
          have h := (elimL ho10)
          replace h := Option.some.inj h
          subst h
          have h := (elimR ho6)
          replace h := Option.some.inj h
          subst h
          refine pn_ret (vs := [_]) rfl ⟨rfl, trivial⟩ ⟨rfl, rfl, rfl⟩ (fun _ h => h.to trivial trivial)
        · have h := ifF h cd54
          refine wc_skip ?_
          refine pn_block ?_
          replace h := Option.some.inj h
          subst h
          exact pn_meetG ((), ()) rfl ⟨rfl, rfl, rfl, rfl, rfl, trivial⟩ (fun _ h => h.to ⟨_, (rs (rs (rs (rs r0)))), trivial⟩ ⟨m0, ⟨(ms (ms m0)), trivial⟩⟩)
      rintro ⟨s16, _⟩ e16
      dsimp only at e16 ⊢
      subst e16
      have h := (elimL ho16)
      refine wc_region ?_   -- region 20
      refine wl_det rfl rfl (det_add rfl rfl) rfl ?_
      refine wl_det rfl rfl (det_move rfl) rfl ?_
      refine wl_nil ?_
      replace h := Option.some.inj h
      subst h
      exact pn_some (k10, (w64 (s10 + 1)), ()) ⟨nextL g10, Nat.lt_succ_self _⟩ ⟨rfl, rfl, rfl, rfl, rfl, trivial⟩ (fun _ h => h.to ⟨_, r0, trivial⟩ ⟨m0, ⟨(ms m0), trivial⟩⟩)
    · have h := ifF h cd14
      refine wc_exit ?_
      refine px_then ?_
      refine px_then ?_
      refine px_block ?_
      replace h := Option.some.inj h
      subst h
      replace g10 := nextR g10
      subst g10
      have h := (elimR ho10)
      replace h := Option.some.inj h
      subst h
      exact pn_meetG ((), ()) rfl trivial (fun _ h => h.to trivial trivial)
  rintro ⟨s6, _⟩ e6
  dsimp only at e6 ⊢
  subst e6
  have h := (elimL ho6)
  refine wc_seq ?_
  refine wc_region ?_   -- region 21
  obtain ⟨r21_0, hr21_0, h⟩ := bind_some h
  refine wl_act (act_callS (cap := []) (W_treatylaw34_awake r21_0 hr21_0) rfl rfl rfl bd19 rfl trivial) rfl rfl rfl ?_
  rintro _ _ _ ⟨_, _, ⟨rfl, rfl, rfl⟩, rfl, rfl⟩
  dsimp only [List.nil_append, List.cons_append]
  refine wl_det rfl rfl (det_assign rfl) rfl ?_
  refine wl_nil ?_
  refine pn_then ?_
  refine wc_ret ?_
  replace h := Option.some.inj h
  subst h
  refine pn_ret (vs := [_]) rfl ⟨rfl, trivial⟩ ⟨rfl, rfl, rfl⟩ (fun _ h => h.to trivial trivial)
end Go.Proofs.Ytadkcelipefpmaa
