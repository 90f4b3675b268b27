/- That functions of the program compute the plain programs of P. Written by a small program. -/
import Derived.Test.YtfekcgnnhjmeiaaWInuringSubject2
namespace Go.Proofs.Ytfekcgnnhjmeiaa
open Go.RowKit
def Q_inuring_queue_compare (r : Int) : Value → List Ent → List Fact → Prop := fun v θ κ => v = .int .i64 r ∧ θ = [] ∧ κ = []
theorem plains_inuring_queue_compare {r : Int} : ∀ v θ κ, Q_inuring_queue_compare r v θ κ → Plains θ := by
 rintro _ _ _ ⟨rfl, rfl, rfl⟩
 exact trivial
set_option maxHeartbeats 4000000 in
set_option maxRecDepth 100000 in
theorem W_inuring_queue_compare (a0 : Gqueue) (a1 : Int) (a2 : Int) (A0 : Option Addr) (n0 : Nat) (c0 : Nat) (A3 : Option Addr) (n3 : Nat) (c3 : Nat) (r : Int) (h : inuring_queue_compare a0 a1 a2 = some r) : Spec Try.prog 28 [.agg #[.slice A0 n0 c0, .slice A3 n3 c3], .int .i64 a1, .int .i64 a2] [] [fV (lSlice lGTreaty) (.slice A0 n0 c0) a0.ts, fV (lSlice lBool) (.slice A3 n3 c3) a0.come] (Q_inuring_queue_compare r) := by
 unfold inuring_queue_compare at h
 refine spec_of (σ := [(0, _), (1, _), (2, _)]) Try.func28 rfl rfl rfl rfl ?_
 intro C
 refine wc_know (fun _ h => h.lenF m0) (fun e => ?_)
 subst e
 refine wc_know (fun _ h => h.lenF (ms m0)) (fun e => ?_)
 subst e
 refine Wq (Wr (Ac rfl (act_box (cs := [_, _]) rfl rfl) ?_))
 rintro _ _ _ ⟨b0_0, rfl, rfl, rfl⟩
 refine D rfl (ag rfl) (Wn (Pt (Wq ?_)))
 refine dx_region 12 [[], [], [0, 1], [], [], [0, 1, 2, 3, 4], [0, 1, 2, 3, 4, 5], [], [], [0, 1, 2, 3, 4, 5, 6, 7, 8], [0, 1, 2, 3, 4, 5, 6, 7, 8, 9], [0, 1, 2, 3, 4, 5, 6, 7, 8, 9, 10], [0, 1, 2, 3, 4, 5, 6, 7, 8, 9, 10, 11]] mixed (ord := (.det 0 (.det 1 (.det 3 (.det 4 (.det 7 (.det 8 (.alt 2 (.alt 5 (.alt 6 (.alt 9 (.alt 10 (.alt 11 .done .dead) .dead) .dead) .dead) .dead) .dead)))))))) (by kernel_rfl) ?_
 refine Hd rfl rfl rfl (det_loadN (cells := [_, _]) rfl m0 (by rfl) ag54 sz54) (Hd rfl rfl rfl (mv rfl) (Hd rfl rfl rfl (det_loadN (cells := [_, _]) rfl m0 (by rfl) ag54 sz54) (Hd rfl rfl rfl (mv rfl) (Hd rfl rfl rfl (mv rfl) (Hd rfl rfl rfl (mv rfl) ?_)))))
 obtain ⟨r1_2, hr1_2, h⟩ := bs h
 refine hx_act rfl rfl rfl (act_callS (cap := []) (W_inuring_queue_blocked a0 a1 A0 a0.ts.length c0 A3 a0.come.length c3 r1_2 hr1_2) rfl rfl rfl bd53 rfl ⟨m0, ⟨(ms m0), trivial⟩⟩) rfl (by rintro _ _ _ ⟨_, _, _, rfl, rfl⟩; first | exact ⟨_, _, rfl, rfl⟩ | exact ⟨_, [], rfl, rfl⟩) ?_
 rintro _ _ _ ⟨_, _, ⟨rfl, rfl, rfl⟩, rfl, rfl⟩
 dsimp only [na, ca]
 obtain ⟨r1_5, hr1_5, h⟩ := bs h
 refine hx_act rfl rfl rfl (act_callS (cap := []) (W_inuring_queue_blocked a0 a2 A0 a0.ts.length c0 A3 a0.come.length c3 r1_5 hr1_5) rfl rfl rfl bd53 rfl ⟨m0, ⟨(ms m0), trivial⟩⟩) rfl (by rintro _ _ _ ⟨_, _, _, rfl, rfl⟩; first | exact ⟨_, _, rfl, rfl⟩ | exact ⟨_, [], rfl, rfl⟩) ?_
 rintro _ _ _ ⟨_, _, ⟨rfl, rfl, rfl⟩, rfl, rfl⟩
 dsimp only [na, ca]
 obtain ⟨r1_6, hr1_6, h⟩ := bs h
 refine hx_act rfl rfl rfl (act_callS (cap := []) (W_cmp_Compare_int r1_2 r1_5 r1_6 hr1_6) rfl rfl rfl bd52 rfl trivial) rfl (by rintro _ _ _ ⟨_, _, _, rfl, rfl⟩; first | exact ⟨_, _, rfl, rfl⟩ | exact ⟨_, [], rfl, rfl⟩) ?_
 rintro _ _ _ ⟨_, _, ⟨rfl, rfl, rfl⟩, rfl, rfl⟩
 dsimp only [na, ca]
 obtain ⟨r1_9, hr1_9, h⟩ := bs h
 refine hx_act rfl rfl rfl (act_callS (cap := []) (W_cmp_Compare_int a1 a2 r1_9 hr1_9) rfl rfl rfl bd52 rfl trivial) rfl (by rintro _ _ _ ⟨_, _, _, rfl, rfl⟩; first | exact ⟨_, _, rfl, rfl⟩ | exact ⟨_, [], rfl, rfl⟩) ?_
 rintro _ _ _ ⟨_, _, ⟨rfl, rfl, rfl⟩, rfl, rfl⟩
 dsimp only [na, ca]
 refine hx_act rfl rfl rfl (act_litS (lInt .i64) (vs := [_, _]) (cs := [_, _]) [r1_6, r1_9] un22 in3 rfl rfl rfl rfl rfl ⟨rfl, rfl, trivial⟩ (by rfl) rfl (litR_flat rfl)) rfl (by rintro _ _ _ ⟨A1_10, rfl, rfl, rfl⟩; first | exact ⟨_ :: [], [], rfl, rfl⟩ | exact ⟨[], [_], rfl, rfl⟩ | exact ⟨[], [], rfl, rfl⟩) ?_
 rintro _ _ _ ⟨A1_10, rfl, rfl, rfl⟩
 obtain ⟨r1_11, hr1_11, h⟩ := bs h
 refine hx_act rfl rfl rfl (act_callL (cap := []) [eS (lInt .i64) 3 A1_10 2 2 [r1_6, r1_9]] (W_cmp_Or_int [r1_6, r1_9] A1_10 2 2 r1_11 hr1_11) plains_cmp_Or_int rfl rfl rfl bd51 rfl ⟨m0, trivial⟩ ⟨.inr ⟨_, m0, lent_eS⟩, trivial⟩) rfl (by rintro _ _ _ ⟨_, _, _, rfl, rfl⟩; first | exact ⟨_, _, rfl, rfl⟩ | exact ⟨_, [], rfl, rfl⟩) ?_
 rintro _ _ _ ⟨_, _, ⟨rfl, rfl, rfl⟩, rfl, rfl⟩
 dsimp only [na, ca]
 refine hx_end (D rfl (ag rfl) (Wn (Pt (Wt ?_))))
 obtain rfl := si h
 refine pn_ret (vs := [_]) rfl ⟨rfl, trivial⟩ ⟨rfl, rfl, rfl⟩ (fun _ h => h.to trivial trivial)
def Q_slices_MinFunc_s_int_int_inuring_queue_compare (r : Int) : Value → List Ent → List Fact → Prop := fun v θ κ => v = .int .i64 r ∧ θ = [] ∧ κ = []
theorem plains_slices_MinFunc_s_int_int_inuring_queue_compare {r : Int} : ∀ v θ κ, Q_slices_MinFunc_s_int_int_inuring_queue_compare r v θ κ → Plains θ := by
 rintro _ _ _ ⟨rfl, rfl, rfl⟩
 exact trivial
set_option maxHeartbeats 4000000 in
set_option maxRecDepth 100000 in
theorem W_slices_MinFunc_s_int_int_inuring_queue_compare (a0 : (List Int)) (a1_0 : Gqueue) (A0 : Option Addr) (n0 : Nat) (c0 : Nat) (A3 : Option Addr) (n3 : Nat) (c3 : Nat) (A6 : Option Addr) (n6 : Nat) (c6 : Nat) (r : Int) (h : slices_MinFunc_s_int_int_inuring_queue_compare a0 a1_0 = some r) : Spec Try.prog 29 [.slice A0 n0 c0, .func (.func 28) #[.agg #[.slice A3 n3 c3, .slice A6 n6 c6]] #[]] [] [fV (lSlice (lInt .i64)) (.slice A0 n0 c0) a0, fV (lSlice lGTreaty) (.slice A3 n3 c3) a1_0.ts, fV (lSlice lBool) (.slice A6 n6 c6) a1_0.come] (Q_slices_MinFunc_s_int_int_inuring_queue_compare r) := by
 unfold slices_MinFunc_s_int_int_inuring_queue_compare at h
 refine spec_of (σ := [(0, _), (1, _)]) Try.func29 rfl rfl rfl rfl ?_
 intro C
 refine wc_know (fun _ h => h.lenF m0) (fun e => ?_)
 subst e
 refine wc_know (fun _ h => h.lenF (ms m0)) (fun e => ?_)
 subst e
 refine wc_know (fun _ h => h.lenF (ms (ms m0))) (fun e => ?_)
 subst e
 refine Wq (Wr (D rfl (ag rfl) (Wn (Pt ?_))))
 obtain ⟨q2, h, ho2⟩ := bs h
 refine wc_meetG (G := Unit × Unit) (fun (s2, _) => s2 = q2) (fun (_, _) => [(0, .slice A0 a0.length c0), (1, .func (.func 28) #[.agg #[.slice A3 a1_0.ts.length c3, .slice A6 a1_0.come.length c6]] #[])]) (fun (_, _) => []) (fun (_, _) => [fV (lSlice (lInt .i64)) (.slice A0 a0.length c0) a0, fV (lSlice lGTreaty) (.slice A3 a1_0.ts.length c3) a1_0.ts, fV (lSlice lBool) (.slice A6 a1_0.come.length c6) a1_0.come]) ?_ ?_
 ·refine Wq (Wr (D rfl (mv rfl) (D rfl (det_len rfl un22) (D rfl (det_lss rfl rfl) (Wn (Pt ?_))))))
  refine wc_cond rfl (fun cd5 => ?_) (fun cd5 => ?_)
  ·have h := ifT h cd5
   cases h
  ·have h := ifF h cd5
   refine Wk ?_
   obtain rfl := si h
   exact pn_meetG ((), ()) rfl (Sb rfl) (fun _ h => h.to trivial ⟨m0, ⟨(ms m0), ⟨(ms (ms m0)), trivial⟩⟩⟩)
 rintro ⟨s2, _⟩ e2
 dsimp only at e2 ⊢
 subst e2
 have h := ho2
 refine Wq (Wr (D rfl (mv rfl) ?_))
 obtain ⟨k3_1, h⟩ := chk_some h
 refine wl_st (fun _ h => h.openF m0 k3_1) ?_
 refine D rfl (det_indexP rfl rfl (ms m0) k3_1 m0 un22 sz3) (D rfl (det_loadP (off := 0) rfl m0 (by rfl) (by rfl) (loaded_1 na3 us3)) (D rfl (ag rfl) (Wn (Pt ?_))))
 obtain ⟨q9, h, ho9⟩ := bs h
 refine wc_meetG (G := Int × Unit) (fun (s9, _) => s9 = q9) (fun (s9, _) => [(5, .int .i64 s9)]) (fun (_, _) => []) (fun (_, _) => []) ?_ ?_
 ·refine Wq (Wr (D rfl (ag rfl) (Wn (Pt (Wb ?_)))))
  obtain ⟨k13, hk13⟩ := loopV_some.1 h
  refine wc_loop (G := Nat × (Int × Int) × Unit) (fun g => IterN (slices_MinFunc_s_int_int_inuring_queue_compare_l13 a0 a1_0) g.1 g.2.1 q9) (fun g => g.1) (fun (_, s13, _) => [(0, .slice A0 a0.length c0), (1, .func (.func 28) #[.agg #[.slice A3 a1_0.ts.length c3, .slice A6 a1_0.come.length c6]] #[]), (5, .int .i64 s13.1), (6, .int .i64 s13.2)]) (fun (_, _, _) => []) (fun (_, _, _) => [fV (lSlice (lInt .i64)) (.slice A0 a0.length c0) a0, fV (lSlice lGTreaty) (.slice A3 a1_0.ts.length c3) a1_0.ts, fV (lSlice lBool) (.slice A6 a1_0.come.length c6) a1_0.come]) (k13, ((ix a0 0), 1), ()) hk13 (Sb rfl) (fun _ h => h.to trivial ⟨(ms m0), ⟨(ms (ms m0)), ⟨(ms (ms (ms m0))), trivial⟩⟩⟩) ?_
  rintro ⟨k13, s13, _⟩ hI
  obtain ⟨k13, rfl, q13, h, g13⟩ := IterN.pos hI
  dsimp only at h ⊢
  unfold slices_MinFunc_s_int_int_inuring_queue_compare_l13 at h
  refine Wq (Wq (Wr (D rfl (mv rfl) (D rfl (mv rfl) (D rfl (det_len rfl un22) (D rfl (det_lss rfl rfl) (Wn (Pt ?_))))))))
  refine wc_cond rfl (fun cd17 => ?_) (fun cd17 => ?_)
  ·have h := ifT h cd17
   refine Wk (Pt ?_)
   obtain ⟨q19, h, ho19⟩ := bs h
   refine wc_meetG (G := Int × Unit) (fun (s19, _) => s19 = q19) (fun (s19, _) => [(0, .slice A0 a0.length c0), (1, .func (.func 28) #[.agg #[.slice A3 a1_0.ts.length c3, .slice A6 a1_0.come.length c6]] #[]), (5, .int .i64 s19), (6, .int .i64 s13.2)]) (fun (_, _) => []) (fun (_, _) => [fV (lSlice (lInt .i64)) (.slice A0 a0.length c0) a0, fV (lSlice lGTreaty) (.slice A3 a1_0.ts.length c3) a1_0.ts, fV (lSlice lBool) (.slice A6 a1_0.come.length c6) a1_0.come]) ?_ ?_
   ·refine Wb (Wq (Wr (D rfl (mv rfl) (D rfl (mv rfl) (D rfl (mv rfl) ?_)))))
    obtain ⟨k7_3, h⟩ := chk_some h
    refine wl_st (fun _ h => h.openF m0 k7_3) ?_
    refine D rfl (det_indexP rfl rfl (ms m0) k7_3 m0 un22 sz3) (D rfl (det_loadP (off := 0) rfl m0 (by rfl) (by rfl) (loaded_1 na3 us3)) (D rfl (mv rfl) ?_))
    obtain ⟨r7_6, hr7_6, h⟩ := bs h
    refine Ac rfl (act_callSM (cap := []) (fst := [_]) (W_inuring_queue_compare a1_0 (ix a0 s13.2) s13.1 A3 a1_0.ts.length c3 A6 a1_0.come.length c6 r7_6 hr7_6) rfl rfl rfl bd28 rfl ⟨(ms (ms m0)), ⟨(ms (ms (ms m0))), trivial⟩⟩) ?_
    rintro _ _ _ ⟨_, _, ⟨rfl, rfl, rfl⟩, rfl, rfl⟩
    dsimp only [na, ca]
    refine D rfl (det_lss rfl rfl) (Wn (Pt ?_))
    refine wc_cond rfl (fun cd23 => ?_) (fun cd23 => ?_)
    ·have h := ifT h cd23
     refine Wr (D rfl (mv rfl) (D rfl (mv rfl) (D rfl (det_indexP rfl rfl (ms m0) k7_3 m0 un22 sz3) (D rfl (det_loadP (off := 0) rfl m0 (by rfl) (by rfl) (loaded_1 na3 us3)) (D rfl (ag rfl) (Wn (Pb ?_)))))))
     obtain rfl := si h
     exact pn_meetG ((ix a0 s13.2), ()) rfl (Sb rfl) (fun _ h => h.to trivial ⟨(ms m0), ⟨(ms (ms m0)), ⟨(ms (ms (ms m0))), trivial⟩⟩⟩)
    ·have h := ifF h cd23
     refine Wk (Pb ?_)
     obtain rfl := si h
     exact pn_meetG (s13.1, ()) rfl (Sb rfl) (fun _ h => h.to trivial ⟨(ms m0), ⟨(ms (ms m0)), ⟨(ms (ms (ms m0))), trivial⟩⟩⟩)
   rintro ⟨s19, _⟩ e19
   dsimp only at e19 ⊢
   subst e19
   have h := ho19
   refine Wr (D rfl (mv rfl) (D rfl (det_add rfl rfl) (D rfl (ag rfl) (Wn ?_))))
   obtain rfl := si h
   exact pn_some (k13, (s19, (w64 (s13.2 + 1))), ()) ⟨nextL g13, Nat.lt_succ_self _⟩ (Sb rfl) (fun _ h => h.to trivial ⟨m0, ⟨(ms m0), ⟨(ms (ms m0)), trivial⟩⟩⟩)
  ·have h := ifF h cd17
   refine We (Xt (Xt (Xb ?_)))
   obtain rfl := si h
   replace g13 := nextR g13
   subst g13
   exact pn_meetG (s13.1, ()) rfl (Sb rfl) (fun _ h => h.to trivial trivial)
 rintro ⟨s9, _⟩ e9
 dsimp only at e9 ⊢
 subst e9
 have h := ho9
 refine Wq (Wr (D rfl (mv rfl) (D rfl (ag rfl) (Wn (Pt (Wt ?_))))))
 obtain rfl := si h
 refine pn_ret (vs := [_]) rfl ⟨rfl, trivial⟩ ⟨rfl, rfl, rfl⟩ (fun _ h => h.to trivial trivial)
def Q_inuring_Order_c1 (Ba1 : Nat) (a1 : Int) (r : Bool) : Value → List Ent → List Fact → Prop := fun v θ κ => v = .bool r ∧ θ = [eBlk Ba1 3 [.int .i64 a1]] ∧ κ = []
theorem plains_inuring_Order_c1 {Ba1 : Nat} {a1 : Int} {r : Bool} : ∀ v θ κ, Q_inuring_Order_c1 Ba1 a1 r v θ κ → Plains θ := by
 rintro _ _ _ ⟨rfl, rfl, rfl⟩
 exact ⟨plain_eBlk, trivial⟩
set_option maxHeartbeats 4000000 in
set_option maxRecDepth 100000 in
theorem W_inuring_Order_c1 (a0 : Int) (a1 : Int) (Ba1 : Nat) (r : Bool) (h : inuring_Order_c1 a0 a1 = some r) : Spec Try.prog 31 [.int .i64 a0, .pointer (some ⟨Ba1, 0, none⟩)] [eBlk Ba1 3 [.int .i64 a1]] [] (Q_inuring_Order_c1 Ba1 a1 r) := by
 unfold inuring_Order_c1 at h
 refine spec_of (σ := [(0, _), (1, _)]) Try.func31 rfl rfl rfl rfl ?_
 intro C
 refine Wq (Wr ?_)
 refine D rfl (ag rfl) (Wn (Pt (Wq (Wr (D rfl (mv rfl) (D rfl (ld rfl m0 (by rfl) na3 us3) (D rfl (det_eql rfl rfl) (D rfl (ag rfl) (Wn (Pt (Wt ?_)))))))))))
 obtain rfl := si h
 refine pn_ret (vs := [_]) rfl ⟨rfl, trivial⟩ ⟨rfl, rfl, rfl⟩ (fun _ h => h.to ⟨_, r0, trivial⟩ trivial)
def Q_slices_IndexFunc_s_int_int_inuring_Order_c1 (Ba1_0 : Nat) (a1_0 : Int) (r : Int) : Value → List Ent → List Fact → Prop := fun v θ κ => v = .int .i64 r ∧ θ = [eBlk Ba1_0 3 [.int .i64 a1_0]] ∧ κ = []
theorem plains_slices_IndexFunc_s_int_int_inuring_Order_c1 {Ba1_0 : Nat} {a1_0 : Int} {r : Int} : ∀ v θ κ, Q_slices_IndexFunc_s_int_int_inuring_Order_c1 Ba1_0 a1_0 r v θ κ → Plains θ := by
 rintro _ _ _ ⟨rfl, rfl, rfl⟩
 exact ⟨plain_eBlk, trivial⟩
set_option maxHeartbeats 4000000 in
set_option maxRecDepth 100000 in
theorem W_slices_IndexFunc_s_int_int_inuring_Order_c1 (a0 : (List Int)) (a1_0 : Int) (A0 : Option Addr) (n0 : Nat) (c0 : Nat) (Ba1_0 : Nat) (r : Int) (h : slices_IndexFunc_s_int_int_inuring_Order_c1 a0 a1_0 = some r) : Spec Try.prog 54 [.slice A0 n0 c0, .func (.func 31) #[] #[.pointer (some ⟨Ba1_0, 0, none⟩)]] [eBlk Ba1_0 3 [.int .i64 a1_0]] [fV (lSlice (lInt .i64)) (.slice A0 n0 c0) a0] (Q_slices_IndexFunc_s_int_int_inuring_Order_c1 Ba1_0 a1_0 r) := by
 unfold slices_IndexFunc_s_int_int_inuring_Order_c1 at h
 refine spec_of (σ := [(0, _), (1, _)]) Try.func54 rfl rfl rfl rfl ?_
 intro C
 refine wc_know (fun _ h => h.lenF m0) (fun e => ?_)
 subst e
 refine Wq (Wr (D rfl (ag rfl) (Wn (Pt ?_))))
 obtain ⟨q2, h, ho2⟩ := bs h
 refine wc_meetG (G := Unit × Unit) (fun (s2, _) => (.inl s2) = q2) (fun (_, _) => []) (fun (_, _) => [eBlk Ba1_0 3 [.int .i64 a1_0]]) (fun (_, _) => []) ?_ ?_
 ·refine Wq (Wr (D rfl (mv rfl) (D rfl (det_len rfl un22) (D rfl (mv rfl) (Wn (Pt (Wb ?_)))))))
  obtain ⟨o6, h, ho6⟩ := bs h
  obtain ⟨k6, hk6⟩ := loopV_some.1 h
  refine wc_loop (G := Nat × Int × Unit) (fun g => IterN (slices_IndexFunc_s_int_int_inuring_Order_c1_l6 a0 a1_0) g.1 g.2.1 o6) (fun g => g.1) (fun (_, s6, _) => [(0, .slice A0 a0.length c0), (1, .func (.func 31) #[] #[.pointer (some ⟨Ba1_0, 0, none⟩)]), (7, .int .i64 (a0.length : Int)), (8, .int .i64 s6)]) (fun (_, _, _) => [eBlk Ba1_0 3 [.int .i64 a1_0]]) (fun (_, _, _) => [fV (lSlice (lInt .i64)) (.slice A0 a0.length c0) a0]) (k6, 0, ()) hk6 (Sb rfl) (fun _ h => h.to ⟨_, r0, trivial⟩ ⟨m0, trivial⟩) ?_
  rintro ⟨k6, s6, _⟩ hI
  obtain ⟨k6, rfl, q6, h, g6⟩ := IterN.pos hI
  dsimp only at h ⊢
  unfold slices_IndexFunc_s_int_int_inuring_Order_c1_l6 at h
  refine Wq (Wr (D rfl (det_lss rfl rfl) (Wn (Pt (Wq ?_)))))
  refine wc_cond rfl (fun cd10 => ?_) (fun cd10 => ?_)
  ·have h := ifT h cd10
   refine Wk (Pt (Wq ?_))
   refine Wb (Wq (Wr (D rfl (mv rfl) (D rfl (ag rfl) (Wn (Pt (Wq (Wr (D rfl (mv rfl) (D rfl (mv rfl) (D rfl (mv rfl) ?_)))))))))))
   obtain ⟨k4_3, h⟩ := chk_some h
   refine wl_st (fun _ h => h.openF m0 k4_3) ?_
   refine D rfl (det_indexP rfl rfl (ms m0) k4_3 m0 un22 sz3) (D rfl (det_loadP (off := 0) rfl m0 (by rfl) (by rfl) (loaded_1 na3 us3)) ?_)
   obtain ⟨r4_5, hr4_5, h⟩ := bs h
   refine Ac rfl (act_callS (cap := [_]) (W_inuring_Order_c1 (ix a0 s6) a1_0 Ba1_0 r4_5 hr4_5) rfl rfl rfl bd31 ⟨_, r0, rfl⟩ trivial) ?_
   rintro _ _ _ ⟨_, _, ⟨rfl, rfl, rfl⟩, rfl, rfl⟩
   dsimp only [na, ca]
   refine Wn (Pt ?_)
   refine wc_cond rfl (fun cd18 => ?_) (fun cd18 => ?_)
   ·have h := ifT h cd18
    refine Wq (Wr (D rfl (mv rfl) (D rfl (ag rfl) (Wn (Pt (Wt (Rb (Rt (Rt (Rb (Rt ?_)))))))))))
    obtain rfl := si h
    replace g6 := nextR g6
    subst g6
    have h := (elimL ho6)
    obtain rfl := si h
    have h := (elimR ho2)
    obtain rfl := si h
    refine pn_ret (vs := [_]) rfl ⟨rfl, trivial⟩ ⟨rfl, rfl, rfl⟩ (fun _ h => h.to ⟨_, r0, trivial⟩ trivial)
   ·have h := ifF h cd18
    refine Wk (Pb (Pt (Wr (D rfl (det_add rfl rfl) (D rfl (mv rfl) (Wn ?_))))))
    obtain rfl := si h
    exact pn_some (k6, (w64 (s6 + 1)), ()) ⟨nextL g6, Nat.lt_succ_self _⟩ (Sb rfl) (fun _ h => h.to ⟨_, r0, trivial⟩ ⟨(ms m0), trivial⟩)
  ·have h := ifF h cd10
   refine We (Xt (Xt (Xb ?_)))
   obtain rfl := si h
   replace g6 := nextR g6
   subst g6
   have h := (elimR ho6)
   obtain rfl := si h
   exact pn_meetG ((), ()) rfl trivial (fun _ h => h.to ⟨_, r0, trivial⟩ trivial)
 rintro ⟨s2, _⟩ e2
 dsimp only at e2 ⊢
 subst e2
 have h := (elimL ho2)
 refine Wq (Wr (D rfl (ag rfl) (Wn (Pt (Wt ?_)))))
 obtain rfl := si h
 refine pn_ret (vs := [_]) rfl ⟨rfl, trivial⟩ ⟨rfl, rfl, rfl⟩ (fun _ h => h.to ⟨_, r0, trivial⟩ trivial)
def Q_slices_DeleteFunc_s_int_int_o_inuring_Order_c1 (Ba1_0 : Nat) (a1_0 : Int) (r : (List Int)) : Value → List Ent → List Fact → Prop := fun v θ κ => ∃ (pA0 : Option Addr), ∃ (pn0 : Nat), ∃ (pc0 : Nat), v = .slice pA0 pn0 pc0 ∧ θ = [eS (lInt .i64) 3 pA0 pn0 pc0 r, eBlk Ba1_0 3 [.int .i64 a1_0]] ∧ κ = []
theorem plains_slices_DeleteFunc_s_int_int_o_inuring_Order_c1 {Ba1_0 : Nat} {a1_0 : Int} {r : (List Int)} : ∀ v θ κ, Q_slices_DeleteFunc_s_int_int_o_inuring_Order_c1 Ba1_0 a1_0 r v θ κ → Plains θ := by
 rintro _ _ _ ⟨_, _, _, rfl, rfl, rfl⟩
 exact ⟨plain_eS, plain_eBlk, trivial⟩
set_option maxHeartbeats 4000000 in
set_option maxRecDepth 100000 in
theorem W_slices_DeleteFunc_s_int_int_o_inuring_Order_c1 (a0 : (List Int)) (a1_0 : Int) (A0 : Option Addr) (n0 : Nat) (c0 : Nat) (Ba1_0 : Nat) (r : (List Int)) (h : slices_DeleteFunc_s_int_int_o_inuring_Order_c1 a0 a1_0 = some r) : Spec Try.prog 30 [.slice A0 n0 c0, .func (.func 31) #[] #[.pointer (some ⟨Ba1_0, 0, none⟩)]] [eS (lInt .i64) 3 A0 n0 c0 a0, eBlk Ba1_0 3 [.int .i64 a1_0]] [] (Q_slices_DeleteFunc_s_int_int_o_inuring_Order_c1 Ba1_0 a1_0 r) := by
 unfold slices_DeleteFunc_s_int_int_o_inuring_Order_c1 at h
 refine spec_of (σ := [(0, _), (1, _)]) Try.func30 rfl rfl rfl rfl ?_
 intro C
 refine wc_know (fun _ h => h.lenO m0) (fun e => ?_)
 subst e
 refine Wq (Wr (D rfl (ag rfl) (Wn (Pt (Wq (Wr (D rfl (mv rfl) (D rfl (mv rfl) ?_))))))))
 obtain ⟨r1_2, hr1_2, h⟩ := bs h
 refine Ac rfl (act_callL (cap := []) [eS (lInt .i64) 3 A0 a0.length c0 a0] (W_slices_IndexFunc_s_int_int_inuring_Order_c1 a0 a1_0 A0 a0.length c0 Ba1_0 r1_2 hr1_2) plains_slices_IndexFunc_s_int_int_inuring_Order_c1 rfl rfl rfl bd54 ⟨_, (rs r0), rfl⟩ ⟨m0, trivial⟩ ⟨.inr ⟨_, m0, lent_eS⟩, trivial⟩) ?_
 rintro _ _ _ ⟨_, _, ⟨rfl, rfl, rfl⟩, rfl, rfl⟩
 dsimp only [na, ca]
 refine D rfl (ag rfl) (Wn (Pt (Wq (Wq (Wr (D rfl (mv rfl) (D rfl (det_eql rfl rfl) (Wn (Pt ?_)))))))))
 refine wc_cond rfl (fun cd7 => ?_) (fun cd7 => ?_)
 ·have h := ifT h cd7
  refine Wq (Wr (D rfl (mv rfl) (D rfl (ag rfl) (Wn (Pt (Wt (Rt ?_)))))))
  obtain rfl := si h
  refine pn_ret (vs := [_]) rfl ⟨rfl, trivial⟩ ⟨A0, a0.length, c0, rfl, rfl, rfl⟩ (fun _ h => h.to ⟨_, (rs r0), ⟨_, r0, trivial⟩⟩ trivial)
 ·have h := ifF h cd7
  refine Wk (Pt ?_)
  obtain ⟨q10, h, ho10⟩ := bs h
  refine wc_meetG (G := ((List Int) × Int) × Unit) (fun (s10, _) => s10 = q10) (fun (s10, _) => [(0, .slice A0 a0.length c0), (5, .int .i64 s10.2)]) (fun (s10, _) => [eBlk Ba1_0 3 [.int .i64 a1_0], eS (lInt .i64) 3 A0 a0.length c0 s10.1]) (fun (_, _) => []) ?_ ?_
  ·refine Wq (Wr (D rfl (mv rfl) (D rfl (det_add rfl rfl) (D rfl (ag rfl) (Wn (Pt (Wb ?_)))))))
   obtain ⟨k14, hk14⟩ := loopV_some.1 h
   refine wc_loop (G := Nat × ((List Int) × Int × Int) × Unit) (fun g => IterN (slices_DeleteFunc_s_int_int_o_inuring_Order_c1_l14 a0 a1_0) g.1 g.2.1 q10) (fun g => g.1) (fun (_, s14, _) => [(0, .slice A0 a0.length c0), (1, .func (.func 31) #[] #[.pointer (some ⟨Ba1_0, 0, none⟩)]), (5, .int .i64 s14.2.1), (6, .int .i64 s14.2.2)]) (fun (_, s14, _) => [eBlk Ba1_0 3 [.int .i64 a1_0], eS (lInt .i64) 3 A0 a0.length c0 s14.1]) (fun (_, _, _) => []) (k14, (a0, r1_2, (w64 (r1_2 + 1))), ()) hk14 (Sb rfl) (fun _ h => h.to ⟨_, r0, ⟨_, r0, trivial⟩⟩ trivial) ?_
   rintro ⟨k14, s14, _⟩ hI
   obtain ⟨k14, rfl, q14, h, g14⟩ := IterN.pos hI
   dsimp only at h ⊢
   unfold slices_DeleteFunc_s_int_int_o_inuring_Order_c1_l14 at h
   refine Wq (Wq (Wr (D rfl (mv rfl) (D rfl (mv rfl) (D rfl (det_len rfl un22) (D rfl (det_lss rfl rfl) (Wn (Pt ?_))))))))
   refine wc_cond rfl (fun cd18 => ?_) (fun cd18 => ?_)
   ·have h := ifT h cd18
    refine Wk (Pt ?_)
    obtain ⟨q20, h, ho20⟩ := bs h
    refine wc_meetG (G := ((List Int) × Int) × Unit) (fun (s20, _) => s20 = q20) (fun (s20, _) => [(0, .slice A0 a0.length c0), (1, .func (.func 31) #[] #[.pointer (some ⟨Ba1_0, 0, none⟩)]), (5, .int .i64 s20.2), (6, .int .i64 s14.2.2)]) (fun (s20, _) => [eBlk Ba1_0 3 [.int .i64 a1_0], eS (lInt .i64) 3 A0 a0.length c0 s20.1]) (fun (_, _) => []) ?_ ?_
    ·refine Wb (Wq (Wr (D rfl (mv rfl) (D rfl (mv rfl) ?_))))
     obtain ⟨k7_2, h⟩ := chk_some h
     refine D rfl (det_indexO rfl rfl (ms m0) k7_2 un22 sz3) (D rfl (det_loadO (off := 0) rfl (ms m0) k7_2 (by rfl) (by rfl) (loaded_1 na3 us3)) (D rfl (ag rfl) (Wn (Pt (Wq (Wr (D rfl (mv rfl) (D rfl (mv rfl) ?_))))))))
     obtain ⟨r8_2, hr8_2, h⟩ := bs h
     refine Ac rfl (act_callS (cap := [_]) (W_inuring_Order_c1 (ix s14.1 s14.2.2) a1_0 Ba1_0 r8_2 hr8_2) rfl rfl rfl bd31 ⟨_, r0, rfl⟩ trivial) ?_
     rintro _ _ _ ⟨_, _, ⟨rfl, rfl, rfl⟩, rfl, rfl⟩
     dsimp only [na, ca]
     refine D rfl (det_not rfl) (Wn (Pt ?_))
     refine wc_cond rfl (fun cd26 => ?_) (fun cd26 => ?_)
     ·have h := ifT h cd26
      refine Wq (Wr (D rfl (mv rfl) (D rfl (mv rfl) (D rfl (mv rfl) ?_))))
      obtain ⟨k9_3, h⟩ := chk_some h
      refine D rfl (det_indexO rfl rfl (ms m0) k9_3 un22 sz3) (Az rfl (act_storeO (cells := [_]) (off := 0) (ix s14.1 s14.2.2) rfl rfl rfl (ss s0) k9_3 (by rfl) sz3 (by intro u hu; simp at hu; rcases hu with rfl <;> rfl) (stR_flat rfl rfl)) ?_)
      rintro _ _ _ ⟨rfl, rfl⟩
      refine Wn (Pt (Wr (D rfl (mv rfl) (D rfl (det_add rfl rfl) (D rfl (ag rfl) (Wn (Pb ?_)))))))
      obtain rfl := si h
      exact pn_meetG (((upd s14.1 s14.2.1 (ix s14.1 s14.2.2)), (w64 (s14.2.1 + 1))), ()) rfl (Sb rfl) (fun _ h => h.to ⟨_, r0, ⟨_, r0, trivial⟩⟩ trivial)
     ·have h := ifF h cd26
      refine Wk (Pb ?_)
      obtain rfl := si h
      exact pn_meetG ((s14.1, s14.2.1), ()) rfl (Sb rfl) (fun _ h => h.to ⟨_, r0, ⟨_, r0, trivial⟩⟩ trivial)
    rintro ⟨s20, _⟩ e20
    dsimp only at e20 ⊢
    subst e20
    have h := ho20
    refine Wr (D rfl (mv rfl) (D rfl (det_add rfl rfl) (D rfl (ag rfl) (Wn ?_))))
    obtain rfl := si h
    exact pn_some (k14, (s20.1, s20.2, (w64 (s14.2.2 + 1))), ()) ⟨nextL g14, Nat.lt_succ_self _⟩ (Sb rfl) (fun _ h => h.to ⟨_, r0, ⟨_, r0, trivial⟩⟩ trivial)
   ·have h := ifF h cd18
    refine We (Xt (Xt (Xb ?_)))
    obtain rfl := si h
    replace g14 := nextR g14
    subst g14
    exact pn_meetG ((s14.1, s14.2.1), ()) rfl (Sb rfl) (fun _ h => h.to ⟨_, r0, ⟨_, r0, trivial⟩⟩ trivial)
  rintro ⟨s10, _⟩ e10
  dsimp only at e10 ⊢
  subst e10
  have h := ho10
  refine Wq (Wr (D rfl (mv rfl) (D rfl (mv rfl) ?_)))
  obtain ⟨k11_2, h⟩ := chk_some h
  obtain ⟨k11_2a, h⟩ := chk_some h
  refine Ac rfl (act_sliceOL rfl rfl (ms m0) un22 sz3 k11_2 k11_2a) ?_
  rintro _ _ _ ⟨rfl, rfl, rfl⟩
  refine wl_act0 (act_clearO (L := (lInt .i64)) (l := s10.2.toNat) (x0 := (0 : Int)) rfl (ss s0) (by have := of_decide_eq_true k11_2a; omega) un22 zr3 (by refine ⟨rfl, fun _ _ => ?_⟩; first | exact rfl | exact ⟨_, _, _, rfl, rfl, Nat.zero_le _, .inl rfl⟩) rfl) rfl rfl ?_
  rintro _ _ _ ⟨rfl, rfl⟩
  refine Wn (Pt (Wq (Wr (D rfl (mv rfl) (D rfl (mv rfl) ?_)))))
  obtain ⟨k12_2, h⟩ := chk_some h
  refine Ac rfl (act_sliceOH rfl rfl (rs r0) un22 sz3 k11_2 k12_2) ?_
  rintro _ _ _ ⟨rfl, rfl, rfl⟩
  refine D rfl (ag rfl) (Wn (Pt (Wt ?_)))
  obtain rfl := si h
  refine pn_ret (vs := [_]) rfl ⟨rfl, trivial⟩ ⟨A0, ((s10.1.take s10.2.toNat ++ List.replicate (s10.1.length - s10.2.toNat) (0 : Int)).take s10.2.toNat).length, c0, rfl, rfl, rfl⟩ (fun _ h => h.to ⟨_, r0, ⟨_, r0, trivial⟩⟩ trivial)
def Q_inuring_Order (r : (List Int) × Int) : Value → List Ent → List Fact → Prop := fun v θ κ => ∃ (pA0 : Option Addr), ∃ (pn0 : Nat), ∃ (pc0 : Nat), v = .tuple #[.slice pA0 pn0 pc0, .int .i64 r.2] ∧ θ = [eS (lInt .i64) 3 pA0 pn0 pc0 r.1] ∧ κ = []
theorem plains_inuring_Order {r : (List Int) × Int} : ∀ v θ κ, Q_inuring_Order r v θ κ → Plains θ := by
 rintro _ _ _ ⟨_, _, _, rfl, rfl, rfl⟩
 exact ⟨plain_eS, trivial⟩
set_option maxHeartbeats 4000000 in
set_option maxRecDepth 100000 in
theorem W_inuring_Order (a0 : (List GTreaty)) (A0 : Option Addr) (n0 : Nat) (c0 : Nat) (r : (List Int) × Int) (h : inuring_Order a0 = some r) : Spec Try.prog 10 [.slice A0 n0 c0] [] [fV (lSlice lGTreaty) (.slice A0 n0 c0) a0] (Q_inuring_Order r) := by
 unfold inuring_Order at h
 refine spec_of (σ := [(0, _)]) Try.func10 rfl rfl rfl rfl ?_
 intro C
 refine wc_know (fun _ h => h.lenF m0) (fun e => ?_)
 subst e
 refine Wq (Wr (D rfl (ag rfl) (D rfl (ag rfl) (Wn (Pt (Wq (Wq (Wr (D rfl (mv rfl) ?_)))))))))
 obtain ⟨r1_1, hr1_1, h⟩ := bs h
 refine Ac rfl (act_callS (cap := []) (W_inuring_Validate a0 A0 a0.length c0 r1_1 hr1_1) rfl rfl rfl bd15 rfl ⟨m0, trivial⟩) ?_
 rintro _ _ _ ⟨_, _, ⟨rfl, rfl, rfl⟩, rfl, rfl⟩
 dsimp only [na, ca]
 refine D rfl (ag rfl) (Wn (Pt (Wq (Wr (D rfl (mv rfl) (D rfl (det_neq rfl rfl) (Wn (Pt ?_))))))))
 refine wc_cond rfl (fun cd7 => ?_) (fun cd7 => ?_)
 ·have h := ifT h cd7
  refine Wq (Wr (D rfl (mv rfl) (D rfl (ag rfl) (D rfl (ag rfl) (Wn (Pt (Wt (Rt ?_))))))))
  refine pn_st (fun _ h => h.zeroS (lInt .i64) 3 none) ?_
  obtain rfl := si h
  refine pn_ret (vs := [_, _]) rfl ⟨rfl, rfl, trivial⟩ ⟨none, 0, 0, rfl, rfl, rfl⟩ (fun _ h => h.to ⟨_, r0, trivial⟩ trivial)
 ·have h := ifF h cd7
  refine Wk (Pt (Wq (Wr (D rfl (mv rfl) (D rfl (mv rfl) (D rfl (det_len rfl un23) ?_))))))
  obtain ⟨k4_3, h⟩ := chk_some h
  obtain ⟨k4_3a, h⟩ := chk_some h
  refine wl_act (act_makeS (L := lBool) (x0 := false) rfl rfl un52 in4 (by refine ⟨rfl, fun _ _ => ?_⟩; first | exact rfl | exact ⟨_, _, _, rfl, rfl, Nat.zero_le _, .inl rfl⟩) rfl rfl k4_3 (decide_eq_true (Int.le_refl _)) k4_3a) rfl rfl rfl ?_
  rintro _ _ _ ⟨A4_3, c4_3, rfl, rfl, rfl⟩
  refine D rfl (det_build (cs := [_, _]) pl54 zr54 rfl rfl (by rfl)) (Ac rfl (act_alloc (cs := [_, _]) zr54 rfl) ?_)
  rintro _ _ _ ⟨b4_5, rfl, rfl, rfl⟩
  refine Az rfl (act_store (cells := [_, _]) (cs' := [_, _]) rfl rfl rfl s0 (by rfl) (of_decide_eq_true rfl) sz54 (On1 rfl)) ?_
  rintro _ _ _ ⟨rfl, rfl⟩
  refine Wn ?_
  refine Pt (Wq (Wr (D rfl (det_loadN (cells := [_, _]) rfl m0 (by rfl) ag54 sz54) (D rfl (det_makeFuncM rfl (xs := []) rfl) (D rfl (ag rfl) (Wn (Pt (Wq (Wr (D rfl (mv rfl) (D rfl (det_len rfl un23) ?_)))))))))))
  refine wl_act (act_makeS (L := (lInt .i64)) (x0 := (0 : Int)) rfl rfl un22 in3 (by refine ⟨rfl, fun _ _ => ?_⟩; first | exact rfl | exact ⟨_, _, _, rfl, rfl, Nat.zero_le _, .inl rfl⟩) rfl rfl k4_3 (decide_eq_true (Int.le_refl _)) k4_3a) rfl rfl rfl ?_
  rintro _ _ _ ⟨A6_2, c6_2, rfl, rfl, rfl⟩
  refine D rfl (ag rfl) (Wn (Pt ?_))
  obtain ⟨q16, h, ho16⟩ := bs h
  refine wc_meetG (G := (List Int) × Unit) (fun (s16, _) => s16 = q16) (fun (_, _) => [(0, .slice A0 a0.length c0), (5, .pointer (some ⟨b4_5, 0, none⟩)), (6, .func (.func 28) #[.agg #[.slice A0 a0.length c0, .slice A4_3 (List.replicate (a0.length : Int).toNat false).length c4_3]] #[]), (7, .slice A6_2 (List.replicate (a0.length : Int).toNat (0 : Int)).length c6_2)]) (fun (s16, _) => [eBlk b4_5 54 [.slice A0 a0.length c0, .slice A4_3 (List.replicate (a0.length : Int).toNat false).length c4_3], eS lBool 4 A4_3 (List.replicate (a0.length : Int).toNat false).length c4_3 (List.replicate (a0.length : Int).toNat false), eS (lInt .i64) 3 A6_2 (List.replicate (a0.length : Int).toNat (0 : Int)).length c6_2 s16]) (fun (_, _) => [fV (lSlice lGTreaty) (.slice A0 a0.length c0) a0]) ?_ ?_
  ·refine Wq (Wr (D rfl (mv rfl) (D rfl (det_len rfl un22) (D rfl (mv rfl) (Wn (Pt (Wb ?_)))))))
   obtain ⟨k20, hk20⟩ := loopV_some.1 h
   refine wc_loop (G := Nat × ((List Int) × Int) × Unit) (fun g => IterN (inuring_Order_l20 a0) g.1 g.2.1 q16) (fun g => g.1) (fun (_, s20, _) => [(0, .slice A0 a0.length c0), (5, .pointer (some ⟨b4_5, 0, none⟩)), (6, .func (.func 28) #[.agg #[.slice A0 a0.length c0, .slice A4_3 (List.replicate (a0.length : Int).toNat false).length c4_3]] #[]), (7, .slice A6_2 (List.replicate (a0.length : Int).toNat (0 : Int)).length c6_2), (27, .int .i64 ((List.replicate (a0.length : Int).toNat (0 : Int)).length : Int)), (28, .int .i64 s20.2)]) (fun (_, s20, _) => [eBlk b4_5 54 [.slice A0 a0.length c0, .slice A4_3 (List.replicate (a0.length : Int).toNat false).length c4_3], eS lBool 4 A4_3 (List.replicate (a0.length : Int).toNat false).length c4_3 (List.replicate (a0.length : Int).toNat false), eS (lInt .i64) 3 A6_2 (List.replicate (a0.length : Int).toNat (0 : Int)).length c6_2 s20.1]) (fun (_, _, _) => [fV (lSlice lGTreaty) (.slice A0 a0.length c0) a0]) (k20, ((List.replicate (a0.length : Int).toNat (0 : Int)), 0), ()) hk20 (Sb rfl) (fun _ h => h.to ⟨_, (rs r0), ⟨_, (rs r0), ⟨_, r0, trivial⟩⟩⟩ ⟨m0, trivial⟩) ?_
   rintro ⟨k20, s20, _⟩ hI
   obtain ⟨k20, rfl, q20, h, g20⟩ := IterN.pos hI
   dsimp only at h ⊢
   unfold inuring_Order_l20 at h
   refine Wq (Wr (D rfl (det_lss rfl rfl) (Wn (Pt (Wq ?_)))))
   refine wc_cond rfl (fun cd24 => ?_) (fun cd24 => ?_)
   ·have h := ifT h cd24
    refine Wk (Pt ?_)
    refine Wq (Wb (Wq (Wr (D rfl (mv rfl) (D rfl (ag rfl) (Wn (Pt (Wr (D rfl (mv rfl) (D rfl (mv rfl) (D rfl (mv rfl) ?_)))))))))))
    obtain ⟨k10_3, h⟩ := chk_some h
    refine D rfl (det_indexO rfl rfl (ms (ms m0)) k10_3 un22 sz3) (Az rfl (act_storeO (cells := [_]) (off := 0) s20.2 rfl rfl rfl (ss (ss s0)) k10_3 (by rfl) sz3 (by intro u hu; simp at hu; rcases hu with rfl <;> rfl) (stR_flat rfl rfl)) ?_)
    rintro _ _ _ ⟨rfl, rfl⟩
    refine Wn (Pb (Pt (Wr (D rfl (det_add rfl rfl) (D rfl (mv rfl) (Wn ?_))))))
    obtain rfl := si h
    exact pn_some (k20, ((upd s20.1 s20.2 s20.2), (w64 (s20.2 + 1))), ()) ⟨nextL g20, Nat.lt_succ_self _⟩ (Sb rfl) (fun _ h => h.to ⟨_, r0, ⟨_, r0, ⟨_, r0, trivial⟩⟩⟩ ⟨m0, trivial⟩)
   ·have h := ifF h cd24
    refine We (Xt (Xt (Xb ?_)))
    obtain rfl := si h
    replace g20 := nextR g20
    subst g20
    exact pn_meetG (s20.1, ()) rfl (Sb rfl) (fun _ h => h.to ⟨_, r0, ⟨_, r0, ⟨_, r0, trivial⟩⟩⟩ ⟨m0, trivial⟩)
  rintro ⟨s16, _⟩ e16
  dsimp only at e16 ⊢
  subst e16
  have h := ho16
  refine Wq (Wr (D rfl (mv rfl) (D rfl (det_len rfl un23) ?_)))
  refine wl_act (act_makeS (L := (lInt .i64)) (x0 := (0 : Int)) rfl rfl un22 in3 (by refine ⟨rfl, fun _ _ => ?_⟩; first | exact rfl | exact ⟨_, _, _, rfl, rfl, Nat.zero_le _, .inl rfl⟩) rfl rfl rfl k4_3 k4_3a) rfl rfl rfl ?_
  rintro _ _ _ ⟨A12_2, c12_2, rfl, rfl, rfl⟩
  refine D rfl (ag rfl) (Wn (Pt ?_))
  obtain ⟨q34, h, ho34⟩ := bs h
  refine wc_meetG (G := (List Int) × Option Addr × Nat × Nat × Unit) (fun (s34, _, _, _, _) => s34 = q34) (fun (_, A34_0, n34_0, c34_0, _) => [(9, .slice A34_0 n34_0 c34_0)]) (fun (s34, A34_0, n34_0, c34_0, _) => [eS (lInt .i64) 3 A34_0 n34_0 c34_0 s34]) (fun (_, _, _, _, _) => []) ?_ ?_
  ·refine Wb ?_
   obtain ⟨k36, hk36⟩ := loopV_some.1 h
   refine wc_loop (G := Nat × ((List Bool) × (List Int) × (List Int)) × Option Addr × Nat × Nat × Option Addr × Nat × Nat × Unit) (fun g => IterN (inuring_Order_l36 a0) g.1 g.2.1 q34) (fun g => g.1) (fun (_, _, A36_0, n36_0, c36_0, A36_3, n36_3, c36_3, _) => [(5, .pointer (some ⟨b4_5, 0, none⟩)), (6, .func (.func 28) #[.agg #[.slice A0 a0.length c0, .slice A4_3 (List.replicate (a0.length : Int).toNat false).length c4_3]] #[]), (7, .slice A36_0 n36_0 c36_0), (9, .slice A36_3 n36_3 c36_3)]) (fun (_, s36, A36_0, n36_0, c36_0, A36_3, n36_3, c36_3, _) => [eBlk b4_5 54 [.slice A0 a0.length c0, .slice A4_3 (List.replicate (a0.length : Int).toNat false).length c4_3], eS lBool 4 A4_3 (List.replicate (a0.length : Int).toNat false).length c4_3 s36.1, eS (lInt .i64) 3 A36_0 n36_0 c36_0 s36.2.1, eS (lInt .i64) 3 A36_3 n36_3 c36_3 s36.2.2]) (fun (_, _, _, _, _, _, _, _, _) => [fV (lSlice lGTreaty) (.slice A0 a0.length c0) a0]) (k36, ((List.replicate (a0.length : Int).toNat false), s16, (List.replicate (0 : Int).toNat (0 : Int))), A6_2, (List.replicate (a0.length : Int).toNat (0 : Int)).length, c6_2, A12_2, (List.replicate (0 : Int).toNat (0 : Int)).length, c12_2, ()) hk36 (Sb rfl) (fun _ h => h.to ⟨_, (rs r0), ⟨_, (rs r0), ⟨_, (rs r0), ⟨_, r0, trivial⟩⟩⟩⟩ ⟨m0, trivial⟩) ?_
   rintro ⟨k36, s36, A36_0, n36_0, c36_0, A36_3, n36_3, c36_3, _⟩ hI
   obtain ⟨k36, rfl, q36, h, g36⟩ := IterN.pos hI
   dsimp only at h ⊢
   unfold inuring_Order_l36 at h
   refine wc_know (fun _ h => h.lenO (ms (ms m0))) (fun e => ?_)
   subst e
   refine wc_know (fun _ h => h.lenO (ms (ms (ms m0)))) (fun e => ?_)
   subst e
   refine Wq (Wq (Wr (D rfl (mv rfl) (D rfl (det_len rfl un22) (D rfl (det_gtr rfl rfl) (Wn (Pt ?_)))))))
   refine wc_cond rfl (fun cd40 => ?_) (fun cd40 => ?_)
   ·have h := ifT h cd40
    refine Wk (Pt (Wb (Wq (Wr (D rfl (mv rfl) (D rfl (mv rfl) ?_))))))
    obtain ⟨r14_2, hr14_2, h⟩ := bs h
    refine Ac rfl (act_callL (cap := []) [eS (lInt .i64) 3 A36_0 s36.2.1.length c36_0 s36.2.1, eS lBool 4 A4_3 (List.replicate (a0.length : Int).toNat false).length c4_3 s36.1] (W_slices_MinFunc_s_int_int_inuring_queue_compare s36.2.1 (Gqueue.mk a0 s36.1) A36_0 s36.2.1.length c36_0 A0 a0.length c0 A4_3 (List.replicate (a0.length : Int).toNat false).length c4_3 r14_2 hr14_2) plains_slices_MinFunc_s_int_int_inuring_queue_compare rfl rfl rfl bd29 rfl ⟨(ms (ms m0)), ⟨(ms m0), trivial⟩⟩ ⟨.inr ⟨_, m0, lent_eS⟩, ⟨.inl m0, ⟨.inr ⟨_, (ms m0), lent_eS⟩, trivial⟩⟩⟩) ?_
    rintro _ _ _ ⟨_, _, ⟨rfl, rfl, rfl⟩, rfl, rfl⟩
    dsimp only [na, ca]
    refine Ac rfl (act_alloc (cs := [_]) zr3 rfl) ?_
    rintro _ _ _ ⟨b14_3, rfl, rfl, rfl⟩
    refine Az rfl (act_store (cells := [_]) (cs' := [_]) rfl rfl rfl s0 (by rfl) (of_decide_eq_true rfl) sz3 (On1 rfl)) ?_
    rintro _ _ _ ⟨rfl, rfl⟩
    refine Wn (Pt (Wq (Wr (D rfl (fd rfl fd54_1 rfl) (D rfl (ld rfl (ms m0) (by rfl) na52 us52) (D rfl (ld rfl m0 (by rfl) na3 us3) ?_))))))
    obtain ⟨k15_3, h⟩ := chk_some h
    refine D rfl (det_indexO rfl rfl (ms (ms m0)) k15_3 un52 sz4) (Az rfl (act_storeO (cells := [_]) (off := 0) true rfl rfl rfl (ss (ss s0)) k15_3 (by rfl) sz4 (by intro u hu; simp at hu; rcases hu with rfl <;> rfl) (stR_flat rfl rfl)) ?_)
    rintro _ _ _ ⟨rfl, rfl⟩
    refine Wn (Pt (Wq (Wr (D rfl (mv rfl) (D rfl (ld rfl m0 (by rfl) na3 us3) (Ac rfl (act_litS (lInt .i64) (vs := [_]) (cs := [_]) [r14_2] un22 in3 rfl rfl rfl rfl rfl ⟨rfl, trivial⟩ (by rfl) rfl (litR_flat rfl)) ?_))))))
    rintro _ _ _ ⟨A16_2, rfl, rfl, rfl⟩
    obtain ⟨k16_3, h⟩ := chk_some h
    refine Ac rfl (act_appendS (L := (lInt .i64)) rfl rfl (ss (ss (ss (ss (ss s0))))) (src_O m0) un22 in3 rfl rfl rfl k16_3) ?_
    rintro _ _ _ ⟨A16_3, c16_3, rfl, rfl, rfl⟩
    refine D rfl (ag rfl) (Wn (Pt (Wr (D rfl (mv rfl) (D rfl (det_makeFunc rfl) ?_)))))
    obtain ⟨r17_2, hr17_2, h⟩ := bs h
    refine Ac rfl (act_callS (cap := []) (W_slices_DeleteFunc_s_int_int_o_inuring_Order_c1 s36.2.1 r14_2 A36_0 s36.2.1.length c36_0 b14_3 r17_2 hr17_2) rfl rfl rfl bd30 ⟨_, (rs (rs (rs (rs r0)))), ⟨_, (rs r0), rfl⟩⟩ trivial) ?_
    rintro _ _ _ ⟨_, _, ⟨y17_2A0, y17_2n0, y17_2c0, rfl, rfl, rfl⟩, rfl, rfl⟩
    dsimp only [na, ca]
    refine wl_know (fun _ h => h.lenO m0) (fun e => ?_)
    subst e
    refine D rfl (ag rfl) (Wn (Pb ?_))
    obtain rfl := si h
    exact pn_some (k36, ((upd s36.1 r14_2 true), r17_2, (s36.2.2 ++ [r14_2])), y17_2A0, r17_2.length, y17_2c0, A16_3, (s36.2.2 ++ [r14_2]).length, c16_3, ()) ⟨nextL g36, Nat.lt_succ_self _⟩ (Sb rfl) (fun _ h => h.to ⟨_, (rs (rs (rs r0))), ⟨_, (rs (rs (rs r0))), ⟨_, r0, ⟨_, (rs (rs r0)), trivial⟩⟩⟩⟩ ⟨m0, trivial⟩)
   ·have h := ifF h cd40
    refine We (Xt (Xt (Xb ?_)))
    obtain rfl := si h
    replace g36 := nextR g36
    subst g36
    exact pn_meetG (s36.2.2, A36_3, s36.2.2.length, c36_3, ()) rfl (Sb rfl) (fun _ h => h.to ⟨_, (rs (rs (rs r0))), trivial⟩ trivial)
  rintro ⟨s34, A34_0, n34_0, c34_0, _⟩ e34
  dsimp only at e34 ⊢
  subst e34
  have h := ho34
  refine wc_know (fun _ h => h.lenO m0) (fun e => ?_)
  subst e
  refine Wq (Wr (D rfl (mv rfl) (D rfl (ag rfl) (D rfl (ag rfl) (Wn (Pt (Wt ?_)))))))
  obtain rfl := si h
  refine pn_ret (vs := [_, _]) rfl ⟨rfl, rfl, trivial⟩ ⟨A34_0, s34.length, c34_0, rfl, rfl, rfl⟩ (fun _ h => h.to ⟨_, r0, trivial⟩ trivial)
def Q_treatyref01_SameInts (r : Bool) : Value → List Ent → List Fact → Prop := fun v θ κ => v = .bool r ∧ θ = [] ∧ κ = []
theorem plains_treatyref01_SameInts {r : Bool} : ∀ v θ κ, Q_treatyref01_SameInts r v θ κ → Plains θ := by
 rintro _ _ _ ⟨rfl, rfl, rfl⟩
 exact trivial
set_option maxHeartbeats 4000000 in
set_option maxRecDepth 100000 in
theorem W_treatyref01_SameInts (a0 : (List Int)) (a1 : (List Int)) (A0 : Option Addr) (n0 : Nat) (c0 : Nat) (A3 : Option Addr) (n3 : Nat) (c3 : Nat) (r : Bool) (h : treatyref01_SameInts a0 a1 = some r) : Spec Try.prog 12 [.slice A0 n0 c0, .slice A3 n3 c3] [] [fV (lSlice (lInt .i64)) (.slice A0 n0 c0) a0, fV (lSlice (lInt .i64)) (.slice A3 n3 c3) a1] (Q_treatyref01_SameInts r) := by
 unfold treatyref01_SameInts at h
 refine spec_of (σ := [(0, _), (1, _)]) Try.func12 rfl rfl rfl rfl ?_
 intro C
 refine wc_know (fun _ h => h.lenF m0) (fun e => ?_)
 subst e
 refine wc_know (fun _ h => h.lenF (ms m0)) (fun e => ?_)
 subst e
 refine Wq (Wr (D rfl (ag rfl) ?_))
 refine Wn (Pt (Wq (Wq (Wr (D rfl (mv rfl) (D rfl (det_len rfl un22) (D rfl (mv rfl) (D rfl (det_len rfl un22) (D rfl (det_neq rfl rfl) (Wn (Pt ?_)))))))))))
 refine wc_cond rfl (fun cd5 => ?_) (fun cd5 => ?_)
 ·have h := ifT h cd5
  refine Wq (Wr (D rfl (ag rfl) (Wn (Pt (Wt (Rt ?_))))))
  obtain rfl := si h
  refine pn_ret (vs := [_]) rfl ⟨rfl, trivial⟩ ⟨rfl, rfl, rfl⟩ (fun _ h => h.to trivial trivial)
 ·have h := ifF h cd5
  refine Wk (Pt ?_)
  obtain ⟨q8, h, ho8⟩ := bs h
  refine wc_meetG (G := Unit × Unit) (fun (s8, _) => (.inl s8) = q8) (fun (_, _) => []) (fun (_, _) => []) (fun (_, _) => []) ?_ ?_
  ·refine Wq (Wr (D rfl (ag rfl) (Wn (Pt (Wb ?_)))))
   obtain ⟨o12, h, ho12⟩ := bs h
   obtain ⟨k12, hk12⟩ := loopV_some.1 h
   refine wc_loop (G := Nat × Int × Unit) (fun g => IterN (treatyref01_SameInts_l12 a0 a1) g.1 g.2.1 o12) (fun g => g.1) (fun (_, s12, _) => [(0, .slice A0 a0.length c0), (1, .slice A3 a1.length c3), (5, .int .i64 s12)]) (fun (_, _, _) => []) (fun (_, _, _) => [fV (lSlice (lInt .i64)) (.slice A0 a0.length c0) a0, fV (lSlice (lInt .i64)) (.slice A3 a1.length c3) a1]) (k12, 0, ()) hk12 (Sb rfl) (fun _ h => h.to trivial ⟨m0, ⟨(ms m0), trivial⟩⟩) ?_
   rintro ⟨k12, s12, _⟩ hI
   obtain ⟨k12, rfl, q12, h, g12⟩ := IterN.pos hI
   dsimp only at h ⊢
   unfold treatyref01_SameInts_l12 at h
   refine Wq (Wq (Wr (D rfl (mv rfl) (D rfl (mv rfl) (D rfl (det_len rfl un22) (D rfl (det_lss rfl rfl) (Wn (Pt ?_))))))))
   refine wc_cond rfl (fun cd16 => ?_) (fun cd16 => ?_)
   ·have h := ifT h cd16
    refine Wk (Pt (Wq (Wb (Wq ?_))))
    obtain ⟨k6_p1, h⟩ := chk_some h
    refine wc_st (fun _ h => h.openF m0 k6_p1) ?_
    obtain ⟨k6_p3, h⟩ := chk_some h
    refine wc_st (fun _ h => h.openF (ms (ms m0)) k6_p3) ?_
    refine dx_region 9 [[], [], [0, 1], [0, 1, 2], [], [], [4, 5], [4, 5, 6], [0, 1, 2, 3, 4, 5, 6, 7]] mixed (ord := (.det 0 (.det 1 (.det 2 (.det 3 (.det 4 (.det 5 (.det 6 (.det 7 (.det 8 .done)))))))))) (by kernel_rfl) ?_
    refine Hd rfl rfl rfl (mv rfl) (Hd rfl rfl rfl (mv rfl) (Hd rfl rfl rfl (det_indexP rfl rfl (ms (ms m0)) k6_p1 (ms m0) un22 sz3) (Hd rfl rfl rfl (det_loadP (off := 0) rfl (ms m0) (by rfl) (by rfl) (loaded_1 na3 us3)) (Hd rfl rfl rfl (mv rfl) (Hd rfl rfl rfl (mv rfl) (Hd rfl rfl rfl (det_indexP rfl rfl (ms (ms (ms m0))) k6_p3 m0 un22 sz3) (Hd rfl rfl rfl (det_loadP (off := 0) rfl m0 (by rfl) (by rfl) (loaded_1 na3 us3)) (Hd rfl rfl rfl (det_neq rfl rfl) (hx_end (Wn (Pt ?_)))))))))))
    refine wc_cond rfl (fun cd22 => ?_) (fun cd22 => ?_)
    ·have h := ifT h cd22
     refine Wq (Wr (D rfl (ag rfl) (Wn (Pt (Wt (Rb (Rt (Rt (Rb (Rt ?_))))))))))
     obtain rfl := si h
     replace g12 := nextR g12
     subst g12
     have h := (elimL ho12)
     obtain rfl := si h
     have h := (elimR ho8)
     obtain rfl := si h
     refine pn_ret (vs := [_]) rfl ⟨rfl, trivial⟩ ⟨rfl, rfl, rfl⟩ (fun _ h => h.to trivial trivial)
    ·have h := ifF h cd22
     refine Wk (Pb (Pt (Wr (D rfl (mv rfl) (D rfl (det_add rfl rfl) (D rfl (ag rfl) (Wn ?_)))))))
     obtain rfl := si h
     exact pn_some (k12, (w64 (s12 + 1)), ()) ⟨nextL g12, Nat.lt_succ_self _⟩ (Sb rfl) (fun _ h => h.to trivial ⟨(ms (ms m0)), ⟨(ms (ms (ms m0))), trivial⟩⟩)
   ·have h := ifF h cd16
    refine We (Xt (Xt (Xb ?_)))
    obtain rfl := si h
    replace g12 := nextR g12
    subst g12
    have h := (elimR ho12)
    obtain rfl := si h
    exact pn_meetG ((), ()) rfl trivial (fun _ h => h.to trivial trivial)
  rintro ⟨s8, _⟩ e8
  dsimp only at e8 ⊢
  subst e8
  have h := (elimL ho8)
  refine Wq (Wr (D rfl (ag rfl) (Wn (Pt (Wt ?_)))))
  obtain rfl := si h
  refine pn_ret (vs := [_]) rfl ⟨rfl, trivial⟩ ⟨rfl, rfl, rfl⟩ (fun _ h => h.to trivial trivial)
def Q_inuring_Depends (r : Bool) : Value → List Ent → List Fact → Prop := fun v θ κ => v = .bool r ∧ θ = [] ∧ κ = []
theorem plains_inuring_Depends {r : Bool} : ∀ v θ κ, Q_inuring_Depends r v θ κ → Plains θ := by
 rintro _ _ _ ⟨rfl, rfl, rfl⟩
 exact trivial
set_option maxHeartbeats 4000000 in
set_option maxRecDepth 100000 in
theorem W_inuring_Depends (a0 : (List GTreaty)) (a1 : Int) (a2 : Int) (A0 : Option Addr) (n0 : Nat) (c0 : Nat) (r : Bool) (h : inuring_Depends a0 a1 a2 = some r) : Spec Try.prog 14 [.slice A0 n0 c0, .int .i64 a1, .int .i64 a2] [] [fV (lSlice lGTreaty) (.slice A0 n0 c0) a0] (Q_inuring_Depends r) := by
 unfold inuring_Depends at h
 refine spec_of (σ := [(0, _), (1, _), (2, _)]) Try.func14 rfl rfl rfl rfl ?_
 intro C
 refine wc_know (fun _ h => h.lenF m0) (fun e => ?_)
 subst e
 refine Wq (Wr (D rfl (ag rfl) (Wn (Pt (Wq (Wq (Wr (D rfl (mv rfl) (D rfl (det_lss rfl rfl) (D rfl (mv rfl) ?_))))))))))
 refine wl_way (decide (a1 < 0)) ((decide (a1 < 0)) || (decide ((a0.length : Int) ≤ a1))) 5 22 (fun hg => ?_) (fun hg => ?_) ?_
 ·have hg1_7 := hg
  refine Gf rfl rfl rfl hg1_7 (Gf rfl rfl rfl hg1_7 (Gf rfl rfl rfl hg1_7 (Gf rfl rfl rfl hg1_7 (D rfl (det_or_on (r := (decide ((a0.length : Int) ≤ a1))) rfl rfl rfl hg1_7) ?_))))
  exact wl_nil (pn_qnE (ext_cons rfl (Ex 5 rfl rfl)) (fun _ h => h))
 ·have hg1_7a := hg
  refine Gn rfl rfl hg1_7a (D rfl (mv rfl) (Gn rfl rfl hg1_7a (D rfl (mv rfl) (Gn rfl rfl hg1_7a (D rfl (det_len rfl un23) (Gn rfl rfl hg1_7a (D rfl (det_geq rfl rfl) (D rfl (det_or_off rfl rfl rfl hg1_7a) ?_))))))))
  exact wl_nil (pn_qnE (ext_cons rfl (Ex 5 rfl rfl)) (fun _ h => h))
 refine D rfl (mv rfl) ?_
 refine wl_way ((decide (a1 < 0)) || (decide ((a0.length : Int) ≤ a1))) (((decide (a1 < 0)) || (decide ((a0.length : Int) ≤ a1))) || (decide (a2 < 0))) 3 26 (fun hg => ?_) (fun hg => ?_) ?_
 ·have hg1_11 := hg
  refine Gf rfl rfl rfl hg1_11 (Gf rfl rfl rfl hg1_11 (D rfl (det_or_on (r := (decide (a2 < 0))) rfl rfl rfl hg1_11) ?_))
  exact wl_nil (pn_qnE (ext_cons rfl (Ex 3 rfl rfl)) (fun _ h => h))
 ·have hg1_11a := hg
  refine Gn rfl rfl hg1_11a (D rfl (mv rfl) (Gn rfl rfl hg1_11a (D rfl (det_lss rfl rfl) (D rfl (det_or_off rfl rfl rfl hg1_11a) ?_))))
  exact wl_nil (pn_qnE (ext_cons rfl (Ex 3 rfl rfl)) (fun _ h => h))
 refine D rfl (mv rfl) ?_
 refine wl_way (((decide (a1 < 0)) || (decide ((a0.length : Int) ≤ a1))) || (decide (a2 < 0))) ((((decide (a1 < 0)) || (decide ((a0.length : Int) ≤ a1))) || (decide (a2 < 0))) || (decide ((a0.length : Int) ≤ a2))) 5 32 (fun hg => ?_) (fun hg => ?_) ?_
 ·have hg1_17 := hg
  refine Gf rfl rfl rfl hg1_17 (Gf rfl rfl rfl hg1_17 (Gf rfl rfl rfl hg1_17 (Gf rfl rfl rfl hg1_17 (D rfl (det_or_on (r := (decide ((a0.length : Int) ≤ a2))) rfl rfl rfl hg1_17) ?_))))
  exact wl_nil (pn_qnE (ext_cons rfl (Ex 5 rfl rfl)) (fun _ h => h))
 ·have hg1_17a := hg
  refine Gn rfl rfl hg1_17a (D rfl (mv rfl) (Gn rfl rfl hg1_17a (D rfl (mv rfl) (Gn rfl rfl hg1_17a (D rfl (det_len rfl un23) (Gn rfl rfl hg1_17a (D rfl (det_geq rfl rfl) (D rfl (det_or_off rfl rfl rfl hg1_17a) ?_))))))))
  exact wl_nil (pn_qnE (ext_cons rfl (Ex 5 rfl rfl)) (fun _ h => h))
 refine Wn (Pt ?_)
 refine wc_cond rfl (fun cd5 => ?_) (fun cd5 => ?_)
 ·have h := ifT h cd5
  refine Wq (Wr (D rfl (ag rfl) (Wn (Pt (Wt (Rt ?_))))))
  obtain rfl := si h
  refine pn_ret (vs := [_]) rfl ⟨rfl, trivial⟩ ⟨rfl, rfl, rfl⟩ (fun _ h => h.to trivial trivial)
 ·have h := ifF h cd5
  refine Wk (Pt (Wq (Wr (Ac rfl (act_makeMapS encKI (lInt .i64)) ?_))))
  rintro _ _ _ ⟨b3_0, rfl, rfl, rfl⟩
  refine D rfl (ag rfl) (Wn (Pt ?_))
  obtain ⟨q10, h, ho10⟩ := bs h
  refine wc_meetG (G := (List (Int × (List Int))) × Unit) (fun (s10, _) => s10 = q10) (fun (_, _) => [(0, .slice A0 a0.length c0), (1, .int .i64 a1), (2, .int .i64 a2), (7, .map (some b3_0))]) (fun (s10, _) => [eMS encKI (lInt .i64) b3_0 s10]) (fun (_, _) => [fV (lSlice lGTreaty) (.slice A0 a0.length c0) a0]) ?_ ?_
  ·refine Wq (Wr (D rfl (mv rfl) (D rfl (det_len rfl un23) (D rfl (mv rfl) (Wn (Pt (Wb ?_)))))))
   obtain ⟨k14, hk14⟩ := loopV_some.1 h
   refine wc_loop (G := Nat × ((List (Int × (List Int))) × Int) × Unit) (fun g => IterN (inuring_Depends_l14 a0) g.1 g.2.1 q10) (fun g => g.1) (fun (_, s14, _) => [(0, .slice A0 a0.length c0), (1, .int .i64 a1), (2, .int .i64 a2), (7, .map (some b3_0)), (34, .slice A0 a0.length c0), (35, .int .i64 (a0.length : Int)), (36, .int .i64 s14.2)]) (fun (_, s14, _) => [eMS encKI (lInt .i64) b3_0 s14.1]) (fun (_, _, _) => [fV (lSlice lGTreaty) (.slice A0 a0.length c0) a0]) (k14, ([], 0), ()) hk14 (Sb rfl) (fun _ h => h.to ⟨_, r0, trivial⟩ ⟨m0, trivial⟩) ?_
   rintro ⟨k14, s14, _⟩ hI
   obtain ⟨k14, rfl, q14, h, g14⟩ := IterN.pos hI
   dsimp only at h ⊢
   unfold inuring_Depends_l14 at h
   refine Wq (Wr (D rfl (det_lss rfl rfl) (Wn (Pt (Wq ?_)))))
   refine wc_cond rfl (fun cd18 => ?_) (fun cd18 => ?_)
   ·have h := ifT h cd18
    refine Wk (Pt (Wq (Wb (Wq (Wr (D rfl (mv rfl) ?_))))))
    obtain ⟨k6_1, h⟩ := chk_some h
    refine wl_ex (G := Option Addr × Nat × Option Addr × Nat × Option Addr × Nat × Option Addr × Nat × Option Addr × Nat) _ _ (fun _ => True) (fun _ h => openGTreaty h m0 k6_1) ?_
    rintro ⟨A6_1, c6_1, A6_1a, c6_1a, A6_1b, c6_1b, A6_1c, c6_1c, A6_1d, c6_1d⟩ -
    dsimp only
    refine D rfl (det_indexP rfl rfl (ms (ms (ms (ms (ms (ms m0)))))) k6_1 m0 un23 sz41) (D rfl (det_loadP (off := 0) rfl m0 (by rfl) (by rfl) (loaded_n (cells := [_, _, _, _, _, _, _, _, _, _, _, _, _, _, _, _, _, _, _, _, _]) ag41 sz41)) (Ac rfl (act_alloc (cs := [_, _, _, _, _, _, _, _, _, _, _, _, _, _, _, _, _, _, _, _, _]) zr41 rfl) ?_))
    rintro _ _ _ ⟨b6_3, rfl, rfl, rfl⟩
    refine D rfl (ag rfl) (Az rfl (act_store (cells := [_, _, _, _, _, _, _, _, _, _, _, _, _, _, _, _, _, _, _, _, _]) (cs' := [_, _, _, _, _, _, _, _, _, _, _, _, _, _, _, _, _, _, _, _, _]) rfl rfl rfl s0 (by rfl) (of_decide_eq_true rfl) sz41 (On1 rfl)) ?_)
    rintro _ _ _ ⟨rfl, rfl⟩
    refine Wn (Pt ?_)
    refine wc_st (fun _ h => h.zeroS (lInt .i64) 3 none) ?_
    obtain ⟨k7_p1, h⟩ := chk_some h
    obtain ⟨k7_p2, h⟩ := chk_some h
    refine dx_regionZ (Z := St C [_, _] [_, _, _, _, _, _, _]) 10 [[], [], [1], [], [], [4], [3, 4, 5], [], [7], [3, 4, 5, 6, 7, 8], [0, 1, 2, 3, 4, 5, 6, 7, 8, 9]] mixed (ord := (.det 0 (.det 1 (.det 2 (.det 3 (.det 4 (.det 5 (.det 6 (.det 7 (.alt 8 (.alt 9 .done .dead) .dead)))))))))) (by kernel_rfl) (fun _ h => h.to ⟨_, (rs r0), ⟨_, (rs r0), trivial⟩⟩ ⟨m0, ⟨(ms m0), ⟨(ms (ms m0)), ⟨(ms (ms (ms m0))), ⟨(ms (ms (ms (ms m0)))), ⟨(ms (ms (ms (ms (ms m0))))), ⟨(ms (ms (ms (ms (ms (ms m0)))))), trivial⟩⟩⟩⟩⟩⟩⟩) ?_
    refine Hd rfl rfl rfl (mv rfl) (Hd rfl rfl rfl (fd rfl fd41_0 rfl) (Hd rfl rfl rfl (ld rfl m0 (by rfl) na3 us3) (Hd rfl rfl rfl (mv rfl) (Hd rfl rfl rfl (fd rfl fd41_0 rfl) (Hd rfl rfl rfl (ld rfl m0 (by rfl) na3 us3) (Hd rfl rfl rfl (det_lookupS0 (L := (lInt .i64)) (k := (ix a0 s14.2).ID) rfl rfl rfl (ms m0) (keyOk_int un3) um62 zr22 (by simpa using k7_p1)) (Hd rfl rfl rfl (mv rfl) ?_)))))))
    refine hx_mut rfl rfl rfl (act_litS (lInt .i64) (vs := [_]) (cs := [_]) [s14.2] un22 in3 rfl rfl rfl rfl rfl ⟨rfl, trivial⟩ (by rfl) rfl (litR_flat rfl)) rfl (by rintro _ _ _ ⟨A7_8, rfl, rfl, rfl⟩ w hs; exact hs.to ⟨_, (rs (rs r0)), ⟨_, (rs (rs r0)), trivial⟩⟩ ⟨m0, ⟨(ms m0), ⟨(ms (ms m0)), ⟨(ms (ms (ms m0))), ⟨(ms (ms (ms (ms m0)))), ⟨(ms (ms (ms (ms (ms m0))))), ⟨(ms (ms (ms (ms (ms (ms m0)))))), trivial⟩⟩⟩⟩⟩⟩⟩) ?_
    rintro _ _ _ ⟨A7_8, rfl, rfl, rfl⟩
    refine hx_mut rfl rfl rfl (act_appendS0 (L := (lInt .i64)) rfl rfl (ss s0) (src_O m0) un22 in3 rfl rfl rfl k7_p2) rfl (by rintro _ _ _ ⟨A7_9, c7_9, rfl, rfl, rfl⟩ w hs; exact hs.to ⟨_, (rs (rs r0)), ⟨_, (rs (rs r0)), trivial⟩⟩ ⟨m0, ⟨(ms m0), ⟨(ms (ms m0)), ⟨(ms (ms (ms m0))), ⟨(ms (ms (ms (ms m0)))), ⟨(ms (ms (ms (ms (ms m0))))), ⟨(ms (ms (ms (ms (ms (ms m0)))))), trivial⟩⟩⟩⟩⟩⟩⟩) ?_
    rintro _ _ _ ⟨A7_9, c7_9, rfl, rfl, rfl⟩
    refine hx_end ?_
    refine wl_st (fun _ h => h.shutS (rs r0)) ?_
    refine Az rfl (act_mapUpdateS (L := (lInt .i64)) (k := (ix a0 s14.2).ID) rfl rfl rfl rfl rfl m0 (ss (ss s0)) (keyOk_int un3) um62) ?_
    rintro _ _ _ ⟨rfl, rfl⟩
    refine Wn (Pb (Pt (Wr (D rfl (det_add rfl rfl) (D rfl (mv rfl) (Wn ?_))))))
    obtain rfl := si h
    exact pn_some (k14, ((mset s14.1 (ix a0 s14.2).ID [s14.2]), (w64 (s14.2 + 1))), ()) ⟨nextL g14, Nat.lt_succ_self _⟩ (Sb rfl) (fun _ h => h.to ⟨_, (rs (rs r0)), trivial⟩ ⟨(ms (ms (ms (ms (ms (ms (ms m0))))))), trivial⟩)
   ·have h := ifF h cd18
    refine We (Xt (Xt (Xb ?_)))
    obtain rfl := si h
    replace g14 := nextR g14
    subst g14
    exact pn_meetG (s14.1, ()) rfl (Sb rfl) (fun _ h => h.to ⟨_, r0, trivial⟩ ⟨m0, trivial⟩)
  rintro ⟨s10, _⟩ e10
  dsimp only at e10 ⊢
  subst e10
  have h := ho10
  refine Wq (Wr (D rfl (mv rfl) (Ac rfl (act_litS (lInt .i64) (vs := [_]) (cs := [_]) [a1] un22 in3 rfl rfl rfl rfl rfl ⟨rfl, trivial⟩ (by rfl) rfl (litR_flat rfl)) ?_)))
  rintro _ _ _ ⟨A9_1, rfl, rfl, rfl⟩
  refine D rfl (ag rfl) (Wn (Pt ?_))
  obtain ⟨q28, h, ho28⟩ := bs h
  refine wc_meetG (G := Unit × Unit) (fun (s28, _) => (.inl s28) = q28) (fun (_, _) => []) (fun (_, _) => []) (fun (_, _) => []) ?_ ?_
  ·refine Wb ?_
   obtain ⟨o30, h, ho30⟩ := bs h
   obtain ⟨k30, hk30⟩ := loopV_some.1 h
   refine wc_loop (G := Nat × ((List (Int × (List Int))) × (List Int)) × Option Addr × Nat × Nat × Unit) (fun g => IterN (inuring_Depends_l30 a0 a2) g.1 g.2.1 o30) (fun g => g.1) (fun (_, _, A30_0, n30_0, c30_0, _) => [(0, .slice A0 a0.length c0), (2, .int .i64 a2), (7, .map (some b3_0)), (10, .slice A30_0 n30_0 c30_0)]) (fun (_, s30, A30_0, n30_0, c30_0, _) => [eMS encKI (lInt .i64) b3_0 s30.1, eS (lInt .i64) 3 A30_0 n30_0 c30_0 s30.2]) (fun (_, _, _, _, _, _) => [fV (lSlice lGTreaty) (.slice A0 a0.length c0) a0]) (k30, (s10, [a1]), A9_1, 1, 1, ()) hk30 (Sb rfl) (fun _ h => h.to ⟨_, (rs r0), ⟨_, r0, trivial⟩⟩ ⟨m0, trivial⟩) ?_
   rintro ⟨k30, s30, A30_0, n30_0, c30_0, _⟩ hI
   obtain ⟨k30, rfl, q30, h, g30⟩ := IterN.pos hI
   dsimp only at h ⊢
   unfold inuring_Depends_l30 at h
   refine wc_know (fun _ h => h.lenO (ms m0)) (fun e => ?_)
   subst e
   refine Wq (Wq (Wr (D rfl (mv rfl) (D rfl (det_len rfl un22) (D rfl (det_gtr rfl rfl) (Wn (Pt ?_)))))))
   refine wc_cond rfl (fun cd34 => ?_) (fun cd34 => ?_)
   ·have h := ifT h cd34
    refine Wk (Pt ?_)
    obtain ⟨q36, h, ho36⟩ := bs h
    refine wc_meetN (G := ((List (Int × (List Int))) × (List Int)) × Option Addr × Nat × Nat × Unit) (fun (s36, _, _, _, _) => (.inl s36) = q36) (fun (_, A36_0, n36_0, c36_0, _) => [(0, .slice A0 a0.length c0), (2, .int .i64 a2), (7, .map (some b3_0)), (10, .slice A36_0 n36_0 c36_0)]) (fun (s36, A36_0, n36_0, c36_0, _) => [eMS encKI (lInt .i64) b3_0 s36.1, eS (lInt .i64) 3 A36_0 n36_0 c36_0 s36.2]) (fun (_, _, _, _, _) => [fV (lSlice lGTreaty) (.slice A0 a0.length c0) a0]) ?_ ?_
    ·refine Wb ?_
     refine Wq (Wr (D rfl (mv rfl) (D rfl (det_len rfl un22) (D rfl (det_sub rfl rfl) (D rfl (ag rfl) (Wn (Pt (Wq (Wr (D rfl (mv rfl) (D rfl (mv rfl) ?_)))))))))))
     obtain ⟨k12_2, h⟩ := chk_some h
     refine D rfl (det_indexO rfl rfl (ms m0) k12_2 un22 sz3) (D rfl (det_loadO (off := 0) rfl (ms m0) k12_2 (by rfl) (by rfl) (loaded_1 na3 us3)) (D rfl (ag rfl) (Wn (Pt (Wq (Wr (D rfl (mv rfl) (D rfl (mv rfl) ?_))))))))
     obtain ⟨k13_2, h⟩ := chk_some h
     obtain ⟨k13_2a, h⟩ := chk_some h
     refine Ac rfl (act_sliceOH rfl rfl (rs r0) un22 sz3 k13_2 k13_2a) ?_
     rintro _ _ _ ⟨rfl, rfl, rfl⟩
     refine D rfl (ag rfl) (Wn (Pt (Wq (Wr (D rfl (mv rfl) (D rfl (mv rfl) ?_))))))
     obtain ⟨k14_2, h⟩ := chk_some h
     refine wl_ex (G := Option Addr × Nat × Option Addr × Nat × Option Addr × Nat × Option Addr × Nat × Option Addr × Nat) _ _ (fun _ => True) (fun _ h => openGTreaty h m0 k14_2) ?_
     rintro ⟨A14_2, c14_2, A14_2a, c14_2a, A14_2b, c14_2b, A14_2c, c14_2c, A14_2d, c14_2d⟩ -
     dsimp only
     refine D rfl (det_indexP rfl rfl (ms (ms (ms (ms (ms (ms m0)))))) k14_2 m0 un23 sz41) (D rfl (det_fieldP rfl m0 fd41_18 rfl) (D rfl (det_loadP (off := 19) rfl m0 (by rfl) (by rfl) (loaded_1 na22 us22)) (D rfl (det_len rfl un22) (D rfl (mv rfl) (Wn (Pt (Wb ?_)))))))
     obtain ⟨o46, h, ho46⟩ := bs h
     obtain ⟨k46, hk46⟩ := loopV_some.1 h
     refine wc_loop (G := Nat × ((List (Int × (List Int))) × (List Int) × Int) × Option Addr × Nat × Nat × Unit) (fun g => IterN (inuring_Depends_l46 a0 a2 s30) g.1 g.2.1 o46) (fun g => g.1) (fun (_, s46, A46_0, n46_0, c46_0, _) => [(0, .slice A0 a0.length c0), (2, .int .i64 a2), (7, .map (some b3_0)), (10, .slice A46_0 n46_0 c46_0), (71, .slice A14_2c (ix a0 (ix s30.2 (w64 ((s30.2.length : Int) - 1)))).Inures.length c14_2c), (72, .int .i64 ((ix a0 (ix s30.2 (w64 ((s30.2.length : Int) - 1)))).Inures.length : Int)), (73, .int .i64 s46.2.2)]) (fun (_, s46, A46_0, n46_0, c46_0, _) => [eMS encKI (lInt .i64) b3_0 s46.1, eS (lInt .i64) 3 A46_0 n46_0 c46_0 s46.2.1]) (fun (_, _, _, _, _, _) => [fV (lSlice lGTreaty) (.slice A0 a0.length c0) a0, fV (lSlice (lInt .i64)) (.slice A14_2c (ix a0 (ix s30.2 (w64 ((s30.2.length : Int) - 1)))).Inures.length c14_2c) (ix a0 (ix s30.2 (w64 ((s30.2.length : Int) - 1)))).Inures]) (k46, (s30.1, (s30.2.take (w64 ((s30.2.length : Int) - 1)).toNat), 0), A30_0, (s30.2.take (w64 ((s30.2.length : Int) - 1)).toNat).length, c30_0, ()) hk46 (Sb rfl) (fun _ h => h.to ⟨_, (rs r0), ⟨_, r0, trivial⟩⟩ ⟨(ms (ms (ms (ms (ms (ms m0)))))), ⟨(ms (ms (ms (ms m0)))), trivial⟩⟩) ?_
     rintro ⟨k46, s46, A46_0, n46_0, c46_0, _⟩ hI
     obtain ⟨k46, rfl, q46, h, g46⟩ := IterN.pos hI
     dsimp only at h ⊢
     unfold inuring_Depends_l46 at h
     refine wc_know (fun _ h => h.lenO (ms m0)) (fun e => ?_)
     subst e
     refine Wq (Wr (D rfl (det_lss rfl rfl) (Wn (Pt (Wq ?_)))))
     refine wc_cond rfl (fun cd50 => ?_) (fun cd50 => ?_)
     ·have h := ifT h cd50
      refine Wk (Pt (Wq (Wb (Wq (Wr ?_)))))
      obtain ⟨k16_0, h⟩ := chk_some h
      refine wl_st (fun _ h => h.openF (ms m0) k16_0) ?_
      refine D rfl (det_indexP rfl rfl (ms (ms m0)) k16_0 m0 un22 sz3) (D rfl (det_loadP (off := 0) rfl m0 (by rfl) (by rfl) (loaded_1 na3 us3)) (D rfl (ag rfl) (Wn (Pt (Wq (Wq (Wr (D rfl (mv rfl) (D rfl (mv rfl) (D rfl (mv rfl) ?_))))))))))
      obtain ⟨k17_3, h⟩ := chk_some h
      refine wl_ex (G := Option Addr × Nat × Option Addr × Nat × Option Addr × Nat × Option Addr × Nat × Option Addr × Nat) _ _ (fun _ => True) (fun _ h => openGTreaty h (ms m0) k17_3) ?_
      rintro ⟨A17_3, c17_3, A17_3a, c17_3a, A17_3b, c17_3b, A17_3c, c17_3c, A17_3d, c17_3d⟩ -
      dsimp only
      refine D rfl (det_indexP rfl rfl (ms (ms (ms (ms (ms (ms (ms m0))))))) k17_3 m0 un23 sz41) (D rfl (det_fieldP rfl m0 fd41_0 rfl) (D rfl (det_loadP (off := 0) rfl m0 (by rfl) (by rfl) (loaded_1 na3 us3)) (D rfl (det_eql rfl rfl) (Wn (Pt ?_)))))
      refine wc_cond rfl (fun cd59 => ?_) (fun cd59 => ?_)
      ·have h := ifT h cd59
       refine Wq (Wr (D rfl (ag rfl) (Wn ?_)))
       refine Pt (Wt (Rt (Rb (Rt (Rt (Rb (Rb (Rt (Rt (Rb (Rt ?_)))))))))))
       obtain rfl := si h
       replace g46 := nextR g46
       subst g46
       have h := (elimL ho46)
       obtain rfl := si h
       have h := (elimR ho36)
       obtain rfl := si h
       replace g30 := nextR g30
       subst g30
       have h := (elimL ho30)
       obtain rfl := si h
       have h := (elimR ho28)
       obtain rfl := si h
       refine pn_ret (vs := [_]) rfl ⟨rfl, trivial⟩ ⟨rfl, rfl, rfl⟩ (fun _ h => h.to trivial trivial)
      ·have h := ifF h cd59
       refine Wk (Pt (Wq (Wr (D rfl (mv rfl) (D rfl (mv rfl) (D rfl (mv rfl) (Ac rfl (act_lookupS (L := (lInt .i64)) (k := (ix (ix a0 (ix s30.2 (w64 ((s30.2.length : Int) - 1)))).Inures s46.2.2)) rfl rfl rfl m0 (keyOk_int un3) um62 zr22) ?_)))))))
       rintro _ _ _ ⟨A19_3, n19_3, c19_3, rfl, rfl, rfl⟩
       dsimp only [na, ca]
       refine wl_know (fun _ h => h.lenF m0) (fun e => ?_)
       subst e
       obtain ⟨k19_4, h⟩ := chk_some h
       refine Ac rfl (act_appendS (L := (lInt .i64)) rfl rfl (ss s0) (src_F m0) un22 in3 rfl rfl rfl k19_4) ?_
       rintro _ _ _ ⟨A19_4, c19_4, rfl, rfl, rfl⟩
       refine D rfl (ag rfl) (Wn (Pt (Wr (D rfl (mv rfl) (D rfl (mv rfl) (Az rfl (act_deleteS (L := (lInt .i64)) (k := (ix (ix a0 (ix s30.2 (w64 ((s30.2.length : Int) - 1)))).Inures s46.2.2)) rfl rfl rfl s0 (keyOk_int un3) um62) ?_))))))
       rintro _ _ _ ⟨rfl, rfl, rfl⟩
       refine Wn (Pb (Pt (Wr (D rfl (det_add rfl rfl) (D rfl (mv rfl) (Wn ?_))))))
       obtain rfl := si h
       exact pn_some (k46, ((mdel s46.1 (ix (ix a0 (ix s30.2 (w64 ((s30.2.length : Int) - 1)))).Inures s46.2.2)), (s46.2.1 ++ (mget s46.1 (ix (ix a0 (ix s30.2 (w64 ((s30.2.length : Int) - 1)))).Inures s46.2.2) [])), (w64 (s46.2.2 + 1))), A19_4, (s46.2.1 ++ (mget s46.1 (ix (ix a0 (ix s30.2 (w64 ((s30.2.length : Int) - 1)))).Inures s46.2.2) [])).length, c19_4, ()) ⟨nextL g46, Nat.lt_succ_self _⟩ (Sb rfl) (fun _ h => h.to ⟨_, r0, ⟨_, r0, trivial⟩⟩ ⟨(ms (ms (ms (ms (ms (ms (ms (ms m0)))))))), ⟨(ms (ms (ms (ms (ms (ms (ms (ms (ms m0))))))))), trivial⟩⟩)
     ·have h := ifF h cd50
      refine We (Xt (Xt (Xb (Pb ?_))))
      obtain rfl := si h
      replace g46 := nextR g46
      subst g46
      have h := (elimR ho46)
      obtain rfl := si h
      exact pn_meetG ((s46.1, s46.2.1), A46_0, s46.2.1.length, c46_0, ()) rfl (Sb rfl) (fun _ h => h.to ⟨_, r0, ⟨_, r0, trivial⟩⟩ ⟨m0, trivial⟩)
    rintro ⟨s36, A36_0, n36_0, c36_0, _⟩ e36
    dsimp only at e36 ⊢
    subst e36
    have h := (elimL ho36)
    refine pn_know (fun _ h => h.lenO (ms m0)) (fun e => ?_)
    subst e
    obtain rfl := si h
    exact pn_some (k30, (s36.1, s36.2), A36_0, s36.2.length, c36_0, ()) ⟨nextL g30, Nat.lt_succ_self _⟩ (Sb rfl) (fun _ h => h.to ⟨_, r0, ⟨_, r0, trivial⟩⟩ ⟨m0, trivial⟩)
   ·have h := ifF h cd34
    refine We (Xt (Xt (Xb ?_)))
    obtain rfl := si h
    replace g30 := nextR g30
    subst g30
    have h := (elimR ho30)
    obtain rfl := si h
    exact pn_meetG ((), ()) rfl trivial (fun _ h => h.to trivial trivial)
  rintro ⟨s28, _⟩ e28
  dsimp only at e28 ⊢
  subst e28
  have h := (elimL ho28)
  refine Wq (Wr (D rfl (ag rfl) (Wn (Pt (Wt ?_)))))
  obtain rfl := si h
  refine pn_ret (vs := [_]) rfl ⟨rfl, trivial⟩ ⟨rfl, rfl, rfl⟩ (fun _ h => h.to trivial trivial)
def Q_treatylaw29_awake (r : Bool) : Value → List Ent → List Fact → Prop := fun v θ κ => v = .bool r ∧ θ = [] ∧ κ = []
theorem plains_treatylaw29_awake {r : Bool} : ∀ v θ κ, Q_treatylaw29_awake r v θ κ → Plains θ := by
 rintro _ _ _ ⟨rfl, rfl, rfl⟩
 exact trivial
set_option maxHeartbeats 4000000 in
set_option maxRecDepth 100000 in
theorem W_treatylaw29_awake (r : Bool) (h : treatylaw29_awake = some r) : Spec Try.prog 13 [] [] [] (Q_treatylaw29_awake r) := by
 unfold treatylaw29_awake at h
 refine spec_of (σ := []) Try.func13 rfl rfl rfl rfl ?_
 intro C
 refine Wq (Wr (D rfl (ag rfl) (Wn (Pt (Wq (Wr ?_))))))
 obtain ⟨r1_0, hr1_0, h⟩ := bs h
 refine Ac rfl (act_callS (cap := []) (W_treatylaw29_three 200 r1_0 hr1_0) rfl rfl rfl bd35 rfl trivial) ?_
 rintro _ _ _ ⟨_, _, ⟨y1_0A0, y1_0n0, y1_0c0, rfl, rfl, rfl⟩, rfl, rfl⟩
 dsimp only [na, ca]
 refine wl_know (fun _ h => h.lenO m0) (fun e => ?_)
 subst e
 obtain ⟨r1_1, hr1_1, h⟩ := bs h
 refine Ac rfl (act_callL (cap := []) [eS lGTreaty 41 y1_0A0 r1_0.length y1_0c0 r1_0] (W_inuring_Order r1_0 y1_0A0 r1_0.length y1_0c0 r1_1 hr1_1) plains_inuring_Order rfl rfl rfl bd10 rfl ⟨m0, trivial⟩ ⟨.inr ⟨_, m0, lent_eS⟩, trivial⟩) ?_
 rintro _ _ _ ⟨_, _, ⟨y1_1A0, y1_1n0, y1_1c0, rfl, rfl, rfl⟩, rfl, rfl⟩
 dsimp only [na, ca]
 refine wl_know (fun _ h => h.lenO m0) (fun e => ?_)
 subst e
 refine D rfl (mv rfl) (D rfl (det_extract rfl rfl) (D rfl (det_extract rfl rfl) (D rfl (ag rfl) (D rfl (ag rfl) (Wn (Pt (Wq (Wr (D rfl (mv rfl) (D rfl (det_eql rfl rfl) (D rfl (mv rfl) ?_)))))))))))
 obtain ⟨q2_6, hq2_6, h⟩ := bs h
 have ho2_6 := h
 refine wl_way (decide (r1_1.2 = 0)) q2_6 4 14 (fun hg => ?_) (fun hg => ?_) ?_
 ·have hg2_6 := hg
  have h := ifT hq2_6 hg
  refine Gn rfl rfl hg2_6 (D rfl (mv rfl) (Gn rfl rfl hg2_6 (Ac rfl (act_litS (lInt .i64) (vs := [_, _, _]) (cs := [_, _, _]) [0, 1, 2] un22 in3 rfl rfl rfl rfl rfl ⟨rfl, rfl, rfl, trivial⟩ (by rfl) rfl (litR_flat rfl)) ?_)))
  rintro _ _ _ ⟨A2_4, rfl, rfl, rfl⟩
  refine Gn rfl rfl hg2_6 ?_
  obtain ⟨r2_5, hr2_5, h⟩ := bs h
  refine Ac rfl (act_callL (cap := []) [eS (lInt .i64) 3 y1_1A0 r1_1.1.length y1_1c0 r1_1.1, eS (lInt .i64) 3 A2_4 3 3 [0, 1, 2]] (W_treatyref01_SameInts r1_1.1 [0, 1, 2] y1_1A0 r1_1.1.length y1_1c0 A2_4 3 3 r2_5 hr2_5) plains_treatyref01_SameInts rfl rfl rfl bd12 rfl ⟨(ms m0), ⟨m0, trivial⟩⟩ ⟨.inr ⟨_, m0, lent_eS⟩, ⟨.inr ⟨_, (ms m0), lent_eS⟩, trivial⟩⟩) ?_
  rintro _ _ _ ⟨_, _, ⟨rfl, rfl, rfl⟩, rfl, rfl⟩
  dsimp only [na, ca]
  obtain rfl := si h
  refine D rfl (det_pick_on rfl hg2_6 rfl rfl) ?_
  exact wl_nil (pn_qnE (ext_cons rfl (Ex 4 rfl rfl)) (fun _ h => h.to ⟨_, (rs r0), ⟨_, (rs r0), trivial⟩⟩ trivial))
 ·have hg2_6a := hg
  have h := ifF hq2_6 hg
  refine Gf rfl rfl rfl hg2_6a (Gf rfl rfl rfl hg2_6a (Gf rfl rfl rfl hg2_6a ?_))
  obtain rfl := si h
  refine D rfl (det_pick_off rfl hg2_6a rfl rfl) ?_
  exact wl_nil (pn_qnE (ext_cons rfl (Ex 4 rfl rfl)) (fun _ h => h))
 have h := ho2_6
 refine D rfl (mv rfl) ?_
 obtain ⟨q2_11, hq2_11, h⟩ := bs h
 have ho2_11 := h
 refine wl_way q2_6 q2_11 4 19 (fun hg => ?_) (fun hg => ?_) ?_
 ·have hg2_11 := hg
  have h := ifT hq2_11 hg
  refine Gn rfl rfl hg2_11 ?_
  obtain ⟨r2_8, hr2_8, h⟩ := bs h
  refine Ac rfl (act_callS (cap := []) (W_treatylaw29_three 150 r2_8 hr2_8) rfl rfl rfl bd35 rfl trivial) ?_
  rintro _ _ _ ⟨_, _, ⟨y2_8A0, y2_8n0, y2_8c0, rfl, rfl, rfl⟩, rfl, rfl⟩
  dsimp only [na, ca]
  refine wl_know (fun _ h => h.lenO m0) (fun e => ?_)
  subst e
  refine Gn rfl rfl hg2_11 ?_
  obtain ⟨r2_9, hr2_9, h⟩ := bs h
  refine Ac rfl (act_callL (cap := []) [eS lGTreaty 41 y2_8A0 r2_8.length y2_8c0 r2_8] (W_inuring_Validate r2_8 y2_8A0 r2_8.length y2_8c0 r2_9 hr2_9) plains_inuring_Validate rfl rfl rfl bd15 rfl ⟨m0, trivial⟩ ⟨.inr ⟨_, m0, lent_eS⟩, trivial⟩) ?_
  rintro _ _ _ ⟨_, _, ⟨rfl, rfl, rfl⟩, rfl, rfl⟩
  dsimp only [na, ca]
  refine Gn rfl rfl hg2_11 (D rfl (det_eql rfl rfl) ?_)
  obtain rfl := si h
  refine D rfl (det_pick_on rfl hg2_11 rfl rfl) ?_
  exact wl_nil (pn_qnE (ext_cons rfl (Ex 4 rfl rfl)) (fun _ h => h.to ⟨_, (rs r0), ⟨_, (rs r0), trivial⟩⟩ trivial))
 ·have hg2_11a := hg
  have h := ifF hq2_11 hg
  refine Gf rfl rfl rfl hg2_11a (Gf rfl rfl rfl hg2_11a (Gf rfl rfl rfl hg2_11a ?_))
  obtain rfl := si h
  refine D rfl (det_pick_off rfl hg2_11a rfl rfl) ?_
  exact wl_nil (pn_qnE (ext_cons rfl (Ex 4 rfl rfl)) (fun _ h => h))
 have h := ho2_11
 refine D rfl (mv rfl) ?_
 obtain ⟨q2_15, hq2_15, h⟩ := bs h
 have ho2_15 := h
 refine wl_way q2_11 q2_15 3 23 (fun hg => ?_) (fun hg => ?_) ?_
 ·have hg2_15 := hg
  have h := ifT hq2_15 hg
  refine Gn rfl rfl hg2_15 ?_
  obtain ⟨r2_13, hr2_13, h⟩ := bs h
  refine Ac rfl (act_callS (cap := []) (W_treatylaw29_three 200 r2_13 hr2_13) rfl rfl rfl bd35 rfl trivial) ?_
  rintro _ _ _ ⟨_, _, ⟨y2_13A0, y2_13n0, y2_13c0, rfl, rfl, rfl⟩, rfl, rfl⟩
  dsimp only [na, ca]
  refine wl_know (fun _ h => h.lenO m0) (fun e => ?_)
  subst e
  refine Gn rfl rfl hg2_15 ?_
  obtain ⟨r2_14, hr2_14, h⟩ := bs h
  refine Ac rfl (act_callL (cap := []) [eS lGTreaty 41 y2_13A0 r2_13.length y2_13c0 r2_13] (W_inuring_Depends r2_13 2 0 y2_13A0 r2_13.length y2_13c0 r2_14 hr2_14) plains_inuring_Depends rfl rfl rfl bd14 rfl ⟨m0, trivial⟩ ⟨.inr ⟨_, m0, lent_eS⟩, trivial⟩) ?_
  rintro _ _ _ ⟨_, _, ⟨rfl, rfl, rfl⟩, rfl, rfl⟩
  dsimp only [na, ca]
  obtain rfl := si h
  refine D rfl (det_pick_on rfl hg2_15 rfl rfl) ?_
  exact wl_nil (pn_qnE (ext_cons rfl (Ex 3 rfl rfl)) (fun _ h => h.to ⟨_, (rs r0), ⟨_, (rs r0), trivial⟩⟩ trivial))
 ·have hg2_15a := hg
  have h := ifF hq2_15 hg
  refine Gf rfl rfl rfl hg2_15a (Gf rfl rfl rfl hg2_15a ?_)
  obtain rfl := si h
  refine D rfl (det_pick_off rfl hg2_15a rfl rfl) ?_
  exact wl_nil (pn_qnE (ext_cons rfl (Ex 3 rfl rfl)) (fun _ h => h))
 have h := ho2_15
 refine D rfl (ag rfl) (Wn (Pt (Wt ?_)))
 obtain rfl := si h
 refine pn_ret (vs := [_]) rfl ⟨rfl, trivial⟩ ⟨rfl, rfl, rfl⟩ (fun _ h => h.to trivial trivial)
def Q_treatylaw29_InuringSubject (r : Bool) : Value → List Ent → List Fact → Prop := fun v θ κ => v = .bool r ∧ θ = [] ∧ κ = []
theorem plains_treatylaw29_InuringSubject {r : Bool} : ∀ v θ κ, Q_treatylaw29_InuringSubject r v θ κ → Plains θ := by
 rintro _ _ _ ⟨rfl, rfl, rfl⟩
 exact trivial
set_option maxHeartbeats 4000000 in
set_option maxRecDepth 100000 in
theorem W_treatylaw29_InuringSubject (a0 : (List Int)) (a1 : Int) (a2 : Int) (a3 : (List Int)) (A0 : Option Addr) (n0 : Nat) (c0 : Nat) (A3 : Option Addr) (n3 : Nat) (c3 : Nat) (r : Bool) (h : treatylaw29_InuringSubject a0 a1 a2 a3 = some r) : Spec Try.prog 6 [.slice A0 n0 c0, .int .i64 a1, .int .i64 a2, .slice A3 n3 c3] [] [fV (lSlice (lInt .i64)) (.slice A0 n0 c0) a0, fV (lSlice (lInt .i64)) (.slice A3 n3 c3) a3] (Q_treatylaw29_InuringSubject r) := by
 unfold treatylaw29_InuringSubject at h
 refine spec_of (σ := [(0, _), (1, _), (2, _), (3, _)]) Try.func6 rfl rfl rfl rfl ?_
 intro C
 refine wc_know (fun _ h => h.lenF m0) (fun e => ?_)
 subst e
 refine wc_know (fun _ h => h.lenF (ms m0)) (fun e => ?_)
 subst e
 refine Wq (Wr (D rfl (ag rfl) (Wn (Pt (Wq (Wr (D rfl (mv rfl) ?_)))))))
 obtain ⟨r1_1, hr1_1, h⟩ := bs h
 refine Ac rfl (act_callS (cap := []) (W_treatymade2_New a0 A0 a0.length c0 r1_1 hr1_1) rfl rfl rfl bd8 rfl ⟨m0, trivial⟩) ?_
 rintro _ _ _ ⟨_, _, ⟨y1_1b0, y1_1A1, y1_1n1, y1_1c1, rfl, rfl, rfl⟩, rfl, rfl⟩
 dsimp only [na, ca]
 refine wl_know (fun _ h => h.lenF m0) (fun e => ?_)
 subst e
 obtain ⟨r1_2, hr1_2, h⟩ := bs h
 refine Ac rfl (act_callS (cap := []) (W_treatymade2_Treaties r1_1 8 y1_1b0 y1_1A1 r1_1.L.length y1_1c1 r1_2 hr1_2) rfl rfl rfl bd7 ⟨_, r0, rfl⟩ ⟨m0, trivial⟩) ?_
 rintro _ _ _ ⟨_, _, ⟨y1_2A0, y1_2n0, y1_2c0, y1_2A1, y1_2n1, y1_2c1, rfl, rfl, rfl⟩, rfl, rfl⟩
 dsimp only [na, ca]
 refine wl_know (fun _ h => h.lenO m0) (fun e => ?_)
 subst e
 refine wl_know (fun _ h => h.lenF m0) (fun e => ?_)
 subst e
 refine D rfl (ag rfl) (Wn (Pt (Wq (Wr (D rfl (mv rfl) ?_)))))
 obtain ⟨r2_1, hr2_1, h⟩ := bs h
 refine Ac rfl (act_callS (cap := []) (W_treatymade2_New a3 A3 a3.length c3 r2_1 hr2_1) rfl rfl rfl bd8 rfl ⟨(ms (ms (ms m0))), trivial⟩) ?_
 rintro _ _ _ ⟨_, _, ⟨y2_1b0, y2_1A1, y2_1n1, y2_1c1, rfl, rfl, rfl⟩, rfl, rfl⟩
 dsimp only [na, ca]
 refine wl_know (fun _ h => h.lenF m0) (fun e => ?_)
 subst e
 refine D rfl (ag rfl) (Wn (Pt (Wq (Wr (D rfl (mv rfl) (D rfl (mv rfl) (D rfl (det_len rfl un23) ?_)))))))
 obtain ⟨r3_3, hr3_3, h⟩ := bs h
 refine Ac rfl (act_callS (cap := []) (W_treatymade2_Amounts r2_1 (r1_2.1.length : Int) y2_1b0 y2_1A1 r2_1.L.length y2_1c1 r3_3 hr3_3) rfl rfl rfl bd18 ⟨_, r0, rfl⟩ ⟨m0, trivial⟩) ?_
 rintro _ _ _ ⟨_, _, ⟨y3_3A0, y3_3n0, y3_3c0, y3_3A1, y3_3n1, y3_3c1, rfl, rfl, rfl⟩, rfl, rfl⟩
 dsimp only [na, ca]
 refine wl_know (fun _ h => h.lenO m0) (fun e => ?_)
 subst e
 refine wl_know (fun _ h => h.lenF m0) (fun e => ?_)
 subst e
 refine D rfl (ag rfl) (Wn (Pt (Wq (Wr (D rfl (mv rfl) (D rfl (mv rfl) (D rfl (det_len rfl un23) ?_)))))))
 obtain ⟨r4_3, hr4_3, h⟩ := bs h
 refine Ac rfl (act_callS (cap := []) (W_treatymade_Deck_Next r3_3.2 (r1_2.1.length : Int) y2_1b0 y3_3A1 r3_3.2.L.length y3_3c1 r4_3 hr4_3) rfl rfl rfl bd19 ⟨_, (rs r0), rfl⟩ ⟨m0, trivial⟩) ?_
 rintro _ _ _ ⟨_, _, ⟨y4_3A0, y4_3n0, y4_3c0, rfl, rfl, rfl⟩, rfl, rfl⟩
 dsimp only [na, ca]
 refine wl_know (fun _ h => h.lenF m0) (fun e => ?_)
 subst e
 refine D rfl (ag rfl) (Wn (Pt (Wq (Wr (D rfl (mv rfl) ?_)))))
 obtain ⟨r5_1, hr5_1, h⟩ := bs h
 refine Ac rfl (act_callS (cap := []) (W_treatymade_Deck_Upto r4_3.2 1099511627776 y2_1b0 y4_3A0 r4_3.2.L.length y4_3c0 r5_1 hr5_1) rfl rfl rfl bd20 ⟨_, r0, rfl⟩ ⟨m0, trivial⟩) ?_
 rintro _ _ _ ⟨_, _, ⟨y5_1A0, y5_1n0, y5_1c0, rfl, rfl, rfl⟩, rfl, rfl⟩
 dsimp only [na, ca]
 refine wl_know (fun _ h => h.lenF m0) (fun e => ?_)
 subst e
 refine D rfl (ag rfl) (Wn (Pt (Wq (Wr (D rfl (mv rfl) (D rfl (mv rfl) (D rfl (mv rfl) (D rfl (mv rfl) ?_))))))))
 obtain ⟨r6_4, hr6_4, h⟩ := bs h
 refine Ac rfl (act_callL (cap := []) [eS lGTreaty 41 y1_2A0 r1_2.1.length y1_2c0 r1_2.1] (W_inuring_Subject r1_2.1 a1 a2 a3 y1_2A0 r1_2.1.length y1_2c0 A3 a3.length c3 r6_4 hr6_4) plains_inuring_Subject rfl rfl rfl bd21 rfl ⟨(ms (ms m0)), trivial⟩ ⟨.inr ⟨_, m0, lent_eS⟩, ⟨.inl (ms (ms (ms (ms (ms (ms (ms m0))))))), trivial⟩⟩) ?_
 rintro _ _ _ ⟨_, _, ⟨rfl, rfl, rfl⟩, rfl, rfl⟩
 dsimp only [na, ca]
 refine D rfl (mv rfl) (D rfl (mv rfl) (D rfl (mv rfl) (D rfl (mv rfl) ?_)))
 obtain ⟨r6_9, hr6_9, h⟩ := bs h
 refine Ac rfl (act_callL (cap := []) [eS lGTreaty 41 y1_2A0 r1_2.1.length y1_2c0 r1_2.1] (W_treatyref25_Subject r1_2.1 a1 a2 a3 y1_2A0 r1_2.1.length y1_2c0 A3 a3.length c3 r6_9 hr6_9) plains_treatyref25_Subject rfl rfl rfl bd22 rfl ⟨(ms (ms m0)), trivial⟩ ⟨.inr ⟨_, m0, lent_eS⟩, ⟨.inl (ms (ms (ms (ms (ms (ms (ms m0))))))), trivial⟩⟩) ?_
 rintro _ _ _ ⟨_, _, ⟨rfl, rfl, rfl⟩, rfl, rfl⟩
 dsimp only [na, ca]
 refine D rfl (det_eql rfl rfl) (D rfl (mv rfl) ?_)
 obtain ⟨q6_23, hq6_23, h⟩ := bs h
 have ho6_23 := h
 refine wl_way (decide (r6_4 = r6_9)) q6_23 12 52 (fun hg => ?_) (fun hg => ?_) ?_
 ·have hg6_23 := hg
  have h := ifT hq6_23 hg
  refine Gn rfl rfl hg6_23 (D rfl (mv rfl) (Gn rfl rfl hg6_23 (D rfl (mv rfl) (Gn rfl rfl hg6_23 (D rfl (mv rfl) (Gn rfl rfl hg6_23 (D rfl (mv rfl) (Gn rfl rfl hg6_23 ?_))))))))
  obtain ⟨r6_16, hr6_16, h⟩ := bs h
  refine Ac rfl (act_callL (cap := []) [eS lGTreaty 41 y1_2A0 r1_2.1.length y1_2c0 r1_2.1, eS (lInt .i64) 3 y3_3A0 r3_3.1.length y3_3c0 r3_3.1] (W_inuring_Subject r1_2.1 r4_3.1 r5_1.1 r3_3.1 y1_2A0 r1_2.1.length y1_2c0 y3_3A0 r3_3.1.length y3_3c0 r6_16 hr6_16) plains_inuring_Subject rfl rfl rfl bd21 rfl ⟨(ms (ms m0)), ⟨(ms m0), trivial⟩⟩ ⟨.inr ⟨_, m0, lent_eS⟩, ⟨.inr ⟨_, (ms m0), lent_eS⟩, trivial⟩⟩) ?_
  rintro _ _ _ ⟨_, _, ⟨rfl, rfl, rfl⟩, rfl, rfl⟩
  dsimp only [na, ca]
  refine Gn rfl rfl hg6_23 (D rfl (mv rfl) (Gn rfl rfl hg6_23 (D rfl (mv rfl) (Gn rfl rfl hg6_23 (D rfl (mv rfl) (Gn rfl rfl hg6_23 (D rfl (mv rfl) (Gn rfl rfl hg6_23 ?_))))))))
  obtain ⟨r6_21, hr6_21, h⟩ := bs h
  refine Ac rfl (act_callL (cap := []) [eS lGTreaty 41 y1_2A0 r1_2.1.length y1_2c0 r1_2.1, eS (lInt .i64) 3 y3_3A0 r3_3.1.length y3_3c0 r3_3.1] (W_treatyref25_Subject r1_2.1 r4_3.1 r5_1.1 r3_3.1 y1_2A0 r1_2.1.length y1_2c0 y3_3A0 r3_3.1.length y3_3c0 r6_21 hr6_21) plains_treatyref25_Subject rfl rfl rfl bd22 rfl ⟨(ms (ms m0)), ⟨(ms m0), trivial⟩⟩ ⟨.inr ⟨_, m0, lent_eS⟩, ⟨.inr ⟨_, (ms m0), lent_eS⟩, trivial⟩⟩) ?_
  rintro _ _ _ ⟨_, _, ⟨rfl, rfl, rfl⟩, rfl, rfl⟩
  dsimp only [na, ca]
  refine Gn rfl rfl hg6_23 (D rfl (det_eql rfl rfl) ?_)
  obtain rfl := si h
  refine D rfl (det_pick_on rfl hg6_23 rfl rfl) ?_
  exact wl_nil (pn_qnE (ext_cons rfl (Ex 12 rfl rfl)) (fun _ h => h))
 ·have hg6_23a := hg
  have h := ifF hq6_23 hg
  refine Gf rfl rfl rfl hg6_23a (Gf rfl rfl rfl hg6_23a (Gf rfl rfl rfl hg6_23a (Gf rfl rfl rfl hg6_23a (Gf rfl rfl rfl hg6_23a (Gf rfl rfl rfl hg6_23a (Gf rfl rfl rfl hg6_23a (Gf rfl rfl rfl hg6_23a (Gf rfl rfl rfl hg6_23a (Gf rfl rfl rfl hg6_23a (Gf rfl rfl rfl hg6_23a ?_))))))))))
  obtain rfl := si h
  refine D rfl (det_pick_off rfl hg6_23a rfl rfl) ?_
  exact wl_nil (pn_qnE (ext_cons rfl (Ex 12 rfl rfl)) (fun _ h => h))
 have h := ho6_23
 refine D rfl (mv rfl) ?_
 obtain ⟨q6_36, hq6_36, h⟩ := bs h
 have ho6_36 := h
 refine wl_way q6_23 q6_36 12 65 (fun hg => ?_) (fun hg => ?_) ?_
 ·have hg6_36 := hg
  have h := ifT hq6_36 hg
  refine Gn rfl rfl hg6_36 (D rfl (mv rfl) (Gn rfl rfl hg6_36 (D rfl (mv rfl) (Gn rfl rfl hg6_36 (D rfl (mv rfl) (Gn rfl rfl hg6_36 (D rfl (mv rfl) (Gn rfl rfl hg6_36 ?_))))))))
  obtain ⟨r6_29, hr6_29, h⟩ := bs h
  refine Ac rfl (act_callL (cap := []) [eS lGTreaty 41 y1_2A0 r1_2.1.length y1_2c0 r1_2.1, eS (lInt .i64) 3 y3_3A0 r3_3.1.length y3_3c0 r3_3.1] (W_inuring_Subject r1_2.1 r4_3.1 a2 r3_3.1 y1_2A0 r1_2.1.length y1_2c0 y3_3A0 r3_3.1.length y3_3c0 r6_29 hr6_29) plains_inuring_Subject rfl rfl rfl bd21 rfl ⟨(ms (ms m0)), ⟨(ms m0), trivial⟩⟩ ⟨.inr ⟨_, m0, lent_eS⟩, ⟨.inr ⟨_, (ms m0), lent_eS⟩, trivial⟩⟩) ?_
  rintro _ _ _ ⟨_, _, ⟨rfl, rfl, rfl⟩, rfl, rfl⟩
  dsimp only [na, ca]
  refine Gn rfl rfl hg6_36 (D rfl (mv rfl) (Gn rfl rfl hg6_36 (D rfl (mv rfl) (Gn rfl rfl hg6_36 (D rfl (mv rfl) (Gn rfl rfl hg6_36 (D rfl (mv rfl) (Gn rfl rfl hg6_36 ?_))))))))
  obtain ⟨r6_34, hr6_34, h⟩ := bs h
  refine Ac rfl (act_callL (cap := []) [eS lGTreaty 41 y1_2A0 r1_2.1.length y1_2c0 r1_2.1, eS (lInt .i64) 3 y3_3A0 r3_3.1.length y3_3c0 r3_3.1] (W_treatyref25_Subject r1_2.1 r4_3.1 a2 r3_3.1 y1_2A0 r1_2.1.length y1_2c0 y3_3A0 r3_3.1.length y3_3c0 r6_34 hr6_34) plains_treatyref25_Subject rfl rfl rfl bd22 rfl ⟨(ms (ms m0)), ⟨(ms m0), trivial⟩⟩ ⟨.inr ⟨_, m0, lent_eS⟩, ⟨.inr ⟨_, (ms m0), lent_eS⟩, trivial⟩⟩) ?_
  rintro _ _ _ ⟨_, _, ⟨rfl, rfl, rfl⟩, rfl, rfl⟩
  dsimp only [na, ca]
  refine Gn rfl rfl hg6_36 (D rfl (det_eql rfl rfl) ?_)
  obtain rfl := si h
  refine D rfl (det_pick_on rfl hg6_36 rfl rfl) ?_
  exact wl_nil (pn_qnE (ext_cons rfl (Ex 12 rfl rfl)) (fun _ h => h))
 ·have hg6_36a := hg
  have h := ifF hq6_36 hg
  refine Gf rfl rfl rfl hg6_36a (Gf rfl rfl rfl hg6_36a (Gf rfl rfl rfl hg6_36a (Gf rfl rfl rfl hg6_36a (Gf rfl rfl rfl hg6_36a (Gf rfl rfl rfl hg6_36a (Gf rfl rfl rfl hg6_36a (Gf rfl rfl rfl hg6_36a (Gf rfl rfl rfl hg6_36a (Gf rfl rfl rfl hg6_36a (Gf rfl rfl rfl hg6_36a ?_))))))))))
  obtain rfl := si h
  refine D rfl (det_pick_off rfl hg6_36a rfl rfl) ?_
  exact wl_nil (pn_qnE (ext_cons rfl (Ex 12 rfl rfl)) (fun _ h => h))
 have h := ho6_36
 refine D rfl (mv rfl) ?_
 obtain ⟨q6_39, hq6_39, h⟩ := bs h
 have ho6_39 := h
 refine wl_way q6_36 q6_39 2 68 (fun hg => ?_) (fun hg => ?_) ?_
 ·have hg6_39 := hg
  have h := ifT hq6_39 hg
  refine Gn rfl rfl hg6_39 ?_
  obtain ⟨r6_38, hr6_38, h⟩ := bs h
  refine Ac rfl (act_callS (cap := []) (W_treatylaw29_awake r6_38 hr6_38) rfl rfl rfl bd13 rfl trivial) ?_
  rintro _ _ _ ⟨_, _, ⟨rfl, rfl, rfl⟩, rfl, rfl⟩
  dsimp only [na, ca]
  obtain rfl := si h
  refine D rfl (det_pick_on rfl hg6_39 rfl rfl) ?_
  exact wl_nil (pn_qnE (ext_cons rfl (Ex 2 rfl rfl)) (fun _ h => h))
 ·have hg6_39a := hg
  have h := ifF hq6_39 hg
  refine Gf rfl rfl rfl hg6_39a ?_
  obtain rfl := si h
  refine D rfl (det_pick_off rfl hg6_39a rfl rfl) ?_
  exact wl_nil (pn_qnE (ext_cons rfl (Ex 2 rfl rfl)) (fun _ h => h))
 have h := ho6_39
 refine D rfl (ag rfl) (Wn (Pt (Wt ?_)))
 obtain rfl := si h
 refine pn_ret (vs := [_]) rfl ⟨rfl, trivial⟩ ⟨rfl, rfl, rfl⟩ (fun _ h => h.to trivial trivial)
end Go.Proofs.Ytfekcgnnhjmeiaa
