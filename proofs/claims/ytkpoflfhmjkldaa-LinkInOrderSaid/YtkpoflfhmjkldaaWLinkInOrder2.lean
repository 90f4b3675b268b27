/- That functions of the program compute the plain programs of P. Written by a small program. -/
import Derived.Test.YtkpoflfhmjkldaaWLinkInOrder1
namespace Go.Proofs.Ytkpoflfhmjkldaa
open Go.RowKit
def Q_treatylaw42_LinkInOrder (r : Bool) : Value → List Ent → List Fact → Prop := fun v θ κ => v = .bool r ∧ θ = [] ∧ κ = []
theorem plains_treatylaw42_LinkInOrder {r : Bool} : ∀ v θ κ, Q_treatylaw42_LinkInOrder r v θ κ → Plains θ := by
  rintro _ _ _ ⟨rfl, rfl, rfl⟩
  exact trivial
set_option maxHeartbeats 4000000 in
set_option maxRecDepth 100000 in
theorem W_treatylaw42_LinkInOrder (a0 : (List Int)) (A0 : Option Addr) (n0 : Nat) (c0 : Nat) (r : Bool) (h : treatylaw42_LinkInOrder a0 = some r) : Spec Try.prog 4 [.slice A0 n0 c0] [] [fV (lSlice (lInt .i64)) (.slice A0 n0 c0) a0] (Q_treatylaw42_LinkInOrder r) := by
  unfold treatylaw42_LinkInOrder at h
  refine spec_of (σ := [(0, _)]) Try.func4 rfl rfl rfl rfl ?_
  intro C
  refine wc_know (fun _ h => h.lenF m0) (fun e => ?_)
  subst e
  refine wc_seq ?_
  refine wc_region ?_   -- region 0
  refine wl_det rfl rfl (det_assign rfl) rfl ?_
  refine wl_nil ?_
  refine pn_then ?_
  refine wc_seq ?_
  refine wc_region ?_   -- region 1
  refine wl_det rfl rfl (det_move rfl) rfl ?_
  obtain ⟨r1_1, hr1_1, h⟩ := bind_some h
  refine wl_act (act_callS (cap := []) (W_treatylaw42_play a0 A0 a0.length c0 r1_1 hr1_1) rfl rfl rfl bd12 rfl ⟨m0, trivial⟩) rfl rfl rfl ?_
  rintro _ _ _ ⟨_, _, ⟨y1_1b0, y1_1A1, y1_1n1, y1_1c1, y1_1A2, y1_1n2, y1_1c2, y1_1A3, y1_1n3, y1_1c3, y1_1A4, y1_1n4, y1_1c4, rfl, rfl, rfl⟩, rfl, rfl⟩
  dsimp only [List.nil_append, List.cons_append]
  refine wl_know (fun _ h => h.lenF m0) (fun e => ?_)
  subst e
  refine wl_know (fun _ h => h.lenO (ms m0)) (fun e => ?_)
  subst e
  refine wl_know (fun _ h => h.lenO (ms (ms m0))) (fun e => ?_)
  subst e
  refine wl_know (fun _ h => h.lenO (ms (ms (ms m0)))) (fun e => ?_)
  subst e
  refine wl_det rfl rfl (det_move rfl) rfl ?_
  refine wl_det rfl rfl (det_extract rfl rfl) rfl ?_
  refine wl_det rfl rfl (det_extract rfl rfl) rfl ?_
  refine wl_det rfl rfl (det_assign rfl) rfl ?_
  refine wl_det rfl rfl (det_assign rfl) rfl ?_
  refine wl_nil ?_
  refine pn_then ?_
  refine wc_seq ?_
  obtain ⟨q5, h, ho5⟩ := bind_some h
  refine wc_meetG (G := Bool × Unit) (fun (s5, _) => s5 = q5) (fun (s5, _) => [(3, .pointer (some ⟨y1_1b0, 0, none⟩)), (61, .bool s5)]) (fun (_, _) => [eBlk y1_1b0 43 [.slice y1_1A1 r1_1.1.a.Out.length y1_1c1, .int .i64 r1_1.1.a.Acked, .int .i64 r1_1.1.a.Got, .slice y1_1A2 r1_1.1.b.Out.length y1_1c2, .int .i64 r1_1.1.b.Acked, .int .i64 r1_1.1.b.Got, .slice y1_1A3 r1_1.1.wire.length y1_1c3, .slice y1_1A4 r1_1.1.got.length y1_1c4, .bool r1_1.1.ok], eS (lSlice (lInt .u8)) 25 y1_1A2 r1_1.1.b.Out.length y1_1c2 r1_1.1.b.Out, eS lGPacket 27 y1_1A3 r1_1.1.wire.length y1_1c3 r1_1.1.wire, eS (lSlice (lInt .u8)) 25 y1_1A4 r1_1.1.got.length y1_1c4 r1_1.1.got]) (fun (_, _) => [fV (lSlice (lSlice (lInt .u8))) (.slice y1_1A1 r1_1.1.a.Out.length y1_1c1) r1_1.1.a.Out]) ?_ ?_
  · rcases Bool.eq_false_or_eq_true (!r1_1.1.ok) with hg2_g17 | hg2_g17
    · have h := ifT h hg2_g17
      refine dx_region 50 [[], [0], [0, 1], [0, 1, 2], [0, 1, 2, 3], [0, 1, 2, 3, 4], [0, 1, 2, 3, 4, 5], [0, 1, 2, 3, 4, 5, 6], [0, 1, 2, 3, 4, 5, 6, 7], [0, 1, 2, 3, 4, 5, 6, 7, 8], [0, 1, 2, 3, 4, 5, 6, 7, 8, 9], [0, 1, 2, 3, 4, 5], [0, 1, 2, 3, 4, 5, 6, 7, 8, 9, 10, 11], [0, 1, 2, 3, 4, 5, 6, 7, 8, 9, 10, 11, 12], [0, 1, 2, 3, 4, 5, 6, 7, 8, 9, 10, 11, 12, 13], [0, 1, 2, 3, 4, 5, 6, 7, 8, 9, 10, 11, 12, 13, 14], [0, 1, 2, 3, 4, 5, 6, 7, 8, 9, 10, 11, 12, 13, 14, 15], [0, 1, 2, 3, 4, 5, 6, 7, 8, 9, 10, 11, 12, 13, 14, 15, 16], [0, 1, 2, 3, 4, 5, 6, 7, 8, 9, 10, 11, 12, 13, 14, 15, 16, 17], [0, 1, 2, 3, 4, 5, 6, 7, 8, 9, 10, 11, 12, 13, 14, 15, 16, 17, 18], [0, 1, 2, 3, 4, 5, 6, 7, 8, 9, 10, 11, 12, 13, 14], [0, 1, 2, 3, 4, 5, 6, 7, 8, 9, 10, 11, 12, 13, 14, 20], [0, 1, 2, 3, 4, 5, 6, 7, 8, 9, 10, 11, 12, 13, 14, 20, 21], [0, 1, 2, 3, 4, 5, 6, 7, 8, 9, 10, 11, 12, 13, 14, 20, 21, 22], [0, 1, 2, 3, 4, 5, 6, 7, 8, 9, 10, 11, 12, 13, 14, 20, 21, 22, 23], [0, 1, 2, 3, 4, 5, 6, 7, 8, 9, 10, 11, 12, 13, 14, 15, 16, 17, 18, 19, 20, 21, 22, 23, 24], [0, 1, 2, 3, 4, 5, 6, 7, 8, 9, 10, 11, 12, 13, 14, 15, 16, 17, 18, 19, 20, 21, 22, 23, 24, 25], [0, 1, 2, 3, 4, 5, 6, 7, 8, 9, 10, 11, 12, 13, 14, 15, 16, 17, 18, 19, 20, 21, 22, 23, 24, 25, 26], [0, 1, 2, 3, 4, 5, 6, 7, 8, 9, 10, 11, 12, 13, 14, 15, 16, 17, 18, 19, 20, 21, 22, 23, 24, 25, 26, 27], [0, 1, 2, 3, 4, 5, 6, 7, 8, 9, 10, 11, 12, 13, 14, 15, 16, 17, 18, 19, 20, 21, 22, 23, 24, 25, 26, 27, 28], [0, 1, 2, 3, 4, 5, 6, 7, 8, 9, 10, 11, 12, 13, 14, 15, 16, 17, 18, 19, 20, 21, 22, 23, 24, 25, 26, 27, 28, 29], [0, 1, 2, 3, 4, 5, 6, 7, 8, 9, 10, 11, 12, 13, 14, 15, 16, 17, 18, 19, 20, 21, 22, 23, 24, 25, 26, 27, 28, 29, 30], [0, 1, 2, 3, 4, 5, 6, 7, 8, 9, 10, 11, 12, 13, 14, 15, 16, 17, 18, 19, 20, 21, 22, 23, 24, 25, 26, 27, 28, 29, 30, 31], [0, 1, 2, 3, 4, 5, 6, 7, 8, 9, 10, 11, 12, 13, 14, 15, 16, 17, 18, 19, 20, 21, 22, 23, 24, 25, 26, 27], [0, 1, 2, 3, 4, 5, 6, 7, 8, 9, 10, 11, 12, 13, 14, 15, 16, 17, 18, 19, 20, 21, 22, 23, 24, 25, 26, 27, 33], [0, 1, 2, 3, 4, 5, 6, 7, 8, 9, 10, 11, 12, 13, 14, 15, 16, 17, 18, 19, 20, 21, 22, 23, 24, 25, 26, 27, 33, 34], [0, 1, 2, 3, 4, 5, 6, 7, 8, 9, 10, 11, 12, 13, 14, 15, 16, 17, 18, 19, 20, 21, 22, 23, 24, 25, 26, 27, 33, 34, 35], [0, 1, 2, 3, 4, 5, 6, 7, 8, 9, 10, 11, 12, 13, 14, 15, 16, 17, 18, 19, 20, 21, 22, 23, 24, 25, 26, 27, 33, 34, 35, 36], [0, 1, 2, 3, 4, 5, 6, 7, 8, 9, 10, 11, 12, 13, 14, 15, 16, 17, 18, 19, 20, 21, 22, 23, 24, 25, 26, 27, 28, 29, 30, 31, 32, 33, 34, 35, 36, 37], [0, 1, 2, 3, 4, 5, 6, 7, 8, 9, 10, 11, 12, 13, 14, 15, 16, 17, 18, 19, 20, 21, 22, 23, 24, 25, 26, 27, 28, 29, 30, 31, 32, 33, 34, 35, 36, 37, 38], [0, 1, 2, 3, 4, 5, 6, 7, 8, 9, 10, 11, 12, 13, 14, 15, 16, 17, 18, 19, 20, 21, 22, 23, 24, 25, 26, 27, 28, 29, 30, 31, 32, 33, 34, 35, 36, 37, 38, 39], [0, 1, 2, 3, 4, 5, 6, 7, 8, 9, 10, 11, 12, 13, 14, 15, 16, 17, 18, 19, 20, 21, 22, 23, 24, 25, 26, 27, 28, 29, 30, 31, 32, 33, 34, 35, 36, 37, 38, 39, 40], [0, 1, 2, 3, 4, 5, 6, 7, 8, 9, 10, 11, 12, 13, 14, 15, 16, 17, 18, 19, 20, 21, 22, 23, 24, 25, 26, 27, 28, 29, 30, 31, 32, 33, 34, 35, 36, 37, 38, 39, 40, 41], [0, 1, 2, 3, 4, 5, 6, 7, 8, 9, 10, 11, 12, 13, 14, 15, 16, 17, 18, 19, 20, 21, 22, 23, 24, 25, 26, 27, 28, 29, 30, 31, 32, 33, 34, 35, 36, 37, 38, 39, 40, 41, 42], [0, 1, 2, 3, 4, 5, 6, 7, 8, 9, 10, 11, 12, 13, 14, 15, 16, 17, 18, 19, 20, 21, 22, 23, 24, 25, 26, 27, 28, 29, 30, 31, 32, 33, 34, 35, 36, 37, 38, 39, 40, 41, 42, 43], [0, 1, 2, 3, 4, 5, 6, 7, 8, 9, 10, 11, 12, 13, 14, 15, 16, 17, 18, 19, 20, 21, 22, 23, 24, 25, 26, 27, 28, 29, 30, 31, 32, 33, 34, 35, 36, 37, 38, 39, 40, 41, 42, 43, 44], [0, 1, 2, 3, 4, 5, 6, 7, 8, 9, 10, 11, 12, 13, 14, 15, 16, 17, 18, 19, 20, 21, 22, 23, 24, 25, 26, 27, 28, 29, 30, 31, 32, 33, 34, 35, 36, 37, 38, 39, 40, 41, 42, 43, 44, 45], [0, 1, 2, 3, 4, 5, 6, 7, 8, 9, 10, 11, 12, 13, 14, 15, 16, 17, 18, 19, 20, 21, 22, 23, 24, 25, 26, 27, 28, 29, 30, 31, 32, 33, 34, 35, 36, 37, 38, 39, 40], [0, 1, 2, 3, 4, 5, 6, 7, 8, 9, 10, 11, 12, 13, 14, 15, 16, 17, 18, 19, 20, 21, 22, 23, 24, 25, 26, 27, 28, 29, 30, 31, 32, 33, 34, 35, 36, 37, 38, 39, 40, 41, 42, 43, 44, 45, 46, 47], [0, 1, 2, 3, 4, 5, 6, 7, 8, 9, 10, 11, 12, 13, 14, 15, 16, 17, 18, 19, 20, 21, 22, 23, 24, 25, 26, 27, 28, 29, 30, 31, 32, 33, 34, 35, 36, 37, 38, 39, 40, 41, 42, 43, 44, 45, 46, 47, 48]] mixed (ord := (.det 0 (.det 1 (.det 2 (.det 3 (.det 4 (.det 5 (.det 6 (.det 7 (.det 8 (.det 9 (.det 10 (.det 11 (.det 12 (.det 13 (.det 14 (.det 15 (.det 16 (.det 17 (.det 18 (.det 19 (.det 20 (.det 21 (.det 22 (.det 23 (.det 24 (.det 25 (.det 26 (.det 27 (.det 28 (.det 29 (.det 30 (.det 31 (.det 32 (.det 33 (.det 34 (.det 35 (.det 36 (.det 37 (.det 38 (.det 39 (.det 40 (.det 41 (.det 42 (.det 43 (.det 44 (.det 45 (.det 46 (.det 47 (.det 48 (.det 49 .done))))))))))))))))))))))))))))))))))))))))))))))))))) (by kernel_rfl) ?_   -- region 2
      refine hx_det rfl rfl rfl nofun (det_move rfl) rfl ?_
      refine hx_det rfl rfl rfl nofun (det_nilCheckB rfl) rfl ?_
      refine hx_det rfl rfl rfl nofun (det_field rfl fd43_4 rfl) rfl ?_
      refine hx_det rfl rfl rfl nofun (det_load rfl m0 (by rfl) na4 us4) rfl ?_
      refine hx_det rfl rfl rfl nofun (det_not rfl) rfl ?_
      refine hx_det rfl rfl rfl nofun (det_move rfl) rfl ?_
      refine hx_off rfl rfl rfl rfl rfl hg2_g17 rfl ?_
      refine hx_off rfl rfl rfl rfl rfl hg2_g17 rfl ?_
      refine hx_off rfl rfl rfl rfl rfl hg2_g17 rfl ?_
      refine hx_off rfl rfl rfl rfl rfl hg2_g17 rfl ?_
      refine hx_off rfl rfl rfl rfl rfl hg2_g17 rfl ?_
      refine hx_off rfl rfl rfl rfl rfl hg2_g17 rfl ?_
      refine hx_off rfl rfl rfl rfl rfl hg2_g17 rfl ?_
      refine hx_det rfl rfl rfl nofun (det_pick_on rfl hg2_g17 rfl rfl) rfl ?_
      refine hx_det rfl rfl rfl nofun (det_move rfl) rfl ?_
      refine hx_off rfl rfl rfl rfl rfl rfl rfl ?_
      refine hx_off rfl rfl rfl rfl rfl rfl rfl ?_
      refine hx_off rfl rfl rfl rfl rfl rfl rfl ?_
      refine hx_off rfl rfl rfl rfl rfl rfl rfl ?_
      refine hx_off rfl rfl rfl rfl rfl rfl rfl ?_
      refine hx_off rfl rfl rfl rfl rfl rfl rfl ?_
      refine hx_off rfl rfl rfl rfl rfl rfl rfl ?_
      refine hx_off rfl rfl rfl rfl rfl rfl rfl ?_
      refine hx_off rfl rfl rfl rfl rfl rfl rfl ?_
      refine hx_off rfl rfl rfl rfl rfl rfl rfl ?_
      refine hx_off rfl rfl rfl rfl rfl rfl rfl ?_
      refine hx_det rfl rfl rfl nofun (det_pick_on rfl rfl rfl rfl) rfl ?_
      refine hx_det rfl rfl rfl nofun (det_move rfl) rfl ?_
      refine hx_off rfl rfl rfl rfl rfl rfl rfl ?_
      refine hx_off rfl rfl rfl rfl rfl rfl rfl ?_
      refine hx_off rfl rfl rfl rfl rfl rfl rfl ?_
      refine hx_off rfl rfl rfl rfl rfl rfl rfl ?_
      refine hx_off rfl rfl rfl rfl rfl rfl rfl ?_
      refine hx_off rfl rfl rfl rfl rfl rfl rfl ?_
      refine hx_off rfl rfl rfl rfl rfl rfl rfl ?_
      refine hx_off rfl rfl rfl rfl rfl rfl rfl ?_
      refine hx_off rfl rfl rfl rfl rfl rfl rfl ?_
      refine hx_off rfl rfl rfl rfl rfl rfl rfl ?_
      refine hx_off rfl rfl rfl rfl rfl rfl rfl ?_
      refine hx_det rfl rfl rfl nofun (det_pick_on rfl rfl rfl rfl) rfl ?_
      refine hx_det rfl rfl rfl nofun (det_move rfl) rfl ?_
      refine hx_off rfl rfl rfl rfl rfl rfl rfl ?_
      refine hx_off rfl rfl rfl rfl rfl rfl rfl ?_
      refine hx_off rfl rfl rfl rfl rfl rfl rfl ?_
      refine hx_off rfl rfl rfl rfl rfl rfl rfl ?_
      refine hx_off rfl rfl rfl rfl rfl rfl rfl ?_
      refine hx_off rfl rfl rfl rfl rfl rfl rfl ?_
      refine hx_off rfl rfl rfl rfl rfl rfl rfl ?_
      refine hx_off rfl rfl rfl rfl rfl rfl rfl ?_
      refine hx_det rfl rfl rfl nofun (det_pick_on rfl rfl rfl rfl) rfl ?_
      refine hx_end ?_
      refine wl_nil ?_
      replace h := Option.some.inj h
      subst h
      exact pn_meetG (true, ()) rfl ⟨rfl, rfl, trivial⟩ (fun _ h => h.to ⟨_, r0, ⟨_, r0, ⟨_, r0, ⟨_, r0, trivial⟩⟩⟩⟩ ⟨m0, trivial⟩)
    · have h := ifF h hg2_g17
      rcases Bool.eq_false_or_eq_true (decide (r1_1.2 < (r1_1.1.got.length : Int))) with hg2_g26 | hg2_g26
      · have h := ifT h hg2_g26
        refine dx_region 50 [[], [0], [0, 1], [0, 1, 2], [0, 1, 2, 3], [0, 1, 2, 3, 4], [0, 1, 2, 3, 4, 5], [0, 1, 2, 3, 4, 5, 6], [0, 1, 2, 3, 4, 5, 6, 7], [0, 1, 2, 3, 4, 5, 6, 7, 8], [0, 1, 2, 3, 4, 5, 6, 7, 8, 9], [0, 1, 2, 3, 4, 5], [0, 1, 2, 3, 4, 5, 6, 7, 8, 9, 10, 11], [0, 1, 2, 3, 4, 5, 6, 7, 8, 9, 10, 11, 12], [0, 1, 2, 3, 4, 5, 6, 7, 8, 9, 10, 11, 12, 13], [0, 1, 2, 3, 4, 5, 6, 7, 8, 9, 10, 11, 12, 13, 14], [0, 1, 2, 3, 4, 5, 6, 7, 8, 9, 10, 11, 12, 13, 14, 15], [0, 1, 2, 3, 4, 5, 6, 7, 8, 9, 10, 11, 12, 13, 14, 15, 16], [0, 1, 2, 3, 4, 5, 6, 7, 8, 9, 10, 11, 12, 13, 14, 15, 16, 17], [0, 1, 2, 3, 4, 5, 6, 7, 8, 9, 10, 11, 12, 13, 14, 15, 16, 17, 18], [0, 1, 2, 3, 4, 5, 6, 7, 8, 9, 10, 11, 12, 13, 14], [0, 1, 2, 3, 4, 5, 6, 7, 8, 9, 10, 11, 12, 13, 14, 20], [0, 1, 2, 3, 4, 5, 6, 7, 8, 9, 10, 11, 12, 13, 14, 20, 21], [0, 1, 2, 3, 4, 5, 6, 7, 8, 9, 10, 11, 12, 13, 14, 20, 21, 22], [0, 1, 2, 3, 4, 5, 6, 7, 8, 9, 10, 11, 12, 13, 14, 20, 21, 22, 23], [0, 1, 2, 3, 4, 5, 6, 7, 8, 9, 10, 11, 12, 13, 14, 15, 16, 17, 18, 19, 20, 21, 22, 23, 24], [0, 1, 2, 3, 4, 5, 6, 7, 8, 9, 10, 11, 12, 13, 14, 15, 16, 17, 18, 19, 20, 21, 22, 23, 24, 25], [0, 1, 2, 3, 4, 5, 6, 7, 8, 9, 10, 11, 12, 13, 14, 15, 16, 17, 18, 19, 20, 21, 22, 23, 24, 25, 26], [0, 1, 2, 3, 4, 5, 6, 7, 8, 9, 10, 11, 12, 13, 14, 15, 16, 17, 18, 19, 20, 21, 22, 23, 24, 25, 26, 27], [0, 1, 2, 3, 4, 5, 6, 7, 8, 9, 10, 11, 12, 13, 14, 15, 16, 17, 18, 19, 20, 21, 22, 23, 24, 25, 26, 27, 28], [0, 1, 2, 3, 4, 5, 6, 7, 8, 9, 10, 11, 12, 13, 14, 15, 16, 17, 18, 19, 20, 21, 22, 23, 24, 25, 26, 27, 28, 29], [0, 1, 2, 3, 4, 5, 6, 7, 8, 9, 10, 11, 12, 13, 14, 15, 16, 17, 18, 19, 20, 21, 22, 23, 24, 25, 26, 27, 28, 29, 30], [0, 1, 2, 3, 4, 5, 6, 7, 8, 9, 10, 11, 12, 13, 14, 15, 16, 17, 18, 19, 20, 21, 22, 23, 24, 25, 26, 27, 28, 29, 30, 31], [0, 1, 2, 3, 4, 5, 6, 7, 8, 9, 10, 11, 12, 13, 14, 15, 16, 17, 18, 19, 20, 21, 22, 23, 24, 25, 26, 27], [0, 1, 2, 3, 4, 5, 6, 7, 8, 9, 10, 11, 12, 13, 14, 15, 16, 17, 18, 19, 20, 21, 22, 23, 24, 25, 26, 27, 33], [0, 1, 2, 3, 4, 5, 6, 7, 8, 9, 10, 11, 12, 13, 14, 15, 16, 17, 18, 19, 20, 21, 22, 23, 24, 25, 26, 27, 33, 34], [0, 1, 2, 3, 4, 5, 6, 7, 8, 9, 10, 11, 12, 13, 14, 15, 16, 17, 18, 19, 20, 21, 22, 23, 24, 25, 26, 27, 33, 34, 35], [0, 1, 2, 3, 4, 5, 6, 7, 8, 9, 10, 11, 12, 13, 14, 15, 16, 17, 18, 19, 20, 21, 22, 23, 24, 25, 26, 27, 33, 34, 35, 36], [0, 1, 2, 3, 4, 5, 6, 7, 8, 9, 10, 11, 12, 13, 14, 15, 16, 17, 18, 19, 20, 21, 22, 23, 24, 25, 26, 27, 28, 29, 30, 31, 32, 33, 34, 35, 36, 37], [0, 1, 2, 3, 4, 5, 6, 7, 8, 9, 10, 11, 12, 13, 14, 15, 16, 17, 18, 19, 20, 21, 22, 23, 24, 25, 26, 27, 28, 29, 30, 31, 32, 33, 34, 35, 36, 37, 38], [0, 1, 2, 3, 4, 5, 6, 7, 8, 9, 10, 11, 12, 13, 14, 15, 16, 17, 18, 19, 20, 21, 22, 23, 24, 25, 26, 27, 28, 29, 30, 31, 32, 33, 34, 35, 36, 37, 38, 39], [0, 1, 2, 3, 4, 5, 6, 7, 8, 9, 10, 11, 12, 13, 14, 15, 16, 17, 18, 19, 20, 21, 22, 23, 24, 25, 26, 27, 28, 29, 30, 31, 32, 33, 34, 35, 36, 37, 38, 39, 40], [0, 1, 2, 3, 4, 5, 6, 7, 8, 9, 10, 11, 12, 13, 14, 15, 16, 17, 18, 19, 20, 21, 22, 23, 24, 25, 26, 27, 28, 29, 30, 31, 32, 33, 34, 35, 36, 37, 38, 39, 40, 41], [0, 1, 2, 3, 4, 5, 6, 7, 8, 9, 10, 11, 12, 13, 14, 15, 16, 17, 18, 19, 20, 21, 22, 23, 24, 25, 26, 27, 28, 29, 30, 31, 32, 33, 34, 35, 36, 37, 38, 39, 40, 41, 42], [0, 1, 2, 3, 4, 5, 6, 7, 8, 9, 10, 11, 12, 13, 14, 15, 16, 17, 18, 19, 20, 21, 22, 23, 24, 25, 26, 27, 28, 29, 30, 31, 32, 33, 34, 35, 36, 37, 38, 39, 40, 41, 42, 43], [0, 1, 2, 3, 4, 5, 6, 7, 8, 9, 10, 11, 12, 13, 14, 15, 16, 17, 18, 19, 20, 21, 22, 23, 24, 25, 26, 27, 28, 29, 30, 31, 32, 33, 34, 35, 36, 37, 38, 39, 40, 41, 42, 43, 44], [0, 1, 2, 3, 4, 5, 6, 7, 8, 9, 10, 11, 12, 13, 14, 15, 16, 17, 18, 19, 20, 21, 22, 23, 24, 25, 26, 27, 28, 29, 30, 31, 32, 33, 34, 35, 36, 37, 38, 39, 40, 41, 42, 43, 44, 45], [0, 1, 2, 3, 4, 5, 6, 7, 8, 9, 10, 11, 12, 13, 14, 15, 16, 17, 18, 19, 20, 21, 22, 23, 24, 25, 26, 27, 28, 29, 30, 31, 32, 33, 34, 35, 36, 37, 38, 39, 40], [0, 1, 2, 3, 4, 5, 6, 7, 8, 9, 10, 11, 12, 13, 14, 15, 16, 17, 18, 19, 20, 21, 22, 23, 24, 25, 26, 27, 28, 29, 30, 31, 32, 33, 34, 35, 36, 37, 38, 39, 40, 41, 42, 43, 44, 45, 46, 47], [0, 1, 2, 3, 4, 5, 6, 7, 8, 9, 10, 11, 12, 13, 14, 15, 16, 17, 18, 19, 20, 21, 22, 23, 24, 25, 26, 27, 28, 29, 30, 31, 32, 33, 34, 35, 36, 37, 38, 39, 40, 41, 42, 43, 44, 45, 46, 47, 48]] mixed (ord := (.det 0 (.det 1 (.det 2 (.det 3 (.det 4 (.det 5 (.det 6 (.det 7 (.det 8 (.det 9 (.det 10 (.det 11 (.det 12 (.det 13 (.det 14 (.det 15 (.det 16 (.det 17 (.det 18 (.det 19 (.det 20 (.det 21 (.det 22 (.det 23 (.det 24 (.det 25 (.det 26 (.det 27 (.det 28 (.det 29 (.det 30 (.det 31 (.det 32 (.det 33 (.det 34 (.det 35 (.det 36 (.det 37 (.det 38 (.det 39 (.det 40 (.det 41 (.det 42 (.det 43 (.det 44 (.det 45 (.det 46 (.det 47 (.det 48 (.det 49 .done))))))))))))))))))))))))))))))))))))))))))))))))))) (by kernel_rfl) ?_   -- region 2
        refine hx_det rfl rfl rfl nofun (det_move rfl) rfl ?_
        refine hx_det rfl rfl rfl nofun (det_nilCheckB rfl) rfl ?_
        refine hx_det rfl rfl rfl nofun (det_field rfl fd43_4 rfl) rfl ?_
        refine hx_det rfl rfl rfl nofun (det_load rfl m0 (by rfl) na4 us4) rfl ?_
        refine hx_det rfl rfl rfl nofun (det_not rfl) rfl ?_
        refine hx_det rfl rfl rfl nofun (det_move rfl) rfl ?_
        refine hx_on rfl rfl rfl rfl rfl hg2_g17 nofun (det_move rfl) rfl ?_
        refine hx_on rfl rfl rfl rfl rfl hg2_g17 nofun (det_nilCheckB rfl) rfl ?_
        refine hx_on rfl rfl rfl rfl rfl hg2_g17 nofun (det_field rfl fd43_3 rfl) rfl ?_
        refine hx_on rfl rfl rfl rfl rfl hg2_g17 nofun (det_load rfl m0 (by rfl) na22 us22) rfl ?_
        refine hx_on rfl rfl rfl rfl rfl hg2_g17 nofun (det_len rfl un22) rfl ?_
        refine hx_on rfl rfl rfl rfl rfl hg2_g17 nofun (det_move rfl) rfl ?_
        refine hx_on rfl rfl rfl rfl rfl hg2_g17 nofun (det_gtr rfl rfl) rfl ?_
        refine hx_det rfl rfl rfl nofun (det_pick_off rfl hg2_g17 rfl rfl) rfl ?_
        refine hx_det rfl rfl rfl nofun (det_move rfl) rfl ?_
        refine hx_off rfl rfl rfl rfl rfl hg2_g26 rfl ?_
        refine hx_off rfl rfl rfl rfl rfl hg2_g26 rfl ?_
        refine hx_off rfl rfl rfl rfl rfl hg2_g26 rfl ?_
        refine hx_off rfl rfl rfl rfl rfl hg2_g26 rfl ?_
        refine hx_off rfl rfl rfl rfl rfl hg2_g26 rfl ?_
        refine hx_off rfl rfl rfl rfl rfl hg2_g26 rfl ?_
        refine hx_off rfl rfl rfl rfl rfl hg2_g26 rfl ?_
        refine hx_off rfl rfl rfl rfl rfl hg2_g26 rfl ?_
        refine hx_off rfl rfl rfl rfl rfl hg2_g26 rfl ?_
        refine hx_off rfl rfl rfl rfl rfl hg2_g26 rfl ?_
        refine hx_off rfl rfl rfl rfl rfl hg2_g26 rfl ?_
        refine hx_det rfl rfl rfl nofun (det_pick_on rfl hg2_g26 rfl rfl) rfl ?_
        refine hx_det rfl rfl rfl nofun (det_move rfl) rfl ?_
        refine hx_off rfl rfl rfl rfl rfl rfl rfl ?_
        refine hx_off rfl rfl rfl rfl rfl rfl rfl ?_
        refine hx_off rfl rfl rfl rfl rfl rfl rfl ?_
        refine hx_off rfl rfl rfl rfl rfl rfl rfl ?_
        refine hx_off rfl rfl rfl rfl rfl rfl rfl ?_
        refine hx_off rfl rfl rfl rfl rfl rfl rfl ?_
        refine hx_off rfl rfl rfl rfl rfl rfl rfl ?_
        refine hx_off rfl rfl rfl rfl rfl rfl rfl ?_
        refine hx_off rfl rfl rfl rfl rfl rfl rfl ?_
        refine hx_off rfl rfl rfl rfl rfl rfl rfl ?_
        refine hx_off rfl rfl rfl rfl rfl rfl rfl ?_
        refine hx_det rfl rfl rfl nofun (det_pick_on rfl rfl rfl rfl) rfl ?_
        refine hx_det rfl rfl rfl nofun (det_move rfl) rfl ?_
        refine hx_off rfl rfl rfl rfl rfl rfl rfl ?_
        refine hx_off rfl rfl rfl rfl rfl rfl rfl ?_
        refine hx_off rfl rfl rfl rfl rfl rfl rfl ?_
        refine hx_off rfl rfl rfl rfl rfl rfl rfl ?_
        refine hx_off rfl rfl rfl rfl rfl rfl rfl ?_
        refine hx_off rfl rfl rfl rfl rfl rfl rfl ?_
        refine hx_off rfl rfl rfl rfl rfl rfl rfl ?_
        refine hx_off rfl rfl rfl rfl rfl rfl rfl ?_
        refine hx_det rfl rfl rfl nofun (det_pick_on rfl rfl rfl rfl) rfl ?_
        refine hx_end ?_
        refine wl_nil ?_
        replace h := Option.some.inj h
        subst h
        exact pn_meetG (true, ()) rfl ⟨rfl, rfl, trivial⟩ (fun _ h => h.to ⟨_, r0, ⟨_, r0, ⟨_, r0, ⟨_, r0, trivial⟩⟩⟩⟩ ⟨m0, trivial⟩)
      · have h := ifF h hg2_g26
        rcases Bool.eq_false_or_eq_true (!decide (r1_1.1.b.Got = (r1_1.1.got.length : Int))) with hg2_g39 | hg2_g39
        · have h := ifT h hg2_g39
          refine dx_region 50 [[], [0], [0, 1], [0, 1, 2], [0, 1, 2, 3], [0, 1, 2, 3, 4], [0, 1, 2, 3, 4, 5], [0, 1, 2, 3, 4, 5, 6], [0, 1, 2, 3, 4, 5, 6, 7], [0, 1, 2, 3, 4, 5, 6, 7, 8], [0, 1, 2, 3, 4, 5, 6, 7, 8, 9], [0, 1, 2, 3, 4, 5], [0, 1, 2, 3, 4, 5, 6, 7, 8, 9, 10, 11], [0, 1, 2, 3, 4, 5, 6, 7, 8, 9, 10, 11, 12], [0, 1, 2, 3, 4, 5, 6, 7, 8, 9, 10, 11, 12, 13], [0, 1, 2, 3, 4, 5, 6, 7, 8, 9, 10, 11, 12, 13, 14], [0, 1, 2, 3, 4, 5, 6, 7, 8, 9, 10, 11, 12, 13, 14, 15], [0, 1, 2, 3, 4, 5, 6, 7, 8, 9, 10, 11, 12, 13, 14, 15, 16], [0, 1, 2, 3, 4, 5, 6, 7, 8, 9, 10, 11, 12, 13, 14, 15, 16, 17], [0, 1, 2, 3, 4, 5, 6, 7, 8, 9, 10, 11, 12, 13, 14, 15, 16, 17, 18], [0, 1, 2, 3, 4, 5, 6, 7, 8, 9, 10, 11, 12, 13, 14], [0, 1, 2, 3, 4, 5, 6, 7, 8, 9, 10, 11, 12, 13, 14, 20], [0, 1, 2, 3, 4, 5, 6, 7, 8, 9, 10, 11, 12, 13, 14, 20, 21], [0, 1, 2, 3, 4, 5, 6, 7, 8, 9, 10, 11, 12, 13, 14, 20, 21, 22], [0, 1, 2, 3, 4, 5, 6, 7, 8, 9, 10, 11, 12, 13, 14, 20, 21, 22, 23], [0, 1, 2, 3, 4, 5, 6, 7, 8, 9, 10, 11, 12, 13, 14, 15, 16, 17, 18, 19, 20, 21, 22, 23, 24], [0, 1, 2, 3, 4, 5, 6, 7, 8, 9, 10, 11, 12, 13, 14, 15, 16, 17, 18, 19, 20, 21, 22, 23, 24, 25], [0, 1, 2, 3, 4, 5, 6, 7, 8, 9, 10, 11, 12, 13, 14, 15, 16, 17, 18, 19, 20, 21, 22, 23, 24, 25, 26], [0, 1, 2, 3, 4, 5, 6, 7, 8, 9, 10, 11, 12, 13, 14, 15, 16, 17, 18, 19, 20, 21, 22, 23, 24, 25, 26, 27], [0, 1, 2, 3, 4, 5, 6, 7, 8, 9, 10, 11, 12, 13, 14, 15, 16, 17, 18, 19, 20, 21, 22, 23, 24, 25, 26, 27, 28], [0, 1, 2, 3, 4, 5, 6, 7, 8, 9, 10, 11, 12, 13, 14, 15, 16, 17, 18, 19, 20, 21, 22, 23, 24, 25, 26, 27, 28, 29], [0, 1, 2, 3, 4, 5, 6, 7, 8, 9, 10, 11, 12, 13, 14, 15, 16, 17, 18, 19, 20, 21, 22, 23, 24, 25, 26, 27, 28, 29, 30], [0, 1, 2, 3, 4, 5, 6, 7, 8, 9, 10, 11, 12, 13, 14, 15, 16, 17, 18, 19, 20, 21, 22, 23, 24, 25, 26, 27, 28, 29, 30, 31], [0, 1, 2, 3, 4, 5, 6, 7, 8, 9, 10, 11, 12, 13, 14, 15, 16, 17, 18, 19, 20, 21, 22, 23, 24, 25, 26, 27], [0, 1, 2, 3, 4, 5, 6, 7, 8, 9, 10, 11, 12, 13, 14, 15, 16, 17, 18, 19, 20, 21, 22, 23, 24, 25, 26, 27, 33], [0, 1, 2, 3, 4, 5, 6, 7, 8, 9, 10, 11, 12, 13, 14, 15, 16, 17, 18, 19, 20, 21, 22, 23, 24, 25, 26, 27, 33, 34], [0, 1, 2, 3, 4, 5, 6, 7, 8, 9, 10, 11, 12, 13, 14, 15, 16, 17, 18, 19, 20, 21, 22, 23, 24, 25, 26, 27, 33, 34, 35], [0, 1, 2, 3, 4, 5, 6, 7, 8, 9, 10, 11, 12, 13, 14, 15, 16, 17, 18, 19, 20, 21, 22, 23, 24, 25, 26, 27, 33, 34, 35, 36], [0, 1, 2, 3, 4, 5, 6, 7, 8, 9, 10, 11, 12, 13, 14, 15, 16, 17, 18, 19, 20, 21, 22, 23, 24, 25, 26, 27, 28, 29, 30, 31, 32, 33, 34, 35, 36, 37], [0, 1, 2, 3, 4, 5, 6, 7, 8, 9, 10, 11, 12, 13, 14, 15, 16, 17, 18, 19, 20, 21, 22, 23, 24, 25, 26, 27, 28, 29, 30, 31, 32, 33, 34, 35, 36, 37, 38], [0, 1, 2, 3, 4, 5, 6, 7, 8, 9, 10, 11, 12, 13, 14, 15, 16, 17, 18, 19, 20, 21, 22, 23, 24, 25, 26, 27, 28, 29, 30, 31, 32, 33, 34, 35, 36, 37, 38, 39], [0, 1, 2, 3, 4, 5, 6, 7, 8, 9, 10, 11, 12, 13, 14, 15, 16, 17, 18, 19, 20, 21, 22, 23, 24, 25, 26, 27, 28, 29, 30, 31, 32, 33, 34, 35, 36, 37, 38, 39, 40], [0, 1, 2, 3, 4, 5, 6, 7, 8, 9, 10, 11, 12, 13, 14, 15, 16, 17, 18, 19, 20, 21, 22, 23, 24, 25, 26, 27, 28, 29, 30, 31, 32, 33, 34, 35, 36, 37, 38, 39, 40, 41], [0, 1, 2, 3, 4, 5, 6, 7, 8, 9, 10, 11, 12, 13, 14, 15, 16, 17, 18, 19, 20, 21, 22, 23, 24, 25, 26, 27, 28, 29, 30, 31, 32, 33, 34, 35, 36, 37, 38, 39, 40, 41, 42], [0, 1, 2, 3, 4, 5, 6, 7, 8, 9, 10, 11, 12, 13, 14, 15, 16, 17, 18, 19, 20, 21, 22, 23, 24, 25, 26, 27, 28, 29, 30, 31, 32, 33, 34, 35, 36, 37, 38, 39, 40, 41, 42, 43], [0, 1, 2, 3, 4, 5, 6, 7, 8, 9, 10, 11, 12, 13, 14, 15, 16, 17, 18, 19, 20, 21, 22, 23, 24, 25, 26, 27, 28, 29, 30, 31, 32, 33, 34, 35, 36, 37, 38, 39, 40, 41, 42, 43, 44], [0, 1, 2, 3, 4, 5, 6, 7, 8, 9, 10, 11, 12, 13, 14, 15, 16, 17, 18, 19, 20, 21, 22, 23, 24, 25, 26, 27, 28, 29, 30, 31, 32, 33, 34, 35, 36, 37, 38, 39, 40, 41, 42, 43, 44, 45], [0, 1, 2, 3, 4, 5, 6, 7, 8, 9, 10, 11, 12, 13, 14, 15, 16, 17, 18, 19, 20, 21, 22, 23, 24, 25, 26, 27, 28, 29, 30, 31, 32, 33, 34, 35, 36, 37, 38, 39, 40], [0, 1, 2, 3, 4, 5, 6, 7, 8, 9, 10, 11, 12, 13, 14, 15, 16, 17, 18, 19, 20, 21, 22, 23, 24, 25, 26, 27, 28, 29, 30, 31, 32, 33, 34, 35, 36, 37, 38, 39, 40, 41, 42, 43, 44, 45, 46, 47], [0, 1, 2, 3, 4, 5, 6, 7, 8, 9, 10, 11, 12, 13, 14, 15, 16, 17, 18, 19, 20, 21, 22, 23, 24, 25, 26, 27, 28, 29, 30, 31, 32, 33, 34, 35, 36, 37, 38, 39, 40, 41, 42, 43, 44, 45, 46, 47, 48]] mixed (ord := (.det 0 (.det 1 (.det 2 (.det 3 (.det 4 (.det 5 (.det 6 (.det 7 (.det 8 (.det 9 (.det 10 (.det 11 (.det 12 (.det 13 (.det 14 (.det 15 (.det 16 (.det 17 (.det 18 (.det 19 (.det 20 (.det 21 (.det 22 (.det 23 (.det 24 (.det 25 (.det 26 (.det 27 (.det 28 (.det 29 (.det 30 (.det 31 (.det 32 (.det 33 (.det 34 (.det 35 (.det 36 (.det 37 (.det 38 (.det 39 (.det 40 (.det 41 (.det 42 (.det 43 (.det 44 (.det 45 (.det 46 (.det 47 (.det 48 (.det 49 .done))))))))))))))))))))))))))))))))))))))))))))))))))) (by kernel_rfl) ?_   -- region 2
          refine hx_det rfl rfl rfl nofun (det_move rfl) rfl ?_
          refine hx_det rfl rfl rfl nofun (det_nilCheckB rfl) rfl ?_
          refine hx_det rfl rfl rfl nofun (det_field rfl fd43_4 rfl) rfl ?_
          refine hx_det rfl rfl rfl nofun (det_load rfl m0 (by rfl) na4 us4) rfl ?_
          refine hx_det rfl rfl rfl nofun (det_not rfl) rfl ?_
          refine hx_det rfl rfl rfl nofun (det_move rfl) rfl ?_
          refine hx_on rfl rfl rfl rfl rfl hg2_g17 nofun (det_move rfl) rfl ?_
          refine hx_on rfl rfl rfl rfl rfl hg2_g17 nofun (det_nilCheckB rfl) rfl ?_
          refine hx_on rfl rfl rfl rfl rfl hg2_g17 nofun (det_field rfl fd43_3 rfl) rfl ?_
          refine hx_on rfl rfl rfl rfl rfl hg2_g17 nofun (det_load rfl m0 (by rfl) na22 us22) rfl ?_
          refine hx_on rfl rfl rfl rfl rfl hg2_g17 nofun (det_len rfl un22) rfl ?_
          refine hx_on rfl rfl rfl rfl rfl hg2_g17 nofun (det_move rfl) rfl ?_
          refine hx_on rfl rfl rfl rfl rfl hg2_g17 nofun (det_gtr rfl rfl) rfl ?_
          refine hx_det rfl rfl rfl nofun (det_pick_off rfl hg2_g17 rfl rfl) rfl ?_
          refine hx_det rfl rfl rfl nofun (det_move rfl) rfl ?_
          refine hx_on rfl rfl rfl rfl rfl hg2_g26 nofun (det_move rfl) rfl ?_
          refine hx_on rfl rfl rfl rfl rfl hg2_g26 nofun (det_nilCheckB rfl) rfl ?_
          refine hx_on rfl rfl rfl rfl rfl hg2_g26 nofun (det_field rfl fd43_1 rfl) rfl ?_
          refine hx_on rfl rfl rfl rfl rfl hg2_g26 nofun (det_field rfl fd24_2 rfl) rfl ?_
          refine hx_on rfl rfl rfl rfl rfl hg2_g26 nofun (det_load rfl m0 (by rfl) na3 us3) rfl ?_
          refine hx_on rfl rfl rfl rfl rfl hg2_g26 nofun (det_move rfl) rfl ?_
          refine hx_on rfl rfl rfl rfl rfl hg2_g26 nofun (det_nilCheckB rfl) rfl ?_
          refine hx_on rfl rfl rfl rfl rfl hg2_g26 nofun (det_field rfl fd43_3 rfl) rfl ?_
          refine hx_on rfl rfl rfl rfl rfl hg2_g26 nofun (det_load rfl m0 (by rfl) na22 us22) rfl ?_
          refine hx_on rfl rfl rfl rfl rfl hg2_g26 nofun (det_len rfl un22) rfl ?_
          refine hx_on rfl rfl rfl rfl rfl hg2_g26 nofun (det_neq rfl rfl) rfl ?_
          refine hx_det rfl rfl rfl nofun (det_pick_off rfl hg2_g26 rfl rfl) rfl ?_
          refine hx_det rfl rfl rfl nofun (det_move rfl) rfl ?_
          refine hx_off rfl rfl rfl rfl rfl hg2_g39 rfl ?_
          refine hx_off rfl rfl rfl rfl rfl hg2_g39 rfl ?_
          refine hx_off rfl rfl rfl rfl rfl hg2_g39 rfl ?_
          refine hx_off rfl rfl rfl rfl rfl hg2_g39 rfl ?_
          refine hx_off rfl rfl rfl rfl rfl hg2_g39 rfl ?_
          refine hx_off rfl rfl rfl rfl rfl hg2_g39 rfl ?_
          refine hx_off rfl rfl rfl rfl rfl hg2_g39 rfl ?_
          refine hx_off rfl rfl rfl rfl rfl hg2_g39 rfl ?_
          refine hx_off rfl rfl rfl rfl rfl hg2_g39 rfl ?_
          refine hx_off rfl rfl rfl rfl rfl hg2_g39 rfl ?_
          refine hx_off rfl rfl rfl rfl rfl hg2_g39 rfl ?_
          refine hx_det rfl rfl rfl nofun (det_pick_on rfl hg2_g39 rfl rfl) rfl ?_
          refine hx_det rfl rfl rfl nofun (det_move rfl) rfl ?_
          refine hx_off rfl rfl rfl rfl rfl rfl rfl ?_
          refine hx_off rfl rfl rfl rfl rfl rfl rfl ?_
          refine hx_off rfl rfl rfl rfl rfl rfl rfl ?_
          refine hx_off rfl rfl rfl rfl rfl rfl rfl ?_
          refine hx_off rfl rfl rfl rfl rfl rfl rfl ?_
          refine hx_off rfl rfl rfl rfl rfl rfl rfl ?_
          refine hx_off rfl rfl rfl rfl rfl rfl rfl ?_
          refine hx_off rfl rfl rfl rfl rfl rfl rfl ?_
          refine hx_det rfl rfl rfl nofun (det_pick_on rfl rfl rfl rfl) rfl ?_
          refine hx_end ?_
          refine wl_nil ?_
          replace h := Option.some.inj h
          subst h
          exact pn_meetG (true, ()) rfl ⟨rfl, rfl, trivial⟩ (fun _ h => h.to ⟨_, r0, ⟨_, r0, ⟨_, r0, ⟨_, r0, trivial⟩⟩⟩⟩ ⟨m0, trivial⟩)
        · have h := ifF h hg2_g39
          rcases Bool.eq_false_or_eq_true (decide ((r1_1.1.got.length : Int) < r1_1.1.a.Acked)) with hg2_g52 | hg2_g52
          · have h := ifT h hg2_g52
            refine dx_region 50 [[], [0], [0, 1], [0, 1, 2], [0, 1, 2, 3], [0, 1, 2, 3, 4], [0, 1, 2, 3, 4, 5], [0, 1, 2, 3, 4, 5, 6], [0, 1, 2, 3, 4, 5, 6, 7], [0, 1, 2, 3, 4, 5, 6, 7, 8], [0, 1, 2, 3, 4, 5, 6, 7, 8, 9], [0, 1, 2, 3, 4, 5], [0, 1, 2, 3, 4, 5, 6, 7, 8, 9, 10, 11], [0, 1, 2, 3, 4, 5, 6, 7, 8, 9, 10, 11, 12], [0, 1, 2, 3, 4, 5, 6, 7, 8, 9, 10, 11, 12, 13], [0, 1, 2, 3, 4, 5, 6, 7, 8, 9, 10, 11, 12, 13, 14], [0, 1, 2, 3, 4, 5, 6, 7, 8, 9, 10, 11, 12, 13, 14, 15], [0, 1, 2, 3, 4, 5, 6, 7, 8, 9, 10, 11, 12, 13, 14, 15, 16], [0, 1, 2, 3, 4, 5, 6, 7, 8, 9, 10, 11, 12, 13, 14, 15, 16, 17], [0, 1, 2, 3, 4, 5, 6, 7, 8, 9, 10, 11, 12, 13, 14, 15, 16, 17, 18], [0, 1, 2, 3, 4, 5, 6, 7, 8, 9, 10, 11, 12, 13, 14], [0, 1, 2, 3, 4, 5, 6, 7, 8, 9, 10, 11, 12, 13, 14, 20], [0, 1, 2, 3, 4, 5, 6, 7, 8, 9, 10, 11, 12, 13, 14, 20, 21], [0, 1, 2, 3, 4, 5, 6, 7, 8, 9, 10, 11, 12, 13, 14, 20, 21, 22], [0, 1, 2, 3, 4, 5, 6, 7, 8, 9, 10, 11, 12, 13, 14, 20, 21, 22, 23], [0, 1, 2, 3, 4, 5, 6, 7, 8, 9, 10, 11, 12, 13, 14, 15, 16, 17, 18, 19, 20, 21, 22, 23, 24], [0, 1, 2, 3, 4, 5, 6, 7, 8, 9, 10, 11, 12, 13, 14, 15, 16, 17, 18, 19, 20, 21, 22, 23, 24, 25], [0, 1, 2, 3, 4, 5, 6, 7, 8, 9, 10, 11, 12, 13, 14, 15, 16, 17, 18, 19, 20, 21, 22, 23, 24, 25, 26], [0, 1, 2, 3, 4, 5, 6, 7, 8, 9, 10, 11, 12, 13, 14, 15, 16, 17, 18, 19, 20, 21, 22, 23, 24, 25, 26, 27], [0, 1, 2, 3, 4, 5, 6, 7, 8, 9, 10, 11, 12, 13, 14, 15, 16, 17, 18, 19, 20, 21, 22, 23, 24, 25, 26, 27, 28], [0, 1, 2, 3, 4, 5, 6, 7, 8, 9, 10, 11, 12, 13, 14, 15, 16, 17, 18, 19, 20, 21, 22, 23, 24, 25, 26, 27, 28, 29], [0, 1, 2, 3, 4, 5, 6, 7, 8, 9, 10, 11, 12, 13, 14, 15, 16, 17, 18, 19, 20, 21, 22, 23, 24, 25, 26, 27, 28, 29, 30], [0, 1, 2, 3, 4, 5, 6, 7, 8, 9, 10, 11, 12, 13, 14, 15, 16, 17, 18, 19, 20, 21, 22, 23, 24, 25, 26, 27, 28, 29, 30, 31], [0, 1, 2, 3, 4, 5, 6, 7, 8, 9, 10, 11, 12, 13, 14, 15, 16, 17, 18, 19, 20, 21, 22, 23, 24, 25, 26, 27], [0, 1, 2, 3, 4, 5, 6, 7, 8, 9, 10, 11, 12, 13, 14, 15, 16, 17, 18, 19, 20, 21, 22, 23, 24, 25, 26, 27, 33], [0, 1, 2, 3, 4, 5, 6, 7, 8, 9, 10, 11, 12, 13, 14, 15, 16, 17, 18, 19, 20, 21, 22, 23, 24, 25, 26, 27, 33, 34], [0, 1, 2, 3, 4, 5, 6, 7, 8, 9, 10, 11, 12, 13, 14, 15, 16, 17, 18, 19, 20, 21, 22, 23, 24, 25, 26, 27, 33, 34, 35], [0, 1, 2, 3, 4, 5, 6, 7, 8, 9, 10, 11, 12, 13, 14, 15, 16, 17, 18, 19, 20, 21, 22, 23, 24, 25, 26, 27, 33, 34, 35, 36], [0, 1, 2, 3, 4, 5, 6, 7, 8, 9, 10, 11, 12, 13, 14, 15, 16, 17, 18, 19, 20, 21, 22, 23, 24, 25, 26, 27, 28, 29, 30, 31, 32, 33, 34, 35, 36, 37], [0, 1, 2, 3, 4, 5, 6, 7, 8, 9, 10, 11, 12, 13, 14, 15, 16, 17, 18, 19, 20, 21, 22, 23, 24, 25, 26, 27, 28, 29, 30, 31, 32, 33, 34, 35, 36, 37, 38], [0, 1, 2, 3, 4, 5, 6, 7, 8, 9, 10, 11, 12, 13, 14, 15, 16, 17, 18, 19, 20, 21, 22, 23, 24, 25, 26, 27, 28, 29, 30, 31, 32, 33, 34, 35, 36, 37, 38, 39], [0, 1, 2, 3, 4, 5, 6, 7, 8, 9, 10, 11, 12, 13, 14, 15, 16, 17, 18, 19, 20, 21, 22, 23, 24, 25, 26, 27, 28, 29, 30, 31, 32, 33, 34, 35, 36, 37, 38, 39, 40], [0, 1, 2, 3, 4, 5, 6, 7, 8, 9, 10, 11, 12, 13, 14, 15, 16, 17, 18, 19, 20, 21, 22, 23, 24, 25, 26, 27, 28, 29, 30, 31, 32, 33, 34, 35, 36, 37, 38, 39, 40, 41], [0, 1, 2, 3, 4, 5, 6, 7, 8, 9, 10, 11, 12, 13, 14, 15, 16, 17, 18, 19, 20, 21, 22, 23, 24, 25, 26, 27, 28, 29, 30, 31, 32, 33, 34, 35, 36, 37, 38, 39, 40, 41, 42], [0, 1, 2, 3, 4, 5, 6, 7, 8, 9, 10, 11, 12, 13, 14, 15, 16, 17, 18, 19, 20, 21, 22, 23, 24, 25, 26, 27, 28, 29, 30, 31, 32, 33, 34, 35, 36, 37, 38, 39, 40, 41, 42, 43], [0, 1, 2, 3, 4, 5, 6, 7, 8, 9, 10, 11, 12, 13, 14, 15, 16, 17, 18, 19, 20, 21, 22, 23, 24, 25, 26, 27, 28, 29, 30, 31, 32, 33, 34, 35, 36, 37, 38, 39, 40, 41, 42, 43, 44], [0, 1, 2, 3, 4, 5, 6, 7, 8, 9, 10, 11, 12, 13, 14, 15, 16, 17, 18, 19, 20, 21, 22, 23, 24, 25, 26, 27, 28, 29, 30, 31, 32, 33, 34, 35, 36, 37, 38, 39, 40, 41, 42, 43, 44, 45], [0, 1, 2, 3, 4, 5, 6, 7, 8, 9, 10, 11, 12, 13, 14, 15, 16, 17, 18, 19, 20, 21, 22, 23, 24, 25, 26, 27, 28, 29, 30, 31, 32, 33, 34, 35, 36, 37, 38, 39, 40], [0, 1, 2, 3, 4, 5, 6, 7, 8, 9, 10, 11, 12, 13, 14, 15, 16, 17, 18, 19, 20, 21, 22, 23, 24, 25, 26, 27, 28, 29, 30, 31, 32, 33, 34, 35, 36, 37, 38, 39, 40, 41, 42, 43, 44, 45, 46, 47], [0, 1, 2, 3, 4, 5, 6, 7, 8, 9, 10, 11, 12, 13, 14, 15, 16, 17, 18, 19, 20, 21, 22, 23, 24, 25, 26, 27, 28, 29, 30, 31, 32, 33, 34, 35, 36, 37, 38, 39, 40, 41, 42, 43, 44, 45, 46, 47, 48]] mixed (ord := (.det 0 (.det 1 (.det 2 (.det 3 (.det 4 (.det 5 (.det 6 (.det 7 (.det 8 (.det 9 (.det 10 (.det 11 (.det 12 (.det 13 (.det 14 (.det 15 (.det 16 (.det 17 (.det 18 (.det 19 (.det 20 (.det 21 (.det 22 (.det 23 (.det 24 (.det 25 (.det 26 (.det 27 (.det 28 (.det 29 (.det 30 (.det 31 (.det 32 (.det 33 (.det 34 (.det 35 (.det 36 (.det 37 (.det 38 (.det 39 (.det 40 (.det 41 (.det 42 (.det 43 (.det 44 (.det 45 (.det 46 (.det 47 (.det 48 (.det 49 .done))))))))))))))))))))))))))))))))))))))))))))))))))) (by kernel_rfl) ?_   -- region 2
            refine hx_det rfl rfl rfl nofun (det_move rfl) rfl ?_
            refine hx_det rfl rfl rfl nofun (det_nilCheckB rfl) rfl ?_
            refine hx_det rfl rfl rfl nofun (det_field rfl fd43_4 rfl) rfl ?_
            refine hx_det rfl rfl rfl nofun (det_load rfl m0 (by rfl) na4 us4) rfl ?_
            refine hx_det rfl rfl rfl nofun (det_not rfl) rfl ?_
            refine hx_det rfl rfl rfl nofun (det_move rfl) rfl ?_
            refine hx_on rfl rfl rfl rfl rfl hg2_g17 nofun (det_move rfl) rfl ?_
            refine hx_on rfl rfl rfl rfl rfl hg2_g17 nofun (det_nilCheckB rfl) rfl ?_
            refine hx_on rfl rfl rfl rfl rfl hg2_g17 nofun (det_field rfl fd43_3 rfl) rfl ?_
            refine hx_on rfl rfl rfl rfl rfl hg2_g17 nofun (det_load rfl m0 (by rfl) na22 us22) rfl ?_
            refine hx_on rfl rfl rfl rfl rfl hg2_g17 nofun (det_len rfl un22) rfl ?_
            refine hx_on rfl rfl rfl rfl rfl hg2_g17 nofun (det_move rfl) rfl ?_
            refine hx_on rfl rfl rfl rfl rfl hg2_g17 nofun (det_gtr rfl rfl) rfl ?_
            refine hx_det rfl rfl rfl nofun (det_pick_off rfl hg2_g17 rfl rfl) rfl ?_
            refine hx_det rfl rfl rfl nofun (det_move rfl) rfl ?_
            refine hx_on rfl rfl rfl rfl rfl hg2_g26 nofun (det_move rfl) rfl ?_
            refine hx_on rfl rfl rfl rfl rfl hg2_g26 nofun (det_nilCheckB rfl) rfl ?_
            refine hx_on rfl rfl rfl rfl rfl hg2_g26 nofun (det_field rfl fd43_1 rfl) rfl ?_
            refine hx_on rfl rfl rfl rfl rfl hg2_g26 nofun (det_field rfl fd24_2 rfl) rfl ?_
            refine hx_on rfl rfl rfl rfl rfl hg2_g26 nofun (det_load rfl m0 (by rfl) na3 us3) rfl ?_
            refine hx_on rfl rfl rfl rfl rfl hg2_g26 nofun (det_move rfl) rfl ?_
            refine hx_on rfl rfl rfl rfl rfl hg2_g26 nofun (det_nilCheckB rfl) rfl ?_
            refine hx_on rfl rfl rfl rfl rfl hg2_g26 nofun (det_field rfl fd43_3 rfl) rfl ?_
            refine hx_on rfl rfl rfl rfl rfl hg2_g26 nofun (det_load rfl m0 (by rfl) na22 us22) rfl ?_
            refine hx_on rfl rfl rfl rfl rfl hg2_g26 nofun (det_len rfl un22) rfl ?_
            refine hx_on rfl rfl rfl rfl rfl hg2_g26 nofun (det_neq rfl rfl) rfl ?_
            refine hx_det rfl rfl rfl nofun (det_pick_off rfl hg2_g26 rfl rfl) rfl ?_
            refine hx_det rfl rfl rfl nofun (det_move rfl) rfl ?_
            refine hx_on rfl rfl rfl rfl rfl hg2_g39 nofun (det_move rfl) rfl ?_
            refine hx_on rfl rfl rfl rfl rfl hg2_g39 nofun (det_nilCheckB rfl) rfl ?_
            refine hx_on rfl rfl rfl rfl rfl hg2_g39 nofun (det_field rfl fd43_0 rfl) rfl ?_
            refine hx_on rfl rfl rfl rfl rfl hg2_g39 nofun (det_field rfl fd24_1 rfl) rfl ?_
            refine hx_on rfl rfl rfl rfl rfl hg2_g39 nofun (det_load rfl m0 (by rfl) na3 us3) rfl ?_
            refine hx_on rfl rfl rfl rfl rfl hg2_g39 nofun (det_move rfl) rfl ?_
            refine hx_on rfl rfl rfl rfl rfl hg2_g39 nofun (det_nilCheckB rfl) rfl ?_
            refine hx_on rfl rfl rfl rfl rfl hg2_g39 nofun (det_field rfl fd43_3 rfl) rfl ?_
            refine hx_on rfl rfl rfl rfl rfl hg2_g39 nofun (det_load rfl m0 (by rfl) na22 us22) rfl ?_
            refine hx_on rfl rfl rfl rfl rfl hg2_g39 nofun (det_len rfl un22) rfl ?_
            refine hx_on rfl rfl rfl rfl rfl hg2_g39 nofun (det_gtr rfl rfl) rfl ?_
            refine hx_det rfl rfl rfl nofun (det_pick_off rfl hg2_g39 rfl rfl) rfl ?_
            refine hx_det rfl rfl rfl nofun (det_move rfl) rfl ?_
            refine hx_off rfl rfl rfl rfl rfl hg2_g52 rfl ?_
            refine hx_off rfl rfl rfl rfl rfl hg2_g52 rfl ?_
            refine hx_off rfl rfl rfl rfl rfl hg2_g52 rfl ?_
            refine hx_off rfl rfl rfl rfl rfl hg2_g52 rfl ?_
            refine hx_off rfl rfl rfl rfl rfl hg2_g52 rfl ?_
            refine hx_off rfl rfl rfl rfl rfl hg2_g52 rfl ?_
            refine hx_off rfl rfl rfl rfl rfl hg2_g52 rfl ?_
            refine hx_off rfl rfl rfl rfl rfl hg2_g52 rfl ?_
            refine hx_det rfl rfl rfl nofun (det_pick_on rfl hg2_g52 rfl rfl) rfl ?_
            refine hx_end ?_
            refine wl_nil ?_
            replace h := Option.some.inj h
            subst h
            exact pn_meetG (true, ()) rfl ⟨rfl, rfl, trivial⟩ (fun _ h => h.to ⟨_, r0, ⟨_, r0, ⟨_, r0, ⟨_, r0, trivial⟩⟩⟩⟩ ⟨m0, trivial⟩)
          · have h := ifF h hg2_g52
            refine dx_region 50 [[], [0], [0, 1], [0, 1, 2], [0, 1, 2, 3], [0, 1, 2, 3, 4], [0, 1, 2, 3, 4, 5], [0, 1, 2, 3, 4, 5, 6], [0, 1, 2, 3, 4, 5, 6, 7], [0, 1, 2, 3, 4, 5, 6, 7, 8], [0, 1, 2, 3, 4, 5, 6, 7, 8, 9], [0, 1, 2, 3, 4, 5], [0, 1, 2, 3, 4, 5, 6, 7, 8, 9, 10, 11], [0, 1, 2, 3, 4, 5, 6, 7, 8, 9, 10, 11, 12], [0, 1, 2, 3, 4, 5, 6, 7, 8, 9, 10, 11, 12, 13], [0, 1, 2, 3, 4, 5, 6, 7, 8, 9, 10, 11, 12, 13, 14], [0, 1, 2, 3, 4, 5, 6, 7, 8, 9, 10, 11, 12, 13, 14, 15], [0, 1, 2, 3, 4, 5, 6, 7, 8, 9, 10, 11, 12, 13, 14, 15, 16], [0, 1, 2, 3, 4, 5, 6, 7, 8, 9, 10, 11, 12, 13, 14, 15, 16, 17], [0, 1, 2, 3, 4, 5, 6, 7, 8, 9, 10, 11, 12, 13, 14, 15, 16, 17, 18], [0, 1, 2, 3, 4, 5, 6, 7, 8, 9, 10, 11, 12, 13, 14], [0, 1, 2, 3, 4, 5, 6, 7, 8, 9, 10, 11, 12, 13, 14, 20], [0, 1, 2, 3, 4, 5, 6, 7, 8, 9, 10, 11, 12, 13, 14, 20, 21], [0, 1, 2, 3, 4, 5, 6, 7, 8, 9, 10, 11, 12, 13, 14, 20, 21, 22], [0, 1, 2, 3, 4, 5, 6, 7, 8, 9, 10, 11, 12, 13, 14, 20, 21, 22, 23], [0, 1, 2, 3, 4, 5, 6, 7, 8, 9, 10, 11, 12, 13, 14, 15, 16, 17, 18, 19, 20, 21, 22, 23, 24], [0, 1, 2, 3, 4, 5, 6, 7, 8, 9, 10, 11, 12, 13, 14, 15, 16, 17, 18, 19, 20, 21, 22, 23, 24, 25], [0, 1, 2, 3, 4, 5, 6, 7, 8, 9, 10, 11, 12, 13, 14, 15, 16, 17, 18, 19, 20, 21, 22, 23, 24, 25, 26], [0, 1, 2, 3, 4, 5, 6, 7, 8, 9, 10, 11, 12, 13, 14, 15, 16, 17, 18, 19, 20, 21, 22, 23, 24, 25, 26, 27], [0, 1, 2, 3, 4, 5, 6, 7, 8, 9, 10, 11, 12, 13, 14, 15, 16, 17, 18, 19, 20, 21, 22, 23, 24, 25, 26, 27, 28], [0, 1, 2, 3, 4, 5, 6, 7, 8, 9, 10, 11, 12, 13, 14, 15, 16, 17, 18, 19, 20, 21, 22, 23, 24, 25, 26, 27, 28, 29], [0, 1, 2, 3, 4, 5, 6, 7, 8, 9, 10, 11, 12, 13, 14, 15, 16, 17, 18, 19, 20, 21, 22, 23, 24, 25, 26, 27, 28, 29, 30], [0, 1, 2, 3, 4, 5, 6, 7, 8, 9, 10, 11, 12, 13, 14, 15, 16, 17, 18, 19, 20, 21, 22, 23, 24, 25, 26, 27, 28, 29, 30, 31], [0, 1, 2, 3, 4, 5, 6, 7, 8, 9, 10, 11, 12, 13, 14, 15, 16, 17, 18, 19, 20, 21, 22, 23, 24, 25, 26, 27], [0, 1, 2, 3, 4, 5, 6, 7, 8, 9, 10, 11, 12, 13, 14, 15, 16, 17, 18, 19, 20, 21, 22, 23, 24, 25, 26, 27, 33], [0, 1, 2, 3, 4, 5, 6, 7, 8, 9, 10, 11, 12, 13, 14, 15, 16, 17, 18, 19, 20, 21, 22, 23, 24, 25, 26, 27, 33, 34], [0, 1, 2, 3, 4, 5, 6, 7, 8, 9, 10, 11, 12, 13, 14, 15, 16, 17, 18, 19, 20, 21, 22, 23, 24, 25, 26, 27, 33, 34, 35], [0, 1, 2, 3, 4, 5, 6, 7, 8, 9, 10, 11, 12, 13, 14, 15, 16, 17, 18, 19, 20, 21, 22, 23, 24, 25, 26, 27, 33, 34, 35, 36], [0, 1, 2, 3, 4, 5, 6, 7, 8, 9, 10, 11, 12, 13, 14, 15, 16, 17, 18, 19, 20, 21, 22, 23, 24, 25, 26, 27, 28, 29, 30, 31, 32, 33, 34, 35, 36, 37], [0, 1, 2, 3, 4, 5, 6, 7, 8, 9, 10, 11, 12, 13, 14, 15, 16, 17, 18, 19, 20, 21, 22, 23, 24, 25, 26, 27, 28, 29, 30, 31, 32, 33, 34, 35, 36, 37, 38], [0, 1, 2, 3, 4, 5, 6, 7, 8, 9, 10, 11, 12, 13, 14, 15, 16, 17, 18, 19, 20, 21, 22, 23, 24, 25, 26, 27, 28, 29, 30, 31, 32, 33, 34, 35, 36, 37, 38, 39], [0, 1, 2, 3, 4, 5, 6, 7, 8, 9, 10, 11, 12, 13, 14, 15, 16, 17, 18, 19, 20, 21, 22, 23, 24, 25, 26, 27, 28, 29, 30, 31, 32, 33, 34, 35, 36, 37, 38, 39, 40], [0, 1, 2, 3, 4, 5, 6, 7, 8, 9, 10, 11, 12, 13, 14, 15, 16, 17, 18, 19, 20, 21, 22, 23, 24, 25, 26, 27, 28, 29, 30, 31, 32, 33, 34, 35, 36, 37, 38, 39, 40, 41], [0, 1, 2, 3, 4, 5, 6, 7, 8, 9, 10, 11, 12, 13, 14, 15, 16, 17, 18, 19, 20, 21, 22, 23, 24, 25, 26, 27, 28, 29, 30, 31, 32, 33, 34, 35, 36, 37, 38, 39, 40, 41, 42], [0, 1, 2, 3, 4, 5, 6, 7, 8, 9, 10, 11, 12, 13, 14, 15, 16, 17, 18, 19, 20, 21, 22, 23, 24, 25, 26, 27, 28, 29, 30, 31, 32, 33, 34, 35, 36, 37, 38, 39, 40, 41, 42, 43], [0, 1, 2, 3, 4, 5, 6, 7, 8, 9, 10, 11, 12, 13, 14, 15, 16, 17, 18, 19, 20, 21, 22, 23, 24, 25, 26, 27, 28, 29, 30, 31, 32, 33, 34, 35, 36, 37, 38, 39, 40, 41, 42, 43, 44], [0, 1, 2, 3, 4, 5, 6, 7, 8, 9, 10, 11, 12, 13, 14, 15, 16, 17, 18, 19, 20, 21, 22, 23, 24, 25, 26, 27, 28, 29, 30, 31, 32, 33, 34, 35, 36, 37, 38, 39, 40, 41, 42, 43, 44, 45], [0, 1, 2, 3, 4, 5, 6, 7, 8, 9, 10, 11, 12, 13, 14, 15, 16, 17, 18, 19, 20, 21, 22, 23, 24, 25, 26, 27, 28, 29, 30, 31, 32, 33, 34, 35, 36, 37, 38, 39, 40], [0, 1, 2, 3, 4, 5, 6, 7, 8, 9, 10, 11, 12, 13, 14, 15, 16, 17, 18, 19, 20, 21, 22, 23, 24, 25, 26, 27, 28, 29, 30, 31, 32, 33, 34, 35, 36, 37, 38, 39, 40, 41, 42, 43, 44, 45, 46, 47], [0, 1, 2, 3, 4, 5, 6, 7, 8, 9, 10, 11, 12, 13, 14, 15, 16, 17, 18, 19, 20, 21, 22, 23, 24, 25, 26, 27, 28, 29, 30, 31, 32, 33, 34, 35, 36, 37, 38, 39, 40, 41, 42, 43, 44, 45, 46, 47, 48]] mixed (ord := (.det 0 (.det 1 (.det 2 (.det 3 (.det 4 (.det 5 (.det 6 (.det 7 (.det 8 (.det 9 (.det 10 (.det 11 (.det 12 (.det 13 (.det 14 (.det 15 (.det 16 (.det 17 (.det 18 (.det 19 (.det 20 (.det 21 (.det 22 (.det 23 (.det 24 (.det 25 (.det 26 (.det 27 (.det 28 (.det 29 (.det 30 (.det 31 (.det 32 (.det 33 (.det 34 (.det 35 (.det 36 (.det 37 (.det 38 (.det 39 (.det 40 (.det 41 (.det 42 (.det 43 (.det 44 (.det 45 (.det 46 (.det 47 (.det 48 (.det 49 .done))))))))))))))))))))))))))))))))))))))))))))))))))) (by kernel_rfl) ?_   -- region 2
            refine hx_det rfl rfl rfl nofun (det_move rfl) rfl ?_
            refine hx_det rfl rfl rfl nofun (det_nilCheckB rfl) rfl ?_
            refine hx_det rfl rfl rfl nofun (det_field rfl fd43_4 rfl) rfl ?_
            refine hx_det rfl rfl rfl nofun (det_load rfl m0 (by rfl) na4 us4) rfl ?_
            refine hx_det rfl rfl rfl nofun (det_not rfl) rfl ?_
            refine hx_det rfl rfl rfl nofun (det_move rfl) rfl ?_
            refine hx_on rfl rfl rfl rfl rfl hg2_g17 nofun (det_move rfl) rfl ?_
            refine hx_on rfl rfl rfl rfl rfl hg2_g17 nofun (det_nilCheckB rfl) rfl ?_
            refine hx_on rfl rfl rfl rfl rfl hg2_g17 nofun (det_field rfl fd43_3 rfl) rfl ?_
            refine hx_on rfl rfl rfl rfl rfl hg2_g17 nofun (det_load rfl m0 (by rfl) na22 us22) rfl ?_
            refine hx_on rfl rfl rfl rfl rfl hg2_g17 nofun (det_len rfl un22) rfl ?_
            refine hx_on rfl rfl rfl rfl rfl hg2_g17 nofun (det_move rfl) rfl ?_
            refine hx_on rfl rfl rfl rfl rfl hg2_g17 nofun (det_gtr rfl rfl) rfl ?_
            refine hx_det rfl rfl rfl nofun (det_pick_off rfl hg2_g17 rfl rfl) rfl ?_
            refine hx_det rfl rfl rfl nofun (det_move rfl) rfl ?_
            refine hx_on rfl rfl rfl rfl rfl hg2_g26 nofun (det_move rfl) rfl ?_
            refine hx_on rfl rfl rfl rfl rfl hg2_g26 nofun (det_nilCheckB rfl) rfl ?_
            refine hx_on rfl rfl rfl rfl rfl hg2_g26 nofun (det_field rfl fd43_1 rfl) rfl ?_
            refine hx_on rfl rfl rfl rfl rfl hg2_g26 nofun (det_field rfl fd24_2 rfl) rfl ?_
            refine hx_on rfl rfl rfl rfl rfl hg2_g26 nofun (det_load rfl m0 (by rfl) na3 us3) rfl ?_
            refine hx_on rfl rfl rfl rfl rfl hg2_g26 nofun (det_move rfl) rfl ?_
            refine hx_on rfl rfl rfl rfl rfl hg2_g26 nofun (det_nilCheckB rfl) rfl ?_
            refine hx_on rfl rfl rfl rfl rfl hg2_g26 nofun (det_field rfl fd43_3 rfl) rfl ?_
            refine hx_on rfl rfl rfl rfl rfl hg2_g26 nofun (det_load rfl m0 (by rfl) na22 us22) rfl ?_
            refine hx_on rfl rfl rfl rfl rfl hg2_g26 nofun (det_len rfl un22) rfl ?_
            refine hx_on rfl rfl rfl rfl rfl hg2_g26 nofun (det_neq rfl rfl) rfl ?_
            refine hx_det rfl rfl rfl nofun (det_pick_off rfl hg2_g26 rfl rfl) rfl ?_
            refine hx_det rfl rfl rfl nofun (det_move rfl) rfl ?_
            refine hx_on rfl rfl rfl rfl rfl hg2_g39 nofun (det_move rfl) rfl ?_
            refine hx_on rfl rfl rfl rfl rfl hg2_g39 nofun (det_nilCheckB rfl) rfl ?_
            refine hx_on rfl rfl rfl rfl rfl hg2_g39 nofun (det_field rfl fd43_0 rfl) rfl ?_
            refine hx_on rfl rfl rfl rfl rfl hg2_g39 nofun (det_field rfl fd24_1 rfl) rfl ?_
            refine hx_on rfl rfl rfl rfl rfl hg2_g39 nofun (det_load rfl m0 (by rfl) na3 us3) rfl ?_
            refine hx_on rfl rfl rfl rfl rfl hg2_g39 nofun (det_move rfl) rfl ?_
            refine hx_on rfl rfl rfl rfl rfl hg2_g39 nofun (det_nilCheckB rfl) rfl ?_
            refine hx_on rfl rfl rfl rfl rfl hg2_g39 nofun (det_field rfl fd43_3 rfl) rfl ?_
            refine hx_on rfl rfl rfl rfl rfl hg2_g39 nofun (det_load rfl m0 (by rfl) na22 us22) rfl ?_
            refine hx_on rfl rfl rfl rfl rfl hg2_g39 nofun (det_len rfl un22) rfl ?_
            refine hx_on rfl rfl rfl rfl rfl hg2_g39 nofun (det_gtr rfl rfl) rfl ?_
            refine hx_det rfl rfl rfl nofun (det_pick_off rfl hg2_g39 rfl rfl) rfl ?_
            refine hx_det rfl rfl rfl nofun (det_move rfl) rfl ?_
            refine hx_on rfl rfl rfl rfl rfl hg2_g52 nofun (det_move rfl) rfl ?_
            refine hx_on rfl rfl rfl rfl rfl hg2_g52 nofun (det_nilCheckB rfl) rfl ?_
            refine hx_on rfl rfl rfl rfl rfl hg2_g52 nofun (det_field rfl fd43_0 rfl) rfl ?_
            refine hx_on rfl rfl rfl rfl rfl hg2_g52 nofun (det_field rfl fd24_0 rfl) rfl ?_
            refine hx_on rfl rfl rfl rfl rfl hg2_g52 nofun (det_load rfl m0 (by rfl) na22 us22) rfl ?_
            refine hx_on rfl rfl rfl rfl rfl hg2_g52 nofun (det_len rfl un22) rfl ?_
            refine hx_on rfl rfl rfl rfl rfl hg2_g52 nofun (det_move rfl) rfl ?_
            refine hx_on rfl rfl rfl rfl rfl hg2_g52 nofun (det_neq rfl rfl) rfl ?_
            refine hx_det rfl rfl rfl nofun (det_pick_off rfl hg2_g52 rfl rfl) rfl ?_
            refine hx_end ?_
            refine wl_nil ?_
            replace h := Option.some.inj h
            subst h
            exact pn_meetG ((!decide ((r1_1.1.a.Out.length : Int) = r1_1.2)), ()) rfl ⟨rfl, rfl, trivial⟩ (fun _ h => h.to ⟨_, r0, ⟨_, r0, ⟨_, r0, ⟨_, r0, trivial⟩⟩⟩⟩ ⟨m0, trivial⟩)
  rintro ⟨s5, _⟩ e5
  dsimp only at e5 ⊢
  subst e5
  have h := ho5
  refine wc_cond rfl (fun cd7 => ?_) (fun cd7 => ?_)
  · have h := ifT h cd7
    refine wc_seq ?_
    refine wc_region ?_   -- region 3
    refine wl_det rfl rfl (det_assign rfl) rfl ?_
    refine wl_nil ?_
    refine pn_then ?_
    refine wc_ret ?_
    refine pr_then ?_
    replace h := Option.some.inj h
    subst h
    refine pn_ret (vs := [_]) rfl ⟨rfl, trivial⟩ ⟨rfl, rfl, rfl⟩ (fun _ h => h.to trivial trivial)
  · have h := ifF h cd7
    refine wc_skip ?_
    refine pn_then ?_
    obtain ⟨q10, h, ho10⟩ := bind_some h
    refine wc_meetG (G := Unit × Unit) (fun (s10, _) => (.inl s10) = q10) (fun (_, _) => []) (fun (_, _) => []) (fun (_, _) => []) ?_ ?_
    · refine wc_seq ?_
      refine wc_region ?_   -- region 4
      refine wl_det rfl rfl (det_move rfl) rfl ?_
      refine wl_det rfl rfl (det_nilCheckB rfl) rfl ?_
      refine wl_det rfl rfl (det_field rfl fd43_3 rfl) rfl ?_
      refine wl_det rfl rfl (det_load rfl m0 (by rfl) na22 us22) rfl ?_
      refine wl_det rfl rfl (det_len rfl un22) rfl ?_
      refine wl_det rfl rfl (det_move rfl) rfl ?_
      refine wl_nil ?_
      refine pn_then ?_
      refine wc_block ?_
      refine wc_st (fun _ h => h.shutS (rs (rs (rs r0)))) ?_
      obtain ⟨o14, h, ho14⟩ := bind_some h
      obtain ⟨k14, hk14⟩ := loopV_some.1 h
      refine wc_loop (G := Nat × Int × Unit) (fun g => IterN (treatylaw42_LinkInOrder_l14 r1_1) g.1 g.2.1 o14) (fun g => g.1) (fun (_, s14, _) => [(65, .slice y1_1A4 r1_1.1.got.length y1_1c4), (66, .int .i64 (r1_1.1.got.length : Int)), (67, .int .i64 s14)]) (fun (_, _, _) => []) (fun (_, _, _) => [fV (lSlice (lSlice (lInt .u8))) (.slice y1_1A4 r1_1.1.got.length y1_1c4) r1_1.1.got]) (k14, 0, ()) hk14 ⟨rfl, rfl, rfl, trivial⟩ (fun _ h => h.to trivial ⟨m0, trivial⟩) ?_
      rintro ⟨k14, s14, _⟩ hI
      obtain ⟨k14, rfl, q14, h, g14⟩ := IterN.pos hI
      dsimp only at h ⊢
      unfold treatylaw42_LinkInOrder_l14 at h
      refine wc_seq ?_
      refine wc_region ?_   -- region 5
      refine wl_det rfl rfl (det_lss rfl rfl) rfl ?_
      refine wl_nil ?_
      refine pn_then ?_
      refine wc_seq ?_
      refine wc_cond rfl (fun cd18 => ?_) (fun cd18 => ?_)
      · have h := ifT h cd18
        refine wc_skip ?_
        refine pn_then ?_
        refine wc_seq ?_
        refine wc_block ?_
        refine wc_seq ?_
        refine wc_region ?_   -- region 6
        refine wl_det rfl rfl (det_move rfl) rfl ?_
        obtain ⟨k6_1, h⟩ := chk_some h
        refine wl_ex (G := Option Addr × Nat) (fun _ => _) (fun g => fPt y1_1A4 (s14.toNat * 1) [.slice g.1 (ix r1_1.1.got s14).length g.2] :: fV (lSlice (lInt .u8)) (.slice g.1 (ix r1_1.1.got s14).length g.2) (ix r1_1.1.got s14) :: _) (fun _ => True) (fun _ h => open_slice h m0 k6_1) ?_
        rintro ⟨A6_1, c6_1⟩ -
        dsimp only
        refine wl_det rfl rfl (det_indexP rfl rfl (ms (ms m0)) k6_1 m0 un22 sz25) rfl ?_
        refine wl_det rfl rfl (det_loadP (off := 0) rfl m0 (by rfl) (by rfl) (loaded_1 na25 us25)) rfl ?_
        refine wl_det rfl rfl (det_assign rfl) rfl ?_
        refine wl_det rfl rfl (det_assign rfl) rfl ?_
        refine wl_nil ?_
        refine pn_then ?_
        refine wc_seq ?_
        refine wc_region ?_   -- region 7
        refine wl_det rfl rfl (det_move rfl) rfl ?_
        refine wl_det rfl rfl (det_move rfl) rfl ?_
        obtain ⟨r7_2, hr7_2, h⟩ := bind_some h
        refine wl_act (act_callS (cap := []) (W_treatylaw42_message s14 r7_2 hr7_2) rfl rfl rfl bd13 rfl trivial) rfl rfl rfl ?_
        rintro _ _ _ ⟨_, _, ⟨y7_2A0, y7_2n0, y7_2c0, rfl, rfl, rfl⟩, rfl, rfl⟩
        dsimp only [List.nil_append, List.cons_append]
        refine wl_know (fun _ h => h.lenO m0) (fun e => ?_)
        subst e
        obtain ⟨r7_3, hr7_3, h⟩ := bind_some h
        refine wl_act (act_callL (cap := []) [eS (lInt .u8) 5 y7_2A0 r7_2.length y7_2c0 r7_2] (W_treatyref40_Same (ix r1_1.1.got s14) r7_2 A6_1 (ix r1_1.1.got s14).length c6_1 y7_2A0 r7_2.length y7_2c0 r7_3 hr7_3) plains_treatyref40_Same rfl rfl rfl bd10 rfl ⟨m0, trivial⟩ ⟨.inl (ms m0), ⟨.inr ⟨_, m0, lent_eS⟩, trivial⟩⟩) rfl rfl rfl ?_
        rintro _ _ _ ⟨_, _, ⟨rfl, rfl, rfl⟩, rfl, rfl⟩
        dsimp only [List.nil_append, List.cons_append]
        refine wl_det rfl rfl (det_not rfl) rfl ?_
        refine wl_nil ?_
        refine pn_then ?_
        refine wc_cond rfl (fun cd26 => ?_) (fun cd26 => ?_)
        · have h := ifT h cd26
          refine wc_seq ?_
          refine wc_region ?_   -- region 8
          refine wl_det rfl rfl (det_assign rfl) rfl ?_
          refine wl_nil ?_
          refine pn_then ?_
          refine wc_ret ?_
          refine pr_block ?_
          refine pr_then ?_
          refine pr_then ?_
          refine pr_block ?_
          refine pr_then ?_
          replace h := Option.some.inj h
          subst h
          replace g14 := nextR g14
          subst g14
          have h := (elimL ho14)
          replace h := Option.some.inj h
          subst h
          have h := (elimR ho10)
          replace h := Option.some.inj h
          subst h
          refine pn_ret (vs := [_]) rfl ⟨rfl, trivial⟩ ⟨rfl, rfl, rfl⟩ (fun _ h => h.to trivial trivial)
        · have h := ifF h cd26
          refine wc_skip ?_
          refine pn_block ?_
          refine pn_then ?_
          refine wc_region ?_   -- region 9
          refine wl_det rfl rfl (det_add rfl rfl) rfl ?_
          refine wl_det rfl rfl (det_move rfl) rfl ?_
          refine wl_nil ?_
          replace h := Option.some.inj h
          subst h
          exact pn_some (k14, (w64 (s14 + 1)), ()) ⟨nextL g14, Nat.lt_succ_self _⟩ ⟨rfl, rfl, rfl, trivial⟩ (fun _ h => h.to trivial ⟨(ms (ms m0)), trivial⟩)
      · have h := ifF h cd18
        refine wc_exit ?_
        refine px_then ?_
        refine px_then ?_
        refine px_block ?_
        replace h := Option.some.inj h
        subst h
        replace g14 := nextR g14
        subst g14
        have h := (elimR ho14)
        replace h := Option.some.inj h
        subst h
        exact pn_meetG ((), ()) rfl trivial (fun _ h => h.to trivial trivial)
    rintro ⟨s10, _⟩ e10
    dsimp only at e10 ⊢
    subst e10
    have h := (elimL ho10)
    refine wc_seq ?_
    refine wc_region ?_   -- region 10
    obtain ⟨r10_0, hr10_0, h⟩ := bind_some h
    refine wl_act (act_callS (cap := []) (W_treatylaw42_awake r10_0 hr10_0) rfl rfl rfl bd11 rfl trivial) rfl rfl rfl ?_
    rintro _ _ _ ⟨_, _, ⟨rfl, rfl, rfl⟩, rfl, rfl⟩
    dsimp only [List.nil_append, List.cons_append]
    refine wl_det rfl rfl (det_assign rfl) rfl ?_
    refine wl_nil ?_
    refine pn_then ?_
    refine wc_ret ?_
    replace h := Option.some.inj h
    subst h
    refine pn_ret (vs := [_]) rfl ⟨rfl, trivial⟩ ⟨rfl, rfl, rfl⟩ (fun _ h => h.to trivial trivial)
end Go.Proofs.Ytkpoflfhmjkldaa
