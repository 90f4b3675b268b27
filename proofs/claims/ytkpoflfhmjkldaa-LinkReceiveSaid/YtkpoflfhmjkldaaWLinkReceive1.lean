/- That functions of the program compute the plain programs of P. Written by a small program. -/
import Derived.Test.YtkpoflfhmjkldaaKTab
import Derived.Test.YtkpoflfhmjkldaaP
import Derived.Test.YtkpoflfhmjkldaaKArr2
import Derived.Test.YtkpoflfhmjkldaaKRF
namespace Go.Proofs.Ytkpoflfhmjkldaa
open Go.RowKit
def lGEndpoint : Lay GEndpoint := lMap (fun x => (x.Out, (x.Acked, x.Got))) (lPair (lSlice (lSlice (lInt .u8))) (lPair (lInt .i64) (lInt .i64)))
theorem viewGEndpoint {w : World} {S : Nat → Prop} {cs : List Value} {x : GEndpoint} (h : lGEndpoint.R w S cs x) : ∃ A0 c0, cs = [.slice A0 x.Out.length c0, .int .i64 x.Acked, .int .i64 x.Got] ∧ AllR w S [fV (lSlice (lSlice (lInt .u8))) (.slice A0 x.Out.length c0) x.Out] := by
  obtain ⟨_, _, rfl, ⟨A0, _, c0, rfl, rfl, l0, e0⟩, ⟨_, _, rfl, rfl, rfl⟩⟩ := h
  exact ⟨A0, c0, rfl, ⟨⟨_, _, _, rfl, rfl, l0, e0⟩, trivial⟩⟩
theorem mkGEndpoint {w : World} {S : Nat → Prop} {x : GEndpoint} {A0 : Option Addr} {n0 c0 : Nat}  (h : AllR w S [fV (lSlice (lSlice (lInt .u8))) (.slice A0 n0 c0) x.Out]) : lGEndpoint.R w S [.slice A0 n0 c0, .int .i64 x.Acked, .int .i64 x.Got] x := by
  obtain ⟨k0, _⟩ := h
  exact ⟨_, _, rfl, k0, ⟨_, _, rfl, rfl, rfl⟩⟩
def lGPacket : Lay GPacket := lMap (fun x => (x.Party, (x.Down, (x.Number, (x.Ack, x.Data))))) (lPair (lInt .i64) (lPair lBool (lPair (lInt .i64) (lPair (lInt .i64) (lSlice (lInt .u8))))))
theorem viewGPacket {w : World} {S : Nat → Prop} {cs : List Value} {x : GPacket} (h : lGPacket.R w S cs x) : ∃ A0 c0, cs = [.int .i64 x.Party, .bool x.Down, .int .i64 x.Number, .int .i64 x.Ack, .slice A0 x.Data.length c0] ∧ AllR w S [fV (lSlice (lInt .u8)) (.slice A0 x.Data.length c0) x.Data] := by
  obtain ⟨_, _, rfl, rfl, ⟨_, _, rfl, rfl, ⟨_, _, rfl, rfl, ⟨_, _, rfl, rfl, ⟨A0, _, c0, rfl, rfl, l0, e0⟩⟩⟩⟩⟩ := h
  exact ⟨A0, c0, rfl, ⟨⟨_, _, _, rfl, rfl, l0, e0⟩, trivial⟩⟩
theorem mkGPacket {w : World} {S : Nat → Prop} {x : GPacket} {A0 : Option Addr} {n0 c0 : Nat}  (h : AllR w S [fV (lSlice (lInt .u8)) (.slice A0 n0 c0) x.Data]) : lGPacket.R w S [.int .i64 x.Party, .bool x.Down, .int .i64 x.Number, .int .i64 x.Ack, .slice A0 n0 c0] x := by
  obtain ⟨k0, _⟩ := h
  exact ⟨_, _, rfl, rfl, ⟨_, _, rfl, rfl, ⟨_, _, rfl, rfl, ⟨_, _, rfl, rfl, k0⟩⟩⟩⟩
theorem openGEndpoint {C : Cx} {η : List Ent} {ι : List Fact} {w : World} {A : Option Addr} {m c : Nat} {xs : List GEndpoint} (h : St C η ι w) (hf : fV (lSlice lGEndpoint) (.slice A m c) xs ∈ ι) {i : Int} (hi : inb xs i = true) : ∃ g : Option Addr × Nat, True ∧ St C η (fPt A (i.toNat * 3) [.slice g.1 (ix xs i).Out.length g.2, .int .i64 (ix xs i).Acked, .int .i64 (ix xs i).Got] :: fV (lSlice (lSlice (lInt .u8))) (.slice g.1 (ix xs i).Out.length g.2) (ix xs i).Out :: ι) w := by
  obtain ⟨cs, hs⟩ := h.openE hf hi
  obtain ⟨A0, c0, rfl, hr⟩ := viewGEndpoint (hs.facts _ (ms m0))
  exact ⟨(A0, c0), trivial, (hs.addR hr).subFacts (sub_mid (κ := [_]))⟩
theorem openGPacket {C : Cx} {η : List Ent} {ι : List Fact} {w : World} {A : Option Addr} {m c : Nat} {xs : List GPacket} (h : St C η ι w) (hf : fV (lSlice lGPacket) (.slice A m c) xs ∈ ι) {i : Int} (hi : inb xs i = true) : ∃ g : Option Addr × Nat, True ∧ St C η (fPt A (i.toNat * 5) [.int .i64 (ix xs i).Party, .bool (ix xs i).Down, .int .i64 (ix xs i).Number, .int .i64 (ix xs i).Ack, .slice g.1 (ix xs i).Data.length g.2] :: fV (lSlice (lInt .u8)) (.slice g.1 (ix xs i).Data.length g.2) (ix xs i).Data :: ι) w := by
  obtain ⟨cs, hs⟩ := h.openE hf hi
  obtain ⟨A0, c0, rfl, hr⟩ := viewGPacket (hs.facts _ (ms m0))
  exact ⟨(A0, c0), trivial, (hs.addR hr).subFacts (sub_mid (κ := [_]))⟩
theorem bd3 : bodyB Try.prog 3 = true := by kernel_rfl
theorem bd6 : bodyB Try.prog 6 = true := by kernel_rfl
theorem bd7 : bodyB Try.prog 7 = true := by kernel_rfl
theorem bd8 : bodyB Try.prog 8 = true := by kernel_rfl
theorem bd9 : bodyB Try.prog 9 = true := by kernel_rfl
theorem bd10 : bodyB Try.prog 10 = true := by kernel_rfl
theorem bd11 : bodyB Try.prog 11 = true := by kernel_rfl
theorem bd14 : bodyB Try.prog 14 = true := by kernel_rfl
theorem bd16 : bodyB Try.prog 16 = true := by kernel_rfl
theorem bd17 : bodyB Try.prog 17 = true := by kernel_rfl
theorem bd18 : bodyB Try.prog 18 = true := by kernel_rfl
theorem bd19 : bodyB Try.prog 19 = true := by kernel_rfl
theorem bd20 : bodyB Try.prog 20 = true := by kernel_rfl
theorem bd21 : bodyB Try.prog 21 = true := by kernel_rfl
theorem bd23 : bodyB Try.prog 23 = true := by kernel_rfl
theorem bd25 : bodyB Try.prog 25 = true := by kernel_rfl
def Q_treatylaw42_few (r : GEndpoint) : Value → List Ent → List Fact → Prop := fun v θ κ => ∃ (pA0 : Option Addr), ∃ (pn0 : Nat), ∃ (pc0 : Nat), v = .agg #[.slice pA0 pn0 pc0, .int .i64 r.Acked, .int .i64 r.Got] ∧ θ = [eS (lSlice (lInt .u8)) 25 pA0 pn0 pc0 r.Out] ∧ κ = []
set_option maxHeartbeats 4000000 in
set_option maxRecDepth 100000 in
theorem W_treatylaw42_few (a0 : GEndpoint) (A0 : Option Addr) (n0 : Nat) (c0 : Nat) (r : GEndpoint) (h : treatylaw42_few a0 = some r) : Spec Try.prog 6 [.agg #[.slice A0 n0 c0, .int .i64 a0.Acked, .int .i64 a0.Got]] [] [fV (lSlice (lSlice (lInt .u8))) (.slice A0 n0 c0) a0.Out] (Q_treatylaw42_few r) := by
  unfold treatylaw42_few at h
  refine spec_of (σ := [(0, _)]) Try.func6 rfl rfl rfl rfl ?_
  intro C
  refine wc_know (fun _ h => h.lenF m0) (fun e => ?_)
  subst e
  refine wc_seq ?_
  refine wc_region ?_   -- region 0
  refine wl_act (act_box (cs := [_, _, _]) rfl rfl) rfl rfl rfl ?_
  rintro _ _ _ ⟨b0_0, rfl, rfl, rfl⟩
  refine wl_act (act_alloc (cs := [_, _, _]) zr24 rfl) rfl rfl rfl ?_
  rintro _ _ _ ⟨b0_1, rfl, rfl, rfl⟩
  refine wl_nil ?_
  refine pn_then ?_
  refine wc_seq ?_
  refine wc_region ?_   -- region 1
  refine wl_det rfl rfl (det_assign rfl) rfl ?_
  refine wl_nil ?_
  refine pn_then ?_
  obtain ⟨q4, h, ho4⟩ := bind_some h
  refine wc_meetG (G := (List (List Int)) × Option Addr × Nat × Nat × Unit) (fun (s4, _, _, _, _) => s4 = q4) (fun (_, A4_0, n4_0, c4_0, _) => [(1, .pointer (some ⟨b0_0, 0, none⟩)), (2, .pointer (some ⟨b0_1, 0, none⟩)), (3, .slice A4_0 n4_0 c4_0)]) (fun (s4, A4_0, n4_0, c4_0, _) => [eBlk b0_0 24 [.slice A0 a0.Out.length c0, .int .i64 a0.Acked, .int .i64 a0.Got], eBlk b0_1 24 [.slice none 0 0, .int .i64 0, .int .i64 0], eS (lSlice (lInt .u8)) 25 A4_0 n4_0 c4_0 s4]) (fun (_, _, _, _, _) => [fV (lSlice (lSlice (lInt .u8))) (.slice A0 a0.Out.length c0) a0.Out]) ?_ ?_
  · refine wc_seq ?_
    refine wc_region ?_   -- region 2
    refine wl_det rfl rfl (det_assign rfl) rfl ?_
    refine wl_nil ?_
    refine pn_then ?_
    refine wc_block ?_
    refine wc_st (fun _ h => h.zeroS (lSlice (lInt .u8)) 25 none) ?_
    obtain ⟨k8, hk8⟩ := loopV_some.1 h
    refine wc_loop (G := Nat × ((List (List Int)) × Int) × Option Addr × Nat × Nat × Unit) (fun g => IterN (treatylaw42_few_l8 a0) g.1 g.2.1 q4) (fun g => g.1) (fun (_, s8, A8_0, n8_0, c8_0, _) => [(1, .pointer (some ⟨b0_0, 0, none⟩)), (2, .pointer (some ⟨b0_1, 0, none⟩)), (3, .slice A8_0 n8_0 c8_0), (4, .int .i64 s8.2)]) (fun (_, s8, A8_0, n8_0, c8_0, _) => [eBlk b0_0 24 [.slice A0 a0.Out.length c0, .int .i64 a0.Acked, .int .i64 a0.Got], eBlk b0_1 24 [.slice none 0 0, .int .i64 0, .int .i64 0], eS (lSlice (lInt .u8)) 25 A8_0 n8_0 c8_0 s8.1]) (fun (_, _, _, _, _, _) => [fV (lSlice (lSlice (lInt .u8))) (.slice A0 a0.Out.length c0) a0.Out]) (k8, ([], 0), none, 0, 0, ()) hk8 ⟨rfl, rfl, rfl, rfl, trivial⟩ (fun _ h => h.to ⟨_, (rs (rs r0)), ⟨_, (rs r0), ⟨_, r0, trivial⟩⟩⟩ ⟨m0, trivial⟩) ?_
    rintro ⟨k8, s8, A8_0, n8_0, c8_0, _⟩ hI
    obtain ⟨k8, rfl, q8, h, g8⟩ := IterN.pos hI
    dsimp only at h ⊢
    unfold treatylaw42_few_l8 at h
    refine wc_know (fun _ h => h.lenO (ms (ms m0))) (fun e => ?_)
    subst e
    refine wc_seq ?_
    refine wc_seq ?_
    refine wc_region ?_   -- region 3
    refine wl_det rfl rfl (det_move rfl) rfl ?_
    refine wl_det rfl rfl (det_field rfl fd24_0 rfl) rfl ?_
    refine wl_det rfl rfl (det_load rfl m0 (by rfl) na22 us22) rfl ?_
    refine wl_det rfl rfl (det_len rfl un22) rfl ?_
    refine wl_det rfl rfl (det_lss rfl rfl) rfl ?_
    refine wl_det rfl rfl (det_move rfl) rfl ?_
    refine wl_way (decide (s8.2 < (a0.Out.length : Int))) ((decide (s8.2 < (a0.Out.length : Int))) && (decide (s8.2 < 12))) 3 13 (fun hg => ?_) (fun hg => ?_) ?_
    · have hg3_8 := hg
      refine wl_on rfl rfl rfl rfl hg3_8 ?_
      refine wl_det rfl rfl (det_move rfl) rfl ?_
      refine wl_on rfl rfl rfl rfl hg3_8 ?_
      refine wl_det rfl rfl (det_lss rfl rfl) rfl ?_
      refine wl_det rfl rfl (det_and_on rfl rfl rfl hg3_8) rfl ?_
      exact wl_nil (pn_qnE (ext_cons rfl (ext_skip rfl (ext_skip rfl (ext_skip rfl ext_refl)))) (fun _ h => h))
    · have hg3_8a := hg
      refine wl_off rfl rfl rfl rfl rfl hg3_8a rfl ?_
      refine wl_off rfl rfl rfl rfl rfl hg3_8a rfl ?_
      refine wl_det rfl rfl (det_and_off (q := (decide (s8.2 < 12))) rfl rfl rfl hg3_8a) rfl ?_
      exact wl_nil (pn_qnE (ext_cons rfl (ext_skip rfl (ext_skip rfl (ext_skip rfl ext_refl)))) (fun _ h => h))
    refine wl_nil ?_
    refine pn_then ?_
    refine wc_cond rfl (fun cd12 => ?_) (fun cd12 => ?_)
    · have h := ifT h cd12
      refine wc_skip ?_
      refine pn_then ?_
      refine wc_seq ?_
      refine wc_block ?_
      obtain ⟨k5_p1, h⟩ := chk_some h
      refine wc_ex (G := Option Addr × Nat) (fun _ => _) (fun g => fPt A0 (s8.2.toNat * 1) [.slice g.1 (ix a0.Out s8.2).length g.2] :: fV (lSlice (lInt .u8)) (.slice g.1 (ix a0.Out s8.2).length g.2) (ix a0.Out s8.2) :: _) (fun _ => True) (fun _ h => open_slice h m0 k5_p1) ?_
      rintro ⟨A5_p1, c5_p1⟩ -
      dsimp only
      obtain ⟨k5_p3, h⟩ := chk_some h
      obtain ⟨k5_p4, h⟩ := chk_some h
      obtain ⟨k5_p5, h⟩ := chk_some h
      refine dx_region 15 [[], [], [1], [], [1, 2, 3], [1, 2, 3, 4], [], [6], [], [6, 7, 8], [6, 7, 8, 9], [6, 7, 8, 9, 10], [6, 7, 8, 9, 10, 11], [1, 2, 3, 4, 5, 6, 7, 8, 9, 10, 11, 12], [1, 2, 3, 4, 5, 6, 7, 8, 9, 10, 11, 12, 13], [0, 1, 2, 3, 4, 5, 6, 7, 8, 9, 10, 11, 12, 13, 14], [0, 1, 2, 3, 4, 5, 6, 7, 8, 9, 10, 11, 12, 13, 14, 15]] mixed (ord := (.det 0 (.det 1 (.det 2 (.det 3 (.det 4 (.det 5 (.det 6 (.det 7 (.det 8 (.det 9 (.det 10 (.det 11 (.det 12 (.alt 13 (.alt 14 .done .dead) .dead))))))))))))))) (by kernel_rfl) ?_   -- region 5
      refine hx_det rfl rfl rfl nofun (det_move rfl) rfl ?_
      refine hx_det rfl rfl rfl nofun (det_field rfl fd24_0 rfl) rfl ?_
      refine hx_det rfl rfl rfl nofun (det_load rfl m0 (by rfl) na22 us22) rfl ?_
      refine hx_det rfl rfl rfl nofun (det_move rfl) rfl ?_
      refine hx_det rfl rfl rfl nofun (det_indexP rfl rfl (ms (ms m0)) k5_p1 m0 un22 sz25) rfl ?_
      refine hx_det rfl rfl rfl nofun (det_loadP (off := 0) rfl m0 (by rfl) (by rfl) (loaded_1 na25 us25)) rfl ?_
      refine hx_det rfl rfl rfl nofun (det_field rfl fd24_0 rfl) rfl ?_
      refine hx_det rfl rfl rfl nofun (det_load rfl m0 (by rfl) na22 us22) rfl ?_
      refine hx_det rfl rfl rfl nofun (det_move rfl) rfl ?_
      refine hx_det rfl rfl rfl nofun (det_indexP rfl rfl (ms (ms m0)) k5_p1 m0 un22 sz25) rfl ?_
      refine hx_det rfl rfl rfl nofun (det_loadP (off := 0) rfl m0 (by rfl) (by rfl) (loaded_1 na25 us25)) rfl ?_
      refine hx_det rfl rfl rfl nofun (det_len rfl un25) rfl ?_
      refine hx_det rfl rfl rfl nofun (det_minI rfl rfl) rfl ?_
      refine hx_act rfl rfl rfl (act_sliceH rfl rfl (ms m0) un25 sz5 rfl k5_p3 k5_p4) rfl (by rintro _ _ _ ⟨A5_13, c5_13, rfl, rfl, rfl⟩; first | exact ⟨_ :: [], [], rfl, rfl⟩ | exact ⟨[], [_], rfl, rfl⟩ | exact ⟨[], [], rfl, rfl⟩) ?_
      rintro _ _ _ ⟨A5_13, c5_13, rfl, rfl, rfl⟩
      refine hx_act rfl rfl rfl (act_litS (lSlice (lInt .u8)) (vs := [_]) (cs := [_]) [((ix a0.Out s8.2).take (minI ((ix a0.Out s8.2).length : Int) 20).toNat)] un22 in25 rfl rfl rfl rfl rfl ⟨rfl, trivial⟩ (by rfl) rfl (fun _ h => by have q := oneV h m0; exact q)) rfl (by rintro _ _ _ ⟨A5_14, rfl, rfl, rfl⟩; first | exact ⟨_ :: [], [], rfl, rfl⟩ | exact ⟨[], [_], rfl, rfl⟩ | exact ⟨[], [], rfl, rfl⟩) ?_
      rintro _ _ _ ⟨A5_14, rfl, rfl, rfl⟩
      refine hx_end ?_
      refine wl_act (act_appendS (L := (lSlice (lInt .u8))) rfl rfl (ss (ss (ss s0))) (src_O m0) un22 in25 rfl rfl rfl k5_p5) rfl rfl rfl ?_
      rintro _ _ _ ⟨A5_15, c5_15, rfl, rfl, rfl⟩
      refine wl_det rfl rfl (det_assign rfl) rfl ?_
      refine wl_nil ?_
      refine pn_block ?_
      refine pn_then ?_
      refine wc_region ?_   -- region 4
      refine wl_det rfl rfl (det_move rfl) rfl ?_
      refine wl_det rfl rfl (det_add rfl rfl) rfl ?_
      refine wl_det rfl rfl (det_assign rfl) rfl ?_
      refine wl_nil ?_
      replace h := Option.some.inj h
      subst h
      exact pn_some (k8, ((s8.1 ++ [((ix a0.Out s8.2).take (minI ((ix a0.Out s8.2).length : Int) 20).toNat)]), (w64 (s8.2 + 1))), A5_15, (s8.1 ++ [((ix a0.Out s8.2).take (minI ((ix a0.Out s8.2).length : Int) 20).toNat)]).length, c5_15, ()) ⟨nextL g8, Nat.lt_succ_self _⟩ ⟨rfl, rfl, rfl, rfl, trivial⟩ (fun _ h => h.to ⟨_, (rs r0), ⟨_, (rs r0), ⟨_, (rs r0), trivial⟩⟩⟩ ⟨(ms (ms (ms m0))), trivial⟩)
    · have h := ifF h cd12
      refine wc_exit ?_
      refine px_then ?_
      refine px_then ?_
      refine px_block ?_
      replace h := Option.some.inj h
      subst h
      replace g8 := nextR g8
      subst g8
      exact pn_meetG (s8.1, A8_0, s8.1.length, c8_0, ()) rfl ⟨rfl, rfl, rfl, trivial⟩ (fun _ h => h.to ⟨_, r0, ⟨_, r0, ⟨_, r0, trivial⟩⟩⟩ ⟨m0, trivial⟩)
  rintro ⟨s4, A4_0, n4_0, c4_0, _⟩ e4
  dsimp only at e4 ⊢
  subst e4
  have h := ho4
  refine wc_know (fun _ h => h.lenO (ms (ms m0))) (fun e => ?_)
  subst e
  refine wc_seq ?_
  refine wc_region ?_   -- region 6
  refine wl_det rfl rfl (det_move rfl) rfl ?_
  refine wl_det rfl rfl (det_field rfl fd24_0 rfl) rfl ?_
  refine wl_act0 (act_store (cells := [_]) (cs' := [_, _, _]) rfl rfl rfl s0 (by rfl) (of_decide_eq_true rfl) sz22 ⟨rfl, trivial⟩) rfl rfl ?_
  rintro _ _ _ ⟨rfl, rfl⟩
  refine wl_nil ?_
  refine pn_then ?_
  refine wc_seq ?_
  refine wc_region ?_   -- region 7
  refine wl_det rfl rfl (det_loadN (cells := [_, _, _]) rfl m0 (by rfl) ag24 sz24) rfl ?_
  refine wl_act0 (act_store (cells := [_, _, _]) (cs' := [_, _, _]) rfl rfl rfl (ss s0) (by rfl) (of_decide_eq_true rfl) sz24 ⟨rfl, rfl, rfl, trivial⟩) rfl rfl ?_
  rintro _ _ _ ⟨rfl, rfl⟩
  refine wl_nil ?_
  refine pn_then ?_
  refine wc_ret ?_
  replace h := Option.some.inj h
  subst h
  refine pn_ret (vs := [_]) rfl ⟨⟨_, _, [_, _, _], rfl, (ms m0), ag24, sz24, rfl⟩, trivial⟩ ⟨A4_0, s4.length, c4_0, rfl, rfl, rfl⟩ (fun _ h => h.to ⟨_, (rs (rs r0)), trivial⟩ trivial)
def Q_link_Valid (r : Bool) : Value → List Ent → List Fact → Prop := fun v θ κ => v = .bool r ∧ θ = [] ∧ κ = []
theorem plains_link_Valid {r : Bool} : ∀ v θ κ, Q_link_Valid r v θ κ → Plains θ := by
  rintro _ _ _ ⟨rfl, rfl, rfl⟩
  exact trivial
set_option maxHeartbeats 4000000 in
set_option maxRecDepth 100000 in
theorem W_link_Valid (a0 : GEndpoint) (A0 : Option Addr) (n0 : Nat) (c0 : Nat) (r : Bool) (h : link_Valid a0 = some r) : Spec Try.prog 16 [.agg #[.slice A0 n0 c0, .int .i64 a0.Acked, .int .i64 a0.Got]] [] [fV (lSlice (lSlice (lInt .u8))) (.slice A0 n0 c0) a0.Out] (Q_link_Valid r) := by
  unfold link_Valid at h
  refine spec_of (σ := [(0, _)]) Try.func16 rfl rfl rfl rfl ?_
  intro C
  refine wc_know (fun _ h => h.lenF m0) (fun e => ?_)
  subst e
  refine wc_seq ?_
  refine wc_region ?_   -- region 0
  refine wl_act (act_box (cs := [_, _, _]) rfl rfl) rfl rfl rfl ?_
  rintro _ _ _ ⟨b0_0, rfl, rfl, rfl⟩
  refine wl_det rfl rfl (det_assign rfl) rfl ?_
  refine wl_nil ?_
  refine pn_then ?_
  refine wc_seq ?_
  refine wc_region ?_   -- region 1
  refine wl_det rfl rfl (det_field rfl fd24_1 rfl) rfl ?_
  refine wl_det rfl rfl (det_load rfl m0 (by rfl) na3 us3) rfl ?_
  refine wl_det rfl rfl (det_geq rfl rfl) rfl ?_
  refine wl_det rfl rfl (det_move rfl) rfl ?_
  refine wl_way (decide (0 ≤ a0.Acked)) ((decide (0 ≤ a0.Acked)) && (decide (a0.Acked ≤ (a0.Out.length : Int)))) 7 13 (fun hg => ?_) (fun hg => ?_) ?_
  · have hg1_10 := hg
    refine wl_on rfl rfl rfl rfl hg1_10 ?_
    refine wl_det rfl rfl (det_field rfl fd24_1 rfl) rfl ?_
    refine wl_on rfl rfl rfl rfl hg1_10 ?_
    refine wl_det rfl rfl (det_load rfl m0 (by rfl) na3 us3) rfl ?_
    refine wl_on rfl rfl rfl rfl hg1_10 ?_
    refine wl_det rfl rfl (det_field rfl fd24_0 rfl) rfl ?_
    refine wl_on rfl rfl rfl rfl hg1_10 ?_
    refine wl_det rfl rfl (det_load rfl m0 (by rfl) na22 us22) rfl ?_
    refine wl_on rfl rfl rfl rfl hg1_10 ?_
    refine wl_det rfl rfl (det_len rfl un22) rfl ?_
    refine wl_on rfl rfl rfl rfl hg1_10 ?_
    refine wl_det rfl rfl (det_leq rfl rfl) rfl ?_
    refine wl_det rfl rfl (det_and_on rfl rfl rfl hg1_10) rfl ?_
    exact wl_nil (pn_qnE (ext_cons rfl (ext_skip rfl (ext_skip rfl (ext_skip rfl (ext_skip rfl (ext_skip rfl (ext_skip rfl (ext_skip rfl ext_refl)))))))) (fun _ h => h))
  · have hg1_10a := hg
    refine wl_off rfl rfl rfl rfl rfl hg1_10a rfl ?_
    refine wl_off rfl rfl rfl rfl rfl hg1_10a rfl ?_
    refine wl_off rfl rfl rfl rfl rfl hg1_10a rfl ?_
    refine wl_off rfl rfl rfl rfl rfl hg1_10a rfl ?_
    refine wl_off rfl rfl rfl rfl rfl hg1_10a rfl ?_
    refine wl_off rfl rfl rfl rfl rfl hg1_10a rfl ?_
    refine wl_det rfl rfl (det_and_off (q := (decide (a0.Acked ≤ (a0.Out.length : Int)))) rfl rfl rfl hg1_10a) rfl ?_
    exact wl_nil (pn_qnE (ext_cons rfl (ext_skip rfl (ext_skip rfl (ext_skip rfl (ext_skip rfl (ext_skip rfl (ext_skip rfl (ext_skip rfl ext_refl)))))))) (fun _ h => h))
  refine wl_det rfl rfl (det_move rfl) rfl ?_
  refine wl_way ((decide (0 ≤ a0.Acked)) && (decide (a0.Acked ≤ (a0.Out.length : Int)))) (((decide (0 ≤ a0.Acked)) && (decide (a0.Acked ≤ (a0.Out.length : Int)))) && (decide ((a0.Out.length : Int) ≤ 4096))) 5 19 (fun hg => ?_) (fun hg => ?_) ?_
  · have hg1_16 := hg
    refine wl_on rfl rfl rfl rfl hg1_16 ?_
    refine wl_det rfl rfl (det_field rfl fd24_0 rfl) rfl ?_
    refine wl_on rfl rfl rfl rfl hg1_16 ?_
    refine wl_det rfl rfl (det_load rfl m0 (by rfl) na22 us22) rfl ?_
    refine wl_on rfl rfl rfl rfl hg1_16 ?_
    refine wl_det rfl rfl (det_len rfl un22) rfl ?_
    refine wl_on rfl rfl rfl rfl hg1_16 ?_
    refine wl_det rfl rfl (det_leq rfl rfl) rfl ?_
    refine wl_det rfl rfl (det_and_on rfl rfl rfl hg1_16) rfl ?_
    exact wl_nil (pn_qnE (ext_cons rfl (ext_skip rfl (ext_skip rfl (ext_skip rfl (ext_skip rfl (ext_skip rfl ext_refl)))))) (fun _ h => h))
  · have hg1_16a := hg
    refine wl_off rfl rfl rfl rfl rfl hg1_16a rfl ?_
    refine wl_off rfl rfl rfl rfl rfl hg1_16a rfl ?_
    refine wl_off rfl rfl rfl rfl rfl hg1_16a rfl ?_
    refine wl_off rfl rfl rfl rfl rfl hg1_16a rfl ?_
    refine wl_det rfl rfl (det_and_off (q := (decide ((a0.Out.length : Int) ≤ 4096))) rfl rfl rfl hg1_16a) rfl ?_
    exact wl_nil (pn_qnE (ext_cons rfl (ext_skip rfl (ext_skip rfl (ext_skip rfl (ext_skip rfl (ext_skip rfl ext_refl)))))) (fun _ h => h))
  refine wl_det rfl rfl (det_move rfl) rfl ?_
  refine wl_way (((decide (0 ≤ a0.Acked)) && (decide (a0.Acked ≤ (a0.Out.length : Int)))) && (decide ((a0.Out.length : Int) ≤ 4096))) ((((decide (0 ≤ a0.Acked)) && (decide (a0.Acked ≤ (a0.Out.length : Int)))) && (decide ((a0.Out.length : Int) ≤ 4096))) && (decide (0 ≤ a0.Got))) 4 24 (fun hg => ?_) (fun hg => ?_) ?_
  · have hg1_21 := hg
    refine wl_on rfl rfl rfl rfl hg1_21 ?_
    refine wl_det rfl rfl (det_field rfl fd24_2 rfl) rfl ?_
    refine wl_on rfl rfl rfl rfl hg1_21 ?_
    refine wl_det rfl rfl (det_load rfl m0 (by rfl) na3 us3) rfl ?_
    refine wl_on rfl rfl rfl rfl hg1_21 ?_
    refine wl_det rfl rfl (det_geq rfl rfl) rfl ?_
    refine wl_det rfl rfl (det_and_on rfl rfl rfl hg1_21) rfl ?_
    exact wl_nil (pn_qnE (ext_cons rfl (ext_skip rfl (ext_skip rfl (ext_skip rfl (ext_skip rfl ext_refl))))) (fun _ h => h))
  · have hg1_21a := hg
    refine wl_off rfl rfl rfl rfl rfl hg1_21a rfl ?_
    refine wl_off rfl rfl rfl rfl rfl hg1_21a rfl ?_
    refine wl_off rfl rfl rfl rfl rfl hg1_21a rfl ?_
    refine wl_det rfl rfl (det_and_off (q := (decide (0 ≤ a0.Got))) rfl rfl rfl hg1_21a) rfl ?_
    exact wl_nil (pn_qnE (ext_cons rfl (ext_skip rfl (ext_skip rfl (ext_skip rfl (ext_skip rfl ext_refl))))) (fun _ h => h))
  refine wl_det rfl rfl (det_move rfl) rfl ?_
  refine wl_way ((((decide (0 ≤ a0.Acked)) && (decide (a0.Acked ≤ (a0.Out.length : Int)))) && (decide ((a0.Out.length : Int) ≤ 4096))) && (decide (0 ≤ a0.Got))) (((((decide (0 ≤ a0.Acked)) && (decide (a0.Acked ≤ (a0.Out.length : Int)))) && (decide ((a0.Out.length : Int) ≤ 4096))) && (decide (0 ≤ a0.Got))) && (decide (a0.Got ≤ 4096))) 4 29 (fun hg => ?_) (fun hg => ?_) ?_
  · have hg1_26 := hg
    refine wl_on rfl rfl rfl rfl hg1_26 ?_
    refine wl_det rfl rfl (det_field rfl fd24_2 rfl) rfl ?_
    refine wl_on rfl rfl rfl rfl hg1_26 ?_
    refine wl_det rfl rfl (det_load rfl m0 (by rfl) na3 us3) rfl ?_
    refine wl_on rfl rfl rfl rfl hg1_26 ?_
    refine wl_det rfl rfl (det_leq rfl rfl) rfl ?_
    refine wl_det rfl rfl (det_and_on rfl rfl rfl hg1_26) rfl ?_
    exact wl_nil (pn_qnE (ext_cons rfl (ext_skip rfl (ext_skip rfl (ext_skip rfl (ext_skip rfl ext_refl))))) (fun _ h => h))
  · have hg1_26a := hg
    refine wl_off rfl rfl rfl rfl rfl hg1_26a rfl ?_
    refine wl_off rfl rfl rfl rfl rfl hg1_26a rfl ?_
    refine wl_off rfl rfl rfl rfl rfl hg1_26a rfl ?_
    refine wl_det rfl rfl (det_and_off (q := (decide (a0.Got ≤ 4096))) rfl rfl rfl hg1_26a) rfl ?_
    exact wl_nil (pn_qnE (ext_cons rfl (ext_skip rfl (ext_skip rfl (ext_skip rfl (ext_skip rfl ext_refl))))) (fun _ h => h))
  refine wl_det rfl rfl (det_assign rfl) rfl ?_
  refine wl_nil ?_
  refine pn_then ?_
  refine wc_ret ?_
  replace h := Option.some.inj h
  subst h
  refine pn_ret (vs := [_]) rfl ⟨rfl, trivial⟩ ⟨rfl, rfl, rfl⟩ (fun _ h => h.to trivial trivial)
def Q_slices_Clone_s_byte_byte (r : (List Int)) : Value → List Ent → List Fact → Prop := fun v θ κ => ∃ (pA0 : Option Addr), ∃ (pn0 : Nat), ∃ (pc0 : Nat), v = .slice pA0 pn0 pc0 ∧ θ = [eS (lInt .u8) 5 pA0 pn0 pc0 r] ∧ κ = []
theorem plains_slices_Clone_s_byte_byte {r : (List Int)} : ∀ v θ κ, Q_slices_Clone_s_byte_byte r v θ κ → Plains θ := by
  rintro _ _ _ ⟨_, _, _, rfl, rfl, rfl⟩
  exact ⟨plain_eS, trivial⟩
set_option maxHeartbeats 4000000 in
set_option maxRecDepth 100000 in
theorem W_slices_Clone_s_byte_byte (a0 : (List Int)) (A0 : Option Addr) (n0 : Nat) (c0 : Nat) (r : (List Int)) (h : slices_Clone_s_byte_byte a0 = some r) : Spec Try.prog 18 [.slice A0 n0 c0] [] [fV (lSlice (lInt .u8)) (.slice A0 n0 c0) a0] (Q_slices_Clone_s_byte_byte r) := by
  unfold slices_Clone_s_byte_byte at h
  refine spec_of (σ := [(0, _)]) Try.func18 rfl rfl rfl rfl ?_
  intro C
  refine wc_know (fun _ h => h.lenF m0) (fun e => ?_)
  subst e
  refine wc_seq ?_
  refine wc_region ?_   -- region 0
  refine wl_det rfl rfl (det_assign rfl) rfl ?_
  refine wl_nil ?_
  refine pn_then ?_
  refine wc_seq ?_
  refine wc_seq ?_
  refine wc_region ?_   -- region 1
  refine wl_det rfl rfl (det_move rfl) rfl ?_
  refine wl_det rfl rfl (det_eqlNil rfl rfl un25) rfl ?_
  refine wl_nil ?_
  refine pn_then ?_
  refine wc_cond rfl (fun cd5 => ?_) (fun cd5 => ?_)
  · refine wc_know (fun _ h => h.nilF m0 cd5) (fun e => ?_)
    subst e
    have h := clone_nil h
    refine wc_seq ?_
    refine wc_region ?_   -- region 2
    refine wl_det rfl rfl (det_assign rfl) rfl ?_
    refine wl_nil ?_
    refine pn_then ?_
    refine wc_ret ?_
    refine pr_then ?_
    refine pn_st (fun _ h => h.zeroS (lInt .u8) 5 none) ?_
    replace h := Option.some.inj h
    subst h
    refine pn_ret (vs := [_]) rfl ⟨rfl, trivial⟩ ⟨none, 0, 0, rfl, rfl, rfl⟩ (fun _ h => h.to ⟨_, r0, trivial⟩ trivial)
  · refine wc_skip ?_
    refine pn_then ?_
    refine wc_seq ?_
    refine wc_region ?_   -- region 3
    refine wl_act (act_lit0S (lInt .u8) un25 (by kernel_rfl)) rfl rfl rfl ?_
    rintro _ _ _ ⟨A3_0, rfl, rfl, rfl⟩
    refine wl_det rfl rfl (det_move rfl) rfl ?_
    obtain ⟨k3_2, h⟩ := chk_some h
    refine wl_act (act_appendS0 (L := (lInt .u8)) rfl rfl s0 (src_F m0) un25 in5 rfl rfl rfl k3_2) rfl rfl rfl ?_
    rintro _ _ _ ⟨A3_2, c3_2, rfl, rfl, rfl⟩
    refine wl_det rfl rfl (det_assign rfl) rfl ?_
    refine wl_nil ?_
    refine pn_then ?_
    refine wc_ret ?_
    replace h := Option.some.inj h
    subst h
    refine pn_ret (vs := [_]) rfl ⟨rfl, trivial⟩ ⟨A3_2, a0.length, c3_2, rfl, rfl, rfl⟩ (fun _ h => h.to ⟨_, r0, trivial⟩ trivial)
def Q_link_copied (r : GEndpoint) : Value → List Ent → List Fact → Prop := fun v θ κ => ∃ (pA0 : Option Addr), ∃ (pn0 : Nat), ∃ (pc0 : Nat), v = .agg #[.slice pA0 pn0 pc0, .int .i64 r.Acked, .int .i64 r.Got] ∧ θ = [eS (lSlice (lInt .u8)) 25 pA0 pn0 pc0 r.Out] ∧ κ = []
set_option maxHeartbeats 4000000 in
set_option maxRecDepth 100000 in
theorem W_link_copied (a0 : GEndpoint) (A0 : Option Addr) (n0 : Nat) (c0 : Nat) (r : GEndpoint) (h : link_copied a0 = some r) : Spec Try.prog 17 [.agg #[.slice A0 n0 c0, .int .i64 a0.Acked, .int .i64 a0.Got]] [] [fV (lSlice (lSlice (lInt .u8))) (.slice A0 n0 c0) a0.Out] (Q_link_copied r) := by
  unfold link_copied at h
  refine spec_of (σ := [(0, _)]) Try.func17 rfl rfl rfl rfl ?_
  intro C
  refine wc_know (fun _ h => h.lenF m0) (fun e => ?_)
  subst e
  refine wc_seq ?_
  refine wc_region ?_   -- region 0
  refine wl_act (act_box (cs := [_, _, _]) rfl rfl) rfl rfl rfl ?_
  rintro _ _ _ ⟨b0_0, rfl, rfl, rfl⟩
  refine wl_act (act_alloc (cs := [_, _, _]) zr24 rfl) rfl rfl rfl ?_
  rintro _ _ _ ⟨b0_1, rfl, rfl, rfl⟩
  refine wl_nil ?_
  refine pn_then ?_
  refine wc_seq ?_
  refine wc_region ?_   -- region 1
  refine wl_det rfl rfl (det_field rfl fd24_0 rfl) rfl ?_
  refine wl_det rfl rfl (det_load rfl (ms m0) (by rfl) na22 us22) rfl ?_
  refine wl_det rfl rfl (det_len rfl un22) rfl ?_
  obtain ⟨k1_3, h⟩ := chk_some h
  obtain ⟨k1_3a, h⟩ := chk_some h
  refine wl_act (act_makeS (L := (lSlice (lInt .u8))) (x0 := ([] : (List Int))) rfl rfl un22 in25 (by refine ⟨rfl, fun _ _ => ?_⟩; first | exact rfl | exact ⟨_, _, _, rfl, rfl, Nat.zero_le _, .inl rfl⟩) rfl rfl k1_3 (decide_eq_true (Int.le_refl _)) k1_3a) rfl rfl rfl ?_
  rintro _ _ _ ⟨A1_3, c1_3, rfl, rfl, rfl⟩
  refine wl_det rfl rfl (det_assign rfl) rfl ?_
  refine wl_nil ?_
  refine pn_then ?_
  obtain ⟨q4, h, ho4⟩ := bind_some h
  refine wc_meetG (G := (List (List Int)) × Unit) (fun (s4, _) => s4 = q4) (fun (_, _) => [(1, .pointer (some ⟨b0_0, 0, none⟩)), (2, .pointer (some ⟨b0_1, 0, none⟩)), (3, .slice A1_3 (List.replicate (a0.Out.length : Int).toNat ([] : (List Int))).length c1_3)]) (fun (s4, _) => [eBlk b0_0 24 [.slice A0 a0.Out.length c0, .int .i64 a0.Acked, .int .i64 a0.Got], eBlk b0_1 24 [.slice none 0 0, .int .i64 0, .int .i64 0], eS (lSlice (lInt .u8)) 25 A1_3 (List.replicate (a0.Out.length : Int).toNat ([] : (List Int))).length c1_3 s4]) (fun (_, _) => [fV (lSlice (lSlice (lInt .u8))) (.slice A0 a0.Out.length c0) a0.Out]) ?_ ?_
  · refine wc_seq ?_
    refine wc_region ?_   -- region 2
    refine wl_det rfl rfl (det_field rfl fd24_0 rfl) rfl ?_
    refine wl_det rfl rfl (det_load rfl (ms (ms m0)) (by rfl) na22 us22) rfl ?_
    refine wl_det rfl rfl (det_len rfl un22) rfl ?_
    refine wl_det rfl rfl (det_move rfl) rfl ?_
    refine wl_nil ?_
    refine pn_then ?_
    refine wc_block ?_
    obtain ⟨k8, hk8⟩ := loopV_some.1 h
    refine wc_loop (G := Nat × ((List (List Int)) × Int) × Unit) (fun g => IterN (link_copied_l8 a0) g.1 g.2.1 q4) (fun g => g.1) (fun (_, s8, _) => [(1, .pointer (some ⟨b0_0, 0, none⟩)), (2, .pointer (some ⟨b0_1, 0, none⟩)), (3, .slice A1_3 (List.replicate (a0.Out.length : Int).toNat ([] : (List Int))).length c1_3), (11, .slice A0 a0.Out.length c0), (12, .int .i64 (a0.Out.length : Int)), (13, .int .i64 s8.2)]) (fun (_, s8, _) => [eBlk b0_0 24 [.slice A0 a0.Out.length c0, .int .i64 a0.Acked, .int .i64 a0.Got], eBlk b0_1 24 [.slice none 0 0, .int .i64 0, .int .i64 0], eS (lSlice (lInt .u8)) 25 A1_3 (List.replicate (a0.Out.length : Int).toNat ([] : (List Int))).length c1_3 s8.1]) (fun (_, _, _) => [fV (lSlice (lSlice (lInt .u8))) (.slice A0 a0.Out.length c0) a0.Out]) (k8, ((List.replicate (a0.Out.length : Int).toNat ([] : (List Int))), 0), ()) hk8 ⟨rfl, rfl, rfl, rfl, rfl, rfl, trivial⟩ (fun _ h => h.to ⟨_, (rs (rs r0)), ⟨_, (rs r0), ⟨_, r0, trivial⟩⟩⟩ ⟨m0, trivial⟩) ?_
    rintro ⟨k8, s8, _⟩ hI
    obtain ⟨k8, rfl, q8, h, g8⟩ := IterN.pos hI
    dsimp only at h ⊢
    unfold link_copied_l8 at h
    refine wc_seq ?_
    refine wc_region ?_   -- region 3
    refine wl_det rfl rfl (det_lss rfl rfl) rfl ?_
    refine wl_nil ?_
    refine pn_then ?_
    refine wc_seq ?_
    refine wc_cond rfl (fun cd12 => ?_) (fun cd12 => ?_)
    · have h := ifT h cd12
      refine wc_skip ?_
      refine pn_then ?_
      refine wc_seq ?_
      refine wc_block ?_
      refine wc_seq ?_
      refine wc_region ?_   -- region 4
      refine wl_det rfl rfl (det_move rfl) rfl ?_
      obtain ⟨k4_1, h⟩ := chk_some h
      refine wl_ex (G := Option Addr × Nat) (fun _ => _) (fun g => fPt A0 (s8.2.toNat * 1) [.slice g.1 (ix a0.Out s8.2).length g.2] :: fV (lSlice (lInt .u8)) (.slice g.1 (ix a0.Out s8.2).length g.2) (ix a0.Out s8.2) :: _) (fun _ => True) (fun _ h => open_slice h m0 k4_1) ?_
      rintro ⟨A4_1, c4_1⟩ -
      dsimp only
      refine wl_det rfl rfl (det_indexP rfl rfl (ms (ms m0)) k4_1 m0 un22 sz25) rfl ?_
      refine wl_det rfl rfl (det_loadP (off := 0) rfl m0 (by rfl) (by rfl) (loaded_1 na25 us25)) rfl ?_
      refine wl_det rfl rfl (det_assign rfl) rfl ?_
      refine wl_det rfl rfl (det_assign rfl) rfl ?_
      refine wl_nil ?_
      refine pn_then ?_
      refine wc_region ?_   -- region 5
      refine wl_det rfl rfl (det_move rfl) rfl ?_
      refine wl_det rfl rfl (det_move rfl) rfl ?_
      refine wl_det rfl rfl (det_move rfl) rfl ?_
      obtain ⟨r5_3, hr5_3, h⟩ := bind_some h
      refine wl_act (act_callS (cap := []) (W_slices_Clone_s_byte_byte (ix a0.Out s8.2) A4_1 (ix a0.Out s8.2).length c4_1 r5_3 hr5_3) rfl rfl rfl bd18 rfl ⟨(ms m0), trivial⟩) rfl rfl rfl ?_
      rintro _ _ _ ⟨_, _, ⟨y5_3A0, y5_3n0, y5_3c0, rfl, rfl, rfl⟩, rfl, rfl⟩
      dsimp only [List.nil_append, List.cons_append]
      refine wl_know (fun _ h => h.lenO m0) (fun e => ?_)
      subst e
      obtain ⟨k5_4, h⟩ := chk_some h
      refine wl_det rfl rfl (det_indexO rfl rfl (ms (ms (ms m0))) k5_4 un22 sz25) rfl ?_
      refine wl_st (fun _ h => h.shutS r0) ?_
      refine wl_act0 (act_storeO (cells := [_]) (off := 0) r5_3 rfl rfl rfl (ss (ss s0)) k5_4 (by rfl) sz25 (by intro u hu; simp at hu; rcases hu with rfl <;> rfl) (stR_fact m0)) rfl rfl ?_
      rintro _ _ _ ⟨rfl, rfl⟩
      refine wl_nil ?_
      refine pn_block ?_
      refine pn_then ?_
      refine wc_region ?_   -- region 6
      refine wl_det rfl rfl (det_add rfl rfl) rfl ?_
      refine wl_det rfl rfl (det_move rfl) rfl ?_
      refine wl_nil ?_
      replace h := Option.some.inj h
      subst h
      exact pn_some (k8, ((upd s8.1 s8.2 r5_3), (w64 (s8.2 + 1))), ()) ⟨nextL g8, Nat.lt_succ_self _⟩ ⟨rfl, rfl, rfl, rfl, rfl, rfl, trivial⟩ (fun _ h => h.to ⟨_, r0, ⟨_, r0, ⟨_, r0, trivial⟩⟩⟩ ⟨(ms (ms (ms m0))), trivial⟩)
    · have h := ifF h cd12
      refine wc_exit ?_
      refine px_then ?_
      refine px_then ?_
      refine px_block ?_
      replace h := Option.some.inj h
      subst h
      replace g8 := nextR g8
      subst g8
      exact pn_meetG (s8.1, ()) rfl ⟨rfl, rfl, rfl, trivial⟩ (fun _ h => h.to ⟨_, r0, ⟨_, r0, ⟨_, r0, trivial⟩⟩⟩ ⟨m0, trivial⟩)
  rintro ⟨s4, _⟩ e4
  dsimp only at e4 ⊢
  subst e4
  have h := ho4
  refine wc_seq ?_
  refine wc_region ?_   -- region 7
  refine wl_det rfl rfl (det_move rfl) rfl ?_
  refine wl_det rfl rfl (det_field rfl fd24_0 rfl) rfl ?_
  refine wl_act0 (act_store (cells := [_]) (cs' := [_, _, _]) rfl rfl rfl s0 (by rfl) (of_decide_eq_true rfl) sz22 ⟨rfl, trivial⟩) rfl rfl ?_
  rintro _ _ _ ⟨rfl, rfl⟩
  refine wl_nil ?_
  refine pn_then ?_
  refine wc_seq ?_
  refine wc_region ?_   -- region 8
  refine wl_det rfl rfl (det_loadN (cells := [_, _, _]) rfl m0 (by rfl) ag24 sz24) rfl ?_
  refine wl_act0 (act_store (cells := [_, _, _]) (cs' := [_, _, _]) rfl rfl rfl (ss s0) (by rfl) (of_decide_eq_true rfl) sz24 ⟨rfl, rfl, rfl, trivial⟩) rfl rfl ?_
  rintro _ _ _ ⟨rfl, rfl⟩
  refine wl_nil ?_
  refine pn_then ?_
  refine wc_ret ?_
  replace h := Option.some.inj h
  subst h
  refine pn_ret (vs := [_]) rfl ⟨⟨_, _, [_, _, _], rfl, (ms m0), ag24, sz24, rfl⟩, trivial⟩ ⟨A1_3, (List.replicate (a0.Out.length : Int).toNat ([] : (List Int))).length, c1_3, rfl, rfl, rfl⟩ (fun _ h => h.to ⟨_, (rs (rs r0)), trivial⟩ trivial)
def Q_link_Receive (r : GEndpoint × (List Int) × Bool) : Value → List Ent → List Fact → Prop := fun v θ κ => ∃ (pA0 : Option Addr), ∃ (pn0 : Nat), ∃ (pc0 : Nat), ∃ (pA1 : Option Addr), ∃ (pn1 : Nat), ∃ (pc1 : Nat), v = .tuple #[.agg #[.slice pA0 pn0 pc0, .int .i64 r.1.Acked, .int .i64 r.1.Got], .slice pA1 pn1 pc1, .bool r.2.2] ∧ θ = [eS (lSlice (lInt .u8)) 25 pA0 pn0 pc0 r.1.Out, eS (lInt .u8) 5 pA1 pn1 pc1 r.2.1] ∧ κ = []
set_option maxHeartbeats 4000000 in
set_option maxRecDepth 100000 in
theorem W_link_Receive (a0 : GEndpoint) (a1 : GPacket) (A0 : Option Addr) (n0 : Nat) (c0 : Nat) (A3 : Option Addr) (n3 : Nat) (c3 : Nat) (r : GEndpoint × (List Int) × Bool) (h : link_Receive a0 a1 = some r) : Spec Try.prog 7 [.agg #[.slice A0 n0 c0, .int .i64 a0.Acked, .int .i64 a0.Got], .agg #[.int .i64 a1.Party, .bool a1.Down, .int .i64 a1.Number, .int .i64 a1.Ack, .slice A3 n3 c3]] [] [fV (lSlice (lSlice (lInt .u8))) (.slice A0 n0 c0) a0.Out, fV (lSlice (lInt .u8)) (.slice A3 n3 c3) a1.Data] (Q_link_Receive r) := by
  unfold link_Receive at h
  refine spec_of (σ := [(0, _), (1, _)]) Try.func7 rfl rfl rfl rfl ?_
  intro C
  refine wc_know (fun _ h => h.lenF m0) (fun e => ?_)
  subst e
  refine wc_know (fun _ h => h.lenF (ms m0)) (fun e => ?_)
  subst e
  refine wc_seq ?_
  refine wc_region ?_   -- region 0
  refine wl_act (act_box (cs := [_, _, _]) rfl rfl) rfl rfl rfl ?_
  rintro _ _ _ ⟨b0_0, rfl, rfl, rfl⟩
  refine wl_act (act_box (cs := [_, _, _, _, _]) rfl rfl) rfl rfl rfl ?_
  rintro _ _ _ ⟨b0_1, rfl, rfl, rfl⟩
  refine wl_act (act_alloc (cs := [_, _, _]) zr24 rfl) rfl rfl rfl ?_
  rintro _ _ _ ⟨b0_2, rfl, rfl, rfl⟩
  refine wl_det rfl rfl (det_assign rfl) rfl ?_
  refine wl_det rfl rfl (det_assign rfl) rfl ?_
  refine wl_nil ?_
  refine pn_then ?_
  refine wc_seq ?_
  refine wc_region ?_   -- region 1
  refine wl_det rfl rfl (det_loadN (cells := [_, _, _]) rfl (ms (ms m0)) (by rfl) ag24 sz24) rfl ?_
  obtain ⟨r1_1, hr1_1, h⟩ := bind_some h
  refine wl_act (act_callS (cap := []) (W_link_Valid a0 A0 a0.Out.length c0 r1_1 hr1_1) rfl rfl rfl bd16 rfl ⟨m0, trivial⟩) rfl rfl rfl ?_
  rintro _ _ _ ⟨_, _, ⟨rfl, rfl, rfl⟩, rfl, rfl⟩
  dsimp only [List.nil_append, List.cons_append]
  refine wl_det rfl rfl (det_assign rfl) rfl ?_
  refine wl_nil ?_
  refine pn_then ?_
  refine wc_seq ?_
  refine wc_region ?_   -- region 2
  refine wl_det rfl rfl (det_loadN (cells := [_, _, _]) rfl (ms (ms m0)) (by rfl) ag24 sz24) rfl ?_
  obtain ⟨r2_1, hr2_1, h⟩ := bind_some h
  refine wl_act (act_callS (cap := []) (W_link_copied a0 A0 a0.Out.length c0 r2_1 hr2_1) rfl rfl rfl bd17 rfl ⟨m0, trivial⟩) rfl rfl rfl ?_
  rintro _ _ _ ⟨_, _, ⟨y2_1A0, y2_1n0, y2_1c0, rfl, rfl, rfl⟩, rfl, rfl⟩
  dsimp only [List.nil_append, List.cons_append]
  refine wl_know (fun _ h => h.lenO m0) (fun e => ?_)
  subst e
  refine wl_act0 (act_store (cells := [_, _, _]) (cs' := [_, _, _]) rfl rfl rfl (ss (ss (ss s0))) (by rfl) (of_decide_eq_true rfl) sz24 ⟨rfl, rfl, rfl, trivial⟩) rfl rfl ?_
  rintro _ _ _ ⟨rfl, rfl⟩
  refine wl_nil ?_
  refine pn_then ?_
  refine wc_seq ?_
  refine wc_seq ?_
  refine wc_region ?_   -- region 3
  refine wl_det rfl rfl (det_move rfl) rfl ?_
  refine wl_det rfl rfl (det_not rfl) rfl ?_
  refine wl_det rfl rfl (det_move rfl) rfl ?_
  refine wl_way (!r1_1) ((!r1_1) || (decide (4096 < a1.Number))) 4 18 (fun hg => ?_) (fun hg => ?_) ?_
  · have hg3_6 := hg
    refine wl_off rfl rfl rfl rfl rfl hg3_6 rfl ?_
    refine wl_off rfl rfl rfl rfl rfl hg3_6 rfl ?_
    refine wl_off rfl rfl rfl rfl rfl hg3_6 rfl ?_
    refine wl_det rfl rfl (det_or_on (r := (decide (4096 < a1.Number))) rfl rfl rfl hg3_6) rfl ?_
    exact wl_nil (pn_qnE (ext_cons rfl (ext_skip rfl (ext_skip rfl (ext_skip rfl (ext_skip rfl ext_refl))))) (fun _ h => h))
  · have hg3_6a := hg
    refine wl_on rfl rfl rfl rfl hg3_6a ?_
    refine wl_det rfl rfl (det_field rfl fd27_2 rfl) rfl ?_
    refine wl_on rfl rfl rfl rfl hg3_6a ?_
    refine wl_det rfl rfl (det_load rfl (ms (ms m0)) (by rfl) na3 us3) rfl ?_
    refine wl_on rfl rfl rfl rfl hg3_6a ?_
    refine wl_det rfl rfl (det_gtr rfl rfl) rfl ?_
    refine wl_det rfl rfl (det_or_off rfl rfl rfl hg3_6a) rfl ?_
    exact wl_nil (pn_qnE (ext_cons rfl (ext_skip rfl (ext_skip rfl (ext_skip rfl (ext_skip rfl ext_refl))))) (fun _ h => h))
  refine wl_nil ?_
  refine pn_then ?_
  refine wc_cond rfl (fun cd9 => ?_) (fun cd9 => ?_)
  · have h := ifT h cd9
    refine wc_seq ?_
    refine wc_region ?_   -- region 4
    refine wl_det rfl rfl (det_loadN (cells := [_, _, _]) rfl (ms (ms (ms m0))) (by rfl) ag24 sz24) rfl ?_
    refine wl_act0 (act_store (cells := [_, _, _]) (cs' := [_, _, _]) rfl rfl rfl (ss s0) (by rfl) (of_decide_eq_true rfl) sz24 ⟨rfl, rfl, rfl, trivial⟩) rfl rfl ?_
    rintro _ _ _ ⟨rfl, rfl⟩
    refine wl_det rfl rfl (det_assign rfl) rfl ?_
    refine wl_det rfl rfl (det_assign rfl) rfl ?_
    refine wl_nil ?_
    refine pn_then ?_
    refine wc_ret ?_
    refine pr_then ?_
    refine pn_st (fun _ h => h.zeroS (lInt .u8) 5 none) ?_
    replace h := Option.some.inj h
    subst h
    refine pn_ret (vs := [_, _, _]) rfl ⟨⟨_, _, [_, _, _], rfl, (ms (ms m0)), ag24, sz24, rfl⟩, rfl, rfl, trivial⟩ ⟨y2_1A0, r2_1.Out.length, y2_1c0, none, 0, 0, rfl, rfl, rfl⟩ (fun _ h => h.to ⟨_, (rs r0), ⟨_, r0, trivial⟩⟩ trivial)
  · have h := ifF h cd9
    refine wc_skip ?_
    refine pn_then ?_
    obtain ⟨q12, h, ho12⟩ := bind_some h
    refine wc_meetG (G := Int × Unit) (fun (s12, _) => s12 = q12) (fun (_, _) => [(2, .pointer (some ⟨b0_0, 0, none⟩)), (3, .pointer (some ⟨b0_1, 0, none⟩)), (4, .pointer (some ⟨b0_2, 0, none⟩))]) (fun (s12, _) => [eBlk b0_0 24 [.slice y2_1A0 r2_1.Out.length y2_1c0, .int .i64 s12, .int .i64 r2_1.Got], eS (lSlice (lInt .u8)) 25 y2_1A0 r2_1.Out.length y2_1c0 r2_1.Out, eBlk b0_1 27 [.int .i64 a1.Party, .bool a1.Down, .int .i64 a1.Number, .int .i64 a1.Ack, .slice A3 a1.Data.length c3], eBlk b0_2 24 [.slice none 0 0, .int .i64 0, .int .i64 0]]) (fun (_, _) => [fV (lSlice (lInt .u8)) (.slice A3 a1.Data.length c3) a1.Data]) ?_ ?_
    · refine wc_seq ?_
      refine wc_region ?_   -- region 5
      refine wl_det rfl rfl (det_field rfl fd27_3 rfl) rfl ?_
      refine wl_det rfl rfl (det_load rfl (ms (ms m0)) (by rfl) na3 us3) rfl ?_
      refine wl_det rfl rfl (det_field rfl fd24_1 rfl) rfl ?_
      refine wl_det rfl rfl (det_load rfl (ms (ms (ms m0))) (by rfl) na3 us3) rfl ?_
      refine wl_det rfl rfl (det_gtr rfl rfl) rfl ?_
      refine wl_det rfl rfl (det_move rfl) rfl ?_
      refine wl_way (decide (r2_1.Acked < a1.Ack)) ((decide (r2_1.Acked < a1.Ack)) && (decide (a1.Ack ≤ (r2_1.Out.length : Int)))) 7 32 (fun hg => ?_) (fun hg => ?_) ?_
      · have hg5_12 := hg
        refine wl_on rfl rfl rfl rfl hg5_12 ?_
        refine wl_det rfl rfl (det_field rfl fd27_3 rfl) rfl ?_
        refine wl_on rfl rfl rfl rfl hg5_12 ?_
        refine wl_det rfl rfl (det_load rfl (ms (ms m0)) (by rfl) na3 us3) rfl ?_
        refine wl_on rfl rfl rfl rfl hg5_12 ?_
        refine wl_det rfl rfl (det_field rfl fd24_0 rfl) rfl ?_
        refine wl_on rfl rfl rfl rfl hg5_12 ?_
        refine wl_det rfl rfl (det_load rfl (ms (ms (ms m0))) (by rfl) na22 us22) rfl ?_
        refine wl_on rfl rfl rfl rfl hg5_12 ?_
        refine wl_det rfl rfl (det_len rfl un22) rfl ?_
        refine wl_on rfl rfl rfl rfl hg5_12 ?_
        refine wl_det rfl rfl (det_leq rfl rfl) rfl ?_
        refine wl_det rfl rfl (det_and_on rfl rfl rfl hg5_12) rfl ?_
        exact wl_nil (pn_qnE (ext_cons rfl (ext_skip rfl (ext_skip rfl (ext_skip rfl (ext_skip rfl (ext_skip rfl (ext_skip rfl (ext_skip rfl ext_refl)))))))) (fun _ h => h))
      · have hg5_12a := hg
        refine wl_off rfl rfl rfl rfl rfl hg5_12a rfl ?_
        refine wl_off rfl rfl rfl rfl rfl hg5_12a rfl ?_
        refine wl_off rfl rfl rfl rfl rfl hg5_12a rfl ?_
        refine wl_off rfl rfl rfl rfl rfl hg5_12a rfl ?_
        refine wl_off rfl rfl rfl rfl rfl hg5_12a rfl ?_
        refine wl_off rfl rfl rfl rfl rfl hg5_12a rfl ?_
        refine wl_det rfl rfl (det_and_off (q := (decide (a1.Ack ≤ (r2_1.Out.length : Int)))) rfl rfl rfl hg5_12a) rfl ?_
        exact wl_nil (pn_qnE (ext_cons rfl (ext_skip rfl (ext_skip rfl (ext_skip rfl (ext_skip rfl (ext_skip rfl (ext_skip rfl (ext_skip rfl ext_refl)))))))) (fun _ h => h))
      refine wl_nil ?_
      refine pn_then ?_
      refine wc_cond rfl (fun cd15 => ?_) (fun cd15 => ?_)
      · have h := ifT h cd15
        refine wc_region ?_   -- region 6
        refine wl_det rfl rfl (det_field rfl fd27_3 rfl) rfl ?_
        refine wl_det rfl rfl (det_load rfl (ms (ms m0)) (by rfl) na3 us3) rfl ?_
        refine wl_det rfl rfl (det_field rfl fd24_1 rfl) rfl ?_
        refine wl_act0 (act_store (cells := [_]) (cs' := [_, _, _]) rfl rfl rfl (ss (ss (ss s0))) (by rfl) (of_decide_eq_true rfl) sz3 ⟨rfl, trivial⟩) rfl rfl ?_
        rintro _ _ _ ⟨rfl, rfl⟩
        refine wl_nil ?_
        replace h := Option.some.inj h
        subst h
        exact pn_meetG (a1.Ack, ()) rfl ⟨rfl, rfl, rfl, trivial⟩ (fun _ h => h.to ⟨_, (rs (rs (rs r0))), ⟨_, r0, ⟨_, (rs r0), ⟨_, r0, trivial⟩⟩⟩⟩ ⟨(ms m0), trivial⟩)
      · have h := ifF h cd15
        refine wc_skip ?_
        replace h := Option.some.inj h
        subst h
        exact pn_meetG (r2_1.Acked, ()) rfl ⟨rfl, rfl, rfl, trivial⟩ (fun _ h => h.to ⟨_, (rs (rs (rs r0))), ⟨_, r0, ⟨_, (rs r0), ⟨_, r0, trivial⟩⟩⟩⟩ ⟨(ms m0), trivial⟩)
    rintro ⟨s12, _⟩ e12
    dsimp only at e12 ⊢
    subst e12
    have h := ho12
    refine wc_seq ?_
    refine wc_seq ?_
    refine wc_region ?_   -- region 7
    refine wl_det rfl rfl (det_field rfl fd27_2 rfl) rfl ?_
    refine wl_det rfl rfl (det_load rfl (ms (ms m0)) (by rfl) na3 us3) rfl ?_
    refine wl_det rfl rfl (det_field rfl fd24_2 rfl) rfl ?_
    refine wl_det rfl rfl (det_load rfl m0 (by rfl) na3 us3) rfl ?_
    refine wl_det rfl rfl (det_add rfl rfl) rfl ?_
    refine wl_det rfl rfl (det_neq rfl rfl) rfl ?_
    refine wl_nil ?_
    refine pn_then ?_
    refine wc_cond rfl (fun cd20 => ?_) (fun cd20 => ?_)
    · have h := ifT h cd20
      refine wc_seq ?_
      refine wc_region ?_   -- region 8
      refine wl_det rfl rfl (det_loadN (cells := [_, _, _]) rfl m0 (by rfl) ag24 sz24) rfl ?_
      refine wl_act0 (act_store (cells := [_, _, _]) (cs' := [_, _, _]) rfl rfl rfl (ss (ss (ss s0))) (by rfl) (of_decide_eq_true rfl) sz24 ⟨rfl, rfl, rfl, trivial⟩) rfl rfl ?_
      rintro _ _ _ ⟨rfl, rfl⟩
      refine wl_det rfl rfl (det_assign rfl) rfl ?_
      refine wl_det rfl rfl (det_assign rfl) rfl ?_
      refine wl_nil ?_
      refine pn_then ?_
      refine wc_ret ?_
      refine pr_then ?_
      refine pn_st (fun _ h => h.zeroS (lInt .u8) 5 none) ?_
      replace h := Option.some.inj h
      subst h
      refine pn_ret (vs := [_, _, _]) rfl ⟨⟨_, _, [_, _, _], rfl, (ms (ms (ms (ms m0)))), ag24, sz24, rfl⟩, rfl, rfl, trivial⟩ ⟨y2_1A0, r2_1.Out.length, y2_1c0, none, 0, 0, rfl, rfl, rfl⟩ (fun _ h => h.to ⟨_, (rs (rs r0)), ⟨_, r0, trivial⟩⟩ trivial)
    · have h := ifF h cd20
      refine wc_skip ?_
      refine pn_then ?_
      refine wc_seq ?_
      refine wc_region ?_   -- region 9
      refine wl_det rfl rfl (det_field rfl fd27_2 rfl) rfl ?_
      refine wl_det rfl rfl (det_load rfl (ms (ms m0)) (by rfl) na3 us3) rfl ?_
      refine wl_det rfl rfl (det_field rfl fd24_2 rfl) rfl ?_
      refine wl_act0 (act_store (cells := [_]) (cs' := [_, _, _]) rfl rfl rfl s0 (by rfl) (of_decide_eq_true rfl) sz3 ⟨rfl, trivial⟩) rfl rfl ?_
      rintro _ _ _ ⟨rfl, rfl⟩
      refine wl_nil ?_
      refine pn_then ?_
      refine wc_seq ?_
      refine dx_region 4 [[], [], [1], [1, 2], [0, 1, 2, 3], [0, 1, 2, 3, 4], [0, 1, 2, 3, 4, 5]] mixed (ord := (.det 0 (.det 1 (.det 2 (.alt 3 .done .dead))))) (by kernel_rfl) ?_   -- region 10
      refine hx_det rfl rfl rfl nofun (det_loadN (cells := [_, _, _]) rfl m0 (by rfl) ag24 sz24) rfl ?_
      refine hx_det rfl rfl rfl nofun (det_field rfl fd27_4 rfl) rfl ?_
      refine hx_det rfl rfl rfl nofun (det_load rfl (ms (ms m0)) (by rfl) na25 us25) rfl ?_
      obtain ⟨r10_3, hr10_3, h⟩ := bind_some h
      refine hx_act rfl rfl rfl (act_callS (cap := []) (W_slices_Clone_s_byte_byte a1.Data A3 a1.Data.length c3 r10_3 hr10_3) rfl rfl rfl bd18 rfl ⟨m0, trivial⟩) rfl (by rintro _ _ _ ⟨_, _, _, rfl, rfl⟩; first | exact ⟨_, _, rfl, rfl⟩ | exact ⟨_, [], rfl, rfl⟩) ?_
      rintro _ _ _ ⟨_, _, ⟨y10_3A0, y10_3n0, y10_3c0, rfl, rfl, rfl⟩, rfl, rfl⟩
      dsimp only [List.nil_append, List.cons_append]
      refine hx_end ?_
      refine wl_know (fun _ h => h.lenO m0) (fun e => ?_)
      subst e
      refine wl_act0 (act_store (cells := [_, _, _]) (cs' := [_, _, _]) rfl rfl rfl (ss (ss (ss (ss s0)))) (by rfl) (of_decide_eq_true rfl) sz24 ⟨rfl, rfl, rfl, trivial⟩) rfl rfl ?_
      rintro _ _ _ ⟨rfl, rfl⟩
      refine wl_det rfl rfl (det_assign rfl) rfl ?_
      refine wl_det rfl rfl (det_assign rfl) rfl ?_
      refine wl_nil ?_
      refine pn_then ?_
      refine wc_ret ?_
      replace h := Option.some.inj h
      subst h
      refine pn_ret (vs := [_, _, _]) rfl ⟨⟨_, _, [_, _, _], rfl, (ms (ms (ms (ms m0)))), ag24, sz24, rfl⟩, rfl, rfl, trivial⟩ ⟨y2_1A0, r2_1.Out.length, y2_1c0, y10_3A0, r10_3.length, y10_3c0, rfl, rfl, rfl⟩ (fun _ h => h.to ⟨_, (rs (rs r0)), ⟨_, r0, trivial⟩⟩ trivial)
def Q_treatyref40_Valid (r : Bool) : Value → List Ent → List Fact → Prop := fun v θ κ => v = .bool r ∧ θ = [] ∧ κ = []
theorem plains_treatyref40_Valid {r : Bool} : ∀ v θ κ, Q_treatyref40_Valid r v θ κ → Plains θ := by
  rintro _ _ _ ⟨rfl, rfl, rfl⟩
  exact trivial
set_option maxHeartbeats 4000000 in
set_option maxRecDepth 100000 in
theorem W_treatyref40_Valid (a0 : GEndpoint) (A0 : Option Addr) (n0 : Nat) (c0 : Nat) (r : Bool) (h : treatyref40_Valid a0 = some r) : Spec Try.prog 19 [.agg #[.slice A0 n0 c0, .int .i64 a0.Acked, .int .i64 a0.Got]] [] [fV (lSlice (lSlice (lInt .u8))) (.slice A0 n0 c0) a0.Out] (Q_treatyref40_Valid r) := by
  unfold treatyref40_Valid at h
  refine spec_of (σ := [(0, _)]) Try.func19 rfl rfl rfl rfl ?_
  intro C
  refine wc_know (fun _ h => h.lenF m0) (fun e => ?_)
  subst e
  refine wc_seq ?_
  refine wc_region ?_   -- region 0
  refine wl_act (act_box (cs := [_, _, _]) rfl rfl) rfl rfl rfl ?_
  rintro _ _ _ ⟨b0_0, rfl, rfl, rfl⟩
  refine wl_det rfl rfl (det_assign rfl) rfl ?_
  refine wl_nil ?_
  refine pn_then ?_
  refine wc_seq ?_
  refine wc_region ?_   -- region 1
  refine wl_det rfl rfl (det_field rfl fd24_1 rfl) rfl ?_
  refine wl_det rfl rfl (det_load rfl m0 (by rfl) na3 us3) rfl ?_
  refine wl_det rfl rfl (det_geq rfl rfl) rfl ?_
  refine wl_det rfl rfl (det_move rfl) rfl ?_
  refine wl_way (decide (0 ≤ a0.Acked)) ((decide (0 ≤ a0.Acked)) && (decide (a0.Acked ≤ (a0.Out.length : Int)))) 7 13 (fun hg => ?_) (fun hg => ?_) ?_
  · have hg1_10 := hg
    refine wl_on rfl rfl rfl rfl hg1_10 ?_
    refine wl_det rfl rfl (det_field rfl fd24_1 rfl) rfl ?_
    refine wl_on rfl rfl rfl rfl hg1_10 ?_
    refine wl_det rfl rfl (det_load rfl m0 (by rfl) na3 us3) rfl ?_
    refine wl_on rfl rfl rfl rfl hg1_10 ?_
    refine wl_det rfl rfl (det_field rfl fd24_0 rfl) rfl ?_
    refine wl_on rfl rfl rfl rfl hg1_10 ?_
    refine wl_det rfl rfl (det_load rfl m0 (by rfl) na22 us22) rfl ?_
    refine wl_on rfl rfl rfl rfl hg1_10 ?_
    refine wl_det rfl rfl (det_len rfl un22) rfl ?_
    refine wl_on rfl rfl rfl rfl hg1_10 ?_
    refine wl_det rfl rfl (det_leq rfl rfl) rfl ?_
    refine wl_det rfl rfl (det_and_on rfl rfl rfl hg1_10) rfl ?_
    exact wl_nil (pn_qnE (ext_cons rfl (ext_skip rfl (ext_skip rfl (ext_skip rfl (ext_skip rfl (ext_skip rfl (ext_skip rfl (ext_skip rfl ext_refl)))))))) (fun _ h => h))
  · have hg1_10a := hg
    refine wl_off rfl rfl rfl rfl rfl hg1_10a rfl ?_
    refine wl_off rfl rfl rfl rfl rfl hg1_10a rfl ?_
    refine wl_off rfl rfl rfl rfl rfl hg1_10a rfl ?_
    refine wl_off rfl rfl rfl rfl rfl hg1_10a rfl ?_
    refine wl_off rfl rfl rfl rfl rfl hg1_10a rfl ?_
    refine wl_off rfl rfl rfl rfl rfl hg1_10a rfl ?_
    refine wl_det rfl rfl (det_and_off (q := (decide (a0.Acked ≤ (a0.Out.length : Int)))) rfl rfl rfl hg1_10a) rfl ?_
    exact wl_nil (pn_qnE (ext_cons rfl (ext_skip rfl (ext_skip rfl (ext_skip rfl (ext_skip rfl (ext_skip rfl (ext_skip rfl (ext_skip rfl ext_refl)))))))) (fun _ h => h))
  refine wl_det rfl rfl (det_move rfl) rfl ?_
  refine wl_way ((decide (0 ≤ a0.Acked)) && (decide (a0.Acked ≤ (a0.Out.length : Int)))) (((decide (0 ≤ a0.Acked)) && (decide (a0.Acked ≤ (a0.Out.length : Int)))) && (decide ((a0.Out.length : Int) ≤ 4096))) 5 19 (fun hg => ?_) (fun hg => ?_) ?_
  · have hg1_16 := hg
    refine wl_on rfl rfl rfl rfl hg1_16 ?_
    refine wl_det rfl rfl (det_field rfl fd24_0 rfl) rfl ?_
    refine wl_on rfl rfl rfl rfl hg1_16 ?_
    refine wl_det rfl rfl (det_load rfl m0 (by rfl) na22 us22) rfl ?_
    refine wl_on rfl rfl rfl rfl hg1_16 ?_
    refine wl_det rfl rfl (det_len rfl un22) rfl ?_
    refine wl_on rfl rfl rfl rfl hg1_16 ?_
    refine wl_det rfl rfl (det_leq rfl rfl) rfl ?_
    refine wl_det rfl rfl (det_and_on rfl rfl rfl hg1_16) rfl ?_
    exact wl_nil (pn_qnE (ext_cons rfl (ext_skip rfl (ext_skip rfl (ext_skip rfl (ext_skip rfl (ext_skip rfl ext_refl)))))) (fun _ h => h))
  · have hg1_16a := hg
    refine wl_off rfl rfl rfl rfl rfl hg1_16a rfl ?_
    refine wl_off rfl rfl rfl rfl rfl hg1_16a rfl ?_
    refine wl_off rfl rfl rfl rfl rfl hg1_16a rfl ?_
    refine wl_off rfl rfl rfl rfl rfl hg1_16a rfl ?_
    refine wl_det rfl rfl (det_and_off (q := (decide ((a0.Out.length : Int) ≤ 4096))) rfl rfl rfl hg1_16a) rfl ?_
    exact wl_nil (pn_qnE (ext_cons rfl (ext_skip rfl (ext_skip rfl (ext_skip rfl (ext_skip rfl (ext_skip rfl ext_refl)))))) (fun _ h => h))
  refine wl_det rfl rfl (det_move rfl) rfl ?_
  refine wl_way (((decide (0 ≤ a0.Acked)) && (decide (a0.Acked ≤ (a0.Out.length : Int)))) && (decide ((a0.Out.length : Int) ≤ 4096))) ((((decide (0 ≤ a0.Acked)) && (decide (a0.Acked ≤ (a0.Out.length : Int)))) && (decide ((a0.Out.length : Int) ≤ 4096))) && (decide (0 ≤ a0.Got))) 4 24 (fun hg => ?_) (fun hg => ?_) ?_
  · have hg1_21 := hg
    refine wl_on rfl rfl rfl rfl hg1_21 ?_
    refine wl_det rfl rfl (det_field rfl fd24_2 rfl) rfl ?_
    refine wl_on rfl rfl rfl rfl hg1_21 ?_
    refine wl_det rfl rfl (det_load rfl m0 (by rfl) na3 us3) rfl ?_
    refine wl_on rfl rfl rfl rfl hg1_21 ?_
    refine wl_det rfl rfl (det_geq rfl rfl) rfl ?_
    refine wl_det rfl rfl (det_and_on rfl rfl rfl hg1_21) rfl ?_
    exact wl_nil (pn_qnE (ext_cons rfl (ext_skip rfl (ext_skip rfl (ext_skip rfl (ext_skip rfl ext_refl))))) (fun _ h => h))
  · have hg1_21a := hg
    refine wl_off rfl rfl rfl rfl rfl hg1_21a rfl ?_
    refine wl_off rfl rfl rfl rfl rfl hg1_21a rfl ?_
    refine wl_off rfl rfl rfl rfl rfl hg1_21a rfl ?_
    refine wl_det rfl rfl (det_and_off (q := (decide (0 ≤ a0.Got))) rfl rfl rfl hg1_21a) rfl ?_
    exact wl_nil (pn_qnE (ext_cons rfl (ext_skip rfl (ext_skip rfl (ext_skip rfl (ext_skip rfl ext_refl))))) (fun _ h => h))
  refine wl_det rfl rfl (det_move rfl) rfl ?_
  refine wl_way ((((decide (0 ≤ a0.Acked)) && (decide (a0.Acked ≤ (a0.Out.length : Int)))) && (decide ((a0.Out.length : Int) ≤ 4096))) && (decide (0 ≤ a0.Got))) (((((decide (0 ≤ a0.Acked)) && (decide (a0.Acked ≤ (a0.Out.length : Int)))) && (decide ((a0.Out.length : Int) ≤ 4096))) && (decide (0 ≤ a0.Got))) && (decide (a0.Got ≤ 4096))) 4 29 (fun hg => ?_) (fun hg => ?_) ?_
  · have hg1_26 := hg
    refine wl_on rfl rfl rfl rfl hg1_26 ?_
    refine wl_det rfl rfl (det_field rfl fd24_2 rfl) rfl ?_
    refine wl_on rfl rfl rfl rfl hg1_26 ?_
    refine wl_det rfl rfl (det_load rfl m0 (by rfl) na3 us3) rfl ?_
    refine wl_on rfl rfl rfl rfl hg1_26 ?_
    refine wl_det rfl rfl (det_leq rfl rfl) rfl ?_
    refine wl_det rfl rfl (det_and_on rfl rfl rfl hg1_26) rfl ?_
    exact wl_nil (pn_qnE (ext_cons rfl (ext_skip rfl (ext_skip rfl (ext_skip rfl (ext_skip rfl ext_refl))))) (fun _ h => h))
  · have hg1_26a := hg
    refine wl_off rfl rfl rfl rfl rfl hg1_26a rfl ?_
    refine wl_off rfl rfl rfl rfl rfl hg1_26a rfl ?_
    refine wl_off rfl rfl rfl rfl rfl hg1_26a rfl ?_
    refine wl_det rfl rfl (det_and_off (q := (decide (a0.Got ≤ 4096))) rfl rfl rfl hg1_26a) rfl ?_
    exact wl_nil (pn_qnE (ext_cons rfl (ext_skip rfl (ext_skip rfl (ext_skip rfl (ext_skip rfl ext_refl))))) (fun _ h => h))
  refine wl_det rfl rfl (det_assign rfl) rfl ?_
  refine wl_nil ?_
  refine pn_then ?_
  refine wc_ret ?_
  replace h := Option.some.inj h
  subst h
  refine pn_ret (vs := [_]) rfl ⟨rfl, trivial⟩ ⟨rfl, rfl, rfl⟩ (fun _ h => h.to trivial trivial)
def Q_treatyref40_copied (r : GEndpoint) : Value → List Ent → List Fact → Prop := fun v θ κ => ∃ (pA0 : Option Addr), ∃ (pn0 : Nat), ∃ (pc0 : Nat), v = .agg #[.slice pA0 pn0 pc0, .int .i64 r.Acked, .int .i64 r.Got] ∧ θ = [eS (lSlice (lInt .u8)) 25 pA0 pn0 pc0 r.Out] ∧ κ = []
set_option maxHeartbeats 4000000 in
set_option maxRecDepth 100000 in
theorem W_treatyref40_copied (a0 : GEndpoint) (A0 : Option Addr) (n0 : Nat) (c0 : Nat) (r : GEndpoint) (h : treatyref40_copied a0 = some r) : Spec Try.prog 20 [.agg #[.slice A0 n0 c0, .int .i64 a0.Acked, .int .i64 a0.Got]] [] [fV (lSlice (lSlice (lInt .u8))) (.slice A0 n0 c0) a0.Out] (Q_treatyref40_copied r) := by
  unfold treatyref40_copied at h
  refine spec_of (σ := [(0, _)]) Try.func20 rfl rfl rfl rfl ?_
  intro C
  refine wc_know (fun _ h => h.lenF m0) (fun e => ?_)
  subst e
  refine wc_seq ?_
  refine wc_region ?_   -- region 0
  refine wl_act (act_box (cs := [_, _, _]) rfl rfl) rfl rfl rfl ?_
  rintro _ _ _ ⟨b0_0, rfl, rfl, rfl⟩
  refine wl_act (act_alloc (cs := [_, _, _]) zr24 rfl) rfl rfl rfl ?_
  rintro _ _ _ ⟨b0_1, rfl, rfl, rfl⟩
  refine wl_nil ?_
  refine pn_then ?_
  refine wc_seq ?_
  refine wc_region ?_   -- region 1
  refine wl_det rfl rfl (det_assign rfl) rfl ?_
  refine wl_nil ?_
  refine pn_then ?_
  obtain ⟨q4, h, ho4⟩ := bind_some h
  refine wc_meetG (G := (List (List Int)) × Option Addr × Nat × Nat × Unit) (fun (s4, _, _, _, _) => s4 = q4) (fun (_, A4_0, n4_0, c4_0, _) => [(1, .pointer (some ⟨b0_0, 0, none⟩)), (2, .pointer (some ⟨b0_1, 0, none⟩)), (3, .slice A4_0 n4_0 c4_0)]) (fun (s4, A4_0, n4_0, c4_0, _) => [eBlk b0_0 24 [.slice A0 a0.Out.length c0, .int .i64 a0.Acked, .int .i64 a0.Got], eBlk b0_1 24 [.slice none 0 0, .int .i64 0, .int .i64 0], eS (lSlice (lInt .u8)) 25 A4_0 n4_0 c4_0 s4]) (fun (_, _, _, _, _) => [fV (lSlice (lSlice (lInt .u8))) (.slice A0 a0.Out.length c0) a0.Out]) ?_ ?_
  · refine wc_seq ?_
    refine wc_region ?_   -- region 2
    refine wl_det rfl rfl (det_field rfl fd24_0 rfl) rfl ?_
    refine wl_det rfl rfl (det_load rfl (ms m0) (by rfl) na22 us22) rfl ?_
    refine wl_det rfl rfl (det_len rfl un22) rfl ?_
    refine wl_det rfl rfl (det_move rfl) rfl ?_
    refine wl_nil ?_
    refine pn_then ?_
    refine wc_block ?_
    refine wc_st (fun _ h => h.zeroS (lSlice (lInt .u8)) 25 none) ?_
    obtain ⟨k8, hk8⟩ := loopV_some.1 h
    refine wc_loop (G := Nat × ((List (List Int)) × Int) × Option Addr × Nat × Nat × Unit) (fun g => IterN (treatyref40_copied_l8 a0) g.1 g.2.1 q4) (fun g => g.1) (fun (_, s8, A8_0, n8_0, c8_0, _) => [(1, .pointer (some ⟨b0_0, 0, none⟩)), (2, .pointer (some ⟨b0_1, 0, none⟩)), (3, .slice A8_0 n8_0 c8_0), (7, .slice A0 a0.Out.length c0), (8, .int .i64 (a0.Out.length : Int)), (9, .int .i64 s8.2)]) (fun (_, s8, A8_0, n8_0, c8_0, _) => [eBlk b0_0 24 [.slice A0 a0.Out.length c0, .int .i64 a0.Acked, .int .i64 a0.Got], eBlk b0_1 24 [.slice none 0 0, .int .i64 0, .int .i64 0], eS (lSlice (lInt .u8)) 25 A8_0 n8_0 c8_0 s8.1]) (fun (_, _, _, _, _, _) => [fV (lSlice (lSlice (lInt .u8))) (.slice A0 a0.Out.length c0) a0.Out]) (k8, ([], 0), none, 0, 0, ()) hk8 ⟨rfl, rfl, rfl, rfl, rfl, rfl, trivial⟩ (fun _ h => h.to ⟨_, (rs (rs r0)), ⟨_, (rs r0), ⟨_, r0, trivial⟩⟩⟩ ⟨m0, trivial⟩) ?_
    rintro ⟨k8, s8, A8_0, n8_0, c8_0, _⟩ hI
    obtain ⟨k8, rfl, q8, h, g8⟩ := IterN.pos hI
    dsimp only at h ⊢
    unfold treatyref40_copied_l8 at h
    refine wc_know (fun _ h => h.lenO (ms (ms m0))) (fun e => ?_)
    subst e
    refine wc_seq ?_
    refine wc_region ?_   -- region 3
    refine wl_det rfl rfl (det_lss rfl rfl) rfl ?_
    refine wl_nil ?_
    refine pn_then ?_
    refine wc_seq ?_
    refine wc_cond rfl (fun cd12 => ?_) (fun cd12 => ?_)
    · have h := ifT h cd12
      refine wc_skip ?_
      refine pn_then ?_
      refine wc_seq ?_
      refine wc_block ?_
      refine wc_seq ?_
      refine wc_region ?_   -- region 4
      obtain ⟨k4_0, h⟩ := chk_some h
      refine wl_ex (G := Option Addr × Nat) (fun _ => _) (fun g => fPt A0 (s8.2.toNat * 1) [.slice g.1 (ix a0.Out s8.2).length g.2] :: fV (lSlice (lInt .u8)) (.slice g.1 (ix a0.Out s8.2).length g.2) (ix a0.Out s8.2) :: _) (fun _ => True) (fun _ h => open_slice h m0 k4_0) ?_
      rintro ⟨A4_0, c4_0⟩ -
      dsimp only
      refine wl_det rfl rfl (det_indexP rfl rfl (ms (ms m0)) k4_0 m0 un22 sz25) rfl ?_
      refine wl_det rfl rfl (det_loadP (off := 0) rfl m0 (by rfl) (by rfl) (loaded_1 na25 us25)) rfl ?_
      refine wl_det rfl rfl (det_assign rfl) rfl ?_
      refine wl_nil ?_
      refine pn_then ?_
      refine wc_region ?_   -- region 5
      refine wl_det rfl rfl (det_move rfl) rfl ?_
      refine wl_act (act_lit0S (lInt .u8) un25 (by kernel_rfl)) rfl rfl rfl ?_
      rintro _ _ _ ⟨A5_1, rfl, rfl, rfl⟩
      refine wl_det rfl rfl (det_move rfl) rfl ?_
      obtain ⟨k5_3, h⟩ := chk_some h
      refine wl_act (act_appendS0 (L := (lInt .u8)) rfl rfl s0 (src_F (ms m0)) un25 in5 rfl rfl rfl k5_3) rfl rfl rfl ?_
      rintro _ _ _ ⟨A5_3, c5_3, rfl, rfl, rfl⟩
      refine wl_st (fun _ h => h.shutS r0) ?_
      refine wl_act (act_litS (lSlice (lInt .u8)) (vs := [_]) (cs := [_]) [(ix a0.Out s8.2)] un22 in25 rfl rfl rfl rfl rfl ⟨rfl, trivial⟩ (by rfl) rfl (fun _ h => by have q := oneV h m0; exact q)) rfl rfl rfl ?_
      rintro _ _ _ ⟨A5_4, rfl, rfl, rfl⟩
      obtain ⟨k5_5, h⟩ := chk_some h
      refine wl_act (act_appendS (L := (lSlice (lInt .u8))) rfl rfl (ss (ss (ss s0))) (src_O m0) un22 in25 rfl rfl rfl k5_5) rfl rfl rfl ?_
      rintro _ _ _ ⟨A5_5, c5_5, rfl, rfl, rfl⟩
      refine wl_det rfl rfl (det_assign rfl) rfl ?_
      refine wl_nil ?_
      refine pn_block ?_
      refine pn_then ?_
      refine wc_region ?_   -- region 6
      refine wl_det rfl rfl (det_add rfl rfl) rfl ?_
      refine wl_det rfl rfl (det_move rfl) rfl ?_
      refine wl_nil ?_
      replace h := Option.some.inj h
      subst h
      exact pn_some (k8, ((s8.1 ++ [(ix a0.Out s8.2)]), (w64 (s8.2 + 1))), A5_5, (s8.1 ++ [(ix a0.Out s8.2)]).length, c5_5, ()) ⟨nextL g8, Nat.lt_succ_self _⟩ ⟨rfl, rfl, rfl, rfl, rfl, rfl, trivial⟩ (fun _ h => h.to ⟨_, (rs r0), ⟨_, (rs r0), ⟨_, (rs r0), trivial⟩⟩⟩ ⟨(ms (ms (ms m0))), trivial⟩)
    · have h := ifF h cd12
      refine wc_exit ?_
      refine px_then ?_
      refine px_then ?_
      refine px_block ?_
      replace h := Option.some.inj h
      subst h
      replace g8 := nextR g8
      subst g8
      exact pn_meetG (s8.1, A8_0, s8.1.length, c8_0, ()) rfl ⟨rfl, rfl, rfl, trivial⟩ (fun _ h => h.to ⟨_, r0, ⟨_, r0, ⟨_, r0, trivial⟩⟩⟩ ⟨m0, trivial⟩)
  rintro ⟨s4, A4_0, n4_0, c4_0, _⟩ e4
  dsimp only at e4 ⊢
  subst e4
  have h := ho4
  refine wc_know (fun _ h => h.lenO (ms (ms m0))) (fun e => ?_)
  subst e
  refine wc_seq ?_
  refine wc_region ?_   -- region 7
  refine wl_det rfl rfl (det_move rfl) rfl ?_
  refine wl_det rfl rfl (det_field rfl fd24_0 rfl) rfl ?_
  refine wl_act0 (act_store (cells := [_]) (cs' := [_, _, _]) rfl rfl rfl s0 (by rfl) (of_decide_eq_true rfl) sz22 ⟨rfl, trivial⟩) rfl rfl ?_
  rintro _ _ _ ⟨rfl, rfl⟩
  refine wl_nil ?_
  refine pn_then ?_
  refine wc_seq ?_
  refine wc_region ?_   -- region 8
  refine wl_det rfl rfl (det_loadN (cells := [_, _, _]) rfl m0 (by rfl) ag24 sz24) rfl ?_
  refine wl_act0 (act_store (cells := [_, _, _]) (cs' := [_, _, _]) rfl rfl rfl (ss s0) (by rfl) (of_decide_eq_true rfl) sz24 ⟨rfl, rfl, rfl, trivial⟩) rfl rfl ?_
  rintro _ _ _ ⟨rfl, rfl⟩
  refine wl_nil ?_
  refine pn_then ?_
  refine wc_ret ?_
  replace h := Option.some.inj h
  subst h
  refine pn_ret (vs := [_]) rfl ⟨⟨_, _, [_, _, _], rfl, (ms m0), ag24, sz24, rfl⟩, trivial⟩ ⟨A4_0, s4.length, c4_0, rfl, rfl, rfl⟩ (fun _ h => h.to ⟨_, (rs (rs r0)), trivial⟩ trivial)
def Q_treatyref40_Receive (r : GEndpoint × (List Int) × Bool) : Value → List Ent → List Fact → Prop := fun v θ κ => ∃ (pA0 : Option Addr), ∃ (pn0 : Nat), ∃ (pc0 : Nat), ∃ (pA1 : Option Addr), ∃ (pn1 : Nat), ∃ (pc1 : Nat), v = .tuple #[.agg #[.slice pA0 pn0 pc0, .int .i64 r.1.Acked, .int .i64 r.1.Got], .slice pA1 pn1 pc1, .bool r.2.2] ∧ θ = [eS (lInt .u8) 5 pA1 pn1 pc1 r.2.1] ∧ κ = [fV (lSlice (lSlice (lInt .u8))) (.slice pA0 pn0 pc0) r.1.Out]
set_option maxHeartbeats 4000000 in
set_option maxRecDepth 100000 in
theorem W_treatyref40_Receive (a0 : GEndpoint) (a1 : GPacket) (A0 : Option Addr) (n0 : Nat) (c0 : Nat) (A3 : Option Addr) (n3 : Nat) (c3 : Nat) (r : GEndpoint × (List Int) × Bool) (h : treatyref40_Receive a0 a1 = some r) : Spec Try.prog 8 [.agg #[.slice A0 n0 c0, .int .i64 a0.Acked, .int .i64 a0.Got], .agg #[.int .i64 a1.Party, .bool a1.Down, .int .i64 a1.Number, .int .i64 a1.Ack, .slice A3 n3 c3]] [] [fV (lSlice (lSlice (lInt .u8))) (.slice A0 n0 c0) a0.Out, fV (lSlice (lInt .u8)) (.slice A3 n3 c3) a1.Data] (Q_treatyref40_Receive r) := by
  unfold treatyref40_Receive at h
  refine spec_of (σ := [(0, _), (1, _)]) Try.func8 rfl rfl rfl rfl ?_
  intro C
  refine wc_know (fun _ h => h.lenF m0) (fun e => ?_)
  subst e
  refine wc_know (fun _ h => h.lenF (ms m0)) (fun e => ?_)
  subst e
  refine wc_seq ?_
  refine wc_region ?_   -- region 0
  refine wl_act (act_box (cs := [_, _, _]) rfl rfl) rfl rfl rfl ?_
  rintro _ _ _ ⟨b0_0, rfl, rfl, rfl⟩
  refine wl_act (act_box (cs := [_, _, _, _, _]) rfl rfl) rfl rfl rfl ?_
  rintro _ _ _ ⟨b0_1, rfl, rfl, rfl⟩
  refine wl_act (act_alloc (cs := [_, _, _]) zr24 rfl) rfl rfl rfl ?_
  rintro _ _ _ ⟨b0_2, rfl, rfl, rfl⟩
  refine wl_det rfl rfl (det_assign rfl) rfl ?_
  refine wl_det rfl rfl (det_assign rfl) rfl ?_
  refine wl_nil ?_
  refine pn_then ?_
  refine wc_seq ?_
  refine wc_seq ?_
  refine wc_region ?_   -- region 1
  refine wl_det rfl rfl (det_loadN (cells := [_, _, _]) rfl (ms (ms m0)) (by rfl) ag24 sz24) rfl ?_
  obtain ⟨r1_1, hr1_1, h⟩ := bind_some h
  refine wl_act (act_callS (cap := []) (W_treatyref40_Valid a0 A0 a0.Out.length c0 r1_1 hr1_1) rfl rfl rfl bd19 rfl ⟨m0, trivial⟩) rfl rfl rfl ?_
  rintro _ _ _ ⟨_, _, ⟨rfl, rfl, rfl⟩, rfl, rfl⟩
  dsimp only [List.nil_append, List.cons_append]
  refine wl_det rfl rfl (det_not rfl) rfl ?_
  refine wl_det rfl rfl (det_move rfl) rfl ?_
  refine wl_way (!r1_1) ((!r1_1) || (decide (4096 < a1.Number))) 4 14 (fun hg => ?_) (fun hg => ?_) ?_
  · have hg1_7 := hg
    refine wl_off rfl rfl rfl rfl rfl hg1_7 rfl ?_
    refine wl_off rfl rfl rfl rfl rfl hg1_7 rfl ?_
    refine wl_off rfl rfl rfl rfl rfl hg1_7 rfl ?_
    refine wl_det rfl rfl (det_or_on (r := (decide (4096 < a1.Number))) rfl rfl rfl hg1_7) rfl ?_
    exact wl_nil (pn_qnE (ext_cons rfl (ext_skip rfl (ext_skip rfl (ext_skip rfl (ext_skip rfl ext_refl))))) (fun _ h => h))
  · have hg1_7a := hg
    refine wl_on rfl rfl rfl rfl hg1_7a ?_
    refine wl_det rfl rfl (det_field rfl fd27_2 rfl) rfl ?_
    refine wl_on rfl rfl rfl rfl hg1_7a ?_
    refine wl_det rfl rfl (det_load rfl (ms m0) (by rfl) na3 us3) rfl ?_
    refine wl_on rfl rfl rfl rfl hg1_7a ?_
    refine wl_det rfl rfl (det_gtr rfl rfl) rfl ?_
    refine wl_det rfl rfl (det_or_off rfl rfl rfl hg1_7a) rfl ?_
    exact wl_nil (pn_qnE (ext_cons rfl (ext_skip rfl (ext_skip rfl (ext_skip rfl (ext_skip rfl ext_refl))))) (fun _ h => h))
  refine wl_nil ?_
  refine pn_then ?_
  refine wc_cond rfl (fun cd5 => ?_) (fun cd5 => ?_)
  · have h := ifT h cd5
    refine wc_seq ?_
    refine wc_region ?_   -- region 2
    refine wl_det rfl rfl (det_loadN (cells := [_, _, _]) rfl (ms (ms m0)) (by rfl) ag24 sz24) rfl ?_
    refine wl_act0 (act_store (cells := [_, _, _]) (cs' := [_, _, _]) rfl rfl rfl s0 (by rfl) (of_decide_eq_true rfl) sz24 ⟨rfl, rfl, rfl, trivial⟩) rfl rfl ?_
    rintro _ _ _ ⟨rfl, rfl⟩
    refine wl_det rfl rfl (det_assign rfl) rfl ?_
    refine wl_det rfl rfl (det_assign rfl) rfl ?_
    refine wl_nil ?_
    refine pn_then ?_
    refine wc_ret ?_
    refine pr_then ?_
    refine pn_st (fun _ h => h.zeroS (lInt .u8) 5 none) ?_
    replace h := Option.some.inj h
    subst h
    refine pn_ret (vs := [_, _, _]) rfl ⟨⟨_, _, [_, _, _], rfl, (ms m0), ag24, sz24, rfl⟩, rfl, rfl, trivial⟩ ⟨A0, a0.Out.length, c0, none, 0, 0, rfl, rfl, rfl⟩ (fun _ h => h.to ⟨_, r0, trivial⟩ ⟨m0, trivial⟩)
  · have h := ifF h cd5
    refine wc_skip ?_
    refine pn_then ?_
    refine wc_seq ?_
    refine wc_region ?_   -- region 3
    refine wl_det rfl rfl (det_loadN (cells := [_, _, _]) rfl (ms (ms m0)) (by rfl) ag24 sz24) rfl ?_
    obtain ⟨r3_1, hr3_1, h⟩ := bind_some h
    refine wl_act (act_callS (cap := []) (W_treatyref40_copied a0 A0 a0.Out.length c0 r3_1 hr3_1) rfl rfl rfl bd20 rfl ⟨m0, trivial⟩) rfl rfl rfl ?_
    rintro _ _ _ ⟨_, _, ⟨y3_1A0, y3_1n0, y3_1c0, rfl, rfl, rfl⟩, rfl, rfl⟩
    dsimp only [List.nil_append, List.cons_append]
    refine wl_know (fun _ h => h.lenO m0) (fun e => ?_)
    subst e
    refine wl_act0 (act_store (cells := [_, _, _]) (cs' := [_, _, _]) rfl rfl rfl (ss (ss (ss s0))) (by rfl) (of_decide_eq_true rfl) sz24 ⟨rfl, rfl, rfl, trivial⟩) rfl rfl ?_
    rintro _ _ _ ⟨rfl, rfl⟩
    refine wl_nil ?_
    refine pn_then ?_
    obtain ⟨q10, h, ho10⟩ := bind_some h
    refine wc_meetG (G := Int × Unit) (fun (s10, _) => s10 = q10) (fun (_, _) => [(2, .pointer (some ⟨b0_0, 0, none⟩)), (3, .pointer (some ⟨b0_1, 0, none⟩)), (4, .pointer (some ⟨b0_2, 0, none⟩))]) (fun (s10, _) => [eBlk b0_0 24 [.slice y3_1A0 r3_1.Out.length y3_1c0, .int .i64 s10, .int .i64 r3_1.Got], eS (lSlice (lInt .u8)) 25 y3_1A0 r3_1.Out.length y3_1c0 r3_1.Out, eBlk b0_1 27 [.int .i64 a1.Party, .bool a1.Down, .int .i64 a1.Number, .int .i64 a1.Ack, .slice A3 a1.Data.length c3], eBlk b0_2 24 [.slice none 0 0, .int .i64 0, .int .i64 0]]) (fun (_, _) => [fV (lSlice (lInt .u8)) (.slice A3 a1.Data.length c3) a1.Data]) ?_ ?_
    · refine wc_seq ?_
      refine wc_region ?_   -- region 4
      refine wl_det rfl rfl (det_field rfl fd27_3 rfl) rfl ?_
      refine wl_det rfl rfl (det_load rfl (ms (ms m0)) (by rfl) na3 us3) rfl ?_
      refine wl_det rfl rfl (det_field rfl fd24_1 rfl) rfl ?_
      refine wl_det rfl rfl (det_load rfl (ms (ms (ms m0))) (by rfl) na3 us3) rfl ?_
      refine wl_det rfl rfl (det_gtr rfl rfl) rfl ?_
      refine wl_det rfl rfl (det_move rfl) rfl ?_
      refine wl_way (decide (r3_1.Acked < a1.Ack)) ((decide (r3_1.Acked < a1.Ack)) && (decide (a1.Ack ≤ (r3_1.Out.length : Int)))) 7 30 (fun hg => ?_) (fun hg => ?_) ?_
      · have hg4_12 := hg
        refine wl_on rfl rfl rfl rfl hg4_12 ?_
        refine wl_det rfl rfl (det_field rfl fd27_3 rfl) rfl ?_
        refine wl_on rfl rfl rfl rfl hg4_12 ?_
        refine wl_det rfl rfl (det_load rfl (ms (ms m0)) (by rfl) na3 us3) rfl ?_
        refine wl_on rfl rfl rfl rfl hg4_12 ?_
        refine wl_det rfl rfl (det_field rfl fd24_0 rfl) rfl ?_
        refine wl_on rfl rfl rfl rfl hg4_12 ?_
        refine wl_det rfl rfl (det_load rfl (ms (ms (ms m0))) (by rfl) na22 us22) rfl ?_
        refine wl_on rfl rfl rfl rfl hg4_12 ?_
        refine wl_det rfl rfl (det_len rfl un22) rfl ?_
        refine wl_on rfl rfl rfl rfl hg4_12 ?_
        refine wl_det rfl rfl (det_leq rfl rfl) rfl ?_
        refine wl_det rfl rfl (det_and_on rfl rfl rfl hg4_12) rfl ?_
        exact wl_nil (pn_qnE (ext_cons rfl (ext_skip rfl (ext_skip rfl (ext_skip rfl (ext_skip rfl (ext_skip rfl (ext_skip rfl (ext_skip rfl ext_refl)))))))) (fun _ h => h))
      · have hg4_12a := hg
        refine wl_off rfl rfl rfl rfl rfl hg4_12a rfl ?_
        refine wl_off rfl rfl rfl rfl rfl hg4_12a rfl ?_
        refine wl_off rfl rfl rfl rfl rfl hg4_12a rfl ?_
        refine wl_off rfl rfl rfl rfl rfl hg4_12a rfl ?_
        refine wl_off rfl rfl rfl rfl rfl hg4_12a rfl ?_
        refine wl_off rfl rfl rfl rfl rfl hg4_12a rfl ?_
        refine wl_det rfl rfl (det_and_off (q := (decide (a1.Ack ≤ (r3_1.Out.length : Int)))) rfl rfl rfl hg4_12a) rfl ?_
        exact wl_nil (pn_qnE (ext_cons rfl (ext_skip rfl (ext_skip rfl (ext_skip rfl (ext_skip rfl (ext_skip rfl (ext_skip rfl (ext_skip rfl ext_refl)))))))) (fun _ h => h))
      refine wl_nil ?_
      refine pn_then ?_
      refine wc_cond rfl (fun cd13 => ?_) (fun cd13 => ?_)
      · have h := ifT h cd13
        refine wc_region ?_   -- region 5
        refine wl_det rfl rfl (det_field rfl fd27_3 rfl) rfl ?_
        refine wl_det rfl rfl (det_load rfl (ms (ms m0)) (by rfl) na3 us3) rfl ?_
        refine wl_det rfl rfl (det_field rfl fd24_1 rfl) rfl ?_
        refine wl_act0 (act_store (cells := [_]) (cs' := [_, _, _]) rfl rfl rfl (ss (ss (ss s0))) (by rfl) (of_decide_eq_true rfl) sz3 ⟨rfl, trivial⟩) rfl rfl ?_
        rintro _ _ _ ⟨rfl, rfl⟩
        refine wl_nil ?_
        replace h := Option.some.inj h
        subst h
        exact pn_meetG (a1.Ack, ()) rfl ⟨rfl, rfl, rfl, trivial⟩ (fun _ h => h.to ⟨_, (rs (rs (rs r0))), ⟨_, r0, ⟨_, (rs r0), ⟨_, r0, trivial⟩⟩⟩⟩ ⟨(ms m0), trivial⟩)
      · have h := ifF h cd13
        refine wc_skip ?_
        replace h := Option.some.inj h
        subst h
        exact pn_meetG (r3_1.Acked, ()) rfl ⟨rfl, rfl, rfl, trivial⟩ (fun _ h => h.to ⟨_, (rs (rs (rs r0))), ⟨_, r0, ⟨_, (rs r0), ⟨_, r0, trivial⟩⟩⟩⟩ ⟨(ms m0), trivial⟩)
    rintro ⟨s10, _⟩ e10
    dsimp only at e10 ⊢
    subst e10
    have h := ho10
    refine wc_seq ?_
    refine wc_seq ?_
    refine wc_region ?_   -- region 6
    refine wl_det rfl rfl (det_field rfl fd27_2 rfl) rfl ?_
    refine wl_det rfl rfl (det_load rfl (ms (ms m0)) (by rfl) na3 us3) rfl ?_
    refine wl_det rfl rfl (det_field rfl fd24_2 rfl) rfl ?_
    refine wl_det rfl rfl (det_load rfl m0 (by rfl) na3 us3) rfl ?_
    refine wl_det rfl rfl (det_add rfl rfl) rfl ?_
    refine wl_det rfl rfl (det_neq rfl rfl) rfl ?_
    refine wl_nil ?_
    refine pn_then ?_
    refine wc_cond rfl (fun cd18 => ?_) (fun cd18 => ?_)
    · have h := ifT h cd18
      refine wc_seq ?_
      refine wc_region ?_   -- region 7
      refine wl_det rfl rfl (det_loadN (cells := [_, _, _]) rfl m0 (by rfl) ag24 sz24) rfl ?_
      refine wl_act0 (act_store (cells := [_, _, _]) (cs' := [_, _, _]) rfl rfl rfl (ss (ss (ss s0))) (by rfl) (of_decide_eq_true rfl) sz24 ⟨rfl, rfl, rfl, trivial⟩) rfl rfl ?_
      rintro _ _ _ ⟨rfl, rfl⟩
      refine wl_det rfl rfl (det_assign rfl) rfl ?_
      refine wl_det rfl rfl (det_assign rfl) rfl ?_
      refine wl_nil ?_
      refine pn_then ?_
      refine wc_ret ?_
      refine pr_then ?_
      refine pn_st (fun _ h => h.shutS (rs r0)) ?_
      refine pn_st (fun _ h => h.zeroS (lInt .u8) 5 none) ?_
      replace h := Option.some.inj h
      subst h
      refine pn_ret (vs := [_, _, _]) rfl ⟨⟨_, _, [_, _, _], rfl, (ms (ms (ms m0))), ag24, sz24, rfl⟩, rfl, rfl, trivial⟩ ⟨y3_1A0, r3_1.Out.length, y3_1c0, none, 0, 0, rfl, rfl, rfl⟩ (fun _ h => h.to ⟨_, r0, trivial⟩ ⟨m0, trivial⟩)
    · have h := ifF h cd18
      refine wc_skip ?_
      refine pn_then ?_
      refine wc_seq ?_
      refine wc_region ?_   -- region 8
      refine wl_det rfl rfl (det_field rfl fd24_2 rfl) rfl ?_
      refine wl_det rfl rfl (det_load rfl m0 (by rfl) na3 us3) rfl ?_
      refine wl_det rfl rfl (det_add rfl rfl) rfl ?_
      refine wl_det rfl rfl (det_field rfl fd24_2 rfl) rfl ?_
      refine wl_act0 (act_store (cells := [_]) (cs' := [_, _, _]) rfl rfl rfl s0 (by rfl) (of_decide_eq_true rfl) sz3 ⟨rfl, trivial⟩) rfl rfl ?_
      rintro _ _ _ ⟨rfl, rfl⟩
      refine wl_nil ?_
      refine pn_then ?_
      refine wc_seq ?_
      obtain ⟨k9_p1, h⟩ := chk_some h
      refine dx_regionZ (Z := St C [_, _, _, _] [_]) 5 [[], [], [], [2], [1, 2, 3], [0, 1, 2, 3, 4], [0, 1, 2, 3, 4, 5], [0, 1, 2, 3, 4, 5, 6]] mixed (ord := (.det 0 (.det 2 (.det 3 (.alt 1 (.alt 4 .done .dead) .dead))))) (by kernel_rfl) (fun _ h => h.to ⟨_, r0, ⟨_, r0, ⟨_, r0, ⟨_, r0, trivial⟩⟩⟩⟩ ⟨m0, trivial⟩) ?_   -- region 9
      refine hx_det rfl rfl rfl nofun (det_loadN (cells := [_, _, _]) rfl m0 (by rfl) ag24 sz24) rfl ?_
      refine hx_det rfl rfl rfl nofun (det_field rfl fd27_4 rfl) rfl ?_
      refine hx_det rfl rfl rfl nofun (det_load rfl (ms (ms m0)) (by rfl) na25 us25) rfl ?_
      refine hx_mut rfl rfl rfl (act_lit0S (lInt .u8) un25 (by kernel_rfl)) rfl (by rintro _ _ _ ⟨A9_1, rfl, rfl, rfl⟩ w hs; exact hs.to ⟨_, (rs r0), ⟨_, (rs r0), ⟨_, (rs r0), ⟨_, (rs r0), trivial⟩⟩⟩⟩ ⟨m0, trivial⟩) ?_
      rintro _ _ _ ⟨A9_1, rfl, rfl, rfl⟩
      refine hx_mut rfl rfl rfl (act_appendS0 (L := (lInt .u8)) rfl rfl s0 (src_F m0) un25 in5 rfl rfl rfl k9_p1) rfl (by rintro _ _ _ ⟨A9_4, c9_4, rfl, rfl, rfl⟩ w hs; exact hs.to ⟨_, (rs r0), ⟨_, (rs r0), ⟨_, (rs r0), ⟨_, (rs r0), trivial⟩⟩⟩⟩ ⟨m0, trivial⟩) ?_
      rintro _ _ _ ⟨A9_4, c9_4, rfl, rfl, rfl⟩
      refine hx_end ?_
      refine wl_act0 (act_store (cells := [_, _, _]) (cs' := [_, _, _]) rfl rfl rfl (ss (ss (ss (ss s0)))) (by rfl) (of_decide_eq_true rfl) sz24 ⟨rfl, rfl, rfl, trivial⟩) rfl rfl ?_
      rintro _ _ _ ⟨rfl, rfl⟩
      refine wl_det rfl rfl (det_assign rfl) rfl ?_
      refine wl_det rfl rfl (det_assign rfl) rfl ?_
      refine wl_nil ?_
      refine pn_then ?_
      refine wc_ret ?_
      refine pn_st (fun _ h => h.shutS (rs (rs r0))) ?_
      replace h := Option.some.inj h
      subst h
      refine pn_ret (vs := [_, _, _]) rfl ⟨⟨_, _, [_, _, _], rfl, (ms (ms (ms m0))), ag24, sz24, rfl⟩, rfl, rfl, trivial⟩ ⟨y3_1A0, r3_1.Out.length, y3_1c0, A9_4, a1.Data.length, c9_4, rfl, rfl, rfl⟩ (fun _ h => h.to ⟨_, r0, trivial⟩ ⟨m0, trivial⟩)
def Q_treatyref40_Same (r : Bool) : Value → List Ent → List Fact → Prop := fun v θ κ => v = .bool r ∧ θ = [] ∧ κ = []
theorem plains_treatyref40_Same {r : Bool} : ∀ v θ κ, Q_treatyref40_Same r v θ κ → Plains θ := by
  rintro _ _ _ ⟨rfl, rfl, rfl⟩
  exact trivial
set_option maxHeartbeats 4000000 in
set_option maxRecDepth 100000 in
theorem W_treatyref40_Same (a0 : (List Int)) (a1 : (List Int)) (A0 : Option Addr) (n0 : Nat) (c0 : Nat) (A3 : Option Addr) (n3 : Nat) (c3 : Nat) (r : Bool) (h : treatyref40_Same a0 a1 = some r) : Spec Try.prog 10 [.slice A0 n0 c0, .slice A3 n3 c3] [] [fV (lSlice (lInt .u8)) (.slice A0 n0 c0) a0, fV (lSlice (lInt .u8)) (.slice A3 n3 c3) a1] (Q_treatyref40_Same r) := by
  unfold treatyref40_Same at h
  refine spec_of (σ := [(0, _), (1, _)]) Try.func10 rfl rfl rfl rfl ?_
  intro C
  refine wc_know (fun _ h => h.lenF m0) (fun e => ?_)
  subst e
  refine wc_know (fun _ h => h.lenF (ms m0)) (fun e => ?_)
  subst e
  refine wc_seq ?_
  refine wc_region ?_   -- region 0
  refine wl_det rfl rfl (det_assign rfl) rfl ?_
  refine wl_nil ?_
  refine pn_then ?_
  refine wc_seq ?_
  refine wc_seq ?_
  refine wc_region ?_   -- region 1
  refine wl_det rfl rfl (det_move rfl) rfl ?_
  refine wl_det rfl rfl (det_len rfl un25) rfl ?_
  refine wl_det rfl rfl (det_move rfl) rfl ?_
  refine wl_det rfl rfl (det_len rfl un25) rfl ?_
  refine wl_det rfl rfl (det_neq rfl rfl) rfl ?_
  refine wl_nil ?_
  refine pn_then ?_
  refine wc_cond rfl (fun cd5 => ?_) (fun cd5 => ?_)
  · have h := ifT h cd5
    refine wc_seq ?_
    refine wc_region ?_   -- region 2
    refine wl_det rfl rfl (det_assign rfl) rfl ?_
    refine wl_nil ?_
    refine pn_then ?_
    refine wc_ret ?_
    refine pr_then ?_
    replace h := Option.some.inj h
    subst h
    refine pn_ret (vs := [_]) rfl ⟨rfl, trivial⟩ ⟨rfl, rfl, rfl⟩ (fun _ h => h.to trivial trivial)
  · have h := ifF h cd5
    refine wc_skip ?_
    refine pn_then ?_
    obtain ⟨q8, h, ho8⟩ := bind_some h
    refine wc_meetG (G := Unit × Unit) (fun (s8, _) => (.inl s8) = q8) (fun (_, _) => []) (fun (_, _) => []) (fun (_, _) => []) ?_ ?_
    · refine wc_seq ?_
      refine wc_region ?_   -- region 3
      refine wl_det rfl rfl (det_move rfl) rfl ?_
      refine wl_det rfl rfl (det_len rfl un25) rfl ?_
      refine wl_det rfl rfl (det_move rfl) rfl ?_
      refine wl_nil ?_
      refine pn_then ?_
      refine wc_block ?_
      obtain ⟨o12, h, ho12⟩ := bind_some h
      obtain ⟨k12, hk12⟩ := loopV_some.1 h
      refine wc_loop (G := Nat × Int × Unit) (fun g => IterN (treatyref40_Same_l12 a0 a1) g.1 g.2.1 o12) (fun g => g.1) (fun (_, s12, _) => [(0, .slice A0 a0.length c0), (1, .slice A3 a1.length c3), (12, .int .i64 (a0.length : Int)), (13, .int .i64 s12)]) (fun (_, _, _) => []) (fun (_, _, _) => [fV (lSlice (lInt .u8)) (.slice A0 a0.length c0) a0, fV (lSlice (lInt .u8)) (.slice A3 a1.length c3) a1]) (k12, 0, ()) hk12 ⟨rfl, rfl, rfl, rfl, trivial⟩ (fun _ h => h.to trivial ⟨m0, ⟨(ms m0), trivial⟩⟩) ?_
      rintro ⟨k12, s12, _⟩ hI
      obtain ⟨k12, rfl, q12, h, g12⟩ := IterN.pos hI
      dsimp only at h ⊢
      unfold treatyref40_Same_l12 at h
      refine wc_seq ?_
      refine wc_region ?_   -- region 4
      refine wl_det rfl rfl (det_lss rfl rfl) rfl ?_
      refine wl_nil ?_
      refine pn_then ?_
      refine wc_seq ?_
      refine wc_cond rfl (fun cd16 => ?_) (fun cd16 => ?_)
      · have h := ifT h cd16
        refine wc_skip ?_
        refine pn_then ?_
        refine wc_seq ?_
        refine wc_block ?_
        refine wc_seq ?_
        refine wc_region ?_   -- region 5
        refine wl_det rfl rfl (det_move rfl) rfl ?_
        refine wl_det rfl rfl (det_assign rfl) rfl ?_
        refine wl_nil ?_
        refine pn_then ?_
        refine wc_seq ?_
        obtain ⟨k6_p1, h⟩ := chk_some h
        refine wc_st (fun _ h => h.openF m0 k6_p1) ?_
        obtain ⟨k6_p3, h⟩ := chk_some h
        refine wc_st (fun _ h => h.openF (ms (ms m0)) k6_p3) ?_
        refine dx_region 9 [[], [], [0, 1], [0, 1, 2], [], [], [4, 5], [4, 5, 6], [0, 1, 2, 3, 4, 5, 6, 7]] mixed (ord := (.det 0 (.det 1 (.det 2 (.det 3 (.det 4 (.det 5 (.det 6 (.det 7 (.det 8 .done)))))))))) (by kernel_rfl) ?_   -- region 6
        refine hx_det rfl rfl rfl nofun (det_move rfl) rfl ?_
        refine hx_det rfl rfl rfl nofun (det_move rfl) rfl ?_
        refine hx_det rfl rfl rfl nofun (det_indexP rfl rfl (ms (ms m0)) k6_p1 (ms m0) un25 sz5) rfl ?_
        refine hx_det rfl rfl rfl nofun (det_loadP (off := 0) rfl (ms m0) (by rfl) (by rfl) (loaded_1 na5 us5)) rfl ?_
        refine hx_det rfl rfl rfl nofun (det_move rfl) rfl ?_
        refine hx_det rfl rfl rfl nofun (det_move rfl) rfl ?_
        refine hx_det rfl rfl rfl nofun (det_indexP rfl rfl (ms (ms (ms m0))) k6_p3 m0 un25 sz5) rfl ?_
        refine hx_det rfl rfl rfl nofun (det_loadP (off := 0) rfl m0 (by rfl) (by rfl) (loaded_1 na5 us5)) rfl ?_
        refine hx_det rfl rfl rfl nofun (det_neq rfl rfl) rfl ?_
        refine hx_end ?_
        refine wl_nil ?_
        refine pn_then ?_
        refine wc_cond rfl (fun cd24 => ?_) (fun cd24 => ?_)
        · have h := ifT h cd24
          refine wc_seq ?_
          refine wc_region ?_   -- region 7
          refine wl_det rfl rfl (det_assign rfl) rfl ?_
          refine wl_nil ?_
          refine pn_then ?_
          refine wc_ret ?_
          refine pr_block ?_
          refine pr_then ?_
          refine pr_then ?_
          refine pr_block ?_
          refine pr_then ?_
          replace h := Option.some.inj h
          subst h
          replace g12 := nextR g12
          subst g12
          have h := (elimL ho12)
          replace h := Option.some.inj h
          subst h
          have h := (elimR ho8)
          replace h := Option.some.inj h
          subst h
          refine pn_ret (vs := [_]) rfl ⟨rfl, trivial⟩ ⟨rfl, rfl, rfl⟩ (fun _ h => h.to trivial trivial)
        · have h := ifF h cd24
          refine wc_skip ?_
          refine pn_block ?_
          refine pn_then ?_
          refine wc_region ?_   -- region 8
          refine wl_det rfl rfl (det_add rfl rfl) rfl ?_
          refine wl_det rfl rfl (det_move rfl) rfl ?_
          refine wl_nil ?_
          replace h := Option.some.inj h
          subst h
          exact pn_some (k12, (w64 (s12 + 1)), ()) ⟨nextL g12, Nat.lt_succ_self _⟩ ⟨rfl, rfl, rfl, rfl, trivial⟩ (fun _ h => h.to trivial ⟨(ms (ms m0)), ⟨(ms (ms (ms m0))), trivial⟩⟩)
      · have h := ifF h cd16
        refine wc_exit ?_
        refine px_then ?_
        refine px_then ?_
        refine px_block ?_
        replace h := Option.some.inj h
        subst h
        replace g12 := nextR g12
        subst g12
        have h := (elimR ho12)
        replace h := Option.some.inj h
        subst h
        exact pn_meetG ((), ()) rfl trivial (fun _ h => h.to trivial trivial)
    rintro ⟨s8, _⟩ e8
    dsimp only at e8 ⊢
    subst e8
    have h := (elimL ho8)
    refine wc_seq ?_
    refine wc_region ?_   -- region 9
    refine wl_det rfl rfl (det_assign rfl) rfl ?_
    refine wl_nil ?_
    refine pn_then ?_
    refine wc_ret ?_
    replace h := Option.some.inj h
    subst h
    refine pn_ret (vs := [_]) rfl ⟨rfl, trivial⟩ ⟨rfl, rfl, rfl⟩ (fun _ h => h.to trivial trivial)
def Q_treatyref40_SameLists (r : Bool) : Value → List Ent → List Fact → Prop := fun v θ κ => v = .bool r ∧ θ = [] ∧ κ = []
theorem plains_treatyref40_SameLists {r : Bool} : ∀ v θ κ, Q_treatyref40_SameLists r v θ κ → Plains θ := by
  rintro _ _ _ ⟨rfl, rfl, rfl⟩
  exact trivial
set_option maxHeartbeats 4000000 in
set_option maxRecDepth 100000 in
theorem W_treatyref40_SameLists (a0 : (List (List Int))) (a1 : (List (List Int))) (A0 : Option Addr) (n0 : Nat) (c0 : Nat) (A3 : Option Addr) (n3 : Nat) (c3 : Nat) (r : Bool) (h : treatyref40_SameLists a0 a1 = some r) : Spec Try.prog 21 [.slice A0 n0 c0, .slice A3 n3 c3] [] [fV (lSlice (lSlice (lInt .u8))) (.slice A0 n0 c0) a0, fV (lSlice (lSlice (lInt .u8))) (.slice A3 n3 c3) a1] (Q_treatyref40_SameLists r) := by
  unfold treatyref40_SameLists at h
  refine spec_of (σ := [(0, _), (1, _)]) Try.func21 rfl rfl rfl rfl ?_
  intro C
  refine wc_know (fun _ h => h.lenF m0) (fun e => ?_)
  subst e
  refine wc_know (fun _ h => h.lenF (ms m0)) (fun e => ?_)
  subst e
  refine wc_seq ?_
  refine wc_region ?_   -- region 0
  refine wl_det rfl rfl (det_assign rfl) rfl ?_
  refine wl_nil ?_
  refine pn_then ?_
  refine wc_seq ?_
  refine wc_seq ?_
  refine wc_region ?_   -- region 1
  refine wl_det rfl rfl (det_move rfl) rfl ?_
  refine wl_det rfl rfl (det_len rfl un22) rfl ?_
  refine wl_det rfl rfl (det_move rfl) rfl ?_
  refine wl_det rfl rfl (det_len rfl un22) rfl ?_
  refine wl_det rfl rfl (det_neq rfl rfl) rfl ?_
  refine wl_nil ?_
  refine pn_then ?_
  refine wc_cond rfl (fun cd5 => ?_) (fun cd5 => ?_)
  · have h := ifT h cd5
    refine wc_seq ?_
    refine wc_region ?_   -- region 2
    refine wl_det rfl rfl (det_assign rfl) rfl ?_
    refine wl_nil ?_
    refine pn_then ?_
    refine wc_ret ?_
    refine pr_then ?_
    replace h := Option.some.inj h
    subst h
    refine pn_ret (vs := [_]) rfl ⟨rfl, trivial⟩ ⟨rfl, rfl, rfl⟩ (fun _ h => h.to trivial trivial)
  · have h := ifF h cd5
    refine wc_skip ?_
    refine pn_then ?_
    obtain ⟨q8, h, ho8⟩ := bind_some h
    refine wc_meetG (G := Unit × Unit) (fun (s8, _) => (.inl s8) = q8) (fun (_, _) => []) (fun (_, _) => []) (fun (_, _) => []) ?_ ?_
    · refine wc_seq ?_
      refine wc_region ?_   -- region 3
      refine wl_det rfl rfl (det_move rfl) rfl ?_
      refine wl_det rfl rfl (det_len rfl un22) rfl ?_
      refine wl_det rfl rfl (det_move rfl) rfl ?_
      refine wl_nil ?_
      refine pn_then ?_
      refine wc_block ?_
      obtain ⟨o12, h, ho12⟩ := bind_some h
      obtain ⟨k12, hk12⟩ := loopV_some.1 h
      refine wc_loop (G := Nat × Int × Unit) (fun g => IterN (treatyref40_SameLists_l12 a0 a1) g.1 g.2.1 o12) (fun g => g.1) (fun (_, s12, _) => [(0, .slice A0 a0.length c0), (1, .slice A3 a1.length c3), (12, .int .i64 (a0.length : Int)), (13, .int .i64 s12)]) (fun (_, _, _) => []) (fun (_, _, _) => [fV (lSlice (lSlice (lInt .u8))) (.slice A0 a0.length c0) a0, fV (lSlice (lSlice (lInt .u8))) (.slice A3 a1.length c3) a1]) (k12, 0, ()) hk12 ⟨rfl, rfl, rfl, rfl, trivial⟩ (fun _ h => h.to trivial ⟨m0, ⟨(ms m0), trivial⟩⟩) ?_
      rintro ⟨k12, s12, _⟩ hI
      obtain ⟨k12, rfl, q12, h, g12⟩ := IterN.pos hI
      dsimp only at h ⊢
      unfold treatyref40_SameLists_l12 at h
      refine wc_seq ?_
      refine wc_region ?_   -- region 4
      refine wl_det rfl rfl (det_lss rfl rfl) rfl ?_
      refine wl_nil ?_
      refine pn_then ?_
      refine wc_seq ?_
      refine wc_cond rfl (fun cd16 => ?_) (fun cd16 => ?_)
      · have h := ifT h cd16
        refine wc_skip ?_
        refine pn_then ?_
        refine wc_seq ?_
        refine wc_block ?_
        refine wc_seq ?_
        refine wc_region ?_   -- region 5
        refine wl_det rfl rfl (det_move rfl) rfl ?_
        refine wl_det rfl rfl (det_assign rfl) rfl ?_
        refine wl_nil ?_
        refine pn_then ?_
        refine wc_seq ?_
        obtain ⟨k6_p1, h⟩ := chk_some h
        refine wc_ex (G := Option Addr × Nat) (fun _ => _) (fun g => fPt A0 (s12.toNat * 1) [.slice g.1 (ix a0 s12).length g.2] :: fV (lSlice (lInt .u8)) (.slice g.1 (ix a0 s12).length g.2) (ix a0 s12) :: _) (fun _ => True) (fun _ h => open_slice h m0 k6_p1) ?_
        rintro ⟨A6_p1, c6_p1⟩ -
        dsimp only
        obtain ⟨k6_p3, h⟩ := chk_some h
        refine wc_ex (G := Option Addr × Nat) (fun _ => _) (fun g => fPt A3 (s12.toNat * 1) [.slice g.1 (ix a1 s12).length g.2] :: fV (lSlice (lInt .u8)) (.slice g.1 (ix a1 s12).length g.2) (ix a1 s12) :: _) (fun _ => True) (fun _ h => open_slice h (ms (ms (ms m0))) k6_p3) ?_
        rintro ⟨A6_p3, c6_p3⟩ -
        dsimp only
        refine dx_region 10 [[], [], [0, 1], [0, 1, 2], [], [], [4, 5], [4, 5, 6], [0, 1, 2, 3, 4, 5, 6, 7], [0, 1, 2, 3, 4, 5, 6, 7, 8]] mixed (ord := (.det 0 (.det 1 (.det 2 (.det 3 (.det 4 (.det 5 (.det 6 (.det 7 (.alt 8 (.det 9 .done) .dead)))))))))) (by kernel_rfl) ?_   -- region 6
        refine hx_det rfl rfl rfl nofun (det_move rfl) rfl ?_
        refine hx_det rfl rfl rfl nofun (det_move rfl) rfl ?_
        refine hx_det rfl rfl rfl nofun (det_indexP rfl rfl (ms (ms (ms (ms m0)))) k6_p1 (ms (ms m0)) un22 sz25) rfl ?_
        refine hx_det rfl rfl rfl nofun (det_loadP (off := 0) rfl (ms (ms m0)) (by rfl) (by rfl) (loaded_1 na25 us25)) rfl ?_
        refine hx_det rfl rfl rfl nofun (det_move rfl) rfl ?_
        refine hx_det rfl rfl rfl nofun (det_move rfl) rfl ?_
        refine hx_det rfl rfl rfl nofun (det_indexP rfl rfl (ms (ms (ms (ms (ms m0))))) k6_p3 m0 un22 sz25) rfl ?_
        refine hx_det rfl rfl rfl nofun (det_loadP (off := 0) rfl m0 (by rfl) (by rfl) (loaded_1 na25 us25)) rfl ?_
        obtain ⟨r6_8, hr6_8, h⟩ := bind_some h
        refine hx_act rfl rfl rfl (act_callS (cap := []) (W_treatyref40_Same (ix a0 s12) (ix a1 s12) A6_p1 (ix a0 s12).length c6_p1 A6_p3 (ix a1 s12).length c6_p3 r6_8 hr6_8) rfl rfl rfl bd10 rfl ⟨(ms (ms (ms m0))), ⟨(ms m0), trivial⟩⟩) rfl (by rintro _ _ _ ⟨_, _, _, rfl, rfl⟩; first | exact ⟨_, _, rfl, rfl⟩ | exact ⟨_, [], rfl, rfl⟩) ?_
        rintro _ _ _ ⟨_, _, ⟨rfl, rfl, rfl⟩, rfl, rfl⟩
        dsimp only [List.nil_append, List.cons_append]
        refine hx_det rfl rfl rfl nofun (det_not rfl) rfl ?_
        refine hx_end ?_
        refine wl_nil ?_
        refine pn_then ?_
        refine wc_cond rfl (fun cd24 => ?_) (fun cd24 => ?_)
        · have h := ifT h cd24
          refine wc_seq ?_
          refine wc_region ?_   -- region 7
          refine wl_det rfl rfl (det_assign rfl) rfl ?_
          refine wl_nil ?_
          refine pn_then ?_
          refine wc_ret ?_
          refine pr_block ?_
          refine pr_then ?_
          refine pr_then ?_
          refine pr_block ?_
          refine pr_then ?_
          replace h := Option.some.inj h
          subst h
          replace g12 := nextR g12
          subst g12
          have h := (elimL ho12)
          replace h := Option.some.inj h
          subst h
          have h := (elimR ho8)
          replace h := Option.some.inj h
          subst h
          refine pn_ret (vs := [_]) rfl ⟨rfl, trivial⟩ ⟨rfl, rfl, rfl⟩ (fun _ h => h.to trivial trivial)
        · have h := ifF h cd24
          refine wc_skip ?_
          refine pn_block ?_
          refine pn_then ?_
          refine wc_region ?_   -- region 8
          refine wl_det rfl rfl (det_add rfl rfl) rfl ?_
          refine wl_det rfl rfl (det_move rfl) rfl ?_
          refine wl_nil ?_
          replace h := Option.some.inj h
          subst h
          exact pn_some (k12, (w64 (s12 + 1)), ()) ⟨nextL g12, Nat.lt_succ_self _⟩ ⟨rfl, rfl, rfl, rfl, trivial⟩ (fun _ h => h.to trivial ⟨(ms (ms (ms (ms m0)))), ⟨(ms (ms (ms (ms (ms m0))))), trivial⟩⟩)
      · have h := ifF h cd16
        refine wc_exit ?_
        refine px_then ?_
        refine px_then ?_
        refine px_block ?_
        replace h := Option.some.inj h
        subst h
        replace g12 := nextR g12
        subst g12
        have h := (elimR ho12)
        replace h := Option.some.inj h
        subst h
        exact pn_meetG ((), ()) rfl trivial (fun _ h => h.to trivial trivial)
    rintro ⟨s8, _⟩ e8
    dsimp only at e8 ⊢
    subst e8
    have h := (elimL ho8)
    refine wc_seq ?_
    refine wc_region ?_   -- region 9
    refine wl_det rfl rfl (det_assign rfl) rfl ?_
    refine wl_nil ?_
    refine pn_then ?_
    refine wc_ret ?_
    replace h := Option.some.inj h
    subst h
    refine pn_ret (vs := [_]) rfl ⟨rfl, trivial⟩ ⟨rfl, rfl, rfl⟩ (fun _ h => h.to trivial trivial)
def Q_treatyref40_SameEndpoint (r : Bool) : Value → List Ent → List Fact → Prop := fun v θ κ => v = .bool r ∧ θ = [] ∧ κ = []
theorem plains_treatyref40_SameEndpoint {r : Bool} : ∀ v θ κ, Q_treatyref40_SameEndpoint r v θ κ → Plains θ := by
  rintro _ _ _ ⟨rfl, rfl, rfl⟩
  exact trivial
set_option maxHeartbeats 4000000 in
set_option maxRecDepth 100000 in
theorem W_treatyref40_SameEndpoint (a0 : GEndpoint) (a1 : GEndpoint) (A0 : Option Addr) (n0 : Nat) (c0 : Nat) (A3 : Option Addr) (n3 : Nat) (c3 : Nat) (r : Bool) (h : treatyref40_SameEndpoint a0 a1 = some r) : Spec Try.prog 9 [.agg #[.slice A0 n0 c0, .int .i64 a0.Acked, .int .i64 a0.Got], .agg #[.slice A3 n3 c3, .int .i64 a1.Acked, .int .i64 a1.Got]] [] [fV (lSlice (lSlice (lInt .u8))) (.slice A0 n0 c0) a0.Out, fV (lSlice (lSlice (lInt .u8))) (.slice A3 n3 c3) a1.Out] (Q_treatyref40_SameEndpoint r) := by
  unfold treatyref40_SameEndpoint at h
  refine spec_of (σ := [(0, _), (1, _)]) Try.func9 rfl rfl rfl rfl ?_
  intro C
  refine wc_know (fun _ h => h.lenF m0) (fun e => ?_)
  subst e
  refine wc_know (fun _ h => h.lenF (ms m0)) (fun e => ?_)
  subst e
  refine wc_seq ?_
  refine wc_region ?_   -- region 0
  refine wl_act (act_box (cs := [_, _, _]) rfl rfl) rfl rfl rfl ?_
  rintro _ _ _ ⟨b0_0, rfl, rfl, rfl⟩
  refine wl_act (act_box (cs := [_, _, _]) rfl rfl) rfl rfl rfl ?_
  rintro _ _ _ ⟨b0_1, rfl, rfl, rfl⟩
  refine wl_det rfl rfl (det_assign rfl) rfl ?_
  refine wl_nil ?_
  refine pn_then ?_
  refine wc_seq ?_
  refine wc_region ?_   -- region 1
  refine wl_det rfl rfl (det_field rfl fd24_0 rfl) rfl ?_
  refine wl_det rfl rfl (det_load rfl (ms m0) (by rfl) na22 us22) rfl ?_
  refine wl_det rfl rfl (det_field rfl fd24_0 rfl) rfl ?_
  refine wl_det rfl rfl (det_load rfl m0 (by rfl) na22 us22) rfl ?_
  obtain ⟨r1_4, hr1_4, h⟩ := bind_some h
  refine wl_act (act_callS (cap := []) (W_treatyref40_SameLists a0.Out a1.Out A0 a0.Out.length c0 A3 a1.Out.length c3 r1_4 hr1_4) rfl rfl rfl bd21 rfl ⟨m0, ⟨(ms m0), trivial⟩⟩) rfl rfl rfl ?_
  rintro _ _ _ ⟨_, _, ⟨rfl, rfl, rfl⟩, rfl, rfl⟩
  dsimp only [List.nil_append, List.cons_append]
  refine wl_det rfl rfl (det_move rfl) rfl ?_
  refine wl_way r1_4 (r1_4 && (decide (a0.Acked = a1.Acked))) 6 16 (fun hg => ?_) (fun hg => ?_) ?_
  · have hg1_11 := hg
    refine wl_on rfl rfl rfl rfl hg1_11 ?_
    refine wl_det rfl rfl (det_field rfl fd24_1 rfl) rfl ?_
    refine wl_on rfl rfl rfl rfl hg1_11 ?_
    refine wl_det rfl rfl (det_load rfl (ms m0) (by rfl) na3 us3) rfl ?_
    refine wl_on rfl rfl rfl rfl hg1_11 ?_
    refine wl_det rfl rfl (det_field rfl fd24_1 rfl) rfl ?_
    refine wl_on rfl rfl rfl rfl hg1_11 ?_
    refine wl_det rfl rfl (det_load rfl m0 (by rfl) na3 us3) rfl ?_
    refine wl_on rfl rfl rfl rfl hg1_11 ?_
    refine wl_det rfl rfl (det_eql rfl rfl) rfl ?_
    refine wl_det rfl rfl (det_and_on rfl rfl rfl hg1_11) rfl ?_
    exact wl_nil (pn_qnE (ext_cons rfl (ext_skip rfl (ext_skip rfl (ext_skip rfl (ext_skip rfl (ext_skip rfl (ext_skip rfl ext_refl))))))) (fun _ h => h))
  · have hg1_11a := hg
    refine wl_off rfl rfl rfl rfl rfl hg1_11a rfl ?_
    refine wl_off rfl rfl rfl rfl rfl hg1_11a rfl ?_
    refine wl_off rfl rfl rfl rfl rfl hg1_11a rfl ?_
    refine wl_off rfl rfl rfl rfl rfl hg1_11a rfl ?_
    refine wl_off rfl rfl rfl rfl rfl hg1_11a rfl ?_
    refine wl_det rfl rfl (det_and_off (q := (decide (a0.Acked = a1.Acked))) rfl rfl rfl hg1_11a) rfl ?_
    exact wl_nil (pn_qnE (ext_cons rfl (ext_skip rfl (ext_skip rfl (ext_skip rfl (ext_skip rfl (ext_skip rfl (ext_skip rfl ext_refl))))))) (fun _ h => h))
  refine wl_det rfl rfl (det_move rfl) rfl ?_
  refine wl_way (r1_4 && (decide (a0.Acked = a1.Acked))) ((r1_4 && (decide (a0.Acked = a1.Acked))) && (decide (a0.Got = a1.Got))) 6 23 (fun hg => ?_) (fun hg => ?_) ?_
  · have hg1_18 := hg
    refine wl_on rfl rfl rfl rfl hg1_18 ?_
    refine wl_det rfl rfl (det_field rfl fd24_2 rfl) rfl ?_
    refine wl_on rfl rfl rfl rfl hg1_18 ?_
    refine wl_det rfl rfl (det_load rfl (ms m0) (by rfl) na3 us3) rfl ?_
    refine wl_on rfl rfl rfl rfl hg1_18 ?_
    refine wl_det rfl rfl (det_field rfl fd24_2 rfl) rfl ?_
    refine wl_on rfl rfl rfl rfl hg1_18 ?_
    refine wl_det rfl rfl (det_load rfl m0 (by rfl) na3 us3) rfl ?_
    refine wl_on rfl rfl rfl rfl hg1_18 ?_
    refine wl_det rfl rfl (det_eql rfl rfl) rfl ?_
    refine wl_det rfl rfl (det_and_on rfl rfl rfl hg1_18) rfl ?_
    exact wl_nil (pn_qnE (ext_cons rfl (ext_skip rfl (ext_skip rfl (ext_skip rfl (ext_skip rfl (ext_skip rfl (ext_skip rfl ext_refl))))))) (fun _ h => h))
  · have hg1_18a := hg
    refine wl_off rfl rfl rfl rfl rfl hg1_18a rfl ?_
    refine wl_off rfl rfl rfl rfl rfl hg1_18a rfl ?_
    refine wl_off rfl rfl rfl rfl rfl hg1_18a rfl ?_
    refine wl_off rfl rfl rfl rfl rfl hg1_18a rfl ?_
    refine wl_off rfl rfl rfl rfl rfl hg1_18a rfl ?_
    refine wl_det rfl rfl (det_and_off (q := (decide (a0.Got = a1.Got))) rfl rfl rfl hg1_18a) rfl ?_
    exact wl_nil (pn_qnE (ext_cons rfl (ext_skip rfl (ext_skip rfl (ext_skip rfl (ext_skip rfl (ext_skip rfl (ext_skip rfl ext_refl))))))) (fun _ h => h))
  refine wl_det rfl rfl (det_assign rfl) rfl ?_
  refine wl_nil ?_
  refine pn_then ?_
  refine wc_ret ?_
  replace h := Option.some.inj h
  subst h
  refine pn_ret (vs := [_]) rfl ⟨rfl, trivial⟩ ⟨rfl, rfl, rfl⟩ (fun _ h => h.to trivial trivial)
def Q_link_flight (r : GEndpoint) : Value → List Ent → List Fact → Prop := fun v θ κ => ∃ (pb0 : Nat), ∃ (pA1 : Option Addr), ∃ (pn1 : Nat), ∃ (pc1 : Nat), v = .func (.func 25) #[] #[.pointer (some ⟨pb0, 0, none⟩)] ∧ θ = [eBlk pb0 24 [.slice pA1 pn1 pc1, .int .i64 r.Acked, .int .i64 r.Got]] ∧ κ = [fV (lSlice (lSlice (lInt .u8))) (.slice pA1 pn1 pc1) r.Out]
set_option maxHeartbeats 4000000 in
set_option maxRecDepth 100000 in
theorem W_link_flight (a0 : GEndpoint) (A0 : Option Addr) (n0 : Nat) (c0 : Nat) (r : GEndpoint) (h : link_flight a0 = some r) : Spec Try.prog 23 [.agg #[.slice A0 n0 c0, .int .i64 a0.Acked, .int .i64 a0.Got]] [] [fV (lSlice (lSlice (lInt .u8))) (.slice A0 n0 c0) a0.Out] (Q_link_flight r) := by
  unfold link_flight at h
  refine spec_of (σ := [(0, _)]) Try.func23 rfl rfl rfl rfl ?_
  intro C
  refine wc_know (fun _ h => h.lenF m0) (fun e => ?_)
  subst e
  refine wc_seq ?_
  refine wc_region ?_   -- region 0
  refine wl_act (act_box (cs := [_, _, _]) rfl rfl) rfl rfl rfl ?_
  rintro _ _ _ ⟨b0_0, rfl, rfl, rfl⟩
  refine wl_det rfl rfl (det_assign rfl) rfl ?_
  refine wl_nil ?_
  refine pn_then ?_
  refine wc_seq ?_
  refine wc_region ?_   -- region 1
  refine wl_det rfl rfl (det_makeFunc rfl) rfl ?_
  refine wl_det rfl rfl (det_assign rfl) rfl ?_
  refine wl_nil ?_
  refine pn_then ?_
  refine wc_ret ?_
  replace h := Option.some.inj h
  subst h
  refine pn_ret (vs := [_]) rfl ⟨rfl, trivial⟩ ⟨b0_0, A0, a0.Out.length, c0, rfl, rfl, rfl⟩ (fun _ h => h.to ⟨_, r0, trivial⟩ ⟨m0, trivial⟩)
def enc_link_flight_c1 (x : (Int × (List Int)) × (Option Addr × Nat × Nat) × Unit) : List Value := [.int .i64 x.1.1, .slice x.2.1.1 x.2.1.2.1 x.2.1.2.2]
def fx_link_flight_c1 (x : (Int × (List Int)) × (Option Addr × Nat × Nat) × Unit) : List Fact := [fV (lSlice (lInt .u8)) (.slice x.2.1.1 x.2.1.2.1 x.2.1.2.2) x.1.2]
set_option maxHeartbeats 4000000 in
set_option maxRecDepth 100000 in
theorem W_link_flight_c1 (a1 : GEndpoint) (Ba1 : Nat) (A1 : Option Addr) (n1 : Nat) (c1 : Nat) : SeqOk Try.prog 25 [.pointer (some ⟨Ba1, 0, none⟩)] [eBlk Ba1 24 [.slice A1 n1 c1, .int .i64 a1.Acked, .int .i64 a1.Got]] [fV (lSlice (lSlice (lInt .u8))) (.slice A1 n1 c1) a1.Out] enc_link_flight_c1 (fun x => x.1) fx_link_flight_c1 (fun Y s => link_flight_c1 a1 Y s) := by
  intro S O l Y E EO hY s r e h hE
  dsimp only at h
  unfold link_flight_c1 at h
  refine spec_of (σ := [(0, _), (1, _)]) Try.func25 rfl rfl rfl rfl ?_
  intro C
  refine wc_know (fun _ h => h.lenF m0) (fun e => ?_)
  subst e
  refine wc_seq ?_
  refine wc_region ?_   -- region 0
  refine wl_det rfl rfl (det_field rfl fd24_1 rfl) rfl ?_
  refine wl_det rfl rfl (det_load rfl (ms m0) (by rfl) na3 us3) rfl ?_
  refine wl_det rfl rfl (det_assign rfl) rfl ?_
  refine wl_nil ?_
  refine pn_then ?_
  refine wc_block ?_
  obtain ⟨o3, h, ho3⟩ := bind_some h
  obtain ⟨k3, hk3⟩ := loopV_some.1 h
  refine wc_loop (G := Nat × (Int × S) × Ent × Unit) (fun g => IterN (link_flight_c1_l3 a1 Y) g.1 g.2.1 o3 ∧ E g.2.1.2 g.2.2.1) (fun g => g.1) (fun (_, s3, _, _) => [(0, .func (.yield l) #[] #[]), (1, .pointer (some ⟨Ba1, 0, none⟩)), (3, .int .i64 s3.1)]) (fun (_, _, e3_0, _) => [eBlk Ba1 24 [.slice A1 a1.Out.length c1, .int .i64 a1.Acked, .int .i64 a1.Got], e3_0]) (fun (_, _, _, _) => [fV (lSlice (lSlice (lInt .u8))) (.slice A1 a1.Out.length c1) a1.Out]) (k3, (a1.Acked, s), e, ()) ⟨hk3, hE⟩ ⟨rfl, rfl, rfl, trivial⟩ (fun _ h => h.to ⟨_, (rs r0), ⟨_, r0, trivial⟩⟩ ⟨m0, trivial⟩) ?_
  rintro ⟨k3, s3, e3_0, _⟩ ⟨hI, hE3⟩
  obtain ⟨k3, rfl, q3, h, g3⟩ := IterN.pos hI
  dsimp only at h hE3 ⊢
  unfold link_flight_c1_l3 at h
  refine wc_seq ?_
  refine wc_seq ?_
  refine wc_region ?_   -- region 1
  refine wl_det rfl rfl (det_move rfl) rfl ?_
  refine wl_det rfl rfl (det_field rfl fd24_0 rfl) rfl ?_
  refine wl_det rfl rfl (det_load rfl m0 (by rfl) na22 us22) rfl ?_
  refine wl_det rfl rfl (det_len rfl un22) rfl ?_
  refine wl_det rfl rfl (det_lss rfl rfl) rfl ?_
  refine wl_det rfl rfl (det_move rfl) rfl ?_
  refine wl_way (decide (s3.1 < (a1.Out.length : Int))) ((decide (s3.1 < (a1.Out.length : Int))) && (decide (s3.1 < (w64 (a1.Acked + 4))))) 6 17 (fun hg => ?_) (fun hg => ?_) ?_
  · have hg1_11 := hg
    refine wl_on rfl rfl rfl rfl hg1_11 ?_
    refine wl_det rfl rfl (det_move rfl) rfl ?_
    refine wl_on rfl rfl rfl rfl hg1_11 ?_
    refine wl_det rfl rfl (det_field rfl fd24_1 rfl) rfl ?_
    refine wl_on rfl rfl rfl rfl hg1_11 ?_
    refine wl_det rfl rfl (det_load rfl m0 (by rfl) na3 us3) rfl ?_
    refine wl_on rfl rfl rfl rfl hg1_11 ?_
    refine wl_det rfl rfl (det_add rfl rfl) rfl ?_
    refine wl_on rfl rfl rfl rfl hg1_11 ?_
    refine wl_det rfl rfl (det_lss rfl rfl) rfl ?_
    refine wl_det rfl rfl (det_and_on rfl rfl rfl hg1_11) rfl ?_
    exact wl_nil (pn_qnE (ext_cons rfl (ext_skip rfl (ext_skip rfl (ext_skip rfl (ext_skip rfl (ext_skip rfl (ext_skip rfl ext_refl))))))) (fun _ h => h))
  · have hg1_11a := hg
    refine wl_off rfl rfl rfl rfl rfl hg1_11a rfl ?_
    refine wl_off rfl rfl rfl rfl rfl hg1_11a rfl ?_
    refine wl_off rfl rfl rfl rfl rfl hg1_11a rfl ?_
    refine wl_off rfl rfl rfl rfl rfl hg1_11a rfl ?_
    refine wl_off rfl rfl rfl rfl rfl hg1_11a rfl ?_
    refine wl_det rfl rfl (det_and_off (q := (decide (s3.1 < (w64 (a1.Acked + 4))))) rfl rfl rfl hg1_11a) rfl ?_
    exact wl_nil (pn_qnE (ext_cons rfl (ext_skip rfl (ext_skip rfl (ext_skip rfl (ext_skip rfl (ext_skip rfl (ext_skip rfl ext_refl))))))) (fun _ h => h))
  refine wl_nil ?_
  refine pn_then ?_
  refine wc_cond rfl (fun cd7 => ?_) (fun cd7 => ?_)
  · have h := ifT h cd7
    refine wc_skip ?_
    refine pn_then ?_
    refine wc_seq ?_
    refine wc_block ?_
    refine wc_seq ?_
    refine wc_region ?_   -- region 3
    refine wl_det rfl rfl (det_move rfl) rfl ?_
    refine wl_det rfl rfl (det_move rfl) rfl ?_
    refine wl_det rfl rfl (det_add rfl rfl) rfl ?_
    refine wl_det rfl rfl (det_field rfl fd24_0 rfl) rfl ?_
    refine wl_det rfl rfl (det_load rfl m0 (by rfl) na22 us22) rfl ?_
    refine wl_det rfl rfl (det_move rfl) rfl ?_
    obtain ⟨k3_6, h⟩ := chk_some h
    refine wl_ex (G := Option Addr × Nat) (fun _ => _) (fun g => fPt A1 (s3.1.toNat * 1) [.slice g.1 (ix a1.Out s3.1).length g.2] :: fV (lSlice (lInt .u8)) (.slice g.1 (ix a1.Out s3.1).length g.2) (ix a1.Out s3.1) :: _) (fun _ => True) (fun _ h => open_slice h m0 k3_6) ?_
    rintro ⟨A3_6, c3_6⟩ -
    dsimp only
    refine wl_det rfl rfl (det_indexP rfl rfl (ms (ms m0)) k3_6 m0 un22 sz25) rfl ?_
    refine wl_det rfl rfl (det_loadP (off := 0) rfl m0 (by rfl) (by rfl) (loaded_1 na25 us25)) rfl ?_
    obtain ⟨r3_8, hr3_8, h⟩ := bind_some h
    refine wl_act (act_yield hY (((w64 (s3.1 + 1)), (ix a1.Out s3.1)), (A3_6, (ix a1.Out s3.1).length, c3_6), ()) hr3_8 hE3 rfl rfl (rs r0) ⟨(ms m0), trivial⟩) rfl rfl rfl ?_
    rintro _ _ _ ⟨_, _, hp, rfl, rfl⟩
    rcases r3_8 with s3_8 | o3_8
    · obtain ⟨rfl, rfl, e3_8, hE3_8, rfl⟩ := hp
      have h := elimL h
      dsimp only [List.nil_append, List.cons_append]
      refine wl_det rfl rfl (det_not rfl) rfl ?_
      refine wl_nil ?_
      refine pn_then ?_
      refine wc_condF rfl ?_
      refine wc_skip ?_
      refine pn_block ?_
      refine pn_then ?_
      refine wc_region ?_   -- region 2
      refine wl_det rfl rfl (det_move rfl) rfl ?_
      refine wl_det rfl rfl (det_add rfl rfl) rfl ?_
      refine wl_det rfl rfl (det_assign rfl) rfl ?_
      refine wl_nil ?_
      replace h := Option.some.inj h
      subst h
      exact pn_some (k3, ((w64 (s3.1 + 1)), s3_8), e3_8, ()) ⟨⟨nextL g3, hE3_8⟩, Nat.lt_succ_self _⟩ ⟨rfl, rfl, rfl, trivial⟩ (fun _ h => h.to ⟨_, (rs r0), ⟨_, r0, trivial⟩⟩ ⟨(ms (ms m0)), trivial⟩)
    · obtain ⟨rfl, rfl, e3_8, hE3_8, rfl⟩ := hp
      have h := elimR h
      dsimp only [List.nil_append, List.cons_append]
      refine wl_det rfl rfl (det_not rfl) rfl ?_
      refine wl_nil ?_
      refine pn_then ?_
      refine wc_condT rfl ?_
      refine wc_ret ?_
      refine pr_block ?_
      refine pr_then ?_
      refine pr_then ?_
      refine pr_block ?_
      replace h := Option.some.inj h
      subst h
      replace g3 := nextR g3
      subst g3
      have h := ho3
      replace h := Option.some.inj h
      subst h
      refine pn_ret (vs := []) rfl trivial ⟨rfl, _, hE3_8, rfl⟩ (fun _ h => h.to ⟨_, r0, ⟨_, r0, trivial⟩⟩ trivial)
  · have h := ifF h cd7
    refine wc_exit ?_
    refine px_then ?_
    refine px_then ?_
    refine px_block ?_
    refine pn_fall ?_
    replace h := Option.some.inj h
    subst h
    replace g3 := nextR g3
    subst g3
    have h := ho3
    replace h := Option.some.inj h
    subst h
    refine pn_ret (vs := []) rfl trivial ⟨rfl, _, hE3, rfl⟩ (fun _ h => h.to ⟨_, (rs r0), ⟨_, r0, trivial⟩⟩ trivial)
def Q_link_Pending (r : (List GPacket)) : Value → List Ent → List Fact → Prop := fun v θ κ => ∃ (pA0 : Option Addr), ∃ (pn0 : Nat), ∃ (pc0 : Nat), v = .slice pA0 pn0 pc0 ∧ θ = [eS lGPacket 27 pA0 pn0 pc0 r] ∧ κ = []
set_option maxHeartbeats 4000000 in
set_option maxRecDepth 100000 in
theorem W_link_Pending (a0 : GEndpoint) (a1 : Int) (a2 : Bool) (A0 : Option Addr) (n0 : Nat) (c0 : Nat) (r : (List GPacket)) (h : link_Pending a0 a1 a2 = some r) : Spec Try.prog 14 [.agg #[.slice A0 n0 c0, .int .i64 a0.Acked, .int .i64 a0.Got], .int .i64 a1, .bool a2] [] [fV (lSlice (lSlice (lInt .u8))) (.slice A0 n0 c0) a0.Out] (Q_link_Pending r) := by
  unfold link_Pending at h
  refine spec_of (σ := [(0, _), (1, _), (2, _)]) Try.func14 rfl rfl rfl rfl ?_
  intro C
  refine wc_know (fun _ h => h.lenF m0) (fun e => ?_)
  subst e
  refine wc_seq ?_
  refine wc_region ?_   -- region 0
  refine wl_act (act_box (cs := [_, _, _]) rfl rfl) rfl rfl rfl ?_
  rintro _ _ _ ⟨b0_0, rfl, rfl, rfl⟩
  refine wl_act (act_box (cs := [_]) rfl rfl) rfl rfl rfl ?_
  rintro _ _ _ ⟨b0_1, rfl, rfl, rfl⟩
  refine wl_act (act_box (cs := [_]) rfl rfl) rfl rfl rfl ?_
  rintro _ _ _ ⟨b0_2, rfl, rfl, rfl⟩
  refine wl_det rfl rfl (det_assign rfl) rfl ?_
  refine wl_nil ?_
  refine pn_then ?_
  refine wc_seq ?_
  refine wc_seq ?_
  refine wc_region ?_   -- region 1
  refine wl_det rfl rfl (det_loadN (cells := [_, _, _]) rfl (ms (ms m0)) (by rfl) ag24 sz24) rfl ?_
  obtain ⟨r1_1, hr1_1, h⟩ := bind_some h
  refine wl_act (act_callS (cap := []) (W_link_Valid a0 A0 a0.Out.length c0 r1_1 hr1_1) rfl rfl rfl bd16 rfl ⟨m0, trivial⟩) rfl rfl rfl ?_
  rintro _ _ _ ⟨_, _, ⟨rfl, rfl, rfl⟩, rfl, rfl⟩
  dsimp only [List.nil_append, List.cons_append]
  refine wl_det rfl rfl (det_not rfl) rfl ?_
  refine wl_nil ?_
  refine pn_then ?_
  refine wc_cond rfl (fun cd5 => ?_) (fun cd5 => ?_)
  · have h := ifT h cd5
    refine wc_seq ?_
    refine wc_region ?_   -- region 2
    refine wl_det rfl rfl (det_assign rfl) rfl ?_
    refine wl_nil ?_
    refine pn_then ?_
    refine wc_ret ?_
    refine pr_then ?_
    refine pn_st (fun _ h => h.zeroS lGPacket 27 none) ?_
    replace h := Option.some.inj h
    subst h
    refine pn_ret (vs := [_]) rfl ⟨rfl, trivial⟩ ⟨none, 0, 0, rfl, rfl, rfl⟩ (fun _ h => h.to ⟨_, r0, trivial⟩ trivial)
  · have h := ifF h cd5
    refine wc_skip ?_
    refine pn_then ?_
    refine wc_seq ?_
    refine wc_region ?_   -- region 3
    refine wl_act (act_alloc (cs := [_]) zr31 rfl) rfl rfl rfl ?_
    rintro _ _ _ ⟨b3_0, rfl, rfl, rfl⟩
    refine wl_nil ?_
    refine pn_then ?_
    refine wc_seq ?_
    refine wc_seq ?_
    refine wc_region ?_   -- region 4
    refine wl_det rfl rfl (det_loadN (cells := [_, _, _]) rfl (ms (ms (ms m0))) (by rfl) ag24 sz24) rfl ?_
    obtain ⟨r4_1, hr4_1, h⟩ := bind_some h
    refine wl_act (act_callS (cap := []) (W_link_flight a0 A0 a0.Out.length c0 r4_1 hr4_1) rfl rfl rfl bd23 rfl ⟨m0, trivial⟩) rfl rfl rfl ?_
    rintro _ _ _ ⟨_, _, ⟨y4_1b0, y4_1A1, y4_1n1, y4_1c1, rfl, rfl, rfl⟩, rfl, rfl⟩
    dsimp only [List.nil_append, List.cons_append]
    refine wl_know (fun _ h => h.lenF m0) (fun e => ?_)
    subst e
    refine wl_nil ?_
    refine pn_then ?_
    refine wc_block ?_
    refine wc_st (fun _ h => h.zeroS lGPacket 27 none) ?_
    obtain ⟨q14, hq14, h⟩ := bind_some h
    refine wc_rangeFunc (ηr := []) (W_link_flight_c1 r4_1 y4_1b0 y4_1A1 r4_1.Out.length y4_1c1) rfl bd25 (fun _ => rfl) rfl (AllIn.all ⟨m0, trivial⟩) (link_Pending_l14 a0 a1 a2) (fun s14 θ κ => ∃ (A14_0 : Option Addr), ∃ (n14_0 : Nat), ∃ (c14_0 : Nat), θ = [eBlk b0_0 24 [.slice A0 a0.Out.length c0, .int .i64 a0.Acked, .int .i64 a0.Got], eBlk b0_1 3 [.int .i64 a1], eBlk b0_2 4 [.bool a2], eBlk b3_0 31 [.slice A14_0 n14_0 c14_0], eS lGPacket 27 A14_0 n14_0 c14_0 s14] ∧ κ = [fV (lSlice (lSlice (lInt .u8))) (.slice A0 a0.Out.length c0) a0.Out]) (fun o _ _ _ => Empty.elim o) [] q14 hq14 ⟨none, 0, 0, rfl, rfl⟩ (fun _ h => h.to ⟨_, (rs (rs (rs (rs (rs r0))))), ⟨_, (rs (rs (rs (rs r0)))), ⟨_, (rs (rs (rs r0))), ⟨_, (rs (rs r0)), ⟨_, r0, ⟨_, r0, trivial⟩⟩⟩⟩⟩⟩ allIn_self) (AllIn.all ⟨(ms m0), trivial⟩) ?_ ?_ (fun _ o => Empty.elim o)
    · rintro C l14_ L14_ ⟨x14, ⟨xA14_0, xn14_0, xc14_0⟩, ⟨⟩⟩ s14 r _ _ h ⟨A14_0, n14_0, c14_0, rfl, rfl⟩
      unfold link_Pending_l14 at h
      dsimp only [zipσ, enc_link_flight_c1, fx_link_flight_c1, List.cons_append, List.nil_append] at h ⊢
      refine wc_know (fun _ h => h.lenO (ms (ms (ms (ms (ms m0)))))) (fun e => ?_)
      subst e
      refine wc_know (fun _ h => h.lenF (ms m0)) (fun e => ?_)
      subst e
      refine wc_seq ?_
      refine wc_region ?_   -- region 5
      refine wl_det rfl rfl (det_assign rfl) rfl ?_
      refine wl_nil ?_
      refine pn_then ?_
      refine wc_region ?_   -- region 6
      refine wl_det rfl rfl (det_assign rfl) rfl ?_
      refine wl_nil ?_
      refine pn_begin s0 ?_
      refine wc_block ?_
      refine dx_regionZ (Z := St C [_, _, _, _, _, _] [_, _]) 10 [[], [], [], [], [], [4], [], [6], [1, 2, 3, 4, 5, 6, 7], [1, 2, 3, 4, 5, 6, 7, 8], [0, 1, 2, 3, 4, 5, 6, 7, 8, 9], [0, 1, 2, 3, 4, 5, 6, 7, 8, 9, 10]] mixed (ord := (.det 0 (.det 1 (.det 2 (.det 3 (.det 4 (.det 5 (.det 6 (.alt 7 (.det 8 (.alt 9 .done .dead)) .dead))))))))) (by kernel_rfl) (fun _ h => h.to ⟨_, r0, ⟨_, r0, ⟨_, r0, ⟨_, r0, ⟨_, r0, ⟨_, r0, trivial⟩⟩⟩⟩⟩⟩ ⟨m0, ⟨(ms m0), trivial⟩⟩) ?_   -- region 7
      refine hx_det rfl rfl rfl nofun (det_load rfl (ms (ms (ms (ms m0)))) (by rfl) na31 us31) rfl ?_
      refine hx_det rfl rfl rfl nofun (det_load rfl (ms (ms m0)) (by rfl) na3 us3) rfl ?_
      refine hx_det rfl rfl rfl nofun (det_load rfl (ms (ms (ms m0))) (by rfl) na4 us4) rfl ?_
      refine hx_det rfl rfl rfl nofun (det_move rfl) rfl ?_
      refine hx_det rfl rfl rfl nofun (det_field rfl fd24_2 rfl) rfl ?_
      refine hx_det rfl rfl rfl nofun (det_load rfl (ms m0) (by rfl) na3 us3) rfl ?_
      refine hx_det rfl rfl rfl nofun (det_move rfl) rfl ?_
      obtain ⟨r7_7, hr7_7, h⟩ := bind_some h
      refine hx_mut rfl rfl rfl (act_callS (cap := []) (W_slices_Clone_s_byte_byte x14.2 xA14_0 x14.2.length xc14_0 r7_7 hr7_7) rfl rfl rfl bd18 rfl ⟨(ms m0), trivial⟩) rfl (by rintro _ _ _ ⟨_, _, ⟨y7_7A0, y7_7n0, y7_7c0, rfl, rfl, rfl⟩, rfl, rfl⟩ w hs; exact hs.to ⟨_, (rs r0), ⟨_, (rs r0), ⟨_, (rs r0), ⟨_, (rs r0), ⟨_, (rs r0), ⟨_, (rs r0), trivial⟩⟩⟩⟩⟩⟩ ⟨m0, ⟨(ms m0), trivial⟩⟩) ?_
      rintro _ _ _ ⟨_, _, ⟨y7_7A0, y7_7n0, y7_7c0, rfl, rfl, rfl⟩, rfl, rfl⟩
      dsimp only [List.nil_append, List.cons_append]
      refine hx_det rfl rfl rfl nofun (det_build (cs := [_, _, _, _, _]) pl27 zr27 rfl rfl (by rfl)) rfl ?_
      refine hx_st (fun _ h => h.shutS r0) ?_
      refine hx_st (fun _ h => h.fact (f := fC lGPacket [.int .i64 a1, .bool a2, .int .i64 x14.1, .int .i64 a0.Got, .slice y7_7A0 y7_7n0 y7_7c0] (GPacket.mk a1 a2 x14.1 a0.Got r7_7)) (mkGPacket (x := (GPacket.mk a1 a2 x14.1 a0.Got r7_7)) ⟨h.facts _ m0, trivial⟩)) ?_
      refine hx_mut rfl rfl rfl (act_litS lGPacket (vs := [_]) (cs := [_, _, _, _, _]) [(GPacket.mk a1 a2 x14.1 a0.Got r7_7)] un31 in27 rfl rfl rfl rfl rfl ⟨rfl, trivial⟩ (by rfl) rfl (fun _ h => by have q := oneF h m0; exact q)) rfl (by rintro _ _ _ ⟨A7_9, rfl, rfl, rfl⟩ w hs; exact hs.to ⟨_, (rs r0), ⟨_, (rs r0), ⟨_, (rs r0), ⟨_, (rs r0), ⟨_, (rs r0), ⟨_, (rs r0), trivial⟩⟩⟩⟩⟩⟩ ⟨(ms (ms m0)), ⟨(ms (ms (ms m0))), trivial⟩⟩) ?_
      rintro _ _ _ ⟨A7_9, rfl, rfl, rfl⟩
      refine hx_end ?_
      refine wl_know (fun _ h => h.lenF (ms m0)) (fun e => ?_)
      subst e
      obtain ⟨k7_10, h⟩ := chk_some h
      refine wl_act (act_appendS (L := lGPacket) rfl rfl (ss (ss (ss (ss (ss (ss s0)))))) (src_O m0) un31 in27 rfl rfl rfl k7_10) rfl rfl rfl ?_
      rintro _ _ _ ⟨A7_10, c7_10, rfl, rfl, rfl⟩
      refine wl_act0 (act_store (cells := [_]) (cs' := [_]) rfl rfl rfl (ss (ss (ss (ss (ss s0))))) (by rfl) (of_decide_eq_true rfl) sz31 ⟨rfl, trivial⟩) rfl rfl ?_
      rintro _ _ _ ⟨rfl, rfl⟩
      refine wl_nil ?_
      refine pn_block ?_
      replace h := Option.some.inj h
      subst h
      exact pn_roundN (ss s0) (fun _ h => ⟨rfl, _, _, ⟨A7_10, (s14 ++ [(GPacket.mk a1 a2 x14.1 a0.Got r7_7)]).length, c7_10, rfl, rfl⟩, h.to ⟨_, (rs r0), ⟨_, (rs r0), ⟨_, (rs r0), ⟨_, (rs r0), ⟨_, (rs r0), ⟨_, (rs r0), trivial⟩⟩⟩⟩⟩⟩ ⟨(ms (ms m0)), trivial⟩⟩)
    · rintro m14_ s14 _ _ rfl ⟨A14_0, n14_0, c14_0, rfl, rfl⟩
      have h := elimL h
      dsimp only [List.cons_append, List.nil_append]
      refine pn_know (fun _ h => h.lenO (ms (ms (ms (ms m0))))) (fun e => ?_)
      subst e
      refine pn_block ?_
      refine pn_then ?_
      refine wc_seq ?_
      refine wc_region ?_   -- region 8
      refine wl_det rfl rfl (det_load rfl (ms (ms (ms m0))) (by rfl) na31 us31) rfl ?_
      refine wl_det rfl rfl (det_assign rfl) rfl ?_
      refine wl_nil ?_
      refine pn_then ?_
      refine wc_ret ?_
      replace h := Option.some.inj h
      subst h
      refine pn_retM (rs (rs (rs (rs (rs (rs r0)))))) ?_
      refine pn_ret (vs := [_]) rfl ⟨rfl, trivial⟩ ⟨A14_0, s14.length, c14_0, rfl, rfl, rfl⟩ (fun _ h => h.to ⟨_, (rs (rs (rs (rs r0)))), trivial⟩ trivial)
def Q_treatylaw42_awake (r : Bool) : Value → List Ent → List Fact → Prop := fun v θ κ => v = .bool r ∧ θ = [] ∧ κ = []
theorem plains_treatylaw42_awake {r : Bool} : ∀ v θ κ, Q_treatylaw42_awake r v θ κ → Plains θ := by
  rintro _ _ _ ⟨rfl, rfl, rfl⟩
  exact trivial
set_option maxHeartbeats 4000000 in
set_option maxRecDepth 100000 in
theorem W_treatylaw42_awake (r : Bool) (h : treatylaw42_awake = some r) : Spec Try.prog 11 [] [] [] (Q_treatylaw42_awake r) := by
  unfold treatylaw42_awake at h
  refine spec_of (σ := []) Try.func11 rfl rfl rfl rfl ?_
  intro C
  refine wc_seq ?_
  refine wc_region ?_   -- region 0
  refine wl_det rfl rfl (det_assign rfl) rfl ?_
  refine wl_nil ?_
  refine pn_then ?_
  refine wc_seq ?_
  refine wc_region ?_   -- region 1
  refine wl_act (act_litS (lInt .u8) (vs := [_]) (cs := [_]) [1] un25 in5 rfl rfl rfl rfl rfl ⟨rfl, trivial⟩ (by rfl) rfl (litR_flat rfl)) rfl rfl rfl ?_
  rintro _ _ _ ⟨A1_0, rfl, rfl, rfl⟩
  refine wl_act (act_litS (lInt .u8) (vs := [_]) (cs := [_]) [2] un25 in5 rfl rfl rfl rfl rfl ⟨rfl, trivial⟩ (by rfl) rfl (litR_flat rfl)) rfl rfl rfl ?_
  rintro _ _ _ ⟨A1_1, rfl, rfl, rfl⟩
  refine wl_act (act_litS (lInt .u8) (vs := [_]) (cs := [_]) [3] un25 in5 rfl rfl rfl rfl rfl ⟨rfl, trivial⟩ (by rfl) rfl (litR_flat rfl)) rfl rfl rfl ?_
  rintro _ _ _ ⟨A1_2, rfl, rfl, rfl⟩
  refine wl_st (fun _ h => h.shutS (rs (rs r0))) ?_
  refine wl_st (fun _ h => h.shutS (rs r0)) ?_
  refine wl_st (fun _ h => h.shutS r0) ?_
  refine wl_act (act_litS (lSlice (lInt .u8)) (vs := [_, _, _]) (cs := [_, _, _]) [[1], [2], [3]] un22 in25 rfl rfl rfl rfl rfl ⟨rfl, rfl, rfl, trivial⟩ (by rfl) rfl (fun _ h => by have q := ((oneV h (ms (ms m0))).cat (oneV h (ms m0))).cat (oneV h m0); exact q)) rfl rfl rfl ?_
  rintro _ _ _ ⟨A1_3, rfl, rfl, rfl⟩
  refine wl_det rfl rfl (det_build (cs := [_, _, _]) pl24 zr24 rfl rfl (by rfl)) rfl ?_
  refine wl_act (act_alloc (cs := [_, _, _]) zr24 rfl) rfl rfl rfl ?_
  rintro _ _ _ ⟨b1_5, rfl, rfl, rfl⟩
  refine wl_act0 (act_store (cells := [_, _, _]) (cs' := [_, _, _]) rfl rfl rfl s0 (by rfl) (of_decide_eq_true rfl) sz24 ⟨rfl, rfl, rfl, trivial⟩) rfl rfl ?_
  rintro _ _ _ ⟨rfl, rfl⟩
  refine wl_nil ?_
  refine pn_then ?_
  refine wc_seq ?_
  refine wc_region ?_   -- region 2
  refine wl_det rfl rfl (det_loadN (cells := [_, _, _]) rfl m0 (by rfl) ag24 sz24) rfl ?_
  refine wl_st (fun _ h => h.shutS (rs r0)) ?_
  obtain ⟨r2_1, hr2_1, h⟩ := bind_some h
  refine wl_act (act_callS (cap := []) (W_link_Pending (GEndpoint.mk [[1], [2], [3]] 1 0) 5 true A1_3 3 3 r2_1 hr2_1) rfl rfl rfl bd14 rfl ⟨m0, trivial⟩) rfl rfl rfl ?_
  rintro _ _ _ ⟨_, _, ⟨y2_1A0, y2_1n0, y2_1c0, rfl, rfl, rfl⟩, rfl, rfl⟩
  dsimp only [List.nil_append, List.cons_append]
  refine wl_know (fun _ h => h.lenO m0) (fun e => ?_)
  subst e
  refine wl_det rfl rfl (det_assign rfl) rfl ?_
  refine wl_nil ?_
  refine pn_then ?_
  refine wc_seq ?_
  refine wc_seq ?_
  refine wc_region ?_   -- region 3
  refine wl_det rfl rfl (det_move rfl) rfl ?_
  refine wl_det rfl rfl (det_len rfl un31) rfl ?_
  refine wl_det rfl rfl (det_neq rfl rfl) rfl ?_
  refine wl_det rfl rfl (det_move rfl) rfl ?_
  rcases Bool.eq_false_or_eq_true (!decide ((r2_1.length : Int) = 2)) with hg3_f4 | hg3_f4
  · have h := ifT h hg3_f4
    refine wl_off rfl rfl rfl rfl rfl hg3_f4 rfl ?_
    refine wl_off rfl rfl rfl rfl rfl hg3_f4 rfl ?_
    refine wl_off rfl rfl rfl rfl rfl hg3_f4 rfl ?_
    refine wl_off rfl rfl rfl rfl rfl hg3_f4 rfl ?_
    refine wl_off rfl rfl rfl rfl rfl hg3_f4 rfl ?_
    refine wl_det rfl rfl (det_pick_on rfl hg3_f4 rfl rfl) rfl ?_
    refine wl_det rfl rfl (det_move rfl) rfl ?_
    refine wl_off rfl rfl rfl rfl rfl rfl rfl ?_
    refine wl_off rfl rfl rfl rfl rfl rfl rfl ?_
    refine wl_off rfl rfl rfl rfl rfl rfl rfl ?_
    refine wl_off rfl rfl rfl rfl rfl rfl rfl ?_
    refine wl_off rfl rfl rfl rfl rfl rfl rfl ?_
    refine wl_det rfl rfl (det_pick_on rfl rfl rfl rfl) rfl ?_
    refine wl_det rfl rfl (det_move rfl) rfl ?_
    refine wl_off rfl rfl rfl rfl rfl rfl rfl ?_
    refine wl_off rfl rfl rfl rfl rfl rfl rfl ?_
    refine wl_off rfl rfl rfl rfl rfl rfl rfl ?_
    refine wl_off rfl rfl rfl rfl rfl rfl rfl ?_
    refine wl_off rfl rfl rfl rfl rfl rfl rfl ?_
    refine wl_off rfl rfl rfl rfl rfl rfl rfl ?_
    refine wl_off rfl rfl rfl rfl rfl rfl rfl ?_
    refine wl_det rfl rfl (det_pick_on rfl rfl rfl rfl) rfl ?_
    refine wl_nil ?_
    refine pn_then ?_
    refine wc_cond rfl (fun cd9 => ?_) (fun cd9 => ?_)
    · have h := ifT h cd9
      refine wc_seq ?_
      refine wc_region ?_   -- region 4
      refine wl_det rfl rfl (det_assign rfl) rfl ?_
      refine wl_nil ?_
      refine pn_then ?_
      refine wc_ret ?_
      refine pr_then ?_
      replace h := Option.some.inj h
      subst h
      refine pn_ret (vs := [_]) rfl ⟨rfl, trivial⟩ ⟨rfl, rfl, rfl⟩ (fun _ h => h.to trivial trivial)
    · have h := ifF h cd9
      refine wc_skip ?_
      refine pn_then ?_
      refine wc_seq ?_
      refine wc_region ?_   -- region 5
      refine wl_det rfl rfl (det_build (cs := [_, _, _]) pl24 zr24 rfl rfl (by rfl)) rfl ?_
      refine wl_det rfl rfl (det_move rfl) rfl ?_
      obtain ⟨k5_2, h⟩ := chk_some h
      refine wl_det rfl rfl (det_indexO rfl rfl m0 k5_2 un31 sz27) rfl ?_
      refine wl_st (fun _ h => h.shutS r0) ?_
      refine wl_ex (G := Option Addr × Nat) _ _ (fun _ => True) (fun _ h => openGPacket h m0 k5_2) ?_
      rintro ⟨A5_3, c5_3⟩ -
      dsimp only
      refine wl_det rfl rfl (det_loadP (off := 0) rfl m0 (by rfl) (by rfl) (loaded_n (cells := [_, _, _, _, _]) ag27 sz27)) rfl ?_
      refine wl_st (fun _ h => h.zeroF (lSlice (lInt .u8)) none 0) ?_
      obtain ⟨r5_4, hr5_4, h⟩ := bind_some h
      refine wl_act (act_callS (cap := []) (W_link_Receive (GEndpoint.mk [] 0 1) (ix r2_1 0) none 0 0 A5_3 (ix r2_1 0).Data.length c5_3 r5_4 hr5_4) rfl rfl rfl bd7 rfl ⟨m0, ⟨(ms (ms m0)), trivial⟩⟩) rfl rfl rfl ?_
      rintro _ _ _ ⟨_, _, ⟨y5_4A0, y5_4n0, y5_4c0, y5_4A1, y5_4n1, y5_4c1, rfl, rfl, rfl⟩, rfl, rfl⟩
      dsimp only [List.nil_append, List.cons_append]
      refine wl_know (fun _ h => h.lenO m0) (fun e => ?_)
      subst e
      refine wl_know (fun _ h => h.lenO (ms m0)) (fun e => ?_)
      subst e
      refine wl_det rfl rfl (det_move rfl) rfl ?_
      refine wl_det rfl rfl (det_extract rfl rfl) rfl ?_
      refine wl_det rfl rfl (det_extract rfl rfl) rfl ?_
      refine wl_det rfl rfl (det_extract rfl rfl) rfl ?_
      refine wl_act (act_alloc (cs := [_, _, _]) zr24 rfl) rfl rfl rfl ?_
      rintro _ _ _ ⟨b5_9, rfl, rfl, rfl⟩
      refine wl_act0 (act_store (cells := [_, _, _]) (cs' := [_, _, _]) rfl rfl rfl s0 (by rfl) (of_decide_eq_true rfl) sz24 ⟨rfl, rfl, rfl, trivial⟩) rfl rfl ?_
      rintro _ _ _ ⟨rfl, rfl⟩
      refine wl_det rfl rfl (det_assign rfl) rfl ?_
      refine wl_det rfl rfl (det_assign rfl) rfl ?_
      refine wl_nil ?_
      refine pn_then ?_
      refine wc_seq ?_
      refine wc_region ?_   -- region 6
      refine wl_det rfl rfl (det_build (cs := [_, _, _]) pl24 zr24 rfl rfl (by rfl)) rfl ?_
      refine wl_det rfl rfl (det_move rfl) rfl ?_
      obtain ⟨k6_2, h⟩ := chk_some h
      refine wl_ex (G := Option Addr × Nat) _ _ (fun _ => True) (fun _ h => openGPacket h (ms (ms (ms m0))) k6_2) ?_
      rintro ⟨A6_2, c6_2⟩ -
      dsimp only
      refine wl_det rfl rfl (det_indexP rfl rfl (ms (ms (ms (ms (ms m0))))) k6_2 m0 un31 sz27) rfl ?_
      refine wl_det rfl rfl (det_loadP (off := 0) rfl m0 (by rfl) (by rfl) (loaded_n (cells := [_, _, _, _, _]) ag27 sz27)) rfl ?_
      obtain ⟨r6_4, hr6_4, h⟩ := bind_some h
      refine wl_act (act_callS (cap := []) (W_link_Receive (GEndpoint.mk [] 0 1) (ix r2_1 1) none 0 0 A6_2 (ix r2_1 1).Data.length c6_2 r6_4 hr6_4) rfl rfl rfl bd7 rfl ⟨(ms (ms m0)), ⟨(ms m0), trivial⟩⟩) rfl rfl rfl ?_
      rintro _ _ _ ⟨_, _, ⟨y6_4A0, y6_4n0, y6_4c0, y6_4A1, y6_4n1, y6_4c1, rfl, rfl, rfl⟩, rfl, rfl⟩
      dsimp only [List.nil_append, List.cons_append]
      refine wl_know (fun _ h => h.lenO m0) (fun e => ?_)
      subst e
      refine wl_know (fun _ h => h.lenO (ms m0)) (fun e => ?_)
      subst e
      refine wl_det rfl rfl (det_move rfl) rfl ?_
      refine wl_det rfl rfl (det_extract rfl rfl) rfl ?_
      refine wl_det rfl rfl (det_extract rfl rfl) rfl ?_
      refine wl_det rfl rfl (det_extract rfl rfl) rfl ?_
      refine wl_act (act_alloc (cs := [_, _, _]) zr24 rfl) rfl rfl rfl ?_
      rintro _ _ _ ⟨b6_9, rfl, rfl, rfl⟩
      refine wl_act0 (act_store (cells := [_, _, _]) (cs' := [_, _, _]) rfl rfl rfl s0 (by rfl) (of_decide_eq_true rfl) sz24 ⟨rfl, rfl, rfl, trivial⟩) rfl rfl ?_
      rintro _ _ _ ⟨rfl, rfl⟩
      refine wl_det rfl rfl (det_assign rfl) rfl ?_
      refine wl_det rfl rfl (det_assign rfl) rfl ?_
      refine wl_nil ?_
      refine pn_then ?_
      refine wc_seq ?_
      refine wc_region ?_   -- region 7
      refine wl_det rfl rfl (det_move rfl) rfl ?_
      refine wl_det rfl rfl (det_move rfl) rfl ?_
      obtain ⟨q7_5, hq7_5, h⟩ := bind_some h
      have ho7_5 := h
      refine wl_way r5_4.2.2 q7_5 4 65 (fun hg => ?_) (fun hg => ?_) ?_
      · have hg7_5 := hg
        have h := ifT hq7_5 hg
        refine wl_on rfl rfl rfl rfl hg7_5 ?_
        refine wl_det rfl rfl (det_move rfl) rfl ?_
        refine wl_on rfl rfl rfl rfl hg7_5 ?_
        refine wl_act (act_litS (lInt .u8) (vs := [_]) (cs := [_]) [2] un25 in5 rfl rfl rfl rfl rfl ⟨rfl, trivial⟩ (by rfl) rfl (litR_flat rfl)) rfl rfl rfl ?_
        rintro _ _ _ ⟨A7_3, rfl, rfl, rfl⟩
        refine wl_on rfl rfl rfl rfl hg7_5 ?_
        obtain ⟨r7_4, hr7_4, h⟩ := bind_some h
        refine wl_act (act_callL (cap := []) [eS (lInt .u8) 5 y5_4A1 r5_4.2.1.length y5_4c1 r5_4.2.1, eS (lInt .u8) 5 A7_3 1 1 [2]] (W_treatyref40_Same r5_4.2.1 [2] y5_4A1 r5_4.2.1.length y5_4c1 A7_3 1 1 r7_4 hr7_4) plains_treatyref40_Same rfl rfl rfl bd10 rfl ⟨(ms (ms (ms (ms (ms (ms m0)))))), ⟨m0, trivial⟩⟩ ⟨.inr ⟨_, m0, lent_eS⟩, ⟨.inr ⟨_, (ms m0), lent_eS⟩, trivial⟩⟩) rfl rfl rfl ?_
        rintro _ _ _ ⟨_, _, ⟨rfl, rfl, rfl⟩, rfl, rfl⟩
        dsimp only [List.nil_append, List.cons_append]
        replace h := Option.some.inj h
        subst h
        refine wl_det rfl rfl (det_pick_on rfl hg7_5 rfl rfl) rfl ?_
        exact wl_nil (pn_qnE (ext_cons rfl (ext_skip rfl (ext_skip rfl (ext_skip rfl (ext_skip rfl ext_refl))))) (fun _ h => h.to ⟨_, (rs r0), ⟨_, (rs r0), ⟨_, (rs r0), ⟨_, (rs r0), ⟨_, (rs r0), ⟨_, (rs r0), ⟨_, (rs r0), trivial⟩⟩⟩⟩⟩⟩⟩ ⟨m0, ⟨(ms m0), ⟨(ms (ms m0)), ⟨(ms (ms (ms m0))), ⟨(ms (ms (ms (ms m0)))), ⟨(ms (ms (ms (ms (ms m0))))), ⟨(ms (ms (ms (ms (ms (ms m0)))))), ⟨(ms (ms (ms (ms (ms (ms (ms m0))))))), ⟨(ms (ms (ms (ms (ms (ms (ms (ms m0)))))))), ⟨(ms (ms (ms (ms (ms (ms (ms (ms (ms m0))))))))), trivial⟩⟩⟩⟩⟩⟩⟩⟩⟩⟩))
      · have hg7_5a := hg
        have h := ifF hq7_5 hg
        refine wl_off rfl rfl rfl rfl rfl hg7_5a rfl ?_
        refine wl_off rfl rfl rfl rfl rfl hg7_5a rfl ?_
        refine wl_off rfl rfl rfl rfl rfl hg7_5a rfl ?_
        replace h := Option.some.inj h
        subst h
        refine wl_det rfl rfl (det_pick_off rfl hg7_5a rfl rfl) rfl ?_
        exact wl_nil (pn_qnE (ext_cons rfl (ext_skip rfl (ext_skip rfl (ext_skip rfl (ext_skip rfl ext_refl))))) (fun _ h => h))
      have h := ho7_5
      refine wl_det rfl rfl (det_move rfl) rfl ?_
      refine wl_way q7_5 (q7_5 && (decide (r5_4.1.Got = 2))) 4 70 (fun hg => ?_) (fun hg => ?_) ?_
      · have hg7_10 := hg
        refine wl_on rfl rfl rfl rfl hg7_10 ?_
        refine wl_det rfl rfl (det_field rfl fd24_2 rfl) rfl ?_
        refine wl_on rfl rfl rfl rfl hg7_10 ?_
        refine wl_det rfl rfl (det_load rfl (ms (ms (ms m0))) (by rfl) na3 us3) rfl ?_
        refine wl_on rfl rfl rfl rfl hg7_10 ?_
        refine wl_det rfl rfl (det_eql rfl rfl) rfl ?_
        refine wl_det rfl rfl (det_and_on rfl rfl rfl hg7_10) rfl ?_
        exact wl_nil (pn_qnE (ext_cons rfl (ext_skip rfl (ext_skip rfl (ext_skip rfl (ext_skip rfl ext_refl))))) (fun _ h => h))
      · have hg7_10a := hg
        refine wl_off rfl rfl rfl rfl rfl hg7_10a rfl ?_
        refine wl_off rfl rfl rfl rfl rfl hg7_10a rfl ?_
        refine wl_off rfl rfl rfl rfl rfl hg7_10a rfl ?_
        refine wl_det rfl rfl (det_and_off (q := (decide (r5_4.1.Got = 2))) rfl rfl rfl hg7_10a) rfl ?_
        exact wl_nil (pn_qnE (ext_cons rfl (ext_skip rfl (ext_skip rfl (ext_skip rfl (ext_skip rfl ext_refl))))) (fun _ h => h))
      refine wl_det rfl rfl (det_move rfl) rfl ?_
      refine wl_way (q7_5 && (decide (r5_4.1.Got = 2))) ((q7_5 && (decide (r5_4.1.Got = 2))) && (!r6_4.2.2)) 3 74 (fun hg => ?_) (fun hg => ?_) ?_
      · have hg7_14 := hg
        refine wl_on rfl rfl rfl rfl hg7_14 ?_
        refine wl_det rfl rfl (det_move rfl) rfl ?_
        refine wl_on rfl rfl rfl rfl hg7_14 ?_
        refine wl_det rfl rfl (det_not rfl) rfl ?_
        refine wl_det rfl rfl (det_and_on rfl rfl rfl hg7_14) rfl ?_
        exact wl_nil (pn_qnE (ext_cons rfl (ext_skip rfl (ext_skip rfl (ext_skip rfl ext_refl)))) (fun _ h => h))
      · have hg7_14a := hg
        refine wl_off rfl rfl rfl rfl rfl hg7_14a rfl ?_
        refine wl_off rfl rfl rfl rfl rfl hg7_14a rfl ?_
        refine wl_det rfl rfl (det_and_off (q := (!r6_4.2.2)) rfl rfl rfl hg7_14a) rfl ?_
        exact wl_nil (pn_qnE (ext_cons rfl (ext_skip rfl (ext_skip rfl (ext_skip rfl ext_refl)))) (fun _ h => h))
      refine wl_det rfl rfl (det_assign rfl) rfl ?_
      refine wl_nil ?_
      refine pn_then ?_
      refine wc_ret ?_
      replace h := Option.some.inj h
      subst h
      refine pn_ret (vs := [_]) rfl ⟨rfl, trivial⟩ ⟨rfl, rfl, rfl⟩ (fun _ h => h.to trivial trivial)
  · have h := ifF h hg3_f4
    refine wl_on rfl rfl rfl rfl hg3_f4 ?_
    refine wl_det rfl rfl (det_move rfl) rfl ?_
    refine wl_on rfl rfl rfl rfl hg3_f4 ?_
    obtain ⟨k3_5, h⟩ := chk_some h
    refine wl_det rfl rfl (det_indexO rfl rfl m0 k3_5 un31 sz27) rfl ?_
    refine wl_on rfl rfl rfl rfl hg3_f4 ?_
    refine wl_det rfl rfl (det_fieldO rfl m0 k3_5 fd27_2 rfl) rfl ?_
    refine wl_on rfl rfl rfl rfl hg3_f4 ?_
    refine wl_st (fun _ h => h.shutS r0) ?_
    refine wl_ex (G := Option Addr × Nat) _ _ (fun _ => True) (fun _ h => openGPacket h m0 k3_5) ?_
    rintro ⟨A3_7, c3_7⟩ -
    dsimp only
    refine wl_det rfl rfl (det_loadP (off := 2) rfl m0 (by rfl) (by rfl) (loaded_1 na3 us3)) rfl ?_
    refine wl_on rfl rfl rfl rfl hg3_f4 ?_
    refine wl_det rfl rfl (det_neq rfl rfl) rfl ?_
    refine wl_det rfl rfl (det_pick_off rfl hg3_f4 rfl rfl) rfl ?_
    refine wl_det rfl rfl (det_move rfl) rfl ?_
    rcases Bool.eq_false_or_eq_true (!decide ((ix r2_1 0).Number = 2)) with hg3_f11 | hg3_f11
    · have h := ifT h hg3_f11
      refine wl_off rfl rfl rfl rfl rfl hg3_f11 rfl ?_
      refine wl_off rfl rfl rfl rfl rfl hg3_f11 rfl ?_
      refine wl_off rfl rfl rfl rfl rfl hg3_f11 rfl ?_
      refine wl_off rfl rfl rfl rfl rfl hg3_f11 rfl ?_
      refine wl_off rfl rfl rfl rfl rfl hg3_f11 rfl ?_
      refine wl_det rfl rfl (det_pick_on rfl hg3_f11 rfl rfl) rfl ?_
      refine wl_det rfl rfl (det_move rfl) rfl ?_
      refine wl_off rfl rfl rfl rfl rfl rfl rfl ?_
      refine wl_off rfl rfl rfl rfl rfl rfl rfl ?_
      refine wl_off rfl rfl rfl rfl rfl rfl rfl ?_
      refine wl_off rfl rfl rfl rfl rfl rfl rfl ?_
      refine wl_off rfl rfl rfl rfl rfl rfl rfl ?_
      refine wl_off rfl rfl rfl rfl rfl rfl rfl ?_
      refine wl_off rfl rfl rfl rfl rfl rfl rfl ?_
      refine wl_det rfl rfl (det_pick_on rfl rfl rfl rfl) rfl ?_
      refine wl_nil ?_
      refine pn_then ?_
      refine wc_cond rfl (fun cd9 => ?_) (fun cd9 => ?_)
      · have h := ifT h cd9
        refine wc_seq ?_
        refine wc_region ?_   -- region 4
        refine wl_det rfl rfl (det_assign rfl) rfl ?_
        refine wl_nil ?_
        refine pn_then ?_
        refine wc_ret ?_
        refine pr_then ?_
        replace h := Option.some.inj h
        subst h
        refine pn_ret (vs := [_]) rfl ⟨rfl, trivial⟩ ⟨rfl, rfl, rfl⟩ (fun _ h => h.to trivial trivial)
      · have h := ifF h cd9
        refine wc_skip ?_
        refine pn_then ?_
        refine wc_seq ?_
        refine wc_region ?_   -- region 5
        refine wl_det rfl rfl (det_build (cs := [_, _, _]) pl24 zr24 rfl rfl (by rfl)) rfl ?_
        refine wl_det rfl rfl (det_move rfl) rfl ?_
        refine wl_det rfl rfl (det_indexP rfl rfl (ms (ms m0)) k3_5 m0 un31 sz27) rfl ?_
        refine wl_det rfl rfl (det_loadP (off := 0) rfl m0 (by rfl) (by rfl) (loaded_n (cells := [_, _, _, _, _]) ag27 sz27)) rfl ?_
        refine wl_st (fun _ h => h.zeroF (lSlice (lInt .u8)) none 0) ?_
        obtain ⟨r5_4, hr5_4, h⟩ := bind_some h
        refine wl_act (act_callS (cap := []) (W_link_Receive (GEndpoint.mk [] 0 1) (ix r2_1 0) none 0 0 A3_7 (ix r2_1 0).Data.length c3_7 r5_4 hr5_4) rfl rfl rfl bd7 rfl ⟨m0, ⟨(ms (ms m0)), trivial⟩⟩) rfl rfl rfl ?_
        rintro _ _ _ ⟨_, _, ⟨y5_4A0, y5_4n0, y5_4c0, y5_4A1, y5_4n1, y5_4c1, rfl, rfl, rfl⟩, rfl, rfl⟩
        dsimp only [List.nil_append, List.cons_append]
        refine wl_know (fun _ h => h.lenO m0) (fun e => ?_)
        subst e
        refine wl_know (fun _ h => h.lenO (ms m0)) (fun e => ?_)
        subst e
        refine wl_det rfl rfl (det_move rfl) rfl ?_
        refine wl_det rfl rfl (det_extract rfl rfl) rfl ?_
        refine wl_det rfl rfl (det_extract rfl rfl) rfl ?_
        refine wl_det rfl rfl (det_extract rfl rfl) rfl ?_
        refine wl_act (act_alloc (cs := [_, _, _]) zr24 rfl) rfl rfl rfl ?_
        rintro _ _ _ ⟨b5_9, rfl, rfl, rfl⟩
        refine wl_act0 (act_store (cells := [_, _, _]) (cs' := [_, _, _]) rfl rfl rfl s0 (by rfl) (of_decide_eq_true rfl) sz24 ⟨rfl, rfl, rfl, trivial⟩) rfl rfl ?_
        rintro _ _ _ ⟨rfl, rfl⟩
        refine wl_det rfl rfl (det_assign rfl) rfl ?_
        refine wl_det rfl rfl (det_assign rfl) rfl ?_
        refine wl_nil ?_
        refine pn_then ?_
        refine wc_seq ?_
        refine wc_region ?_   -- region 6
        refine wl_det rfl rfl (det_build (cs := [_, _, _]) pl24 zr24 rfl rfl (by rfl)) rfl ?_
        refine wl_det rfl rfl (det_move rfl) rfl ?_
        obtain ⟨k6_2, h⟩ := chk_some h
        refine wl_ex (G := Option Addr × Nat) _ _ (fun _ => True) (fun _ h => openGPacket h (ms (ms (ms m0))) k6_2) ?_
        rintro ⟨A6_2, c6_2⟩ -
        dsimp only
        refine wl_det rfl rfl (det_indexP rfl rfl (ms (ms (ms (ms (ms m0))))) k6_2 m0 un31 sz27) rfl ?_
        refine wl_det rfl rfl (det_loadP (off := 0) rfl m0 (by rfl) (by rfl) (loaded_n (cells := [_, _, _, _, _]) ag27 sz27)) rfl ?_
        obtain ⟨r6_4, hr6_4, h⟩ := bind_some h
        refine wl_act (act_callS (cap := []) (W_link_Receive (GEndpoint.mk [] 0 1) (ix r2_1 1) none 0 0 A6_2 (ix r2_1 1).Data.length c6_2 r6_4 hr6_4) rfl rfl rfl bd7 rfl ⟨(ms (ms m0)), ⟨(ms m0), trivial⟩⟩) rfl rfl rfl ?_
        rintro _ _ _ ⟨_, _, ⟨y6_4A0, y6_4n0, y6_4c0, y6_4A1, y6_4n1, y6_4c1, rfl, rfl, rfl⟩, rfl, rfl⟩
        dsimp only [List.nil_append, List.cons_append]
        refine wl_know (fun _ h => h.lenO m0) (fun e => ?_)
        subst e
        refine wl_know (fun _ h => h.lenO (ms m0)) (fun e => ?_)
        subst e
        refine wl_det rfl rfl (det_move rfl) rfl ?_
        refine wl_det rfl rfl (det_extract rfl rfl) rfl ?_
        refine wl_det rfl rfl (det_extract rfl rfl) rfl ?_
        refine wl_det rfl rfl (det_extract rfl rfl) rfl ?_
        refine wl_act (act_alloc (cs := [_, _, _]) zr24 rfl) rfl rfl rfl ?_
        rintro _ _ _ ⟨b6_9, rfl, rfl, rfl⟩
        refine wl_act0 (act_store (cells := [_, _, _]) (cs' := [_, _, _]) rfl rfl rfl s0 (by rfl) (of_decide_eq_true rfl) sz24 ⟨rfl, rfl, rfl, trivial⟩) rfl rfl ?_
        rintro _ _ _ ⟨rfl, rfl⟩
        refine wl_det rfl rfl (det_assign rfl) rfl ?_
        refine wl_det rfl rfl (det_assign rfl) rfl ?_
        refine wl_nil ?_
        refine pn_then ?_
        refine wc_seq ?_
        refine wc_region ?_   -- region 7
        refine wl_det rfl rfl (det_move rfl) rfl ?_
        refine wl_det rfl rfl (det_move rfl) rfl ?_
        obtain ⟨q7_5, hq7_5, h⟩ := bind_some h
        have ho7_5 := h
        refine wl_way r5_4.2.2 q7_5 4 65 (fun hg => ?_) (fun hg => ?_) ?_
        · have hg7_5 := hg
          have h := ifT hq7_5 hg
          refine wl_on rfl rfl rfl rfl hg7_5 ?_
          refine wl_det rfl rfl (det_move rfl) rfl ?_
          refine wl_on rfl rfl rfl rfl hg7_5 ?_
          refine wl_act (act_litS (lInt .u8) (vs := [_]) (cs := [_]) [2] un25 in5 rfl rfl rfl rfl rfl ⟨rfl, trivial⟩ (by rfl) rfl (litR_flat rfl)) rfl rfl rfl ?_
          rintro _ _ _ ⟨A7_3, rfl, rfl, rfl⟩
          refine wl_on rfl rfl rfl rfl hg7_5 ?_
          obtain ⟨r7_4, hr7_4, h⟩ := bind_some h
          refine wl_act (act_callL (cap := []) [eS (lInt .u8) 5 y5_4A1 r5_4.2.1.length y5_4c1 r5_4.2.1, eS (lInt .u8) 5 A7_3 1 1 [2]] (W_treatyref40_Same r5_4.2.1 [2] y5_4A1 r5_4.2.1.length y5_4c1 A7_3 1 1 r7_4 hr7_4) plains_treatyref40_Same rfl rfl rfl bd10 rfl ⟨(ms (ms (ms (ms (ms (ms m0)))))), ⟨m0, trivial⟩⟩ ⟨.inr ⟨_, m0, lent_eS⟩, ⟨.inr ⟨_, (ms m0), lent_eS⟩, trivial⟩⟩) rfl rfl rfl ?_
          rintro _ _ _ ⟨_, _, ⟨rfl, rfl, rfl⟩, rfl, rfl⟩
          dsimp only [List.nil_append, List.cons_append]
          replace h := Option.some.inj h
          subst h
          refine wl_det rfl rfl (det_pick_on rfl hg7_5 rfl rfl) rfl ?_
          exact wl_nil (pn_qnE (ext_cons rfl (ext_skip rfl (ext_skip rfl (ext_skip rfl (ext_skip rfl ext_refl))))) (fun _ h => h.to ⟨_, (rs r0), ⟨_, (rs r0), ⟨_, (rs r0), ⟨_, (rs r0), ⟨_, (rs r0), ⟨_, (rs r0), ⟨_, (rs r0), trivial⟩⟩⟩⟩⟩⟩⟩ ⟨m0, ⟨(ms m0), ⟨(ms (ms m0)), ⟨(ms (ms (ms m0))), ⟨(ms (ms (ms (ms m0)))), ⟨(ms (ms (ms (ms (ms m0))))), ⟨(ms (ms (ms (ms (ms (ms m0)))))), ⟨(ms (ms (ms (ms (ms (ms (ms m0))))))), ⟨(ms (ms (ms (ms (ms (ms (ms (ms m0)))))))), ⟨(ms (ms (ms (ms (ms (ms (ms (ms (ms m0))))))))), trivial⟩⟩⟩⟩⟩⟩⟩⟩⟩⟩))
        · have hg7_5a := hg
          have h := ifF hq7_5 hg
          refine wl_off rfl rfl rfl rfl rfl hg7_5a rfl ?_
          refine wl_off rfl rfl rfl rfl rfl hg7_5a rfl ?_
          refine wl_off rfl rfl rfl rfl rfl hg7_5a rfl ?_
          replace h := Option.some.inj h
          subst h
          refine wl_det rfl rfl (det_pick_off rfl hg7_5a rfl rfl) rfl ?_
          exact wl_nil (pn_qnE (ext_cons rfl (ext_skip rfl (ext_skip rfl (ext_skip rfl (ext_skip rfl ext_refl))))) (fun _ h => h))
        have h := ho7_5
        refine wl_det rfl rfl (det_move rfl) rfl ?_
        refine wl_way q7_5 (q7_5 && (decide (r5_4.1.Got = 2))) 4 70 (fun hg => ?_) (fun hg => ?_) ?_
        · have hg7_10 := hg
          refine wl_on rfl rfl rfl rfl hg7_10 ?_
          refine wl_det rfl rfl (det_field rfl fd24_2 rfl) rfl ?_
          refine wl_on rfl rfl rfl rfl hg7_10 ?_
          refine wl_det rfl rfl (det_load rfl (ms (ms (ms m0))) (by rfl) na3 us3) rfl ?_
          refine wl_on rfl rfl rfl rfl hg7_10 ?_
          refine wl_det rfl rfl (det_eql rfl rfl) rfl ?_
          refine wl_det rfl rfl (det_and_on rfl rfl rfl hg7_10) rfl ?_
          exact wl_nil (pn_qnE (ext_cons rfl (ext_skip rfl (ext_skip rfl (ext_skip rfl (ext_skip rfl ext_refl))))) (fun _ h => h))
        · have hg7_10a := hg
          refine wl_off rfl rfl rfl rfl rfl hg7_10a rfl ?_
          refine wl_off rfl rfl rfl rfl rfl hg7_10a rfl ?_
          refine wl_off rfl rfl rfl rfl rfl hg7_10a rfl ?_
          refine wl_det rfl rfl (det_and_off (q := (decide (r5_4.1.Got = 2))) rfl rfl rfl hg7_10a) rfl ?_
          exact wl_nil (pn_qnE (ext_cons rfl (ext_skip rfl (ext_skip rfl (ext_skip rfl (ext_skip rfl ext_refl))))) (fun _ h => h))
        refine wl_det rfl rfl (det_move rfl) rfl ?_
        refine wl_way (q7_5 && (decide (r5_4.1.Got = 2))) ((q7_5 && (decide (r5_4.1.Got = 2))) && (!r6_4.2.2)) 3 74 (fun hg => ?_) (fun hg => ?_) ?_
        · have hg7_14 := hg
          refine wl_on rfl rfl rfl rfl hg7_14 ?_
          refine wl_det rfl rfl (det_move rfl) rfl ?_
          refine wl_on rfl rfl rfl rfl hg7_14 ?_
          refine wl_det rfl rfl (det_not rfl) rfl ?_
          refine wl_det rfl rfl (det_and_on rfl rfl rfl hg7_14) rfl ?_
          exact wl_nil (pn_qnE (ext_cons rfl (ext_skip rfl (ext_skip rfl (ext_skip rfl ext_refl)))) (fun _ h => h))
        · have hg7_14a := hg
          refine wl_off rfl rfl rfl rfl rfl hg7_14a rfl ?_
          refine wl_off rfl rfl rfl rfl rfl hg7_14a rfl ?_
          refine wl_det rfl rfl (det_and_off (q := (!r6_4.2.2)) rfl rfl rfl hg7_14a) rfl ?_
          exact wl_nil (pn_qnE (ext_cons rfl (ext_skip rfl (ext_skip rfl (ext_skip rfl ext_refl)))) (fun _ h => h))
        refine wl_det rfl rfl (det_assign rfl) rfl ?_
        refine wl_nil ?_
        refine pn_then ?_
        refine wc_ret ?_
        replace h := Option.some.inj h
        subst h
        refine pn_ret (vs := [_]) rfl ⟨rfl, trivial⟩ ⟨rfl, rfl, rfl⟩ (fun _ h => h.to trivial trivial)
    · have h := ifF h hg3_f11
      refine wl_on rfl rfl rfl rfl hg3_f11 ?_
      refine wl_det rfl rfl (det_move rfl) rfl ?_
      refine wl_on rfl rfl rfl rfl hg3_f11 ?_
      obtain ⟨k3_12, h⟩ := chk_some h
      refine wl_ex (G := Option Addr × Nat) _ _ (fun _ => True) (fun _ h => openGPacket h (ms (ms m0)) k3_12) ?_
      rintro ⟨A3_12, c3_12⟩ -
      dsimp only
      refine wl_det rfl rfl (det_indexP rfl rfl (ms (ms (ms (ms m0)))) k3_12 m0 un31 sz27) rfl ?_
      refine wl_on rfl rfl rfl rfl hg3_f11 ?_
      refine wl_det rfl rfl (det_fieldP rfl m0 fd27_2 rfl) rfl ?_
      refine wl_on rfl rfl rfl rfl hg3_f11 ?_
      refine wl_det rfl rfl (det_loadP (off := 2) rfl m0 (by rfl) (by rfl) (loaded_1 na3 us3)) rfl ?_
      refine wl_on rfl rfl rfl rfl hg3_f11 ?_
      refine wl_det rfl rfl (det_neq rfl rfl) rfl ?_
      refine wl_det rfl rfl (det_pick_off rfl hg3_f11 rfl rfl) rfl ?_
      refine wl_det rfl rfl (det_move rfl) rfl ?_
      rcases Bool.eq_false_or_eq_true (!decide ((ix r2_1 1).Number = 3)) with hg3_f18 | hg3_f18
      · have h := ifT h hg3_f18
        refine wl_off rfl rfl rfl rfl rfl hg3_f18 rfl ?_
        refine wl_off rfl rfl rfl rfl rfl hg3_f18 rfl ?_
        refine wl_off rfl rfl rfl rfl rfl hg3_f18 rfl ?_
        refine wl_off rfl rfl rfl rfl rfl hg3_f18 rfl ?_
        refine wl_off rfl rfl rfl rfl rfl hg3_f18 rfl ?_
        refine wl_off rfl rfl rfl rfl rfl hg3_f18 rfl ?_
        refine wl_off rfl rfl rfl rfl rfl hg3_f18 rfl ?_
        refine wl_det rfl rfl (det_pick_on rfl hg3_f18 rfl rfl) rfl ?_
        refine wl_nil ?_
        refine pn_then ?_
        refine wc_cond rfl (fun cd9 => ?_) (fun cd9 => ?_)
        · have h := ifT h cd9
          refine wc_seq ?_
          refine wc_region ?_   -- region 4
          refine wl_det rfl rfl (det_assign rfl) rfl ?_
          refine wl_nil ?_
          refine pn_then ?_
          refine wc_ret ?_
          refine pr_then ?_
          replace h := Option.some.inj h
          subst h
          refine pn_ret (vs := [_]) rfl ⟨rfl, trivial⟩ ⟨rfl, rfl, rfl⟩ (fun _ h => h.to trivial trivial)
        · have h := ifF h cd9
          refine wc_skip ?_
          refine pn_then ?_
          refine wc_seq ?_
          refine wc_region ?_   -- region 5
          refine wl_det rfl rfl (det_build (cs := [_, _, _]) pl24 zr24 rfl rfl (by rfl)) rfl ?_
          refine wl_det rfl rfl (det_move rfl) rfl ?_
          refine wl_det rfl rfl (det_indexP rfl rfl (ms (ms (ms (ms m0)))) k3_5 (ms (ms m0)) un31 sz27) rfl ?_
          refine wl_det rfl rfl (det_loadP (off := 0) rfl (ms (ms m0)) (by rfl) (by rfl) (loaded_n (cells := [_, _, _, _, _]) ag27 sz27)) rfl ?_
          refine wl_st (fun _ h => h.zeroF (lSlice (lInt .u8)) none 0) ?_
          obtain ⟨r5_4, hr5_4, h⟩ := bind_some h
          refine wl_act (act_callS (cap := []) (W_link_Receive (GEndpoint.mk [] 0 1) (ix r2_1 0) none 0 0 A3_7 (ix r2_1 0).Data.length c3_7 r5_4 hr5_4) rfl rfl rfl bd7 rfl ⟨m0, ⟨(ms (ms (ms (ms m0)))), trivial⟩⟩) rfl rfl rfl ?_
          rintro _ _ _ ⟨_, _, ⟨y5_4A0, y5_4n0, y5_4c0, y5_4A1, y5_4n1, y5_4c1, rfl, rfl, rfl⟩, rfl, rfl⟩
          dsimp only [List.nil_append, List.cons_append]
          refine wl_know (fun _ h => h.lenO m0) (fun e => ?_)
          subst e
          refine wl_know (fun _ h => h.lenO (ms m0)) (fun e => ?_)
          subst e
          refine wl_det rfl rfl (det_move rfl) rfl ?_
          refine wl_det rfl rfl (det_extract rfl rfl) rfl ?_
          refine wl_det rfl rfl (det_extract rfl rfl) rfl ?_
          refine wl_det rfl rfl (det_extract rfl rfl) rfl ?_
          refine wl_act (act_alloc (cs := [_, _, _]) zr24 rfl) rfl rfl rfl ?_
          rintro _ _ _ ⟨b5_9, rfl, rfl, rfl⟩
          refine wl_act0 (act_store (cells := [_, _, _]) (cs' := [_, _, _]) rfl rfl rfl s0 (by rfl) (of_decide_eq_true rfl) sz24 ⟨rfl, rfl, rfl, trivial⟩) rfl rfl ?_
          rintro _ _ _ ⟨rfl, rfl⟩
          refine wl_det rfl rfl (det_assign rfl) rfl ?_
          refine wl_det rfl rfl (det_assign rfl) rfl ?_
          refine wl_nil ?_
          refine pn_then ?_
          refine wc_seq ?_
          refine wc_region ?_   -- region 6
          refine wl_det rfl rfl (det_build (cs := [_, _, _]) pl24 zr24 rfl rfl (by rfl)) rfl ?_
          refine wl_det rfl rfl (det_move rfl) rfl ?_
          refine wl_det rfl rfl (det_indexP rfl rfl (ms (ms (ms (ms (ms m0))))) k3_12 (ms m0) un31 sz27) rfl ?_
          refine wl_det rfl rfl (det_loadP (off := 0) rfl (ms m0) (by rfl) (by rfl) (loaded_n (cells := [_, _, _, _, _]) ag27 sz27)) rfl ?_
          obtain ⟨r6_4, hr6_4, h⟩ := bind_some h
          refine wl_act (act_callS (cap := []) (W_link_Receive (GEndpoint.mk [] 0 1) (ix r2_1 1) none 0 0 A3_12 (ix r2_1 1).Data.length c3_12 r6_4 hr6_4) rfl rfl rfl bd7 rfl ⟨m0, ⟨(ms (ms m0)), trivial⟩⟩) rfl rfl rfl ?_
          rintro _ _ _ ⟨_, _, ⟨y6_4A0, y6_4n0, y6_4c0, y6_4A1, y6_4n1, y6_4c1, rfl, rfl, rfl⟩, rfl, rfl⟩
          dsimp only [List.nil_append, List.cons_append]
          refine wl_know (fun _ h => h.lenO m0) (fun e => ?_)
          subst e
          refine wl_know (fun _ h => h.lenO (ms m0)) (fun e => ?_)
          subst e
          refine wl_det rfl rfl (det_move rfl) rfl ?_
          refine wl_det rfl rfl (det_extract rfl rfl) rfl ?_
          refine wl_det rfl rfl (det_extract rfl rfl) rfl ?_
          refine wl_det rfl rfl (det_extract rfl rfl) rfl ?_
          refine wl_act (act_alloc (cs := [_, _, _]) zr24 rfl) rfl rfl rfl ?_
          rintro _ _ _ ⟨b6_9, rfl, rfl, rfl⟩
          refine wl_act0 (act_store (cells := [_, _, _]) (cs' := [_, _, _]) rfl rfl rfl s0 (by rfl) (of_decide_eq_true rfl) sz24 ⟨rfl, rfl, rfl, trivial⟩) rfl rfl ?_
          rintro _ _ _ ⟨rfl, rfl⟩
          refine wl_det rfl rfl (det_assign rfl) rfl ?_
          refine wl_det rfl rfl (det_assign rfl) rfl ?_
          refine wl_nil ?_
          refine pn_then ?_
          refine wc_seq ?_
          refine wc_region ?_   -- region 7
          refine wl_det rfl rfl (det_move rfl) rfl ?_
          refine wl_det rfl rfl (det_move rfl) rfl ?_
          obtain ⟨q7_5, hq7_5, h⟩ := bind_some h
          have ho7_5 := h
          refine wl_way r5_4.2.2 q7_5 4 65 (fun hg => ?_) (fun hg => ?_) ?_
          · have hg7_5 := hg
            have h := ifT hq7_5 hg
            refine wl_on rfl rfl rfl rfl hg7_5 ?_
            refine wl_det rfl rfl (det_move rfl) rfl ?_
            refine wl_on rfl rfl rfl rfl hg7_5 ?_
            refine wl_act (act_litS (lInt .u8) (vs := [_]) (cs := [_]) [2] un25 in5 rfl rfl rfl rfl rfl ⟨rfl, trivial⟩ (by rfl) rfl (litR_flat rfl)) rfl rfl rfl ?_
            rintro _ _ _ ⟨A7_3, rfl, rfl, rfl⟩
            refine wl_on rfl rfl rfl rfl hg7_5 ?_
            obtain ⟨r7_4, hr7_4, h⟩ := bind_some h
            refine wl_act (act_callL (cap := []) [eS (lInt .u8) 5 y5_4A1 r5_4.2.1.length y5_4c1 r5_4.2.1, eS (lInt .u8) 5 A7_3 1 1 [2]] (W_treatyref40_Same r5_4.2.1 [2] y5_4A1 r5_4.2.1.length y5_4c1 A7_3 1 1 r7_4 hr7_4) plains_treatyref40_Same rfl rfl rfl bd10 rfl ⟨(ms (ms (ms (ms (ms (ms m0)))))), ⟨m0, trivial⟩⟩ ⟨.inr ⟨_, m0, lent_eS⟩, ⟨.inr ⟨_, (ms m0), lent_eS⟩, trivial⟩⟩) rfl rfl rfl ?_
            rintro _ _ _ ⟨_, _, ⟨rfl, rfl, rfl⟩, rfl, rfl⟩
            dsimp only [List.nil_append, List.cons_append]
            replace h := Option.some.inj h
            subst h
            refine wl_det rfl rfl (det_pick_on rfl hg7_5 rfl rfl) rfl ?_
            exact wl_nil (pn_qnE (ext_cons rfl (ext_skip rfl (ext_skip rfl (ext_skip rfl (ext_skip rfl ext_refl))))) (fun _ h => h.to ⟨_, (rs r0), ⟨_, (rs r0), ⟨_, (rs r0), ⟨_, (rs r0), ⟨_, (rs r0), ⟨_, (rs r0), ⟨_, (rs r0), trivial⟩⟩⟩⟩⟩⟩⟩ ⟨m0, ⟨(ms m0), ⟨(ms (ms m0)), ⟨(ms (ms (ms m0))), ⟨(ms (ms (ms (ms m0)))), ⟨(ms (ms (ms (ms (ms m0))))), ⟨(ms (ms (ms (ms (ms (ms m0)))))), ⟨(ms (ms (ms (ms (ms (ms (ms m0))))))), ⟨(ms (ms (ms (ms (ms (ms (ms (ms m0)))))))), ⟨(ms (ms (ms (ms (ms (ms (ms (ms (ms m0))))))))), trivial⟩⟩⟩⟩⟩⟩⟩⟩⟩⟩))
          · have hg7_5a := hg
            have h := ifF hq7_5 hg
            refine wl_off rfl rfl rfl rfl rfl hg7_5a rfl ?_
            refine wl_off rfl rfl rfl rfl rfl hg7_5a rfl ?_
            refine wl_off rfl rfl rfl rfl rfl hg7_5a rfl ?_
            replace h := Option.some.inj h
            subst h
            refine wl_det rfl rfl (det_pick_off rfl hg7_5a rfl rfl) rfl ?_
            exact wl_nil (pn_qnE (ext_cons rfl (ext_skip rfl (ext_skip rfl (ext_skip rfl (ext_skip rfl ext_refl))))) (fun _ h => h))
          have h := ho7_5
          refine wl_det rfl rfl (det_move rfl) rfl ?_
          refine wl_way q7_5 (q7_5 && (decide (r5_4.1.Got = 2))) 4 70 (fun hg => ?_) (fun hg => ?_) ?_
          · have hg7_10 := hg
            refine wl_on rfl rfl rfl rfl hg7_10 ?_
            refine wl_det rfl rfl (det_field rfl fd24_2 rfl) rfl ?_
            refine wl_on rfl rfl rfl rfl hg7_10 ?_
            refine wl_det rfl rfl (det_load rfl (ms (ms (ms m0))) (by rfl) na3 us3) rfl ?_
            refine wl_on rfl rfl rfl rfl hg7_10 ?_
            refine wl_det rfl rfl (det_eql rfl rfl) rfl ?_
            refine wl_det rfl rfl (det_and_on rfl rfl rfl hg7_10) rfl ?_
            exact wl_nil (pn_qnE (ext_cons rfl (ext_skip rfl (ext_skip rfl (ext_skip rfl (ext_skip rfl ext_refl))))) (fun _ h => h))
          · have hg7_10a := hg
            refine wl_off rfl rfl rfl rfl rfl hg7_10a rfl ?_
            refine wl_off rfl rfl rfl rfl rfl hg7_10a rfl ?_
            refine wl_off rfl rfl rfl rfl rfl hg7_10a rfl ?_
            refine wl_det rfl rfl (det_and_off (q := (decide (r5_4.1.Got = 2))) rfl rfl rfl hg7_10a) rfl ?_
            exact wl_nil (pn_qnE (ext_cons rfl (ext_skip rfl (ext_skip rfl (ext_skip rfl (ext_skip rfl ext_refl))))) (fun _ h => h))
          refine wl_det rfl rfl (det_move rfl) rfl ?_
          refine wl_way (q7_5 && (decide (r5_4.1.Got = 2))) ((q7_5 && (decide (r5_4.1.Got = 2))) && (!r6_4.2.2)) 3 74 (fun hg => ?_) (fun hg => ?_) ?_
          · have hg7_14 := hg
            refine wl_on rfl rfl rfl rfl hg7_14 ?_
            refine wl_det rfl rfl (det_move rfl) rfl ?_
            refine wl_on rfl rfl rfl rfl hg7_14 ?_
            refine wl_det rfl rfl (det_not rfl) rfl ?_
            refine wl_det rfl rfl (det_and_on rfl rfl rfl hg7_14) rfl ?_
            exact wl_nil (pn_qnE (ext_cons rfl (ext_skip rfl (ext_skip rfl (ext_skip rfl ext_refl)))) (fun _ h => h))
          · have hg7_14a := hg
            refine wl_off rfl rfl rfl rfl rfl hg7_14a rfl ?_
            refine wl_off rfl rfl rfl rfl rfl hg7_14a rfl ?_
            refine wl_det rfl rfl (det_and_off (q := (!r6_4.2.2)) rfl rfl rfl hg7_14a) rfl ?_
            exact wl_nil (pn_qnE (ext_cons rfl (ext_skip rfl (ext_skip rfl (ext_skip rfl ext_refl)))) (fun _ h => h))
          refine wl_det rfl rfl (det_assign rfl) rfl ?_
          refine wl_nil ?_
          refine pn_then ?_
          refine wc_ret ?_
          replace h := Option.some.inj h
          subst h
          refine pn_ret (vs := [_]) rfl ⟨rfl, trivial⟩ ⟨rfl, rfl, rfl⟩ (fun _ h => h.to trivial trivial)
      · have h := ifF h hg3_f18
        refine wl_on rfl rfl rfl rfl hg3_f18 ?_
        refine wl_det rfl rfl (det_move rfl) rfl ?_
        refine wl_on rfl rfl rfl rfl hg3_f18 ?_
        refine wl_det rfl rfl (det_indexP rfl rfl (ms (ms (ms (ms m0)))) k3_12 m0 un31 sz27) rfl ?_
        refine wl_on rfl rfl rfl rfl hg3_f18 ?_
        refine wl_det rfl rfl (det_fieldP rfl m0 fd27_4 rfl) rfl ?_
        refine wl_on rfl rfl rfl rfl hg3_f18 ?_
        refine wl_det rfl rfl (det_loadP (off := 4) rfl m0 (by rfl) (by rfl) (loaded_1 na25 us25)) rfl ?_
        refine wl_on rfl rfl rfl rfl hg3_f18 ?_
        refine wl_act (act_litS (lInt .u8) (vs := [_]) (cs := [_]) [3] un25 in5 rfl rfl rfl rfl rfl ⟨rfl, trivial⟩ (by rfl) rfl (litR_flat rfl)) rfl rfl rfl ?_
        rintro _ _ _ ⟨A3_22, rfl, rfl, rfl⟩
        refine wl_on rfl rfl rfl rfl hg3_f18 ?_
        obtain ⟨r3_23, hr3_23, h⟩ := bind_some h
        refine wl_act (act_callL (cap := []) [eS (lInt .u8) 5 A3_22 1 1 [3]] (W_treatyref40_Same (ix r2_1 1).Data [3] A3_12 (ix r2_1 1).Data.length c3_12 A3_22 1 1 r3_23 hr3_23) plains_treatyref40_Same rfl rfl rfl bd10 rfl ⟨m0, trivial⟩ ⟨.inl (ms m0), ⟨.inr ⟨_, m0, lent_eS⟩, trivial⟩⟩) rfl rfl rfl ?_
        rintro _ _ _ ⟨_, _, ⟨rfl, rfl, rfl⟩, rfl, rfl⟩
        dsimp only [List.nil_append, List.cons_append]
        refine wl_on rfl rfl rfl rfl hg3_f18 ?_
        refine wl_det rfl rfl (det_not rfl) rfl ?_
        refine wl_det rfl rfl (det_pick_off rfl hg3_f18 rfl rfl) rfl ?_
        refine wl_nil ?_
        refine pn_then ?_
        refine wc_cond rfl (fun cd9 => ?_) (fun cd9 => ?_)
        · have h := ifT h cd9
          refine wc_seq ?_
          refine wc_region ?_   -- region 4
          refine wl_det rfl rfl (det_assign rfl) rfl ?_
          refine wl_nil ?_
          refine pn_then ?_
          refine wc_ret ?_
          refine pr_then ?_
          replace h := Option.some.inj h
          subst h
          refine pn_ret (vs := [_]) rfl ⟨rfl, trivial⟩ ⟨rfl, rfl, rfl⟩ (fun _ h => h.to trivial trivial)
        · have h := ifF h cd9
          refine wc_skip ?_
          refine pn_then ?_
          refine wc_seq ?_
          refine wc_region ?_   -- region 5
          refine wl_det rfl rfl (det_build (cs := [_, _, _]) pl24 zr24 rfl rfl (by rfl)) rfl ?_
          refine wl_det rfl rfl (det_move rfl) rfl ?_
          refine wl_det rfl rfl (det_indexP rfl rfl (ms (ms (ms (ms m0)))) k3_5 (ms (ms m0)) un31 sz27) rfl ?_
          refine wl_det rfl rfl (det_loadP (off := 0) rfl (ms (ms m0)) (by rfl) (by rfl) (loaded_n (cells := [_, _, _, _, _]) ag27 sz27)) rfl ?_
          refine wl_st (fun _ h => h.zeroF (lSlice (lInt .u8)) none 0) ?_
          obtain ⟨r5_4, hr5_4, h⟩ := bind_some h
          refine wl_act (act_callS (cap := []) (W_link_Receive (GEndpoint.mk [] 0 1) (ix r2_1 0) none 0 0 A3_7 (ix r2_1 0).Data.length c3_7 r5_4 hr5_4) rfl rfl rfl bd7 rfl ⟨m0, ⟨(ms (ms (ms (ms m0)))), trivial⟩⟩) rfl rfl rfl ?_
          rintro _ _ _ ⟨_, _, ⟨y5_4A0, y5_4n0, y5_4c0, y5_4A1, y5_4n1, y5_4c1, rfl, rfl, rfl⟩, rfl, rfl⟩
          dsimp only [List.nil_append, List.cons_append]
          refine wl_know (fun _ h => h.lenO m0) (fun e => ?_)
          subst e
          refine wl_know (fun _ h => h.lenO (ms m0)) (fun e => ?_)
          subst e
          refine wl_det rfl rfl (det_move rfl) rfl ?_
          refine wl_det rfl rfl (det_extract rfl rfl) rfl ?_
          refine wl_det rfl rfl (det_extract rfl rfl) rfl ?_
          refine wl_det rfl rfl (det_extract rfl rfl) rfl ?_
          refine wl_act (act_alloc (cs := [_, _, _]) zr24 rfl) rfl rfl rfl ?_
          rintro _ _ _ ⟨b5_9, rfl, rfl, rfl⟩
          refine wl_act0 (act_store (cells := [_, _, _]) (cs' := [_, _, _]) rfl rfl rfl s0 (by rfl) (of_decide_eq_true rfl) sz24 ⟨rfl, rfl, rfl, trivial⟩) rfl rfl ?_
          rintro _ _ _ ⟨rfl, rfl⟩
          refine wl_det rfl rfl (det_assign rfl) rfl ?_
          refine wl_det rfl rfl (det_assign rfl) rfl ?_
          refine wl_nil ?_
          refine pn_then ?_
          refine wc_seq ?_
          refine wc_region ?_   -- region 6
          refine wl_det rfl rfl (det_build (cs := [_, _, _]) pl24 zr24 rfl rfl (by rfl)) rfl ?_
          refine wl_det rfl rfl (det_move rfl) rfl ?_
          refine wl_det rfl rfl (det_indexP rfl rfl (ms (ms (ms (ms (ms m0))))) k3_12 (ms m0) un31 sz27) rfl ?_
          refine wl_det rfl rfl (det_loadP (off := 0) rfl (ms m0) (by rfl) (by rfl) (loaded_n (cells := [_, _, _, _, _]) ag27 sz27)) rfl ?_
          obtain ⟨r6_4, hr6_4, h⟩ := bind_some h
          refine wl_act (act_callS (cap := []) (W_link_Receive (GEndpoint.mk [] 0 1) (ix r2_1 1) none 0 0 A3_12 (ix r2_1 1).Data.length c3_12 r6_4 hr6_4) rfl rfl rfl bd7 rfl ⟨m0, ⟨(ms (ms m0)), trivial⟩⟩) rfl rfl rfl ?_
          rintro _ _ _ ⟨_, _, ⟨y6_4A0, y6_4n0, y6_4c0, y6_4A1, y6_4n1, y6_4c1, rfl, rfl, rfl⟩, rfl, rfl⟩
          dsimp only [List.nil_append, List.cons_append]
          refine wl_know (fun _ h => h.lenO m0) (fun e => ?_)
          subst e
          refine wl_know (fun _ h => h.lenO (ms m0)) (fun e => ?_)
          subst e
          refine wl_det rfl rfl (det_move rfl) rfl ?_
          refine wl_det rfl rfl (det_extract rfl rfl) rfl ?_
          refine wl_det rfl rfl (det_extract rfl rfl) rfl ?_
          refine wl_det rfl rfl (det_extract rfl rfl) rfl ?_
          refine wl_act (act_alloc (cs := [_, _, _]) zr24 rfl) rfl rfl rfl ?_
          rintro _ _ _ ⟨b6_9, rfl, rfl, rfl⟩
          refine wl_act0 (act_store (cells := [_, _, _]) (cs' := [_, _, _]) rfl rfl rfl s0 (by rfl) (of_decide_eq_true rfl) sz24 ⟨rfl, rfl, rfl, trivial⟩) rfl rfl ?_
          rintro _ _ _ ⟨rfl, rfl⟩
          refine wl_det rfl rfl (det_assign rfl) rfl ?_
          refine wl_det rfl rfl (det_assign rfl) rfl ?_
          refine wl_nil ?_
          refine pn_then ?_
          refine wc_seq ?_
          refine wc_region ?_   -- region 7
          refine wl_det rfl rfl (det_move rfl) rfl ?_
          refine wl_det rfl rfl (det_move rfl) rfl ?_
          obtain ⟨q7_5, hq7_5, h⟩ := bind_some h
          have ho7_5 := h
          refine wl_way r5_4.2.2 q7_5 4 65 (fun hg => ?_) (fun hg => ?_) ?_
          · have hg7_5 := hg
            have h := ifT hq7_5 hg
            refine wl_on rfl rfl rfl rfl hg7_5 ?_
            refine wl_det rfl rfl (det_move rfl) rfl ?_
            refine wl_on rfl rfl rfl rfl hg7_5 ?_
            refine wl_act (act_litS (lInt .u8) (vs := [_]) (cs := [_]) [2] un25 in5 rfl rfl rfl rfl rfl ⟨rfl, trivial⟩ (by rfl) rfl (litR_flat rfl)) rfl rfl rfl ?_
            rintro _ _ _ ⟨A7_3, rfl, rfl, rfl⟩
            refine wl_on rfl rfl rfl rfl hg7_5 ?_
            obtain ⟨r7_4, hr7_4, h⟩ := bind_some h
            refine wl_act (act_callL (cap := []) [eS (lInt .u8) 5 y5_4A1 r5_4.2.1.length y5_4c1 r5_4.2.1, eS (lInt .u8) 5 A7_3 1 1 [2]] (W_treatyref40_Same r5_4.2.1 [2] y5_4A1 r5_4.2.1.length y5_4c1 A7_3 1 1 r7_4 hr7_4) plains_treatyref40_Same rfl rfl rfl bd10 rfl ⟨(ms (ms (ms (ms (ms (ms m0)))))), ⟨m0, trivial⟩⟩ ⟨.inr ⟨_, m0, lent_eS⟩, ⟨.inr ⟨_, (ms m0), lent_eS⟩, trivial⟩⟩) rfl rfl rfl ?_
            rintro _ _ _ ⟨_, _, ⟨rfl, rfl, rfl⟩, rfl, rfl⟩
            dsimp only [List.nil_append, List.cons_append]
            replace h := Option.some.inj h
            subst h
            refine wl_det rfl rfl (det_pick_on rfl hg7_5 rfl rfl) rfl ?_
            exact wl_nil (pn_qnE (ext_cons rfl (ext_skip rfl (ext_skip rfl (ext_skip rfl (ext_skip rfl ext_refl))))) (fun _ h => h.to ⟨_, (rs r0), ⟨_, (rs r0), ⟨_, (rs r0), ⟨_, (rs r0), ⟨_, (rs r0), ⟨_, (rs r0), ⟨_, (rs r0), ⟨_, (rs r0), trivial⟩⟩⟩⟩⟩⟩⟩⟩ ⟨m0, ⟨(ms m0), ⟨(ms (ms m0)), ⟨(ms (ms (ms m0))), ⟨(ms (ms (ms (ms m0)))), ⟨(ms (ms (ms (ms (ms m0))))), ⟨(ms (ms (ms (ms (ms (ms m0)))))), ⟨(ms (ms (ms (ms (ms (ms (ms m0))))))), ⟨(ms (ms (ms (ms (ms (ms (ms (ms m0)))))))), ⟨(ms (ms (ms (ms (ms (ms (ms (ms (ms m0))))))))), trivial⟩⟩⟩⟩⟩⟩⟩⟩⟩⟩))
          · have hg7_5a := hg
            have h := ifF hq7_5 hg
            refine wl_off rfl rfl rfl rfl rfl hg7_5a rfl ?_
            refine wl_off rfl rfl rfl rfl rfl hg7_5a rfl ?_
            refine wl_off rfl rfl rfl rfl rfl hg7_5a rfl ?_
            replace h := Option.some.inj h
            subst h
            refine wl_det rfl rfl (det_pick_off rfl hg7_5a rfl rfl) rfl ?_
            exact wl_nil (pn_qnE (ext_cons rfl (ext_skip rfl (ext_skip rfl (ext_skip rfl (ext_skip rfl ext_refl))))) (fun _ h => h))
          have h := ho7_5
          refine wl_det rfl rfl (det_move rfl) rfl ?_
          refine wl_way q7_5 (q7_5 && (decide (r5_4.1.Got = 2))) 4 70 (fun hg => ?_) (fun hg => ?_) ?_
          · have hg7_10 := hg
            refine wl_on rfl rfl rfl rfl hg7_10 ?_
            refine wl_det rfl rfl (det_field rfl fd24_2 rfl) rfl ?_
            refine wl_on rfl rfl rfl rfl hg7_10 ?_
            refine wl_det rfl rfl (det_load rfl (ms (ms (ms m0))) (by rfl) na3 us3) rfl ?_
            refine wl_on rfl rfl rfl rfl hg7_10 ?_
            refine wl_det rfl rfl (det_eql rfl rfl) rfl ?_
            refine wl_det rfl rfl (det_and_on rfl rfl rfl hg7_10) rfl ?_
            exact wl_nil (pn_qnE (ext_cons rfl (ext_skip rfl (ext_skip rfl (ext_skip rfl (ext_skip rfl ext_refl))))) (fun _ h => h))
          · have hg7_10a := hg
            refine wl_off rfl rfl rfl rfl rfl hg7_10a rfl ?_
            refine wl_off rfl rfl rfl rfl rfl hg7_10a rfl ?_
            refine wl_off rfl rfl rfl rfl rfl hg7_10a rfl ?_
            refine wl_det rfl rfl (det_and_off (q := (decide (r5_4.1.Got = 2))) rfl rfl rfl hg7_10a) rfl ?_
            exact wl_nil (pn_qnE (ext_cons rfl (ext_skip rfl (ext_skip rfl (ext_skip rfl (ext_skip rfl ext_refl))))) (fun _ h => h))
          refine wl_det rfl rfl (det_move rfl) rfl ?_
          refine wl_way (q7_5 && (decide (r5_4.1.Got = 2))) ((q7_5 && (decide (r5_4.1.Got = 2))) && (!r6_4.2.2)) 3 74 (fun hg => ?_) (fun hg => ?_) ?_
          · have hg7_14 := hg
            refine wl_on rfl rfl rfl rfl hg7_14 ?_
            refine wl_det rfl rfl (det_move rfl) rfl ?_
            refine wl_on rfl rfl rfl rfl hg7_14 ?_
            refine wl_det rfl rfl (det_not rfl) rfl ?_
            refine wl_det rfl rfl (det_and_on rfl rfl rfl hg7_14) rfl ?_
            exact wl_nil (pn_qnE (ext_cons rfl (ext_skip rfl (ext_skip rfl (ext_skip rfl ext_refl)))) (fun _ h => h))
          · have hg7_14a := hg
            refine wl_off rfl rfl rfl rfl rfl hg7_14a rfl ?_
            refine wl_off rfl rfl rfl rfl rfl hg7_14a rfl ?_
            refine wl_det rfl rfl (det_and_off (q := (!r6_4.2.2)) rfl rfl rfl hg7_14a) rfl ?_
            exact wl_nil (pn_qnE (ext_cons rfl (ext_skip rfl (ext_skip rfl (ext_skip rfl ext_refl)))) (fun _ h => h))
          refine wl_det rfl rfl (det_assign rfl) rfl ?_
          refine wl_nil ?_
          refine pn_then ?_
          refine wc_ret ?_
          replace h := Option.some.inj h
          subst h
          refine pn_ret (vs := [_]) rfl ⟨rfl, trivial⟩ ⟨rfl, rfl, rfl⟩ (fun _ h => h.to trivial trivial)
def Q_treatylaw42_LinkReceive (r : Bool) : Value → List Ent → List Fact → Prop := fun v θ κ => v = .bool r ∧ θ = [] ∧ κ = []
theorem plains_treatylaw42_LinkReceive {r : Bool} : ∀ v θ κ, Q_treatylaw42_LinkReceive r v θ κ → Plains θ := by
  rintro _ _ _ ⟨rfl, rfl, rfl⟩
  exact trivial
set_option maxHeartbeats 4000000 in
set_option maxRecDepth 100000 in
theorem W_treatylaw42_LinkReceive (a0 : GEndpoint) (a1 : GPacket) (a2 : Int) (a3 : Int) (a4 : Int) (A0 : Option Addr) (n0 : Nat) (c0 : Nat) (A3 : Option Addr) (n3 : Nat) (c3 : Nat) (r : Bool) (h : treatylaw42_LinkReceive a0 a1 a2 a3 a4 = some r) : Spec Try.prog 3 [.agg #[.slice A0 n0 c0, .int .i64 a0.Acked, .int .i64 a0.Got], .agg #[.int .i64 a1.Party, .bool a1.Down, .int .i64 a1.Number, .int .i64 a1.Ack, .slice A3 n3 c3], .int .i8 a2, .int .i8 a3, .int .u8 a4] [] [fV (lSlice (lSlice (lInt .u8))) (.slice A0 n0 c0) a0.Out, fV (lSlice (lInt .u8)) (.slice A3 n3 c3) a1.Data] (Q_treatylaw42_LinkReceive r) := by
  unfold treatylaw42_LinkReceive at h
  refine spec_of (σ := [(0, _), (1, _), (2, _), (3, _), (4, _)]) Try.func3 rfl rfl rfl rfl ?_
  intro C
  refine wc_know (fun _ h => h.lenF m0) (fun e => ?_)
  subst e
  refine wc_know (fun _ h => h.lenF (ms m0)) (fun e => ?_)
  subst e
  refine wc_seq ?_
  refine wc_region ?_   -- region 0
  refine wl_act (act_box (cs := [_, _, _]) rfl rfl) rfl rfl rfl ?_
  rintro _ _ _ ⟨b0_0, rfl, rfl, rfl⟩
  refine wl_act (act_box (cs := [_, _, _, _, _]) rfl rfl) rfl rfl rfl ?_
  rintro _ _ _ ⟨b0_1, rfl, rfl, rfl⟩
  refine wl_det rfl rfl (det_assign rfl) rfl ?_
  refine wl_nil ?_
  refine pn_then ?_
  refine wc_seq ?_
  refine wc_region ?_   -- region 1
  refine wl_det rfl rfl (det_loadN (cells := [_, _, _]) rfl (ms m0) (by rfl) ag24 sz24) rfl ?_
  obtain ⟨r1_1, hr1_1, h⟩ := bind_some h
  refine wl_act (act_callS (cap := []) (W_treatylaw42_few a0 A0 a0.Out.length c0 r1_1 hr1_1) rfl rfl rfl bd6 rfl ⟨m0, trivial⟩) rfl rfl rfl ?_
  rintro _ _ _ ⟨_, _, ⟨y1_1A0, y1_1n0, y1_1c0, rfl, rfl, rfl⟩, rfl, rfl⟩
  dsimp only [List.nil_append, List.cons_append]
  refine wl_know (fun _ h => h.lenO m0) (fun e => ?_)
  subst e
  refine wl_act0 (act_store (cells := [_, _, _]) (cs' := [_, _, _]) rfl rfl rfl (ss (ss s0)) (by rfl) (of_decide_eq_true rfl) sz24 ⟨rfl, rfl, rfl, trivial⟩) rfl rfl ?_
  rintro _ _ _ ⟨rfl, rfl⟩
  refine wl_nil ?_
  refine pn_then ?_
  refine wc_seq ?_
  refine wc_region ?_   -- region 2
  refine wl_det rfl rfl (det_field rfl fd27_4 rfl) rfl ?_
  refine wl_det rfl rfl (det_load rfl (ms m0) (by rfl) na25 us25) rfl ?_
  refine wl_det rfl rfl (det_field rfl fd27_4 rfl) rfl ?_
  refine wl_det rfl rfl (det_load rfl (ms m0) (by rfl) na25 us25) rfl ?_
  refine wl_det rfl rfl (det_len rfl un25) rfl ?_
  refine wl_det rfl rfl (det_minI rfl rfl) rfl ?_
  obtain ⟨k2_6, h⟩ := chk_some h
  obtain ⟨k2_6a, h⟩ := chk_some h
  refine wl_act (act_sliceH rfl rfl (ms m0) un25 sz5 rfl k2_6 k2_6a) rfl rfl rfl ?_
  rintro _ _ _ ⟨A2_6, c2_6, rfl, rfl, rfl⟩
  refine wl_det rfl rfl (det_field rfl fd27_4 rfl) rfl ?_
  refine wl_act0 (act_store (cells := [_]) (cs' := [_, _, _, _, _]) rfl rfl rfl (ss s0) (by rfl) (of_decide_eq_true rfl) sz25 ⟨rfl, trivial⟩) rfl rfl ?_
  rintro _ _ _ ⟨rfl, rfl⟩
  refine wl_nil ?_
  refine pn_then ?_
  refine wc_seq ?_
  refine wc_region ?_   -- region 3
  refine wl_det rfl rfl (det_loadN (cells := [_, _, _]) rfl (ms (ms m0)) (by rfl) ag24 sz24) rfl ?_
  refine wl_act (act_alloc (cs := [_, _, _]) zr24 rfl) rfl rfl rfl ?_
  rintro _ _ _ ⟨b3_1, rfl, rfl, rfl⟩
  refine wl_act0 (act_store (cells := [_, _, _]) (cs' := [_, _, _]) rfl rfl rfl s0 (by rfl) (of_decide_eq_true rfl) sz24 ⟨rfl, rfl, rfl, trivial⟩) rfl rfl ?_
  rintro _ _ _ ⟨rfl, rfl⟩
  refine wl_nil ?_
  refine pn_then ?_
  refine wc_seq ?_
  refine wc_region ?_   -- region 4
  refine wl_det rfl rfl (det_move rfl) rfl ?_
  refine wl_det rfl rfl (det_conv rfl us5 un3) rfl ?_
  refine wl_det rfl rfl (det_field rfl fd24_0 rfl) rfl ?_
  refine wl_det rfl rfl (det_load rfl m0 (by rfl) na22 us22) rfl ?_
  refine wl_det rfl rfl (det_len rfl un22) rfl ?_
  refine wl_det rfl rfl (det_add rfl rfl) rfl ?_
  obtain ⟨k4_6, h⟩ := chk_some h
  refine wl_det rfl rfl (det_remB rfl rfl k4_6) rfl ?_
  refine wl_det rfl rfl (det_field rfl fd24_1 rfl) rfl ?_
  refine wl_act0 (act_store (cells := [_]) (cs' := [_, _, _]) rfl rfl rfl s0 (by rfl) (of_decide_eq_true rfl) sz3 ⟨rfl, trivial⟩) rfl rfl ?_
  rintro _ _ _ ⟨rfl, rfl⟩
  refine wl_nil ?_
  refine pn_then ?_
  refine wc_seq ?_
  refine wc_region ?_   -- region 5
  refine wl_det rfl rfl (det_move rfl) rfl ?_
  refine wl_det rfl rfl (det_conv rfl us5 un3) rfl ?_
  refine wl_det rfl rfl (det_field rfl fd24_2 rfl) rfl ?_
  refine wl_act0 (act_store (cells := [_]) (cs' := [_, _, _]) rfl rfl rfl s0 (by rfl) (of_decide_eq_true rfl) sz3 ⟨rfl, trivial⟩) rfl rfl ?_
  rintro _ _ _ ⟨rfl, rfl⟩
  refine wl_nil ?_
  refine pn_then ?_
  refine wc_seq ?_
  refine wc_region ?_   -- region 6
  refine wl_det rfl rfl (det_loadN (cells := [_, _, _, _, _]) rfl (ms (ms m0)) (by rfl) ag27 sz27) rfl ?_
  refine wl_act (act_alloc (cs := [_, _, _, _, _]) zr27 rfl) rfl rfl rfl ?_
  rintro _ _ _ ⟨b6_1, rfl, rfl, rfl⟩
  refine wl_act0 (act_store (cells := [_, _, _, _, _]) (cs' := [_, _, _, _, _]) rfl rfl rfl s0 (by rfl) (of_decide_eq_true rfl) sz27 ⟨rfl, rfl, rfl, rfl, rfl, trivial⟩) rfl rfl ?_
  rintro _ _ _ ⟨rfl, rfl⟩
  refine wl_nil ?_
  refine pn_then ?_
  refine wc_seq ?_
  refine dx_regionZ (Z := St C [_, _, _, _] [_, _, _]) 14 [[], [0], [], [2], [2, 3], [0, 1, 2, 3, 4], [], [6], [], [8], [8, 9], [6, 7, 8, 9, 10], [0, 1, 2, 3, 4, 5], [0, 1, 2, 3, 4, 5, 12], [0, 1, 2, 3, 4, 5, 6, 7, 8, 9, 10, 11, 12, 13], [0, 1, 2, 3, 4, 5, 6, 7, 8, 9, 10, 11, 12, 13, 14]] mixed (ord := (.det 0 (.det 1 (.det 2 (.det 3 (.det 4 (.det 5 (.det 6 (.det 7 (.det 8 (.det 9 (.det 10 (.det 11 (.det 12 (.alt 13 .done .dead))))))))))))))) (by kernel_rfl) (fun _ h => h.to ⟨_, (rs r0), ⟨_, (rs r0), ⟨_, (rs r0), ⟨_, (rs r0), trivial⟩⟩⟩⟩ ⟨m0, ⟨(ms m0), ⟨(ms (ms m0)), trivial⟩⟩⟩) ?_   -- region 7
  refine hx_det rfl rfl rfl nofun (det_field rfl fd24_2 rfl) rfl ?_
  refine hx_det rfl rfl rfl nofun (det_load rfl m0 (by rfl) na3 us3) rfl ?_
  refine hx_det rfl rfl rfl nofun (det_move rfl) rfl ?_
  refine hx_det rfl rfl rfl nofun (det_conv rfl us28 un3) rfl ?_
  refine hx_det rfl rfl rfl nofun (det_remB rfl rfl rfl) rfl ?_
  refine hx_det rfl rfl rfl nofun (det_add rfl rfl) rfl ?_
  refine hx_det rfl rfl rfl nofun (det_field rfl fd24_1 rfl) rfl ?_
  refine hx_det rfl rfl rfl nofun (det_load rfl m0 (by rfl) na3 us3) rfl ?_
  refine hx_det rfl rfl rfl nofun (det_move rfl) rfl ?_
  refine hx_det rfl rfl rfl nofun (det_conv rfl us28 un3) rfl ?_
  refine hx_det rfl rfl rfl nofun (det_remB rfl rfl rfl) rfl ?_
  refine hx_det rfl rfl rfl nofun (det_add rfl rfl) rfl ?_
  refine hx_det rfl rfl rfl nofun (det_field rfl fd27_2 rfl) rfl ?_
  refine hx_mut0 rfl rfl rfl (act_store (cells := [_]) (cs' := [_, _, _, _, _]) rfl rfl rfl s0 (by rfl) (of_decide_eq_true rfl) sz3 ⟨rfl, trivial⟩) (by rintro _ _ _ ⟨rfl, rfl⟩ w hs; exact hs.to ⟨_, (rs r0), ⟨_, (rs r0), ⟨_, (rs r0), ⟨_, (rs r0), trivial⟩⟩⟩⟩ ⟨m0, ⟨(ms m0), ⟨(ms (ms m0)), trivial⟩⟩⟩) ?_
  rintro _ _ _ ⟨rfl, rfl⟩
  refine hx_end ?_
  refine wl_det rfl rfl (det_field rfl fd27_3 rfl) rfl ?_
  refine wl_act0 (act_store (cells := [_]) (cs' := [_, _, _, _, _]) rfl rfl rfl s0 (by rfl) (of_decide_eq_true rfl) sz3 ⟨rfl, trivial⟩) rfl rfl ?_
  rintro _ _ _ ⟨rfl, rfl⟩
  refine wl_nil ?_
  refine pn_then ?_
  obtain ⟨q16, h, ho16⟩ := bind_some h
  refine wc_meetG (G := Unit × Unit) (fun (s16, _) => (.inl s16) = q16) (fun (_, _) => []) (fun (_, _) => []) (fun (_, _) => []) ?_ ?_
  · refine wc_seq ?_
    refine wc_region ?_   -- region 8
    refine wl_det rfl rfl (det_loadN (cells := [_, _, _]) rfl (ms (ms (ms (ms m0)))) (by rfl) ag24 sz24) rfl ?_
    refine wl_det rfl rfl (det_loadN (cells := [_, _, _]) rfl (ms m0) (by rfl) ag24 sz24) rfl ?_
    refine wl_st (fun _ h => h.shutS (rs (rs r0))) ?_
    refine wl_st (fun _ h => h.fact (f := fC lGEndpoint [.slice y1_1A0 r1_1.Out.length y1_1c0, .int .i64 r1_1.Acked, .int .i64 r1_1.Got] r1_1) (mkGEndpoint (x := r1_1) ⟨h.facts _ m0, trivial⟩)) ?_
    refine wl_st (fun _ h => h.fact (f := fC lGEndpoint [.slice y1_1A0 r1_1.Out.length y1_1c0, .int .i64 ((w64 a4).tmod (w64 ((r1_1.Out.length : Int) + 1))), .int .i64 (w64 a4)] (GEndpoint.mk r1_1.Out ((w64 a4).tmod (w64 ((r1_1.Out.length : Int) + 1))) (w64 a4))) (mkGEndpoint (x := (GEndpoint.mk r1_1.Out ((w64 a4).tmod (w64 ((r1_1.Out.length : Int) + 1))) (w64 a4))) ⟨h.facts _ (ms m0), trivial⟩)) ?_
    refine wl_act (act_litS lGEndpoint (vs := [_, _]) (cs := [_, _, _, _, _, _]) [r1_1, (GEndpoint.mk r1_1.Out ((w64 a4).tmod (w64 ((r1_1.Out.length : Int) + 1))) (w64 a4))] un30 in24 rfl rfl rfl rfl rfl ⟨rfl, rfl, trivial⟩ (by rfl) rfl (fun _ h => by have q := (oneF h (ms m0)).cat (oneF h m0); exact q)) rfl rfl rfl ?_
    rintro _ _ _ ⟨A8_2, rfl, rfl, rfl⟩
    refine wl_det rfl rfl (det_len rfl un30) rfl ?_
    refine wl_det rfl rfl (det_move rfl) rfl ?_
    refine wl_nil ?_
    refine pn_then ?_
    refine wc_block ?_
    refine wc_st (fun _ h => h.shutS r0) ?_
    obtain ⟨o20, h, ho20⟩ := bind_some h
    obtain ⟨k20, hk20⟩ := loopV_some.1 h
    refine wc_loop (G := Nat × Int × Unit) (fun g => IterN (treatylaw42_LinkReceive_l20 a1 a2 a3 a4 r1_1) g.1 g.2.1 o20) (fun g => g.1) (fun (_, s20, _) => [(6, .pointer (some ⟨b0_1, 0, none⟩)), (12, .pointer (some ⟨b6_1, 0, none⟩)), (62, .slice A8_2 2 2), (63, .int .i64 (2 : Int)), (64, .int .i64 s20)]) (fun (_, _, _) => [eBlk b0_1 27 [.int .i64 a1.Party, .bool a1.Down, .int .i64 a1.Number, .int .i64 a1.Ack, .slice A2_6 (a1.Data.take (minI (a1.Data.length : Int) 50).toNat).length c2_6], eBlk b6_1 27 [.int .i64 a1.Party, .bool a1.Down, .int .i64 (w64 ((w64 a4) + ((w64 a2).tmod 3))), .int .i64 (w64 (((w64 a4).tmod (w64 ((r1_1.Out.length : Int) + 1))) + ((w64 a3).tmod 4))), .slice A2_6 (a1.Data.take (minI (a1.Data.length : Int) 50).toNat).length c2_6]]) (fun (_, _, _) => [fV (lSlice (lInt .u8)) (.slice A2_6 (a1.Data.take (minI (a1.Data.length : Int) 50).toNat).length c2_6) (a1.Data.take (minI (a1.Data.length : Int) 50).toNat), fV (lSlice lGEndpoint) (.slice A8_2 2 2) [r1_1, (GEndpoint.mk r1_1.Out ((w64 a4).tmod (w64 ((r1_1.Out.length : Int) + 1))) (w64 a4))]]) (k20, 0, ()) hk20 ⟨rfl, rfl, rfl, rfl, rfl, trivial⟩ (fun _ h => h.to ⟨_, (rs (rs r0)), ⟨_, r0, trivial⟩⟩ ⟨(ms (ms (ms (ms m0)))), ⟨m0, trivial⟩⟩) ?_
    rintro ⟨k20, s20, _⟩ hI
    obtain ⟨k20, rfl, q20, h, g20⟩ := IterN.pos hI
    dsimp only at h ⊢
    unfold treatylaw42_LinkReceive_l20 at h
    refine wc_seq ?_
    refine wc_region ?_   -- region 9
    refine wl_det rfl rfl (det_lss rfl rfl) rfl ?_
    refine wl_nil ?_
    refine pn_then ?_
    refine wc_seq ?_
    refine wc_cond rfl (fun cd24 => ?_) (fun cd24 => ?_)
    · have h := ifT h cd24
      refine wc_skip ?_
      refine pn_then ?_
      obtain ⟨q26, h, ho26⟩ := bind_some h
      refine wc_meetG (G := Unit × Unit) (fun (s26, _) => (.inl s26) = q26) (fun (_, _) => [(6, .pointer (some ⟨b0_1, 0, none⟩)), (12, .pointer (some ⟨b6_1, 0, none⟩)), (62, .slice A8_2 2 2), (63, .int .i64 (2 : Int)), (64, .int .i64 s20)]) (fun (_, _) => [eBlk b0_1 27 [.int .i64 a1.Party, .bool a1.Down, .int .i64 a1.Number, .int .i64 a1.Ack, .slice A2_6 (a1.Data.take (minI (a1.Data.length : Int) 50).toNat).length c2_6], eBlk b6_1 27 [.int .i64 a1.Party, .bool a1.Down, .int .i64 (w64 ((w64 a4) + ((w64 a2).tmod 3))), .int .i64 (w64 (((w64 a4).tmod (w64 ((r1_1.Out.length : Int) + 1))) + ((w64 a3).tmod 4))), .slice A2_6 (a1.Data.take (minI (a1.Data.length : Int) 50).toNat).length c2_6]]) (fun (_, _) => [fV (lSlice (lInt .u8)) (.slice A2_6 (a1.Data.take (minI (a1.Data.length : Int) 50).toNat).length c2_6) (a1.Data.take (minI (a1.Data.length : Int) 50).toNat), fV (lSlice lGEndpoint) (.slice A8_2 2 2) [r1_1, (GEndpoint.mk r1_1.Out ((w64 a4).tmod (w64 ((r1_1.Out.length : Int) + 1))) (w64 a4))]]) ?_ ?_
      · refine wc_block ?_
        refine wc_seq ?_
        refine wc_region ?_   -- region 10
        obtain ⟨k10_0, h⟩ := chk_some h
        refine wl_ex (G := Option Addr × Nat) _ _ (fun _ => True) (fun _ h => openGEndpoint h (ms m0) k10_0) ?_
        rintro ⟨A10_0, c10_0⟩ -
        dsimp only
        refine wl_det rfl rfl (det_indexP rfl rfl (ms (ms (ms m0))) k10_0 m0 un30 sz24) rfl ?_
        refine wl_det rfl rfl (det_loadP (off := 0) rfl m0 (by rfl) (by rfl) (loaded_n (cells := [_, _, _]) ag24 sz24)) rfl ?_
        refine wl_act (act_alloc (cs := [_, _, _]) zr24 rfl) rfl rfl rfl ?_
        rintro _ _ _ ⟨b10_2, rfl, rfl, rfl⟩
        refine wl_act0 (act_store (cells := [_, _, _]) (cs' := [_, _, _]) rfl rfl rfl s0 (by rfl) (of_decide_eq_true rfl) sz24 ⟨rfl, rfl, rfl, trivial⟩) rfl rfl ?_
        rintro _ _ _ ⟨rfl, rfl⟩
        refine wl_nil ?_
        refine pn_then ?_
        refine wc_seq ?_
        refine wc_region ?_   -- region 11
        refine wl_det rfl rfl (det_loadN (cells := [_, _, _, _, _]) rfl (ms m0) (by rfl) ag27 sz27) rfl ?_
        refine wl_det rfl rfl (det_loadN (cells := [_, _, _, _, _]) rfl (ms (ms m0)) (by rfl) ag27 sz27) rfl ?_
        refine wl_st (fun _ h => h.fact (f := fC lGPacket [.int .i64 a1.Party, .bool a1.Down, .int .i64 a1.Number, .int .i64 a1.Ack, .slice A2_6 (a1.Data.take (minI (a1.Data.length : Int) 50).toNat).length c2_6] (GPacket.mk a1.Party a1.Down a1.Number a1.Ack (a1.Data.take (minI (a1.Data.length : Int) 50).toNat))) (mkGPacket (x := (GPacket.mk a1.Party a1.Down a1.Number a1.Ack (a1.Data.take (minI (a1.Data.length : Int) 50).toNat))) ⟨h.facts _ (ms (ms m0)), trivial⟩)) ?_
        refine wl_st (fun _ h => h.fact (f := fC lGPacket [.int .i64 a1.Party, .bool a1.Down, .int .i64 (w64 ((w64 a4) + ((w64 a2).tmod 3))), .int .i64 (w64 (((w64 a4).tmod (w64 ((r1_1.Out.length : Int) + 1))) + ((w64 a3).tmod 4))), .slice A2_6 (a1.Data.take (minI (a1.Data.length : Int) 50).toNat).length c2_6] (GPacket.mk a1.Party a1.Down (w64 ((w64 a4) + ((w64 a2).tmod 3))) (w64 (((w64 a4).tmod (w64 ((r1_1.Out.length : Int) + 1))) + ((w64 a3).tmod 4))) (a1.Data.take (minI (a1.Data.length : Int) 50).toNat))) (mkGPacket (x := (GPacket.mk a1.Party a1.Down (w64 ((w64 a4) + ((w64 a2).tmod 3))) (w64 (((w64 a4).tmod (w64 ((r1_1.Out.length : Int) + 1))) + ((w64 a3).tmod 4))) (a1.Data.take (minI (a1.Data.length : Int) 50).toNat))) ⟨h.facts _ (ms (ms (ms m0))), trivial⟩)) ?_
        refine wl_act (act_litS lGPacket (vs := [_, _]) (cs := [_, _, _, _, _, _, _, _, _, _]) [(GPacket.mk a1.Party a1.Down a1.Number a1.Ack (a1.Data.take (minI (a1.Data.length : Int) 50).toNat)), (GPacket.mk a1.Party a1.Down (w64 ((w64 a4) + ((w64 a2).tmod 3))) (w64 (((w64 a4).tmod (w64 ((r1_1.Out.length : Int) + 1))) + ((w64 a3).tmod 4))) (a1.Data.take (minI (a1.Data.length : Int) 50).toNat))] un31 in27 rfl rfl rfl rfl rfl ⟨rfl, rfl, trivial⟩ (by rfl) rfl (fun _ h => by have q := (oneF h (ms m0)).cat (oneF h m0); exact q)) rfl rfl rfl ?_
        rintro _ _ _ ⟨A11_2, rfl, rfl, rfl⟩
        refine wl_det rfl rfl (det_len rfl un31) rfl ?_
        refine wl_det rfl rfl (det_move rfl) rfl ?_
        refine wl_nil ?_
        refine pn_then ?_
        refine wc_block ?_
        refine wc_st (fun _ h => h.shutS r0) ?_
        obtain ⟨o33, h, ho33⟩ := bind_some h
        obtain ⟨k33, hk33⟩ := loopV_some.1 h
        refine wc_loop (G := Nat × Int × Unit) (fun g => IterN (treatylaw42_LinkReceive_l33 a1 a2 a3 a4 r1_1 s20) g.1 g.2.1 o33) (fun g => g.1) (fun (_, s33, _) => [(6, .pointer (some ⟨b0_1, 0, none⟩)), (12, .pointer (some ⟨b6_1, 0, none⟩)), (14, .pointer (some ⟨b10_2, 0, none⟩)), (62, .slice A8_2 2 2), (63, .int .i64 (2 : Int)), (64, .int .i64 s20), (70, .slice A11_2 2 2), (71, .int .i64 (2 : Int)), (72, .int .i64 s33)]) (fun (_, _, _) => [eBlk b0_1 27 [.int .i64 a1.Party, .bool a1.Down, .int .i64 a1.Number, .int .i64 a1.Ack, .slice A2_6 (a1.Data.take (minI (a1.Data.length : Int) 50).toNat).length c2_6], eBlk b6_1 27 [.int .i64 a1.Party, .bool a1.Down, .int .i64 (w64 ((w64 a4) + ((w64 a2).tmod 3))), .int .i64 (w64 (((w64 a4).tmod (w64 ((r1_1.Out.length : Int) + 1))) + ((w64 a3).tmod 4))), .slice A2_6 (a1.Data.take (minI (a1.Data.length : Int) 50).toNat).length c2_6], eBlk b10_2 24 [.slice A10_0 (ix [r1_1, (GEndpoint.mk r1_1.Out ((w64 a4).tmod (w64 ((r1_1.Out.length : Int) + 1))) (w64 a4))] s20).Out.length c10_0, .int .i64 (ix [r1_1, (GEndpoint.mk r1_1.Out ((w64 a4).tmod (w64 ((r1_1.Out.length : Int) + 1))) (w64 a4))] s20).Acked, .int .i64 (ix [r1_1, (GEndpoint.mk r1_1.Out ((w64 a4).tmod (w64 ((r1_1.Out.length : Int) + 1))) (w64 a4))] s20).Got]]) (fun (_, _, _) => [fV (lSlice (lInt .u8)) (.slice A2_6 (a1.Data.take (minI (a1.Data.length : Int) 50).toNat).length c2_6) (a1.Data.take (minI (a1.Data.length : Int) 50).toNat), fV (lSlice (lSlice (lInt .u8))) (.slice A10_0 (ix [r1_1, (GEndpoint.mk r1_1.Out ((w64 a4).tmod (w64 ((r1_1.Out.length : Int) + 1))) (w64 a4))] s20).Out.length c10_0) (ix [r1_1, (GEndpoint.mk r1_1.Out ((w64 a4).tmod (w64 ((r1_1.Out.length : Int) + 1))) (w64 a4))] s20).Out, fV (lSlice lGEndpoint) (.slice A8_2 2 2) [r1_1, (GEndpoint.mk r1_1.Out ((w64 a4).tmod (w64 ((r1_1.Out.length : Int) + 1))) (w64 a4))], fV (lSlice lGPacket) (.slice A11_2 2 2) [(GPacket.mk a1.Party a1.Down a1.Number a1.Ack (a1.Data.take (minI (a1.Data.length : Int) 50).toNat)), (GPacket.mk a1.Party a1.Down (w64 ((w64 a4) + ((w64 a2).tmod 3))) (w64 (((w64 a4).tmod (w64 ((r1_1.Out.length : Int) + 1))) + ((w64 a3).tmod 4))) (a1.Data.take (minI (a1.Data.length : Int) 50).toNat))]]) (k33, 0, ()) hk33 ⟨rfl, rfl, rfl, rfl, rfl, rfl, rfl, rfl, rfl, trivial⟩ (fun _ h => h.to ⟨_, (rs r0), ⟨_, (rs r0), ⟨_, r0, trivial⟩⟩⟩ ⟨(ms (ms (ms (ms (ms m0))))), ⟨(ms (ms (ms (ms m0)))), ⟨(ms (ms (ms (ms (ms (ms m0)))))), ⟨m0, trivial⟩⟩⟩⟩) ?_
        rintro ⟨k33, s33, _⟩ hI
        obtain ⟨k33, rfl, q33, h, g33⟩ := IterN.pos hI
        dsimp only at h ⊢
        unfold treatylaw42_LinkReceive_l33 at h
        refine wc_seq ?_
        refine wc_region ?_   -- region 12
        refine wl_det rfl rfl (det_lss rfl rfl) rfl ?_
        refine wl_nil ?_
        refine pn_then ?_
        refine wc_seq ?_
        refine wc_cond rfl (fun cd37 => ?_) (fun cd37 => ?_)
        · have h := ifT h cd37
          refine wc_skip ?_
          refine pn_then ?_
          refine wc_seq ?_
          refine wc_block ?_
          refine wc_seq ?_
          refine wc_region ?_   -- region 13
          obtain ⟨k13_0, h⟩ := chk_some h
          refine wl_ex (G := Option Addr × Nat) _ _ (fun _ => True) (fun _ h => openGPacket h (ms (ms (ms m0))) k13_0) ?_
          rintro ⟨A13_0, c13_0⟩ -
          dsimp only
          refine wl_det rfl rfl (det_indexP rfl rfl (ms (ms (ms (ms (ms m0))))) k13_0 m0 un31 sz27) rfl ?_
          refine wl_det rfl rfl (det_loadP (off := 0) rfl m0 (by rfl) (by rfl) (loaded_n (cells := [_, _, _, _, _]) ag27 sz27)) rfl ?_
          refine wl_act (act_alloc (cs := [_, _, _, _, _]) zr27 rfl) rfl rfl rfl ?_
          rintro _ _ _ ⟨b13_2, rfl, rfl, rfl⟩
          refine wl_act0 (act_store (cells := [_, _, _, _, _]) (cs' := [_, _, _, _, _]) rfl rfl rfl s0 (by rfl) (of_decide_eq_true rfl) sz27 ⟨rfl, rfl, rfl, rfl, rfl, trivial⟩) rfl rfl ?_
          rintro _ _ _ ⟨rfl, rfl⟩
          refine wl_nil ?_
          refine pn_then ?_
          refine wc_seq ?_
          refine wc_region ?_   -- region 14
          refine wl_det rfl rfl (det_loadN (cells := [_, _, _]) rfl (ms (ms (ms m0))) (by rfl) ag24 sz24) rfl ?_
          refine wl_det rfl rfl (det_loadN (cells := [_, _, _, _, _]) rfl m0 (by rfl) ag27 sz27) rfl ?_
          obtain ⟨r14_2, hr14_2, h⟩ := bind_some h
          refine wl_act (act_callS (cap := []) (W_link_Receive (ix [r1_1, (GEndpoint.mk r1_1.Out ((w64 a4).tmod (w64 ((r1_1.Out.length : Int) + 1))) (w64 a4))] s20) (ix [(GPacket.mk a1.Party a1.Down a1.Number a1.Ack (a1.Data.take (minI (a1.Data.length : Int) 50).toNat)), (GPacket.mk a1.Party a1.Down (w64 ((w64 a4) + ((w64 a2).tmod 3))) (w64 (((w64 a4).tmod (w64 ((r1_1.Out.length : Int) + 1))) + ((w64 a3).tmod 4))) (a1.Data.take (minI (a1.Data.length : Int) 50).toNat))] s33) A10_0 (ix [r1_1, (GEndpoint.mk r1_1.Out ((w64 a4).tmod (w64 ((r1_1.Out.length : Int) + 1))) (w64 a4))] s20).Out.length c10_0 A13_0 (ix [(GPacket.mk a1.Party a1.Down a1.Number a1.Ack (a1.Data.take (minI (a1.Data.length : Int) 50).toNat)), (GPacket.mk a1.Party a1.Down (w64 ((w64 a4) + ((w64 a2).tmod 3))) (w64 (((w64 a4).tmod (w64 ((r1_1.Out.length : Int) + 1))) + ((w64 a3).tmod 4))) (a1.Data.take (minI (a1.Data.length : Int) 50).toNat))] s33).Data.length c13_0 r14_2 hr14_2) rfl rfl rfl bd7 rfl ⟨(ms (ms (ms m0))), ⟨(ms m0), trivial⟩⟩) rfl rfl rfl ?_
          rintro _ _ _ ⟨_, _, ⟨y14_2A0, y14_2n0, y14_2c0, y14_2A1, y14_2n1, y14_2c1, rfl, rfl, rfl⟩, rfl, rfl⟩
          dsimp only [List.nil_append, List.cons_append]
          refine wl_know (fun _ h => h.lenO m0) (fun e => ?_)
          subst e
          refine wl_know (fun _ h => h.lenO (ms m0)) (fun e => ?_)
          subst e
          refine wl_det rfl rfl (det_move rfl) rfl ?_
          refine wl_det rfl rfl (det_extract rfl rfl) rfl ?_
          refine wl_det rfl rfl (det_extract rfl rfl) rfl ?_
          refine wl_det rfl rfl (det_extract rfl rfl) rfl ?_
          refine wl_act (act_alloc (cs := [_, _, _]) zr24 rfl) rfl rfl rfl ?_
          rintro _ _ _ ⟨b14_7, rfl, rfl, rfl⟩
          refine wl_act0 (act_store (cells := [_, _, _]) (cs' := [_, _, _]) rfl rfl rfl s0 (by rfl) (of_decide_eq_true rfl) sz24 ⟨rfl, rfl, rfl, trivial⟩) rfl rfl ?_
          rintro _ _ _ ⟨rfl, rfl⟩
          refine wl_det rfl rfl (det_assign rfl) rfl ?_
          refine wl_det rfl rfl (det_assign rfl) rfl ?_
          refine wl_nil ?_
          refine pn_then ?_
          refine wc_seq ?_
          refine wc_region ?_   -- region 15
          refine wl_det rfl rfl (det_loadN (cells := [_, _, _]) rfl (ms (ms (ms (ms (ms (ms m0)))))) (by rfl) ag24 sz24) rfl ?_
          refine wl_det rfl rfl (det_loadN (cells := [_, _, _, _, _]) rfl (ms (ms (ms m0))) (by rfl) ag27 sz27) rfl ?_
          obtain ⟨r15_2, hr15_2, h⟩ := bind_some h
          refine wl_act (act_callS (cap := []) (W_treatyref40_Receive (ix [r1_1, (GEndpoint.mk r1_1.Out ((w64 a4).tmod (w64 ((r1_1.Out.length : Int) + 1))) (w64 a4))] s20) (ix [(GPacket.mk a1.Party a1.Down a1.Number a1.Ack (a1.Data.take (minI (a1.Data.length : Int) 50).toNat)), (GPacket.mk a1.Party a1.Down (w64 ((w64 a4) + ((w64 a2).tmod 3))) (w64 (((w64 a4).tmod (w64 ((r1_1.Out.length : Int) + 1))) + ((w64 a3).tmod 4))) (a1.Data.take (minI (a1.Data.length : Int) 50).toNat))] s33) A10_0 (ix [r1_1, (GEndpoint.mk r1_1.Out ((w64 a4).tmod (w64 ((r1_1.Out.length : Int) + 1))) (w64 a4))] s20).Out.length c10_0 A13_0 (ix [(GPacket.mk a1.Party a1.Down a1.Number a1.Ack (a1.Data.take (minI (a1.Data.length : Int) 50).toNat)), (GPacket.mk a1.Party a1.Down (w64 ((w64 a4) + ((w64 a2).tmod 3))) (w64 (((w64 a4).tmod (w64 ((r1_1.Out.length : Int) + 1))) + ((w64 a3).tmod 4))) (a1.Data.take (minI (a1.Data.length : Int) 50).toNat))] s33).Data.length c13_0 r15_2 hr15_2) rfl rfl rfl bd8 rfl ⟨(ms (ms (ms m0))), ⟨(ms m0), trivial⟩⟩) rfl rfl rfl ?_
          rintro _ _ _ ⟨_, _, ⟨y15_2A0, y15_2n0, y15_2c0, y15_2A1, y15_2n1, y15_2c1, rfl, rfl, rfl⟩, rfl, rfl⟩
          dsimp only [List.nil_append, List.cons_append]
          refine wl_know (fun _ h => h.lenF m0) (fun e => ?_)
          subst e
          refine wl_know (fun _ h => h.lenO m0) (fun e => ?_)
          subst e
          refine wl_det rfl rfl (det_move rfl) rfl ?_
          refine wl_det rfl rfl (det_extract rfl rfl) rfl ?_
          refine wl_det rfl rfl (det_extract rfl rfl) rfl ?_
          refine wl_det rfl rfl (det_extract rfl rfl) rfl ?_
          refine wl_act (act_alloc (cs := [_, _, _]) zr24 rfl) rfl rfl rfl ?_
          rintro _ _ _ ⟨b15_7, rfl, rfl, rfl⟩
          refine wl_act0 (act_store (cells := [_, _, _]) (cs' := [_, _, _]) rfl rfl rfl s0 (by rfl) (of_decide_eq_true rfl) sz24 ⟨rfl, rfl, rfl, trivial⟩) rfl rfl ?_
          rintro _ _ _ ⟨rfl, rfl⟩
          refine wl_det rfl rfl (det_assign rfl) rfl ?_
          refine wl_det rfl rfl (det_assign rfl) rfl ?_
          refine wl_nil ?_
          refine pn_then ?_
          refine wc_seq ?_
          refine wc_region ?_   -- region 16
          refine wl_det rfl rfl (det_loadN (cells := [_, _, _]) rfl (ms (ms m0)) (by rfl) ag24 sz24) rfl ?_
          refine wl_det rfl rfl (det_loadN (cells := [_, _, _]) rfl m0 (by rfl) ag24 sz24) rfl ?_
          obtain ⟨r16_2, hr16_2, h⟩ := bind_some h
          refine wl_act (act_callL (cap := []) [eS (lSlice (lInt .u8)) 25 y14_2A0 r14_2.1.Out.length y14_2c0 r14_2.1.Out] (W_treatyref40_SameEndpoint r14_2.1 r15_2.1 y14_2A0 r14_2.1.Out.length y14_2c0 y15_2A0 r15_2.1.Out.length y15_2c0 r16_2 hr16_2) plains_treatyref40_SameEndpoint rfl rfl rfl bd9 rfl ⟨(ms (ms (ms m0))), trivial⟩ ⟨.inr ⟨_, m0, lent_eS⟩, ⟨.inl m0, trivial⟩⟩) rfl rfl rfl ?_
          rintro _ _ _ ⟨_, _, ⟨rfl, rfl, rfl⟩, rfl, rfl⟩
          dsimp only [List.nil_append, List.cons_append]
          refine wl_det rfl rfl (det_not rfl) rfl ?_
          refine wl_det rfl rfl (det_move rfl) rfl ?_
          obtain ⟨q16_9, hq16_9, h⟩ := bind_some h
          have ho16_9 := h
          refine wl_way (!r16_2) q16_9 5 99 (fun hg => ?_) (fun hg => ?_) ?_
          · have hg16_9 := hg
            have h := ifT hq16_9 hg
            refine wl_off rfl rfl rfl rfl rfl hg16_9 rfl ?_
            refine wl_off rfl rfl rfl rfl rfl hg16_9 rfl ?_
            refine wl_off rfl rfl rfl rfl rfl hg16_9 rfl ?_
            refine wl_off rfl rfl rfl rfl rfl hg16_9 rfl ?_
            replace h := Option.some.inj h
            subst h
            refine wl_det rfl rfl (det_pick_on rfl hg16_9 rfl rfl) rfl ?_
            exact wl_nil (pn_qnE (ext_cons rfl (ext_skip rfl (ext_skip rfl (ext_skip rfl (ext_skip rfl (ext_skip rfl ext_refl)))))) (fun _ h => h))
          · have hg16_9a := hg
            have h := ifF hq16_9 hg
            refine wl_on rfl rfl rfl rfl hg16_9a ?_
            refine wl_det rfl rfl (det_move rfl) rfl ?_
            refine wl_on rfl rfl rfl rfl hg16_9a ?_
            refine wl_det rfl rfl (det_move rfl) rfl ?_
            refine wl_on rfl rfl rfl rfl hg16_9a ?_
            obtain ⟨r16_7, hr16_7, h⟩ := bind_some h
            refine wl_act (act_callL (cap := []) [eS (lInt .u8) 5 y14_2A1 r14_2.2.1.length y14_2c1 r14_2.2.1, eS (lInt .u8) 5 y15_2A1 r15_2.2.1.length y15_2c1 r15_2.2.1] (W_treatyref40_Same r14_2.2.1 r15_2.2.1 y14_2A1 r14_2.2.1.length y14_2c1 y15_2A1 r15_2.2.1.length y15_2c1 r16_7 hr16_7) plains_treatyref40_Same rfl rfl rfl bd10 rfl ⟨(ms (ms (ms (ms m0)))), ⟨(ms m0), trivial⟩⟩ ⟨.inr ⟨_, m0, lent_eS⟩, ⟨.inr ⟨_, (ms m0), lent_eS⟩, trivial⟩⟩) rfl rfl rfl ?_
            rintro _ _ _ ⟨_, _, ⟨rfl, rfl, rfl⟩, rfl, rfl⟩
            dsimp only [List.nil_append, List.cons_append]
            refine wl_on rfl rfl rfl rfl hg16_9a ?_
            refine wl_det rfl rfl (det_not rfl) rfl ?_
            replace h := Option.some.inj h
            subst h
            refine wl_det rfl rfl (det_pick_off rfl hg16_9a rfl rfl) rfl ?_
            exact wl_nil (pn_qnE (ext_cons rfl (ext_skip rfl (ext_skip rfl (ext_skip rfl (ext_skip rfl (ext_skip rfl ext_refl)))))) (fun _ h => h))
          have h := ho16_9
          refine wl_det rfl rfl (det_move rfl) rfl ?_
          refine wl_way q16_9 (q16_9 || (!(r14_2.2.2 == r15_2.2.2))) 4 104 (fun hg => ?_) (fun hg => ?_) ?_
          · have hg16_14 := hg
            refine wl_off rfl rfl rfl rfl rfl hg16_14 rfl ?_
            refine wl_off rfl rfl rfl rfl rfl hg16_14 rfl ?_
            refine wl_off rfl rfl rfl rfl rfl hg16_14 rfl ?_
            refine wl_det rfl rfl (det_or_on (r := (!(r14_2.2.2 == r15_2.2.2))) rfl rfl rfl hg16_14) rfl ?_
            exact wl_nil (pn_qnE (ext_cons rfl (ext_skip rfl (ext_skip rfl (ext_skip rfl (ext_skip rfl ext_refl))))) (fun _ h => h))
          · have hg16_14a := hg
            refine wl_on rfl rfl rfl rfl hg16_14a ?_
            refine wl_det rfl rfl (det_move rfl) rfl ?_
            refine wl_on rfl rfl rfl rfl hg16_14a ?_
            refine wl_det rfl rfl (det_move rfl) rfl ?_
            refine wl_on rfl rfl rfl rfl hg16_14a ?_
            refine wl_det rfl rfl (det_bneq rfl rfl un4) rfl ?_
            refine wl_det rfl rfl (det_or_off rfl rfl rfl hg16_14a) rfl ?_
            exact wl_nil (pn_qnE (ext_cons rfl (ext_skip rfl (ext_skip rfl (ext_skip rfl (ext_skip rfl ext_refl))))) (fun _ h => h))
          refine wl_nil ?_
          refine pn_then ?_
          refine wc_cond rfl (fun cd49 => ?_) (fun cd49 => ?_)
          · have h := ifT h cd49
            refine wc_seq ?_
            refine wc_region ?_   -- region 17
            refine wl_det rfl rfl (det_assign rfl) rfl ?_
            refine wl_nil ?_
            refine pn_then ?_
            refine wc_ret ?_
            refine pr_block ?_
            refine pr_then ?_
            refine pr_then ?_
            refine pr_block ?_
            refine pr_block ?_
            refine pr_then ?_
            refine pr_then ?_
            refine pr_block ?_
            refine pr_then ?_
            replace h := Option.some.inj h
            subst h
            replace g33 := nextR g33
            subst g33
            have h := (elimL ho33)
            replace h := Option.some.inj h
            subst h
            have h := (elimR ho26)
            replace h := Option.some.inj h
            subst h
            replace g20 := nextR g20
            subst g20
            have h := (elimL ho20)
            replace h := Option.some.inj h
            subst h
            have h := (elimR ho16)
            replace h := Option.some.inj h
            subst h
            refine pn_ret (vs := [_]) rfl ⟨rfl, trivial⟩ ⟨rfl, rfl, rfl⟩ (fun _ h => h.to trivial trivial)
          · have h := ifF h cd49
            refine wc_skip ?_
            refine pn_block ?_
            refine pn_then ?_
            refine wc_region ?_   -- region 18
            refine wl_det rfl rfl (det_add rfl rfl) rfl ?_
            refine wl_det rfl rfl (det_move rfl) rfl ?_
            refine wl_nil ?_
            replace h := Option.some.inj h
            subst h
            exact pn_some (k33, (w64 (s33 + 1)), ()) ⟨nextL g33, Nat.lt_succ_self _⟩ ⟨rfl, rfl, rfl, rfl, rfl, rfl, rfl, rfl, rfl, trivial⟩ (fun _ h => h.to ⟨_, (rs (rs (rs (rs (rs (rs r0)))))), ⟨_, (rs (rs (rs (rs (rs (rs r0)))))), ⟨_, (rs (rs (rs (rs (rs (rs r0)))))), trivial⟩⟩⟩ ⟨(ms (ms (ms m0))), ⟨(ms (ms (ms (ms m0)))), ⟨(ms (ms (ms (ms (ms m0))))), ⟨(ms (ms (ms (ms (ms (ms m0)))))), trivial⟩⟩⟩⟩)
        · have h := ifF h cd37
          refine wc_exit ?_
          refine px_then ?_
          refine px_then ?_
          refine px_block ?_
          refine pn_block ?_
          replace h := Option.some.inj h
          subst h
          replace g33 := nextR g33
          subst g33
          have h := (elimR ho33)
          replace h := Option.some.inj h
          subst h
          exact pn_meetG ((), ()) rfl ⟨rfl, rfl, rfl, rfl, rfl, trivial⟩ (fun _ h => h.to ⟨_, r0, ⟨_, r0, trivial⟩⟩ ⟨m0, ⟨(ms (ms m0)), trivial⟩⟩)
      rintro ⟨s26, _⟩ e26
      dsimp only at e26 ⊢
      subst e26
      have h := (elimL ho26)
      refine wc_region ?_   -- region 19
      refine wl_det rfl rfl (det_add rfl rfl) rfl ?_
      refine wl_det rfl rfl (det_move rfl) rfl ?_
      refine wl_nil ?_
      replace h := Option.some.inj h
      subst h
      exact pn_some (k20, (w64 (s20 + 1)), ()) ⟨nextL g20, Nat.lt_succ_self _⟩ ⟨rfl, rfl, rfl, rfl, rfl, trivial⟩ (fun _ h => h.to ⟨_, r0, ⟨_, r0, trivial⟩⟩ ⟨m0, ⟨(ms m0), trivial⟩⟩)
    · have h := ifF h cd24
      refine wc_exit ?_
      refine px_then ?_
      refine px_then ?_
      refine px_block ?_
      replace h := Option.some.inj h
      subst h
      replace g20 := nextR g20
      subst g20
      have h := (elimR ho20)
      replace h := Option.some.inj h
      subst h
      exact pn_meetG ((), ()) rfl trivial (fun _ h => h.to trivial trivial)
  rintro ⟨s16, _⟩ e16
  dsimp only at e16 ⊢
  subst e16
  have h := (elimL ho16)
  refine wc_seq ?_
  refine wc_region ?_   -- region 20
  obtain ⟨r20_0, hr20_0, h⟩ := bind_some h
  refine wl_act (act_callS (cap := []) (W_treatylaw42_awake r20_0 hr20_0) rfl rfl rfl bd11 rfl trivial) rfl rfl rfl ?_
  rintro _ _ _ ⟨_, _, ⟨rfl, rfl, rfl⟩, rfl, rfl⟩
  dsimp only [List.nil_append, List.cons_append]
  refine wl_det rfl rfl (det_assign rfl) rfl ?_
  refine wl_nil ?_
  refine pn_then ?_
  refine wc_ret ?_
  replace h := Option.some.inj h
  subst h
  refine pn_ret (vs := [_]) rfl ⟨rfl, trivial⟩ ⟨rfl, rfl, rfl⟩ (fun _ h => h.to trivial trivial)
end Go.Proofs.Ytkpoflfhmjkldaa
