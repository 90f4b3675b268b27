/- That functions of the program compute the plain programs of P. Written by a small program. -/
import Derived.Test.YtkpoflfhmjkldaaKTab
import Derived.Test.YtkpoflfhmjkldaaP
import Derived.Test.YtkpoflfhmjkldaaKArr2
import Derived.Test.YtkpoflfhmjkldaaKRF
namespace Go.Proofs.Ytkpoflfhmjkldaa
open Go.RowKit
def lGEndpoint : Lay GEndpoint := lMap (fun x => (x.Out, (x.Acked, x.Got))) (lPair (lSlice (lSlice (lInt .u8))) (lPair (lInt .i64) (lInt .i64)))
theorem viewGEndpoint {w : World} {S : Nat → Prop} {cs : List Value} {x : GEndpoint} (h : lGEndpoint.R w S cs x) : ∃ A0 c0, cs = [.slice A0 x.Out.length c0, .int .i64 x.Acked, .int .i64 x.Got] ∧ AllR w S [fV (lSlice (lSlice (lInt .u8))) (.slice A0 x.Out.length c0) x.Out] := by
  obtain ⟨_, _, rfl, ⟨A0, _, c0, rfl, rfl, l0, e0⟩, ⟨_, _, rfl, rfl, rfl⟩⟩ := h
  exact ⟨A0, c0, rfl, ⟨⟨_, _, _, rfl, rfl, l0, e0⟩, trivial⟩⟩
theorem mkGEndpoint {w : World} {S : Nat → Prop} {x : GEndpoint} {A0 : Option Addr} {n0 c0 : Nat}  (h : AllR w S [fV (lSlice (lSlice (lInt .u8))) (.slice A0 n0 c0) x.Out]) : lGEndpoint.R w S [.slice A0 n0 c0, .int .i64 x.Acked, .int .i64 x.Got] x := by
  obtain ⟨k0, _⟩ := h
  exact ⟨_, _, rfl, k0, ⟨_, _, rfl, rfl, rfl⟩⟩
def lGPacket : Lay GPacket := lMap (fun x => (x.Party, (x.Down, (x.Number, (x.Ack, x.Data))))) (lPair (lInt .i64) (lPair lBool (lPair (lInt .i64) (lPair (lInt .i64) (lSlice (lInt .u8))))))
theorem viewGPacket {w : World} {S : Nat → Prop} {cs : List Value} {x : GPacket} (h : lGPacket.R w S cs x) : ∃ A0 c0, cs = [.int .i64 x.Party, .bool x.Down, .int .i64 x.Number, .int .i64 x.Ack, .slice A0 x.Data.length c0] ∧ AllR w S [fV (lSlice (lInt .u8)) (.slice A0 x.Data.length c0) x.Data] := by
  obtain ⟨_, _, rfl, rfl, ⟨_, _, rfl, rfl, ⟨_, _, rfl, rfl, ⟨_, _, rfl, rfl, ⟨A0, _, c0, rfl, rfl, l0, e0⟩⟩⟩⟩⟩ := h
  exact ⟨A0, c0, rfl, ⟨⟨_, _, _, rfl, rfl, l0, e0⟩, trivial⟩⟩
theorem mkGPacket {w : World} {S : Nat → Prop} {x : GPacket} {A0 : Option Addr} {n0 c0 : Nat}  (h : AllR w S [fV (lSlice (lInt .u8)) (.slice A0 n0 c0) x.Data]) : lGPacket.R w S [.int .i64 x.Party, .bool x.Down, .int .i64 x.Number, .int .i64 x.Ack, .slice A0 n0 c0] x := by
  obtain ⟨k0, _⟩ := h
  exact ⟨_, _, rfl, rfl, ⟨_, _, rfl, rfl, ⟨_, _, rfl, rfl, ⟨_, _, rfl, rfl, k0⟩⟩⟩⟩
def lGworld : Lay Gworld := lMap (fun x => (x.a, (x.b, (x.wire, (x.got, x.ok))))) (lPair lGEndpoint (lPair lGEndpoint (lPair (lSlice lGPacket) (lPair (lSlice (lSlice (lInt .u8))) lBool))))
theorem viewGworld {w : World} {S : Nat → Prop} {cs : List Value} {x : Gworld} (h : lGworld.R w S cs x) : ∃ A0 c0 A1 c1 A2 c2 A3 c3, cs = [.slice A0 x.a.Out.length c0, .int .i64 x.a.Acked, .int .i64 x.a.Got, .slice A1 x.b.Out.length c1, .int .i64 x.b.Acked, .int .i64 x.b.Got, .slice A2 x.wire.length c2, .slice A3 x.got.length c3, .bool x.ok] ∧ AllR w S [fV (lSlice (lSlice (lInt .u8))) (.slice A0 x.a.Out.length c0) x.a.Out, fV (lSlice (lSlice (lInt .u8))) (.slice A1 x.b.Out.length c1) x.b.Out, fV (lSlice lGPacket) (.slice A2 x.wire.length c2) x.wire, fV (lSlice (lSlice (lInt .u8))) (.slice A3 x.got.length c3) x.got] := by
  obtain ⟨_, _, rfl, ⟨_, _, rfl, ⟨A0, _, c0, rfl, rfl, l0, e0⟩, ⟨_, _, rfl, rfl, rfl⟩⟩, ⟨_, _, rfl, ⟨_, _, rfl, ⟨A1, _, c1, rfl, rfl, l1, e1⟩, ⟨_, _, rfl, rfl, rfl⟩⟩, ⟨_, _, rfl, ⟨A2, _, c2, rfl, rfl, l2, e2⟩, ⟨_, _, rfl, ⟨A3, _, c3, rfl, rfl, l3, e3⟩, rfl⟩⟩⟩⟩ := h
  exact ⟨A0, c0, A1, c1, A2, c2, A3, c3, rfl, ⟨⟨_, _, _, rfl, rfl, l0, e0⟩, ⟨_, _, _, rfl, rfl, l1, e1⟩, ⟨_, _, _, rfl, rfl, l2, e2⟩, ⟨_, _, _, rfl, rfl, l3, e3⟩, trivial⟩⟩
theorem mkGworld {w : World} {S : Nat → Prop} {x : Gworld} {A0 A1 A2 A3 : Option Addr} {n0 n1 n2 n3 c0 c1 c2 c3 : Nat}  (h : AllR w S [fV (lSlice (lSlice (lInt .u8))) (.slice A0 n0 c0) x.a.Out, fV (lSlice (lSlice (lInt .u8))) (.slice A1 n1 c1) x.b.Out, fV (lSlice lGPacket) (.slice A2 n2 c2) x.wire, fV (lSlice (lSlice (lInt .u8))) (.slice A3 n3 c3) x.got]) : lGworld.R w S [.slice A0 n0 c0, .int .i64 x.a.Acked, .int .i64 x.a.Got, .slice A1 n1 c1, .int .i64 x.b.Acked, .int .i64 x.b.Got, .slice A2 n2 c2, .slice A3 n3 c3, .bool x.ok] x := by
  obtain ⟨k0, k1, k2, k3, _⟩ := h
  exact ⟨_, _, rfl, ⟨_, _, rfl, k0, ⟨_, _, rfl, rfl, rfl⟩⟩, ⟨_, _, rfl, ⟨_, _, rfl, k1, ⟨_, _, rfl, rfl, rfl⟩⟩, ⟨_, _, rfl, k2, ⟨_, _, rfl, k3, rfl⟩⟩⟩⟩
theorem openGEndpoint {C : Cx} {η : List Ent} {ι : List Fact} {w : World} {A : Option Addr} {m c : Nat} {xs : List GEndpoint} (h : St C η ι w) (hf : fV (lSlice lGEndpoint) (.slice A m c) xs ∈ ι) {i : Int} (hi : inb xs i = true) : ∃ g : Option Addr × Nat, True ∧ St C η (fPt A (i.toNat * 3) [.slice g.1 (ix xs i).Out.length g.2, .int .i64 (ix xs i).Acked, .int .i64 (ix xs i).Got] :: fV (lSlice (lSlice (lInt .u8))) (.slice g.1 (ix xs i).Out.length g.2) (ix xs i).Out :: ι) w := by
  obtain ⟨cs, hs⟩ := h.openE hf hi
  obtain ⟨A0, c0, rfl, hr⟩ := viewGEndpoint (hs.facts _ (ms m0))
  exact ⟨(A0, c0), trivial, (hs.addR hr).subFacts (sub_mid (κ := [_]))⟩
theorem openGPacket {C : Cx} {η : List Ent} {ι : List Fact} {w : World} {A : Option Addr} {m c : Nat} {xs : List GPacket} (h : St C η ι w) (hf : fV (lSlice lGPacket) (.slice A m c) xs ∈ ι) {i : Int} (hi : inb xs i = true) : ∃ g : Option Addr × Nat, True ∧ St C η (fPt A (i.toNat * 5) [.int .i64 (ix xs i).Party, .bool (ix xs i).Down, .int .i64 (ix xs i).Number, .int .i64 (ix xs i).Ack, .slice g.1 (ix xs i).Data.length g.2] :: fV (lSlice (lInt .u8)) (.slice g.1 (ix xs i).Data.length g.2) (ix xs i).Data :: ι) w := by
  obtain ⟨cs, hs⟩ := h.openE hf hi
  obtain ⟨A0, c0, rfl, hr⟩ := viewGPacket (hs.facts _ (ms m0))
  exact ⟨(A0, c0), trivial, (hs.addR hr).subFacts (sub_mid (κ := [_]))⟩
theorem openGworld {C : Cx} {η : List Ent} {ι : List Fact} {w : World} {A : Option Addr} {m c : Nat} {xs : List Gworld} (h : St C η ι w) (hf : fV (lSlice lGworld) (.slice A m c) xs ∈ ι) {i : Int} (hi : inb xs i = true) : ∃ g : Option Addr × Nat × Option Addr × Nat × Option Addr × Nat × Option Addr × Nat, True ∧ St C η (fPt A (i.toNat * 9) [.slice g.1 (ix xs i).a.Out.length g.2.1, .int .i64 (ix xs i).a.Acked, .int .i64 (ix xs i).a.Got, .slice g.2.2.1 (ix xs i).b.Out.length g.2.2.2.1, .int .i64 (ix xs i).b.Acked, .int .i64 (ix xs i).b.Got, .slice g.2.2.2.2.1 (ix xs i).wire.length g.2.2.2.2.2.1, .slice g.2.2.2.2.2.2.1 (ix xs i).got.length g.2.2.2.2.2.2.2, .bool (ix xs i).ok] :: fV (lSlice (lSlice (lInt .u8))) (.slice g.1 (ix xs i).a.Out.length g.2.1) (ix xs i).a.Out :: fV (lSlice (lSlice (lInt .u8))) (.slice g.2.2.1 (ix xs i).b.Out.length g.2.2.2.1) (ix xs i).b.Out :: fV (lSlice lGPacket) (.slice g.2.2.2.2.1 (ix xs i).wire.length g.2.2.2.2.2.1) (ix xs i).wire :: fV (lSlice (lSlice (lInt .u8))) (.slice g.2.2.2.2.2.2.1 (ix xs i).got.length g.2.2.2.2.2.2.2) (ix xs i).got :: ι) w := by
  obtain ⟨cs, hs⟩ := h.openE hf hi
  obtain ⟨A0, c0, A1, c1, A2, c2, A3, c3, rfl, hr⟩ := viewGworld (hs.facts _ (ms m0))
  exact ⟨(A0, c0, A1, c1, A2, c2, A3, c3), trivial, (hs.addR hr).subFacts (sub_mid (κ := [_, _, _, _]))⟩
theorem bd5 : bodyB Try.prog 5 = true := by kernel_rfl
theorem bd7 : bodyB Try.prog 7 = true := by kernel_rfl
theorem bd10 : bodyB Try.prog 10 = true := by kernel_rfl
theorem bd11 : bodyB Try.prog 11 = true := by kernel_rfl
theorem bd12 : bodyB Try.prog 12 = true := by kernel_rfl
theorem bd13 : bodyB Try.prog 13 = true := by kernel_rfl
theorem bd14 : bodyB Try.prog 14 = true := by kernel_rfl
theorem bd15 : bodyB Try.prog 15 = true := by kernel_rfl
theorem bd16 : bodyB Try.prog 16 = true := by kernel_rfl
theorem bd17 : bodyB Try.prog 17 = true := by kernel_rfl
theorem bd18 : bodyB Try.prog 18 = true := by kernel_rfl
theorem bd22 : bodyB Try.prog 22 = true := by kernel_rfl
theorem bd23 : bodyB Try.prog 23 = true := by kernel_rfl
theorem bd24 : bodyB Try.prog 24 = true := by kernel_rfl
theorem bd25 : bodyB Try.prog 25 = true := by kernel_rfl
def Q_treatylaw42_message (r : (List Int)) : Value → List Ent → List Fact → Prop := fun v θ κ => ∃ (pA0 : Option Addr), ∃ (pn0 : Nat), ∃ (pc0 : Nat), v = .slice pA0 pn0 pc0 ∧ θ = [eS (lInt .u8) 5 pA0 pn0 pc0 r] ∧ κ = []
theorem plains_treatylaw42_message {r : (List Int)} : ∀ v θ κ, Q_treatylaw42_message r v θ κ → Plains θ := by
  rintro _ _ _ ⟨_, _, _, rfl, rfl, rfl⟩
  exact ⟨plain_eS, trivial⟩
set_option maxHeartbeats 4000000 in
set_option maxRecDepth 100000 in
theorem W_treatylaw42_message (a0 : Int) (r : (List Int)) (h : treatylaw42_message a0 = some r) : Spec Try.prog 13 [.int .i64 a0] [] [] (Q_treatylaw42_message r) := by
  unfold treatylaw42_message at h
  refine spec_of (σ := [(0, _)]) Try.func13 rfl rfl rfl rfl ?_
  intro C
  refine wc_seq ?_
  refine wc_region ?_   -- region 0
  refine wl_det rfl rfl (det_assign rfl) rfl ?_
  refine wl_nil ?_
  refine pn_then ?_
  refine wc_seq ?_
  refine wc_region ?_   -- region 1
  refine wl_det rfl rfl (det_move rfl) rfl ?_
  refine wl_det rfl rfl (det_conv rfl us3 un5) rfl ?_
  refine wl_det rfl rfl (det_move rfl) rfl ?_
  refine wl_det rfl rfl (det_shr rfl rfl rfl) rfl ?_
  refine wl_det rfl rfl (det_conv rfl us3 un5) rfl ?_
  refine wl_act (act_litS (lInt .u8) (vs := [_, _, _]) (cs := [_, _, _]) [(IntKind.u8.wrap a0), (IntKind.u8.wrap (bShr .i64 a0 8)), 7] un25 in5 rfl rfl rfl rfl rfl ⟨rfl, rfl, rfl, trivial⟩ (by rfl) rfl (litR_flat rfl)) rfl rfl rfl ?_
  rintro _ _ _ ⟨A1_5, rfl, rfl, rfl⟩
  refine wl_det rfl rfl (det_assign rfl) rfl ?_
  refine wl_nil ?_
  refine pn_then ?_
  refine wc_ret ?_
  replace h := Option.some.inj h
  subst h
  refine pn_ret (vs := [_]) rfl ⟨rfl, trivial⟩ ⟨A1_5, 3, 3, rfl, rfl, rfl⟩ (fun _ h => h.to ⟨_, r0, trivial⟩ trivial)
def Q_link_Valid (r : Bool) : Value → List Ent → List Fact → Prop := fun v θ κ => v = .bool r ∧ θ = [] ∧ κ = []
theorem plains_link_Valid {r : Bool} : ∀ v θ κ, Q_link_Valid r v θ κ → Plains θ := by
  rintro _ _ _ ⟨rfl, rfl, rfl⟩
  exact trivial
set_option maxHeartbeats 4000000 in
set_option maxRecDepth 100000 in
theorem W_link_Valid (a0 : GEndpoint) (A0 : Option Addr) (n0 : Nat) (c0 : Nat) (r : Bool) (h : link_Valid a0 = some r) : Spec Try.prog 16 [.agg #[.slice A0 n0 c0, .int .i64 a0.Acked, .int .i64 a0.Got]] [] [fV (lSlice (lSlice (lInt .u8))) (.slice A0 n0 c0) a0.Out] (Q_link_Valid r) := by
  unfold link_Valid at h
  refine spec_of (σ := [(0, _)]) Try.func16 rfl rfl rfl rfl ?_
  intro C
  refine wc_know (fun _ h => h.lenF m0) (fun e => ?_)
  subst e
  refine wc_seq ?_
  refine wc_region ?_   -- region 0
  refine wl_act (act_box (cs := [_, _, _]) rfl rfl) rfl rfl rfl ?_
  rintro _ _ _ ⟨b0_0, rfl, rfl, rfl⟩
  refine wl_det rfl rfl (det_assign rfl) rfl ?_
  refine wl_nil ?_
  refine pn_then ?_
  refine wc_seq ?_
  refine wc_region ?_   -- region 1
  refine wl_det rfl rfl (det_field rfl fd24_1 rfl) rfl ?_
  refine wl_det rfl rfl (det_load rfl m0 (by rfl) na3 us3) rfl ?_
  refine wl_det rfl rfl (det_geq rfl rfl) rfl ?_
  refine wl_det rfl rfl (det_move rfl) rfl ?_
  refine wl_way (decide (0 ≤ a0.Acked)) ((decide (0 ≤ a0.Acked)) && (decide (a0.Acked ≤ (a0.Out.length : Int)))) 7 13 (fun hg => ?_) (fun hg => ?_) ?_
  · have hg1_10 := hg
    refine wl_on rfl rfl rfl rfl hg1_10 ?_
    refine wl_det rfl rfl (det_field rfl fd24_1 rfl) rfl ?_
    refine wl_on rfl rfl rfl rfl hg1_10 ?_
    refine wl_det rfl rfl (det_load rfl m0 (by rfl) na3 us3) rfl ?_
    refine wl_on rfl rfl rfl rfl hg1_10 ?_
    refine wl_det rfl rfl (det_field rfl fd24_0 rfl) rfl ?_
    refine wl_on rfl rfl rfl rfl hg1_10 ?_
    refine wl_det rfl rfl (det_load rfl m0 (by rfl) na22 us22) rfl ?_
    refine wl_on rfl rfl rfl rfl hg1_10 ?_
    refine wl_det rfl rfl (det_len rfl un22) rfl ?_
    refine wl_on rfl rfl rfl rfl hg1_10 ?_
    refine wl_det rfl rfl (det_leq rfl rfl) rfl ?_
    refine wl_det rfl rfl (det_and_on rfl rfl rfl hg1_10) rfl ?_
    exact wl_nil (pn_qnE (ext_cons rfl (ext_skip rfl (ext_skip rfl (ext_skip rfl (ext_skip rfl (ext_skip rfl (ext_skip rfl (ext_skip rfl ext_refl)))))))) (fun _ h => h))
  · have hg1_10a := hg
    refine wl_off rfl rfl rfl rfl rfl hg1_10a rfl ?_
    refine wl_off rfl rfl rfl rfl rfl hg1_10a rfl ?_
    refine wl_off rfl rfl rfl rfl rfl hg1_10a rfl ?_
    refine wl_off rfl rfl rfl rfl rfl hg1_10a rfl ?_
    refine wl_off rfl rfl rfl rfl rfl hg1_10a rfl ?_
    refine wl_off rfl rfl rfl rfl rfl hg1_10a rfl ?_
    refine wl_det rfl rfl (det_and_off (q := (decide (a0.Acked ≤ (a0.Out.length : Int)))) rfl rfl rfl hg1_10a) rfl ?_
    exact wl_nil (pn_qnE (ext_cons rfl (ext_skip rfl (ext_skip rfl (ext_skip rfl (ext_skip rfl (ext_skip rfl (ext_skip rfl (ext_skip rfl ext_refl)))))))) (fun _ h => h))
  refine wl_det rfl rfl (det_move rfl) rfl ?_
  refine wl_way ((decide (0 ≤ a0.Acked)) && (decide (a0.Acked ≤ (a0.Out.length : Int)))) (((decide (0 ≤ a0.Acked)) && (decide (a0.Acked ≤ (a0.Out.length : Int)))) && (decide ((a0.Out.length : Int) ≤ 4096))) 5 19 (fun hg => ?_) (fun hg => ?_) ?_
  · have hg1_16 := hg
    refine wl_on rfl rfl rfl rfl hg1_16 ?_
    refine wl_det rfl rfl (det_field rfl fd24_0 rfl) rfl ?_
    refine wl_on rfl rfl rfl rfl hg1_16 ?_
    refine wl_det rfl rfl (det_load rfl m0 (by rfl) na22 us22) rfl ?_
    refine wl_on rfl rfl rfl rfl hg1_16 ?_
    refine wl_det rfl rfl (det_len rfl un22) rfl ?_
    refine wl_on rfl rfl rfl rfl hg1_16 ?_
    refine wl_det rfl rfl (det_leq rfl rfl) rfl ?_
    refine wl_det rfl rfl (det_and_on rfl rfl rfl hg1_16) rfl ?_
    exact wl_nil (pn_qnE (ext_cons rfl (ext_skip rfl (ext_skip rfl (ext_skip rfl (ext_skip rfl (ext_skip rfl ext_refl)))))) (fun _ h => h))
  · have hg1_16a := hg
    refine wl_off rfl rfl rfl rfl rfl hg1_16a rfl ?_
    refine wl_off rfl rfl rfl rfl rfl hg1_16a rfl ?_
    refine wl_off rfl rfl rfl rfl rfl hg1_16a rfl ?_
    refine wl_off rfl rfl rfl rfl rfl hg1_16a rfl ?_
    refine wl_det rfl rfl (det_and_off (q := (decide ((a0.Out.length : Int) ≤ 4096))) rfl rfl rfl hg1_16a) rfl ?_
    exact wl_nil (pn_qnE (ext_cons rfl (ext_skip rfl (ext_skip rfl (ext_skip rfl (ext_skip rfl (ext_skip rfl ext_refl)))))) (fun _ h => h))
  refine wl_det rfl rfl (det_move rfl) rfl ?_
  refine wl_way (((decide (0 ≤ a0.Acked)) && (decide (a0.Acked ≤ (a0.Out.length : Int)))) && (decide ((a0.Out.length : Int) ≤ 4096))) ((((decide (0 ≤ a0.Acked)) && (decide (a0.Acked ≤ (a0.Out.length : Int)))) && (decide ((a0.Out.length : Int) ≤ 4096))) && (decide (0 ≤ a0.Got))) 4 24 (fun hg => ?_) (fun hg => ?_) ?_
  · have hg1_21 := hg
    refine wl_on rfl rfl rfl rfl hg1_21 ?_
    refine wl_det rfl rfl (det_field rfl fd24_2 rfl) rfl ?_
    refine wl_on rfl rfl rfl rfl hg1_21 ?_
    refine wl_det rfl rfl (det_load rfl m0 (by rfl) na3 us3) rfl ?_
    refine wl_on rfl rfl rfl rfl hg1_21 ?_
    refine wl_det rfl rfl (det_geq rfl rfl) rfl ?_
    refine wl_det rfl rfl (det_and_on rfl rfl rfl hg1_21) rfl ?_
    exact wl_nil (pn_qnE (ext_cons rfl (ext_skip rfl (ext_skip rfl (ext_skip rfl (ext_skip rfl ext_refl))))) (fun _ h => h))
  · have hg1_21a := hg
    refine wl_off rfl rfl rfl rfl rfl hg1_21a rfl ?_
    refine wl_off rfl rfl rfl rfl rfl hg1_21a rfl ?_
    refine wl_off rfl rfl rfl rfl rfl hg1_21a rfl ?_
    refine wl_det rfl rfl (det_and_off (q := (decide (0 ≤ a0.Got))) rfl rfl rfl hg1_21a) rfl ?_
    exact wl_nil (pn_qnE (ext_cons rfl (ext_skip rfl (ext_skip rfl (ext_skip rfl (ext_skip rfl ext_refl))))) (fun _ h => h))
  refine wl_det rfl rfl (det_move rfl) rfl ?_
  refine wl_way ((((decide (0 ≤ a0.Acked)) && (decide (a0.Acked ≤ (a0.Out.length : Int)))) && (decide ((a0.Out.length : Int) ≤ 4096))) && (decide (0 ≤ a0.Got))) (((((decide (0 ≤ a0.Acked)) && (decide (a0.Acked ≤ (a0.Out.length : Int)))) && (decide ((a0.Out.length : Int) ≤ 4096))) && (decide (0 ≤ a0.Got))) && (decide (a0.Got ≤ 4096))) 4 29 (fun hg => ?_) (fun hg => ?_) ?_
  · have hg1_26 := hg
    refine wl_on rfl rfl rfl rfl hg1_26 ?_
    refine wl_det rfl rfl (det_field rfl fd24_2 rfl) rfl ?_
    refine wl_on rfl rfl rfl rfl hg1_26 ?_
    refine wl_det rfl rfl (det_load rfl m0 (by rfl) na3 us3) rfl ?_
    refine wl_on rfl rfl rfl rfl hg1_26 ?_
    refine wl_det rfl rfl (det_leq rfl rfl) rfl ?_
    refine wl_det rfl rfl (det_and_on rfl rfl rfl hg1_26) rfl ?_
    exact wl_nil (pn_qnE (ext_cons rfl (ext_skip rfl (ext_skip rfl (ext_skip rfl (ext_skip rfl ext_refl))))) (fun _ h => h))
  · have hg1_26a := hg
    refine wl_off rfl rfl rfl rfl rfl hg1_26a rfl ?_
    refine wl_off rfl rfl rfl rfl rfl hg1_26a rfl ?_
    refine wl_off rfl rfl rfl rfl rfl hg1_26a rfl ?_
    refine wl_det rfl rfl (det_and_off (q := (decide (a0.Got ≤ 4096))) rfl rfl rfl hg1_26a) rfl ?_
    exact wl_nil (pn_qnE (ext_cons rfl (ext_skip rfl (ext_skip rfl (ext_skip rfl (ext_skip rfl ext_refl))))) (fun _ h => h))
  refine wl_det rfl rfl (det_assign rfl) rfl ?_
  refine wl_nil ?_
  refine pn_then ?_
  refine wc_ret ?_
  replace h := Option.some.inj h
  subst h
  refine pn_ret (vs := [_]) rfl ⟨rfl, trivial⟩ ⟨rfl, rfl, rfl⟩ (fun _ h => h.to trivial trivial)
def Q_slices_Clone_s_byte_byte (r : (List Int)) : Value → List Ent → List Fact → Prop := fun v θ κ => ∃ (pA0 : Option Addr), ∃ (pn0 : Nat), ∃ (pc0 : Nat), v = .slice pA0 pn0 pc0 ∧ θ = [eS (lInt .u8) 5 pA0 pn0 pc0 r] ∧ κ = []
theorem plains_slices_Clone_s_byte_byte {r : (List Int)} : ∀ v θ κ, Q_slices_Clone_s_byte_byte r v θ κ → Plains θ := by
  rintro _ _ _ ⟨_, _, _, rfl, rfl, rfl⟩
  exact ⟨plain_eS, trivial⟩
set_option maxHeartbeats 4000000 in
set_option maxRecDepth 100000 in
theorem W_slices_Clone_s_byte_byte (a0 : (List Int)) (A0 : Option Addr) (n0 : Nat) (c0 : Nat) (r : (List Int)) (h : slices_Clone_s_byte_byte a0 = some r) : Spec Try.prog 18 [.slice A0 n0 c0] [] [fV (lSlice (lInt .u8)) (.slice A0 n0 c0) a0] (Q_slices_Clone_s_byte_byte r) := by
  unfold slices_Clone_s_byte_byte at h
  refine spec_of (σ := [(0, _)]) Try.func18 rfl rfl rfl rfl ?_
  intro C
  refine wc_know (fun _ h => h.lenF m0) (fun e => ?_)
  subst e
  refine wc_seq ?_
  refine wc_region ?_   -- region 0
  refine wl_det rfl rfl (det_assign rfl) rfl ?_
  refine wl_nil ?_
  refine pn_then ?_
  refine wc_seq ?_
  refine wc_seq ?_
  refine wc_region ?_   -- region 1
  refine wl_det rfl rfl (det_move rfl) rfl ?_
  refine wl_det rfl rfl (det_eqlNil rfl rfl un25) rfl ?_
  refine wl_nil ?_
  refine pn_then ?_
  refine wc_cond rfl (fun cd5 => ?_) (fun cd5 => ?_)
  · refine wc_know (fun _ h => h.nilF m0 cd5) (fun e => ?_)
    subst e
    have h := clone_nil h
    refine wc_seq ?_
    refine wc_region ?_   -- region 2
    refine wl_det rfl rfl (det_assign rfl) rfl ?_
    refine wl_nil ?_
    refine pn_then ?_
    refine wc_ret ?_
    refine pr_then ?_
    refine pn_st (fun _ h => h.zeroS (lInt .u8) 5 none) ?_
    replace h := Option.some.inj h
    subst h
    refine pn_ret (vs := [_]) rfl ⟨rfl, trivial⟩ ⟨none, 0, 0, rfl, rfl, rfl⟩ (fun _ h => h.to ⟨_, r0, trivial⟩ trivial)
  · refine wc_skip ?_
    refine pn_then ?_
    refine wc_seq ?_
    refine wc_region ?_   -- region 3
    refine wl_act (act_lit0S (lInt .u8) un25 (by kernel_rfl)) rfl rfl rfl ?_
    rintro _ _ _ ⟨A3_0, rfl, rfl, rfl⟩
    refine wl_det rfl rfl (det_move rfl) rfl ?_
    obtain ⟨k3_2, h⟩ := chk_some h
    refine wl_act (act_appendS0 (L := (lInt .u8)) rfl rfl s0 (src_F m0) un25 in5 rfl rfl rfl k3_2) rfl rfl rfl ?_
    rintro _ _ _ ⟨A3_2, c3_2, rfl, rfl, rfl⟩
    refine wl_det rfl rfl (det_assign rfl) rfl ?_
    refine wl_nil ?_
    refine pn_then ?_
    refine wc_ret ?_
    replace h := Option.some.inj h
    subst h
    refine pn_ret (vs := [_]) rfl ⟨rfl, trivial⟩ ⟨A3_2, a0.length, c3_2, rfl, rfl, rfl⟩ (fun _ h => h.to ⟨_, r0, trivial⟩ trivial)
def Q_link_copied (r : GEndpoint) : Value → List Ent → List Fact → Prop := fun v θ κ => ∃ (pA0 : Option Addr), ∃ (pn0 : Nat), ∃ (pc0 : Nat), v = .agg #[.slice pA0 pn0 pc0, .int .i64 r.Acked, .int .i64 r.Got] ∧ θ = [eS (lSlice (lInt .u8)) 25 pA0 pn0 pc0 r.Out] ∧ κ = []
set_option maxHeartbeats 4000000 in
set_option maxRecDepth 100000 in
theorem W_link_copied (a0 : GEndpoint) (A0 : Option Addr) (n0 : Nat) (c0 : Nat) (r : GEndpoint) (h : link_copied a0 = some r) : Spec Try.prog 17 [.agg #[.slice A0 n0 c0, .int .i64 a0.Acked, .int .i64 a0.Got]] [] [fV (lSlice (lSlice (lInt .u8))) (.slice A0 n0 c0) a0.Out] (Q_link_copied r) := by
  unfold link_copied at h
  refine spec_of (σ := [(0, _)]) Try.func17 rfl rfl rfl rfl ?_
  intro C
  refine wc_know (fun _ h => h.lenF m0) (fun e => ?_)
  subst e
  refine wc_seq ?_
  refine wc_region ?_   -- region 0
  refine wl_act (act_box (cs := [_, _, _]) rfl rfl) rfl rfl rfl ?_
  rintro _ _ _ ⟨b0_0, rfl, rfl, rfl⟩
  refine wl_act (act_alloc (cs := [_, _, _]) zr24 rfl) rfl rfl rfl ?_
  rintro _ _ _ ⟨b0_1, rfl, rfl, rfl⟩
  refine wl_nil ?_
  refine pn_then ?_
  refine wc_seq ?_
  refine wc_region ?_   -- region 1
  refine wl_det rfl rfl (det_field rfl fd24_0 rfl) rfl ?_
  refine wl_det rfl rfl (det_load rfl (ms m0) (by rfl) na22 us22) rfl ?_
  refine wl_det rfl rfl (det_len rfl un22) rfl ?_
  obtain ⟨k1_3, h⟩ := chk_some h
  obtain ⟨k1_3a, h⟩ := chk_some h
  refine wl_act (act_makeS (L := (lSlice (lInt .u8))) (x0 := ([] : (List Int))) rfl rfl un22 in25 (by refine ⟨rfl, fun _ _ => ?_⟩; first | exact rfl | exact ⟨_, _, _, rfl, rfl, Nat.zero_le _, .inl rfl⟩) rfl rfl k1_3 (decide_eq_true (Int.le_refl _)) k1_3a) rfl rfl rfl ?_
  rintro _ _ _ ⟨A1_3, c1_3, rfl, rfl, rfl⟩
  refine wl_det rfl rfl (det_assign rfl) rfl ?_
  refine wl_nil ?_
  refine pn_then ?_
  obtain ⟨q4, h, ho4⟩ := bind_some h
  refine wc_meetG (G := (List (List Int)) × Unit) (fun (s4, _) => s4 = q4) (fun (_, _) => [(1, .pointer (some ⟨b0_0, 0, none⟩)), (2, .pointer (some ⟨b0_1, 0, none⟩)), (3, .slice A1_3 (List.replicate (a0.Out.length : Int).toNat ([] : (List Int))).length c1_3)]) (fun (s4, _) => [eBlk b0_0 24 [.slice A0 a0.Out.length c0, .int .i64 a0.Acked, .int .i64 a0.Got], eBlk b0_1 24 [.slice none 0 0, .int .i64 0, .int .i64 0], eS (lSlice (lInt .u8)) 25 A1_3 (List.replicate (a0.Out.length : Int).toNat ([] : (List Int))).length c1_3 s4]) (fun (_, _) => [fV (lSlice (lSlice (lInt .u8))) (.slice A0 a0.Out.length c0) a0.Out]) ?_ ?_
  · refine wc_seq ?_
    refine wc_region ?_   -- region 2
    refine wl_det rfl rfl (det_field rfl fd24_0 rfl) rfl ?_
    refine wl_det rfl rfl (det_load rfl (ms (ms m0)) (by rfl) na22 us22) rfl ?_
    refine wl_det rfl rfl (det_len rfl un22) rfl ?_
    refine wl_det rfl rfl (det_move rfl) rfl ?_
    refine wl_nil ?_
    refine pn_then ?_
    refine wc_block ?_
    obtain ⟨k8, hk8⟩ := loopV_some.1 h
    refine wc_loop (G := Nat × ((List (List Int)) × Int) × Unit) (fun g => IterN (link_copied_l8 a0) g.1 g.2.1 q4) (fun g => g.1) (fun (_, s8, _) => [(1, .pointer (some ⟨b0_0, 0, none⟩)), (2, .pointer (some ⟨b0_1, 0, none⟩)), (3, .slice A1_3 (List.replicate (a0.Out.length : Int).toNat ([] : (List Int))).length c1_3), (11, .slice A0 a0.Out.length c0), (12, .int .i64 (a0.Out.length : Int)), (13, .int .i64 s8.2)]) (fun (_, s8, _) => [eBlk b0_0 24 [.slice A0 a0.Out.length c0, .int .i64 a0.Acked, .int .i64 a0.Got], eBlk b0_1 24 [.slice none 0 0, .int .i64 0, .int .i64 0], eS (lSlice (lInt .u8)) 25 A1_3 (List.replicate (a0.Out.length : Int).toNat ([] : (List Int))).length c1_3 s8.1]) (fun (_, _, _) => [fV (lSlice (lSlice (lInt .u8))) (.slice A0 a0.Out.length c0) a0.Out]) (k8, ((List.replicate (a0.Out.length : Int).toNat ([] : (List Int))), 0), ()) hk8 ⟨rfl, rfl, rfl, rfl, rfl, rfl, trivial⟩ (fun _ h => h.to ⟨_, (rs (rs r0)), ⟨_, (rs r0), ⟨_, r0, trivial⟩⟩⟩ ⟨m0, trivial⟩) ?_
    rintro ⟨k8, s8, _⟩ hI
    obtain ⟨k8, rfl, q8, h, g8⟩ := IterN.pos hI
    dsimp only at h ⊢
    unfold link_copied_l8 at h
    refine wc_seq ?_
    refine wc_region ?_   -- region 3
    refine wl_det rfl rfl (det_lss rfl rfl) rfl ?_
    refine wl_nil ?_
    refine pn_then ?_
    refine wc_seq ?_
    refine wc_cond rfl (fun cd12 => ?_) (fun cd12 => ?_)
    · have h := ifT h cd12
      refine wc_skip ?_
      refine pn_then ?_
      refine wc_seq ?_
      refine wc_block ?_
      refine wc_seq ?_
      refine wc_region ?_   -- region 4
      refine wl_det rfl rfl (det_move rfl) rfl ?_
      obtain ⟨k4_1, h⟩ := chk_some h
      refine wl_ex (G := Option Addr × Nat) (fun _ => _) (fun g => fPt A0 (s8.2.toNat * 1) [.slice g.1 (ix a0.Out s8.2).length g.2] :: fV (lSlice (lInt .u8)) (.slice g.1 (ix a0.Out s8.2).length g.2) (ix a0.Out s8.2) :: _) (fun _ => True) (fun _ h => open_slice h m0 k4_1) ?_
      rintro ⟨A4_1, c4_1⟩ -
      dsimp only
      refine wl_det rfl rfl (det_indexP rfl rfl (ms (ms m0)) k4_1 m0 un22 sz25) rfl ?_
      refine wl_det rfl rfl (det_loadP (off := 0) rfl m0 (by rfl) (by rfl) (loaded_1 na25 us25)) rfl ?_
      refine wl_det rfl rfl (det_assign rfl) rfl ?_
      refine wl_det rfl rfl (det_assign rfl) rfl ?_
      refine wl_nil ?_
      refine pn_then ?_
      refine wc_region ?_   -- region 5
      refine wl_det rfl rfl (det_move rfl) rfl ?_
      refine wl_det rfl rfl (det_move rfl) rfl ?_
      refine wl_det rfl rfl (det_move rfl) rfl ?_
      obtain ⟨r5_3, hr5_3, h⟩ := bind_some h
      refine wl_act (act_callS (cap := []) (W_slices_Clone_s_byte_byte (ix a0.Out s8.2) A4_1 (ix a0.Out s8.2).length c4_1 r5_3 hr5_3) rfl rfl rfl bd18 rfl ⟨(ms m0), trivial⟩) rfl rfl rfl ?_
      rintro _ _ _ ⟨_, _, ⟨y5_3A0, y5_3n0, y5_3c0, rfl, rfl, rfl⟩, rfl, rfl⟩
      dsimp only [List.nil_append, List.cons_append]
      refine wl_know (fun _ h => h.lenO m0) (fun e => ?_)
      subst e
      obtain ⟨k5_4, h⟩ := chk_some h
      refine wl_det rfl rfl (det_indexO rfl rfl (ms (ms (ms m0))) k5_4 un22 sz25) rfl ?_
      refine wl_st (fun _ h => h.shutS r0) ?_
      refine wl_act0 (act_storeO (cells := [_]) (off := 0) r5_3 rfl rfl rfl (ss (ss s0)) k5_4 (by rfl) sz25 (by intro u hu; simp at hu; rcases hu with rfl <;> rfl) (stR_fact m0)) rfl rfl ?_
      rintro _ _ _ ⟨rfl, rfl⟩
      refine wl_nil ?_
      refine pn_block ?_
      refine pn_then ?_
      refine wc_region ?_   -- region 6
      refine wl_det rfl rfl (det_add rfl rfl) rfl ?_
      refine wl_det rfl rfl (det_move rfl) rfl ?_
      refine wl_nil ?_
      replace h := Option.some.inj h
      subst h
      exact pn_some (k8, ((upd s8.1 s8.2 r5_3), (w64 (s8.2 + 1))), ()) ⟨nextL g8, Nat.lt_succ_self _⟩ ⟨rfl, rfl, rfl, rfl, rfl, rfl, trivial⟩ (fun _ h => h.to ⟨_, r0, ⟨_, r0, ⟨_, r0, trivial⟩⟩⟩ ⟨(ms (ms (ms m0))), trivial⟩)
    · have h := ifF h cd12
      refine wc_exit ?_
      refine px_then ?_
      refine px_then ?_
      refine px_block ?_
      replace h := Option.some.inj h
      subst h
      replace g8 := nextR g8
      subst g8
      exact pn_meetG (s8.1, ()) rfl ⟨rfl, rfl, rfl, trivial⟩ (fun _ h => h.to ⟨_, r0, ⟨_, r0, ⟨_, r0, trivial⟩⟩⟩ ⟨m0, trivial⟩)
  rintro ⟨s4, _⟩ e4
  dsimp only at e4 ⊢
  subst e4
  have h := ho4
  refine wc_seq ?_
  refine wc_region ?_   -- region 7
  refine wl_det rfl rfl (det_move rfl) rfl ?_
  refine wl_det rfl rfl (det_field rfl fd24_0 rfl) rfl ?_
  refine wl_act0 (act_store (cells := [_]) (cs' := [_, _, _]) rfl rfl rfl s0 (by rfl) (of_decide_eq_true rfl) sz22 ⟨rfl, trivial⟩) rfl rfl ?_
  rintro _ _ _ ⟨rfl, rfl⟩
  refine wl_nil ?_
  refine pn_then ?_
  refine wc_seq ?_
  refine wc_region ?_   -- region 8
  refine wl_det rfl rfl (det_loadN (cells := [_, _, _]) rfl m0 (by rfl) ag24 sz24) rfl ?_
  refine wl_act0 (act_store (cells := [_, _, _]) (cs' := [_, _, _]) rfl rfl rfl (ss s0) (by rfl) (of_decide_eq_true rfl) sz24 ⟨rfl, rfl, rfl, trivial⟩) rfl rfl ?_
  rintro _ _ _ ⟨rfl, rfl⟩
  refine wl_nil ?_
  refine pn_then ?_
  refine wc_ret ?_
  replace h := Option.some.inj h
  subst h
  refine pn_ret (vs := [_]) rfl ⟨⟨_, _, [_, _, _], rfl, (ms m0), ag24, sz24, rfl⟩, trivial⟩ ⟨A1_3, (List.replicate (a0.Out.length : Int).toNat ([] : (List Int))).length, c1_3, rfl, rfl, rfl⟩ (fun _ h => h.to ⟨_, (rs (rs r0)), trivial⟩ trivial)
def Q_link_Send (r : GEndpoint × Int) : Value → List Ent → List Fact → Prop := fun v θ κ => ∃ (pA0 : Option Addr), ∃ (pn0 : Nat), ∃ (pc0 : Nat), v = .tuple #[.agg #[.slice pA0 pn0 pc0, .int .i64 r.1.Acked, .int .i64 r.1.Got], .int .i64 r.2] ∧ θ = [eS (lSlice (lInt .u8)) 25 pA0 pn0 pc0 r.1.Out] ∧ κ = []
set_option maxHeartbeats 4000000 in
set_option maxRecDepth 100000 in
theorem W_link_Send (a0 : GEndpoint) (a1 : (List Int)) (A0 : Option Addr) (n0 : Nat) (c0 : Nat) (A3 : Option Addr) (n3 : Nat) (c3 : Nat) (r : GEndpoint × Int) (h : link_Send a0 a1 = some r) : Spec Try.prog 22 [.agg #[.slice A0 n0 c0, .int .i64 a0.Acked, .int .i64 a0.Got], .slice A3 n3 c3] [] [fV (lSlice (lSlice (lInt .u8))) (.slice A0 n0 c0) a0.Out, fV (lSlice (lInt .u8)) (.slice A3 n3 c3) a1] (Q_link_Send r) := by
  unfold link_Send at h
  refine spec_of (σ := [(0, _), (1, _)]) Try.func22 rfl rfl rfl rfl ?_
  intro C
  refine wc_know (fun _ h => h.lenF m0) (fun e => ?_)
  subst e
  refine wc_know (fun _ h => h.lenF (ms m0)) (fun e => ?_)
  subst e
  refine wc_seq ?_
  refine wc_region ?_   -- region 0
  refine wl_act (act_box (cs := [_, _, _]) rfl rfl) rfl rfl rfl ?_
  rintro _ _ _ ⟨b0_0, rfl, rfl, rfl⟩
  refine wl_act (act_alloc (cs := [_, _, _]) zr24 rfl) rfl rfl rfl ?_
  rintro _ _ _ ⟨b0_1, rfl, rfl, rfl⟩
  refine wl_det rfl rfl (det_assign rfl) rfl ?_
  refine wl_nil ?_
  refine pn_then ?_
  refine wc_seq ?_
  refine wc_block ?_
  refine wc_seq ?_
  refine wc_region ?_   -- region 1
  refine wl_det rfl rfl (det_loadN (cells := [_, _, _]) rfl (ms m0) (by rfl) ag24 sz24) rfl ?_
  obtain ⟨r1_1, hr1_1, h⟩ := bind_some h
  refine wl_act (act_callS (cap := []) (W_link_Valid a0 A0 a0.Out.length c0 r1_1 hr1_1) rfl rfl rfl bd16 rfl ⟨m0, trivial⟩) rfl rfl rfl ?_
  rintro _ _ _ ⟨_, _, ⟨rfl, rfl, rfl⟩, rfl, rfl⟩
  dsimp only [List.nil_append, List.cons_append]
  refine wl_det rfl rfl (det_not rfl) rfl ?_
  refine wl_det rfl rfl (det_assign rfl) rfl ?_
  refine wl_nil ?_
  refine pn_then ?_
  refine wc_cond rfl (fun cd6 => ?_) (fun cd6 => ?_)
  · have h := ifT h cd6
    refine wc_seq ?_
    refine wc_region ?_   -- region 2
    refine wl_det rfl rfl (det_build (cs := [_, _, _]) pl24 zr24 rfl rfl (by rfl)) rfl ?_
    refine wl_act0 (act_store (cells := [_, _, _]) (cs' := [_, _, _]) rfl rfl rfl s0 (by rfl) (of_decide_eq_true rfl) sz24 ⟨rfl, rfl, rfl, trivial⟩) rfl rfl ?_
    rintro _ _ _ ⟨rfl, rfl⟩
    refine wl_det rfl rfl (det_assign rfl) rfl ?_
    refine wl_nil ?_
    refine pn_then ?_
    refine wc_ret ?_
    refine pr_block ?_
    refine pr_then ?_
    refine pn_st (fun _ h => h.zeroS (lSlice (lInt .u8)) 25 none) ?_
    replace h := Option.some.inj h
    subst h
    refine pn_ret (vs := [_, _]) rfl ⟨⟨_, _, [_, _, _], rfl, (ms m0), ag24, sz24, rfl⟩, rfl, trivial⟩ ⟨none, 0, 0, rfl, rfl, rfl⟩ (fun _ h => h.to ⟨_, r0, trivial⟩ trivial)
  · have h := ifF h cd6
    refine wc_seq ?_
    refine wc_region ?_   -- region 3
    refine wl_det rfl rfl (det_move rfl) rfl ?_
    refine wl_det rfl rfl (det_len rfl un25) rfl ?_
    refine wl_det rfl rfl (det_eql rfl rfl) rfl ?_
    refine wl_det rfl rfl (det_assign rfl) rfl ?_
    refine wl_nil ?_
    refine pn_then ?_
    refine wc_cond rfl (fun cd11 => ?_) (fun cd11 => ?_)
    · have h := ifT h cd11
      refine wc_seq ?_
      refine wc_region ?_   -- region 4
      refine wl_det rfl rfl (det_build (cs := [_, _, _]) pl24 zr24 rfl rfl (by rfl)) rfl ?_
      refine wl_act0 (act_store (cells := [_, _, _]) (cs' := [_, _, _]) rfl rfl rfl s0 (by rfl) (of_decide_eq_true rfl) sz24 ⟨rfl, rfl, rfl, trivial⟩) rfl rfl ?_
      rintro _ _ _ ⟨rfl, rfl⟩
      refine wl_det rfl rfl (det_assign rfl) rfl ?_
      refine wl_nil ?_
      refine pn_then ?_
      refine wc_ret ?_
      refine pr_block ?_
      refine pr_then ?_
      refine pn_st (fun _ h => h.zeroS (lSlice (lInt .u8)) 25 none) ?_
      replace h := Option.some.inj h
      subst h
      refine pn_ret (vs := [_, _]) rfl ⟨⟨_, _, [_, _, _], rfl, (ms m0), ag24, sz24, rfl⟩, rfl, trivial⟩ ⟨none, 0, 0, rfl, rfl, rfl⟩ (fun _ h => h.to ⟨_, r0, trivial⟩ trivial)
    · have h := ifF h cd11
      refine wc_seq ?_
      refine wc_region ?_   -- region 5
      refine wl_det rfl rfl (det_move rfl) rfl ?_
      refine wl_det rfl rfl (det_len rfl un25) rfl ?_
      refine wl_det rfl rfl (det_gtr rfl rfl) rfl ?_
      refine wl_det rfl rfl (det_move rfl) rfl ?_
      refine wl_way (decide (8192 < (a1.length : Int))) ((decide (8192 < (a1.length : Int))) || (decide ((a0.Out.length : Int) = 4096))) 5 25 (fun hg => ?_) (fun hg => ?_) ?_
      · have hg5_8 := hg
        refine wl_off rfl rfl rfl rfl rfl hg5_8 rfl ?_
        refine wl_off rfl rfl rfl rfl rfl hg5_8 rfl ?_
        refine wl_off rfl rfl rfl rfl rfl hg5_8 rfl ?_
        refine wl_off rfl rfl rfl rfl rfl hg5_8 rfl ?_
        refine wl_det rfl rfl (det_or_on (r := (decide ((a0.Out.length : Int) = 4096))) rfl rfl rfl hg5_8) rfl ?_
        exact wl_nil (pn_qnE (ext_cons rfl (ext_skip rfl (ext_skip rfl (ext_skip rfl (ext_skip rfl (ext_skip rfl ext_refl)))))) (fun _ h => h))
      · have hg5_8a := hg
        refine wl_on rfl rfl rfl rfl hg5_8a ?_
        refine wl_det rfl rfl (det_field rfl fd24_0 rfl) rfl ?_
        refine wl_on rfl rfl rfl rfl hg5_8a ?_
        refine wl_det rfl rfl (det_load rfl (ms m0) (by rfl) na22 us22) rfl ?_
        refine wl_on rfl rfl rfl rfl hg5_8a ?_
        refine wl_det rfl rfl (det_len rfl un22) rfl ?_
        refine wl_on rfl rfl rfl rfl hg5_8a ?_
        refine wl_det rfl rfl (det_eql rfl rfl) rfl ?_
        refine wl_det rfl rfl (det_or_off rfl rfl rfl hg5_8a) rfl ?_
        exact wl_nil (pn_qnE (ext_cons rfl (ext_skip rfl (ext_skip rfl (ext_skip rfl (ext_skip rfl (ext_skip rfl ext_refl)))))) (fun _ h => h))
      refine wl_det rfl rfl (det_assign rfl) rfl ?_
      refine wl_nil ?_
      refine pn_then ?_
      refine wc_cond rfl (fun cd16 => ?_) (fun cd16 => ?_)
      · have h := ifT h cd16
        refine wc_seq ?_
        refine wc_region ?_   -- region 6
        refine wl_det rfl rfl (det_build (cs := [_, _, _]) pl24 zr24 rfl rfl (by rfl)) rfl ?_
        refine wl_act0 (act_store (cells := [_, _, _]) (cs' := [_, _, _]) rfl rfl rfl s0 (by rfl) (of_decide_eq_true rfl) sz24 ⟨rfl, rfl, rfl, trivial⟩) rfl rfl ?_
        rintro _ _ _ ⟨rfl, rfl⟩
        refine wl_det rfl rfl (det_assign rfl) rfl ?_
        refine wl_nil ?_
        refine pn_then ?_
        refine wc_ret ?_
        refine pr_block ?_
        refine pr_then ?_
        refine pn_st (fun _ h => h.zeroS (lSlice (lInt .u8)) 25 none) ?_
        replace h := Option.some.inj h
        subst h
        refine pn_ret (vs := [_, _]) rfl ⟨⟨_, _, [_, _, _], rfl, (ms m0), ag24, sz24, rfl⟩, rfl, trivial⟩ ⟨none, 0, 0, rfl, rfl, rfl⟩ (fun _ h => h.to ⟨_, r0, trivial⟩ trivial)
      · have h := ifF h cd16
        refine wc_skip ?_
        refine pn_block ?_
        refine pn_then ?_
        refine wc_seq ?_
        refine wc_region ?_   -- region 7
        refine wl_det rfl rfl (det_loadN (cells := [_, _, _]) rfl (ms m0) (by rfl) ag24 sz24) rfl ?_
        obtain ⟨r7_1, hr7_1, h⟩ := bind_some h
        refine wl_act (act_callS (cap := []) (W_link_copied a0 A0 a0.Out.length c0 r7_1 hr7_1) rfl rfl rfl bd17 rfl ⟨m0, trivial⟩) rfl rfl rfl ?_
        rintro _ _ _ ⟨_, _, ⟨y7_1A0, y7_1n0, y7_1c0, rfl, rfl, rfl⟩, rfl, rfl⟩
        dsimp only [List.nil_append, List.cons_append]
        refine wl_know (fun _ h => h.lenO m0) (fun e => ?_)
        subst e
        refine wl_act0 (act_store (cells := [_, _, _]) (cs' := [_, _, _]) rfl rfl rfl (ss (ss s0)) (by rfl) (of_decide_eq_true rfl) sz24 ⟨rfl, rfl, rfl, trivial⟩) rfl rfl ?_
        rintro _ _ _ ⟨rfl, rfl⟩
        refine wl_nil ?_
        refine pn_then ?_
        refine wc_seq ?_
        refine dx_regionZ (Z := St C [_, _, _] [_, _]) 5 [[], [0], [], [2], [2, 3], [0, 1, 2, 3, 4], [0, 1, 2, 3, 4, 5], [0, 1, 2, 3, 4, 5, 6]] mixed (ord := (.det 0 (.det 1 (.det 2 (.alt 3 (.alt 4 .done .dead) .dead))))) (by kernel_rfl) (fun _ h => h.to ⟨_, r0, ⟨_, r0, ⟨_, r0, trivial⟩⟩⟩ ⟨m0, ⟨(ms m0), trivial⟩⟩) ?_   -- region 8
        refine hx_det rfl rfl rfl nofun (det_field rfl fd24_0 rfl) rfl ?_
        refine hx_det rfl rfl rfl nofun (det_load rfl (ms (ms m0)) (by rfl) na22 us22) rfl ?_
        refine hx_det rfl rfl rfl nofun (det_move rfl) rfl ?_
        obtain ⟨r8_3, hr8_3, h⟩ := bind_some h
        refine hx_mut rfl rfl rfl (act_callS (cap := []) (W_slices_Clone_s_byte_byte a1 A3 a1.length c3 r8_3 hr8_3) rfl rfl rfl bd18 rfl ⟨(ms m0), trivial⟩) rfl (by rintro _ _ _ ⟨_, _, ⟨y8_3A0, y8_3n0, y8_3c0, rfl, rfl, rfl⟩, rfl, rfl⟩ w hs; exact hs.to ⟨_, (rs r0), ⟨_, (rs r0), ⟨_, (rs r0), trivial⟩⟩⟩ ⟨m0, ⟨(ms m0), trivial⟩⟩) ?_
        rintro _ _ _ ⟨_, _, ⟨y8_3A0, y8_3n0, y8_3c0, rfl, rfl, rfl⟩, rfl, rfl⟩
        dsimp only [List.nil_append, List.cons_append]
        refine hx_st (fun _ h => h.shutS r0) ?_
        refine hx_mut rfl rfl rfl (act_litS (lSlice (lInt .u8)) (vs := [_]) (cs := [_]) [r8_3] un22 in25 rfl rfl rfl rfl rfl ⟨rfl, trivial⟩ (by rfl) rfl (fun _ h => by have q := oneV h m0; exact q)) rfl (by rintro _ _ _ ⟨A8_4, rfl, rfl, rfl⟩ w hs; exact hs.to ⟨_, (rs r0), ⟨_, (rs r0), ⟨_, (rs r0), trivial⟩⟩⟩ ⟨(ms m0), ⟨(ms (ms m0)), trivial⟩⟩) ?_
        rintro _ _ _ ⟨A8_4, rfl, rfl, rfl⟩
        refine hx_end ?_
        refine wl_know (fun _ h => h.lenF m0) (fun e => ?_)
        subst e
        obtain ⟨k8_5, h⟩ := chk_some h
        refine wl_act (act_appendS (L := (lSlice (lInt .u8))) rfl rfl (ss s0) (src_O m0) un22 in25 rfl rfl rfl k8_5) rfl rfl rfl ?_
        rintro _ _ _ ⟨A8_5, c8_5, rfl, rfl, rfl⟩
        refine wl_det rfl rfl (det_field rfl fd24_0 rfl) rfl ?_
        refine wl_act0 (act_store (cells := [_]) (cs' := [_, _, _]) rfl rfl rfl (ss (ss (ss s0))) (by rfl) (of_decide_eq_true rfl) sz22 ⟨rfl, trivial⟩) rfl rfl ?_
        rintro _ _ _ ⟨rfl, rfl⟩
        refine wl_nil ?_
        refine pn_then ?_
        refine wc_seq ?_
        refine wc_region ?_   -- region 9
        refine wl_det rfl rfl (det_loadN (cells := [_, _, _]) rfl (ms (ms (ms m0))) (by rfl) ag24 sz24) rfl ?_
        refine wl_act0 (act_store (cells := [_, _, _]) (cs' := [_, _, _]) rfl rfl rfl (ss (ss s0)) (by rfl) (of_decide_eq_true rfl) sz24 ⟨rfl, rfl, rfl, trivial⟩) rfl rfl ?_
        rintro _ _ _ ⟨rfl, rfl⟩
        refine wl_det rfl rfl (det_assign rfl) rfl ?_
        refine wl_nil ?_
        refine pn_then ?_
        refine wc_ret ?_
        replace h := Option.some.inj h
        subst h
        refine pn_ret (vs := [_, _]) rfl ⟨⟨_, _, [_, _, _], rfl, (ms (ms m0)), ag24, sz24, rfl⟩, rfl, trivial⟩ ⟨A8_5, (r7_1.Out ++ [r8_3]).length, c8_5, rfl, rfl, rfl⟩ (fun _ h => h.to ⟨_, (rs r0), trivial⟩ trivial)
def Q_link_flight (r : GEndpoint) : Value → List Ent → List Fact → Prop := fun v θ κ => ∃ (pb0 : Nat), ∃ (pA1 : Option Addr), ∃ (pn1 : Nat), ∃ (pc1 : Nat), v = .func (.func 25) #[] #[.pointer (some ⟨pb0, 0, none⟩)] ∧ θ = [eBlk pb0 24 [.slice pA1 pn1 pc1, .int .i64 r.Acked, .int .i64 r.Got]] ∧ κ = [fV (lSlice (lSlice (lInt .u8))) (.slice pA1 pn1 pc1) r.Out]
set_option maxHeartbeats 4000000 in
set_option maxRecDepth 100000 in
theorem W_link_flight (a0 : GEndpoint) (A0 : Option Addr) (n0 : Nat) (c0 : Nat) (r : GEndpoint) (h : link_flight a0 = some r) : Spec Try.prog 23 [.agg #[.slice A0 n0 c0, .int .i64 a0.Acked, .int .i64 a0.Got]] [] [fV (lSlice (lSlice (lInt .u8))) (.slice A0 n0 c0) a0.Out] (Q_link_flight r) := by
  unfold link_flight at h
  refine spec_of (σ := [(0, _)]) Try.func23 rfl rfl rfl rfl ?_
  intro C
  refine wc_know (fun _ h => h.lenF m0) (fun e => ?_)
  subst e
  refine wc_seq ?_
  refine wc_region ?_   -- region 0
  refine wl_act (act_box (cs := [_, _, _]) rfl rfl) rfl rfl rfl ?_
  rintro _ _ _ ⟨b0_0, rfl, rfl, rfl⟩
  refine wl_det rfl rfl (det_assign rfl) rfl ?_
  refine wl_nil ?_
  refine pn_then ?_
  refine wc_seq ?_
  refine wc_region ?_   -- region 1
  refine wl_det rfl rfl (det_makeFunc rfl) rfl ?_
  refine wl_det rfl rfl (det_assign rfl) rfl ?_
  refine wl_nil ?_
  refine pn_then ?_
  refine wc_ret ?_
  replace h := Option.some.inj h
  subst h
  refine pn_ret (vs := [_]) rfl ⟨rfl, trivial⟩ ⟨b0_0, A0, a0.Out.length, c0, rfl, rfl, rfl⟩ (fun _ h => h.to ⟨_, r0, trivial⟩ ⟨m0, trivial⟩)
def enc_link_flight_c1 (x : (Int × (List Int)) × (Option Addr × Nat × Nat) × Unit) : List Value := [.int .i64 x.1.1, .slice x.2.1.1 x.2.1.2.1 x.2.1.2.2]
def fx_link_flight_c1 (x : (Int × (List Int)) × (Option Addr × Nat × Nat) × Unit) : List Fact := [fV (lSlice (lInt .u8)) (.slice x.2.1.1 x.2.1.2.1 x.2.1.2.2) x.1.2]
set_option maxHeartbeats 4000000 in
set_option maxRecDepth 100000 in
theorem W_link_flight_c1 (a1 : GEndpoint) (Ba1 : Nat) (A1 : Option Addr) (n1 : Nat) (c1 : Nat) : SeqOk Try.prog 25 [.pointer (some ⟨Ba1, 0, none⟩)] [eBlk Ba1 24 [.slice A1 n1 c1, .int .i64 a1.Acked, .int .i64 a1.Got]] [fV (lSlice (lSlice (lInt .u8))) (.slice A1 n1 c1) a1.Out] enc_link_flight_c1 (fun x => x.1) fx_link_flight_c1 (fun Y s => link_flight_c1 a1 Y s) := by
  intro S O l Y E EO hY s r e h hE
  dsimp only at h
  unfold link_flight_c1 at h
  refine spec_of (σ := [(0, _), (1, _)]) Try.func25 rfl rfl rfl rfl ?_
  intro C
  refine wc_know (fun _ h => h.lenF m0) (fun e => ?_)
  subst e
  refine wc_seq ?_
  refine wc_region ?_   -- region 0
  refine wl_det rfl rfl (det_field rfl fd24_1 rfl) rfl ?_
  refine wl_det rfl rfl (det_load rfl (ms m0) (by rfl) na3 us3) rfl ?_
  refine wl_det rfl rfl (det_assign rfl) rfl ?_
  refine wl_nil ?_
  refine pn_then ?_
  refine wc_block ?_
  obtain ⟨o3, h, ho3⟩ := bind_some h
  obtain ⟨k3, hk3⟩ := loopV_some.1 h
  refine wc_loop (G := Nat × (Int × S) × Ent × Unit) (fun g => IterN (link_flight_c1_l3 a1 Y) g.1 g.2.1 o3 ∧ E g.2.1.2 g.2.2.1) (fun g => g.1) (fun (_, s3, _, _) => [(0, .func (.yield l) #[] #[]), (1, .pointer (some ⟨Ba1, 0, none⟩)), (3, .int .i64 s3.1)]) (fun (_, _, e3_0, _) => [eBlk Ba1 24 [.slice A1 a1.Out.length c1, .int .i64 a1.Acked, .int .i64 a1.Got], e3_0]) (fun (_, _, _, _) => [fV (lSlice (lSlice (lInt .u8))) (.slice A1 a1.Out.length c1) a1.Out]) (k3, (a1.Acked, s), e, ()) ⟨hk3, hE⟩ ⟨rfl, rfl, rfl, trivial⟩ (fun _ h => h.to ⟨_, (rs r0), ⟨_, r0, trivial⟩⟩ ⟨m0, trivial⟩) ?_
  rintro ⟨k3, s3, e3_0, _⟩ ⟨hI, hE3⟩
  obtain ⟨k3, rfl, q3, h, g3⟩ := IterN.pos hI
  dsimp only at h hE3 ⊢
  unfold link_flight_c1_l3 at h
  refine wc_seq ?_
  refine wc_seq ?_
  refine wc_region ?_   -- region 1
  refine wl_det rfl rfl (det_move rfl) rfl ?_
  refine wl_det rfl rfl (det_field rfl fd24_0 rfl) rfl ?_
  refine wl_det rfl rfl (det_load rfl m0 (by rfl) na22 us22) rfl ?_
  refine wl_det rfl rfl (det_len rfl un22) rfl ?_
  refine wl_det rfl rfl (det_lss rfl rfl) rfl ?_
  refine wl_det rfl rfl (det_move rfl) rfl ?_
  refine wl_way (decide (s3.1 < (a1.Out.length : Int))) ((decide (s3.1 < (a1.Out.length : Int))) && (decide (s3.1 < (w64 (a1.Acked + 4))))) 6 17 (fun hg => ?_) (fun hg => ?_) ?_
  · have hg1_11 := hg
    refine wl_on rfl rfl rfl rfl hg1_11 ?_
    refine wl_det rfl rfl (det_move rfl) rfl ?_
    refine wl_on rfl rfl rfl rfl hg1_11 ?_
    refine wl_det rfl rfl (det_field rfl fd24_1 rfl) rfl ?_
    refine wl_on rfl rfl rfl rfl hg1_11 ?_
    refine wl_det rfl rfl (det_load rfl m0 (by rfl) na3 us3) rfl ?_
    refine wl_on rfl rfl rfl rfl hg1_11 ?_
    refine wl_det rfl rfl (det_add rfl rfl) rfl ?_
    refine wl_on rfl rfl rfl rfl hg1_11 ?_
    refine wl_det rfl rfl (det_lss rfl rfl) rfl ?_
    refine wl_det rfl rfl (det_and_on rfl rfl rfl hg1_11) rfl ?_
    exact wl_nil (pn_qnE (ext_cons rfl (ext_skip rfl (ext_skip rfl (ext_skip rfl (ext_skip rfl (ext_skip rfl (ext_skip rfl ext_refl))))))) (fun _ h => h))
  · have hg1_11a := hg
    refine wl_off rfl rfl rfl rfl rfl hg1_11a rfl ?_
    refine wl_off rfl rfl rfl rfl rfl hg1_11a rfl ?_
    refine wl_off rfl rfl rfl rfl rfl hg1_11a rfl ?_
    refine wl_off rfl rfl rfl rfl rfl hg1_11a rfl ?_
    refine wl_off rfl rfl rfl rfl rfl hg1_11a rfl ?_
    refine wl_det rfl rfl (det_and_off (q := (decide (s3.1 < (w64 (a1.Acked + 4))))) rfl rfl rfl hg1_11a) rfl ?_
    exact wl_nil (pn_qnE (ext_cons rfl (ext_skip rfl (ext_skip rfl (ext_skip rfl (ext_skip rfl (ext_skip rfl (ext_skip rfl ext_refl))))))) (fun _ h => h))
  refine wl_nil ?_
  refine pn_then ?_
  refine wc_cond rfl (fun cd7 => ?_) (fun cd7 => ?_)
  · have h := ifT h cd7
    refine wc_skip ?_
    refine pn_then ?_
    refine wc_seq ?_
    refine wc_block ?_
    refine wc_seq ?_
    refine wc_region ?_   -- region 3
    refine wl_det rfl rfl (det_move rfl) rfl ?_
    refine wl_det rfl rfl (det_move rfl) rfl ?_
    refine wl_det rfl rfl (det_add rfl rfl) rfl ?_
    refine wl_det rfl rfl (det_field rfl fd24_0 rfl) rfl ?_
    refine wl_det rfl rfl (det_load rfl m0 (by rfl) na22 us22) rfl ?_
    refine wl_det rfl rfl (det_move rfl) rfl ?_
    obtain ⟨k3_6, h⟩ := chk_some h
    refine wl_ex (G := Option Addr × Nat) (fun _ => _) (fun g => fPt A1 (s3.1.toNat * 1) [.slice g.1 (ix a1.Out s3.1).length g.2] :: fV (lSlice (lInt .u8)) (.slice g.1 (ix a1.Out s3.1).length g.2) (ix a1.Out s3.1) :: _) (fun _ => True) (fun _ h => open_slice h m0 k3_6) ?_
    rintro ⟨A3_6, c3_6⟩ -
    dsimp only
    refine wl_det rfl rfl (det_indexP rfl rfl (ms (ms m0)) k3_6 m0 un22 sz25) rfl ?_
    refine wl_det rfl rfl (det_loadP (off := 0) rfl m0 (by rfl) (by rfl) (loaded_1 na25 us25)) rfl ?_
    obtain ⟨r3_8, hr3_8, h⟩ := bind_some h
    refine wl_act (act_yield hY (((w64 (s3.1 + 1)), (ix a1.Out s3.1)), (A3_6, (ix a1.Out s3.1).length, c3_6), ()) hr3_8 hE3 rfl rfl (rs r0) ⟨(ms m0), trivial⟩) rfl rfl rfl ?_
    rintro _ _ _ ⟨_, _, hp, rfl, rfl⟩
    rcases r3_8 with s3_8 | o3_8
    · obtain ⟨rfl, rfl, e3_8, hE3_8, rfl⟩ := hp
      have h := elimL h
      dsimp only [List.nil_append, List.cons_append]
      refine wl_det rfl rfl (det_not rfl) rfl ?_
      refine wl_nil ?_
      refine pn_then ?_
      refine wc_condF rfl ?_
      refine wc_skip ?_
      refine pn_block ?_
      refine pn_then ?_
      refine wc_region ?_   -- region 2
      refine wl_det rfl rfl (det_move rfl) rfl ?_
      refine wl_det rfl rfl (det_add rfl rfl) rfl ?_
      refine wl_det rfl rfl (det_assign rfl) rfl ?_
      refine wl_nil ?_
      replace h := Option.some.inj h
      subst h
      exact pn_some (k3, ((w64 (s3.1 + 1)), s3_8), e3_8, ()) ⟨⟨nextL g3, hE3_8⟩, Nat.lt_succ_self _⟩ ⟨rfl, rfl, rfl, trivial⟩ (fun _ h => h.to ⟨_, (rs r0), ⟨_, r0, trivial⟩⟩ ⟨(ms (ms m0)), trivial⟩)
    · obtain ⟨rfl, rfl, e3_8, hE3_8, rfl⟩ := hp
      have h := elimR h
      dsimp only [List.nil_append, List.cons_append]
      refine wl_det rfl rfl (det_not rfl) rfl ?_
      refine wl_nil ?_
      refine pn_then ?_
      refine wc_condT rfl ?_
      refine wc_ret ?_
      refine pr_block ?_
      refine pr_then ?_
      refine pr_then ?_
      refine pr_block ?_
      replace h := Option.some.inj h
      subst h
      replace g3 := nextR g3
      subst g3
      have h := ho3
      replace h := Option.some.inj h
      subst h
      refine pn_ret (vs := []) rfl trivial ⟨rfl, _, hE3_8, rfl⟩ (fun _ h => h.to ⟨_, r0, ⟨_, r0, trivial⟩⟩ trivial)
  · have h := ifF h cd7
    refine wc_exit ?_
    refine px_then ?_
    refine px_then ?_
    refine px_block ?_
    refine pn_fall ?_
    replace h := Option.some.inj h
    subst h
    replace g3 := nextR g3
    subst g3
    have h := ho3
    replace h := Option.some.inj h
    subst h
    refine pn_ret (vs := []) rfl trivial ⟨rfl, _, hE3, rfl⟩ (fun _ h => h.to ⟨_, (rs r0), ⟨_, r0, trivial⟩⟩ trivial)
def Q_link_Pending (r : (List GPacket)) : Value → List Ent → List Fact → Prop := fun v θ κ => ∃ (pA0 : Option Addr), ∃ (pn0 : Nat), ∃ (pc0 : Nat), v = .slice pA0 pn0 pc0 ∧ θ = [eS lGPacket 27 pA0 pn0 pc0 r] ∧ κ = []
set_option maxHeartbeats 4000000 in
set_option maxRecDepth 100000 in
theorem W_link_Pending (a0 : GEndpoint) (a1 : Int) (a2 : Bool) (A0 : Option Addr) (n0 : Nat) (c0 : Nat) (r : (List GPacket)) (h : link_Pending a0 a1 a2 = some r) : Spec Try.prog 14 [.agg #[.slice A0 n0 c0, .int .i64 a0.Acked, .int .i64 a0.Got], .int .i64 a1, .bool a2] [] [fV (lSlice (lSlice (lInt .u8))) (.slice A0 n0 c0) a0.Out] (Q_link_Pending r) := by
  unfold link_Pending at h
  refine spec_of (σ := [(0, _), (1, _), (2, _)]) Try.func14 rfl rfl rfl rfl ?_
  intro C
  refine wc_know (fun _ h => h.lenF m0) (fun e => ?_)
  subst e
  refine wc_seq ?_
  refine wc_region ?_   -- region 0
  refine wl_act (act_box (cs := [_, _, _]) rfl rfl) rfl rfl rfl ?_
  rintro _ _ _ ⟨b0_0, rfl, rfl, rfl⟩
  refine wl_act (act_box (cs := [_]) rfl rfl) rfl rfl rfl ?_
  rintro _ _ _ ⟨b0_1, rfl, rfl, rfl⟩
  refine wl_act (act_box (cs := [_]) rfl rfl) rfl rfl rfl ?_
  rintro _ _ _ ⟨b0_2, rfl, rfl, rfl⟩
  refine wl_det rfl rfl (det_assign rfl) rfl ?_
  refine wl_nil ?_
  refine pn_then ?_
  refine wc_seq ?_
  refine wc_seq ?_
  refine wc_region ?_   -- region 1
  refine wl_det rfl rfl (det_loadN (cells := [_, _, _]) rfl (ms (ms m0)) (by rfl) ag24 sz24) rfl ?_
  obtain ⟨r1_1, hr1_1, h⟩ := bind_some h
  refine wl_act (act_callS (cap := []) (W_link_Valid a0 A0 a0.Out.length c0 r1_1 hr1_1) rfl rfl rfl bd16 rfl ⟨m0, trivial⟩) rfl rfl rfl ?_
  rintro _ _ _ ⟨_, _, ⟨rfl, rfl, rfl⟩, rfl, rfl⟩
  dsimp only [List.nil_append, List.cons_append]
  refine wl_det rfl rfl (det_not rfl) rfl ?_
  refine wl_nil ?_
  refine pn_then ?_
  refine wc_cond rfl (fun cd5 => ?_) (fun cd5 => ?_)
  · have h := ifT h cd5
    refine wc_seq ?_
    refine wc_region ?_   -- region 2
    refine wl_det rfl rfl (det_assign rfl) rfl ?_
    refine wl_nil ?_
    refine pn_then ?_
    refine wc_ret ?_
    refine pr_then ?_
    refine pn_st (fun _ h => h.zeroS lGPacket 27 none) ?_
    replace h := Option.some.inj h
    subst h
    refine pn_ret (vs := [_]) rfl ⟨rfl, trivial⟩ ⟨none, 0, 0, rfl, rfl, rfl⟩ (fun _ h => h.to ⟨_, r0, trivial⟩ trivial)
  · have h := ifF h cd5
    refine wc_skip ?_
    refine pn_then ?_
    refine wc_seq ?_
    refine wc_region ?_   -- region 3
    refine wl_act (act_alloc (cs := [_]) zr31 rfl) rfl rfl rfl ?_
    rintro _ _ _ ⟨b3_0, rfl, rfl, rfl⟩
    refine wl_nil ?_
    refine pn_then ?_
    refine wc_seq ?_
    refine wc_seq ?_
    refine wc_region ?_   -- region 4
    refine wl_det rfl rfl (det_loadN (cells := [_, _, _]) rfl (ms (ms (ms m0))) (by rfl) ag24 sz24) rfl ?_
    obtain ⟨r4_1, hr4_1, h⟩ := bind_some h
    refine wl_act (act_callS (cap := []) (W_link_flight a0 A0 a0.Out.length c0 r4_1 hr4_1) rfl rfl rfl bd23 rfl ⟨m0, trivial⟩) rfl rfl rfl ?_
    rintro _ _ _ ⟨_, _, ⟨y4_1b0, y4_1A1, y4_1n1, y4_1c1, rfl, rfl, rfl⟩, rfl, rfl⟩
    dsimp only [List.nil_append, List.cons_append]
    refine wl_know (fun _ h => h.lenF m0) (fun e => ?_)
    subst e
    refine wl_nil ?_
    refine pn_then ?_
    refine wc_block ?_
    refine wc_st (fun _ h => h.zeroS lGPacket 27 none) ?_
    obtain ⟨q14, hq14, h⟩ := bind_some h
    refine wc_rangeFunc (ηr := []) (W_link_flight_c1 r4_1 y4_1b0 y4_1A1 r4_1.Out.length y4_1c1) rfl bd25 (fun _ => rfl) rfl (AllIn.all ⟨m0, trivial⟩) (link_Pending_l14 a0 a1 a2) (fun s14 θ κ => ∃ (A14_0 : Option Addr), ∃ (n14_0 : Nat), ∃ (c14_0 : Nat), θ = [eBlk b0_0 24 [.slice A0 a0.Out.length c0, .int .i64 a0.Acked, .int .i64 a0.Got], eBlk b0_1 3 [.int .i64 a1], eBlk b0_2 4 [.bool a2], eBlk b3_0 31 [.slice A14_0 n14_0 c14_0], eS lGPacket 27 A14_0 n14_0 c14_0 s14] ∧ κ = [fV (lSlice (lSlice (lInt .u8))) (.slice A0 a0.Out.length c0) a0.Out]) (fun o _ _ _ => Empty.elim o) [] q14 hq14 ⟨none, 0, 0, rfl, rfl⟩ (fun _ h => h.to ⟨_, (rs (rs (rs (rs (rs r0))))), ⟨_, (rs (rs (rs (rs r0)))), ⟨_, (rs (rs (rs r0))), ⟨_, (rs (rs r0)), ⟨_, r0, ⟨_, r0, trivial⟩⟩⟩⟩⟩⟩ allIn_self) (AllIn.all ⟨(ms m0), trivial⟩) ?_ ?_ (fun _ o => Empty.elim o)
    · rintro C l14_ L14_ ⟨x14, ⟨xA14_0, xn14_0, xc14_0⟩, ⟨⟩⟩ s14 r _ _ h ⟨A14_0, n14_0, c14_0, rfl, rfl⟩
      unfold link_Pending_l14 at h
      dsimp only [zipσ, enc_link_flight_c1, fx_link_flight_c1, List.cons_append, List.nil_append] at h ⊢
      refine wc_know (fun _ h => h.lenO (ms (ms (ms (ms (ms m0)))))) (fun e => ?_)
      subst e
      refine wc_know (fun _ h => h.lenF (ms m0)) (fun e => ?_)
      subst e
      refine wc_seq ?_
      refine wc_region ?_   -- region 5
      refine wl_det rfl rfl (det_assign rfl) rfl ?_
      refine wl_nil ?_
      refine pn_then ?_
      refine wc_region ?_   -- region 6
      refine wl_det rfl rfl (det_assign rfl) rfl ?_
      refine wl_nil ?_
      refine pn_begin s0 ?_
      refine wc_block ?_
      refine dx_regionZ (Z := St C [_, _, _, _, _, _] [_, _]) 10 [[], [], [], [], [], [4], [], [6], [1, 2, 3, 4, 5, 6, 7], [1, 2, 3, 4, 5, 6, 7, 8], [0, 1, 2, 3, 4, 5, 6, 7, 8, 9], [0, 1, 2, 3, 4, 5, 6, 7, 8, 9, 10]] mixed (ord := (.det 0 (.det 1 (.det 2 (.det 3 (.det 4 (.det 5 (.det 6 (.alt 7 (.det 8 (.alt 9 .done .dead)) .dead))))))))) (by kernel_rfl) (fun _ h => h.to ⟨_, r0, ⟨_, r0, ⟨_, r0, ⟨_, r0, ⟨_, r0, ⟨_, r0, trivial⟩⟩⟩⟩⟩⟩ ⟨m0, ⟨(ms m0), trivial⟩⟩) ?_   -- region 7
      refine hx_det rfl rfl rfl nofun (det_load rfl (ms (ms (ms (ms m0)))) (by rfl) na31 us31) rfl ?_
      refine hx_det rfl rfl rfl nofun (det_load rfl (ms (ms m0)) (by rfl) na3 us3) rfl ?_
      refine hx_det rfl rfl rfl nofun (det_load rfl (ms (ms (ms m0))) (by rfl) na4 us4) rfl ?_
      refine hx_det rfl rfl rfl nofun (det_move rfl) rfl ?_
      refine hx_det rfl rfl rfl nofun (det_field rfl fd24_2 rfl) rfl ?_
      refine hx_det rfl rfl rfl nofun (det_load rfl (ms m0) (by rfl) na3 us3) rfl ?_
      refine hx_det rfl rfl rfl nofun (det_move rfl) rfl ?_
      obtain ⟨r7_7, hr7_7, h⟩ := bind_some h
      refine hx_mut rfl rfl rfl (act_callS (cap := []) (W_slices_Clone_s_byte_byte x14.2 xA14_0 x14.2.length xc14_0 r7_7 hr7_7) rfl rfl rfl bd18 rfl ⟨(ms m0), trivial⟩) rfl (by rintro _ _ _ ⟨_, _, ⟨y7_7A0, y7_7n0, y7_7c0, rfl, rfl, rfl⟩, rfl, rfl⟩ w hs; exact hs.to ⟨_, (rs r0), ⟨_, (rs r0), ⟨_, (rs r0), ⟨_, (rs r0), ⟨_, (rs r0), ⟨_, (rs r0), trivial⟩⟩⟩⟩⟩⟩ ⟨m0, ⟨(ms m0), trivial⟩⟩) ?_
      rintro _ _ _ ⟨_, _, ⟨y7_7A0, y7_7n0, y7_7c0, rfl, rfl, rfl⟩, rfl, rfl⟩
      dsimp only [List.nil_append, List.cons_append]
      refine hx_det rfl rfl rfl nofun (det_build (cs := [_, _, _, _, _]) pl27 zr27 rfl rfl (by rfl)) rfl ?_
      refine hx_st (fun _ h => h.shutS r0) ?_
      refine hx_st (fun _ h => h.fact (f := fC lGPacket [.int .i64 a1, .bool a2, .int .i64 x14.1, .int .i64 a0.Got, .slice y7_7A0 y7_7n0 y7_7c0] (GPacket.mk a1 a2 x14.1 a0.Got r7_7)) (mkGPacket (x := (GPacket.mk a1 a2 x14.1 a0.Got r7_7)) ⟨h.facts _ m0, trivial⟩)) ?_
      refine hx_mut rfl rfl rfl (act_litS lGPacket (vs := [_]) (cs := [_, _, _, _, _]) [(GPacket.mk a1 a2 x14.1 a0.Got r7_7)] un31 in27 rfl rfl rfl rfl rfl ⟨rfl, trivial⟩ (by rfl) rfl (fun _ h => by have q := oneF h m0; exact q)) rfl (by rintro _ _ _ ⟨A7_9, rfl, rfl, rfl⟩ w hs; exact hs.to ⟨_, (rs r0), ⟨_, (rs r0), ⟨_, (rs r0), ⟨_, (rs r0), ⟨_, (rs r0), ⟨_, (rs r0), trivial⟩⟩⟩⟩⟩⟩ ⟨(ms (ms m0)), ⟨(ms (ms (ms m0))), trivial⟩⟩) ?_
      rintro _ _ _ ⟨A7_9, rfl, rfl, rfl⟩
      refine hx_end ?_
      refine wl_know (fun _ h => h.lenF (ms m0)) (fun e => ?_)
      subst e
      obtain ⟨k7_10, h⟩ := chk_some h
      refine wl_act (act_appendS (L := lGPacket) rfl rfl (ss (ss (ss (ss (ss (ss s0)))))) (src_O m0) un31 in27 rfl rfl rfl k7_10) rfl rfl rfl ?_
      rintro _ _ _ ⟨A7_10, c7_10, rfl, rfl, rfl⟩
      refine wl_act0 (act_store (cells := [_]) (cs' := [_]) rfl rfl rfl (ss (ss (ss (ss (ss s0))))) (by rfl) (of_decide_eq_true rfl) sz31 ⟨rfl, trivial⟩) rfl rfl ?_
      rintro _ _ _ ⟨rfl, rfl⟩
      refine wl_nil ?_
      refine pn_block ?_
      replace h := Option.some.inj h
      subst h
      exact pn_roundN (ss s0) (fun _ h => ⟨rfl, _, _, ⟨A7_10, (s14 ++ [(GPacket.mk a1 a2 x14.1 a0.Got r7_7)]).length, c7_10, rfl, rfl⟩, h.to ⟨_, (rs r0), ⟨_, (rs r0), ⟨_, (rs r0), ⟨_, (rs r0), ⟨_, (rs r0), ⟨_, (rs r0), trivial⟩⟩⟩⟩⟩⟩ ⟨(ms (ms m0)), trivial⟩⟩)
    · rintro m14_ s14 _ _ rfl ⟨A14_0, n14_0, c14_0, rfl, rfl⟩
      have h := elimL h
      dsimp only [List.cons_append, List.nil_append]
      refine pn_know (fun _ h => h.lenO (ms (ms (ms (ms m0))))) (fun e => ?_)
      subst e
      refine pn_block ?_
      refine pn_then ?_
      refine wc_seq ?_
      refine wc_region ?_   -- region 8
      refine wl_det rfl rfl (det_load rfl (ms (ms (ms m0))) (by rfl) na31 us31) rfl ?_
      refine wl_det rfl rfl (det_assign rfl) rfl ?_
      refine wl_nil ?_
      refine pn_then ?_
      refine wc_ret ?_
      replace h := Option.some.inj h
      subst h
      refine pn_retM (rs (rs (rs (rs (rs (rs r0)))))) ?_
      refine pn_ret (vs := [_]) rfl ⟨rfl, trivial⟩ ⟨A14_0, s14.length, c14_0, rfl, rfl, rfl⟩ (fun _ h => h.to ⟨_, (rs (rs (rs (rs r0)))), trivial⟩ trivial)
def Q_link_Receive (r : GEndpoint × (List Int) × Bool) : Value → List Ent → List Fact → Prop := fun v θ κ => ∃ (pA0 : Option Addr), ∃ (pn0 : Nat), ∃ (pc0 : Nat), ∃ (pA1 : Option Addr), ∃ (pn1 : Nat), ∃ (pc1 : Nat), v = .tuple #[.agg #[.slice pA0 pn0 pc0, .int .i64 r.1.Acked, .int .i64 r.1.Got], .slice pA1 pn1 pc1, .bool r.2.2] ∧ θ = [eS (lSlice (lInt .u8)) 25 pA0 pn0 pc0 r.1.Out, eS (lInt .u8) 5 pA1 pn1 pc1 r.2.1] ∧ κ = []
set_option maxHeartbeats 4000000 in
set_option maxRecDepth 100000 in
theorem W_link_Receive (a0 : GEndpoint) (a1 : GPacket) (A0 : Option Addr) (n0 : Nat) (c0 : Nat) (A3 : Option Addr) (n3 : Nat) (c3 : Nat) (r : GEndpoint × (List Int) × Bool) (h : link_Receive a0 a1 = some r) : Spec Try.prog 7 [.agg #[.slice A0 n0 c0, .int .i64 a0.Acked, .int .i64 a0.Got], .agg #[.int .i64 a1.Party, .bool a1.Down, .int .i64 a1.Number, .int .i64 a1.Ack, .slice A3 n3 c3]] [] [fV (lSlice (lSlice (lInt .u8))) (.slice A0 n0 c0) a0.Out, fV (lSlice (lInt .u8)) (.slice A3 n3 c3) a1.Data] (Q_link_Receive r) := by
  unfold link_Receive at h
  refine spec_of (σ := [(0, _), (1, _)]) Try.func7 rfl rfl rfl rfl ?_
  intro C
  refine wc_know (fun _ h => h.lenF m0) (fun e => ?_)
  subst e
  refine wc_know (fun _ h => h.lenF (ms m0)) (fun e => ?_)
  subst e
  refine wc_seq ?_
  refine wc_region ?_   -- region 0
  refine wl_act (act_box (cs := [_, _, _]) rfl rfl) rfl rfl rfl ?_
  rintro _ _ _ ⟨b0_0, rfl, rfl, rfl⟩
  refine wl_act (act_box (cs := [_, _, _, _, _]) rfl rfl) rfl rfl rfl ?_
  rintro _ _ _ ⟨b0_1, rfl, rfl, rfl⟩
  refine wl_act (act_alloc (cs := [_, _, _]) zr24 rfl) rfl rfl rfl ?_
  rintro _ _ _ ⟨b0_2, rfl, rfl, rfl⟩
  refine wl_det rfl rfl (det_assign rfl) rfl ?_
  refine wl_det rfl rfl (det_assign rfl) rfl ?_
  refine wl_nil ?_
  refine pn_then ?_
  refine wc_seq ?_
  refine wc_region ?_   -- region 1
  refine wl_det rfl rfl (det_loadN (cells := [_, _, _]) rfl (ms (ms m0)) (by rfl) ag24 sz24) rfl ?_
  obtain ⟨r1_1, hr1_1, h⟩ := bind_some h
  refine wl_act (act_callS (cap := []) (W_link_Valid a0 A0 a0.Out.length c0 r1_1 hr1_1) rfl rfl rfl bd16 rfl ⟨m0, trivial⟩) rfl rfl rfl ?_
  rintro _ _ _ ⟨_, _, ⟨rfl, rfl, rfl⟩, rfl, rfl⟩
  dsimp only [List.nil_append, List.cons_append]
  refine wl_det rfl rfl (det_assign rfl) rfl ?_
  refine wl_nil ?_
  refine pn_then ?_
  refine wc_seq ?_
  refine wc_region ?_   -- region 2
  refine wl_det rfl rfl (det_loadN (cells := [_, _, _]) rfl (ms (ms m0)) (by rfl) ag24 sz24) rfl ?_
  obtain ⟨r2_1, hr2_1, h⟩ := bind_some h
  refine wl_act (act_callS (cap := []) (W_link_copied a0 A0 a0.Out.length c0 r2_1 hr2_1) rfl rfl rfl bd17 rfl ⟨m0, trivial⟩) rfl rfl rfl ?_
  rintro _ _ _ ⟨_, _, ⟨y2_1A0, y2_1n0, y2_1c0, rfl, rfl, rfl⟩, rfl, rfl⟩
  dsimp only [List.nil_append, List.cons_append]
  refine wl_know (fun _ h => h.lenO m0) (fun e => ?_)
  subst e
  refine wl_act0 (act_store (cells := [_, _, _]) (cs' := [_, _, _]) rfl rfl rfl (ss (ss (ss s0))) (by rfl) (of_decide_eq_true rfl) sz24 ⟨rfl, rfl, rfl, trivial⟩) rfl rfl ?_
  rintro _ _ _ ⟨rfl, rfl⟩
  refine wl_nil ?_
  refine pn_then ?_
  refine wc_seq ?_
  refine wc_seq ?_
  refine wc_region ?_   -- region 3
  refine wl_det rfl rfl (det_move rfl) rfl ?_
  refine wl_det rfl rfl (det_not rfl) rfl ?_
  refine wl_det rfl rfl (det_move rfl) rfl ?_
  refine wl_way (!r1_1) ((!r1_1) || (decide (4096 < a1.Number))) 4 18 (fun hg => ?_) (fun hg => ?_) ?_
  · have hg3_6 := hg
    refine wl_off rfl rfl rfl rfl rfl hg3_6 rfl ?_
    refine wl_off rfl rfl rfl rfl rfl hg3_6 rfl ?_
    refine wl_off rfl rfl rfl rfl rfl hg3_6 rfl ?_
    refine wl_det rfl rfl (det_or_on (r := (decide (4096 < a1.Number))) rfl rfl rfl hg3_6) rfl ?_
    exact wl_nil (pn_qnE (ext_cons rfl (ext_skip rfl (ext_skip rfl (ext_skip rfl (ext_skip rfl ext_refl))))) (fun _ h => h))
  · have hg3_6a := hg
    refine wl_on rfl rfl rfl rfl hg3_6a ?_
    refine wl_det rfl rfl (det_field rfl fd27_2 rfl) rfl ?_
    refine wl_on rfl rfl rfl rfl hg3_6a ?_
    refine wl_det rfl rfl (det_load rfl (ms (ms m0)) (by rfl) na3 us3) rfl ?_
    refine wl_on rfl rfl rfl rfl hg3_6a ?_
    refine wl_det rfl rfl (det_gtr rfl rfl) rfl ?_
    refine wl_det rfl rfl (det_or_off rfl rfl rfl hg3_6a) rfl ?_
    exact wl_nil (pn_qnE (ext_cons rfl (ext_skip rfl (ext_skip rfl (ext_skip rfl (ext_skip rfl ext_refl))))) (fun _ h => h))
  refine wl_nil ?_
  refine pn_then ?_
  refine wc_cond rfl (fun cd9 => ?_) (fun cd9 => ?_)
  · have h := ifT h cd9
    refine wc_seq ?_
    refine wc_region ?_   -- region 4
    refine wl_det rfl rfl (det_loadN (cells := [_, _, _]) rfl (ms (ms (ms m0))) (by rfl) ag24 sz24) rfl ?_
    refine wl_act0 (act_store (cells := [_, _, _]) (cs' := [_, _, _]) rfl rfl rfl (ss s0) (by rfl) (of_decide_eq_true rfl) sz24 ⟨rfl, rfl, rfl, trivial⟩) rfl rfl ?_
    rintro _ _ _ ⟨rfl, rfl⟩
    refine wl_det rfl rfl (det_assign rfl) rfl ?_
    refine wl_det rfl rfl (det_assign rfl) rfl ?_
    refine wl_nil ?_
    refine pn_then ?_
    refine wc_ret ?_
    refine pr_then ?_
    refine pn_st (fun _ h => h.zeroS (lInt .u8) 5 none) ?_
    replace h := Option.some.inj h
    subst h
    refine pn_ret (vs := [_, _, _]) rfl ⟨⟨_, _, [_, _, _], rfl, (ms (ms m0)), ag24, sz24, rfl⟩, rfl, rfl, trivial⟩ ⟨y2_1A0, r2_1.Out.length, y2_1c0, none, 0, 0, rfl, rfl, rfl⟩ (fun _ h => h.to ⟨_, (rs r0), ⟨_, r0, trivial⟩⟩ trivial)
  · have h := ifF h cd9
    refine wc_skip ?_
    refine pn_then ?_
    obtain ⟨q12, h, ho12⟩ := bind_some h
    refine wc_meetG (G := Int × Unit) (fun (s12, _) => s12 = q12) (fun (_, _) => [(2, .pointer (some ⟨b0_0, 0, none⟩)), (3, .pointer (some ⟨b0_1, 0, none⟩)), (4, .pointer (some ⟨b0_2, 0, none⟩))]) (fun (s12, _) => [eBlk b0_0 24 [.slice y2_1A0 r2_1.Out.length y2_1c0, .int .i64 s12, .int .i64 r2_1.Got], eS (lSlice (lInt .u8)) 25 y2_1A0 r2_1.Out.length y2_1c0 r2_1.Out, eBlk b0_1 27 [.int .i64 a1.Party, .bool a1.Down, .int .i64 a1.Number, .int .i64 a1.Ack, .slice A3 a1.Data.length c3], eBlk b0_2 24 [.slice none 0 0, .int .i64 0, .int .i64 0]]) (fun (_, _) => [fV (lSlice (lInt .u8)) (.slice A3 a1.Data.length c3) a1.Data]) ?_ ?_
    · refine wc_seq ?_
      refine wc_region ?_   -- region 5
      refine wl_det rfl rfl (det_field rfl fd27_3 rfl) rfl ?_
      refine wl_det rfl rfl (det_load rfl (ms (ms m0)) (by rfl) na3 us3) rfl ?_
      refine wl_det rfl rfl (det_field rfl fd24_1 rfl) rfl ?_
      refine wl_det rfl rfl (det_load rfl (ms (ms (ms m0))) (by rfl) na3 us3) rfl ?_
      refine wl_det rfl rfl (det_gtr rfl rfl) rfl ?_
      refine wl_det rfl rfl (det_move rfl) rfl ?_
      refine wl_way (decide (r2_1.Acked < a1.Ack)) ((decide (r2_1.Acked < a1.Ack)) && (decide (a1.Ack ≤ (r2_1.Out.length : Int)))) 7 32 (fun hg => ?_) (fun hg => ?_) ?_
      · have hg5_12 := hg
        refine wl_on rfl rfl rfl rfl hg5_12 ?_
        refine wl_det rfl rfl (det_field rfl fd27_3 rfl) rfl ?_
        refine wl_on rfl rfl rfl rfl hg5_12 ?_
        refine wl_det rfl rfl (det_load rfl (ms (ms m0)) (by rfl) na3 us3) rfl ?_
        refine wl_on rfl rfl rfl rfl hg5_12 ?_
        refine wl_det rfl rfl (det_field rfl fd24_0 rfl) rfl ?_
        refine wl_on rfl rfl rfl rfl hg5_12 ?_
        refine wl_det rfl rfl (det_load rfl (ms (ms (ms m0))) (by rfl) na22 us22) rfl ?_
        refine wl_on rfl rfl rfl rfl hg5_12 ?_
        refine wl_det rfl rfl (det_len rfl un22) rfl ?_
        refine wl_on rfl rfl rfl rfl hg5_12 ?_
        refine wl_det rfl rfl (det_leq rfl rfl) rfl ?_
        refine wl_det rfl rfl (det_and_on rfl rfl rfl hg5_12) rfl ?_
        exact wl_nil (pn_qnE (ext_cons rfl (ext_skip rfl (ext_skip rfl (ext_skip rfl (ext_skip rfl (ext_skip rfl (ext_skip rfl (ext_skip rfl ext_refl)))))))) (fun _ h => h))
      · have hg5_12a := hg
        refine wl_off rfl rfl rfl rfl rfl hg5_12a rfl ?_
        refine wl_off rfl rfl rfl rfl rfl hg5_12a rfl ?_
        refine wl_off rfl rfl rfl rfl rfl hg5_12a rfl ?_
        refine wl_off rfl rfl rfl rfl rfl hg5_12a rfl ?_
        refine wl_off rfl rfl rfl rfl rfl hg5_12a rfl ?_
        refine wl_off rfl rfl rfl rfl rfl hg5_12a rfl ?_
        refine wl_det rfl rfl (det_and_off (q := (decide (a1.Ack ≤ (r2_1.Out.length : Int)))) rfl rfl rfl hg5_12a) rfl ?_
        exact wl_nil (pn_qnE (ext_cons rfl (ext_skip rfl (ext_skip rfl (ext_skip rfl (ext_skip rfl (ext_skip rfl (ext_skip rfl (ext_skip rfl ext_refl)))))))) (fun _ h => h))
      refine wl_nil ?_
      refine pn_then ?_
      refine wc_cond rfl (fun cd15 => ?_) (fun cd15 => ?_)
      · have h := ifT h cd15
        refine wc_region ?_   -- region 6
        refine wl_det rfl rfl (det_field rfl fd27_3 rfl) rfl ?_
        refine wl_det rfl rfl (det_load rfl (ms (ms m0)) (by rfl) na3 us3) rfl ?_
        refine wl_det rfl rfl (det_field rfl fd24_1 rfl) rfl ?_
        refine wl_act0 (act_store (cells := [_]) (cs' := [_, _, _]) rfl rfl rfl (ss (ss (ss s0))) (by rfl) (of_decide_eq_true rfl) sz3 ⟨rfl, trivial⟩) rfl rfl ?_
        rintro _ _ _ ⟨rfl, rfl⟩
        refine wl_nil ?_
        replace h := Option.some.inj h
        subst h
        exact pn_meetG (a1.Ack, ()) rfl ⟨rfl, rfl, rfl, trivial⟩ (fun _ h => h.to ⟨_, (rs (rs (rs r0))), ⟨_, r0, ⟨_, (rs r0), ⟨_, r0, trivial⟩⟩⟩⟩ ⟨(ms m0), trivial⟩)
      · have h := ifF h cd15
        refine wc_skip ?_
        replace h := Option.some.inj h
        subst h
        exact pn_meetG (r2_1.Acked, ()) rfl ⟨rfl, rfl, rfl, trivial⟩ (fun _ h => h.to ⟨_, (rs (rs (rs r0))), ⟨_, r0, ⟨_, (rs r0), ⟨_, r0, trivial⟩⟩⟩⟩ ⟨(ms m0), trivial⟩)
    rintro ⟨s12, _⟩ e12
    dsimp only at e12 ⊢
    subst e12
    have h := ho12
    refine wc_seq ?_
    refine wc_seq ?_
    refine wc_region ?_   -- region 7
    refine wl_det rfl rfl (det_field rfl fd27_2 rfl) rfl ?_
    refine wl_det rfl rfl (det_load rfl (ms (ms m0)) (by rfl) na3 us3) rfl ?_
    refine wl_det rfl rfl (det_field rfl fd24_2 rfl) rfl ?_
    refine wl_det rfl rfl (det_load rfl m0 (by rfl) na3 us3) rfl ?_
    refine wl_det rfl rfl (det_add rfl rfl) rfl ?_
    refine wl_det rfl rfl (det_neq rfl rfl) rfl ?_
    refine wl_nil ?_
    refine pn_then ?_
    refine wc_cond rfl (fun cd20 => ?_) (fun cd20 => ?_)
    · have h := ifT h cd20
      refine wc_seq ?_
      refine wc_region ?_   -- region 8
      refine wl_det rfl rfl (det_loadN (cells := [_, _, _]) rfl m0 (by rfl) ag24 sz24) rfl ?_
      refine wl_act0 (act_store (cells := [_, _, _]) (cs' := [_, _, _]) rfl rfl rfl (ss (ss (ss s0))) (by rfl) (of_decide_eq_true rfl) sz24 ⟨rfl, rfl, rfl, trivial⟩) rfl rfl ?_
      rintro _ _ _ ⟨rfl, rfl⟩
      refine wl_det rfl rfl (det_assign rfl) rfl ?_
      refine wl_det rfl rfl (det_assign rfl) rfl ?_
      refine wl_nil ?_
      refine pn_then ?_
      refine wc_ret ?_
      refine pr_then ?_
      refine pn_st (fun _ h => h.zeroS (lInt .u8) 5 none) ?_
      replace h := Option.some.inj h
      subst h
      refine pn_ret (vs := [_, _, _]) rfl ⟨⟨_, _, [_, _, _], rfl, (ms (ms (ms (ms m0)))), ag24, sz24, rfl⟩, rfl, rfl, trivial⟩ ⟨y2_1A0, r2_1.Out.length, y2_1c0, none, 0, 0, rfl, rfl, rfl⟩ (fun _ h => h.to ⟨_, (rs (rs r0)), ⟨_, r0, trivial⟩⟩ trivial)
    · have h := ifF h cd20
      refine wc_skip ?_
      refine pn_then ?_
      refine wc_seq ?_
      refine wc_region ?_   -- region 9
      refine wl_det rfl rfl (det_field rfl fd27_2 rfl) rfl ?_
      refine wl_det rfl rfl (det_load rfl (ms (ms m0)) (by rfl) na3 us3) rfl ?_
      refine wl_det rfl rfl (det_field rfl fd24_2 rfl) rfl ?_
      refine wl_act0 (act_store (cells := [_]) (cs' := [_, _, _]) rfl rfl rfl s0 (by rfl) (of_decide_eq_true rfl) sz3 ⟨rfl, trivial⟩) rfl rfl ?_
      rintro _ _ _ ⟨rfl, rfl⟩
      refine wl_nil ?_
      refine pn_then ?_
      refine wc_seq ?_
      refine dx_region 4 [[], [], [1], [1, 2], [0, 1, 2, 3], [0, 1, 2, 3, 4], [0, 1, 2, 3, 4, 5]] mixed (ord := (.det 0 (.det 1 (.det 2 (.alt 3 .done .dead))))) (by kernel_rfl) ?_   -- region 10
      refine hx_det rfl rfl rfl nofun (det_loadN (cells := [_, _, _]) rfl m0 (by rfl) ag24 sz24) rfl ?_
      refine hx_det rfl rfl rfl nofun (det_field rfl fd27_4 rfl) rfl ?_
      refine hx_det rfl rfl rfl nofun (det_load rfl (ms (ms m0)) (by rfl) na25 us25) rfl ?_
      obtain ⟨r10_3, hr10_3, h⟩ := bind_some h
      refine hx_act rfl rfl rfl (act_callS (cap := []) (W_slices_Clone_s_byte_byte a1.Data A3 a1.Data.length c3 r10_3 hr10_3) rfl rfl rfl bd18 rfl ⟨m0, trivial⟩) rfl (by rintro _ _ _ ⟨_, _, _, rfl, rfl⟩; first | exact ⟨_, _, rfl, rfl⟩ | exact ⟨_, [], rfl, rfl⟩) ?_
      rintro _ _ _ ⟨_, _, ⟨y10_3A0, y10_3n0, y10_3c0, rfl, rfl, rfl⟩, rfl, rfl⟩
      dsimp only [List.nil_append, List.cons_append]
      refine hx_end ?_
      refine wl_know (fun _ h => h.lenO m0) (fun e => ?_)
      subst e
      refine wl_act0 (act_store (cells := [_, _, _]) (cs' := [_, _, _]) rfl rfl rfl (ss (ss (ss (ss s0)))) (by rfl) (of_decide_eq_true rfl) sz24 ⟨rfl, rfl, rfl, trivial⟩) rfl rfl ?_
      rintro _ _ _ ⟨rfl, rfl⟩
      refine wl_det rfl rfl (det_assign rfl) rfl ?_
      refine wl_det rfl rfl (det_assign rfl) rfl ?_
      refine wl_nil ?_
      refine pn_then ?_
      refine wc_ret ?_
      replace h := Option.some.inj h
      subst h
      refine pn_ret (vs := [_, _, _]) rfl ⟨⟨_, _, [_, _, _], rfl, (ms (ms (ms (ms m0)))), ag24, sz24, rfl⟩, rfl, rfl, trivial⟩ ⟨y2_1A0, r2_1.Out.length, y2_1c0, y10_3A0, r10_3.length, y10_3c0, rfl, rfl, rfl⟩ (fun _ h => h.to ⟨_, (rs (rs r0)), ⟨_, r0, trivial⟩⟩ trivial)
def Q_link_Reply (r : GPacket) : Value → List Ent → List Fact → Prop := fun v θ κ => ∃ (pA0 : Option Addr), ∃ (pn0 : Nat), ∃ (pc0 : Nat), v = .agg #[.int .i64 r.Party, .bool r.Down, .int .i64 r.Number, .int .i64 r.Ack, .slice pA0 pn0 pc0] ∧ θ = [eS (lInt .u8) 5 pA0 pn0 pc0 r.Data] ∧ κ = []
theorem plains_link_Reply {r : GPacket} : ∀ v θ κ, Q_link_Reply r v θ κ → Plains θ := by
  rintro _ _ _ ⟨_, _, _, rfl, rfl, rfl⟩
  exact ⟨plain_eS, trivial⟩
set_option maxHeartbeats 4000000 in
set_option maxRecDepth 100000 in
theorem W_link_Reply (a0 : GEndpoint) (a1 : Int) (a2 : Bool) (A0 : Option Addr) (n0 : Nat) (c0 : Nat) (r : GPacket) (h : link_Reply a0 a1 a2 = some r) : Spec Try.prog 24 [.agg #[.slice A0 n0 c0, .int .i64 a0.Acked, .int .i64 a0.Got], .int .i64 a1, .bool a2] [] [fV (lSlice (lSlice (lInt .u8))) (.slice A0 n0 c0) a0.Out] (Q_link_Reply r) := by
  unfold link_Reply at h
  refine spec_of (σ := [(0, _), (1, _), (2, _)]) Try.func24 rfl rfl rfl rfl ?_
  intro C
  refine wc_know (fun _ h => h.lenF m0) (fun e => ?_)
  subst e
  refine wc_seq ?_
  refine wc_region ?_   -- region 0
  refine wl_act (act_box (cs := [_, _, _]) rfl rfl) rfl rfl rfl ?_
  rintro _ _ _ ⟨b0_0, rfl, rfl, rfl⟩
  refine wl_act (act_alloc (cs := [_, _, _, _, _]) zr27 rfl) rfl rfl rfl ?_
  rintro _ _ _ ⟨b0_1, rfl, rfl, rfl⟩
  refine wl_nil ?_
  refine pn_then ?_
  refine wc_seq ?_
  refine wc_region ?_   -- region 1
  refine wl_det rfl rfl (det_move rfl) rfl ?_
  refine wl_det rfl rfl (det_move rfl) rfl ?_
  refine wl_det rfl rfl (det_field rfl fd24_2 rfl) rfl ?_
  refine wl_det rfl rfl (det_load rfl (ms m0) (by rfl) na3 us3) rfl ?_
  refine wl_det rfl rfl (det_build (cs := [_, _, _, _, _]) pl27 zr27 rfl rfl (by rfl)) rfl ?_
  refine wl_act0 (act_store (cells := [_, _, _, _, _]) (cs' := [_, _, _, _, _]) rfl rfl rfl s0 (by rfl) (of_decide_eq_true rfl) sz27 ⟨rfl, rfl, rfl, rfl, rfl, trivial⟩) rfl rfl ?_
  rintro _ _ _ ⟨rfl, rfl⟩
  refine wl_nil ?_
  refine pn_then ?_
  refine wc_ret ?_
  refine pn_st (fun _ h => h.zeroS (lInt .u8) 5 none) ?_
  replace h := Option.some.inj h
  subst h
  refine pn_ret (vs := [_]) rfl ⟨⟨_, _, [_, _, _, _, _], rfl, (ms m0), ag27, sz27, rfl⟩, trivial⟩ ⟨none, 0, 0, rfl, rfl, rfl⟩ (fun _ h => h.to ⟨_, r0, trivial⟩ trivial)
def Q_treatylaw42_world_deliver_o_o_o_o (Ba0 : Nat) (r : Gworld) : Value → List Ent → List Fact → Prop := fun v θ κ => ∃ (pA0 : Option Addr), ∃ (pn0 : Nat), ∃ (pc0 : Nat), ∃ (pA1 : Option Addr), ∃ (pn1 : Nat), ∃ (pc1 : Nat), ∃ (pA2 : Option Addr), ∃ (pn2 : Nat), ∃ (pc2 : Nat), ∃ (pA3 : Option Addr), ∃ (pn3 : Nat), ∃ (pc3 : Nat), v = .tuple #[] ∧ θ = [eBlk Ba0 43 [.slice pA0 pn0 pc0, .int .i64 r.a.Acked, .int .i64 r.a.Got, .slice pA1 pn1 pc1, .int .i64 r.b.Acked, .int .i64 r.b.Got, .slice pA2 pn2 pc2, .slice pA3 pn3 pc3, .bool r.ok], eS (lSlice (lInt .u8)) 25 pA0 pn0 pc0 r.a.Out, eS (lSlice (lInt .u8)) 25 pA1 pn1 pc1 r.b.Out, eS lGPacket 27 pA2 pn2 pc2 r.wire, eS (lSlice (lInt .u8)) 25 pA3 pn3 pc3 r.got] ∧ κ = []
set_option maxHeartbeats 4000000 in
set_option maxRecDepth 100000 in
theorem W_treatylaw42_world_deliver_o_o_o_o (a0 : Gworld) (a1 : Int) (Ba0 : Nat) (A1 : Option Addr) (n1 : Nat) (c1 : Nat) (A4 : Option Addr) (n4 : Nat) (c4 : Nat) (A7 : Option Addr) (n7 : Nat) (c7 : Nat) (A10 : Option Addr) (n10 : Nat) (c10 : Nat) (r : Gworld) (h : treatylaw42_world_deliver_o_o_o_o a0 a1 = some r) : Spec Try.prog 15 [.pointer (some ⟨Ba0, 0, none⟩), .int .i64 a1] [eBlk Ba0 43 [.slice A1 n1 c1, .int .i64 a0.a.Acked, .int .i64 a0.a.Got, .slice A4 n4 c4, .int .i64 a0.b.Acked, .int .i64 a0.b.Got, .slice A7 n7 c7, .slice A10 n10 c10, .bool a0.ok], eS (lSlice (lInt .u8)) 25 A1 n1 c1 a0.a.Out, eS (lSlice (lInt .u8)) 25 A4 n4 c4 a0.b.Out, eS lGPacket 27 A7 n7 c7 a0.wire, eS (lSlice (lInt .u8)) 25 A10 n10 c10 a0.got] [] (Q_treatylaw42_world_deliver_o_o_o_o Ba0 r) := by
  unfold treatylaw42_world_deliver_o_o_o_o at h
  refine spec_of (σ := [(0, _), (1, _)]) Try.func15 rfl rfl rfl rfl ?_
  intro C
  refine wc_know (fun _ h => h.lenO (ms m0)) (fun e => ?_)
  subst e
  refine wc_know (fun _ h => h.lenO (ms (ms m0))) (fun e => ?_)
  subst e
  refine wc_know (fun _ h => h.lenO (ms (ms (ms m0)))) (fun e => ?_)
  subst e
  refine wc_know (fun _ h => h.lenO (ms (ms (ms (ms m0))))) (fun e => ?_)
  subst e
  refine wc_seq ?_
  refine wc_region ?_   -- region 0
  refine wl_det rfl rfl (det_move rfl) rfl ?_
  refine wl_det rfl rfl (det_nilCheckB rfl) rfl ?_
  refine wl_det rfl rfl (det_field rfl fd43_2 rfl) rfl ?_
  refine wl_det rfl rfl (det_load rfl m0 (by rfl) na31 us31) rfl ?_
  refine wl_det rfl rfl (det_move rfl) rfl ?_
  obtain ⟨k0_5, h⟩ := chk_some h
  refine wl_det rfl rfl (det_indexO rfl rfl (ms (ms (ms m0))) k0_5 un31 sz27) rfl ?_
  refine wl_act (act_loadX (G := Option Addr × Nat) (off := 0) (cnt := 5) (cells := fun g => [.int .i64 (ix a0.wire a1).Party, .bool (ix a0.wire a1).Down, .int .i64 (ix a0.wire a1).Number, .int .i64 (ix a0.wire a1).Ack, .slice g.1 (ix a0.wire a1).Data.length g.2]) (fs := fun g => [fV (lSlice (lInt .u8)) (.slice g.1 (ix a0.wire a1).Data.length g.2) (ix a0.wire a1).Data]) (val := fun g => .agg #[.int .i64 (ix a0.wire a1).Party, .bool (ix a0.wire a1).Down, .int .i64 (ix a0.wire a1).Number, .int .i64 (ix a0.wire a1).Ack, .slice g.1 (ix a0.wire a1).Data.length g.2]) rfl (ms (ms (ms m0))) k0_5 rfl (by rfl) (fun _ _ _ h => by obtain ⟨A0, c0, e, r⟩ := viewGPacket h; exact ⟨(A0, c0), e, r⟩) (fun g => (loaded_n (cells := [_, _, _, _, _]) ag27 sz27))) rfl rfl rfl ?_
  rintro _ _ _ ⟨⟨A0_6, c0_6⟩, rfl, rfl, rfl⟩
  refine wl_act (act_alloc (cs := [_, _, _, _, _]) zr27 rfl) rfl rfl rfl ?_
  rintro _ _ _ ⟨b0_7, rfl, rfl, rfl⟩
  refine wl_act0 (act_store (cells := [_, _, _, _, _]) (cs' := [_, _, _, _, _]) rfl rfl rfl s0 (by rfl) (of_decide_eq_true rfl) sz27 ⟨rfl, rfl, rfl, rfl, rfl, trivial⟩) rfl rfl ?_
  rintro _ _ _ ⟨rfl, rfl⟩
  refine wl_nil ?_
  refine pn_then ?_
  refine wc_seq ?_
  refine wc_seq ?_
  refine wc_region ?_   -- region 1
  refine wl_det rfl rfl (det_field rfl fd27_1 rfl) rfl ?_
  refine wl_det rfl rfl (det_load rfl m0 (by rfl) na4 us4) rfl ?_
  refine wl_det rfl rfl (det_not rfl) rfl ?_
  refine wl_nil ?_
  refine pn_then ?_
  refine wc_cond rfl (fun cd5 => ?_) (fun cd5 => ?_)
  · have h := ifT h cd5
    refine wc_seq ?_
    refine wc_st (fun _ h => h.shutS (rs (rs r0))) ?_
    refine dx_regionZ (Z := St C [_, _, _, _] [_, _]) 14 [[], [], [1], [1, 2], [1, 2, 3], [], [1, 2, 3, 4, 5], [1, 2, 3, 4, 5, 6], [1, 2, 3, 4, 5, 6, 7], [1, 2, 3, 4, 5, 6, 7], [1, 2, 3, 4, 5, 6, 7], [0, 1, 2, 3, 4, 5, 6, 7, 8], [0, 1, 2, 3, 4, 5, 6, 7, 8, 11], [0, 1, 2, 3, 4, 5, 6, 7, 8, 11, 12]] mixed (ord := (.det 0 (.det 1 (.det 2 (.det 3 (.det 4 (.det 5 (.alt 6 (.det 7 (.det 8 (.det 9 (.det 10 (.det 11 (.det 12 (.alt 13 .done .dead))))))) .dead)))))))) (by kernel_rfl) (fun _ h => h.to ⟨_, r0, ⟨_, (rs r0), ⟨_, (rs r0), ⟨_, (rs r0), trivial⟩⟩⟩⟩ ⟨m0, ⟨(ms m0), trivial⟩⟩) ?_   -- region 2
    refine hx_det rfl rfl rfl nofun (det_move rfl) rfl ?_
    refine hx_det rfl rfl rfl nofun (det_move rfl) rfl ?_
    refine hx_det rfl rfl rfl nofun (det_nilCheckB rfl) rfl ?_
    refine hx_det rfl rfl rfl nofun (det_field rfl fd43_0 rfl) rfl ?_
    refine hx_now rfl rfl rfl nofun rfl (det_loadN (cells := [_, _, _]) rfl (ms m0) (by rfl) ag24 sz24) rfl ?_
    refine hx_det rfl rfl rfl nofun (det_loadN (cells := [_, _, _, _, _]) rfl m0 (by rfl) ag27 sz27) rfl ?_
    obtain ⟨r2_6, hr2_6, h⟩ := bind_some h
    refine hx_mut rfl rfl rfl (act_callS (cap := []) (W_link_Receive a0.a (ix a0.wire a1) A1 a0.a.Out.length c1 A0_6 (ix a0.wire a1).Data.length c0_6 r2_6 hr2_6) rfl rfl rfl bd7 rfl ⟨m0, ⟨(ms m0), trivial⟩⟩) rfl (by rintro _ _ _ ⟨_, _, ⟨y2_6A0, y2_6n0, y2_6c0, y2_6A1, y2_6n1, y2_6c1, rfl, rfl, rfl⟩, rfl, rfl⟩ w hs; exact hs.to ⟨_, (rs (rs r0)), ⟨_, (rs (rs (rs r0))), ⟨_, (rs (rs (rs r0))), ⟨_, (rs (rs (rs r0))), trivial⟩⟩⟩⟩ ⟨m0, ⟨(ms m0), trivial⟩⟩) ?_
    rintro _ _ _ ⟨_, _, ⟨y2_6A0, y2_6n0, y2_6c0, y2_6A1, y2_6n1, y2_6c1, rfl, rfl, rfl⟩, rfl, rfl⟩
    dsimp only [List.nil_append, List.cons_append]
    refine hx_det rfl rfl rfl nofun (det_move rfl) rfl ?_
    refine hx_det rfl rfl rfl nofun (det_extract rfl rfl) rfl ?_
    refine hx_det rfl rfl rfl nofun (det_extract rfl rfl) rfl ?_
    refine hx_det rfl rfl rfl nofun (det_extract rfl rfl) rfl ?_
    refine hx_det rfl rfl rfl nofun (det_nilCheckB rfl) rfl ?_
    refine hx_det rfl rfl rfl nofun (det_field rfl fd43_0 rfl) rfl ?_
    refine hx_mut0 rfl rfl rfl (act_store (cells := [_, _, _]) (cs' := [_, _, _, _, _, _, _, _, _]) rfl rfl rfl (ss (ss (ss s0))) (by rfl) (of_decide_eq_true rfl) sz24 ⟨rfl, rfl, rfl, trivial⟩) (by rintro _ _ _ ⟨rfl, rfl⟩ w hs; exact hs.to ⟨_, (rs (rs r0)), ⟨_, (rs (rs (rs r0))), ⟨_, (rs (rs (rs r0))), ⟨_, (rs (rs (rs r0))), trivial⟩⟩⟩⟩ ⟨m0, ⟨(ms m0), trivial⟩⟩) ?_
    rintro _ _ _ ⟨rfl, rfl⟩
    refine hx_end ?_
    refine wl_know (fun _ h => h.lenO m0) (fun e => ?_)
    subst e
    refine wl_know (fun _ h => h.lenO (ms m0)) (fun e => ?_)
    subst e
    refine wl_nil ?_
    refine pn_then ?_
    refine wc_ret ?_
    refine pr_then ?_
    replace h := Option.some.inj h
    subst h
    refine pn_ret (vs := []) rfl trivial ⟨y2_6A0, r2_6.1.Out.length, y2_6c0, A4, a0.b.Out.length, c4, A7, a0.wire.length, c7, A10, a0.got.length, c10, rfl, rfl, rfl⟩ (fun _ h => h.to ⟨_, (rs (rs (rs r0))), ⟨_, r0, ⟨_, (rs (rs r0)), ⟨_, (rs (rs r0)), ⟨_, (rs (rs r0)), trivial⟩⟩⟩⟩⟩ trivial)
  · have h := ifF h cd5
    refine wc_skip ?_
    refine pn_then ?_
    obtain ⟨q8, h, ho8⟩ := bind_some h
    refine wc_meetG (G := ((List (List Int)) × Int × Int × (List Int) × Bool) × Nat × Option Addr × Nat × Nat × Option Addr × Nat × Nat × Unit) (fun (s8, _, _, _, _, _, _, _, _) => s8 = q8) (fun (s8, B8_0, _, _, _, A8_4, n8_4, c8_4, _) => [(0, .pointer (some ⟨Ba0, 0, none⟩)), (5, .pointer (some ⟨B8_0, 0, none⟩)), (6, .slice A8_4 n8_4 c8_4), (7, .bool s8.2.2.2.2)]) (fun (s8, B8_0, A8_1, n8_1, c8_1, A8_4, n8_4, c8_4, _) => [eBlk Ba0 43 [.slice A1 a0.a.Out.length c1, .int .i64 a0.a.Acked, .int .i64 a0.a.Got, .slice A4 a0.b.Out.length c4, .int .i64 a0.b.Acked, .int .i64 a0.b.Got, .slice A7 a0.wire.length c7, .slice A10 a0.got.length c10, .bool a0.ok], eS (lSlice (lInt .u8)) 25 A1 a0.a.Out.length c1 a0.a.Out, eS lGPacket 27 A7 a0.wire.length c7 a0.wire, eS (lSlice (lInt .u8)) 25 A10 a0.got.length c10 a0.got, eBlk B8_0 24 [.slice A8_1 n8_1 c8_1, .int .i64 s8.2.1, .int .i64 s8.2.2.1], eS (lSlice (lInt .u8)) 25 A8_1 n8_1 c8_1 s8.1, eS (lInt .u8) 5 A8_4 n8_4 c8_4 s8.2.2.2.1]) (fun (_, _, _, _, _, _, _, _, _) => [fV (lSlice (lSlice (lInt .u8))) (.slice A4 a0.b.Out.length c4) a0.b.Out]) ?_ ?_
    · refine wc_st (fun _ h => h.shutS (rs (rs (rs r0)))) ?_
      refine dx_regionZ (Z := St C [_, _, _, _, _] [_, _]) 13 [[], [0], [0, 1], [0, 1, 2], [], [0, 1, 2, 3, 4], [0, 1, 2, 3, 4, 5], [0, 1, 2, 3, 4, 5, 6], [0, 1, 2, 3, 4, 5, 6], [0, 1, 2, 3, 4, 5, 6], [], [0, 1, 2, 3, 4, 5, 6, 7, 10], [0, 1, 2, 3, 4, 5, 6, 7, 8, 10, 11], [0, 1, 2, 3, 4, 5, 6, 7, 8, 9, 10, 11, 12]] mixed (ord := (.det 0 (.det 1 (.det 2 (.det 3 (.det 4 (.alt 5 (.det 6 (.det 7 (.det 8 (.det 9 (.alt 10 (.alt 11 (.det 12 .done) .dead) .dead))))) (.alt 10 (.alt 5 (.det 6 (.det 7 (.det 8 (.det 9 (.alt 11 (.det 12 .done) .dead))))) .dead) .dead)))))))) (by kernel_rfl) (fun _ h => h.to ⟨_, r0, ⟨_, r0, ⟨_, r0, ⟨_, r0, ⟨_, r0, trivial⟩⟩⟩⟩⟩ ⟨m0, ⟨(ms m0), trivial⟩⟩) ?_   -- region 3
      refine hx_det rfl rfl rfl nofun (det_move rfl) rfl ?_
      refine hx_det rfl rfl rfl nofun (det_nilCheckB rfl) rfl ?_
      refine hx_det rfl rfl rfl nofun (det_field rfl fd43_1 rfl) rfl ?_
      refine hx_det rfl rfl rfl nofun (det_loadN (cells := [_, _, _]) rfl (ms m0) (by rfl) ag24 sz24) rfl ?_
      refine hx_det rfl rfl rfl nofun (det_loadN (cells := [_, _, _, _, _]) rfl m0 (by rfl) ag27 sz27) rfl ?_
      refine hx_or ?_ ?_
      · obtain ⟨r3_5, hr3_5, h⟩ := bind_some h
        refine hx_mut rfl rfl rfl (act_callS (cap := []) (W_link_Receive a0.b (ix a0.wire a1) A4 a0.b.Out.length c4 A0_6 (ix a0.wire a1).Data.length c0_6 r3_5 hr3_5) rfl rfl rfl bd7 rfl ⟨m0, ⟨(ms m0), trivial⟩⟩) rfl (by rintro _ _ _ ⟨_, _, ⟨y3_5A0, y3_5n0, y3_5c0, y3_5A1, y3_5n1, y3_5c1, rfl, rfl, rfl⟩, rfl, rfl⟩ w hs; exact hs.to ⟨_, (rs (rs r0)), ⟨_, (rs (rs r0)), ⟨_, (rs (rs r0)), ⟨_, (rs (rs r0)), ⟨_, (rs (rs r0)), trivial⟩⟩⟩⟩⟩ ⟨m0, ⟨(ms m0), trivial⟩⟩) ?_
        rintro _ _ _ ⟨_, _, ⟨y3_5A0, y3_5n0, y3_5c0, y3_5A1, y3_5n1, y3_5c1, rfl, rfl, rfl⟩, rfl, rfl⟩
        dsimp only [List.nil_append, List.cons_append]
        refine hx_det rfl rfl rfl nofun (det_move rfl) rfl ?_
        refine hx_det rfl rfl rfl nofun (det_extract rfl rfl) rfl ?_
        refine hx_det rfl rfl rfl nofun (det_extract rfl rfl) rfl ?_
        refine hx_det rfl rfl rfl nofun (det_extract rfl rfl) rfl ?_
        refine hx_mut rfl rfl rfl (act_alloc (cs := [_, _, _]) zr24 rfl) rfl (by rintro _ _ _ ⟨b3_10, rfl, rfl, rfl⟩ w hs; exact hs.to ⟨_, (rs (rs (rs r0))), ⟨_, (rs (rs (rs r0))), ⟨_, (rs (rs (rs r0))), ⟨_, (rs (rs (rs r0))), ⟨_, (rs (rs (rs r0))), trivial⟩⟩⟩⟩⟩ ⟨m0, ⟨(ms m0), trivial⟩⟩) ?_
        rintro _ _ _ ⟨b3_10, rfl, rfl, rfl⟩
        refine hx_mut0 rfl rfl rfl (act_store (cells := [_, _, _]) (cs' := [_, _, _]) rfl rfl rfl s0 (by rfl) (of_decide_eq_true rfl) sz24 ⟨rfl, rfl, rfl, trivial⟩) (by rintro _ _ _ ⟨rfl, rfl⟩ w hs; exact hs.to ⟨_, (rs (rs (rs r0))), ⟨_, (rs (rs (rs r0))), ⟨_, (rs (rs (rs r0))), ⟨_, (rs (rs (rs r0))), ⟨_, (rs (rs (rs r0))), trivial⟩⟩⟩⟩⟩ ⟨m0, ⟨(ms m0), trivial⟩⟩) ?_
        rintro _ _ _ ⟨rfl, rfl⟩
        refine hx_det rfl rfl rfl nofun (det_assign rfl) rfl ?_
        refine hx_end ?_
        refine wl_know (fun _ h => h.lenO (ms m0)) (fun e => ?_)
        subst e
        refine wl_know (fun _ h => h.lenO (ms (ms m0))) (fun e => ?_)
        subst e
        refine wl_det rfl rfl (det_assign rfl) rfl ?_
        refine wl_nil ?_
        replace h := Option.some.inj h
        subst h
        exact pn_meetG ((r3_5.1.Out, r3_5.1.Acked, r3_5.1.Got, r3_5.2.1, r3_5.2.2), b3_10, y3_5A0, r3_5.1.Out.length, y3_5c0, y3_5A1, r3_5.2.1.length, y3_5c1, ()) rfl ⟨rfl, rfl, rfl, rfl, trivial⟩ (fun _ h => h.to ⟨_, (rs (rs (rs (rs r0)))), ⟨_, (rs (rs (rs (rs r0)))), ⟨_, (rs (rs (rs (rs r0)))), ⟨_, (rs (rs (rs (rs r0)))), ⟨_, r0, ⟨_, r0, ⟨_, r0, trivial⟩⟩⟩⟩⟩⟩⟩ ⟨m0, trivial⟩)
      refine hx_or ?_ trivial
      refine hx_mut rfl rfl rfl (act_alloc (cs := [_, _, _]) zr24 rfl) rfl (by rintro _ _ _ ⟨b3_10, rfl, rfl, rfl⟩ w hs; exact hs.to ⟨_, (rs r0), ⟨_, (rs r0), ⟨_, (rs r0), ⟨_, (rs r0), ⟨_, (rs r0), trivial⟩⟩⟩⟩⟩ ⟨m0, ⟨(ms m0), trivial⟩⟩) ?_
      rintro _ _ _ ⟨b3_10, rfl, rfl, rfl⟩
      obtain ⟨r3_5, hr3_5, h⟩ := bind_some h
      refine hx_mut rfl rfl rfl (act_callS (cap := []) (W_link_Receive a0.b (ix a0.wire a1) A4 a0.b.Out.length c4 A0_6 (ix a0.wire a1).Data.length c0_6 r3_5 hr3_5) rfl rfl rfl bd7 rfl ⟨m0, ⟨(ms m0), trivial⟩⟩) rfl (by rintro _ _ _ ⟨_, _, ⟨y3_5A0, y3_5n0, y3_5c0, y3_5A1, y3_5n1, y3_5c1, rfl, rfl, rfl⟩, rfl, rfl⟩ w hs; exact hs.to ⟨_, (rs (rs (rs r0))), ⟨_, (rs (rs (rs r0))), ⟨_, (rs (rs (rs r0))), ⟨_, (rs (rs (rs r0))), ⟨_, (rs (rs (rs r0))), trivial⟩⟩⟩⟩⟩ ⟨m0, ⟨(ms m0), trivial⟩⟩) ?_
      rintro _ _ _ ⟨_, _, ⟨y3_5A0, y3_5n0, y3_5c0, y3_5A1, y3_5n1, y3_5c1, rfl, rfl, rfl⟩, rfl, rfl⟩
      dsimp only [List.nil_append, List.cons_append]
      refine hx_det rfl rfl rfl nofun (det_move rfl) rfl ?_
      refine hx_det rfl rfl rfl nofun (det_extract rfl rfl) rfl ?_
      refine hx_det rfl rfl rfl nofun (det_extract rfl rfl) rfl ?_
      refine hx_det rfl rfl rfl nofun (det_extract rfl rfl) rfl ?_
      refine hx_mut0 rfl rfl rfl (act_store (cells := [_, _, _]) (cs' := [_, _, _]) rfl rfl rfl (ss (ss s0)) (by rfl) (of_decide_eq_true rfl) sz24 ⟨rfl, rfl, rfl, trivial⟩) (by rintro _ _ _ ⟨rfl, rfl⟩ w hs; exact hs.to ⟨_, (rs (rs (rs r0))), ⟨_, (rs (rs (rs r0))), ⟨_, (rs (rs (rs r0))), ⟨_, (rs (rs (rs r0))), ⟨_, (rs (rs (rs r0))), trivial⟩⟩⟩⟩⟩ ⟨m0, ⟨(ms m0), trivial⟩⟩) ?_
      rintro _ _ _ ⟨rfl, rfl⟩
      refine hx_det rfl rfl rfl nofun (det_assign rfl) rfl ?_
      refine hx_end ?_
      refine wl_know (fun _ h => h.lenO m0) (fun e => ?_)
      subst e
      refine wl_know (fun _ h => h.lenO (ms m0)) (fun e => ?_)
      subst e
      refine wl_det rfl rfl (det_assign rfl) rfl ?_
      refine wl_nil ?_
      replace h := Option.some.inj h
      subst h
      exact pn_meetG ((r3_5.1.Out, r3_5.1.Acked, r3_5.1.Got, r3_5.2.1, r3_5.2.2), b3_10, y3_5A0, r3_5.1.Out.length, y3_5c0, y3_5A1, r3_5.2.1.length, y3_5c1, ()) rfl ⟨rfl, rfl, rfl, rfl, trivial⟩ (fun _ h => h.to ⟨_, (rs (rs (rs (rs r0)))), ⟨_, (rs (rs (rs (rs r0)))), ⟨_, (rs (rs (rs (rs r0)))), ⟨_, (rs (rs (rs (rs r0)))), ⟨_, (rs (rs r0)), ⟨_, r0, ⟨_, r0, trivial⟩⟩⟩⟩⟩⟩⟩ ⟨m0, trivial⟩)
    rintro ⟨s8, B8_0, A8_1, n8_1, c8_1, A8_4, n8_4, c8_4, _⟩ e8
    dsimp only at e8 ⊢
    subst e8
    have h := ho8
    refine wc_know (fun _ h => h.lenO (ms (ms (ms (ms (ms m0)))))) (fun e => ?_)
    subst e
    refine wc_know (fun _ h => h.lenO (ms (ms (ms (ms (ms (ms m0))))))) (fun e => ?_)
    subst e
    refine wc_seq ?_
    refine wc_region ?_   -- region 4
    refine wl_det rfl rfl (det_move rfl) rfl ?_
    refine wl_det rfl rfl (det_loadN (cells := [_, _, _]) rfl (ms (ms (ms (ms m0)))) (by rfl) ag24 sz24) rfl ?_
    refine wl_det rfl rfl (det_nilCheckB rfl) rfl ?_
    refine wl_det rfl rfl (det_field rfl fd43_1 rfl) rfl ?_
    refine wl_act0 (act_store (cells := [_, _, _]) (cs' := [_, _, _, _, _, _, _, _, _]) rfl rfl rfl s0 (by rfl) (of_decide_eq_true rfl) sz24 ⟨rfl, rfl, rfl, trivial⟩) rfl rfl ?_
    rintro _ _ _ ⟨rfl, rfl⟩
    refine wl_nil ?_
    refine pn_then ?_
    obtain ⟨q12, h, ho12⟩ := bind_some h
    refine wc_meetG (G := (List (List Int)) × Option Addr × Nat × Nat × Unit) (fun (s12, _, _, _, _) => s12 = q12) (fun (_, _, _, _, _) => [(0, .pointer (some ⟨Ba0, 0, none⟩))]) (fun (s12, A12_0, n12_0, c12_0, _) => [eBlk Ba0 43 [.slice A1 a0.a.Out.length c1, .int .i64 a0.a.Acked, .int .i64 a0.a.Got, .slice A8_1 s8.1.length c8_1, .int .i64 s8.2.1, .int .i64 s8.2.2.1, .slice A7 a0.wire.length c7, .slice A12_0 n12_0 c12_0, .bool a0.ok], eS (lSlice (lInt .u8)) 25 A1 a0.a.Out.length c1 a0.a.Out, eS (lSlice (lInt .u8)) 25 A8_1 s8.1.length c8_1 s8.1, eS lGPacket 27 A7 a0.wire.length c7 a0.wire, eS (lSlice (lInt .u8)) 25 A12_0 n12_0 c12_0 s12]) (fun (_, _, _, _, _) => []) ?_ ?_
    · refine wc_seq ?_
      refine wc_region ?_   -- region 5
      refine wl_det rfl rfl (det_move rfl) rfl ?_
      refine wl_nil ?_
      refine pn_then ?_
      refine wc_cond rfl (fun cd15 => ?_) (fun cd15 => ?_)
      · have h := ifT h cd15
        refine wc_region ?_   -- region 6
        refine wl_det rfl rfl (det_move rfl) rfl ?_
        refine wl_det rfl rfl (det_move rfl) rfl ?_
        refine wl_det rfl rfl (det_nilCheckB rfl) rfl ?_
        refine wl_det rfl rfl (det_field rfl fd43_3 rfl) rfl ?_
        refine wl_det rfl rfl (det_load rfl m0 (by rfl) na22 us22) rfl ?_
        refine wl_det rfl rfl (det_move rfl) rfl ?_
        refine wl_st (fun _ h => h.shutS (rs (rs (rs (rs (rs (rs r0))))))) ?_
        refine wl_act (act_litS (lSlice (lInt .u8)) (vs := [_]) (cs := [_]) [s8.2.2.2.1] un22 in25 rfl rfl rfl rfl rfl ⟨rfl, trivial⟩ (by rfl) rfl (fun _ h => by have q := oneV h m0; exact q)) rfl rfl rfl ?_
        rintro _ _ _ ⟨A6_6, rfl, rfl, rfl⟩
        obtain ⟨k6_7, h⟩ := chk_some h
        refine wl_act (act_appendS (L := (lSlice (lInt .u8))) rfl rfl (ss (ss (ss (ss s0)))) (src_O m0) un22 in25 rfl rfl rfl k6_7) rfl rfl rfl ?_
        rintro _ _ _ ⟨A6_7, c6_7, rfl, rfl, rfl⟩
        refine wl_det rfl rfl (det_nilCheckB rfl) rfl ?_
        refine wl_det rfl rfl (det_field rfl fd43_3 rfl) rfl ?_
        refine wl_act0 (act_store (cells := [_]) (cs' := [_, _, _, _, _, _, _, _, _]) rfl rfl rfl (ss s0) (by rfl) (of_decide_eq_true rfl) sz22 ⟨rfl, trivial⟩) rfl rfl ?_
        rintro _ _ _ ⟨rfl, rfl⟩
        refine wl_nil ?_
        replace h := Option.some.inj h
        subst h
        exact pn_meetG ((a0.got ++ [s8.2.2.2.1]), A6_7, (a0.got ++ [s8.2.2.2.1]).length, c6_7, ()) rfl ⟨rfl, trivial⟩ (fun _ h => h.to ⟨_, (rs r0), ⟨_, (rs r0), ⟨_, (rs (rs (rs (rs r0)))), ⟨_, (rs r0), ⟨_, (rs r0), trivial⟩⟩⟩⟩⟩ trivial)
      · have h := ifF h cd15
        refine wc_skip ?_
        replace h := Option.some.inj h
        subst h
        exact pn_meetG (a0.got, A10, a0.got.length, c10, ()) rfl ⟨rfl, trivial⟩ (fun _ h => h.to ⟨_, r0, ⟨_, r0, ⟨_, (rs (rs (rs r0))), ⟨_, r0, ⟨_, r0, trivial⟩⟩⟩⟩⟩ trivial)
    rintro ⟨s12, A12_0, n12_0, c12_0, _⟩ e12
    dsimp only at e12 ⊢
    subst e12
    have h := ho12
    refine wc_know (fun _ h => h.lenO (ms (ms (ms (ms m0))))) (fun e => ?_)
    subst e
    refine dx_regionZ (Z := St C [_, _, _, _] []) 12 [[], [], [1], [1, 2], [1, 2, 3], [], [5], [5, 6], [5, 6, 7], [5, 6, 7, 8], [5, 6, 7, 8, 9], [1, 2, 3, 4, 5, 6, 7, 8, 9, 10], [0, 1, 2, 3, 4, 5, 6, 7, 8, 9, 10, 11], [0, 1, 2, 3, 4, 5, 6, 7, 8, 9, 10, 11, 12], [0, 1, 2, 3, 4, 5, 6, 7, 8, 9, 10, 11, 12, 13]] mixed (ord := (.det 0 (.det 1 (.det 2 (.det 3 (.det 4 (.det 5 (.det 6 (.det 7 (.det 8 (.alt 9 (.alt 10 (.alt 11 .done .dead) .dead) .dead))))))))))) (by kernel_rfl) (fun _ h => h.to ⟨_, r0, ⟨_, r0, ⟨_, r0, ⟨_, (rs r0), trivial⟩⟩⟩⟩ trivial) ?_   -- region 7
    refine hx_det rfl rfl rfl nofun (det_move rfl) rfl ?_
    refine hx_det rfl rfl rfl nofun (det_move rfl) rfl ?_
    refine hx_det rfl rfl rfl nofun (det_nilCheckB rfl) rfl ?_
    refine hx_det rfl rfl rfl nofun (det_field rfl fd43_2 rfl) rfl ?_
    refine hx_det rfl rfl rfl nofun (det_load rfl m0 (by rfl) na31 us31) rfl ?_
    refine hx_det rfl rfl rfl nofun (det_move rfl) rfl ?_
    refine hx_det rfl rfl rfl nofun (det_nilCheckB rfl) rfl ?_
    refine hx_det rfl rfl rfl nofun (det_field rfl fd43_1 rfl) rfl ?_
    refine hx_det rfl rfl rfl nofun (det_loadN (cells := [_, _, _]) rfl m0 (by rfl) ag24 sz24) rfl ?_
    obtain ⟨r7_9, hr7_9, h⟩ := bind_some h
    refine hx_mut rfl rfl rfl (act_callL (cap := []) [eS (lSlice (lInt .u8)) 25 A8_1 s8.1.length c8_1 s8.1] (W_link_Reply (GEndpoint.mk s8.1 s8.2.1 s8.2.2.1) 3 false A8_1 s8.1.length c8_1 r7_9 hr7_9) plains_link_Reply rfl rfl rfl bd24 rfl ⟨(ms (ms m0)), trivial⟩ ⟨.inr ⟨_, m0, lent_eS⟩, trivial⟩) rfl (by rintro _ _ _ ⟨_, _, ⟨y7_9A0, y7_9n0, y7_9c0, rfl, rfl, rfl⟩, rfl, rfl⟩ w hs; exact hs.to ⟨_, (rs r0), ⟨_, (rs r0), ⟨_, (rs r0), ⟨_, (rs (rs r0)), trivial⟩⟩⟩⟩ trivial) ?_
    rintro _ _ _ ⟨_, _, ⟨y7_9A0, y7_9n0, y7_9c0, rfl, rfl, rfl⟩, rfl, rfl⟩
    dsimp only [List.nil_append, List.cons_append]
    refine hx_st (fun _ h => h.shutS r0) ?_
    refine hx_st (fun _ h => h.fact (f := fC lGPacket [.int .i64 r7_9.Party, .bool r7_9.Down, .int .i64 r7_9.Number, .int .i64 r7_9.Ack, .slice y7_9A0 y7_9n0 y7_9c0] r7_9) (mkGPacket (x := r7_9) ⟨h.facts _ m0, trivial⟩)) ?_
    refine hx_mut rfl rfl rfl (act_litS lGPacket (vs := [_]) (cs := [_, _, _, _, _]) [r7_9] un31 in27 rfl rfl rfl rfl rfl ⟨rfl, trivial⟩ (by rfl) rfl (fun _ h => by have q := oneF h m0; exact q)) rfl (by rintro _ _ _ ⟨A7_10, rfl, rfl, rfl⟩ w hs; exact hs.to ⟨_, (rs r0), ⟨_, (rs r0), ⟨_, (rs r0), ⟨_, (rs (rs r0)), trivial⟩⟩⟩⟩ trivial) ?_
    rintro _ _ _ ⟨A7_10, rfl, rfl, rfl⟩
    obtain ⟨k7_11, h⟩ := chk_some h
    refine hx_mut rfl rfl rfl (act_appendS (L := lGPacket) rfl rfl (ss (ss (ss (ss s0)))) (src_O m0) un31 in27 rfl rfl rfl k7_11) rfl (by rintro _ _ _ ⟨A7_11, c7_11, rfl, rfl, rfl⟩ w hs; exact hs.to ⟨_, (rs r0), ⟨_, (rs r0), ⟨_, (rs r0), ⟨_, (rs (rs r0)), trivial⟩⟩⟩⟩ trivial) ?_
    rintro _ _ _ ⟨A7_11, c7_11, rfl, rfl, rfl⟩
    refine hx_end ?_
    refine wl_know (fun _ h => h.lenF (ms m0)) (fun e => ?_)
    subst e
    refine wl_det rfl rfl (det_nilCheckB rfl) rfl ?_
    refine wl_det rfl rfl (det_field rfl fd43_2 rfl) rfl ?_
    refine wl_act0 (act_store (cells := [_]) (cs' := [_, _, _, _, _, _, _, _, _]) rfl rfl rfl (ss s0) (by rfl) (of_decide_eq_true rfl) sz31 ⟨rfl, trivial⟩) rfl rfl ?_
    rintro _ _ _ ⟨rfl, rfl⟩
    refine wl_nil ?_
    refine pn_fall ?_
    replace h := Option.some.inj h
    subst h
    refine pn_ret (vs := []) rfl trivial ⟨A1, a0.a.Out.length, c1, A8_1, s8.1.length, c8_1, A7_11, (a0.wire ++ [r7_9]).length, c7_11, A12_0, s12.length, c12_0, rfl, rfl, rfl⟩ (fun _ h => h.to ⟨_, (rs r0), ⟨_, (rs r0), ⟨_, (rs r0), ⟨_, (rs r0), ⟨_, (rs r0), trivial⟩⟩⟩⟩⟩ trivial)
def Q_treatylaw42_world_deliver_o_o_o (Ba0 : Nat) (r : Gworld) : Value → List Ent → List Fact → Prop := fun v θ κ => ∃ (pA0 : Option Addr), ∃ (pn0 : Nat), ∃ (pc0 : Nat), ∃ (pA1 : Option Addr), ∃ (pn1 : Nat), ∃ (pc1 : Nat), ∃ (pA2 : Option Addr), ∃ (pn2 : Nat), ∃ (pc2 : Nat), ∃ (pA3 : Option Addr), ∃ (pn3 : Nat), ∃ (pc3 : Nat), v = .tuple #[] ∧ θ = [eBlk Ba0 43 [.slice pA0 pn0 pc0, .int .i64 r.a.Acked, .int .i64 r.a.Got, .slice pA1 pn1 pc1, .int .i64 r.b.Acked, .int .i64 r.b.Got, .slice pA2 pn2 pc2, .slice pA3 pn3 pc3, .bool r.ok], eS (lSlice (lInt .u8)) 25 pA1 pn1 pc1 r.b.Out, eS lGPacket 27 pA2 pn2 pc2 r.wire, eS (lSlice (lInt .u8)) 25 pA3 pn3 pc3 r.got] ∧ κ = [fV (lSlice (lSlice (lInt .u8))) (.slice pA0 pn0 pc0) r.a.Out]
set_option maxHeartbeats 4000000 in
set_option maxRecDepth 100000 in
theorem W_treatylaw42_world_deliver_o_o_o (a0 : Gworld) (a1 : Int) (Ba0 : Nat) (A1 : Option Addr) (n1 : Nat) (c1 : Nat) (A4 : Option Addr) (n4 : Nat) (c4 : Nat) (A7 : Option Addr) (n7 : Nat) (c7 : Nat) (A10 : Option Addr) (n10 : Nat) (c10 : Nat) (r : Gworld) (h : treatylaw42_world_deliver_o_o_o a0 a1 = some r) : Spec Try.prog 15 [.pointer (some ⟨Ba0, 0, none⟩), .int .i64 a1] [eBlk Ba0 43 [.slice A1 n1 c1, .int .i64 a0.a.Acked, .int .i64 a0.a.Got, .slice A4 n4 c4, .int .i64 a0.b.Acked, .int .i64 a0.b.Got, .slice A7 n7 c7, .slice A10 n10 c10, .bool a0.ok], eS (lSlice (lInt .u8)) 25 A4 n4 c4 a0.b.Out, eS lGPacket 27 A7 n7 c7 a0.wire, eS (lSlice (lInt .u8)) 25 A10 n10 c10 a0.got] [fV (lSlice (lSlice (lInt .u8))) (.slice A1 n1 c1) a0.a.Out] (Q_treatylaw42_world_deliver_o_o_o Ba0 r) := by
  unfold treatylaw42_world_deliver_o_o_o at h
  refine spec_of (σ := [(0, _), (1, _)]) Try.func15 rfl rfl rfl rfl ?_
  intro C
  refine wc_know (fun _ h => h.lenF m0) (fun e => ?_)
  subst e
  refine wc_know (fun _ h => h.lenO (ms m0)) (fun e => ?_)
  subst e
  refine wc_know (fun _ h => h.lenO (ms (ms m0))) (fun e => ?_)
  subst e
  refine wc_know (fun _ h => h.lenO (ms (ms (ms m0)))) (fun e => ?_)
  subst e
  refine wc_seq ?_
  refine wc_region ?_   -- region 0
  refine wl_det rfl rfl (det_move rfl) rfl ?_
  refine wl_det rfl rfl (det_nilCheckB rfl) rfl ?_
  refine wl_det rfl rfl (det_field rfl fd43_2 rfl) rfl ?_
  refine wl_det rfl rfl (det_load rfl m0 (by rfl) na31 us31) rfl ?_
  refine wl_det rfl rfl (det_move rfl) rfl ?_
  obtain ⟨k0_5, h⟩ := chk_some h
  refine wl_det rfl rfl (det_indexO rfl rfl (ms (ms m0)) k0_5 un31 sz27) rfl ?_
  refine wl_act (act_loadX (G := Option Addr × Nat) (off := 0) (cnt := 5) (cells := fun g => [.int .i64 (ix a0.wire a1).Party, .bool (ix a0.wire a1).Down, .int .i64 (ix a0.wire a1).Number, .int .i64 (ix a0.wire a1).Ack, .slice g.1 (ix a0.wire a1).Data.length g.2]) (fs := fun g => [fV (lSlice (lInt .u8)) (.slice g.1 (ix a0.wire a1).Data.length g.2) (ix a0.wire a1).Data]) (val := fun g => .agg #[.int .i64 (ix a0.wire a1).Party, .bool (ix a0.wire a1).Down, .int .i64 (ix a0.wire a1).Number, .int .i64 (ix a0.wire a1).Ack, .slice g.1 (ix a0.wire a1).Data.length g.2]) rfl (ms (ms m0)) k0_5 rfl (by rfl) (fun _ _ _ h => by obtain ⟨A0, c0, e, r⟩ := viewGPacket h; exact ⟨(A0, c0), e, r⟩) (fun g => (loaded_n (cells := [_, _, _, _, _]) ag27 sz27))) rfl rfl rfl ?_
  rintro _ _ _ ⟨⟨A0_6, c0_6⟩, rfl, rfl, rfl⟩
  refine wl_act (act_alloc (cs := [_, _, _, _, _]) zr27 rfl) rfl rfl rfl ?_
  rintro _ _ _ ⟨b0_7, rfl, rfl, rfl⟩
  refine wl_act0 (act_store (cells := [_, _, _, _, _]) (cs' := [_, _, _, _, _]) rfl rfl rfl s0 (by rfl) (of_decide_eq_true rfl) sz27 ⟨rfl, rfl, rfl, rfl, rfl, trivial⟩) rfl rfl ?_
  rintro _ _ _ ⟨rfl, rfl⟩
  refine wl_nil ?_
  refine pn_then ?_
  refine wc_seq ?_
  refine wc_seq ?_
  refine wc_region ?_   -- region 1
  refine wl_det rfl rfl (det_field rfl fd27_1 rfl) rfl ?_
  refine wl_det rfl rfl (det_load rfl m0 (by rfl) na4 us4) rfl ?_
  refine wl_det rfl rfl (det_not rfl) rfl ?_
  refine wl_nil ?_
  refine pn_then ?_
  refine wc_cond rfl (fun cd5 => ?_) (fun cd5 => ?_)
  · have h := ifT h cd5
    refine wc_seq ?_
    refine dx_regionZ (Z := St C [_, _, _, _] [_, _]) 14 [[], [], [1], [1, 2], [1, 2, 3], [], [1, 2, 3, 4, 5], [1, 2, 3, 4, 5, 6], [1, 2, 3, 4, 5, 6, 7], [1, 2, 3, 4, 5, 6, 7], [1, 2, 3, 4, 5, 6, 7], [0, 1, 2, 3, 4, 5, 6, 7, 8], [0, 1, 2, 3, 4, 5, 6, 7, 8, 11], [0, 1, 2, 3, 4, 5, 6, 7, 8, 11, 12]] mixed (ord := (.det 0 (.det 1 (.det 2 (.det 3 (.det 4 (.det 5 (.alt 6 (.det 7 (.det 8 (.det 9 (.det 10 (.det 11 (.det 12 (.alt 13 .done .dead))))))) .dead)))))))) (by kernel_rfl) (fun _ h => h.to ⟨_, r0, ⟨_, (rs r0), ⟨_, (rs r0), ⟨_, (rs r0), trivial⟩⟩⟩⟩ ⟨m0, ⟨(ms m0), trivial⟩⟩) ?_   -- region 2
    refine hx_det rfl rfl rfl nofun (det_move rfl) rfl ?_
    refine hx_det rfl rfl rfl nofun (det_move rfl) rfl ?_
    refine hx_det rfl rfl rfl nofun (det_nilCheckB rfl) rfl ?_
    refine hx_det rfl rfl rfl nofun (det_field rfl fd43_0 rfl) rfl ?_
    refine hx_now rfl rfl rfl nofun rfl (det_loadN (cells := [_, _, _]) rfl (ms m0) (by rfl) ag24 sz24) rfl ?_
    refine hx_det rfl rfl rfl nofun (det_loadN (cells := [_, _, _, _, _]) rfl m0 (by rfl) ag27 sz27) rfl ?_
    obtain ⟨r2_6, hr2_6, h⟩ := bind_some h
    refine hx_mut rfl rfl rfl (act_callS (cap := []) (W_link_Receive a0.a (ix a0.wire a1) A1 a0.a.Out.length c1 A0_6 (ix a0.wire a1).Data.length c0_6 r2_6 hr2_6) rfl rfl rfl bd7 rfl ⟨(ms m0), ⟨m0, trivial⟩⟩) rfl (by rintro _ _ _ ⟨_, _, ⟨y2_6A0, y2_6n0, y2_6c0, y2_6A1, y2_6n1, y2_6c1, rfl, rfl, rfl⟩, rfl, rfl⟩ w hs; exact hs.to ⟨_, (rs (rs r0)), ⟨_, (rs (rs (rs r0))), ⟨_, (rs (rs (rs r0))), ⟨_, (rs (rs (rs r0))), trivial⟩⟩⟩⟩ ⟨m0, ⟨(ms m0), trivial⟩⟩) ?_
    rintro _ _ _ ⟨_, _, ⟨y2_6A0, y2_6n0, y2_6c0, y2_6A1, y2_6n1, y2_6c1, rfl, rfl, rfl⟩, rfl, rfl⟩
    dsimp only [List.nil_append, List.cons_append]
    refine hx_det rfl rfl rfl nofun (det_move rfl) rfl ?_
    refine hx_det rfl rfl rfl nofun (det_extract rfl rfl) rfl ?_
    refine hx_det rfl rfl rfl nofun (det_extract rfl rfl) rfl ?_
    refine hx_det rfl rfl rfl nofun (det_extract rfl rfl) rfl ?_
    refine hx_det rfl rfl rfl nofun (det_nilCheckB rfl) rfl ?_
    refine hx_det rfl rfl rfl nofun (det_field rfl fd43_0 rfl) rfl ?_
    refine hx_mut0 rfl rfl rfl (act_store (cells := [_, _, _]) (cs' := [_, _, _, _, _, _, _, _, _]) rfl rfl rfl (ss (ss (ss s0))) (by rfl) (of_decide_eq_true rfl) sz24 ⟨rfl, rfl, rfl, trivial⟩) (by rintro _ _ _ ⟨rfl, rfl⟩ w hs; exact hs.to ⟨_, (rs (rs r0)), ⟨_, (rs (rs (rs r0))), ⟨_, (rs (rs (rs r0))), ⟨_, (rs (rs (rs r0))), trivial⟩⟩⟩⟩ ⟨m0, ⟨(ms m0), trivial⟩⟩) ?_
    rintro _ _ _ ⟨rfl, rfl⟩
    refine hx_end ?_
    refine wl_know (fun _ h => h.lenO m0) (fun e => ?_)
    subst e
    refine wl_know (fun _ h => h.lenO (ms m0)) (fun e => ?_)
    subst e
    refine wl_nil ?_
    refine pn_then ?_
    refine wc_ret ?_
    refine pr_then ?_
    refine pn_st (fun _ h => h.shutS r0) ?_
    replace h := Option.some.inj h
    subst h
    refine pn_ret (vs := []) rfl trivial ⟨y2_6A0, r2_6.1.Out.length, y2_6c0, A4, a0.b.Out.length, c4, A7, a0.wire.length, c7, A10, a0.got.length, c10, rfl, rfl, rfl⟩ (fun _ h => h.to ⟨_, (rs (rs r0)), ⟨_, (rs (rs r0)), ⟨_, (rs (rs r0)), ⟨_, (rs (rs r0)), trivial⟩⟩⟩⟩ ⟨m0, trivial⟩)
  · have h := ifF h cd5
    refine wc_skip ?_
    refine pn_then ?_
    obtain ⟨q8, h, ho8⟩ := bind_some h
    refine wc_meetG (G := ((List (List Int)) × Int × Int × (List Int) × Bool) × Nat × Option Addr × Nat × Nat × Option Addr × Nat × Nat × Unit) (fun (s8, _, _, _, _, _, _, _, _) => s8 = q8) (fun (s8, B8_0, _, _, _, A8_4, n8_4, c8_4, _) => [(0, .pointer (some ⟨Ba0, 0, none⟩)), (5, .pointer (some ⟨B8_0, 0, none⟩)), (6, .slice A8_4 n8_4 c8_4), (7, .bool s8.2.2.2.2)]) (fun (s8, B8_0, A8_1, n8_1, c8_1, A8_4, n8_4, c8_4, _) => [eBlk Ba0 43 [.slice A1 a0.a.Out.length c1, .int .i64 a0.a.Acked, .int .i64 a0.a.Got, .slice A4 a0.b.Out.length c4, .int .i64 a0.b.Acked, .int .i64 a0.b.Got, .slice A7 a0.wire.length c7, .slice A10 a0.got.length c10, .bool a0.ok], eS lGPacket 27 A7 a0.wire.length c7 a0.wire, eS (lSlice (lInt .u8)) 25 A10 a0.got.length c10 a0.got, eBlk B8_0 24 [.slice A8_1 n8_1 c8_1, .int .i64 s8.2.1, .int .i64 s8.2.2.1], eS (lSlice (lInt .u8)) 25 A8_1 n8_1 c8_1 s8.1, eS (lInt .u8) 5 A8_4 n8_4 c8_4 s8.2.2.2.1]) (fun (_, _, _, _, _, _, _, _, _) => [fV (lSlice (lSlice (lInt .u8))) (.slice A1 a0.a.Out.length c1) a0.a.Out, fV (lSlice (lSlice (lInt .u8))) (.slice A4 a0.b.Out.length c4) a0.b.Out]) ?_ ?_
    · refine wc_st (fun _ h => h.shutS (rs (rs r0))) ?_
      refine dx_regionZ (Z := St C [_, _, _, _] [_, _, _]) 13 [[], [0], [0, 1], [0, 1, 2], [], [0, 1, 2, 3, 4], [0, 1, 2, 3, 4, 5], [0, 1, 2, 3, 4, 5, 6], [0, 1, 2, 3, 4, 5, 6], [0, 1, 2, 3, 4, 5, 6], [], [0, 1, 2, 3, 4, 5, 6, 7, 10], [0, 1, 2, 3, 4, 5, 6, 7, 8, 10, 11], [0, 1, 2, 3, 4, 5, 6, 7, 8, 9, 10, 11, 12]] mixed (ord := (.det 0 (.det 1 (.det 2 (.det 3 (.det 4 (.alt 5 (.det 6 (.det 7 (.det 8 (.det 9 (.alt 10 (.alt 11 (.det 12 .done) .dead) .dead))))) (.alt 10 (.alt 5 (.det 6 (.det 7 (.det 8 (.det 9 (.alt 11 (.det 12 .done) .dead))))) .dead) .dead)))))))) (by kernel_rfl) (fun _ h => h.to ⟨_, r0, ⟨_, r0, ⟨_, r0, ⟨_, r0, trivial⟩⟩⟩⟩ ⟨m0, ⟨(ms m0), ⟨(ms (ms m0)), trivial⟩⟩⟩) ?_   -- region 3
      refine hx_det rfl rfl rfl nofun (det_move rfl) rfl ?_
      refine hx_det rfl rfl rfl nofun (det_nilCheckB rfl) rfl ?_
      refine hx_det rfl rfl rfl nofun (det_field rfl fd43_1 rfl) rfl ?_
      refine hx_det rfl rfl rfl nofun (det_loadN (cells := [_, _, _]) rfl (ms m0) (by rfl) ag24 sz24) rfl ?_
      refine hx_det rfl rfl rfl nofun (det_loadN (cells := [_, _, _, _, _]) rfl m0 (by rfl) ag27 sz27) rfl ?_
      refine hx_or ?_ ?_
      · obtain ⟨r3_5, hr3_5, h⟩ := bind_some h
        refine hx_mut rfl rfl rfl (act_callS (cap := []) (W_link_Receive a0.b (ix a0.wire a1) A4 a0.b.Out.length c4 A0_6 (ix a0.wire a1).Data.length c0_6 r3_5 hr3_5) rfl rfl rfl bd7 rfl ⟨m0, ⟨(ms m0), trivial⟩⟩) rfl (by rintro _ _ _ ⟨_, _, ⟨y3_5A0, y3_5n0, y3_5c0, y3_5A1, y3_5n1, y3_5c1, rfl, rfl, rfl⟩, rfl, rfl⟩ w hs; exact hs.to ⟨_, (rs (rs r0)), ⟨_, (rs (rs r0)), ⟨_, (rs (rs r0)), ⟨_, (rs (rs r0)), trivial⟩⟩⟩⟩ ⟨m0, ⟨(ms m0), ⟨(ms (ms m0)), trivial⟩⟩⟩) ?_
        rintro _ _ _ ⟨_, _, ⟨y3_5A0, y3_5n0, y3_5c0, y3_5A1, y3_5n1, y3_5c1, rfl, rfl, rfl⟩, rfl, rfl⟩
        dsimp only [List.nil_append, List.cons_append]
        refine hx_det rfl rfl rfl nofun (det_move rfl) rfl ?_
        refine hx_det rfl rfl rfl nofun (det_extract rfl rfl) rfl ?_
        refine hx_det rfl rfl rfl nofun (det_extract rfl rfl) rfl ?_
        refine hx_det rfl rfl rfl nofun (det_extract rfl rfl) rfl ?_
        refine hx_mut rfl rfl rfl (act_alloc (cs := [_, _, _]) zr24 rfl) rfl (by rintro _ _ _ ⟨b3_10, rfl, rfl, rfl⟩ w hs; exact hs.to ⟨_, (rs (rs (rs r0))), ⟨_, (rs (rs (rs r0))), ⟨_, (rs (rs (rs r0))), ⟨_, (rs (rs (rs r0))), trivial⟩⟩⟩⟩ ⟨m0, ⟨(ms m0), ⟨(ms (ms m0)), trivial⟩⟩⟩) ?_
        rintro _ _ _ ⟨b3_10, rfl, rfl, rfl⟩
        refine hx_mut0 rfl rfl rfl (act_store (cells := [_, _, _]) (cs' := [_, _, _]) rfl rfl rfl s0 (by rfl) (of_decide_eq_true rfl) sz24 ⟨rfl, rfl, rfl, trivial⟩) (by rintro _ _ _ ⟨rfl, rfl⟩ w hs; exact hs.to ⟨_, (rs (rs (rs r0))), ⟨_, (rs (rs (rs r0))), ⟨_, (rs (rs (rs r0))), ⟨_, (rs (rs (rs r0))), trivial⟩⟩⟩⟩ ⟨m0, ⟨(ms m0), ⟨(ms (ms m0)), trivial⟩⟩⟩) ?_
        rintro _ _ _ ⟨rfl, rfl⟩
        refine hx_det rfl rfl rfl nofun (det_assign rfl) rfl ?_
        refine hx_end ?_
        refine wl_know (fun _ h => h.lenO (ms m0)) (fun e => ?_)
        subst e
        refine wl_know (fun _ h => h.lenO (ms (ms m0))) (fun e => ?_)
        subst e
        refine wl_det rfl rfl (det_assign rfl) rfl ?_
        refine wl_nil ?_
        replace h := Option.some.inj h
        subst h
        exact pn_meetG ((r3_5.1.Out, r3_5.1.Acked, r3_5.1.Got, r3_5.2.1, r3_5.2.2), b3_10, y3_5A0, r3_5.1.Out.length, y3_5c0, y3_5A1, r3_5.2.1.length, y3_5c1, ()) rfl ⟨rfl, rfl, rfl, rfl, trivial⟩ (fun _ h => h.to ⟨_, (rs (rs (rs (rs r0)))), ⟨_, (rs (rs (rs (rs r0)))), ⟨_, (rs (rs (rs (rs r0)))), ⟨_, r0, ⟨_, r0, ⟨_, r0, trivial⟩⟩⟩⟩⟩⟩ ⟨(ms (ms m0)), ⟨m0, trivial⟩⟩)
      refine hx_or ?_ trivial
      refine hx_mut rfl rfl rfl (act_alloc (cs := [_, _, _]) zr24 rfl) rfl (by rintro _ _ _ ⟨b3_10, rfl, rfl, rfl⟩ w hs; exact hs.to ⟨_, (rs r0), ⟨_, (rs r0), ⟨_, (rs r0), ⟨_, (rs r0), trivial⟩⟩⟩⟩ ⟨m0, ⟨(ms m0), ⟨(ms (ms m0)), trivial⟩⟩⟩) ?_
      rintro _ _ _ ⟨b3_10, rfl, rfl, rfl⟩
      obtain ⟨r3_5, hr3_5, h⟩ := bind_some h
      refine hx_mut rfl rfl rfl (act_callS (cap := []) (W_link_Receive a0.b (ix a0.wire a1) A4 a0.b.Out.length c4 A0_6 (ix a0.wire a1).Data.length c0_6 r3_5 hr3_5) rfl rfl rfl bd7 rfl ⟨m0, ⟨(ms m0), trivial⟩⟩) rfl (by rintro _ _ _ ⟨_, _, ⟨y3_5A0, y3_5n0, y3_5c0, y3_5A1, y3_5n1, y3_5c1, rfl, rfl, rfl⟩, rfl, rfl⟩ w hs; exact hs.to ⟨_, (rs (rs (rs r0))), ⟨_, (rs (rs (rs r0))), ⟨_, (rs (rs (rs r0))), ⟨_, (rs (rs (rs r0))), trivial⟩⟩⟩⟩ ⟨m0, ⟨(ms m0), ⟨(ms (ms m0)), trivial⟩⟩⟩) ?_
      rintro _ _ _ ⟨_, _, ⟨y3_5A0, y3_5n0, y3_5c0, y3_5A1, y3_5n1, y3_5c1, rfl, rfl, rfl⟩, rfl, rfl⟩
      dsimp only [List.nil_append, List.cons_append]
      refine hx_det rfl rfl rfl nofun (det_move rfl) rfl ?_
      refine hx_det rfl rfl rfl nofun (det_extract rfl rfl) rfl ?_
      refine hx_det rfl rfl rfl nofun (det_extract rfl rfl) rfl ?_
      refine hx_det rfl rfl rfl nofun (det_extract rfl rfl) rfl ?_
      refine hx_mut0 rfl rfl rfl (act_store (cells := [_, _, _]) (cs' := [_, _, _]) rfl rfl rfl (ss (ss s0)) (by rfl) (of_decide_eq_true rfl) sz24 ⟨rfl, rfl, rfl, trivial⟩) (by rintro _ _ _ ⟨rfl, rfl⟩ w hs; exact hs.to ⟨_, (rs (rs (rs r0))), ⟨_, (rs (rs (rs r0))), ⟨_, (rs (rs (rs r0))), ⟨_, (rs (rs (rs r0))), trivial⟩⟩⟩⟩ ⟨m0, ⟨(ms m0), ⟨(ms (ms m0)), trivial⟩⟩⟩) ?_
      rintro _ _ _ ⟨rfl, rfl⟩
      refine hx_det rfl rfl rfl nofun (det_assign rfl) rfl ?_
      refine hx_end ?_
      refine wl_know (fun _ h => h.lenO m0) (fun e => ?_)
      subst e
      refine wl_know (fun _ h => h.lenO (ms m0)) (fun e => ?_)
      subst e
      refine wl_det rfl rfl (det_assign rfl) rfl ?_
      refine wl_nil ?_
      replace h := Option.some.inj h
      subst h
      exact pn_meetG ((r3_5.1.Out, r3_5.1.Acked, r3_5.1.Got, r3_5.2.1, r3_5.2.2), b3_10, y3_5A0, r3_5.1.Out.length, y3_5c0, y3_5A1, r3_5.2.1.length, y3_5c1, ()) rfl ⟨rfl, rfl, rfl, rfl, trivial⟩ (fun _ h => h.to ⟨_, (rs (rs (rs (rs r0)))), ⟨_, (rs (rs (rs (rs r0)))), ⟨_, (rs (rs (rs (rs r0)))), ⟨_, (rs (rs r0)), ⟨_, r0, ⟨_, r0, trivial⟩⟩⟩⟩⟩⟩ ⟨(ms (ms m0)), ⟨m0, trivial⟩⟩)
    rintro ⟨s8, B8_0, A8_1, n8_1, c8_1, A8_4, n8_4, c8_4, _⟩ e8
    dsimp only at e8 ⊢
    subst e8
    have h := ho8
    refine wc_know (fun _ h => h.lenO (ms (ms (ms (ms m0))))) (fun e => ?_)
    subst e
    refine wc_know (fun _ h => h.lenO (ms (ms (ms (ms (ms m0)))))) (fun e => ?_)
    subst e
    refine wc_seq ?_
    refine wc_region ?_   -- region 4
    refine wl_det rfl rfl (det_move rfl) rfl ?_
    refine wl_det rfl rfl (det_loadN (cells := [_, _, _]) rfl (ms (ms (ms m0))) (by rfl) ag24 sz24) rfl ?_
    refine wl_det rfl rfl (det_nilCheckB rfl) rfl ?_
    refine wl_det rfl rfl (det_field rfl fd43_1 rfl) rfl ?_
    refine wl_act0 (act_store (cells := [_, _, _]) (cs' := [_, _, _, _, _, _, _, _, _]) rfl rfl rfl s0 (by rfl) (of_decide_eq_true rfl) sz24 ⟨rfl, rfl, rfl, trivial⟩) rfl rfl ?_
    rintro _ _ _ ⟨rfl, rfl⟩
    refine wl_nil ?_
    refine pn_then ?_
    obtain ⟨q12, h, ho12⟩ := bind_some h
    refine wc_meetG (G := (List (List Int)) × Option Addr × Nat × Nat × Unit) (fun (s12, _, _, _, _) => s12 = q12) (fun (_, _, _, _, _) => [(0, .pointer (some ⟨Ba0, 0, none⟩))]) (fun (s12, A12_0, n12_0, c12_0, _) => [eBlk Ba0 43 [.slice A1 a0.a.Out.length c1, .int .i64 a0.a.Acked, .int .i64 a0.a.Got, .slice A8_1 s8.1.length c8_1, .int .i64 s8.2.1, .int .i64 s8.2.2.1, .slice A7 a0.wire.length c7, .slice A12_0 n12_0 c12_0, .bool a0.ok], eS (lSlice (lInt .u8)) 25 A8_1 s8.1.length c8_1 s8.1, eS lGPacket 27 A7 a0.wire.length c7 a0.wire, eS (lSlice (lInt .u8)) 25 A12_0 n12_0 c12_0 s12]) (fun (_, _, _, _, _) => [fV (lSlice (lSlice (lInt .u8))) (.slice A1 a0.a.Out.length c1) a0.a.Out]) ?_ ?_
    · refine wc_seq ?_
      refine wc_region ?_   -- region 5
      refine wl_det rfl rfl (det_move rfl) rfl ?_
      refine wl_nil ?_
      refine pn_then ?_
      refine wc_cond rfl (fun cd15 => ?_) (fun cd15 => ?_)
      · have h := ifT h cd15
        refine wc_region ?_   -- region 6
        refine wl_det rfl rfl (det_move rfl) rfl ?_
        refine wl_det rfl rfl (det_move rfl) rfl ?_
        refine wl_det rfl rfl (det_nilCheckB rfl) rfl ?_
        refine wl_det rfl rfl (det_field rfl fd43_3 rfl) rfl ?_
        refine wl_det rfl rfl (det_load rfl m0 (by rfl) na22 us22) rfl ?_
        refine wl_det rfl rfl (det_move rfl) rfl ?_
        refine wl_st (fun _ h => h.shutS (rs (rs (rs (rs (rs r0)))))) ?_
        refine wl_act (act_litS (lSlice (lInt .u8)) (vs := [_]) (cs := [_]) [s8.2.2.2.1] un22 in25 rfl rfl rfl rfl rfl ⟨rfl, trivial⟩ (by rfl) rfl (fun _ h => by have q := oneV h m0; exact q)) rfl rfl rfl ?_
        rintro _ _ _ ⟨A6_6, rfl, rfl, rfl⟩
        obtain ⟨k6_7, h⟩ := chk_some h
        refine wl_act (act_appendS (L := (lSlice (lInt .u8))) rfl rfl (ss (ss (ss s0))) (src_O m0) un22 in25 rfl rfl rfl k6_7) rfl rfl rfl ?_
        rintro _ _ _ ⟨A6_7, c6_7, rfl, rfl, rfl⟩
        refine wl_det rfl rfl (det_nilCheckB rfl) rfl ?_
        refine wl_det rfl rfl (det_field rfl fd43_3 rfl) rfl ?_
        refine wl_act0 (act_store (cells := [_]) (cs' := [_, _, _, _, _, _, _, _, _]) rfl rfl rfl (ss s0) (by rfl) (of_decide_eq_true rfl) sz22 ⟨rfl, trivial⟩) rfl rfl ?_
        rintro _ _ _ ⟨rfl, rfl⟩
        refine wl_nil ?_
        replace h := Option.some.inj h
        subst h
        exact pn_meetG ((a0.got ++ [s8.2.2.2.1]), A6_7, (a0.got ++ [s8.2.2.2.1]).length, c6_7, ()) rfl ⟨rfl, trivial⟩ (fun _ h => h.to ⟨_, (rs r0), ⟨_, (rs (rs (rs (rs r0)))), ⟨_, (rs r0), ⟨_, (rs r0), trivial⟩⟩⟩⟩ ⟨(ms m0), trivial⟩)
      · have h := ifF h cd15
        refine wc_skip ?_
        replace h := Option.some.inj h
        subst h
        exact pn_meetG (a0.got, A10, a0.got.length, c10, ()) rfl ⟨rfl, trivial⟩ (fun _ h => h.to ⟨_, r0, ⟨_, (rs (rs (rs r0))), ⟨_, r0, ⟨_, r0, trivial⟩⟩⟩⟩ ⟨m0, trivial⟩)
    rintro ⟨s12, A12_0, n12_0, c12_0, _⟩ e12
    dsimp only at e12 ⊢
    subst e12
    have h := ho12
    refine wc_know (fun _ h => h.lenO (ms (ms (ms m0)))) (fun e => ?_)
    subst e
    refine dx_regionZ (Z := St C [_, _, _] [_]) 12 [[], [], [1], [1, 2], [1, 2, 3], [], [5], [5, 6], [5, 6, 7], [5, 6, 7, 8], [5, 6, 7, 8, 9], [1, 2, 3, 4, 5, 6, 7, 8, 9, 10], [0, 1, 2, 3, 4, 5, 6, 7, 8, 9, 10, 11], [0, 1, 2, 3, 4, 5, 6, 7, 8, 9, 10, 11, 12], [0, 1, 2, 3, 4, 5, 6, 7, 8, 9, 10, 11, 12, 13]] mixed (ord := (.det 0 (.det 1 (.det 2 (.det 3 (.det 4 (.det 5 (.det 6 (.det 7 (.det 8 (.alt 9 (.alt 10 (.alt 11 .done .dead) .dead) .dead))))))))))) (by kernel_rfl) (fun _ h => h.to ⟨_, r0, ⟨_, r0, ⟨_, (rs r0), trivial⟩⟩⟩ ⟨m0, trivial⟩) ?_   -- region 7
    refine hx_det rfl rfl rfl nofun (det_move rfl) rfl ?_
    refine hx_det rfl rfl rfl nofun (det_move rfl) rfl ?_
    refine hx_det rfl rfl rfl nofun (det_nilCheckB rfl) rfl ?_
    refine hx_det rfl rfl rfl nofun (det_field rfl fd43_2 rfl) rfl ?_
    refine hx_det rfl rfl rfl nofun (det_load rfl m0 (by rfl) na31 us31) rfl ?_
    refine hx_det rfl rfl rfl nofun (det_move rfl) rfl ?_
    refine hx_det rfl rfl rfl nofun (det_nilCheckB rfl) rfl ?_
    refine hx_det rfl rfl rfl nofun (det_field rfl fd43_1 rfl) rfl ?_
    refine hx_det rfl rfl rfl nofun (det_loadN (cells := [_, _, _]) rfl m0 (by rfl) ag24 sz24) rfl ?_
    obtain ⟨r7_9, hr7_9, h⟩ := bind_some h
    refine hx_mut rfl rfl rfl (act_callL (cap := []) [eS (lSlice (lInt .u8)) 25 A8_1 s8.1.length c8_1 s8.1] (W_link_Reply (GEndpoint.mk s8.1 s8.2.1 s8.2.2.1) 3 false A8_1 s8.1.length c8_1 r7_9 hr7_9) plains_link_Reply rfl rfl rfl bd24 rfl ⟨(ms m0), trivial⟩ ⟨.inr ⟨_, m0, lent_eS⟩, trivial⟩) rfl (by rintro _ _ _ ⟨_, _, ⟨y7_9A0, y7_9n0, y7_9c0, rfl, rfl, rfl⟩, rfl, rfl⟩ w hs; exact hs.to ⟨_, (rs r0), ⟨_, (rs r0), ⟨_, (rs (rs r0)), trivial⟩⟩⟩ ⟨m0, trivial⟩) ?_
    rintro _ _ _ ⟨_, _, ⟨y7_9A0, y7_9n0, y7_9c0, rfl, rfl, rfl⟩, rfl, rfl⟩
    dsimp only [List.nil_append, List.cons_append]
    refine hx_st (fun _ h => h.shutS r0) ?_
    refine hx_st (fun _ h => h.fact (f := fC lGPacket [.int .i64 r7_9.Party, .bool r7_9.Down, .int .i64 r7_9.Number, .int .i64 r7_9.Ack, .slice y7_9A0 y7_9n0 y7_9c0] r7_9) (mkGPacket (x := r7_9) ⟨h.facts _ m0, trivial⟩)) ?_
    refine hx_mut rfl rfl rfl (act_litS lGPacket (vs := [_]) (cs := [_, _, _, _, _]) [r7_9] un31 in27 rfl rfl rfl rfl rfl ⟨rfl, trivial⟩ (by rfl) rfl (fun _ h => by have q := oneF h m0; exact q)) rfl (by rintro _ _ _ ⟨A7_10, rfl, rfl, rfl⟩ w hs; exact hs.to ⟨_, (rs r0), ⟨_, (rs r0), ⟨_, (rs (rs r0)), trivial⟩⟩⟩ ⟨(ms (ms m0)), trivial⟩) ?_
    rintro _ _ _ ⟨A7_10, rfl, rfl, rfl⟩
    obtain ⟨k7_11, h⟩ := chk_some h
    refine hx_mut rfl rfl rfl (act_appendS (L := lGPacket) rfl rfl (ss (ss (ss s0))) (src_O m0) un31 in27 rfl rfl rfl k7_11) rfl (by rintro _ _ _ ⟨A7_11, c7_11, rfl, rfl, rfl⟩ w hs; exact hs.to ⟨_, (rs r0), ⟨_, (rs r0), ⟨_, (rs (rs r0)), trivial⟩⟩⟩ ⟨(ms (ms m0)), trivial⟩) ?_
    rintro _ _ _ ⟨A7_11, c7_11, rfl, rfl, rfl⟩
    refine hx_end ?_
    refine wl_know (fun _ h => h.lenF (ms m0)) (fun e => ?_)
    subst e
    refine wl_det rfl rfl (det_nilCheckB rfl) rfl ?_
    refine wl_det rfl rfl (det_field rfl fd43_2 rfl) rfl ?_
    refine wl_act0 (act_store (cells := [_]) (cs' := [_, _, _, _, _, _, _, _, _]) rfl rfl rfl (ss s0) (by rfl) (of_decide_eq_true rfl) sz31 ⟨rfl, trivial⟩) rfl rfl ?_
    rintro _ _ _ ⟨rfl, rfl⟩
    refine wl_nil ?_
    refine pn_fall ?_
    replace h := Option.some.inj h
    subst h
    refine pn_ret (vs := []) rfl trivial ⟨A1, a0.a.Out.length, c1, A8_1, s8.1.length, c8_1, A7_11, (a0.wire ++ [r7_9]).length, c7_11, A12_0, s12.length, c12_0, rfl, rfl, rfl⟩ (fun _ h => h.to ⟨_, (rs r0), ⟨_, (rs r0), ⟨_, (rs r0), ⟨_, (rs r0), trivial⟩⟩⟩⟩ ⟨(ms (ms m0)), trivial⟩)
def Q_treatylaw42_play (r : Gworld × Int) : Value → List Ent → List Fact → Prop := fun v θ κ => ∃ (pb0 : Nat), ∃ (pA1 : Option Addr), ∃ (pn1 : Nat), ∃ (pc1 : Nat), ∃ (pA2 : Option Addr), ∃ (pn2 : Nat), ∃ (pc2 : Nat), ∃ (pA3 : Option Addr), ∃ (pn3 : Nat), ∃ (pc3 : Nat), ∃ (pA4 : Option Addr), ∃ (pn4 : Nat), ∃ (pc4 : Nat), v = .tuple #[.pointer (some ⟨pb0, 0, none⟩), .int .i64 r.2] ∧ θ = [eBlk pb0 43 [.slice pA1 pn1 pc1, .int .i64 r.1.a.Acked, .int .i64 r.1.a.Got, .slice pA2 pn2 pc2, .int .i64 r.1.b.Acked, .int .i64 r.1.b.Got, .slice pA3 pn3 pc3, .slice pA4 pn4 pc4, .bool r.1.ok], eS (lSlice (lInt .u8)) 25 pA2 pn2 pc2 r.1.b.Out, eS lGPacket 27 pA3 pn3 pc3 r.1.wire, eS (lSlice (lInt .u8)) 25 pA4 pn4 pc4 r.1.got] ∧ κ = [fV (lSlice (lSlice (lInt .u8))) (.slice pA1 pn1 pc1) r.1.a.Out]
set_option maxHeartbeats 4000000 in
set_option maxRecDepth 100000 in
theorem W_treatylaw42_play (a0 : (List Int)) (A0 : Option Addr) (n0 : Nat) (c0 : Nat) (r : Gworld × Int) (h : treatylaw42_play a0 = some r) : Spec Try.prog 12 [.slice A0 n0 c0] [] [fV (lSlice (lInt .i64)) (.slice A0 n0 c0) a0] (Q_treatylaw42_play r) := by
  unfold treatylaw42_play at h
  refine spec_of (σ := [(0, _)]) Try.func12 rfl rfl rfl rfl ?_
  intro C
  refine wc_know (fun _ h => h.lenF m0) (fun e => ?_)
  subst e
  refine wc_seq ?_
  refine wc_region ?_   -- region 0
  refine wl_det rfl rfl (det_assign rfl) rfl ?_
  refine wl_det rfl rfl (det_assign rfl) rfl ?_
  refine wl_nil ?_
  refine pn_then ?_
  refine wc_seq ?_
  refine wc_region ?_   -- region 1
  refine wl_det rfl rfl (det_build (cs := [_, _, _, _, _, _, _, _, _]) pl43 zr43 rfl rfl (by rfl)) rfl ?_
  refine wl_act (act_box (cs := [_, _, _, _, _, _, _, _, _]) rfl rfl) rfl rfl rfl ?_
  rintro _ _ _ ⟨b1_1, rfl, rfl, rfl⟩
  refine wl_det rfl rfl (det_assign rfl) rfl ?_
  refine wl_nil ?_
  refine pn_then ?_
  refine wc_seq ?_
  refine wc_region ?_   -- region 2
  refine wl_det rfl rfl (det_assign rfl) rfl ?_
  refine wl_nil ?_
  refine pn_then ?_
  obtain ⟨q6, h, ho6⟩ := bind_some h
  refine wc_meetG (G := ((List (List Int)) × Int × Int × (List (List Int)) × Int × Int × (List GPacket) × (List (List Int)) × Bool × Int) × Option Addr × Nat × Nat × Option Addr × Nat × Nat × Option Addr × Nat × Nat × Option Addr × Nat × Nat × Unit) (fun (s6, _, _, _, _, _, _, _, _, _, _, _, _, _) => s6 = q6) (fun (s6, _, _, _, _, _, _, _, _, _, _, _, _, _) => [(4, .pointer (some ⟨b1_1, 0, none⟩)), (5, .int .i64 s6.2.2.2.2.2.2.2.2.2)]) (fun (s6, A6_0, n6_0, c6_0, A6_3, n6_3, c6_3, A6_6, n6_6, c6_6, A6_9, n6_9, c6_9, _) => [eBlk b1_1 43 [.slice A6_0 n6_0 c6_0, .int .i64 s6.2.1, .int .i64 s6.2.2.1, .slice A6_3 n6_3 c6_3, .int .i64 s6.2.2.2.2.1, .int .i64 s6.2.2.2.2.2.1, .slice A6_6 n6_6 c6_6, .slice A6_9 n6_9 c6_9, .bool s6.2.2.2.2.2.2.2.2.1], eS (lSlice (lInt .u8)) 25 A6_3 n6_3 c6_3 s6.2.2.2.1, eS lGPacket 27 A6_6 n6_6 c6_6 s6.2.2.2.2.2.2.1, eS (lSlice (lInt .u8)) 25 A6_9 n6_9 c6_9 s6.2.2.2.2.2.2.2.1]) (fun (s6, A6_0, n6_0, c6_0, _, _, _, _, _, _, _, _, _, _) => [fV (lSlice (lSlice (lInt .u8))) (.slice A6_0 n6_0 c6_0) s6.1]) ?_ ?_
  · refine wc_seq ?_
    refine wc_region ?_   -- region 3
    refine wl_det rfl rfl (det_assign rfl) rfl ?_
    refine wl_nil ?_
    refine pn_then ?_
    refine wc_block ?_
    refine wc_st (fun _ h => h.zeroF (lSlice (lInt .u8)) none 0) ?_
    refine wc_st (fun _ h => h.zeroS (lSlice (lInt .u8)) 25 none) ?_
    refine wc_st (fun _ h => h.zeroS lGPacket 27 none) ?_
    refine wc_st (fun _ h => h.zeroS (lSlice (lInt .u8)) 25 none) ?_
    obtain ⟨k10, hk10⟩ := loopV_some.1 h
    refine wc_loop (G := Nat × ((List (List Int)) × Int × Int × (List (List Int)) × Int × Int × (List GPacket) × (List (List Int)) × Bool × Int × Int) × Option Addr × Nat × Nat × Option Addr × Nat × Nat × Option Addr × Nat × Nat × Option Addr × Nat × Nat × Unit) (fun g => IterN (treatylaw42_play_l10 a0) g.1 g.2.1 q6) (fun g => g.1) (fun (_, s10, _, _, _, _, _, _, _, _, _, _, _, _, _) => [(0, .slice A0 a0.length c0), (4, .pointer (some ⟨b1_1, 0, none⟩)), (5, .int .i64 s10.2.2.2.2.2.2.2.2.2.1), (6, .int .i64 s10.2.2.2.2.2.2.2.2.2.2)]) (fun (_, s10, A10_0, n10_0, c10_0, A10_3, n10_3, c10_3, A10_6, n10_6, c10_6, A10_9, n10_9, c10_9, _) => [eBlk b1_1 43 [.slice A10_0 n10_0 c10_0, .int .i64 s10.2.1, .int .i64 s10.2.2.1, .slice A10_3 n10_3 c10_3, .int .i64 s10.2.2.2.2.1, .int .i64 s10.2.2.2.2.2.1, .slice A10_6 n10_6 c10_6, .slice A10_9 n10_9 c10_9, .bool s10.2.2.2.2.2.2.2.2.1], eS (lSlice (lInt .u8)) 25 A10_3 n10_3 c10_3 s10.2.2.2.1, eS lGPacket 27 A10_6 n10_6 c10_6 s10.2.2.2.2.2.2.1, eS (lSlice (lInt .u8)) 25 A10_9 n10_9 c10_9 s10.2.2.2.2.2.2.2.1]) (fun (_, s10, A10_0, n10_0, c10_0, _, _, _, _, _, _, _, _, _, _) => [fV (lSlice (lInt .i64)) (.slice A0 a0.length c0) a0, fV (lSlice (lSlice (lInt .u8))) (.slice A10_0 n10_0 c10_0) s10.1]) (k10, ([], 0, 0, [], 0, 0, [], [], true, 0, 0), none, 0, 0, none, 0, 0, none, 0, 0, none, 0, 0, ()) hk10 ⟨rfl, rfl, rfl, rfl, trivial⟩ (fun _ h => h.to ⟨_, (rs (rs (rs r0))), ⟨_, r0, ⟨_, r0, ⟨_, r0, trivial⟩⟩⟩⟩ ⟨(ms m0), ⟨m0, trivial⟩⟩) ?_
    rintro ⟨k10, s10, A10_0, n10_0, c10_0, A10_3, n10_3, c10_3, A10_6, n10_6, c10_6, A10_9, n10_9, c10_9, _⟩ hI
    obtain ⟨k10, rfl, q10, h, g10⟩ := IterN.pos hI
    dsimp only at h ⊢
    unfold treatylaw42_play_l10 at h
    refine wc_know (fun _ h => h.lenF (ms m0)) (fun e => ?_)
    subst e
    refine wc_know (fun _ h => h.lenO (ms m0)) (fun e => ?_)
    subst e
    refine wc_know (fun _ h => h.lenO (ms (ms m0))) (fun e => ?_)
    subst e
    refine wc_know (fun _ h => h.lenO (ms (ms (ms m0)))) (fun e => ?_)
    subst e
    refine wc_seq ?_
    refine wc_seq ?_
    refine wc_region ?_   -- region 4
    refine wl_det rfl rfl (det_move rfl) rfl ?_
    refine wl_det rfl rfl (det_move rfl) rfl ?_
    refine wl_det rfl rfl (det_len rfl un38) rfl ?_
    refine wl_det rfl rfl (det_lss rfl rfl) rfl ?_
    refine wl_det rfl rfl (det_move rfl) rfl ?_
    refine wl_way (decide (s10.2.2.2.2.2.2.2.2.2.2 < (a0.length : Int))) ((decide (s10.2.2.2.2.2.2.2.2.2.2 < (a0.length : Int))) && (decide (s10.2.2.2.2.2.2.2.2.2.2 < 60))) 3 20 (fun hg => ?_) (fun hg => ?_) ?_
    · have hg4_7 := hg
      refine wl_on rfl rfl rfl rfl hg4_7 ?_
      refine wl_det rfl rfl (det_move rfl) rfl ?_
      refine wl_on rfl rfl rfl rfl hg4_7 ?_
      refine wl_det rfl rfl (det_lss rfl rfl) rfl ?_
      refine wl_det rfl rfl (det_and_on rfl rfl rfl hg4_7) rfl ?_
      exact wl_nil (pn_qnE (ext_cons rfl (ext_skip rfl (ext_skip rfl (ext_skip rfl ext_refl)))) (fun _ h => h))
    · have hg4_7a := hg
      refine wl_off rfl rfl rfl rfl rfl hg4_7a rfl ?_
      refine wl_off rfl rfl rfl rfl rfl hg4_7a rfl ?_
      refine wl_det rfl rfl (det_and_off (q := (decide (s10.2.2.2.2.2.2.2.2.2.2 < 60))) rfl rfl rfl hg4_7a) rfl ?_
      exact wl_nil (pn_qnE (ext_cons rfl (ext_skip rfl (ext_skip rfl (ext_skip rfl ext_refl)))) (fun _ h => h))
    refine wl_nil ?_
    refine pn_then ?_
    refine wc_cond rfl (fun cd14 => ?_) (fun cd14 => ?_)
    · have h := ifT h cd14
      refine wc_skip ?_
      refine pn_then ?_
      obtain ⟨q16, h, ho16⟩ := bind_some h
      refine wc_meetG (G := ((List (List Int)) × Int × Int × (List (List Int)) × Int × Int × (List GPacket) × (List (List Int)) × Bool × Int) × Option Addr × Nat × Nat × Option Addr × Nat × Nat × Option Addr × Nat × Nat × Option Addr × Nat × Nat × Unit) (fun (s16, _, _, _, _, _, _, _, _, _, _, _, _, _) => s16 = q16) (fun (s16, _, _, _, _, _, _, _, _, _, _, _, _, _) => [(0, .slice A0 a0.length c0), (4, .pointer (some ⟨b1_1, 0, none⟩)), (5, .int .i64 s16.2.2.2.2.2.2.2.2.2), (6, .int .i64 s10.2.2.2.2.2.2.2.2.2.2)]) (fun (s16, A16_0, n16_0, c16_0, A16_3, n16_3, c16_3, A16_6, n16_6, c16_6, A16_9, n16_9, c16_9, _) => [eBlk b1_1 43 [.slice A16_0 n16_0 c16_0, .int .i64 s16.2.1, .int .i64 s16.2.2.1, .slice A16_3 n16_3 c16_3, .int .i64 s16.2.2.2.2.1, .int .i64 s16.2.2.2.2.2.1, .slice A16_6 n16_6 c16_6, .slice A16_9 n16_9 c16_9, .bool s16.2.2.2.2.2.2.2.2.1], eS (lSlice (lInt .u8)) 25 A16_3 n16_3 c16_3 s16.2.2.2.1, eS lGPacket 27 A16_6 n16_6 c16_6 s16.2.2.2.2.2.2.1, eS (lSlice (lInt .u8)) 25 A16_9 n16_9 c16_9 s16.2.2.2.2.2.2.2.1]) (fun (s16, A16_0, n16_0, c16_0, _, _, _, _, _, _, _, _, _, _) => [fV (lSlice (lInt .i64)) (.slice A0 a0.length c0) a0, fV (lSlice (lSlice (lInt .u8))) (.slice A16_0 n16_0 c16_0) s16.1]) ?_ ?_
      · refine wc_block ?_
        refine wc_seq ?_
        refine wc_region ?_   -- region 6
        refine wl_det rfl rfl (det_assign rfl) rfl ?_
        refine wl_nil ?_
        refine pn_then ?_
        obtain ⟨q20, h, ho20⟩ := bind_some h
        refine wc_meetG (G := Int × Unit) (fun (s20, _) => s20 = q20) (fun (s20, _) => [(0, .slice A0 a0.length c0), (4, .pointer (some ⟨b1_1, 0, none⟩)), (5, .int .i64 s10.2.2.2.2.2.2.2.2.2.1), (6, .int .i64 s10.2.2.2.2.2.2.2.2.2.2), (7, .int .i64 s20)]) (fun (_, _) => [eBlk b1_1 43 [.slice A10_0 s10.1.length c10_0, .int .i64 s10.2.1, .int .i64 s10.2.2.1, .slice A10_3 s10.2.2.2.1.length c10_3, .int .i64 s10.2.2.2.2.1, .int .i64 s10.2.2.2.2.2.1, .slice A10_6 s10.2.2.2.2.2.2.1.length c10_6, .slice A10_9 s10.2.2.2.2.2.2.2.1.length c10_9, .bool s10.2.2.2.2.2.2.2.2.1], eS (lSlice (lInt .u8)) 25 A10_3 s10.2.2.2.1.length c10_3 s10.2.2.2.1, eS lGPacket 27 A10_6 s10.2.2.2.2.2.2.1.length c10_6 s10.2.2.2.2.2.2.1, eS (lSlice (lInt .u8)) 25 A10_9 s10.2.2.2.2.2.2.2.1.length c10_9 s10.2.2.2.2.2.2.2.1]) (fun (_, _) => [fV (lSlice (lInt .i64)) (.slice A0 a0.length c0) a0, fV (lSlice (lSlice (lInt .u8))) (.slice A10_0 s10.1.length c10_0) s10.1]) ?_ ?_
        · refine wc_seq ?_
          refine wc_region ?_   -- region 7
          refine wl_det rfl rfl (det_move rfl) rfl ?_
          refine wl_det rfl rfl (det_nilCheckB rfl) rfl ?_
          refine wl_det rfl rfl (det_field rfl fd43_2 rfl) rfl ?_
          refine wl_det rfl rfl (det_load rfl m0 (by rfl) na31 us31) rfl ?_
          refine wl_det rfl rfl (det_len rfl un31) rfl ?_
          refine wl_det rfl rfl (det_gtr rfl rfl) rfl ?_
          refine wl_nil ?_
          refine pn_then ?_
          refine wc_cond rfl (fun cd23 => ?_) (fun cd23 => ?_)
          · have h := ifT h cd23
            obtain ⟨k8_p1, h⟩ := chk_some h
            refine wc_st (fun _ h => h.openF m0 k8_p1) ?_
            obtain ⟨k8_p3, h⟩ := chk_some h
            refine dx_region 12 [[], [], [0, 1], [0, 1, 2], [0, 1, 2, 3], [0, 1, 2, 3, 4], [], [6], [6, 7], [6, 7, 8], [6, 7, 8, 9], [0, 1, 2, 3, 4, 5, 6, 7, 8, 9, 10], [0, 1, 2, 3, 4, 5, 6, 7, 8, 9, 10, 11]] mixed (ord := (.det 0 (.det 1 (.det 2 (.det 3 (.det 4 (.det 5 (.det 6 (.det 7 (.det 8 (.det 9 (.det 10 (.det 11 .done))))))))))))) (by kernel_rfl) ?_   -- region 8
            refine hx_det rfl rfl rfl nofun (det_move rfl) rfl ?_
            refine hx_det rfl rfl rfl nofun (det_move rfl) rfl ?_
            refine hx_det rfl rfl rfl nofun (det_indexP rfl rfl (ms m0) k8_p1 m0 un38 sz3) rfl ?_
            refine hx_det rfl rfl rfl nofun (det_loadP (off := 0) rfl m0 (by rfl) (by rfl) (loaded_1 na3 us3)) rfl ?_
            refine hx_det rfl rfl rfl nofun (det_shr rfl rfl rfl) rfl ?_
            refine hx_det rfl rfl rfl nofun (det_band rfl rfl) rfl ?_
            refine hx_det rfl rfl rfl nofun (det_move rfl) rfl ?_
            refine hx_det rfl rfl rfl nofun (det_nilCheckB rfl) rfl ?_
            refine hx_det rfl rfl rfl nofun (det_field rfl fd43_2 rfl) rfl ?_
            refine hx_det rfl rfl rfl nofun (det_load rfl m0 (by rfl) na31 us31) rfl ?_
            refine hx_det rfl rfl rfl nofun (det_len rfl un31) rfl ?_
            refine hx_det rfl rfl rfl nofun (det_remB rfl rfl k8_p3) rfl ?_
            refine hx_end ?_
            refine wl_det rfl rfl (det_assign rfl) rfl ?_
            refine wl_nil ?_
            replace h := Option.some.inj h
            subst h
            exact pn_meetG (((bAnd .i64 (bShr .i64 (ix a0 s10.2.2.2.2.2.2.2.2.2.2) 3) 1023).tmod (s10.2.2.2.2.2.2.1.length : Int)), ()) rfl ⟨rfl, rfl, rfl, rfl, rfl, trivial⟩ (fun _ h => h.to ⟨_, r0, ⟨_, r0, ⟨_, r0, ⟨_, r0, trivial⟩⟩⟩⟩ ⟨(ms m0), ⟨(ms (ms m0)), trivial⟩⟩)
          · have h := ifF h cd23
            refine wc_skip ?_
            replace h := Option.some.inj h
            subst h
            exact pn_meetG (0, ()) rfl ⟨rfl, rfl, rfl, rfl, rfl, trivial⟩ (fun _ h => h.to ⟨_, r0, ⟨_, r0, ⟨_, r0, ⟨_, r0, trivial⟩⟩⟩⟩ ⟨m0, ⟨(ms m0), trivial⟩⟩)
        rintro ⟨s20, _⟩ e20
        dsimp only at e20 ⊢
        subst e20
        have h := ho20
        refine wc_seq ?_
        refine wc_region ?_   -- region 9
        refine wl_det rfl rfl (det_move rfl) rfl ?_
        refine wl_det rfl rfl (det_move rfl) rfl ?_
        obtain ⟨k9_2, h⟩ := chk_some h
        refine wl_st (fun _ h => h.openF m0 k9_2) ?_
        refine wl_det rfl rfl (det_indexP rfl rfl (ms m0) k9_2 m0 un38 sz3) rfl ?_
        refine wl_det rfl rfl (det_loadP (off := 0) rfl m0 (by rfl) (by rfl) (loaded_1 na3 us3)) rfl ?_
        refine wl_det rfl rfl (det_band rfl rfl) rfl ?_
        refine wl_det rfl rfl (det_assign rfl) rfl ?_
        refine wl_nil ?_
        refine pn_then ?_
        refine wc_block ?_
        refine wc_seq ?_
        refine wc_region ?_   -- region 12
        refine wl_det rfl rfl (det_move rfl) rfl ?_
        refine wl_det rfl rfl (det_lss rfl rfl) rfl ?_
        refine wl_det rfl rfl (det_assign rfl) rfl ?_
        refine wl_nil ?_
        refine pn_then ?_
        refine wc_cond rfl (fun cd30 => ?_) (fun cd30 => ?_)
        · have h := ifT h cd30
          obtain ⟨q31, h, ho31⟩ := bind_some h
          refine wc_meetG (G := ((List (List Int)) × Int × Int × Int) × Nat × Option Addr × Nat × Nat × Unit) (fun (s31, _, _, _, _, _) => s31 = q31) (fun (s31, B31_0, _, _, _, _) => [(0, .slice A0 a0.length c0), (4, .pointer (some ⟨b1_1, 0, none⟩)), (5, .int .i64 s10.2.2.2.2.2.2.2.2.2.1), (6, .int .i64 s10.2.2.2.2.2.2.2.2.2.2), (9, .pointer (some ⟨B31_0, 0, none⟩)), (10, .int .i64 s31.2.2.2)]) (fun (s31, B31_0, A31_1, n31_1, c31_1, _) => [eBlk b1_1 43 [.slice A10_0 s10.1.length c10_0, .int .i64 s10.2.1, .int .i64 s10.2.2.1, .slice A10_3 s10.2.2.2.1.length c10_3, .int .i64 s10.2.2.2.2.1, .int .i64 s10.2.2.2.2.2.1, .slice A10_6 s10.2.2.2.2.2.2.1.length c10_6, .slice A10_9 s10.2.2.2.2.2.2.2.1.length c10_9, .bool s10.2.2.2.2.2.2.2.2.1], eS (lSlice (lInt .u8)) 25 A10_3 s10.2.2.2.1.length c10_3 s10.2.2.2.1, eS lGPacket 27 A10_6 s10.2.2.2.2.2.2.1.length c10_6 s10.2.2.2.2.2.2.1, eS (lSlice (lInt .u8)) 25 A10_9 s10.2.2.2.2.2.2.2.1.length c10_9 s10.2.2.2.2.2.2.2.1, eBlk B31_0 24 [.slice A31_1 n31_1 c31_1, .int .i64 s31.2.1, .int .i64 s31.2.2.1], eS (lSlice (lInt .u8)) 25 A31_1 n31_1 c31_1 s31.1]) (fun (_, _, _, _, _, _) => [fV (lSlice (lInt .i64)) (.slice A0 a0.length c0) a0, fV (lSlice (lSlice (lInt .u8))) (.slice A10_0 s10.1.length c10_0) s10.1]) ?_ ?_
          · refine dx_regionZ (Z := St C [_, _, _, _] [_, _, _]) 12 [[], [0], [0, 1], [0, 1, 2], [], [4], [0, 1, 2, 3, 4, 5], [0, 1, 2, 3, 4, 5, 6], [0, 1, 2, 3, 4, 5, 6, 7], [0, 1, 2, 3, 4, 5, 6, 7], [], [0, 1, 2, 3, 4, 5, 6, 7, 8, 10], [0, 1, 2, 3, 4, 5, 6, 7, 8, 9, 10, 11]] mixed (ord := (.det 0 (.det 1 (.det 2 (.det 3 (.det 4 (.alt 5 (.alt 6 (.det 7 (.det 8 (.det 9 (.alt 10 (.alt 11 .done .dead) .dead)))) (.alt 10 (.alt 6 (.det 7 (.det 8 (.det 9 (.alt 11 .done .dead)))) .dead) .dead)) (.alt 10 (.alt 5 (.alt 6 (.det 7 (.det 8 (.det 9 (.alt 11 .done .dead)))) .dead) .dead) .dead)))))))) (by kernel_rfl) (fun _ h => h.to ⟨_, r0, ⟨_, r0, ⟨_, r0, ⟨_, r0, trivial⟩⟩⟩⟩ ⟨m0, ⟨(ms m0), ⟨(ms (ms m0)), trivial⟩⟩⟩) ?_   -- region 13
            refine hx_det rfl rfl rfl nofun (det_move rfl) rfl ?_
            refine hx_det rfl rfl rfl nofun (det_nilCheckB rfl) rfl ?_
            refine hx_det rfl rfl rfl nofun (det_field rfl fd43_0 rfl) rfl ?_
            refine hx_det rfl rfl rfl nofun (det_loadN (cells := [_, _, _]) rfl m0 (by rfl) ag24 sz24) rfl ?_
            refine hx_det rfl rfl rfl nofun (det_move rfl) rfl ?_
            refine hx_or ?_ ?_
            · obtain ⟨r13_5, hr13_5, h⟩ := bind_some h
              refine hx_mut rfl rfl rfl (act_callS (cap := []) (W_treatylaw42_message s10.2.2.2.2.2.2.2.2.2.1 r13_5 hr13_5) rfl rfl rfl bd13 rfl trivial) rfl (by rintro _ _ _ ⟨_, _, ⟨y13_5A0, y13_5n0, y13_5c0, rfl, rfl, rfl⟩, rfl, rfl⟩ w hs; exact hs.to ⟨_, (rs r0), ⟨_, (rs r0), ⟨_, (rs r0), ⟨_, (rs r0), trivial⟩⟩⟩⟩ ⟨m0, ⟨(ms m0), ⟨(ms (ms m0)), trivial⟩⟩⟩) ?_
              rintro _ _ _ ⟨_, _, ⟨y13_5A0, y13_5n0, y13_5c0, rfl, rfl, rfl⟩, rfl, rfl⟩
              dsimp only [List.nil_append, List.cons_append]
              refine hx_or ?_ ?_
              · refine hx_st (fun _ h => h.shutS r0) ?_
                obtain ⟨r13_6, hr13_6, h⟩ := bind_some h
                refine hx_mut rfl rfl rfl (act_callS (cap := []) (W_link_Send (GEndpoint.mk s10.1 s10.2.1 s10.2.2.1) r13_5 A10_0 s10.1.length c10_0 y13_5A0 y13_5n0 y13_5c0 r13_6 hr13_6) rfl rfl rfl bd22 rfl ⟨(ms (ms (ms m0))), ⟨m0, trivial⟩⟩) rfl (by rintro _ _ _ ⟨_, _, ⟨y13_6A0, y13_6n0, y13_6c0, rfl, rfl, rfl⟩, rfl, rfl⟩ w hs; exact hs.to ⟨_, (rs r0), ⟨_, (rs r0), ⟨_, (rs r0), ⟨_, (rs r0), trivial⟩⟩⟩⟩ ⟨(ms m0), ⟨(ms (ms m0)), ⟨(ms (ms (ms m0))), trivial⟩⟩⟩) ?_
                rintro _ _ _ ⟨_, _, ⟨y13_6A0, y13_6n0, y13_6c0, rfl, rfl, rfl⟩, rfl, rfl⟩
                dsimp only [List.nil_append, List.cons_append]
                refine hx_det rfl rfl rfl nofun (det_move rfl) rfl ?_
                refine hx_det rfl rfl rfl nofun (det_extract rfl rfl) rfl ?_
                refine hx_det rfl rfl rfl nofun (det_extract rfl rfl) rfl ?_
                refine hx_mut rfl rfl rfl (act_alloc (cs := [_, _, _]) zr24 rfl) rfl (by rintro _ _ _ ⟨b13_10, rfl, rfl, rfl⟩ w hs; exact hs.to ⟨_, (rs (rs r0)), ⟨_, (rs (rs r0)), ⟨_, (rs (rs r0)), ⟨_, (rs (rs r0)), trivial⟩⟩⟩⟩ ⟨(ms m0), ⟨(ms (ms m0)), ⟨(ms (ms (ms m0))), trivial⟩⟩⟩) ?_
                rintro _ _ _ ⟨b13_10, rfl, rfl, rfl⟩
                refine hx_mut0 rfl rfl rfl (act_store (cells := [_, _, _]) (cs' := [_, _, _]) rfl rfl rfl s0 (by rfl) (of_decide_eq_true rfl) sz24 ⟨rfl, rfl, rfl, trivial⟩) (by rintro _ _ _ ⟨rfl, rfl⟩ w hs; exact hs.to ⟨_, (rs (rs r0)), ⟨_, (rs (rs r0)), ⟨_, (rs (rs r0)), ⟨_, (rs (rs r0)), trivial⟩⟩⟩⟩ ⟨(ms m0), ⟨(ms (ms m0)), ⟨(ms (ms (ms m0))), trivial⟩⟩⟩) ?_
                rintro _ _ _ ⟨rfl, rfl⟩
                refine hx_end ?_
                refine wl_know (fun _ h => h.lenF m0) (fun e => ?_)
                subst e
                refine wl_know (fun _ h => h.lenO (ms m0)) (fun e => ?_)
                subst e
                refine wl_det rfl rfl (det_assign rfl) rfl ?_
                refine wl_nil ?_
                replace h := Option.some.inj h
                subst h
                exact pn_meetG ((r13_6.1.Out, r13_6.1.Acked, r13_6.1.Got, r13_6.2), b13_10, y13_6A0, r13_6.1.Out.length, y13_6c0, ()) rfl ⟨rfl, rfl, rfl, rfl, rfl, rfl, trivial⟩ (fun _ h => h.to ⟨_, (rs (rs r0)), ⟨_, (rs (rs r0)), ⟨_, (rs (rs r0)), ⟨_, (rs (rs r0)), ⟨_, r0, ⟨_, r0, trivial⟩⟩⟩⟩⟩⟩ ⟨(ms (ms m0)), ⟨(ms (ms (ms m0))), trivial⟩⟩)
              refine hx_or ?_ trivial
              refine hx_mut rfl rfl rfl (act_alloc (cs := [_, _, _]) zr24 rfl) rfl (by rintro _ _ _ ⟨b13_10, rfl, rfl, rfl⟩ w hs; exact hs.to ⟨_, (rs (rs r0)), ⟨_, (rs (rs r0)), ⟨_, (rs (rs r0)), ⟨_, (rs (rs r0)), trivial⟩⟩⟩⟩ ⟨m0, ⟨(ms m0), ⟨(ms (ms m0)), trivial⟩⟩⟩) ?_
              rintro _ _ _ ⟨b13_10, rfl, rfl, rfl⟩
              refine hx_st (fun _ h => h.shutS (rs r0)) ?_
              obtain ⟨r13_6, hr13_6, h⟩ := bind_some h
              refine hx_mut rfl rfl rfl (act_callS (cap := []) (W_link_Send (GEndpoint.mk s10.1 s10.2.1 s10.2.2.1) r13_5 A10_0 s10.1.length c10_0 y13_5A0 y13_5n0 y13_5c0 r13_6 hr13_6) rfl rfl rfl bd22 rfl ⟨(ms (ms (ms m0))), ⟨m0, trivial⟩⟩) rfl (by rintro _ _ _ ⟨_, _, ⟨y13_6A0, y13_6n0, y13_6c0, rfl, rfl, rfl⟩, rfl, rfl⟩ w hs; exact hs.to ⟨_, (rs (rs r0)), ⟨_, (rs (rs r0)), ⟨_, (rs (rs r0)), ⟨_, (rs (rs r0)), trivial⟩⟩⟩⟩ ⟨(ms m0), ⟨(ms (ms m0)), ⟨(ms (ms (ms m0))), trivial⟩⟩⟩) ?_
              rintro _ _ _ ⟨_, _, ⟨y13_6A0, y13_6n0, y13_6c0, rfl, rfl, rfl⟩, rfl, rfl⟩
              dsimp only [List.nil_append, List.cons_append]
              refine hx_det rfl rfl rfl nofun (det_move rfl) rfl ?_
              refine hx_det rfl rfl rfl nofun (det_extract rfl rfl) rfl ?_
              refine hx_det rfl rfl rfl nofun (det_extract rfl rfl) rfl ?_
              refine hx_mut0 rfl rfl rfl (act_store (cells := [_, _, _]) (cs' := [_, _, _]) rfl rfl rfl (ss s0) (by rfl) (of_decide_eq_true rfl) sz24 ⟨rfl, rfl, rfl, trivial⟩) (by rintro _ _ _ ⟨rfl, rfl⟩ w hs; exact hs.to ⟨_, (rs (rs r0)), ⟨_, (rs (rs r0)), ⟨_, (rs (rs r0)), ⟨_, (rs (rs r0)), trivial⟩⟩⟩⟩ ⟨(ms m0), ⟨(ms (ms m0)), ⟨(ms (ms (ms m0))), trivial⟩⟩⟩) ?_
              rintro _ _ _ ⟨rfl, rfl⟩
              refine hx_end ?_
              refine wl_know (fun _ h => h.lenF m0) (fun e => ?_)
              subst e
              refine wl_know (fun _ h => h.lenO m0) (fun e => ?_)
              subst e
              refine wl_det rfl rfl (det_assign rfl) rfl ?_
              refine wl_nil ?_
              replace h := Option.some.inj h
              subst h
              exact pn_meetG ((r13_6.1.Out, r13_6.1.Acked, r13_6.1.Got, r13_6.2), b13_10, y13_6A0, r13_6.1.Out.length, y13_6c0, ()) rfl ⟨rfl, rfl, rfl, rfl, rfl, rfl, trivial⟩ (fun _ h => h.to ⟨_, (rs (rs r0)), ⟨_, (rs (rs r0)), ⟨_, (rs (rs r0)), ⟨_, (rs (rs r0)), ⟨_, (rs r0), ⟨_, r0, trivial⟩⟩⟩⟩⟩⟩ ⟨(ms (ms m0)), ⟨(ms (ms (ms m0))), trivial⟩⟩)
            refine hx_or ?_ trivial
            refine hx_mut rfl rfl rfl (act_alloc (cs := [_, _, _]) zr24 rfl) rfl (by rintro _ _ _ ⟨b13_10, rfl, rfl, rfl⟩ w hs; exact hs.to ⟨_, (rs r0), ⟨_, (rs r0), ⟨_, (rs r0), ⟨_, (rs r0), trivial⟩⟩⟩⟩ ⟨m0, ⟨(ms m0), ⟨(ms (ms m0)), trivial⟩⟩⟩) ?_
            rintro _ _ _ ⟨b13_10, rfl, rfl, rfl⟩
            obtain ⟨r13_5, hr13_5, h⟩ := bind_some h
            refine hx_mut rfl rfl rfl (act_callS (cap := []) (W_treatylaw42_message s10.2.2.2.2.2.2.2.2.2.1 r13_5 hr13_5) rfl rfl rfl bd13 rfl trivial) rfl (by rintro _ _ _ ⟨_, _, ⟨y13_5A0, y13_5n0, y13_5c0, rfl, rfl, rfl⟩, rfl, rfl⟩ w hs; exact hs.to ⟨_, (rs (rs r0)), ⟨_, (rs (rs r0)), ⟨_, (rs (rs r0)), ⟨_, (rs (rs r0)), trivial⟩⟩⟩⟩ ⟨m0, ⟨(ms m0), ⟨(ms (ms m0)), trivial⟩⟩⟩) ?_
            rintro _ _ _ ⟨_, _, ⟨y13_5A0, y13_5n0, y13_5c0, rfl, rfl, rfl⟩, rfl, rfl⟩
            dsimp only [List.nil_append, List.cons_append]
            refine hx_st (fun _ h => h.shutS r0) ?_
            obtain ⟨r13_6, hr13_6, h⟩ := bind_some h
            refine hx_mut rfl rfl rfl (act_callS (cap := []) (W_link_Send (GEndpoint.mk s10.1 s10.2.1 s10.2.2.1) r13_5 A10_0 s10.1.length c10_0 y13_5A0 y13_5n0 y13_5c0 r13_6 hr13_6) rfl rfl rfl bd22 rfl ⟨(ms (ms (ms m0))), ⟨m0, trivial⟩⟩) rfl (by rintro _ _ _ ⟨_, _, ⟨y13_6A0, y13_6n0, y13_6c0, rfl, rfl, rfl⟩, rfl, rfl⟩ w hs; exact hs.to ⟨_, (rs (rs r0)), ⟨_, (rs (rs r0)), ⟨_, (rs (rs r0)), ⟨_, (rs (rs r0)), trivial⟩⟩⟩⟩ ⟨(ms m0), ⟨(ms (ms m0)), ⟨(ms (ms (ms m0))), trivial⟩⟩⟩) ?_
            rintro _ _ _ ⟨_, _, ⟨y13_6A0, y13_6n0, y13_6c0, rfl, rfl, rfl⟩, rfl, rfl⟩
            dsimp only [List.nil_append, List.cons_append]
            refine hx_det rfl rfl rfl nofun (det_move rfl) rfl ?_
            refine hx_det rfl rfl rfl nofun (det_extract rfl rfl) rfl ?_
            refine hx_det rfl rfl rfl nofun (det_extract rfl rfl) rfl ?_
            refine hx_mut0 rfl rfl rfl (act_store (cells := [_, _, _]) (cs' := [_, _, _]) rfl rfl rfl (ss s0) (by rfl) (of_decide_eq_true rfl) sz24 ⟨rfl, rfl, rfl, trivial⟩) (by rintro _ _ _ ⟨rfl, rfl⟩ w hs; exact hs.to ⟨_, (rs (rs r0)), ⟨_, (rs (rs r0)), ⟨_, (rs (rs r0)), ⟨_, (rs (rs r0)), trivial⟩⟩⟩⟩ ⟨(ms m0), ⟨(ms (ms m0)), ⟨(ms (ms (ms m0))), trivial⟩⟩⟩) ?_
            rintro _ _ _ ⟨rfl, rfl⟩
            refine hx_end ?_
            refine wl_know (fun _ h => h.lenF m0) (fun e => ?_)
            subst e
            refine wl_know (fun _ h => h.lenO m0) (fun e => ?_)
            subst e
            refine wl_det rfl rfl (det_assign rfl) rfl ?_
            refine wl_nil ?_
            replace h := Option.some.inj h
            subst h
            exact pn_meetG ((r13_6.1.Out, r13_6.1.Acked, r13_6.1.Got, r13_6.2), b13_10, y13_6A0, r13_6.1.Out.length, y13_6c0, ()) rfl ⟨rfl, rfl, rfl, rfl, rfl, rfl, trivial⟩ (fun _ h => h.to ⟨_, (rs (rs r0)), ⟨_, (rs (rs r0)), ⟨_, (rs (rs r0)), ⟨_, (rs (rs r0)), ⟨_, (rs r0), ⟨_, r0, trivial⟩⟩⟩⟩⟩⟩ ⟨(ms (ms m0)), ⟨(ms (ms (ms m0))), trivial⟩⟩)
          rintro ⟨s31, B31_0, A31_1, n31_1, c31_1, _⟩ e31
          dsimp only at e31 ⊢
          subst e31
          have h := ho31
          refine wc_know (fun _ h => h.lenO (ms (ms (ms (ms (ms m0)))))) (fun e => ?_)
          subst e
          refine wc_seq ?_
          refine wc_region ?_   -- region 14
          refine wl_det rfl rfl (det_move rfl) rfl ?_
          refine wl_det rfl rfl (det_move rfl) rfl ?_
          refine wl_det rfl rfl (det_nilCheckB rfl) rfl ?_
          refine wl_det rfl rfl (det_field rfl fd43_4 rfl) rfl ?_
          refine wl_det rfl rfl (det_load rfl m0 (by rfl) na4 us4) rfl ?_
          refine wl_det rfl rfl (det_move rfl) rfl ?_
          refine wl_way s10.2.2.2.2.2.2.2.2.1 (s10.2.2.2.2.2.2.2.2.1 && (decide (s31.2.2.2 = 0))) 3 88 (fun hg => ?_) (fun hg => ?_) ?_
          · have hg14_8 := hg
            refine wl_on rfl rfl rfl rfl hg14_8 ?_
            refine wl_det rfl rfl (det_move rfl) rfl ?_
            refine wl_on rfl rfl rfl rfl hg14_8 ?_
            refine wl_det rfl rfl (det_eql rfl rfl) rfl ?_
            refine wl_det rfl rfl (det_and_on rfl rfl rfl hg14_8) rfl ?_
            exact wl_nil (pn_qnE (ext_cons rfl (ext_skip rfl (ext_skip rfl (ext_skip rfl ext_refl)))) (fun _ h => h))
          · have hg14_8a := hg
            refine wl_off rfl rfl rfl rfl rfl hg14_8a rfl ?_
            refine wl_off rfl rfl rfl rfl rfl hg14_8a rfl ?_
            refine wl_det rfl rfl (det_and_off (q := (decide (s31.2.2.2 = 0))) rfl rfl rfl hg14_8a) rfl ?_
            exact wl_nil (pn_qnE (ext_cons rfl (ext_skip rfl (ext_skip rfl (ext_skip rfl ext_refl)))) (fun _ h => h))
          refine wl_det rfl rfl (det_nilCheckB rfl) rfl ?_
          refine wl_det rfl rfl (det_field rfl fd43_4 rfl) rfl ?_
          refine wl_act0 (act_store (cells := [_]) (cs' := [_, _, _, _, _, _, _, _, _]) rfl rfl rfl s0 (by rfl) (of_decide_eq_true rfl) sz4 ⟨rfl, trivial⟩) rfl rfl ?_
          rintro _ _ _ ⟨rfl, rfl⟩
          refine wl_nil ?_
          refine pn_then ?_
          refine wc_region ?_   -- region 15
          refine wl_det rfl rfl (det_move rfl) rfl ?_
          refine wl_det rfl rfl (det_loadN (cells := [_, _, _]) rfl (ms (ms (ms (ms m0)))) (by rfl) ag24 sz24) rfl ?_
          refine wl_det rfl rfl (det_move rfl) rfl ?_
          refine wl_det rfl rfl (det_add rfl rfl) rfl ?_
          refine wl_det rfl rfl (det_nilCheckB rfl) rfl ?_
          refine wl_det rfl rfl (det_field rfl fd43_0 rfl) rfl ?_
          refine wl_act0 (act_store (cells := [_, _, _]) (cs' := [_, _, _, _, _, _, _, _, _]) rfl rfl rfl s0 (by rfl) (of_decide_eq_true rfl) sz24 ⟨rfl, rfl, rfl, trivial⟩) rfl rfl ?_
          rintro _ _ _ ⟨rfl, rfl⟩
          refine wl_det rfl rfl (det_assign rfl) rfl ?_
          refine wl_nil ?_
          refine pn_block ?_
          refine pn_block ?_
          refine pn_st (fun _ h => h.shutS (rs (rs (rs (rs (rs r0)))))) ?_
          replace h := Option.some.inj h
          subst h
          exact pn_meetG ((s31.1, s31.2.1, s31.2.2.1, s10.2.2.2.1, s10.2.2.2.2.1, s10.2.2.2.2.2.1, s10.2.2.2.2.2.2.1, s10.2.2.2.2.2.2.2.1, (s10.2.2.2.2.2.2.2.2.1 && (decide (s31.2.2.2 = 0))), (w64 (s10.2.2.2.2.2.2.2.2.2.1 + 1))), A31_1, s31.1.length, c31_1, A10_3, s10.2.2.2.1.length, c10_3, A10_6, s10.2.2.2.2.2.2.1.length, c10_6, A10_9, s10.2.2.2.2.2.2.2.1.length, c10_9, ()) rfl ⟨rfl, rfl, rfl, rfl, trivial⟩ (fun _ h => h.to ⟨_, r0, ⟨_, r0, ⟨_, r0, ⟨_, r0, trivial⟩⟩⟩⟩ ⟨(ms m0), ⟨m0, trivial⟩⟩)
        · have h := ifF h cd30
          refine wc_seq ?_
          refine wc_region ?_   -- region 16
          refine wl_det rfl rfl (det_move rfl) rfl ?_
          refine wl_det rfl rfl (det_lss rfl rfl) rfl ?_
          refine wl_det rfl rfl (det_assign rfl) rfl ?_
          refine wl_nil ?_
          refine pn_then ?_
          refine wc_cond rfl (fun cd38 => ?_) (fun cd38 => ?_)
          · have h := ifT h cd38
            refine dx_regionZ (Z := St C [_, _, _] [_, _, _]) 11 [[], [], [1], [1, 2], [1, 2, 3], [], [5], [5, 6], [5, 6, 7], [5, 6, 7, 8], [1, 2, 3, 4, 5, 6, 7, 8, 9], [0, 1, 2, 3, 4, 5, 6, 7, 8, 9, 10], [0, 1, 2, 3, 4, 5, 6, 7, 8, 9, 10, 11], [0, 1, 2, 3, 4, 5, 6, 7, 8, 9, 10, 11, 12]] mixed (ord := (.det 0 (.det 1 (.det 2 (.det 3 (.det 4 (.det 5 (.det 6 (.det 7 (.det 8 (.alt 9 (.alt 10 .done .dead) .dead))))))))))) (by kernel_rfl) (fun _ h => h.to ⟨_, r0, ⟨_, r0, ⟨_, (rs r0), trivial⟩⟩⟩ ⟨m0, ⟨(ms m0), ⟨(ms (ms m0)), trivial⟩⟩⟩) ?_   -- region 17
            refine hx_det rfl rfl rfl nofun (det_move rfl) rfl ?_
            refine hx_det rfl rfl rfl nofun (det_move rfl) rfl ?_
            refine hx_det rfl rfl rfl nofun (det_nilCheckB rfl) rfl ?_
            refine hx_det rfl rfl rfl nofun (det_field rfl fd43_2 rfl) rfl ?_
            refine hx_det rfl rfl rfl nofun (det_load rfl m0 (by rfl) na31 us31) rfl ?_
            refine hx_det rfl rfl rfl nofun (det_move rfl) rfl ?_
            refine hx_det rfl rfl rfl nofun (det_nilCheckB rfl) rfl ?_
            refine hx_det rfl rfl rfl nofun (det_field rfl fd43_0 rfl) rfl ?_
            refine hx_det rfl rfl rfl nofun (det_loadN (cells := [_, _, _]) rfl m0 (by rfl) ag24 sz24) rfl ?_
            obtain ⟨r17_9, hr17_9, h⟩ := bind_some h
            refine hx_mut rfl rfl rfl (act_callS (cap := []) (W_link_Pending (GEndpoint.mk s10.1 s10.2.1 s10.2.2.1) 3 true A10_0 s10.1.length c10_0 r17_9 hr17_9) rfl rfl rfl bd14 rfl ⟨(ms (ms m0)), trivial⟩) rfl (by rintro _ _ _ ⟨_, _, ⟨y17_9A0, y17_9n0, y17_9c0, rfl, rfl, rfl⟩, rfl, rfl⟩ w hs; exact hs.to ⟨_, (rs r0), ⟨_, (rs r0), ⟨_, (rs (rs r0)), trivial⟩⟩⟩ ⟨m0, ⟨(ms m0), ⟨(ms (ms m0)), trivial⟩⟩⟩) ?_
            rintro _ _ _ ⟨_, _, ⟨y17_9A0, y17_9n0, y17_9c0, rfl, rfl, rfl⟩, rfl, rfl⟩
            dsimp only [List.nil_append, List.cons_append]
            obtain ⟨k17_10, h⟩ := chk_some h
            refine hx_mut rfl rfl rfl (act_appendS (L := lGPacket) rfl rfl (ss (ss (ss s0))) (src_O m0) un31 in27 rfl rfl rfl k17_10) rfl (by rintro _ _ _ ⟨A17_10, c17_10, rfl, rfl, rfl⟩ w hs; exact hs.to ⟨_, (rs r0), ⟨_, (rs r0), ⟨_, (rs (rs r0)), trivial⟩⟩⟩ ⟨m0, ⟨(ms m0), ⟨(ms (ms m0)), trivial⟩⟩⟩) ?_
            rintro _ _ _ ⟨A17_10, c17_10, rfl, rfl, rfl⟩
            refine hx_end ?_
            refine wl_know (fun _ h => h.lenO m0) (fun e => ?_)
            subst e
            refine wl_det rfl rfl (det_nilCheckB rfl) rfl ?_
            refine wl_det rfl rfl (det_field rfl fd43_2 rfl) rfl ?_
            refine wl_act0 (act_store (cells := [_]) (cs' := [_, _, _, _, _, _, _, _, _]) rfl rfl rfl (ss s0) (by rfl) (of_decide_eq_true rfl) sz31 ⟨rfl, trivial⟩) rfl rfl ?_
            rintro _ _ _ ⟨rfl, rfl⟩
            refine wl_nil ?_
            refine pn_block ?_
            refine pn_block ?_
            replace h := Option.some.inj h
            subst h
            exact pn_meetG ((s10.1, s10.2.1, s10.2.2.1, s10.2.2.2.1, s10.2.2.2.2.1, s10.2.2.2.2.2.1, (s10.2.2.2.2.2.2.1 ++ r17_9), s10.2.2.2.2.2.2.2.1, s10.2.2.2.2.2.2.2.2.1, s10.2.2.2.2.2.2.2.2.2.1), A10_0, s10.1.length, c10_0, A10_3, s10.2.2.2.1.length, c10_3, A17_10, (s10.2.2.2.2.2.2.1 ++ r17_9).length, c17_10, A10_9, s10.2.2.2.2.2.2.2.1.length, c10_9, ()) rfl ⟨rfl, rfl, rfl, rfl, trivial⟩ (fun _ h => h.to ⟨_, (rs r0), ⟨_, (rs r0), ⟨_, (rs r0), ⟨_, (rs r0), trivial⟩⟩⟩⟩ ⟨(ms m0), ⟨(ms (ms m0)), trivial⟩⟩)
          · have h := ifF h cd38
            refine wc_seq ?_
            refine wc_region ?_   -- region 18
            refine wl_det rfl rfl (det_move rfl) rfl ?_
            refine wl_det rfl rfl (det_nilCheckB rfl) rfl ?_
            refine wl_det rfl rfl (det_field rfl fd43_2 rfl) rfl ?_
            refine wl_det rfl rfl (det_load rfl m0 (by rfl) na31 us31) rfl ?_
            refine wl_det rfl rfl (det_len rfl un31) rfl ?_
            refine wl_det rfl rfl (det_eql rfl rfl) rfl ?_
            refine wl_det rfl rfl (det_assign rfl) rfl ?_
            refine wl_nil ?_
            refine pn_then ?_
            refine wc_cond rfl (fun cd42 => ?_) (fun cd42 => ?_)
            · have h := ifT h cd42
              refine wc_skip ?_
              refine pn_block ?_
              refine pn_block ?_
              replace h := Option.some.inj h
              subst h
              exact pn_meetG ((s10.1, s10.2.1, s10.2.2.1, s10.2.2.2.1, s10.2.2.2.2.1, s10.2.2.2.2.2.1, s10.2.2.2.2.2.2.1, s10.2.2.2.2.2.2.2.1, s10.2.2.2.2.2.2.2.2.1, s10.2.2.2.2.2.2.2.2.2.1), A10_0, s10.1.length, c10_0, A10_3, s10.2.2.2.1.length, c10_3, A10_6, s10.2.2.2.2.2.2.1.length, c10_6, A10_9, s10.2.2.2.2.2.2.2.1.length, c10_9, ()) rfl ⟨rfl, rfl, rfl, rfl, trivial⟩ (fun _ h => h.to ⟨_, r0, ⟨_, r0, ⟨_, r0, ⟨_, r0, trivial⟩⟩⟩⟩ ⟨(ms m0), ⟨(ms (ms m0)), trivial⟩⟩)
            · have h := ifF h cd42
              refine wc_seq ?_
              refine wc_region ?_   -- region 19
              refine wl_det rfl rfl (det_move rfl) rfl ?_
              refine wl_det rfl rfl (det_eql rfl rfl) rfl ?_
              refine wl_det rfl rfl (det_assign rfl) rfl ?_
              refine wl_nil ?_
              refine pn_then ?_
              refine wc_cond rfl (fun cd45 => ?_) (fun cd45 => ?_)
              · have h := ifT h cd45
                obtain ⟨k20_p1, h⟩ := chk_some h
                obtain ⟨k20_p2, h⟩ := chk_some h
                obtain ⟨k20_p3, h⟩ := chk_some h
                obtain ⟨k20_p4, h⟩ := chk_some h
                obtain ⟨k20_p5, h⟩ := chk_some h
                refine dx_regionZ (Z := St C [_, _, _] [_, _, _]) 16 [[], [], [1], [1, 2], [1, 2, 3], [], [], [1, 2, 3, 4, 5, 6], [], [8], [8, 9], [8, 9, 10], [], [12], [8, 9, 10, 11, 12, 13], [1, 2, 3, 4, 5, 6, 7, 8, 9, 10, 11, 12, 13, 14], [0, 1, 2, 3, 4, 5, 6, 7, 8, 9, 10, 11, 12, 13, 14, 15], [0, 1, 2, 3, 4, 5, 6, 7, 8, 9, 10, 11, 12, 13, 14, 15, 16], [0, 1, 2, 3, 4, 5, 6, 7, 8, 9, 10, 11, 12, 13, 14, 15, 16, 17]] mixed (ord := (.det 0 (.det 1 (.det 2 (.det 3 (.det 4 (.det 5 (.det 6 (.det 8 (.det 9 (.det 10 (.det 11 (.det 12 (.det 13 (.alt 7 (.alt 14 (.alt 15 .done .dead) .dead) (.alt 14 (.alt 7 (.alt 15 .done .dead) .dead) .dead)))))))))))))))) (by kernel_rfl) (fun _ h => h.to ⟨_, r0, ⟨_, r0, ⟨_, (rs r0), trivial⟩⟩⟩ ⟨m0, ⟨(ms m0), ⟨(ms (ms m0)), trivial⟩⟩⟩) ?_   -- region 20
                refine hx_det rfl rfl rfl nofun (det_move rfl) rfl ?_
                refine hx_det rfl rfl rfl nofun (det_move rfl) rfl ?_
                refine hx_det rfl rfl rfl nofun (det_nilCheckB rfl) rfl ?_
                refine hx_det rfl rfl rfl nofun (det_field rfl fd43_2 rfl) rfl ?_
                refine hx_det rfl rfl rfl nofun (det_load rfl m0 (by rfl) na31 us31) rfl ?_
                refine hx_det rfl rfl rfl nofun (det_move rfl) rfl ?_
                refine hx_det rfl rfl rfl nofun (det_move rfl) rfl ?_
                refine hx_det rfl rfl rfl nofun (det_move rfl) rfl ?_
                refine hx_det rfl rfl rfl nofun (det_nilCheckB rfl) rfl ?_
                refine hx_det rfl rfl rfl nofun (det_field rfl fd43_2 rfl) rfl ?_
                refine hx_det rfl rfl rfl nofun (det_load rfl m0 (by rfl) na31 us31) rfl ?_
                refine hx_det rfl rfl rfl nofun (det_move rfl) rfl ?_
                refine hx_det rfl rfl rfl nofun (det_add rfl rfl) rfl ?_
                refine hx_or ?_ ?_
                · refine hx_mut rfl rfl rfl (act_sliceOT rfl rfl rfl (ms (ms m0)) un31 sz27 k20_p1 k20_p2) rfl (by rintro _ _ _ ⟨rfl, rfl, rfl⟩ w hs; exact hs.to ⟨_, r0, ⟨_, r0, ⟨_, (rs r0), trivial⟩⟩⟩ ⟨m0, ⟨(ms m0), ⟨(ms (ms m0)), trivial⟩⟩⟩) ?_
                  rintro _ _ _ ⟨rfl, rfl, rfl⟩
                  refine hx_mut rfl rfl rfl (act_sliceOL rfl rfl (ms (ms m0)) un31 sz27 k20_p3 k20_p4) rfl (by rintro _ _ _ ⟨rfl, rfl, rfl⟩ w hs; exact hs.to ⟨_, r0, ⟨_, r0, ⟨_, (rs r0), trivial⟩⟩⟩ ⟨m0, ⟨(ms m0), ⟨(ms (ms m0)), trivial⟩⟩⟩) ?_
                  rintro _ _ _ ⟨rfl, rfl, rfl⟩
                  refine hx_mut rfl rfl rfl (act_cut (L := lGPacket) (xs := s10.2.2.2.2.2.2.1) (k := s20.toNat) (l := (w64 (s20 + 1)).toNat) rfl rfl (rs (rs r0)) (by have := of_decide_eq_true k20_p2; omega) un31 in27 rfl rfl rfl k20_p5) rfl (by rintro _ _ _ ⟨A20_15, c20_15, rfl, rfl, rfl⟩ w hs; exact hs.to ⟨_, (rs r0), ⟨_, (rs r0), ⟨_, (rs r0), trivial⟩⟩⟩ ⟨m0, ⟨(ms m0), ⟨(ms (ms m0)), trivial⟩⟩⟩) ?_
                  rintro _ _ _ ⟨A20_15, c20_15, rfl, rfl, rfl⟩
                  refine hx_end ?_
                  refine wl_det rfl rfl (det_nilCheckB rfl) rfl ?_
                  refine wl_det rfl rfl (det_field rfl fd43_2 rfl) rfl ?_
                  refine wl_act0 (act_store (cells := [_]) (cs' := [_, _, _, _, _, _, _, _, _]) rfl rfl rfl (ss s0) (by rfl) (of_decide_eq_true rfl) sz31 ⟨rfl, trivial⟩) rfl rfl ?_
                  rintro _ _ _ ⟨rfl, rfl⟩
                  refine wl_nil ?_
                  refine pn_block ?_
                  refine pn_block ?_
                  replace h := Option.some.inj h
                  subst h
                  exact pn_meetG ((s10.1, s10.2.1, s10.2.2.1, s10.2.2.2.1, s10.2.2.2.2.1, s10.2.2.2.2.2.1, (s10.2.2.2.2.2.2.1.take s20.toNat ++ s10.2.2.2.2.2.2.1.drop (w64 (s20 + 1)).toNat), s10.2.2.2.2.2.2.2.1, s10.2.2.2.2.2.2.2.2.1, s10.2.2.2.2.2.2.2.2.2.1), A10_0, s10.1.length, c10_0, A10_3, s10.2.2.2.1.length, c10_3, A20_15, (s10.2.2.2.2.2.2.1.take s20.toNat ++ s10.2.2.2.2.2.2.1.drop (w64 (s20 + 1)).toNat).length, c20_15, A10_9, s10.2.2.2.2.2.2.2.1.length, c10_9, ()) rfl ⟨rfl, rfl, rfl, rfl, trivial⟩ (fun _ h => h.to ⟨_, (rs r0), ⟨_, (rs r0), ⟨_, r0, ⟨_, r0, trivial⟩⟩⟩⟩ ⟨(ms m0), ⟨(ms (ms m0)), trivial⟩⟩)
                refine hx_or ?_ trivial
                refine hx_mut rfl rfl rfl (act_sliceOL rfl rfl (ms (ms m0)) un31 sz27 k20_p3 k20_p4) rfl (by rintro _ _ _ ⟨rfl, rfl, rfl⟩ w hs; exact hs.to ⟨_, r0, ⟨_, r0, ⟨_, (rs r0), trivial⟩⟩⟩ ⟨m0, ⟨(ms m0), ⟨(ms (ms m0)), trivial⟩⟩⟩) ?_
                rintro _ _ _ ⟨rfl, rfl, rfl⟩
                refine hx_mut rfl rfl rfl (act_sliceOT rfl rfl rfl (ms (ms m0)) un31 sz27 k20_p1 k20_p2) rfl (by rintro _ _ _ ⟨rfl, rfl, rfl⟩ w hs; exact hs.to ⟨_, r0, ⟨_, r0, ⟨_, (rs r0), trivial⟩⟩⟩ ⟨m0, ⟨(ms m0), ⟨(ms (ms m0)), trivial⟩⟩⟩) ?_
                rintro _ _ _ ⟨rfl, rfl, rfl⟩
                refine hx_mut rfl rfl rfl (act_cut (L := lGPacket) (xs := s10.2.2.2.2.2.2.1) (k := s20.toNat) (l := (w64 (s20 + 1)).toNat) rfl rfl (rs (rs r0)) (by have := of_decide_eq_true k20_p2; omega) un31 in27 rfl rfl rfl k20_p5) rfl (by rintro _ _ _ ⟨A20_15, c20_15, rfl, rfl, rfl⟩ w hs; exact hs.to ⟨_, (rs r0), ⟨_, (rs r0), ⟨_, (rs r0), trivial⟩⟩⟩ ⟨m0, ⟨(ms m0), ⟨(ms (ms m0)), trivial⟩⟩⟩) ?_
                rintro _ _ _ ⟨A20_15, c20_15, rfl, rfl, rfl⟩
                refine hx_end ?_
                refine wl_det rfl rfl (det_nilCheckB rfl) rfl ?_
                refine wl_det rfl rfl (det_field rfl fd43_2 rfl) rfl ?_
                refine wl_act0 (act_store (cells := [_]) (cs' := [_, _, _, _, _, _, _, _, _]) rfl rfl rfl (ss s0) (by rfl) (of_decide_eq_true rfl) sz31 ⟨rfl, trivial⟩) rfl rfl ?_
                rintro _ _ _ ⟨rfl, rfl⟩
                refine wl_nil ?_
                refine pn_block ?_
                refine pn_block ?_
                replace h := Option.some.inj h
                subst h
                exact pn_meetG ((s10.1, s10.2.1, s10.2.2.1, s10.2.2.2.1, s10.2.2.2.2.1, s10.2.2.2.2.2.1, (s10.2.2.2.2.2.2.1.take s20.toNat ++ s10.2.2.2.2.2.2.1.drop (w64 (s20 + 1)).toNat), s10.2.2.2.2.2.2.2.1, s10.2.2.2.2.2.2.2.2.1, s10.2.2.2.2.2.2.2.2.2.1), A10_0, s10.1.length, c10_0, A10_3, s10.2.2.2.1.length, c10_3, A20_15, (s10.2.2.2.2.2.2.1.take s20.toNat ++ s10.2.2.2.2.2.2.1.drop (w64 (s20 + 1)).toNat).length, c20_15, A10_9, s10.2.2.2.2.2.2.2.1.length, c10_9, ()) rfl ⟨rfl, rfl, rfl, rfl, trivial⟩ (fun _ h => h.to ⟨_, (rs r0), ⟨_, (rs r0), ⟨_, r0, ⟨_, r0, trivial⟩⟩⟩⟩ ⟨(ms m0), ⟨(ms (ms m0)), trivial⟩⟩)
              · have h := ifF h cd45
                refine wc_seq ?_
                refine wc_region ?_   -- region 21
                refine wl_det rfl rfl (det_move rfl) rfl ?_
                refine wl_det rfl rfl (det_eql rfl rfl) rfl ?_
                refine wl_det rfl rfl (det_assign rfl) rfl ?_
                refine wl_nil ?_
                refine pn_then ?_
                refine wc_cond rfl (fun cd49 => ?_) (fun cd49 => ?_)
                · have h := ifT h cd49
                  refine wc_region ?_   -- region 22
                  refine wl_det rfl rfl (det_move rfl) rfl ?_
                  refine wl_det rfl rfl (det_move rfl) rfl ?_
                  obtain ⟨r22_2, hr22_2, h⟩ := bind_some h
                  refine wl_act (act_callS (cap := []) (W_treatylaw42_world_deliver_o_o_o (Gworld.mk (GEndpoint.mk s10.1 s10.2.1 s10.2.2.1) (GEndpoint.mk s10.2.2.2.1 s10.2.2.2.2.1 s10.2.2.2.2.2.1) s10.2.2.2.2.2.2.1 s10.2.2.2.2.2.2.2.1 s10.2.2.2.2.2.2.2.2.1) s20 b1_1 A10_0 s10.1.length c10_0 A10_3 s10.2.2.2.1.length c10_3 A10_6 s10.2.2.2.2.2.2.1.length c10_6 A10_9 s10.2.2.2.2.2.2.2.1.length c10_9 r22_2 hr22_2) rfl rfl rfl bd15 ⟨_, r0, ⟨_, r0, ⟨_, r0, ⟨_, r0, rfl⟩⟩⟩⟩ ⟨(ms (ms m0)), trivial⟩) rfl rfl rfl ?_
                  rintro _ _ _ ⟨_, _, ⟨y22_2A0, y22_2n0, y22_2c0, y22_2A1, y22_2n1, y22_2c1, y22_2A2, y22_2n2, y22_2c2, y22_2A3, y22_2n3, y22_2c3, rfl, rfl, rfl⟩, rfl, rfl⟩
                  dsimp only [List.nil_append, List.cons_append]
                  refine wl_know (fun _ h => h.lenF m0) (fun e => ?_)
                  subst e
                  refine wl_know (fun _ h => h.lenO (ms m0)) (fun e => ?_)
                  subst e
                  refine wl_know (fun _ h => h.lenO (ms (ms m0))) (fun e => ?_)
                  subst e
                  refine wl_know (fun _ h => h.lenO (ms (ms (ms m0)))) (fun e => ?_)
                  subst e
                  refine wl_nil ?_
                  refine pn_block ?_
                  refine pn_block ?_
                  replace h := Option.some.inj h
                  subst h
                  exact pn_meetG ((r22_2.a.Out, r22_2.a.Acked, r22_2.a.Got, r22_2.b.Out, r22_2.b.Acked, r22_2.b.Got, r22_2.wire, r22_2.got, r22_2.ok, s10.2.2.2.2.2.2.2.2.2.1), y22_2A0, r22_2.a.Out.length, y22_2c0, y22_2A1, r22_2.b.Out.length, y22_2c1, y22_2A2, r22_2.wire.length, y22_2c2, y22_2A3, r22_2.got.length, y22_2c3, ()) rfl ⟨rfl, rfl, rfl, rfl, trivial⟩ (fun _ h => h.to ⟨_, r0, ⟨_, r0, ⟨_, r0, ⟨_, r0, trivial⟩⟩⟩⟩ ⟨(ms (ms m0)), ⟨m0, trivial⟩⟩)
                · have h := ifF h cd49
                  refine wc_seq ?_
                  refine wc_region ?_   -- region 10
                  refine wl_det rfl rfl (det_move rfl) rfl ?_
                  refine wl_det rfl rfl (det_move rfl) rfl ?_
                  obtain ⟨r10_2, hr10_2, h⟩ := bind_some h
                  refine wl_act (act_callS (cap := []) (W_treatylaw42_world_deliver_o_o_o (Gworld.mk (GEndpoint.mk s10.1 s10.2.1 s10.2.2.1) (GEndpoint.mk s10.2.2.2.1 s10.2.2.2.2.1 s10.2.2.2.2.2.1) s10.2.2.2.2.2.2.1 s10.2.2.2.2.2.2.2.1 s10.2.2.2.2.2.2.2.2.1) s20 b1_1 A10_0 s10.1.length c10_0 A10_3 s10.2.2.2.1.length c10_3 A10_6 s10.2.2.2.2.2.2.1.length c10_6 A10_9 s10.2.2.2.2.2.2.2.1.length c10_9 r10_2 hr10_2) rfl rfl rfl bd15 ⟨_, r0, ⟨_, r0, ⟨_, r0, ⟨_, r0, rfl⟩⟩⟩⟩ ⟨(ms (ms m0)), trivial⟩) rfl rfl rfl ?_
                  rintro _ _ _ ⟨_, _, ⟨y10_2A0, y10_2n0, y10_2c0, y10_2A1, y10_2n1, y10_2c1, y10_2A2, y10_2n2, y10_2c2, y10_2A3, y10_2n3, y10_2c3, rfl, rfl, rfl⟩, rfl, rfl⟩
                  dsimp only [List.nil_append, List.cons_append]
                  refine wl_know (fun _ h => h.lenF m0) (fun e => ?_)
                  subst e
                  refine wl_know (fun _ h => h.lenO (ms m0)) (fun e => ?_)
                  subst e
                  refine wl_know (fun _ h => h.lenO (ms (ms m0))) (fun e => ?_)
                  subst e
                  refine wl_know (fun _ h => h.lenO (ms (ms (ms m0)))) (fun e => ?_)
                  subst e
                  refine wl_nil ?_
                  refine pn_then ?_
                  obtain ⟨k11_p1, h⟩ := chk_some h
                  obtain ⟨k11_p2, h⟩ := chk_some h
                  obtain ⟨k11_p3, h⟩ := chk_some h
                  obtain ⟨k11_p4, h⟩ := chk_some h
                  obtain ⟨k11_p5, h⟩ := chk_some h
                  refine dx_regionZ (Z := St C [_, _, _] [_, _, _, _]) 16 [[], [], [1], [1, 2], [1, 2, 3], [], [], [1, 2, 3, 4, 5, 6], [], [8], [8, 9], [8, 9, 10], [], [12], [8, 9, 10, 11, 12, 13], [1, 2, 3, 4, 5, 6, 7, 8, 9, 10, 11, 12, 13, 14], [0, 1, 2, 3, 4, 5, 6, 7, 8, 9, 10, 11, 12, 13, 14, 15], [0, 1, 2, 3, 4, 5, 6, 7, 8, 9, 10, 11, 12, 13, 14, 15, 16], [0, 1, 2, 3, 4, 5, 6, 7, 8, 9, 10, 11, 12, 13, 14, 15, 16, 17]] mixed (ord := (.det 0 (.det 1 (.det 2 (.det 3 (.det 4 (.det 5 (.det 6 (.det 8 (.det 9 (.det 10 (.det 11 (.det 12 (.det 13 (.alt 7 (.alt 14 (.alt 15 .done .dead) .dead) (.alt 14 (.alt 7 (.alt 15 .done .dead) .dead) .dead)))))))))))))))) (by kernel_rfl) (fun _ h => h.to ⟨_, r0, ⟨_, r0, ⟨_, (rs r0), trivial⟩⟩⟩ ⟨m0, ⟨(ms m0), ⟨(ms (ms m0)), ⟨(ms (ms (ms m0))), trivial⟩⟩⟩⟩) ?_   -- region 11
                  refine hx_det rfl rfl rfl nofun (det_move rfl) rfl ?_
                  refine hx_det rfl rfl rfl nofun (det_move rfl) rfl ?_
                  refine hx_det rfl rfl rfl nofun (det_nilCheckB rfl) rfl ?_
                  refine hx_det rfl rfl rfl nofun (det_field rfl fd43_2 rfl) rfl ?_
                  refine hx_det rfl rfl rfl nofun (det_load rfl m0 (by rfl) na31 us31) rfl ?_
                  refine hx_det rfl rfl rfl nofun (det_move rfl) rfl ?_
                  refine hx_det rfl rfl rfl nofun (det_move rfl) rfl ?_
                  refine hx_det rfl rfl rfl nofun (det_move rfl) rfl ?_
                  refine hx_det rfl rfl rfl nofun (det_nilCheckB rfl) rfl ?_
                  refine hx_det rfl rfl rfl nofun (det_field rfl fd43_2 rfl) rfl ?_
                  refine hx_det rfl rfl rfl nofun (det_load rfl m0 (by rfl) na31 us31) rfl ?_
                  refine hx_det rfl rfl rfl nofun (det_move rfl) rfl ?_
                  refine hx_det rfl rfl rfl nofun (det_add rfl rfl) rfl ?_
                  refine hx_or ?_ ?_
                  · refine hx_mut rfl rfl rfl (act_sliceOT rfl rfl rfl (ms (ms m0)) un31 sz27 k11_p1 k11_p2) rfl (by rintro _ _ _ ⟨rfl, rfl, rfl⟩ w hs; exact hs.to ⟨_, r0, ⟨_, r0, ⟨_, (rs r0), trivial⟩⟩⟩ ⟨m0, ⟨(ms m0), ⟨(ms (ms m0)), ⟨(ms (ms (ms m0))), trivial⟩⟩⟩⟩) ?_
                    rintro _ _ _ ⟨rfl, rfl, rfl⟩
                    refine hx_mut rfl rfl rfl (act_sliceOL rfl rfl (ms (ms m0)) un31 sz27 k11_p3 k11_p4) rfl (by rintro _ _ _ ⟨rfl, rfl, rfl⟩ w hs; exact hs.to ⟨_, r0, ⟨_, r0, ⟨_, (rs r0), trivial⟩⟩⟩ ⟨m0, ⟨(ms m0), ⟨(ms (ms m0)), ⟨(ms (ms (ms m0))), trivial⟩⟩⟩⟩) ?_
                    rintro _ _ _ ⟨rfl, rfl, rfl⟩
                    refine hx_mut rfl rfl rfl (act_cut (L := lGPacket) (xs := r10_2.wire) (k := s20.toNat) (l := (w64 (s20 + 1)).toNat) rfl rfl (rs (rs r0)) (by have := of_decide_eq_true k11_p2; omega) un31 in27 rfl rfl rfl k11_p5) rfl (by rintro _ _ _ ⟨A11_15, c11_15, rfl, rfl, rfl⟩ w hs; exact hs.to ⟨_, (rs r0), ⟨_, (rs r0), ⟨_, (rs r0), trivial⟩⟩⟩ ⟨m0, ⟨(ms m0), ⟨(ms (ms m0)), ⟨(ms (ms (ms m0))), trivial⟩⟩⟩⟩) ?_
                    rintro _ _ _ ⟨A11_15, c11_15, rfl, rfl, rfl⟩
                    refine hx_end ?_
                    refine wl_det rfl rfl (det_nilCheckB rfl) rfl ?_
                    refine wl_det rfl rfl (det_field rfl fd43_2 rfl) rfl ?_
                    refine wl_act0 (act_store (cells := [_]) (cs' := [_, _, _, _, _, _, _, _, _]) rfl rfl rfl (ss s0) (by rfl) (of_decide_eq_true rfl) sz31 ⟨rfl, trivial⟩) rfl rfl ?_
                    rintro _ _ _ ⟨rfl, rfl⟩
                    refine wl_nil ?_
                    refine pn_block ?_
                    refine pn_block ?_
                    replace h := Option.some.inj h
                    subst h
                    exact pn_meetG ((r10_2.a.Out, r10_2.a.Acked, r10_2.a.Got, r10_2.b.Out, r10_2.b.Acked, r10_2.b.Got, (r10_2.wire.take s20.toNat ++ r10_2.wire.drop (w64 (s20 + 1)).toNat), r10_2.got, r10_2.ok, s10.2.2.2.2.2.2.2.2.2.1), y10_2A0, r10_2.a.Out.length, y10_2c0, y10_2A1, r10_2.b.Out.length, y10_2c1, A11_15, (r10_2.wire.take s20.toNat ++ r10_2.wire.drop (w64 (s20 + 1)).toNat).length, c11_15, y10_2A3, r10_2.got.length, y10_2c3, ()) rfl ⟨rfl, rfl, rfl, rfl, trivial⟩ (fun _ h => h.to ⟨_, (rs r0), ⟨_, (rs r0), ⟨_, r0, ⟨_, r0, trivial⟩⟩⟩⟩ ⟨(ms (ms m0)), ⟨m0, trivial⟩⟩)
                  refine hx_or ?_ trivial
                  refine hx_mut rfl rfl rfl (act_sliceOL rfl rfl (ms (ms m0)) un31 sz27 k11_p3 k11_p4) rfl (by rintro _ _ _ ⟨rfl, rfl, rfl⟩ w hs; exact hs.to ⟨_, r0, ⟨_, r0, ⟨_, (rs r0), trivial⟩⟩⟩ ⟨m0, ⟨(ms m0), ⟨(ms (ms m0)), ⟨(ms (ms (ms m0))), trivial⟩⟩⟩⟩) ?_
                  rintro _ _ _ ⟨rfl, rfl, rfl⟩
                  refine hx_mut rfl rfl rfl (act_sliceOT rfl rfl rfl (ms (ms m0)) un31 sz27 k11_p1 k11_p2) rfl (by rintro _ _ _ ⟨rfl, rfl, rfl⟩ w hs; exact hs.to ⟨_, r0, ⟨_, r0, ⟨_, (rs r0), trivial⟩⟩⟩ ⟨m0, ⟨(ms m0), ⟨(ms (ms m0)), ⟨(ms (ms (ms m0))), trivial⟩⟩⟩⟩) ?_
                  rintro _ _ _ ⟨rfl, rfl, rfl⟩
                  refine hx_mut rfl rfl rfl (act_cut (L := lGPacket) (xs := r10_2.wire) (k := s20.toNat) (l := (w64 (s20 + 1)).toNat) rfl rfl (rs (rs r0)) (by have := of_decide_eq_true k11_p2; omega) un31 in27 rfl rfl rfl k11_p5) rfl (by rintro _ _ _ ⟨A11_15, c11_15, rfl, rfl, rfl⟩ w hs; exact hs.to ⟨_, (rs r0), ⟨_, (rs r0), ⟨_, (rs r0), trivial⟩⟩⟩ ⟨m0, ⟨(ms m0), ⟨(ms (ms m0)), ⟨(ms (ms (ms m0))), trivial⟩⟩⟩⟩) ?_
                  rintro _ _ _ ⟨A11_15, c11_15, rfl, rfl, rfl⟩
                  refine hx_end ?_
                  refine wl_det rfl rfl (det_nilCheckB rfl) rfl ?_
                  refine wl_det rfl rfl (det_field rfl fd43_2 rfl) rfl ?_
                  refine wl_act0 (act_store (cells := [_]) (cs' := [_, _, _, _, _, _, _, _, _]) rfl rfl rfl (ss s0) (by rfl) (of_decide_eq_true rfl) sz31 ⟨rfl, trivial⟩) rfl rfl ?_
                  rintro _ _ _ ⟨rfl, rfl⟩
                  refine wl_nil ?_
                  refine pn_block ?_
                  refine pn_block ?_
                  replace h := Option.some.inj h
                  subst h
                  exact pn_meetG ((r10_2.a.Out, r10_2.a.Acked, r10_2.a.Got, r10_2.b.Out, r10_2.b.Acked, r10_2.b.Got, (r10_2.wire.take s20.toNat ++ r10_2.wire.drop (w64 (s20 + 1)).toNat), r10_2.got, r10_2.ok, s10.2.2.2.2.2.2.2.2.2.1), y10_2A0, r10_2.a.Out.length, y10_2c0, y10_2A1, r10_2.b.Out.length, y10_2c1, A11_15, (r10_2.wire.take s20.toNat ++ r10_2.wire.drop (w64 (s20 + 1)).toNat).length, c11_15, y10_2A3, r10_2.got.length, y10_2c3, ()) rfl ⟨rfl, rfl, rfl, rfl, trivial⟩ (fun _ h => h.to ⟨_, (rs r0), ⟨_, (rs r0), ⟨_, r0, ⟨_, r0, trivial⟩⟩⟩⟩ ⟨(ms (ms m0)), ⟨m0, trivial⟩⟩)
      rintro ⟨s16, A16_0, n16_0, c16_0, A16_3, n16_3, c16_3, A16_6, n16_6, c16_6, A16_9, n16_9, c16_9, _⟩ e16
      dsimp only at e16 ⊢
      subst e16
      have h := ho16
      refine wc_know (fun _ h => h.lenF (ms m0)) (fun e => ?_)
      subst e
      refine wc_know (fun _ h => h.lenO (ms m0)) (fun e => ?_)
      subst e
      refine wc_know (fun _ h => h.lenO (ms (ms m0))) (fun e => ?_)
      subst e
      refine wc_know (fun _ h => h.lenO (ms (ms (ms m0)))) (fun e => ?_)
      subst e
      refine wc_region ?_   -- region 5
      refine wl_det rfl rfl (det_move rfl) rfl ?_
      refine wl_det rfl rfl (det_add rfl rfl) rfl ?_
      refine wl_det rfl rfl (det_assign rfl) rfl ?_
      refine wl_nil ?_
      replace h := Option.some.inj h
      subst h
      exact pn_some (k10, (s16.1, s16.2.1, s16.2.2.1, s16.2.2.2.1, s16.2.2.2.2.1, s16.2.2.2.2.2.1, s16.2.2.2.2.2.2.1, s16.2.2.2.2.2.2.2.1, s16.2.2.2.2.2.2.2.2.1, s16.2.2.2.2.2.2.2.2.2, (w64 (s10.2.2.2.2.2.2.2.2.2.2 + 1))), A16_0, s16.1.length, c16_0, A16_3, s16.2.2.2.1.length, c16_3, A16_6, s16.2.2.2.2.2.2.1.length, c16_6, A16_9, s16.2.2.2.2.2.2.2.1.length, c16_9, ()) ⟨nextL g10, Nat.lt_succ_self _⟩ ⟨rfl, rfl, rfl, rfl, trivial⟩ (fun _ h => h.to ⟨_, r0, ⟨_, r0, ⟨_, r0, ⟨_, r0, trivial⟩⟩⟩⟩ ⟨m0, ⟨(ms m0), trivial⟩⟩)
    · have h := ifF h cd14
      refine wc_exit ?_
      refine px_then ?_
      refine px_then ?_
      refine px_block ?_
      replace h := Option.some.inj h
      subst h
      replace g10 := nextR g10
      subst g10
      exact pn_meetG ((s10.1, s10.2.1, s10.2.2.1, s10.2.2.2.1, s10.2.2.2.2.1, s10.2.2.2.2.2.1, s10.2.2.2.2.2.2.1, s10.2.2.2.2.2.2.2.1, s10.2.2.2.2.2.2.2.2.1, s10.2.2.2.2.2.2.2.2.2.1), A10_0, s10.1.length, c10_0, A10_3, s10.2.2.2.1.length, c10_3, A10_6, s10.2.2.2.2.2.2.1.length, c10_6, A10_9, s10.2.2.2.2.2.2.2.1.length, c10_9, ()) rfl ⟨rfl, rfl, trivial⟩ (fun _ h => h.to ⟨_, r0, ⟨_, r0, ⟨_, r0, ⟨_, r0, trivial⟩⟩⟩⟩ ⟨(ms m0), trivial⟩)
  rintro ⟨s6, A6_0, n6_0, c6_0, A6_3, n6_3, c6_3, A6_6, n6_6, c6_6, A6_9, n6_9, c6_9, _⟩ e6
  dsimp only at e6 ⊢
  subst e6
  have h := ho6
  refine wc_know (fun _ h => h.lenF m0) (fun e => ?_)
  subst e
  refine wc_know (fun _ h => h.lenO (ms m0)) (fun e => ?_)
  subst e
  refine wc_know (fun _ h => h.lenO (ms (ms m0))) (fun e => ?_)
  subst e
  refine wc_know (fun _ h => h.lenO (ms (ms (ms m0)))) (fun e => ?_)
  subst e
  refine wc_seq ?_
  refine wc_region ?_   -- region 23
  refine wl_det rfl rfl (det_move rfl) rfl ?_
  refine wl_det rfl rfl (det_move rfl) rfl ?_
  refine wl_det rfl rfl (det_assign rfl) rfl ?_
  refine wl_det rfl rfl (det_assign rfl) rfl ?_
  refine wl_nil ?_
  refine pn_then ?_
  refine wc_ret ?_
  replace h := Option.some.inj h
  subst h
  refine pn_ret (vs := [_, _]) rfl ⟨rfl, rfl, trivial⟩ ⟨b1_1, A6_0, s6.1.length, c6_0, A6_3, s6.2.2.2.1.length, c6_3, A6_6, s6.2.2.2.2.2.2.1.length, c6_6, A6_9, s6.2.2.2.2.2.2.2.1.length, c6_9, rfl, rfl, rfl⟩ (fun _ h => h.to ⟨_, r0, ⟨_, r0, ⟨_, r0, ⟨_, r0, trivial⟩⟩⟩⟩ ⟨m0, trivial⟩)
def Q_treatylaw42_world_deliver_o_o (Ba0 : Nat) (r : Gworld) : Value → List Ent → List Fact → Prop := fun v θ κ => ∃ (pA0 : Option Addr), ∃ (pn0 : Nat), ∃ (pc0 : Nat), ∃ (pA1 : Option Addr), ∃ (pn1 : Nat), ∃ (pc1 : Nat), ∃ (pA2 : Option Addr), ∃ (pn2 : Nat), ∃ (pc2 : Nat), ∃ (pA3 : Option Addr), ∃ (pn3 : Nat), ∃ (pc3 : Nat), v = .tuple #[] ∧ θ = [eBlk Ba0 43 [.slice pA0 pn0 pc0, .int .i64 r.a.Acked, .int .i64 r.a.Got, .slice pA1 pn1 pc1, .int .i64 r.b.Acked, .int .i64 r.b.Got, .slice pA2 pn2 pc2, .slice pA3 pn3 pc3, .bool r.ok], eS (lSlice (lInt .u8)) 25 pA0 pn0 pc0 r.a.Out, eS (lSlice (lInt .u8)) 25 pA1 pn1 pc1 r.b.Out, eS (lSlice (lInt .u8)) 25 pA3 pn3 pc3 r.got] ∧ κ = [fV (lSlice lGPacket) (.slice pA2 pn2 pc2) r.wire]
set_option maxHeartbeats 4000000 in
set_option maxRecDepth 100000 in
theorem W_treatylaw42_world_deliver_o_o (a0 : Gworld) (a1 : Int) (Ba0 : Nat) (A1 : Option Addr) (n1 : Nat) (c1 : Nat) (A4 : Option Addr) (n4 : Nat) (c4 : Nat) (A7 : Option Addr) (n7 : Nat) (c7 : Nat) (A10 : Option Addr) (n10 : Nat) (c10 : Nat) (r : Gworld) (h : treatylaw42_world_deliver_o_o a0 a1 = some r) : Spec Try.prog 15 [.pointer (some ⟨Ba0, 0, none⟩), .int .i64 a1] [eBlk Ba0 43 [.slice A1 n1 c1, .int .i64 a0.a.Acked, .int .i64 a0.a.Got, .slice A4 n4 c4, .int .i64 a0.b.Acked, .int .i64 a0.b.Got, .slice A7 n7 c7, .slice A10 n10 c10, .bool a0.ok], eS (lSlice (lInt .u8)) 25 A4 n4 c4 a0.b.Out, eS (lSlice (lInt .u8)) 25 A10 n10 c10 a0.got] [fV (lSlice (lSlice (lInt .u8))) (.slice A1 n1 c1) a0.a.Out, fV (lSlice lGPacket) (.slice A7 n7 c7) a0.wire] (Q_treatylaw42_world_deliver_o_o Ba0 r) := by
  unfold treatylaw42_world_deliver_o_o at h
  refine spec_of (σ := [(0, _), (1, _)]) Try.func15 rfl rfl rfl rfl ?_
  intro C
  refine wc_know (fun _ h => h.lenF m0) (fun e => ?_)
  subst e
  refine wc_know (fun _ h => h.lenO (ms m0)) (fun e => ?_)
  subst e
  refine wc_know (fun _ h => h.lenF (ms m0)) (fun e => ?_)
  subst e
  refine wc_know (fun _ h => h.lenO (ms (ms m0))) (fun e => ?_)
  subst e
  refine wc_seq ?_
  refine wc_region ?_   -- region 0
  refine wl_det rfl rfl (det_move rfl) rfl ?_
  refine wl_det rfl rfl (det_nilCheckB rfl) rfl ?_
  refine wl_det rfl rfl (det_field rfl fd43_2 rfl) rfl ?_
  refine wl_det rfl rfl (det_load rfl m0 (by rfl) na31 us31) rfl ?_
  refine wl_det rfl rfl (det_move rfl) rfl ?_
  obtain ⟨k0_5, h⟩ := chk_some h
  refine wl_ex (G := Option Addr × Nat) _ _ (fun _ => True) (fun _ h => openGPacket h (ms m0) k0_5) ?_
  rintro ⟨A0_5, c0_5⟩ -
  dsimp only
  refine wl_det rfl rfl (det_indexP rfl rfl (ms (ms (ms m0))) k0_5 m0 un31 sz27) rfl ?_
  refine wl_det rfl rfl (det_loadP (off := 0) rfl m0 (by rfl) (by rfl) (loaded_n (cells := [_, _, _, _, _]) ag27 sz27)) rfl ?_
  refine wl_act (act_alloc (cs := [_, _, _, _, _]) zr27 rfl) rfl rfl rfl ?_
  rintro _ _ _ ⟨b0_7, rfl, rfl, rfl⟩
  refine wl_act0 (act_store (cells := [_, _, _, _, _]) (cs' := [_, _, _, _, _]) rfl rfl rfl s0 (by rfl) (of_decide_eq_true rfl) sz27 ⟨rfl, rfl, rfl, rfl, rfl, trivial⟩) rfl rfl ?_
  rintro _ _ _ ⟨rfl, rfl⟩
  refine wl_nil ?_
  refine pn_then ?_
  refine wc_seq ?_
  refine wc_seq ?_
  refine wc_region ?_   -- region 1
  refine wl_det rfl rfl (det_field rfl fd27_1 rfl) rfl ?_
  refine wl_det rfl rfl (det_load rfl m0 (by rfl) na4 us4) rfl ?_
  refine wl_det rfl rfl (det_not rfl) rfl ?_
  refine wl_nil ?_
  refine pn_then ?_
  refine wc_cond rfl (fun cd5 => ?_) (fun cd5 => ?_)
  · have h := ifT h cd5
    refine wc_seq ?_
    refine dx_regionZ (Z := St C [_, _, _] [_, _, _, _]) 14 [[], [], [1], [1, 2], [1, 2, 3], [], [1, 2, 3, 4, 5], [1, 2, 3, 4, 5, 6], [1, 2, 3, 4, 5, 6, 7], [1, 2, 3, 4, 5, 6, 7], [1, 2, 3, 4, 5, 6, 7], [0, 1, 2, 3, 4, 5, 6, 7, 8], [0, 1, 2, 3, 4, 5, 6, 7, 8, 11], [0, 1, 2, 3, 4, 5, 6, 7, 8, 11, 12]] mixed (ord := (.det 0 (.det 1 (.det 2 (.det 3 (.det 4 (.det 5 (.alt 6 (.det 7 (.det 8 (.det 9 (.det 10 (.det 11 (.det 12 (.alt 13 .done .dead))))))) .dead)))))))) (by kernel_rfl) (fun _ h => h.to ⟨_, r0, ⟨_, (rs r0), ⟨_, (rs r0), trivial⟩⟩⟩ ⟨m0, ⟨(ms m0), ⟨(ms (ms m0)), ⟨(ms (ms (ms m0))), trivial⟩⟩⟩⟩) ?_   -- region 2
    refine hx_det rfl rfl rfl nofun (det_move rfl) rfl ?_
    refine hx_det rfl rfl rfl nofun (det_move rfl) rfl ?_
    refine hx_det rfl rfl rfl nofun (det_nilCheckB rfl) rfl ?_
    refine hx_det rfl rfl rfl nofun (det_field rfl fd43_0 rfl) rfl ?_
    refine hx_now rfl rfl rfl nofun rfl (det_loadN (cells := [_, _, _]) rfl (ms m0) (by rfl) ag24 sz24) rfl ?_
    refine hx_det rfl rfl rfl nofun (det_loadN (cells := [_, _, _, _, _]) rfl m0 (by rfl) ag27 sz27) rfl ?_
    obtain ⟨r2_6, hr2_6, h⟩ := bind_some h
    refine hx_mut rfl rfl rfl (act_callS (cap := []) (W_link_Receive a0.a (ix a0.wire a1) A1 a0.a.Out.length c1 A0_5 (ix a0.wire a1).Data.length c0_5 r2_6 hr2_6) rfl rfl rfl bd7 rfl ⟨(ms (ms m0)), ⟨(ms m0), trivial⟩⟩) rfl (by rintro _ _ _ ⟨_, _, ⟨y2_6A0, y2_6n0, y2_6c0, y2_6A1, y2_6n1, y2_6c1, rfl, rfl, rfl⟩, rfl, rfl⟩ w hs; exact hs.to ⟨_, (rs (rs r0)), ⟨_, (rs (rs (rs r0))), ⟨_, (rs (rs (rs r0))), trivial⟩⟩⟩ ⟨m0, ⟨(ms m0), ⟨(ms (ms m0)), ⟨(ms (ms (ms m0))), trivial⟩⟩⟩⟩) ?_
    rintro _ _ _ ⟨_, _, ⟨y2_6A0, y2_6n0, y2_6c0, y2_6A1, y2_6n1, y2_6c1, rfl, rfl, rfl⟩, rfl, rfl⟩
    dsimp only [List.nil_append, List.cons_append]
    refine hx_det rfl rfl rfl nofun (det_move rfl) rfl ?_
    refine hx_det rfl rfl rfl nofun (det_extract rfl rfl) rfl ?_
    refine hx_det rfl rfl rfl nofun (det_extract rfl rfl) rfl ?_
    refine hx_det rfl rfl rfl nofun (det_extract rfl rfl) rfl ?_
    refine hx_det rfl rfl rfl nofun (det_nilCheckB rfl) rfl ?_
    refine hx_det rfl rfl rfl nofun (det_field rfl fd43_0 rfl) rfl ?_
    refine hx_mut0 rfl rfl rfl (act_store (cells := [_, _, _]) (cs' := [_, _, _, _, _, _, _, _, _]) rfl rfl rfl (ss (ss (ss s0))) (by rfl) (of_decide_eq_true rfl) sz24 ⟨rfl, rfl, rfl, trivial⟩) (by rintro _ _ _ ⟨rfl, rfl⟩ w hs; exact hs.to ⟨_, (rs (rs r0)), ⟨_, (rs (rs (rs r0))), ⟨_, (rs (rs (rs r0))), trivial⟩⟩⟩ ⟨m0, ⟨(ms m0), ⟨(ms (ms m0)), ⟨(ms (ms (ms m0))), trivial⟩⟩⟩⟩) ?_
    rintro _ _ _ ⟨rfl, rfl⟩
    refine hx_end ?_
    refine wl_know (fun _ h => h.lenO m0) (fun e => ?_)
    subst e
    refine wl_know (fun _ h => h.lenO (ms m0)) (fun e => ?_)
    subst e
    refine wl_nil ?_
    refine pn_then ?_
    refine wc_ret ?_
    refine pr_then ?_
    replace h := Option.some.inj h
    subst h
    refine pn_ret (vs := []) rfl trivial ⟨y2_6A0, r2_6.1.Out.length, y2_6c0, A4, a0.b.Out.length, c4, A7, a0.wire.length, c7, A10, a0.got.length, c10, rfl, rfl, rfl⟩ (fun _ h => h.to ⟨_, (rs (rs (rs r0))), ⟨_, r0, ⟨_, (rs (rs r0)), ⟨_, (rs (rs r0)), trivial⟩⟩⟩⟩ ⟨(ms (ms (ms m0))), trivial⟩)
  · have h := ifF h cd5
    refine wc_skip ?_
    refine pn_then ?_
    obtain ⟨q8, h, ho8⟩ := bind_some h
    refine wc_meetG (G := ((List (List Int)) × Int × Int × (List Int) × Bool) × Nat × Option Addr × Nat × Nat × Option Addr × Nat × Nat × Unit) (fun (s8, _, _, _, _, _, _, _, _) => s8 = q8) (fun (s8, B8_0, _, _, _, A8_4, n8_4, c8_4, _) => [(0, .pointer (some ⟨Ba0, 0, none⟩)), (5, .pointer (some ⟨B8_0, 0, none⟩)), (6, .slice A8_4 n8_4 c8_4), (7, .bool s8.2.2.2.2)]) (fun (s8, B8_0, A8_1, n8_1, c8_1, A8_4, n8_4, c8_4, _) => [eBlk Ba0 43 [.slice A1 a0.a.Out.length c1, .int .i64 a0.a.Acked, .int .i64 a0.a.Got, .slice A4 a0.b.Out.length c4, .int .i64 a0.b.Acked, .int .i64 a0.b.Got, .slice A7 a0.wire.length c7, .slice A10 a0.got.length c10, .bool a0.ok], eS (lSlice (lInt .u8)) 25 A10 a0.got.length c10 a0.got, eBlk B8_0 24 [.slice A8_1 n8_1 c8_1, .int .i64 s8.2.1, .int .i64 s8.2.2.1], eS (lSlice (lInt .u8)) 25 A8_1 n8_1 c8_1 s8.1, eS (lInt .u8) 5 A8_4 n8_4 c8_4 s8.2.2.2.1]) (fun (_, _, _, _, _, _, _, _, _) => [fV (lSlice (lSlice (lInt .u8))) (.slice A1 a0.a.Out.length c1) a0.a.Out, fV (lSlice (lSlice (lInt .u8))) (.slice A4 a0.b.Out.length c4) a0.b.Out, fV (lSlice lGPacket) (.slice A7 a0.wire.length c7) a0.wire]) ?_ ?_
    · refine wc_st (fun _ h => h.shutS (rs (rs r0))) ?_
      refine dx_regionZ (Z := St C [_, _, _] [_, _, _, _, _]) 13 [[], [0], [0, 1], [0, 1, 2], [], [0, 1, 2, 3, 4], [0, 1, 2, 3, 4, 5], [0, 1, 2, 3, 4, 5, 6], [0, 1, 2, 3, 4, 5, 6], [0, 1, 2, 3, 4, 5, 6], [], [0, 1, 2, 3, 4, 5, 6, 7, 10], [0, 1, 2, 3, 4, 5, 6, 7, 8, 10, 11], [0, 1, 2, 3, 4, 5, 6, 7, 8, 9, 10, 11, 12]] mixed (ord := (.det 0 (.det 1 (.det 2 (.det 3 (.det 4 (.alt 5 (.det 6 (.det 7 (.det 8 (.det 9 (.alt 10 (.alt 11 (.det 12 .done) .dead) .dead))))) (.alt 10 (.alt 5 (.det 6 (.det 7 (.det 8 (.det 9 (.alt 11 (.det 12 .done) .dead))))) .dead) .dead)))))))) (by kernel_rfl) (fun _ h => h.to ⟨_, r0, ⟨_, r0, ⟨_, r0, trivial⟩⟩⟩ ⟨m0, ⟨(ms m0), ⟨(ms (ms m0)), ⟨(ms (ms (ms m0))), ⟨(ms (ms (ms (ms m0)))), trivial⟩⟩⟩⟩⟩) ?_   -- region 3
      refine hx_det rfl rfl rfl nofun (det_move rfl) rfl ?_
      refine hx_det rfl rfl rfl nofun (det_nilCheckB rfl) rfl ?_
      refine hx_det rfl rfl rfl nofun (det_field rfl fd43_1 rfl) rfl ?_
      refine hx_det rfl rfl rfl nofun (det_loadN (cells := [_, _, _]) rfl (ms m0) (by rfl) ag24 sz24) rfl ?_
      refine hx_det rfl rfl rfl nofun (det_loadN (cells := [_, _, _, _, _]) rfl m0 (by rfl) ag27 sz27) rfl ?_
      refine hx_or ?_ ?_
      · obtain ⟨r3_5, hr3_5, h⟩ := bind_some h
        refine hx_mut rfl rfl rfl (act_callS (cap := []) (W_link_Receive a0.b (ix a0.wire a1) A4 a0.b.Out.length c4 A0_5 (ix a0.wire a1).Data.length c0_5 r3_5 hr3_5) rfl rfl rfl bd7 rfl ⟨m0, ⟨(ms (ms m0)), trivial⟩⟩) rfl (by rintro _ _ _ ⟨_, _, ⟨y3_5A0, y3_5n0, y3_5c0, y3_5A1, y3_5n1, y3_5c1, rfl, rfl, rfl⟩, rfl, rfl⟩ w hs; exact hs.to ⟨_, (rs (rs r0)), ⟨_, (rs (rs r0)), ⟨_, (rs (rs r0)), trivial⟩⟩⟩ ⟨m0, ⟨(ms m0), ⟨(ms (ms m0)), ⟨(ms (ms (ms m0))), ⟨(ms (ms (ms (ms m0)))), trivial⟩⟩⟩⟩⟩) ?_
        rintro _ _ _ ⟨_, _, ⟨y3_5A0, y3_5n0, y3_5c0, y3_5A1, y3_5n1, y3_5c1, rfl, rfl, rfl⟩, rfl, rfl⟩
        dsimp only [List.nil_append, List.cons_append]
        refine hx_det rfl rfl rfl nofun (det_move rfl) rfl ?_
        refine hx_det rfl rfl rfl nofun (det_extract rfl rfl) rfl ?_
        refine hx_det rfl rfl rfl nofun (det_extract rfl rfl) rfl ?_
        refine hx_det rfl rfl rfl nofun (det_extract rfl rfl) rfl ?_
        refine hx_mut rfl rfl rfl (act_alloc (cs := [_, _, _]) zr24 rfl) rfl (by rintro _ _ _ ⟨b3_10, rfl, rfl, rfl⟩ w hs; exact hs.to ⟨_, (rs (rs (rs r0))), ⟨_, (rs (rs (rs r0))), ⟨_, (rs (rs (rs r0))), trivial⟩⟩⟩ ⟨m0, ⟨(ms m0), ⟨(ms (ms m0)), ⟨(ms (ms (ms m0))), ⟨(ms (ms (ms (ms m0)))), trivial⟩⟩⟩⟩⟩) ?_
        rintro _ _ _ ⟨b3_10, rfl, rfl, rfl⟩
        refine hx_mut0 rfl rfl rfl (act_store (cells := [_, _, _]) (cs' := [_, _, _]) rfl rfl rfl s0 (by rfl) (of_decide_eq_true rfl) sz24 ⟨rfl, rfl, rfl, trivial⟩) (by rintro _ _ _ ⟨rfl, rfl⟩ w hs; exact hs.to ⟨_, (rs (rs (rs r0))), ⟨_, (rs (rs (rs r0))), ⟨_, (rs (rs (rs r0))), trivial⟩⟩⟩ ⟨m0, ⟨(ms m0), ⟨(ms (ms m0)), ⟨(ms (ms (ms m0))), ⟨(ms (ms (ms (ms m0)))), trivial⟩⟩⟩⟩⟩) ?_
        rintro _ _ _ ⟨rfl, rfl⟩
        refine hx_det rfl rfl rfl nofun (det_assign rfl) rfl ?_
        refine hx_end ?_
        refine wl_know (fun _ h => h.lenO (ms m0)) (fun e => ?_)
        subst e
        refine wl_know (fun _ h => h.lenO (ms (ms m0))) (fun e => ?_)
        subst e
        refine wl_det rfl rfl (det_assign rfl) rfl ?_
        refine wl_nil ?_
        replace h := Option.some.inj h
        subst h
        exact pn_meetG ((r3_5.1.Out, r3_5.1.Acked, r3_5.1.Got, r3_5.2.1, r3_5.2.2), b3_10, y3_5A0, r3_5.1.Out.length, y3_5c0, y3_5A1, r3_5.2.1.length, y3_5c1, ()) rfl ⟨rfl, rfl, rfl, rfl, trivial⟩ (fun _ h => h.to ⟨_, (rs (rs (rs (rs r0)))), ⟨_, (rs (rs (rs (rs r0)))), ⟨_, r0, ⟨_, r0, ⟨_, r0, trivial⟩⟩⟩⟩⟩ ⟨(ms (ms (ms m0))), ⟨m0, ⟨(ms (ms (ms (ms m0)))), trivial⟩⟩⟩)
      refine hx_or ?_ trivial
      refine hx_mut rfl rfl rfl (act_alloc (cs := [_, _, _]) zr24 rfl) rfl (by rintro _ _ _ ⟨b3_10, rfl, rfl, rfl⟩ w hs; exact hs.to ⟨_, (rs r0), ⟨_, (rs r0), ⟨_, (rs r0), trivial⟩⟩⟩ ⟨m0, ⟨(ms m0), ⟨(ms (ms m0)), ⟨(ms (ms (ms m0))), ⟨(ms (ms (ms (ms m0)))), trivial⟩⟩⟩⟩⟩) ?_
      rintro _ _ _ ⟨b3_10, rfl, rfl, rfl⟩
      obtain ⟨r3_5, hr3_5, h⟩ := bind_some h
      refine hx_mut rfl rfl rfl (act_callS (cap := []) (W_link_Receive a0.b (ix a0.wire a1) A4 a0.b.Out.length c4 A0_5 (ix a0.wire a1).Data.length c0_5 r3_5 hr3_5) rfl rfl rfl bd7 rfl ⟨m0, ⟨(ms (ms m0)), trivial⟩⟩) rfl (by rintro _ _ _ ⟨_, _, ⟨y3_5A0, y3_5n0, y3_5c0, y3_5A1, y3_5n1, y3_5c1, rfl, rfl, rfl⟩, rfl, rfl⟩ w hs; exact hs.to ⟨_, (rs (rs (rs r0))), ⟨_, (rs (rs (rs r0))), ⟨_, (rs (rs (rs r0))), trivial⟩⟩⟩ ⟨m0, ⟨(ms m0), ⟨(ms (ms m0)), ⟨(ms (ms (ms m0))), ⟨(ms (ms (ms (ms m0)))), trivial⟩⟩⟩⟩⟩) ?_
      rintro _ _ _ ⟨_, _, ⟨y3_5A0, y3_5n0, y3_5c0, y3_5A1, y3_5n1, y3_5c1, rfl, rfl, rfl⟩, rfl, rfl⟩
      dsimp only [List.nil_append, List.cons_append]
      refine hx_det rfl rfl rfl nofun (det_move rfl) rfl ?_
      refine hx_det rfl rfl rfl nofun (det_extract rfl rfl) rfl ?_
      refine hx_det rfl rfl rfl nofun (det_extract rfl rfl) rfl ?_
      refine hx_det rfl rfl rfl nofun (det_extract rfl rfl) rfl ?_
      refine hx_mut0 rfl rfl rfl (act_store (cells := [_, _, _]) (cs' := [_, _, _]) rfl rfl rfl (ss (ss s0)) (by rfl) (of_decide_eq_true rfl) sz24 ⟨rfl, rfl, rfl, trivial⟩) (by rintro _ _ _ ⟨rfl, rfl⟩ w hs; exact hs.to ⟨_, (rs (rs (rs r0))), ⟨_, (rs (rs (rs r0))), ⟨_, (rs (rs (rs r0))), trivial⟩⟩⟩ ⟨m0, ⟨(ms m0), ⟨(ms (ms m0)), ⟨(ms (ms (ms m0))), ⟨(ms (ms (ms (ms m0)))), trivial⟩⟩⟩⟩⟩) ?_
      rintro _ _ _ ⟨rfl, rfl⟩
      refine hx_det rfl rfl rfl nofun (det_assign rfl) rfl ?_
      refine hx_end ?_
      refine wl_know (fun _ h => h.lenO m0) (fun e => ?_)
      subst e
      refine wl_know (fun _ h => h.lenO (ms m0)) (fun e => ?_)
      subst e
      refine wl_det rfl rfl (det_assign rfl) rfl ?_
      refine wl_nil ?_
      replace h := Option.some.inj h
      subst h
      exact pn_meetG ((r3_5.1.Out, r3_5.1.Acked, r3_5.1.Got, r3_5.2.1, r3_5.2.2), b3_10, y3_5A0, r3_5.1.Out.length, y3_5c0, y3_5A1, r3_5.2.1.length, y3_5c1, ()) rfl ⟨rfl, rfl, rfl, rfl, trivial⟩ (fun _ h => h.to ⟨_, (rs (rs (rs (rs r0)))), ⟨_, (rs (rs (rs (rs r0)))), ⟨_, (rs (rs r0)), ⟨_, r0, ⟨_, r0, trivial⟩⟩⟩⟩⟩ ⟨(ms (ms (ms m0))), ⟨m0, ⟨(ms (ms (ms (ms m0)))), trivial⟩⟩⟩)
    rintro ⟨s8, B8_0, A8_1, n8_1, c8_1, A8_4, n8_4, c8_4, _⟩ e8
    dsimp only at e8 ⊢
    subst e8
    have h := ho8
    refine wc_know (fun _ h => h.lenO (ms (ms (ms m0)))) (fun e => ?_)
    subst e
    refine wc_know (fun _ h => h.lenO (ms (ms (ms (ms m0))))) (fun e => ?_)
    subst e
    refine wc_seq ?_
    refine wc_region ?_   -- region 4
    refine wl_det rfl rfl (det_move rfl) rfl ?_
    refine wl_det rfl rfl (det_loadN (cells := [_, _, _]) rfl (ms (ms m0)) (by rfl) ag24 sz24) rfl ?_
    refine wl_det rfl rfl (det_nilCheckB rfl) rfl ?_
    refine wl_det rfl rfl (det_field rfl fd43_1 rfl) rfl ?_
    refine wl_act0 (act_store (cells := [_, _, _]) (cs' := [_, _, _, _, _, _, _, _, _]) rfl rfl rfl s0 (by rfl) (of_decide_eq_true rfl) sz24 ⟨rfl, rfl, rfl, trivial⟩) rfl rfl ?_
    rintro _ _ _ ⟨rfl, rfl⟩
    refine wl_nil ?_
    refine pn_then ?_
    obtain ⟨q12, h, ho12⟩ := bind_some h
    refine wc_meetG (G := (List (List Int)) × Option Addr × Nat × Nat × Unit) (fun (s12, _, _, _, _) => s12 = q12) (fun (_, _, _, _, _) => [(0, .pointer (some ⟨Ba0, 0, none⟩))]) (fun (s12, A12_0, n12_0, c12_0, _) => [eBlk Ba0 43 [.slice A1 a0.a.Out.length c1, .int .i64 a0.a.Acked, .int .i64 a0.a.Got, .slice A8_1 s8.1.length c8_1, .int .i64 s8.2.1, .int .i64 s8.2.2.1, .slice A7 a0.wire.length c7, .slice A12_0 n12_0 c12_0, .bool a0.ok], eS (lSlice (lInt .u8)) 25 A8_1 s8.1.length c8_1 s8.1, eS (lSlice (lInt .u8)) 25 A12_0 n12_0 c12_0 s12]) (fun (_, _, _, _, _) => [fV (lSlice (lSlice (lInt .u8))) (.slice A1 a0.a.Out.length c1) a0.a.Out, fV (lSlice lGPacket) (.slice A7 a0.wire.length c7) a0.wire]) ?_ ?_
    · refine wc_seq ?_
      refine wc_region ?_   -- region 5
      refine wl_det rfl rfl (det_move rfl) rfl ?_
      refine wl_nil ?_
      refine pn_then ?_
      refine wc_cond rfl (fun cd15 => ?_) (fun cd15 => ?_)
      · have h := ifT h cd15
        refine wc_region ?_   -- region 6
        refine wl_det rfl rfl (det_move rfl) rfl ?_
        refine wl_det rfl rfl (det_move rfl) rfl ?_
        refine wl_det rfl rfl (det_nilCheckB rfl) rfl ?_
        refine wl_det rfl rfl (det_field rfl fd43_3 rfl) rfl ?_
        refine wl_det rfl rfl (det_load rfl m0 (by rfl) na22 us22) rfl ?_
        refine wl_det rfl rfl (det_move rfl) rfl ?_
        refine wl_st (fun _ h => h.shutS (rs (rs (rs (rs r0))))) ?_
        refine wl_act (act_litS (lSlice (lInt .u8)) (vs := [_]) (cs := [_]) [s8.2.2.2.1] un22 in25 rfl rfl rfl rfl rfl ⟨rfl, trivial⟩ (by rfl) rfl (fun _ h => by have q := oneV h m0; exact q)) rfl rfl rfl ?_
        rintro _ _ _ ⟨A6_6, rfl, rfl, rfl⟩
        obtain ⟨k6_7, h⟩ := chk_some h
        refine wl_act (act_appendS (L := (lSlice (lInt .u8))) rfl rfl (ss (ss s0)) (src_O m0) un22 in25 rfl rfl rfl k6_7) rfl rfl rfl ?_
        rintro _ _ _ ⟨A6_7, c6_7, rfl, rfl, rfl⟩
        refine wl_det rfl rfl (det_nilCheckB rfl) rfl ?_
        refine wl_det rfl rfl (det_field rfl fd43_3 rfl) rfl ?_
        refine wl_act0 (act_store (cells := [_]) (cs' := [_, _, _, _, _, _, _, _, _]) rfl rfl rfl (ss s0) (by rfl) (of_decide_eq_true rfl) sz22 ⟨rfl, trivial⟩) rfl rfl ?_
        rintro _ _ _ ⟨rfl, rfl⟩
        refine wl_nil ?_
        replace h := Option.some.inj h
        subst h
        exact pn_meetG ((a0.got ++ [s8.2.2.2.1]), A6_7, (a0.got ++ [s8.2.2.2.1]).length, c6_7, ()) rfl ⟨rfl, trivial⟩ (fun _ h => h.to ⟨_, (rs r0), ⟨_, (rs (rs (rs r0))), ⟨_, (rs r0), trivial⟩⟩⟩ ⟨(ms m0), ⟨(ms (ms (ms m0))), trivial⟩⟩)
      · have h := ifF h cd15
        refine wc_skip ?_
        replace h := Option.some.inj h
        subst h
        exact pn_meetG (a0.got, A10, a0.got.length, c10, ()) rfl ⟨rfl, trivial⟩ (fun _ h => h.to ⟨_, r0, ⟨_, (rs (rs r0)), ⟨_, r0, trivial⟩⟩⟩ ⟨m0, ⟨(ms (ms m0)), trivial⟩⟩)
    rintro ⟨s12, A12_0, n12_0, c12_0, _⟩ e12
    dsimp only at e12 ⊢
    subst e12
    have h := ho12
    refine wc_know (fun _ h => h.lenO (ms (ms m0))) (fun e => ?_)
    subst e
    cases h
def Q_treatyref40_Same (r : Bool) : Value → List Ent → List Fact → Prop := fun v θ κ => v = .bool r ∧ θ = [] ∧ κ = []
theorem plains_treatyref40_Same {r : Bool} : ∀ v θ κ, Q_treatyref40_Same r v θ κ → Plains θ := by
  rintro _ _ _ ⟨rfl, rfl, rfl⟩
  exact trivial
set_option maxHeartbeats 4000000 in
set_option maxRecDepth 100000 in
theorem W_treatyref40_Same (a0 : (List Int)) (a1 : (List Int)) (A0 : Option Addr) (n0 : Nat) (c0 : Nat) (A3 : Option Addr) (n3 : Nat) (c3 : Nat) (r : Bool) (h : treatyref40_Same a0 a1 = some r) : Spec Try.prog 10 [.slice A0 n0 c0, .slice A3 n3 c3] [] [fV (lSlice (lInt .u8)) (.slice A0 n0 c0) a0, fV (lSlice (lInt .u8)) (.slice A3 n3 c3) a1] (Q_treatyref40_Same r) := by
  unfold treatyref40_Same at h
  refine spec_of (σ := [(0, _), (1, _)]) Try.func10 rfl rfl rfl rfl ?_
  intro C
  refine wc_know (fun _ h => h.lenF m0) (fun e => ?_)
  subst e
  refine wc_know (fun _ h => h.lenF (ms m0)) (fun e => ?_)
  subst e
  refine wc_seq ?_
  refine wc_region ?_   -- region 0
  refine wl_det rfl rfl (det_assign rfl) rfl ?_
  refine wl_nil ?_
  refine pn_then ?_
  refine wc_seq ?_
  refine wc_seq ?_
  refine wc_region ?_   -- region 1
  refine wl_det rfl rfl (det_move rfl) rfl ?_
  refine wl_det rfl rfl (det_len rfl un25) rfl ?_
  refine wl_det rfl rfl (det_move rfl) rfl ?_
  refine wl_det rfl rfl (det_len rfl un25) rfl ?_
  refine wl_det rfl rfl (det_neq rfl rfl) rfl ?_
  refine wl_nil ?_
  refine pn_then ?_
  refine wc_cond rfl (fun cd5 => ?_) (fun cd5 => ?_)
  · have h := ifT h cd5
    refine wc_seq ?_
    refine wc_region ?_   -- region 2
    refine wl_det rfl rfl (det_assign rfl) rfl ?_
    refine wl_nil ?_
    refine pn_then ?_
    refine wc_ret ?_
    refine pr_then ?_
    replace h := Option.some.inj h
    subst h
    refine pn_ret (vs := [_]) rfl ⟨rfl, trivial⟩ ⟨rfl, rfl, rfl⟩ (fun _ h => h.to trivial trivial)
  · have h := ifF h cd5
    refine wc_skip ?_
    refine pn_then ?_
    obtain ⟨q8, h, ho8⟩ := bind_some h
    refine wc_meetG (G := Unit × Unit) (fun (s8, _) => (.inl s8) = q8) (fun (_, _) => []) (fun (_, _) => []) (fun (_, _) => []) ?_ ?_
    · refine wc_seq ?_
      refine wc_region ?_   -- region 3
      refine wl_det rfl rfl (det_move rfl) rfl ?_
      refine wl_det rfl rfl (det_len rfl un25) rfl ?_
      refine wl_det rfl rfl (det_move rfl) rfl ?_
      refine wl_nil ?_
      refine pn_then ?_
      refine wc_block ?_
      obtain ⟨o12, h, ho12⟩ := bind_some h
      obtain ⟨k12, hk12⟩ := loopV_some.1 h
      refine wc_loop (G := Nat × Int × Unit) (fun g => IterN (treatyref40_Same_l12 a0 a1) g.1 g.2.1 o12) (fun g => g.1) (fun (_, s12, _) => [(0, .slice A0 a0.length c0), (1, .slice A3 a1.length c3), (12, .int .i64 (a0.length : Int)), (13, .int .i64 s12)]) (fun (_, _, _) => []) (fun (_, _, _) => [fV (lSlice (lInt .u8)) (.slice A0 a0.length c0) a0, fV (lSlice (lInt .u8)) (.slice A3 a1.length c3) a1]) (k12, 0, ()) hk12 ⟨rfl, rfl, rfl, rfl, trivial⟩ (fun _ h => h.to trivial ⟨m0, ⟨(ms m0), trivial⟩⟩) ?_
      rintro ⟨k12, s12, _⟩ hI
      obtain ⟨k12, rfl, q12, h, g12⟩ := IterN.pos hI
      dsimp only at h ⊢
      unfold treatyref40_Same_l12 at h
      refine wc_seq ?_
      refine wc_region ?_   -- region 4
      refine wl_det rfl rfl (det_lss rfl rfl) rfl ?_
      refine wl_nil ?_
      refine pn_then ?_
      refine wc_seq ?_
      refine wc_cond rfl (fun cd16 => ?_) (fun cd16 => ?_)
      · have h := ifT h cd16
        refine wc_skip ?_
        refine pn_then ?_
        refine wc_seq ?_
        refine wc_block ?_
        refine wc_seq ?_
        refine wc_region ?_   -- region 5
        refine wl_det rfl rfl (det_move rfl) rfl ?_
        refine wl_det rfl rfl (det_assign rfl) rfl ?_
        refine wl_nil ?_
        refine pn_then ?_
        refine wc_seq ?_
        obtain ⟨k6_p1, h⟩ := chk_some h
        refine wc_st (fun _ h => h.openF m0 k6_p1) ?_
        obtain ⟨k6_p3, h⟩ := chk_some h
        refine wc_st (fun _ h => h.openF (ms (ms m0)) k6_p3) ?_
        refine dx_region 9 [[], [], [0, 1], [0, 1, 2], [], [], [4, 5], [4, 5, 6], [0, 1, 2, 3, 4, 5, 6, 7]] mixed (ord := (.det 0 (.det 1 (.det 2 (.det 3 (.det 4 (.det 5 (.det 6 (.det 7 (.det 8 .done)))))))))) (by kernel_rfl) ?_   -- region 6
        refine hx_det rfl rfl rfl nofun (det_move rfl) rfl ?_
        refine hx_det rfl rfl rfl nofun (det_move rfl) rfl ?_
        refine hx_det rfl rfl rfl nofun (det_indexP rfl rfl (ms (ms m0)) k6_p1 (ms m0) un25 sz5) rfl ?_
        refine hx_det rfl rfl rfl nofun (det_loadP (off := 0) rfl (ms m0) (by rfl) (by rfl) (loaded_1 na5 us5)) rfl ?_
        refine hx_det rfl rfl rfl nofun (det_move rfl) rfl ?_
        refine hx_det rfl rfl rfl nofun (det_move rfl) rfl ?_
        refine hx_det rfl rfl rfl nofun (det_indexP rfl rfl (ms (ms (ms m0))) k6_p3 m0 un25 sz5) rfl ?_
        refine hx_det rfl rfl rfl nofun (det_loadP (off := 0) rfl m0 (by rfl) (by rfl) (loaded_1 na5 us5)) rfl ?_
        refine hx_det rfl rfl rfl nofun (det_neq rfl rfl) rfl ?_
        refine hx_end ?_
        refine wl_nil ?_
        refine pn_then ?_
        refine wc_cond rfl (fun cd24 => ?_) (fun cd24 => ?_)
        · have h := ifT h cd24
          refine wc_seq ?_
          refine wc_region ?_   -- region 7
          refine wl_det rfl rfl (det_assign rfl) rfl ?_
          refine wl_nil ?_
          refine pn_then ?_
          refine wc_ret ?_
          refine pr_block ?_
          refine pr_then ?_
          refine pr_then ?_
          refine pr_block ?_
          refine pr_then ?_
          replace h := Option.some.inj h
          subst h
          replace g12 := nextR g12
          subst g12
          have h := (elimL ho12)
          replace h := Option.some.inj h
          subst h
          have h := (elimR ho8)
          replace h := Option.some.inj h
          subst h
          refine pn_ret (vs := [_]) rfl ⟨rfl, trivial⟩ ⟨rfl, rfl, rfl⟩ (fun _ h => h.to trivial trivial)
        · have h := ifF h cd24
          refine wc_skip ?_
          refine pn_block ?_
          refine pn_then ?_
          refine wc_region ?_   -- region 8
          refine wl_det rfl rfl (det_add rfl rfl) rfl ?_
          refine wl_det rfl rfl (det_move rfl) rfl ?_
          refine wl_nil ?_
          replace h := Option.some.inj h
          subst h
          exact pn_some (k12, (w64 (s12 + 1)), ()) ⟨nextL g12, Nat.lt_succ_self _⟩ ⟨rfl, rfl, rfl, rfl, trivial⟩ (fun _ h => h.to trivial ⟨(ms (ms m0)), ⟨(ms (ms (ms m0))), trivial⟩⟩)
      · have h := ifF h cd16
        refine wc_exit ?_
        refine px_then ?_
        refine px_then ?_
        refine px_block ?_
        replace h := Option.some.inj h
        subst h
        replace g12 := nextR g12
        subst g12
        have h := (elimR ho12)
        replace h := Option.some.inj h
        subst h
        exact pn_meetG ((), ()) rfl trivial (fun _ h => h.to trivial trivial)
    rintro ⟨s8, _⟩ e8
    dsimp only at e8 ⊢
    subst e8
    have h := (elimL ho8)
    refine wc_seq ?_
    refine wc_region ?_   -- region 9
    refine wl_det rfl rfl (det_assign rfl) rfl ?_
    refine wl_nil ?_
    refine pn_then ?_
    refine wc_ret ?_
    replace h := Option.some.inj h
    subst h
    refine pn_ret (vs := [_]) rfl ⟨rfl, trivial⟩ ⟨rfl, rfl, rfl⟩ (fun _ h => h.to trivial trivial)
end Go.Proofs.Ytkpoflfhmjkldaa
