/- That functions of the program compute the plain programs of P. Written by a small program. -/
import Derived.Test.YtoodneljjhbfhaaKTab
import Derived.Test.YtoodneljjhbfhaaP
import Derived.Test.YtoodneljjhbfhaaKSort
import Derived.Test.YtoodneljjhbfhaaSort64
import Derived.Test.YtoodneljjhbfhaaKBits
import Derived.Test.YtoodneljjhbfhaaBits
namespace Go.Proofs.Ytoodneljjhbfhaa
open Go.RowKit
def lGDeck : Lay GDeck := lMap (fun x => (x.L, x.At)) (lPair (lSlice (lInt .i64)) (lInt .i64))
theorem viewGDeck {w : World} {S : Nat → Prop} {cs : List Value} {x : GDeck} (h : lGDeck.R w S cs x) : ∃ A0 c0, cs = [.slice A0 x.L.length c0, .int .i64 x.At] ∧ AllR w S [fV (lSlice (lInt .i64)) (.slice A0 x.L.length c0) x.L] := by
  obtain ⟨_, _, rfl, ⟨A0, _, c0, rfl, rfl, l0, e0⟩, rfl⟩ := h
  exact ⟨A0, c0, rfl, ⟨⟨_, _, _, rfl, rfl, l0, e0⟩, trivial⟩⟩
theorem mkGDeck {w : World} {S : Nat → Prop} {x : GDeck} {A0 : Option Addr} {n0 c0 : Nat}  (h : AllR w S [fV (lSlice (lInt .i64)) (.slice A0 n0 c0) x.L]) : lGDeck.R w S [.slice A0 n0 c0, .int .i64 x.At] x := by
  obtain ⟨k0, _⟩ := h
  exact ⟨_, _, rfl, k0, rfl⟩
def encGrunning (x : Grunning) : List Value := [.int .i64 x.sum]
def lGrunning : Lay Grunning := lFlat encGrunning 1 (fun _ => rfl) (fun _ u hu => by simp only [encGrunning, List.mem_cons, List.not_mem_nil, or_false] at hu; rcases hu with rfl <;> rfl)
theorem openGDeck {C : Cx} {η : List Ent} {ι : List Fact} {w : World} {A : Option Addr} {m c : Nat} {xs : List GDeck} (h : St C η ι w) (hf : fV (lSlice lGDeck) (.slice A m c) xs ∈ ι) {i : Int} (hi : inb xs i = true) : ∃ g : Option Addr × Nat, True ∧ St C η (fPt A (i.toNat * 2) [.slice g.1 (ix xs i).L.length g.2, .int .i64 (ix xs i).At] :: fV (lSlice (lInt .i64)) (.slice g.1 (ix xs i).L.length g.2) (ix xs i).L :: ι) w := by
  obtain ⟨cs, hs⟩ := h.openE hf hi
  obtain ⟨A0, c0, rfl, hr⟩ := viewGDeck (hs.facts _ (ms m0))
  exact ⟨(A0, c0), trivial, (hs.addR hr).subFacts (sub_mid (κ := [_]))⟩
theorem bd10 : bodyB Try.prog 10 = true := by kernel_rfl
theorem bd13 : bodyB Try.prog 13 = true := by kernel_rfl
theorem bd14 : bodyB Try.prog 14 = true := by kernel_rfl
theorem bd16 : bodyB Try.prog 16 = true := by kernel_rfl
theorem bd17 : bodyB Try.prog 17 = true := by kernel_rfl
theorem bd18 : bodyB Try.prog 18 = true := by kernel_rfl
theorem bd21 : bodyB Try.prog 21 = true := by kernel_rfl
theorem bd22 : bodyB Try.prog 22 = true := by kernel_rfl
theorem bd32 : bodyB Try.prog 32 = true := by kernel_rfl
theorem bd35 : bodyB Try.prog 35 = true := by kernel_rfl
theorem bd36 : bodyB Try.prog 36 = true := by kernel_rfl
theorem bd37 : bodyB Try.prog 37 = true := by kernel_rfl
theorem bd40 : bodyB Try.prog 40 = true := by kernel_rfl
theorem bd41 : bodyB Try.prog 41 = true := by kernel_rfl
theorem bd42 : bodyB Try.prog 42 = true := by kernel_rfl
theorem bd43 : bodyB Try.prog 43 = true := by kernel_rfl
theorem bd44 : bodyB Try.prog 44 = true := by kernel_rfl
theorem bd45 : bodyB Try.prog 45 = true := by kernel_rfl
theorem bd46 : bodyB Try.prog 46 = true := by kernel_rfl
theorem bd47 : bodyB Try.prog 47 = true := by kernel_rfl
theorem bd51 : bodyB Try.prog 51 = true := by kernel_rfl
theorem bd52 : bodyB Try.prog 52 = true := by kernel_rfl
theorem bd53 : bodyB Try.prog 53 = true := by kernel_rfl
theorem bd54 : bodyB Try.prog 54 = true := by kernel_rfl
theorem bd58 : bodyB Try.prog 58 = true := by kernel_rfl
theorem bd59 : bodyB Try.prog 59 = true := by kernel_rfl
theorem bd60 : bodyB Try.prog 60 = true := by kernel_rfl
theorem bd61 : bodyB Try.prog 61 = true := by kernel_rfl
theorem bd62 : bodyB Try.prog 62 = true := by kernel_rfl
theorem bd63 : bodyB Try.prog 63 = true := by kernel_rfl
theorem bd64 : bodyB Try.prog 64 = true := by kernel_rfl
theorem bd68 : bodyB Try.prog 68 = true := by kernel_rfl
theorem bd69 : bodyB Try.prog 69 = true := by kernel_rfl
theorem bd70 : bodyB Try.prog 70 = true := by kernel_rfl
def Q_treatymade_New (r : GDeck) : Value → List Ent → List Fact → Prop := fun v θ κ => ∃ (pb0 : Nat), ∃ (pA1 : Option Addr), ∃ (pn1 : Nat), ∃ (pc1 : Nat), v = .pointer (some ⟨pb0, 0, none⟩) ∧ θ = [eBlk pb0 67 [.slice pA1 pn1 pc1, .int .i64 r.At]] ∧ κ = [fV (lSlice (lInt .i64)) (.slice pA1 pn1 pc1) r.L]
set_option maxRecDepth 100000 in
theorem W_treatymade_New (a0 : (List Int)) (A0 : Option Addr) (n0 : Nat) (c0 : Nat) (r : GDeck) (h : treatymade_New a0 = some r) : Spec Try.prog 18 [.slice A0 n0 c0] [] [fV (lSlice (lInt .i64)) (.slice A0 n0 c0) a0] (Q_treatymade_New r) := by
  unfold treatymade_New at h
  refine spec_of (σ := [(0, _)]) Try.func18 rfl rfl rfl rfl ?_
  intro C
  refine wc_know (fun _ h => h.lenF m0) (fun e => ?_)
  subst e
  refine wc_seq ?_
  refine wc_region ?_   -- region 0
  refine wl_det rfl rfl (det_assign rfl) rfl ?_
  refine wl_nil ?_
  refine pn_then ?_
  refine wc_seq ?_
  refine wc_region ?_   -- region 1
  refine wl_det rfl rfl (det_move rfl) rfl ?_
  refine wl_det rfl rfl (det_build (cs := [_, _]) pl67 zr67 rfl rfl (by rfl)) rfl ?_
  refine wl_act (act_box (cs := [_, _]) rfl rfl) rfl rfl rfl ?_
  rintro _ _ _ ⟨b1_2, rfl, rfl, rfl⟩
  refine wl_det rfl rfl (det_assign rfl) rfl ?_
  refine wl_nil ?_
  refine pn_then ?_
  refine wc_ret ?_
  replace h := Option.some.inj h
  subst h
  refine pn_ret (vs := [_]) rfl ⟨rfl, trivial⟩ ⟨b1_2, A0, a0.length, c0, rfl, rfl, rfl⟩ (fun _ h => h.to ⟨_, r0, trivial⟩ ⟨m0, trivial⟩)
def Q_treatymade_Deck_Next (Ba0 : Nat) (r : Int × GDeck) : Value → List Ent → List Fact → Prop := fun v θ κ => ∃ (pA0 : Option Addr), ∃ (pn0 : Nat), ∃ (pc0 : Nat), v = .int .i64 r.1 ∧ θ = [eBlk Ba0 67 [.slice pA0 pn0 pc0, .int .i64 r.2.At]] ∧ κ = [fV (lSlice (lInt .i64)) (.slice pA0 pn0 pc0) r.2.L]
set_option maxRecDepth 100000 in
theorem W_treatymade_Deck_Next (a0 : GDeck) (a1 : Int) (Ba0 : Nat) (A1 : Option Addr) (n1 : Nat) (c1 : Nat) (r : Int × GDeck) (h : treatymade_Deck_Next a0 a1 = some r) : Spec Try.prog 41 [.pointer (some ⟨Ba0, 0, none⟩), .int .i64 a1] [eBlk Ba0 67 [.slice A1 n1 c1, .int .i64 a0.At]] [fV (lSlice (lInt .i64)) (.slice A1 n1 c1) a0.L] (Q_treatymade_Deck_Next Ba0 r) := by
  unfold treatymade_Deck_Next at h
  refine spec_of (σ := [(0, _), (1, _)]) Try.func41 rfl rfl rfl rfl ?_
  intro C
  refine wc_know (fun _ h => h.lenF m0) (fun e => ?_)
  subst e
  refine wc_seq ?_
  refine wc_region ?_   -- region 0
  refine wl_det rfl rfl (det_assign rfl) rfl ?_
  refine wl_nil ?_
  refine pn_then ?_
  refine wc_seq ?_
  refine wc_seq ?_
  refine dx_region 10 [[], [0], [0, 1], [0, 1, 2], [], [4], [4, 5], [4, 5, 6], [4, 5, 6, 7], [0, 1, 2, 3, 4, 5, 6, 7, 8]] mixed (ord := (.det 0 (.det 1 (.det 2 (.det 3 (.det 4 (.det 5 (.det 6 (.det 7 (.det 8 (.det 9 .done))))))))))) (by kernel_rfl) ?_   -- region 1
  refine hx_det rfl rfl rfl nofun (det_move rfl) rfl ?_
  refine hx_det rfl rfl rfl nofun (det_nilCheckB rfl) rfl ?_
  refine hx_det rfl rfl rfl nofun (det_field rfl fd67_1 rfl) rfl ?_
  refine hx_det rfl rfl rfl nofun (det_load rfl m0 (by rfl) na3 us3) rfl ?_
  refine hx_det rfl rfl rfl nofun (det_move rfl) rfl ?_
  refine hx_det rfl rfl rfl nofun (det_nilCheckB rfl) rfl ?_
  refine hx_det rfl rfl rfl nofun (det_field rfl fd67_0 rfl) rfl ?_
  refine hx_det rfl rfl rfl nofun (det_load rfl m0 (by rfl) na22 us22) rfl ?_
  refine hx_det rfl rfl rfl nofun (det_len rfl un22) rfl ?_
  refine hx_det rfl rfl rfl nofun (det_geq rfl rfl) rfl ?_
  refine hx_end ?_
  refine wl_nil ?_
  refine pn_then ?_
  refine wc_cond rfl (fun c5 => ?_) (fun c5 => ?_)
  · have h := ifT h c5
    refine wc_seq ?_
    refine wc_region ?_   -- region 2
    refine wl_det rfl rfl (det_assign rfl) rfl ?_
    refine wl_nil ?_
    refine pn_then ?_
    refine wc_ret ?_
    refine pr_then ?_
    replace h := Option.some.inj h
    subst h
    refine pn_ret (vs := [_]) rfl ⟨rfl, trivial⟩ ⟨A1, a0.L.length, c1, rfl, rfl, rfl⟩ (fun _ h => h.to ⟨_, r0, trivial⟩ ⟨m0, trivial⟩)
  · have h := ifF h c5
    refine wc_skip ?_
    refine pn_then ?_
    refine wc_seq ?_
    refine wc_region ?_   -- region 3
    refine wl_det rfl rfl (det_move rfl) rfl ?_
    refine wl_det rfl rfl (det_nilCheckB rfl) rfl ?_
    refine wl_det rfl rfl (det_field rfl fd67_1 rfl) rfl ?_
    refine wl_det rfl rfl (det_load rfl m0 (by rfl) na3 us3) rfl ?_
    refine wl_det rfl rfl (det_add rfl rfl) rfl ?_
    refine wl_det rfl rfl (det_nilCheckB rfl) rfl ?_
    refine wl_det rfl rfl (det_field rfl fd67_1 rfl) rfl ?_
    refine wl_act0 (act_store (cells := [_]) (cs' := [_, _]) rfl rfl rfl s0 (by rfl) (of_decide_eq_true rfl) sz3 ⟨rfl, trivial⟩) rfl rfl ?_
    rintro _ _ _ ⟨rfl, rfl⟩
    refine wl_nil ?_
    refine pn_then ?_
    refine wc_seq ?_
    obtain ⟨k4_p1, h⟩ := chk_some h
    refine wc_st (fun _ h => h.openF m0 k4_p1) ?_
    obtain ⟨k4_p3, h⟩ := chk_some h
    refine dx_region 17 [[], [0], [0, 1], [0, 1, 2], [], [4], [4, 5], [4, 5, 6], [4, 5, 6, 7], [0, 1, 2, 3, 4, 5, 6, 7, 8], [0, 1, 2, 3, 4, 5, 6, 7, 8, 9], [], [0, 1, 2, 3, 4, 5, 6, 7, 8, 9, 10, 11], [], [0, 1, 2, 3, 4, 5, 6, 7, 8, 9, 10, 11, 12, 13], [], [0, 1, 2, 3, 4, 5, 6, 7, 8, 9, 10, 11, 12, 13, 14, 15], [0, 1, 2, 3, 4, 5, 6, 7, 8, 9, 10, 11, 12, 13, 14, 15, 16]] mixed (ord := (.det 0 (.det 1 (.det 2 (.det 3 (.det 4 (.det 5 (.det 6 (.det 7 (.det 8 (.det 9 (.det 10 (.det 11 (.det 12 (.det 13 (.det 14 (.det 15 (.det 16 .done)))))))))))))))))) (by kernel_rfl) ?_   -- region 4
    refine hx_det rfl rfl rfl nofun (det_move rfl) rfl ?_
    refine hx_det rfl rfl rfl nofun (det_nilCheckB rfl) rfl ?_
    refine hx_det rfl rfl rfl nofun (det_field rfl fd67_0 rfl) rfl ?_
    refine hx_det rfl rfl rfl nofun (det_load rfl m0 (by rfl) na22 us22) rfl ?_
    refine hx_det rfl rfl rfl nofun (det_move rfl) rfl ?_
    refine hx_det rfl rfl rfl nofun (det_nilCheckB rfl) rfl ?_
    refine hx_det rfl rfl rfl nofun (det_field rfl fd67_1 rfl) rfl ?_
    refine hx_det rfl rfl rfl nofun (det_load rfl m0 (by rfl) na3 us3) rfl ?_
    refine hx_det rfl rfl rfl nofun (det_sub rfl rfl) rfl ?_
    refine hx_det rfl rfl rfl nofun (det_indexP rfl rfl (ms m0) k4_p1 m0 un22 sz3) rfl ?_
    refine hx_det rfl rfl rfl nofun (det_loadP (off := 0) rfl m0 (by rfl) (by rfl) (loaded_1 na3 us3)) rfl ?_
    refine hx_det rfl rfl rfl nofun (det_move rfl) rfl ?_
    refine hx_det rfl rfl rfl nofun (det_remB rfl rfl k4_p3) rfl ?_
    refine hx_det rfl rfl rfl nofun (det_move rfl) rfl ?_
    refine hx_det rfl rfl rfl nofun (det_add rfl rfl) rfl ?_
    refine hx_det rfl rfl rfl nofun (det_move rfl) rfl ?_
    refine hx_det rfl rfl rfl nofun (det_remB rfl rfl k4_p3) rfl ?_
    refine hx_end ?_
    refine wl_det rfl rfl (det_assign rfl) rfl ?_
    refine wl_nil ?_
    refine pn_then ?_
    refine wc_ret ?_
    replace h := Option.some.inj h
    subst h
    refine pn_ret (vs := [_]) rfl ⟨rfl, trivial⟩ ⟨A1, a0.L.length, c1, rfl, rfl, rfl⟩ (fun _ h => h.to ⟨_, r0, trivial⟩ ⟨(ms m0), trivial⟩)
def Q_treatymade_Deck_Upto (Ba0 : Nat) (r : Int × GDeck) : Value → List Ent → List Fact → Prop := fun v θ κ => ∃ (pA0 : Option Addr), ∃ (pn0 : Nat), ∃ (pc0 : Nat), v = .int .i64 r.1 ∧ θ = [eBlk Ba0 67 [.slice pA0 pn0 pc0, .int .i64 r.2.At]] ∧ κ = [fV (lSlice (lInt .i64)) (.slice pA0 pn0 pc0) r.2.L]
set_option maxRecDepth 100000 in
theorem W_treatymade_Deck_Upto (a0 : GDeck) (a1 : Int) (Ba0 : Nat) (A1 : Option Addr) (n1 : Nat) (c1 : Nat) (r : Int × GDeck) (h : treatymade_Deck_Upto a0 a1 = some r) : Spec Try.prog 40 [.pointer (some ⟨Ba0, 0, none⟩), .int .i64 a1] [eBlk Ba0 67 [.slice A1 n1 c1, .int .i64 a0.At]] [fV (lSlice (lInt .i64)) (.slice A1 n1 c1) a0.L] (Q_treatymade_Deck_Upto Ba0 r) := by
  unfold treatymade_Deck_Upto at h
  refine spec_of (σ := [(0, _), (1, _)]) Try.func40 rfl rfl rfl rfl ?_
  intro C
  refine wc_know (fun _ h => h.lenF m0) (fun e => ?_)
  subst e
  refine wc_seq ?_
  refine wc_region ?_   -- region 0
  refine wl_det rfl rfl (det_assign rfl) rfl ?_
  refine wl_nil ?_
  refine pn_then ?_
  refine wc_seq ?_
  refine wc_seq ?_
  refine wc_region ?_   -- region 1
  refine wl_det rfl rfl (det_move rfl) rfl ?_
  obtain ⟨r1_1, hr1_1, h⟩ := bind_some h
  refine wl_act (act_callS (cap := []) (W_treatymade_Deck_Next a0 6 Ba0 A1 a0.L.length c1 r1_1 hr1_1) rfl rfl rfl bd41 ⟨_, r0, rfl⟩ ⟨m0, trivial⟩) rfl rfl rfl ?_
  rintro _ _ _ ⟨_, _, ⟨y1_1A0, y1_1n0, y1_1c0, rfl, rfl, rfl⟩, rfl, rfl⟩
  dsimp only [List.nil_append, List.cons_append]
  refine wl_know (fun _ h => h.lenF m0) (fun e => ?_)
  subst e
  refine wl_nil ?_
  refine pn_then ?_
  refine wc_block ?_
  refine wc_seq ?_
  refine wc_region ?_   -- region 2
  refine wl_det rfl rfl (det_eql rfl rfl) rfl ?_
  refine wl_det rfl rfl (det_assign rfl) rfl ?_
  refine wl_nil ?_
  refine pn_then ?_
  refine wc_cond rfl (fun c8 => ?_) (fun c8 => ?_)
  · have h := ifT h c8
    refine wc_seq ?_
    refine wc_region ?_   -- region 3
    refine wl_det rfl rfl (det_move rfl) rfl ?_
    obtain ⟨r3_1, hr3_1, h⟩ := bind_some h
    refine wl_act (act_callS (cap := []) (W_treatymade_Deck_Next r1_1.2 4 Ba0 y1_1A0 r1_1.2.L.length y1_1c0 r3_1 hr3_1) rfl rfl rfl bd41 ⟨_, r0, rfl⟩ ⟨m0, trivial⟩) rfl rfl rfl ?_
    rintro _ _ _ ⟨_, _, ⟨y3_1A0, y3_1n0, y3_1c0, rfl, rfl, rfl⟩, rfl, rfl⟩
    dsimp only [List.nil_append, List.cons_append]
    refine wl_know (fun _ h => h.lenF m0) (fun e => ?_)
    subst e
    refine wl_det rfl rfl (det_move rfl) rfl ?_
    refine wl_det rfl rfl (det_minI rfl rfl) rfl ?_
    refine wl_det rfl rfl (det_assign rfl) rfl ?_
    refine wl_nil ?_
    refine pn_then ?_
    refine wc_ret ?_
    refine pr_block ?_
    refine pr_then ?_
    replace h := Option.some.inj h
    subst h
    refine pn_ret (vs := [_]) rfl ⟨rfl, trivial⟩ ⟨y3_1A0, r3_1.2.L.length, y3_1c0, rfl, rfl, rfl⟩ (fun _ h => h.to ⟨_, r0, trivial⟩ ⟨m0, trivial⟩)
  · have h := ifF h c8
    refine wc_seq ?_
    refine wc_region ?_   -- region 4
    refine wl_det rfl rfl (det_eql rfl rfl) rfl ?_
    refine wl_det rfl rfl (det_assign rfl) rfl ?_
    refine wl_nil ?_
    refine pn_then ?_
    refine wc_cond rfl (fun c13 => ?_) (fun c13 => ?_)
    · have h := ifT h c13
      refine wc_seq ?_
      refine wc_region ?_   -- region 5
      refine wl_det rfl rfl (det_move rfl) rfl ?_
      obtain ⟨r5_1, hr5_1, h⟩ := bind_some h
      refine wl_act (act_callS (cap := []) (W_treatymade_Deck_Next r1_1.2 100 Ba0 y1_1A0 r1_1.2.L.length y1_1c0 r5_1 hr5_1) rfl rfl rfl bd41 ⟨_, r0, rfl⟩ ⟨m0, trivial⟩) rfl rfl rfl ?_
      rintro _ _ _ ⟨_, _, ⟨y5_1A0, y5_1n0, y5_1c0, rfl, rfl, rfl⟩, rfl, rfl⟩
      dsimp only [List.nil_append, List.cons_append]
      refine wl_know (fun _ h => h.lenF m0) (fun e => ?_)
      subst e
      refine wl_det rfl rfl (det_move rfl) rfl ?_
      refine wl_det rfl rfl (det_minI rfl rfl) rfl ?_
      refine wl_det rfl rfl (det_assign rfl) rfl ?_
      refine wl_nil ?_
      refine pn_then ?_
      refine wc_ret ?_
      refine pr_block ?_
      refine pr_then ?_
      replace h := Option.some.inj h
      subst h
      refine pn_ret (vs := [_]) rfl ⟨rfl, trivial⟩ ⟨y5_1A0, r5_1.2.L.length, y5_1c0, rfl, rfl, rfl⟩ (fun _ h => h.to ⟨_, r0, trivial⟩ ⟨m0, trivial⟩)
    · have h := ifF h c13
      refine wc_seq ?_
      refine wc_region ?_   -- region 6
      refine wl_det rfl rfl (det_eql rfl rfl) rfl ?_
      refine wl_det rfl rfl (det_assign rfl) rfl ?_
      refine wl_nil ?_
      refine pn_then ?_
      refine wc_cond rfl (fun c18 => ?_) (fun c18 => ?_)
      · have h := ifT h c18
        refine wc_seq ?_
        refine wc_region ?_   -- region 7
        refine wl_det rfl rfl (det_move rfl) rfl ?_
        obtain ⟨r7_1, hr7_1, h⟩ := bind_some h
        refine wl_act (act_callS (cap := []) (W_treatymade_Deck_Next r1_1.2 1048576 Ba0 y1_1A0 r1_1.2.L.length y1_1c0 r7_1 hr7_1) rfl rfl rfl bd41 ⟨_, r0, rfl⟩ ⟨m0, trivial⟩) rfl rfl rfl ?_
        rintro _ _ _ ⟨_, _, ⟨y7_1A0, y7_1n0, y7_1c0, rfl, rfl, rfl⟩, rfl, rfl⟩
        dsimp only [List.nil_append, List.cons_append]
        refine wl_know (fun _ h => h.lenF m0) (fun e => ?_)
        subst e
        refine wl_det rfl rfl (det_move rfl) rfl ?_
        refine wl_det rfl rfl (det_minI rfl rfl) rfl ?_
        refine wl_det rfl rfl (det_assign rfl) rfl ?_
        refine wl_nil ?_
        refine pn_then ?_
        refine wc_ret ?_
        refine pr_block ?_
        refine pr_then ?_
        replace h := Option.some.inj h
        subst h
        refine pn_ret (vs := [_]) rfl ⟨rfl, trivial⟩ ⟨y7_1A0, r7_1.2.L.length, y7_1c0, rfl, rfl, rfl⟩ (fun _ h => h.to ⟨_, r0, trivial⟩ ⟨m0, trivial⟩)
      · have h := ifF h c18
        refine wc_seq ?_
        refine wc_region ?_   -- region 8
        refine wl_det rfl rfl (det_eql rfl rfl) rfl ?_
        refine wl_det rfl rfl (det_assign rfl) rfl ?_
        refine wl_nil ?_
        refine pn_then ?_
        refine wc_cond rfl (fun c23 => ?_) (fun c23 => ?_)
        · have h := ifT h c23
          refine wc_seq ?_
          refine wc_region ?_   -- region 9
          refine wl_det rfl rfl (det_move rfl) rfl ?_
          refine wl_det rfl rfl (det_move rfl) rfl ?_
          refine wl_det rfl rfl (det_move rfl) rfl ?_
          refine wl_det rfl rfl (det_add rfl rfl) rfl ?_
          refine wl_det rfl rfl (det_minI rfl rfl) rfl ?_
          obtain ⟨r9_5, hr9_5, h⟩ := bind_some h
          refine wl_act (act_callS (cap := []) (W_treatymade_Deck_Next r1_1.2 (minI 3 (w64 (a1 + 1))) Ba0 y1_1A0 r1_1.2.L.length y1_1c0 r9_5 hr9_5) rfl rfl rfl bd41 ⟨_, r0, rfl⟩ ⟨m0, trivial⟩) rfl rfl rfl ?_
          rintro _ _ _ ⟨_, _, ⟨y9_5A0, y9_5n0, y9_5c0, rfl, rfl, rfl⟩, rfl, rfl⟩
          dsimp only [List.nil_append, List.cons_append]
          refine wl_know (fun _ h => h.lenF m0) (fun e => ?_)
          subst e
          refine wl_det rfl rfl (det_sub rfl rfl) rfl ?_
          refine wl_det rfl rfl (det_assign rfl) rfl ?_
          refine wl_nil ?_
          refine pn_then ?_
          refine wc_ret ?_
          refine pr_block ?_
          refine pr_then ?_
          replace h := Option.some.inj h
          subst h
          refine pn_ret (vs := [_]) rfl ⟨rfl, trivial⟩ ⟨y9_5A0, r9_5.2.L.length, y9_5c0, rfl, rfl, rfl⟩ (fun _ h => h.to ⟨_, r0, trivial⟩ ⟨m0, trivial⟩)
        · have h := ifF h c23
          refine wc_skip ?_
          refine pn_block ?_
          refine pn_then ?_
          refine wc_seq ?_
          refine wc_region ?_   -- region 10
          refine wl_det rfl rfl (det_move rfl) rfl ?_
          refine wl_det rfl rfl (det_move rfl) rfl ?_
          refine wl_det rfl rfl (det_add rfl rfl) rfl ?_
          obtain ⟨r10_3, hr10_3, h⟩ := bind_some h
          refine wl_act (act_callS (cap := []) (W_treatymade_Deck_Next r1_1.2 (w64 (a1 + 1)) Ba0 y1_1A0 r1_1.2.L.length y1_1c0 r10_3 hr10_3) rfl rfl rfl bd41 ⟨_, r0, rfl⟩ ⟨m0, trivial⟩) rfl rfl rfl ?_
          rintro _ _ _ ⟨_, _, ⟨y10_3A0, y10_3n0, y10_3c0, rfl, rfl, rfl⟩, rfl, rfl⟩
          dsimp only [List.nil_append, List.cons_append]
          refine wl_know (fun _ h => h.lenF m0) (fun e => ?_)
          subst e
          refine wl_det rfl rfl (det_assign rfl) rfl ?_
          refine wl_nil ?_
          refine pn_then ?_
          refine wc_ret ?_
          replace h := Option.some.inj h
          subst h
          refine pn_ret (vs := [_]) rfl ⟨rfl, trivial⟩ ⟨y10_3A0, r10_3.2.L.length, y10_3c0, rfl, rfl, rfl⟩ (fun _ h => h.to ⟨_, r0, trivial⟩ ⟨m0, trivial⟩)
def Q_treatymade_Deck_Money (Ba0 : Nat) (r : Int × GDeck) : Value → List Ent → List Fact → Prop := fun v θ κ => ∃ (pA0 : Option Addr), ∃ (pn0 : Nat), ∃ (pc0 : Nat), v = .int .i64 r.1 ∧ θ = [eBlk Ba0 67 [.slice pA0 pn0 pc0, .int .i64 r.2.At]] ∧ κ = [fV (lSlice (lInt .i64)) (.slice pA0 pn0 pc0) r.2.L]
set_option maxRecDepth 100000 in
theorem W_treatymade_Deck_Money (a0 : GDeck) (Ba0 : Nat) (A1 : Option Addr) (n1 : Nat) (c1 : Nat) (r : Int × GDeck) (h : treatymade_Deck_Money a0 = some r) : Spec Try.prog 42 [.pointer (some ⟨Ba0, 0, none⟩)] [eBlk Ba0 67 [.slice A1 n1 c1, .int .i64 a0.At]] [fV (lSlice (lInt .i64)) (.slice A1 n1 c1) a0.L] (Q_treatymade_Deck_Money Ba0 r) := by
  unfold treatymade_Deck_Money at h
  refine spec_of (σ := [(0, _)]) Try.func42 rfl rfl rfl rfl ?_
  intro C
  refine wc_know (fun _ h => h.lenF m0) (fun e => ?_)
  subst e
  refine wc_seq ?_
  refine wc_region ?_   -- region 0
  refine wl_det rfl rfl (det_assign rfl) rfl ?_
  refine wl_nil ?_
  refine pn_then ?_
  refine wc_seq ?_
  refine wc_region ?_   -- region 1
  refine wl_det rfl rfl (det_move rfl) rfl ?_
  obtain ⟨r1_1, hr1_1, h⟩ := bind_some h
  refine wl_act (act_callS (cap := []) (W_treatymade_Deck_Upto a0 1073741824 Ba0 A1 a0.L.length c1 r1_1 hr1_1) rfl rfl rfl bd40 ⟨_, r0, rfl⟩ ⟨m0, trivial⟩) rfl rfl rfl ?_
  rintro _ _ _ ⟨_, _, ⟨y1_1A0, y1_1n0, y1_1c0, rfl, rfl, rfl⟩, rfl, rfl⟩
  dsimp only [List.nil_append, List.cons_append]
  refine wl_know (fun _ h => h.lenF m0) (fun e => ?_)
  subst e
  refine wl_det rfl rfl (det_assign rfl) rfl ?_
  refine wl_nil ?_
  refine pn_then ?_
  refine wc_ret ?_
  replace h := Option.some.inj h
  subst h
  refine pn_ret (vs := [_]) rfl ⟨rfl, trivial⟩ ⟨y1_1A0, r1_1.2.L.length, y1_1c0, rfl, rfl, rfl⟩ (fun _ h => h.to ⟨_, r0, trivial⟩ ⟨m0, trivial⟩)
def Q_treatylaw23_made (r : (List Int) × Int × Int × GDeck) : Value → List Ent → List Fact → Prop := fun v θ κ => ∃ (pA0 : Option Addr), ∃ (pn0 : Nat), ∃ (pc0 : Nat), ∃ (pb1 : Nat), ∃ (pA2 : Option Addr), ∃ (pn2 : Nat), ∃ (pc2 : Nat), v = .tuple #[.slice pA0 pn0 pc0, .int .i64 r.2.1, .int .i64 r.2.2.1, .pointer (some ⟨pb1, 0, none⟩)] ∧ θ = [eS (lInt .i64) 3 pA0 pn0 pc0 r.1, eBlk pb1 67 [.slice pA2 pn2 pc2, .int .i64 r.2.2.2.At]] ∧ κ = [fV (lSlice (lInt .i64)) (.slice pA2 pn2 pc2) r.2.2.2.L]
set_option maxRecDepth 100000 in
theorem W_treatylaw23_made (a0 : (List Int)) (A0 : Option Addr) (n0 : Nat) (c0 : Nat) (r : (List Int) × Int × Int × GDeck) (h : treatylaw23_made a0 = some r) : Spec Try.prog 16 [.slice A0 n0 c0] [] [fV (lSlice (lInt .i64)) (.slice A0 n0 c0) a0] (Q_treatylaw23_made r) := by
  unfold treatylaw23_made at h
  refine spec_of (σ := [(0, _)]) Try.func16 rfl rfl rfl rfl ?_
  intro C
  refine wc_know (fun _ h => h.lenF m0) (fun e => ?_)
  subst e
  refine wc_seq ?_
  refine wc_region ?_   -- region 0
  refine wl_det rfl rfl (det_assign rfl) rfl ?_
  refine wl_det rfl rfl (det_assign rfl) rfl ?_
  refine wl_det rfl rfl (det_assign rfl) rfl ?_
  refine wl_det rfl rfl (det_assign rfl) rfl ?_
  refine wl_nil ?_
  refine pn_then ?_
  refine wc_seq ?_
  refine wc_region ?_   -- region 1
  refine wl_det rfl rfl (det_move rfl) rfl ?_
  obtain ⟨r1_1, hr1_1, h⟩ := bind_some h
  refine wl_act (act_callS (cap := []) (W_treatymade_New a0 A0 a0.length c0 r1_1 hr1_1) rfl rfl rfl bd18 rfl ⟨m0, trivial⟩) rfl rfl rfl ?_
  rintro _ _ _ ⟨_, _, ⟨y1_1b0, y1_1A1, y1_1n1, y1_1c1, rfl, rfl, rfl⟩, rfl, rfl⟩
  dsimp only [List.nil_append, List.cons_append]
  refine wl_know (fun _ h => h.lenF m0) (fun e => ?_)
  subst e
  refine wl_det rfl rfl (det_assign rfl) rfl ?_
  refine wl_nil ?_
  refine pn_then ?_
  refine wc_seq ?_
  refine wc_region ?_   -- region 2
  refine wl_det rfl rfl (det_move rfl) rfl ?_
  obtain ⟨r2_1, hr2_1, h⟩ := bind_some h
  refine wl_act (act_callS (cap := []) (W_treatymade_Deck_Upto r1_1 4294967296 y1_1b0 y1_1A1 r1_1.L.length y1_1c1 r2_1 hr2_1) rfl rfl rfl bd40 ⟨_, r0, rfl⟩ ⟨m0, trivial⟩) rfl rfl rfl ?_
  rintro _ _ _ ⟨_, _, ⟨y2_1A0, y2_1n0, y2_1c0, rfl, rfl, rfl⟩, rfl, rfl⟩
  dsimp only [List.nil_append, List.cons_append]
  refine wl_know (fun _ h => h.lenF m0) (fun e => ?_)
  subst e
  refine wl_det rfl rfl (det_move rfl) rfl ?_
  obtain ⟨r2_3, hr2_3, h⟩ := bind_some h
  refine wl_act (act_callS (cap := []) (W_treatymade_Deck_Upto r2_1.2 4294967296 y1_1b0 y2_1A0 r2_1.2.L.length y2_1c0 r2_3 hr2_3) rfl rfl rfl bd40 ⟨_, r0, rfl⟩ ⟨m0, trivial⟩) rfl rfl rfl ?_
  rintro _ _ _ ⟨_, _, ⟨y2_3A0, y2_3n0, y2_3c0, rfl, rfl, rfl⟩, rfl, rfl⟩
  dsimp only [List.nil_append, List.cons_append]
  refine wl_know (fun _ h => h.lenF m0) (fun e => ?_)
  subst e
  refine wl_det rfl rfl (det_assign rfl) rfl ?_
  refine wl_det rfl rfl (det_assign rfl) rfl ?_
  refine wl_nil ?_
  refine pn_then ?_
  refine wc_seq ?_
  refine wc_region ?_   -- region 3
  refine wl_det rfl rfl (det_assign rfl) rfl ?_
  refine wl_nil ?_
  refine pn_then ?_
  obtain ⟨q8, h, ho8⟩ := bind_some h
  refine wc_meetG (G := ((List Int) × Int × (List Int)) × Option Addr × Nat × Nat × Option Addr × Nat × Nat × Unit) (fun (s8, _, _, _, _, _, _, _) => s8 = q8) (fun (_, _, _, _, A8_3, n8_3, c8_3, _) => [(6, .pointer (some ⟨y1_1b0, 0, none⟩)), (7, .int .i64 r2_1.1), (8, .int .i64 r2_3.1), (9, .slice A8_3 n8_3 c8_3)]) (fun (s8, A8_0, n8_0, c8_0, A8_3, n8_3, c8_3, _) => [eBlk y1_1b0 67 [.slice A8_0 n8_0 c8_0, .int .i64 s8.2.1], eS (lInt .i64) 3 A8_3 n8_3 c8_3 s8.2.2]) (fun (s8, A8_0, n8_0, c8_0, _, _, _, _) => [fV (lSlice (lInt .i64)) (.slice A8_0 n8_0 c8_0) s8.1]) ?_ ?_
  · refine wc_seq ?_
    refine wc_region ?_   -- region 4
    refine wl_det rfl rfl (det_move rfl) rfl ?_
    obtain ⟨r4_1, hr4_1, h⟩ := bind_some h
    refine wl_act (act_callS (cap := []) (W_treatymade_Deck_Next r2_3.2 8 y1_1b0 y2_3A0 r2_3.2.L.length y2_3c0 r4_1 hr4_1) rfl rfl rfl bd41 ⟨_, r0, rfl⟩ ⟨m0, trivial⟩) rfl rfl rfl ?_
    rintro _ _ _ ⟨_, _, ⟨y4_1A0, y4_1n0, y4_1c0, rfl, rfl, rfl⟩, rfl, rfl⟩
    dsimp only [List.nil_append, List.cons_append]
    refine wl_know (fun _ h => h.lenF m0) (fun e => ?_)
    subst e
    refine wl_det rfl rfl (det_assign rfl) rfl ?_
    refine wl_nil ?_
    refine pn_then ?_
    refine wc_block ?_
    refine wc_st (fun _ h => h.zeroS (lInt .i64) 3 none) ?_
    obtain ⟨k12, hk12⟩ := loopV_some.1 h
    refine wc_loop (G := Nat × ((List Int) × Int × (List Int) × Int) × Option Addr × Nat × Nat × Option Addr × Nat × Nat × Unit) (fun g => IterN treatylaw23_made_l12 g.1 g.2.1 q8) (fun g => g.1) (fun (_, s12, _, _, _, A12_3, n12_3, c12_3, _) => [(6, .pointer (some ⟨y1_1b0, 0, none⟩)), (7, .int .i64 r2_1.1), (8, .int .i64 r2_3.1), (9, .slice A12_3 n12_3 c12_3), (10, .int .i64 s12.2.2.2)]) (fun (_, s12, A12_0, n12_0, c12_0, A12_3, n12_3, c12_3, _) => [eBlk y1_1b0 67 [.slice A12_0 n12_0 c12_0, .int .i64 s12.2.1], eS (lInt .i64) 3 A12_3 n12_3 c12_3 s12.2.2.1]) (fun (_, s12, A12_0, n12_0, c12_0, _, _, _, _) => [fV (lSlice (lInt .i64)) (.slice A12_0 n12_0 c12_0) s12.1]) (k12, (r4_1.2.L, r4_1.2.At, [], r4_1.1), y4_1A0, r4_1.2.L.length, y4_1c0, none, 0, 0, ()) hk12 ⟨rfl, rfl, rfl, rfl, rfl, trivial⟩ (fun _ h => h.to ⟨_, (rs r0), ⟨_, r0, trivial⟩⟩ ⟨m0, trivial⟩) ?_
    rintro ⟨k12, s12, A12_0, n12_0, c12_0, A12_3, n12_3, c12_3, _⟩ hI
    obtain ⟨k12, rfl, q12, h, g12⟩ := IterN.pos hI
    dsimp only at h ⊢
    unfold treatylaw23_made_l12 at h
    refine wc_know (fun _ h => h.lenF m0) (fun e => ?_)
    subst e
    refine wc_know (fun _ h => h.lenO (ms m0)) (fun e => ?_)
    subst e
    refine wc_seq ?_
    refine wc_seq ?_
    refine wc_region ?_   -- region 5
    refine wl_det rfl rfl (det_move rfl) rfl ?_
    refine wl_det rfl rfl (det_gtr rfl rfl) rfl ?_
    refine wl_nil ?_
    refine pn_then ?_
    refine wc_cond rfl (fun c16 => ?_) (fun c16 => ?_)
    · have h := ifT h c16
      refine wc_skip ?_
      refine pn_then ?_
      refine wc_seq ?_
      refine wc_block ?_
      refine wc_region ?_   -- region 7
      refine wl_det rfl rfl (det_move rfl) rfl ?_
      refine wl_det rfl rfl (det_move rfl) rfl ?_
      obtain ⟨r7_2, hr7_2, h⟩ := bind_some h
      refine wl_act (act_callS (cap := []) (W_treatymade_Deck_Money (GDeck.mk s12.1 s12.2.1) y1_1b0 A12_0 s12.1.length c12_0 r7_2 hr7_2) rfl rfl rfl bd42 ⟨_, r0, rfl⟩ ⟨m0, trivial⟩) rfl rfl rfl ?_
      rintro _ _ _ ⟨_, _, ⟨y7_2A0, y7_2n0, y7_2c0, rfl, rfl, rfl⟩, rfl, rfl⟩
      dsimp only [List.nil_append, List.cons_append]
      refine wl_know (fun _ h => h.lenF m0) (fun e => ?_)
      subst e
      refine wl_act (act_litS (lInt .i64) (vs := [_]) (cs := [_]) [r7_2.1] un22 in3 rfl rfl rfl rfl rfl ⟨rfl, trivial⟩ (by rfl) rfl (litR_flat rfl)) rfl rfl rfl ?_
      rintro _ _ _ ⟨A7_3, rfl, rfl, rfl⟩
      obtain ⟨k7_4, h⟩ := chk_some h
      refine wl_act (act_appendS (L := (lInt .i64)) rfl rfl (ss (ss s0)) (src_O m0) un22 in3 rfl rfl rfl k7_4) rfl rfl rfl ?_
      rintro _ _ _ ⟨A7_4, c7_4, rfl, rfl, rfl⟩
      refine wl_det rfl rfl (det_assign rfl) rfl ?_
      refine wl_nil ?_
      refine pn_block ?_
      refine pn_then ?_
      refine wc_region ?_   -- region 6
      refine wl_det rfl rfl (det_move rfl) rfl ?_
      refine wl_det rfl rfl (det_sub rfl rfl) rfl ?_
      refine wl_det rfl rfl (det_assign rfl) rfl ?_
      refine wl_nil ?_
      replace h := Option.some.inj h
      subst h
      exact pn_some (k12, (r7_2.2.L, r7_2.2.At, (s12.2.2.1 ++ [r7_2.1]), (w64 (s12.2.2.2 - 1))), y7_2A0, r7_2.2.L.length, y7_2c0, A7_4, (s12.2.2.1 ++ [r7_2.1]).length, c7_4, ()) ⟨nextL g12, Nat.lt_succ_self _⟩ ⟨rfl, rfl, rfl, rfl, rfl, trivial⟩ (fun _ h => h.to ⟨_, (rs r0), ⟨_, (rs r0), trivial⟩⟩ ⟨m0, trivial⟩)
    · have h := ifF h c16
      refine wc_exit ?_
      refine px_then ?_
      refine px_then ?_
      refine px_block ?_
      replace h := Option.some.inj h
      subst h
      replace g12 := nextR g12
      subst g12
      exact pn_meetG ((s12.1, s12.2.1, s12.2.2.1), A12_0, s12.1.length, c12_0, A12_3, s12.2.2.1.length, c12_3, ()) rfl ⟨rfl, rfl, rfl, rfl, trivial⟩ (fun _ h => h.to ⟨_, r0, ⟨_, r0, trivial⟩⟩ ⟨m0, trivial⟩)
  rintro ⟨s8, A8_0, n8_0, c8_0, A8_3, n8_3, c8_3, _⟩ e8
  dsimp only at e8 ⊢
  subst e8
  have h := ho8
  refine wc_know (fun _ h => h.lenF m0) (fun e => ?_)
  subst e
  refine wc_know (fun _ h => h.lenO (ms m0)) (fun e => ?_)
  subst e
  refine wc_seq ?_
  refine wc_region ?_   -- region 8
  refine wl_det rfl rfl (det_move rfl) rfl ?_
  refine wl_det rfl rfl (det_move rfl) rfl ?_
  refine wl_det rfl rfl (det_move rfl) rfl ?_
  refine wl_det rfl rfl (det_move rfl) rfl ?_
  refine wl_det rfl rfl (det_assign rfl) rfl ?_
  refine wl_det rfl rfl (det_assign rfl) rfl ?_
  refine wl_det rfl rfl (det_assign rfl) rfl ?_
  refine wl_det rfl rfl (det_assign rfl) rfl ?_
  refine wl_nil ?_
  refine pn_then ?_
  refine wc_ret ?_
  replace h := Option.some.inj h
  subst h
  refine pn_ret (vs := [_, _, _, _]) rfl ⟨rfl, rfl, rfl, rfl, trivial⟩ ⟨A8_3, s8.2.2.length, c8_3, y1_1b0, A8_0, s8.1.length, c8_0, rfl, rfl, rfl⟩ (fun _ h => h.to ⟨_, (rs r0), ⟨_, r0, trivial⟩⟩ ⟨m0, trivial⟩)
def Q_aggregate_within (r : Bool) : Value → List Ent → List Fact → Prop := fun v θ κ => v = .bool r ∧ θ = [] ∧ κ = []
theorem plains_aggregate_within {r : Bool} : ∀ v θ κ, Q_aggregate_within r v θ κ → Plains θ := by
  rintro _ _ _ ⟨rfl, rfl, rfl⟩
  exact trivial
set_option maxRecDepth 100000 in
theorem W_aggregate_within (a0 : Int) (r : Bool) (h : aggregate_within a0 = some r) : Spec Try.prog 51 [.int .i64 a0] [] [] (Q_aggregate_within r) := by
  unfold aggregate_within at h
  refine spec_of (σ := [(0, _)]) Try.func51 rfl rfl rfl rfl ?_
  intro C
  refine wc_seq ?_
  refine wc_region ?_   -- region 0
  refine wl_det rfl rfl (det_assign rfl) rfl ?_
  refine wl_nil ?_
  refine pn_then ?_
  refine wc_seq ?_
  refine wc_region ?_   -- region 1
  refine wl_det rfl rfl (det_move rfl) rfl ?_
  refine wl_det rfl rfl (det_geq rfl rfl) rfl ?_
  refine wl_det rfl rfl (det_move rfl) rfl ?_
  refine wl_way (decide (0 ≤ a0)) ((decide (0 ≤ a0)) && (decide (a0 ≤ 17592186044416))) 3 8 (fun hg => ?_) (fun hg => ?_) ?_
  · have hg1_5 := hg
    refine wl_on rfl rfl rfl rfl hg1_5 ?_
    refine wl_det rfl rfl (det_move rfl) rfl ?_
    refine wl_on rfl rfl rfl rfl hg1_5 ?_
    refine wl_det rfl rfl (det_leq rfl rfl) rfl ?_
    refine wl_det rfl rfl (det_and_on rfl rfl rfl hg1_5) rfl ?_
    exact wl_nil (pn_qnE (ext_cons rfl (ext_skip rfl (ext_skip rfl (ext_skip rfl ext_refl)))) (fun _ h => h))
  · have hg1_5a := hg
    refine wl_off rfl rfl rfl rfl rfl hg1_5a rfl ?_
    refine wl_off rfl rfl rfl rfl rfl hg1_5a rfl ?_
    refine wl_det rfl rfl (det_and_off (q := (decide (a0 ≤ 17592186044416))) rfl rfl rfl hg1_5a) rfl ?_
    exact wl_nil (pn_qnE (ext_cons rfl (ext_skip rfl (ext_skip rfl (ext_skip rfl ext_refl)))) (fun _ h => h))
  refine wl_det rfl rfl (det_assign rfl) rfl ?_
  refine wl_nil ?_
  refine pn_then ?_
  refine wc_ret ?_
  replace h := Option.some.inj h
  subst h
  refine pn_ret (vs := [_]) rfl ⟨rfl, trivial⟩ ⟨rfl, rfl, rfl⟩ (fun _ h => h.to trivial trivial)
def Q_aggregate_running_int_add (Ba0 : Nat) (r : Int × Grunning) : Value → List Ent → List Fact → Prop := fun v θ κ => v = .int .i64 r.1 ∧ θ = [eBlk Ba0 61 [.int .i64 r.2.sum]] ∧ κ = []
theorem plains_aggregate_running_int_add {Ba0 : Nat} {r : Int × Grunning} : ∀ v θ κ, Q_aggregate_running_int_add Ba0 r v θ κ → Plains θ := by
  rintro _ _ _ ⟨rfl, rfl, rfl⟩
  exact ⟨plain_eBlk, trivial⟩
set_option maxRecDepth 100000 in
theorem W_aggregate_running_int_add (a0 : Grunning) (a1 : Int) (Ba0 : Nat) (r : Int × Grunning) (h : aggregate_running_int_add a0 a1 = some r) : Spec Try.prog 37 [.pointer (some ⟨Ba0, 0, none⟩), .int .i64 a1] [eBlk Ba0 61 [.int .i64 a0.sum]] [] (Q_aggregate_running_int_add Ba0 r) := by
  unfold aggregate_running_int_add at h
  refine spec_of (σ := [(0, _), (1, _)]) Try.func37 rfl rfl rfl rfl ?_
  intro C
  refine wc_seq ?_
  refine wc_region ?_   -- region 0
  refine wl_det rfl rfl (det_assign rfl) rfl ?_
  refine wl_nil ?_
  refine pn_then ?_
  refine wc_seq ?_
  refine wc_region ?_   -- region 1
  refine wl_det rfl rfl (det_move rfl) rfl ?_
  refine wl_det rfl rfl (det_nilCheckB rfl) rfl ?_
  refine wl_det rfl rfl (det_field rfl fd61_0 rfl) rfl ?_
  refine wl_det rfl rfl (det_load rfl m0 (by rfl) na3 us3) rfl ?_
  refine wl_det rfl rfl (det_move rfl) rfl ?_
  refine wl_det rfl rfl (det_add rfl rfl) rfl ?_
  refine wl_det rfl rfl (det_nilCheckB rfl) rfl ?_
  refine wl_det rfl rfl (det_field rfl fd61_0 rfl) rfl ?_
  refine wl_act0 (act_store (cells := [_]) (cs' := [_]) rfl rfl rfl s0 (by rfl) (of_decide_eq_true rfl) sz3 ⟨rfl, trivial⟩) rfl rfl ?_
  rintro _ _ _ ⟨rfl, rfl⟩
  refine wl_nil ?_
  refine pn_then ?_
  refine wc_seq ?_
  refine wc_region ?_   -- region 2
  refine wl_det rfl rfl (det_move rfl) rfl ?_
  refine wl_det rfl rfl (det_nilCheckB rfl) rfl ?_
  refine wl_det rfl rfl (det_field rfl fd61_0 rfl) rfl ?_
  refine wl_det rfl rfl (det_load rfl m0 (by rfl) na3 us3) rfl ?_
  refine wl_det rfl rfl (det_assign rfl) rfl ?_
  refine wl_nil ?_
  refine pn_then ?_
  refine wc_ret ?_
  replace h := Option.some.inj h
  subst h
  refine pn_ret (vs := [_]) rfl ⟨rfl, trivial⟩ ⟨rfl, rfl, rfl⟩ (fun _ h => h.to ⟨_, r0, trivial⟩ trivial)
def Q_aggregate_total (r : Int × Int) : Value → List Ent → List Fact → Prop := fun v θ κ => v = .tuple #[.int .i64 r.1, .int .i64 r.2] ∧ θ = [] ∧ κ = []
theorem plains_aggregate_total {r : Int × Int} : ∀ v θ κ, Q_aggregate_total r v θ κ → Plains θ := by
  rintro _ _ _ ⟨rfl, rfl, rfl⟩
  exact trivial
set_option maxRecDepth 100000 in
theorem W_aggregate_total (a0 : (List Int)) (a1 : Int) (a2 : Int) (A0 : Option Addr) (n0 : Nat) (c0 : Nat) (r : Int × Int) (h : aggregate_total a0 a1 a2 = some r) : Spec Try.prog 35 [.slice A0 n0 c0, .int .i64 a1, .int .i64 a2] [] [fV (lSlice (lInt .i64)) (.slice A0 n0 c0) a0] (Q_aggregate_total r) := by
  unfold aggregate_total at h
  refine spec_of (σ := [(0, _), (1, _), (2, _)]) Try.func35 rfl rfl rfl rfl ?_
  intro C
  refine wc_know (fun _ h => h.lenF m0) (fun e => ?_)
  subst e
  refine wc_seq ?_
  refine wc_region ?_   -- region 0
  refine wl_det rfl rfl (det_assign rfl) rfl ?_
  refine wl_det rfl rfl (det_assign rfl) rfl ?_
  refine wl_nil ?_
  refine pn_then ?_
  refine wc_seq ?_
  refine wc_seq ?_
  refine wc_region ?_   -- region 1
  refine wl_det rfl rfl (det_move rfl) rfl ?_
  refine wl_det rfl rfl (det_len rfl un22) rfl ?_
  refine wl_det rfl rfl (det_gtr rfl rfl) rfl ?_
  refine wl_nil ?_
  refine pn_then ?_
  refine wc_cond rfl (fun c5 => ?_) (fun c5 => ?_)
  · have h := ifT h c5
    refine wc_seq ?_
    refine wc_region ?_   -- region 2
    refine wl_det rfl rfl (det_assign rfl) rfl ?_
    refine wl_det rfl rfl (det_assign rfl) rfl ?_
    refine wl_nil ?_
    refine pn_then ?_
    refine wc_ret ?_
    refine pr_then ?_
    replace h := Option.some.inj h
    subst h
    refine pn_ret (vs := [_, _]) rfl ⟨rfl, rfl, trivial⟩ ⟨rfl, rfl, rfl⟩ (fun _ h => h.to trivial trivial)
  · have h := ifF h c5
    refine wc_skip ?_
    refine pn_then ?_
    refine wc_seq ?_
    refine wc_seq ?_
    refine wc_region ?_   -- region 3
    refine wl_det rfl rfl (det_move rfl) rfl ?_
    obtain ⟨r3_1, hr3_1, h⟩ := bind_some h
    refine wl_act (act_callS (cap := []) (W_aggregate_within a1 r3_1 hr3_1) rfl rfl rfl bd51 rfl trivial) rfl rfl rfl ?_
    rintro _ _ _ ⟨_, _, ⟨rfl, rfl, rfl⟩, rfl, rfl⟩
    dsimp only [List.nil_append, List.cons_append]
    refine wl_det rfl rfl (det_not rfl) rfl ?_
    refine wl_det rfl rfl (det_move rfl) rfl ?_
    obtain ⟨q3_7, hq3_7, h⟩ := bind_some h
    have ho3_7 := h
    refine wl_way (!r3_1) q3_7 4 21 (fun hg => ?_) (fun hg => ?_) ?_
    · have hg3_7 := hg
      have h := ifT hq3_7 hg
      refine wl_off rfl rfl rfl rfl rfl hg3_7 rfl ?_
      refine wl_off rfl rfl rfl rfl rfl hg3_7 rfl ?_
      refine wl_off rfl rfl rfl rfl rfl hg3_7 rfl ?_
      replace h := Option.some.inj h
      subst h
      refine wl_det rfl rfl (det_pick_on rfl hg3_7 rfl rfl) rfl ?_
      exact wl_nil (pn_qnE (ext_cons rfl (ext_skip rfl (ext_skip rfl (ext_skip rfl (ext_skip rfl ext_refl))))) (fun _ h => h))
    · have hg3_7a := hg
      have h := ifF hq3_7 hg
      refine wl_on rfl rfl rfl rfl hg3_7a ?_
      refine wl_det rfl rfl (det_move rfl) rfl ?_
      refine wl_on rfl rfl rfl rfl hg3_7a ?_
      obtain ⟨r3_5, hr3_5, h⟩ := bind_some h
      refine wl_act (act_callS (cap := []) (W_aggregate_within a2 r3_5 hr3_5) rfl rfl rfl bd51 rfl trivial) rfl rfl rfl ?_
      rintro _ _ _ ⟨_, _, ⟨rfl, rfl, rfl⟩, rfl, rfl⟩
      dsimp only [List.nil_append, List.cons_append]
      refine wl_on rfl rfl rfl rfl hg3_7a ?_
      refine wl_det rfl rfl (det_not rfl) rfl ?_
      replace h := Option.some.inj h
      subst h
      refine wl_det rfl rfl (det_pick_off rfl hg3_7a rfl rfl) rfl ?_
      exact wl_nil (pn_qnE (ext_cons rfl (ext_skip rfl (ext_skip rfl (ext_skip rfl (ext_skip rfl ext_refl))))) (fun _ h => h))
    have h := ho3_7
    refine wl_nil ?_
    refine pn_then ?_
    refine wc_cond rfl (fun c11 => ?_) (fun c11 => ?_)
    · have h := ifT h c11
      refine wc_seq ?_
      refine wc_region ?_   -- region 4
      refine wl_det rfl rfl (det_assign rfl) rfl ?_
      refine wl_det rfl rfl (det_assign rfl) rfl ?_
      refine wl_nil ?_
      refine pn_then ?_
      refine wc_ret ?_
      refine pr_then ?_
      replace h := Option.some.inj h
      subst h
      refine pn_ret (vs := [_, _]) rfl ⟨rfl, rfl, trivial⟩ ⟨rfl, rfl, rfl⟩ (fun _ h => h.to trivial trivial)
    · have h := ifF h c11
      refine wc_skip ?_
      refine pn_then ?_
      refine wc_seq ?_
      refine wc_region ?_   -- region 5
      refine wl_act (act_alloc (cs := [_]) zr61 rfl) rfl rfl rfl ?_
      rintro _ _ _ ⟨b5_0, rfl, rfl, rfl⟩
      refine wl_nil ?_
      refine pn_then ?_
      obtain ⟨q16, h, ho16⟩ := bind_some h
      refine wc_meetG (G := Int × Unit) (fun (s16, _) => (.inl s16) = q16) (fun (_, _) => [(8, .pointer (some ⟨b5_0, 0, none⟩))]) (fun (s16, _) => [eBlk b5_0 61 [.int .i64 s16]]) (fun (_, _) => []) ?_ ?_
      · refine wc_seq ?_
        refine wc_region ?_   -- region 6
        refine wl_det rfl rfl (det_move rfl) rfl ?_
        refine wl_det rfl rfl (det_len rfl un22) rfl ?_
        refine wl_det rfl rfl (det_move rfl) rfl ?_
        refine wl_nil ?_
        refine pn_then ?_
        refine wc_block ?_
        obtain ⟨o20, h, ho20⟩ := bind_some h
        obtain ⟨k20, hk20⟩ := loopV_some.1 h
        refine wc_loop (G := Nat × (Int × Int) × Unit) (fun g => IterN (aggregate_total_l20 a0) g.1 g.2.1 o20) (fun g => g.1) (fun (_, s20, _) => [(8, .pointer (some ⟨b5_0, 0, none⟩)), (22, .slice A0 a0.length c0), (23, .int .i64 (a0.length : Int)), (24, .int .i64 s20.2)]) (fun (_, s20, _) => [eBlk b5_0 61 [.int .i64 s20.1]]) (fun (_, _, _) => [fV (lSlice (lInt .i64)) (.slice A0 a0.length c0) a0]) (k20, (0, 0), ()) hk20 ⟨rfl, rfl, rfl, rfl, trivial⟩ (fun _ h => h.to ⟨_, r0, trivial⟩ ⟨m0, trivial⟩) ?_
        rintro ⟨k20, s20, _⟩ hI
        obtain ⟨k20, rfl, q20, h, g20⟩ := IterN.pos hI
        dsimp only at h ⊢
        unfold aggregate_total_l20 at h
        refine wc_seq ?_
        refine wc_region ?_   -- region 7
        refine wl_det rfl rfl (det_lss rfl rfl) rfl ?_
        refine wl_nil ?_
        refine pn_then ?_
        refine wc_seq ?_
        refine wc_cond rfl (fun c24 => ?_) (fun c24 => ?_)
        · have h := ifT h c24
          refine wc_skip ?_
          refine pn_then ?_
          refine wc_seq ?_
          refine wc_block ?_
          refine wc_seq ?_
          refine wc_region ?_   -- region 8
          obtain ⟨k8_0, h⟩ := chk_some h
          refine wl_st (fun _ h => h.openF m0 k8_0) ?_
          refine wl_det rfl rfl (det_indexP rfl rfl (ms m0) k8_0 m0 un22 sz3) rfl ?_
          refine wl_det rfl rfl (det_loadP (off := 0) rfl m0 (by rfl) (by rfl) (loaded_1 na3 us3)) rfl ?_
          refine wl_det rfl rfl (det_assign rfl) rfl ?_
          refine wl_nil ?_
          refine pn_then ?_
          refine wc_seq ?_
          refine wc_seq ?_
          refine wc_region ?_   -- region 9
          refine wl_det rfl rfl (det_move rfl) rfl ?_
          obtain ⟨r9_1, hr9_1, h⟩ := bind_some h
          refine wl_act (act_callS (cap := []) (W_aggregate_within (ix a0 s20.2) r9_1 hr9_1) rfl rfl rfl bd51 rfl trivial) rfl rfl rfl ?_
          rintro _ _ _ ⟨_, _, ⟨rfl, rfl, rfl⟩, rfl, rfl⟩
          dsimp only [List.nil_append, List.cons_append]
          refine wl_det rfl rfl (det_not rfl) rfl ?_
          refine wl_nil ?_
          refine pn_then ?_
          refine wc_cond rfl (fun c33 => ?_) (fun c33 => ?_)
          · have h := ifT h c33
            refine wc_seq ?_
            refine wc_region ?_   -- region 10
            refine wl_det rfl rfl (det_assign rfl) rfl ?_
            refine wl_det rfl rfl (det_assign rfl) rfl ?_
            refine wl_nil ?_
            refine pn_then ?_
            refine wc_ret ?_
            refine pr_then ?_
            refine pr_block ?_
            refine pr_then ?_
            refine pr_then ?_
            refine pr_block ?_
            refine pr_then ?_
            replace h := Option.some.inj h
            subst h
            replace g20 := nextR g20
            subst g20
            have h := (elimL ho20)
            replace h := Option.some.inj h
            subst h
            have h := (elimR ho16)
            replace h := Option.some.inj h
            subst h
            refine pn_ret (vs := [_, _]) rfl ⟨rfl, rfl, trivial⟩ ⟨rfl, rfl, rfl⟩ (fun _ h => h.to trivial trivial)
          · have h := ifF h c33
            refine wc_skip ?_
            refine pn_then ?_
            refine wc_region ?_   -- region 11
            refine wl_det rfl rfl (det_move rfl) rfl ?_
            obtain ⟨r11_1, hr11_1, h⟩ := bind_some h
            refine wl_act (act_callS (cap := []) (W_aggregate_running_int_add (Grunning.mk s20.1) (ix a0 s20.2) b5_0 r11_1 hr11_1) rfl rfl rfl bd37 ⟨_, r0, rfl⟩ trivial) rfl rfl rfl ?_
            rintro _ _ _ ⟨_, _, ⟨rfl, rfl, rfl⟩, rfl, rfl⟩
            dsimp only [List.nil_append, List.cons_append]
            refine wl_nil ?_
            refine pn_block ?_
            refine pn_then ?_
            refine wc_region ?_   -- region 12
            refine wl_det rfl rfl (det_add rfl rfl) rfl ?_
            refine wl_det rfl rfl (det_move rfl) rfl ?_
            refine wl_nil ?_
            replace h := Option.some.inj h
            subst h
            exact pn_some (k20, (r11_1.2.sum, (w64 (s20.2 + 1))), ()) ⟨nextL g20, Nat.lt_succ_self _⟩ ⟨rfl, rfl, rfl, rfl, trivial⟩ (fun _ h => h.to ⟨_, r0, trivial⟩ ⟨(ms m0), trivial⟩)
        · have h := ifF h c24
          refine wc_exit ?_
          refine px_then ?_
          refine px_then ?_
          refine px_block ?_
          replace h := Option.some.inj h
          subst h
          replace g20 := nextR g20
          subst g20
          have h := (elimR ho20)
          replace h := Option.some.inj h
          subst h
          exact pn_meetG (s20.1, ()) rfl ⟨rfl, trivial⟩ (fun _ h => h.to ⟨_, r0, trivial⟩ trivial)
      rintro ⟨s16, _⟩ e16
      dsimp only at e16 ⊢
      subst e16
      have h := (elimL ho16)
      refine wc_seq ?_
      refine wc_seq ?_
      refine wc_region ?_   -- region 13
      refine wl_det rfl rfl (det_field rfl fd61_0 rfl) rfl ?_
      refine wl_det rfl rfl (det_load rfl m0 (by rfl) na3 us3) rfl ?_
      refine wl_det rfl rfl (det_gtr rfl rfl) rfl ?_
      refine wl_nil ?_
      refine pn_then ?_
      refine wc_cond rfl (fun c41 => ?_) (fun c41 => ?_)
      · have h := ifT h c41
        refine wc_seq ?_
        refine wc_region ?_   -- region 14
        refine wl_det rfl rfl (det_assign rfl) rfl ?_
        refine wl_det rfl rfl (det_assign rfl) rfl ?_
        refine wl_nil ?_
        refine pn_then ?_
        refine wc_ret ?_
        refine pr_then ?_
        replace h := Option.some.inj h
        subst h
        refine pn_ret (vs := [_, _]) rfl ⟨rfl, rfl, trivial⟩ ⟨rfl, rfl, rfl⟩ (fun _ h => h.to trivial trivial)
      · have h := ifF h c41
        refine wc_skip ?_
        refine pn_then ?_
        refine wc_seq ?_
        refine wc_region ?_   -- region 15
        refine wl_det rfl rfl (det_field rfl fd61_0 rfl) rfl ?_
        refine wl_det rfl rfl (det_load rfl m0 (by rfl) na3 us3) rfl ?_
        refine wl_det rfl rfl (det_assign rfl) rfl ?_
        refine wl_det rfl rfl (det_assign rfl) rfl ?_
        refine wl_nil ?_
        refine pn_then ?_
        refine wc_ret ?_
        replace h := Option.some.inj h
        subst h
        refine pn_ret (vs := [_, _]) rfl ⟨rfl, rfl, trivial⟩ ⟨rfl, rfl, rfl⟩ (fun _ h => h.to trivial trivial)
def Q_excess_least (r : Int) : Value → List Ent → List Fact → Prop := fun v θ κ => v = .int .i64 r ∧ θ = [] ∧ κ = []
theorem plains_excess_least {r : Int} : ∀ v θ κ, Q_excess_least r v θ κ → Plains θ := by
  rintro _ _ _ ⟨rfl, rfl, rfl⟩
  exact trivial
set_option maxRecDepth 100000 in
theorem W_excess_least (a0 : Int) (a1 : (List Int)) (A0 : Option Addr) (n0 : Nat) (c0 : Nat) (r : Int) (h : excess_least a0 a1 = some r) : Spec Try.prog 44 [.int .i64 a0, .slice A0 n0 c0] [] [fV (lSlice (lInt .i64)) (.slice A0 n0 c0) a1] (Q_excess_least r) := by
  unfold excess_least at h
  refine spec_of (σ := [(0, _), (1, _)]) Try.func44 rfl rfl rfl rfl ?_
  intro C
  refine wc_know (fun _ h => h.lenF m0) (fun e => ?_)
  subst e
  refine wc_seq ?_
  refine wc_region ?_   -- region 0
  refine wl_det rfl rfl (det_assign rfl) rfl ?_
  refine wl_nil ?_
  refine pn_then ?_
  obtain ⟨q2, h, ho2⟩ := bind_some h
  refine wc_meetG (G := Int × Unit) (fun (s2, _) => s2 = q2) (fun (s2, _) => [(0, .int .i64 s2)]) (fun (_, _) => []) (fun (_, _) => []) ?_ ?_
  · refine wc_seq ?_
    refine wc_region ?_   -- region 1
    refine wl_det rfl rfl (det_move rfl) rfl ?_
    refine wl_det rfl rfl (det_len rfl un22) rfl ?_
    refine wl_det rfl rfl (det_move rfl) rfl ?_
    refine wl_nil ?_
    refine pn_then ?_
    refine wc_block ?_
    obtain ⟨k6, hk6⟩ := loopV_some.1 h
    refine wc_loop (G := Nat × (Int × Int) × Unit) (fun g => IterN (excess_least_l6 a1) g.1 g.2.1 q2) (fun g => g.1) (fun (_, s6, _) => [(0, .int .i64 s6.1), (7, .slice A0 a1.length c0), (8, .int .i64 (a1.length : Int)), (9, .int .i64 s6.2)]) (fun (_, _, _) => []) (fun (_, _, _) => [fV (lSlice (lInt .i64)) (.slice A0 a1.length c0) a1]) (k6, (a0, 0), ()) hk6 ⟨rfl, rfl, rfl, rfl, trivial⟩ (fun _ h => h.to trivial ⟨m0, trivial⟩) ?_
    rintro ⟨k6, s6, _⟩ hI
    obtain ⟨k6, rfl, q6, h, g6⟩ := IterN.pos hI
    dsimp only at h ⊢
    unfold excess_least_l6 at h
    refine wc_seq ?_
    refine wc_region ?_   -- region 2
    refine wl_det rfl rfl (det_lss rfl rfl) rfl ?_
    refine wl_nil ?_
    refine pn_then ?_
    refine wc_seq ?_
    refine wc_cond rfl (fun c10 => ?_) (fun c10 => ?_)
    · have h := ifT h c10
      refine wc_skip ?_
      refine pn_then ?_
      obtain ⟨q12, h, ho12⟩ := bind_some h
      refine wc_meetG (G := Int × Unit) (fun (s12, _) => s12 = q12) (fun (s12, _) => [(0, .int .i64 s12), (7, .slice A0 a1.length c0), (8, .int .i64 (a1.length : Int)), (9, .int .i64 s6.2)]) (fun (_, _) => []) (fun (_, _) => [fV (lSlice (lInt .i64)) (.slice A0 a1.length c0) a1]) ?_ ?_
      · refine wc_block ?_
        refine wc_seq ?_
        refine wc_region ?_   -- region 3
        obtain ⟨k3_0, h⟩ := chk_some h
        refine wl_st (fun _ h => h.openF m0 k3_0) ?_
        refine wl_det rfl rfl (det_indexP rfl rfl (ms m0) k3_0 m0 un22 sz3) rfl ?_
        refine wl_det rfl rfl (det_loadP (off := 0) rfl m0 (by rfl) (by rfl) (loaded_1 na3 us3)) rfl ?_
        refine wl_det rfl rfl (det_assign rfl) rfl ?_
        refine wl_nil ?_
        refine pn_then ?_
        refine wc_seq ?_
        refine wc_region ?_   -- region 4
        refine wl_det rfl rfl (det_move rfl) rfl ?_
        refine wl_det rfl rfl (det_move rfl) rfl ?_
        refine wl_det rfl rfl (det_lss rfl rfl) rfl ?_
        refine wl_nil ?_
        refine pn_then ?_
        refine wc_cond rfl (fun c18 => ?_) (fun c18 => ?_)
        · have h := ifT h c18
          refine wc_region ?_   -- region 5
          refine wl_det rfl rfl (det_move rfl) rfl ?_
          refine wl_det rfl rfl (det_assign rfl) rfl ?_
          refine wl_nil ?_
          refine pn_block ?_
          replace h := Option.some.inj h
          subst h
          exact pn_meetG ((ix a1 s6.2), ()) rfl ⟨rfl, rfl, rfl, rfl, trivial⟩ (fun _ h => h.to trivial ⟨(ms m0), trivial⟩)
        · have h := ifF h c18
          refine wc_skip ?_
          refine pn_block ?_
          replace h := Option.some.inj h
          subst h
          exact pn_meetG (s6.1, ()) rfl ⟨rfl, rfl, rfl, rfl, trivial⟩ (fun _ h => h.to trivial ⟨(ms m0), trivial⟩)
      rintro ⟨s12, _⟩ e12
      dsimp only at e12 ⊢
      subst e12
      have h := ho12
      refine wc_region ?_   -- region 6
      refine wl_det rfl rfl (det_add rfl rfl) rfl ?_
      refine wl_det rfl rfl (det_move rfl) rfl ?_
      refine wl_nil ?_
      replace h := Option.some.inj h
      subst h
      exact pn_some (k6, (s12, (w64 (s6.2 + 1))), ()) ⟨nextL g6, Nat.lt_succ_self _⟩ ⟨rfl, rfl, rfl, rfl, trivial⟩ (fun _ h => h.to trivial ⟨m0, trivial⟩)
    · have h := ifF h c10
      refine wc_exit ?_
      refine px_then ?_
      refine px_then ?_
      refine px_block ?_
      replace h := Option.some.inj h
      subst h
      replace g6 := nextR g6
      subst g6
      exact pn_meetG (s6.1, ()) rfl ⟨rfl, trivial⟩ (fun _ h => h.to trivial trivial)
  rintro ⟨s2, _⟩ e2
  dsimp only at e2 ⊢
  subst e2
  have h := ho2
  refine wc_seq ?_
  refine wc_region ?_   -- region 7
  refine wl_det rfl rfl (det_move rfl) rfl ?_
  refine wl_det rfl rfl (det_assign rfl) rfl ?_
  refine wl_nil ?_
  refine pn_then ?_
  refine wc_ret ?_
  replace h := Option.some.inj h
  subst h
  refine pn_ret (vs := [_]) rfl ⟨rfl, trivial⟩ ⟨rfl, rfl, rfl⟩ (fun _ h => h.to trivial trivial)
def Q_excess_greatest (r : Int) : Value → List Ent → List Fact → Prop := fun v θ κ => v = .int .i64 r ∧ θ = [] ∧ κ = []
theorem plains_excess_greatest {r : Int} : ∀ v θ κ, Q_excess_greatest r v θ κ → Plains θ := by
  rintro _ _ _ ⟨rfl, rfl, rfl⟩
  exact trivial
set_option maxRecDepth 100000 in
theorem W_excess_greatest (a0 : Int) (a1 : (List Int)) (A0 : Option Addr) (n0 : Nat) (c0 : Nat) (r : Int) (h : excess_greatest a0 a1 = some r) : Spec Try.prog 46 [.int .i64 a0, .slice A0 n0 c0] [] [fV (lSlice (lInt .i64)) (.slice A0 n0 c0) a1] (Q_excess_greatest r) := by
  unfold excess_greatest at h
  refine spec_of (σ := [(0, _), (1, _)]) Try.func46 rfl rfl rfl rfl ?_
  intro C
  refine wc_know (fun _ h => h.lenF m0) (fun e => ?_)
  subst e
  refine wc_seq ?_
  refine wc_region ?_   -- region 0
  refine wl_det rfl rfl (det_assign rfl) rfl ?_
  refine wl_nil ?_
  refine pn_then ?_
  obtain ⟨q2, h, ho2⟩ := bind_some h
  refine wc_meetG (G := Int × Unit) (fun (s2, _) => s2 = q2) (fun (s2, _) => [(0, .int .i64 s2)]) (fun (_, _) => []) (fun (_, _) => []) ?_ ?_
  · refine wc_seq ?_
    refine wc_region ?_   -- region 1
    refine wl_det rfl rfl (det_move rfl) rfl ?_
    refine wl_det rfl rfl (det_len rfl un22) rfl ?_
    refine wl_det rfl rfl (det_move rfl) rfl ?_
    refine wl_nil ?_
    refine pn_then ?_
    refine wc_block ?_
    obtain ⟨k6, hk6⟩ := loopV_some.1 h
    refine wc_loop (G := Nat × (Int × Int) × Unit) (fun g => IterN (excess_greatest_l6 a1) g.1 g.2.1 q2) (fun g => g.1) (fun (_, s6, _) => [(0, .int .i64 s6.1), (7, .slice A0 a1.length c0), (8, .int .i64 (a1.length : Int)), (9, .int .i64 s6.2)]) (fun (_, _, _) => []) (fun (_, _, _) => [fV (lSlice (lInt .i64)) (.slice A0 a1.length c0) a1]) (k6, (a0, 0), ()) hk6 ⟨rfl, rfl, rfl, rfl, trivial⟩ (fun _ h => h.to trivial ⟨m0, trivial⟩) ?_
    rintro ⟨k6, s6, _⟩ hI
    obtain ⟨k6, rfl, q6, h, g6⟩ := IterN.pos hI
    dsimp only at h ⊢
    unfold excess_greatest_l6 at h
    refine wc_seq ?_
    refine wc_region ?_   -- region 2
    refine wl_det rfl rfl (det_lss rfl rfl) rfl ?_
    refine wl_nil ?_
    refine pn_then ?_
    refine wc_seq ?_
    refine wc_cond rfl (fun c10 => ?_) (fun c10 => ?_)
    · have h := ifT h c10
      refine wc_skip ?_
      refine pn_then ?_
      obtain ⟨q12, h, ho12⟩ := bind_some h
      refine wc_meetG (G := Int × Unit) (fun (s12, _) => s12 = q12) (fun (s12, _) => [(0, .int .i64 s12), (7, .slice A0 a1.length c0), (8, .int .i64 (a1.length : Int)), (9, .int .i64 s6.2)]) (fun (_, _) => []) (fun (_, _) => [fV (lSlice (lInt .i64)) (.slice A0 a1.length c0) a1]) ?_ ?_
      · refine wc_block ?_
        refine wc_seq ?_
        refine wc_region ?_   -- region 3
        obtain ⟨k3_0, h⟩ := chk_some h
        refine wl_st (fun _ h => h.openF m0 k3_0) ?_
        refine wl_det rfl rfl (det_indexP rfl rfl (ms m0) k3_0 m0 un22 sz3) rfl ?_
        refine wl_det rfl rfl (det_loadP (off := 0) rfl m0 (by rfl) (by rfl) (loaded_1 na3 us3)) rfl ?_
        refine wl_det rfl rfl (det_assign rfl) rfl ?_
        refine wl_nil ?_
        refine pn_then ?_
        refine wc_seq ?_
        refine wc_region ?_   -- region 4
        refine wl_det rfl rfl (det_move rfl) rfl ?_
        refine wl_det rfl rfl (det_move rfl) rfl ?_
        refine wl_det rfl rfl (det_gtr rfl rfl) rfl ?_
        refine wl_nil ?_
        refine pn_then ?_
        refine wc_cond rfl (fun c18 => ?_) (fun c18 => ?_)
        · have h := ifT h c18
          refine wc_region ?_   -- region 5
          refine wl_det rfl rfl (det_move rfl) rfl ?_
          refine wl_det rfl rfl (det_assign rfl) rfl ?_
          refine wl_nil ?_
          refine pn_block ?_
          replace h := Option.some.inj h
          subst h
          exact pn_meetG ((ix a1 s6.2), ()) rfl ⟨rfl, rfl, rfl, rfl, trivial⟩ (fun _ h => h.to trivial ⟨(ms m0), trivial⟩)
        · have h := ifF h c18
          refine wc_skip ?_
          refine pn_block ?_
          replace h := Option.some.inj h
          subst h
          exact pn_meetG (s6.1, ()) rfl ⟨rfl, rfl, rfl, rfl, trivial⟩ (fun _ h => h.to trivial ⟨(ms m0), trivial⟩)
      rintro ⟨s12, _⟩ e12
      dsimp only at e12 ⊢
      subst e12
      have h := ho12
      refine wc_region ?_   -- region 6
      refine wl_det rfl rfl (det_add rfl rfl) rfl ?_
      refine wl_det rfl rfl (det_move rfl) rfl ?_
      refine wl_nil ?_
      replace h := Option.some.inj h
      subst h
      exact pn_some (k6, (s12, (w64 (s6.2 + 1))), ()) ⟨nextL g6, Nat.lt_succ_self _⟩ ⟨rfl, rfl, rfl, rfl, trivial⟩ (fun _ h => h.to trivial ⟨m0, trivial⟩)
    · have h := ifF h c10
      refine wc_exit ?_
      refine px_then ?_
      refine px_then ?_
      refine px_block ?_
      replace h := Option.some.inj h
      subst h
      replace g6 := nextR g6
      subst g6
      exact pn_meetG (s6.1, ()) rfl ⟨rfl, trivial⟩ (fun _ h => h.to trivial trivial)
  rintro ⟨s2, _⟩ e2
  dsimp only at e2 ⊢
  subst e2
  have h := ho2
  refine wc_seq ?_
  refine wc_region ?_   -- region 7
  refine wl_det rfl rfl (det_move rfl) rfl ?_
  refine wl_det rfl rfl (det_assign rfl) rfl ?_
  refine wl_nil ?_
  refine pn_then ?_
  refine wc_ret ?_
  replace h := Option.some.inj h
  subst h
  refine pn_ret (vs := [_]) rfl ⟨rfl, trivial⟩ ⟨rfl, rfl, rfl⟩ (fun _ h => h.to trivial trivial)
def Q_excess_limited (r : Int) : Value → List Ent → List Fact → Prop := fun v θ κ => v = .int .i64 r ∧ θ = [] ∧ κ = []
theorem plains_excess_limited {r : Int} : ∀ v θ κ, Q_excess_limited r v θ κ → Plains θ := by
  rintro _ _ _ ⟨rfl, rfl, rfl⟩
  exact trivial
set_option maxRecDepth 100000 in
theorem W_excess_limited (a0 : Int) (r : Int) (h : excess_limited a0 = some r) : Spec Try.prog 45 [.int .i64 a0] [] [] (Q_excess_limited r) := by
  unfold excess_limited at h
  refine spec_of (σ := [(0, _)]) Try.func45 rfl rfl rfl rfl ?_
  intro C
  refine wc_seq ?_
  refine wc_region ?_   -- region 0
  refine wl_det rfl rfl (det_assign rfl) rfl ?_
  refine wl_nil ?_
  refine pn_then ?_
  refine wc_seq ?_
  refine wc_region ?_   -- region 1
  refine wl_det rfl rfl (det_move rfl) rfl ?_
  refine wl_act (act_litS (lInt .i64) (vs := [_]) (cs := [_]) [17592186044416] un22 in3 rfl rfl rfl rfl rfl ⟨rfl, trivial⟩ (by rfl) rfl (litR_flat rfl)) rfl rfl rfl ?_
  rintro _ _ _ ⟨A1_1, rfl, rfl, rfl⟩
  obtain ⟨r1_2, hr1_2, h⟩ := bind_some h
  refine wl_act (act_callL (cap := []) [eS (lInt .i64) 3 A1_1 1 1 [17592186044416]] (W_excess_least a0 [17592186044416] A1_1 1 1 r1_2 hr1_2) plains_excess_least rfl rfl rfl bd44 rfl ⟨m0, trivial⟩ ⟨.inr ⟨_, m0, lent_eS⟩, trivial⟩) rfl rfl rfl ?_
  rintro _ _ _ ⟨_, _, ⟨rfl, rfl, rfl⟩, rfl, rfl⟩
  dsimp only [List.nil_append, List.cons_append]
  refine wl_act (act_litS (lInt .i64) (vs := [_]) (cs := [_]) [r1_2] un22 in3 rfl rfl rfl rfl rfl ⟨rfl, trivial⟩ (by rfl) rfl (litR_flat rfl)) rfl rfl rfl ?_
  rintro _ _ _ ⟨A1_3, rfl, rfl, rfl⟩
  obtain ⟨r1_4, hr1_4, h⟩ := bind_some h
  refine wl_act (act_callL (cap := []) [eS (lInt .i64) 3 A1_3 1 1 [r1_2]] (W_excess_greatest 0 [r1_2] A1_3 1 1 r1_4 hr1_4) plains_excess_greatest rfl rfl rfl bd46 rfl ⟨m0, trivial⟩ ⟨.inr ⟨_, m0, lent_eS⟩, trivial⟩) rfl rfl rfl ?_
  rintro _ _ _ ⟨_, _, ⟨rfl, rfl, rfl⟩, rfl, rfl⟩
  dsimp only [List.nil_append, List.cons_append]
  refine wl_det rfl rfl (det_assign rfl) rfl ?_
  refine wl_nil ?_
  refine pn_then ?_
  refine wc_ret ?_
  replace h := Option.some.inj h
  subst h
  refine pn_ret (vs := [_]) rfl ⟨rfl, trivial⟩ ⟨rfl, rfl, rfl⟩ (fun _ h => h.to trivial trivial)
def Q_excess_Layer (r : Int) : Value → List Ent → List Fact → Prop := fun v θ κ => v = .int .i64 r ∧ θ = [] ∧ κ = []
theorem plains_excess_Layer {r : Int} : ∀ v θ κ, Q_excess_Layer r v θ κ → Plains θ := by
  rintro _ _ _ ⟨rfl, rfl, rfl⟩
  exact trivial
set_option maxRecDepth 100000 in
theorem W_excess_Layer (a0 : Int) (a1 : Int) (a2 : Int) (r : Int) (h : excess_Layer a0 a1 a2 = some r) : Spec Try.prog 22 [.int .i64 a0, .int .i64 a1, .int .i64 a2] [] [] (Q_excess_Layer r) := by
  unfold excess_Layer at h
  refine spec_of (σ := [(0, _), (1, _), (2, _)]) Try.func22 rfl rfl rfl rfl ?_
  intro C
  refine wc_seq ?_
  refine wc_region ?_   -- region 0
  refine wl_det rfl rfl (det_assign rfl) rfl ?_
  refine wl_nil ?_
  refine pn_then ?_
  refine wc_seq ?_
  refine wc_region ?_   -- region 1
  refine wl_det rfl rfl (det_move rfl) rfl ?_
  obtain ⟨r1_1, hr1_1, h⟩ := bind_some h
  refine wl_act (act_callS (cap := []) (W_excess_limited a2 r1_1 hr1_1) rfl rfl rfl bd45 rfl trivial) rfl rfl rfl ?_
  rintro _ _ _ ⟨_, _, ⟨rfl, rfl, rfl⟩, rfl, rfl⟩
  dsimp only [List.nil_append, List.cons_append]
  refine wl_det rfl rfl (det_move rfl) rfl ?_
  obtain ⟨r1_3, hr1_3, h⟩ := bind_some h
  refine wl_act (act_callS (cap := []) (W_excess_limited a0 r1_3 hr1_3) rfl rfl rfl bd45 rfl trivial) rfl rfl rfl ?_
  rintro _ _ _ ⟨_, _, ⟨rfl, rfl, rfl⟩, rfl, rfl⟩
  dsimp only [List.nil_append, List.cons_append]
  refine wl_det rfl rfl (det_move rfl) rfl ?_
  obtain ⟨r1_5, hr1_5, h⟩ := bind_some h
  refine wl_act (act_callS (cap := []) (W_excess_limited a1 r1_5 hr1_5) rfl rfl rfl bd45 rfl trivial) rfl rfl rfl ?_
  rintro _ _ _ ⟨_, _, ⟨rfl, rfl, rfl⟩, rfl, rfl⟩
  dsimp only [List.nil_append, List.cons_append]
  refine wl_det rfl rfl (det_sub rfl rfl) rfl ?_
  refine wl_act (act_litS (lInt .i64) (vs := [_]) (cs := [_]) [(w64 (r1_3 - r1_5))] un22 in3 rfl rfl rfl rfl rfl ⟨rfl, trivial⟩ (by rfl) rfl (litR_flat rfl)) rfl rfl rfl ?_
  rintro _ _ _ ⟨A1_7, rfl, rfl, rfl⟩
  obtain ⟨r1_8, hr1_8, h⟩ := bind_some h
  refine wl_act (act_callL (cap := []) [eS (lInt .i64) 3 A1_7 1 1 [(w64 (r1_3 - r1_5))]] (W_excess_greatest 0 [(w64 (r1_3 - r1_5))] A1_7 1 1 r1_8 hr1_8) plains_excess_greatest rfl rfl rfl bd46 rfl ⟨m0, trivial⟩ ⟨.inr ⟨_, m0, lent_eS⟩, trivial⟩) rfl rfl rfl ?_
  rintro _ _ _ ⟨_, _, ⟨rfl, rfl, rfl⟩, rfl, rfl⟩
  dsimp only [List.nil_append, List.cons_append]
  refine wl_act (act_litS (lInt .i64) (vs := [_]) (cs := [_]) [r1_8] un22 in3 rfl rfl rfl rfl rfl ⟨rfl, trivial⟩ (by rfl) rfl (litR_flat rfl)) rfl rfl rfl ?_
  rintro _ _ _ ⟨A1_9, rfl, rfl, rfl⟩
  obtain ⟨r1_10, hr1_10, h⟩ := bind_some h
  refine wl_act (act_callL (cap := []) [eS (lInt .i64) 3 A1_9 1 1 [r1_8]] (W_excess_least r1_1 [r1_8] A1_9 1 1 r1_10 hr1_10) plains_excess_least rfl rfl rfl bd44 rfl ⟨m0, trivial⟩ ⟨.inr ⟨_, m0, lent_eS⟩, trivial⟩) rfl rfl rfl ?_
  rintro _ _ _ ⟨_, _, ⟨rfl, rfl, rfl⟩, rfl, rfl⟩
  dsimp only [List.nil_append, List.cons_append]
  refine wl_det rfl rfl (det_assign rfl) rfl ?_
  refine wl_nil ?_
  refine pn_then ?_
  refine wc_ret ?_
  replace h := Option.some.inj h
  subst h
  refine pn_ret (vs := [_]) rfl ⟨rfl, trivial⟩ ⟨rfl, rfl, rfl⟩ (fun _ h => h.to trivial trivial)
def Q_aggregate_paid (r : Int) : Value → List Ent → List Fact → Prop := fun v θ κ => v = .int .i64 r ∧ θ = [] ∧ κ = []
theorem plains_aggregate_paid {r : Int} : ∀ v θ κ, Q_aggregate_paid r v θ κ → Plains θ := by
  rintro _ _ _ ⟨rfl, rfl, rfl⟩
  exact trivial
set_option maxRecDepth 100000 in
theorem W_aggregate_paid (a0 : Int) (a1 : Int) (a2 : Int) (r : Int) (h : aggregate_paid a0 a1 a2 = some r) : Spec Try.prog 36 [.int .i64 a0, .int .i64 a1, .int .i64 a2] [] [] (Q_aggregate_paid r) := by
  unfold aggregate_paid at h
  refine spec_of (σ := [(0, _), (1, _), (2, _)]) Try.func36 rfl rfl rfl rfl ?_
  intro C
  refine wc_seq ?_
  refine wc_region ?_   -- region 0
  refine wl_det rfl rfl (det_assign rfl) rfl ?_
  refine wl_nil ?_
  refine pn_then ?_
  obtain ⟨q2, h, ho2⟩ := bind_some h
  refine wc_meetG (G := Int × Unit) (fun (s2, _) => s2 = q2) (fun (s2, _) => [(0, .int .i64 a0), (1, .int .i64 a1), (2, .int .i64 s2)]) (fun (_, _) => []) (fun (_, _) => []) ?_ ?_
  · refine wc_seq ?_
    refine wc_region ?_   -- region 1
    refine wl_det rfl rfl (det_move rfl) rfl ?_
    refine wl_det rfl rfl (det_eql rfl rfl) rfl ?_
    refine wl_nil ?_
    refine pn_then ?_
    refine wc_cond rfl (fun c5 => ?_) (fun c5 => ?_)
    · have h := ifT h c5
      refine wc_region ?_   -- region 2
      refine wl_det rfl rfl (det_assign rfl) rfl ?_
      refine wl_nil ?_
      replace h := Option.some.inj h
      subst h
      exact pn_meetG (17592186044416, ()) rfl ⟨rfl, rfl, rfl, trivial⟩ (fun _ h => h.to trivial trivial)
    · have h := ifF h c5
      refine wc_skip ?_
      replace h := Option.some.inj h
      subst h
      exact pn_meetG (a2, ()) rfl ⟨rfl, rfl, rfl, trivial⟩ (fun _ h => h.to trivial trivial)
  rintro ⟨s2, _⟩ e2
  dsimp only at e2 ⊢
  subst e2
  have h := ho2
  refine wc_seq ?_
  refine wc_region ?_   -- region 3
  refine wl_det rfl rfl (det_move rfl) rfl ?_
  refine wl_det rfl rfl (det_move rfl) rfl ?_
  refine wl_det rfl rfl (det_move rfl) rfl ?_
  obtain ⟨r3_3, hr3_3, h⟩ := bind_some h
  refine wl_act (act_callS (cap := []) (W_excess_Layer a0 a1 s2 r3_3 hr3_3) rfl rfl rfl bd22 rfl trivial) rfl rfl rfl ?_
  rintro _ _ _ ⟨_, _, ⟨rfl, rfl, rfl⟩, rfl, rfl⟩
  dsimp only [List.nil_append, List.cons_append]
  refine wl_det rfl rfl (det_assign rfl) rfl ?_
  refine wl_nil ?_
  refine pn_then ?_
  refine wc_ret ?_
  replace h := Option.some.inj h
  subst h
  refine pn_ret (vs := [_]) rfl ⟨rfl, trivial⟩ ⟨rfl, rfl, rfl⟩ (fun _ h => h.to trivial trivial)
def Q_aggregate_Apply (r : (List Int) × Int) : Value → List Ent → List Fact → Prop := fun v θ κ => ∃ (pA0 : Option Addr), ∃ (pn0 : Nat), ∃ (pc0 : Nat), v = .tuple #[.slice pA0 pn0 pc0, .int .i64 r.2] ∧ θ = [eS (lInt .i64) 3 pA0 pn0 pc0 r.1] ∧ κ = []
theorem plains_aggregate_Apply {r : (List Int) × Int} : ∀ v θ κ, Q_aggregate_Apply r v θ κ → Plains θ := by
  rintro _ _ _ ⟨_, _, _, rfl, rfl, rfl⟩
  exact ⟨plain_eS, trivial⟩
set_option maxRecDepth 100000 in
theorem W_aggregate_Apply (a0 : (List Int)) (a1 : Int) (a2 : Int) (A0 : Option Addr) (n0 : Nat) (c0 : Nat) (r : (List Int) × Int) (h : aggregate_Apply a0 a1 a2 = some r) : Spec Try.prog 14 [.slice A0 n0 c0, .int .i64 a1, .int .i64 a2] [] [fV (lSlice (lInt .i64)) (.slice A0 n0 c0) a0] (Q_aggregate_Apply r) := by
  unfold aggregate_Apply at h
  refine spec_of (σ := [(0, _), (1, _), (2, _)]) Try.func14 rfl rfl rfl rfl ?_
  intro C
  refine wc_know (fun _ h => h.lenF m0) (fun e => ?_)
  subst e
  refine wc_seq ?_
  refine wc_region ?_   -- region 0
  refine wl_det rfl rfl (det_assign rfl) rfl ?_
  refine wl_det rfl rfl (det_assign rfl) rfl ?_
  refine wl_nil ?_
  refine pn_then ?_
  refine wc_seq ?_
  refine wc_seq ?_
  refine wc_region ?_   -- region 1
  refine wl_det rfl rfl (det_move rfl) rfl ?_
  refine wl_det rfl rfl (det_move rfl) rfl ?_
  refine wl_det rfl rfl (det_move rfl) rfl ?_
  obtain ⟨r1_3, hr1_3, h⟩ := bind_some h
  refine wl_act (act_callS (cap := []) (W_aggregate_total a0 a1 a2 A0 a0.length c0 r1_3 hr1_3) rfl rfl rfl bd35 rfl ⟨m0, trivial⟩) rfl rfl rfl ?_
  rintro _ _ _ ⟨_, _, ⟨rfl, rfl, rfl⟩, rfl, rfl⟩
  dsimp only [List.nil_append, List.cons_append]
  refine wl_det rfl rfl (det_move rfl) rfl ?_
  refine wl_det rfl rfl (det_extract rfl rfl) rfl ?_
  refine wl_det rfl rfl (det_extract rfl rfl) rfl ?_
  refine wl_det rfl rfl (det_assign rfl) rfl ?_
  refine wl_det rfl rfl (det_assign rfl) rfl ?_
  refine wl_nil ?_
  refine pn_then ?_
  refine wc_seq ?_
  refine wc_region ?_   -- region 2
  refine wl_det rfl rfl (det_move rfl) rfl ?_
  refine wl_det rfl rfl (det_neq rfl rfl) rfl ?_
  refine wl_nil ?_
  refine pn_then ?_
  refine wc_cond rfl (fun c7 => ?_) (fun c7 => ?_)
  · have h := ifT h c7
    refine wc_seq ?_
    refine wc_region ?_   -- region 3
    refine wl_det rfl rfl (det_move rfl) rfl ?_
    refine wl_det rfl rfl (det_assign rfl) rfl ?_
    refine wl_det rfl rfl (det_assign rfl) rfl ?_
    refine wl_nil ?_
    refine pn_then ?_
    refine wc_ret ?_
    refine pr_then ?_
    refine pn_st (fun _ h => h.zeroS (lInt .i64) 3 none) ?_
    replace h := Option.some.inj h
    subst h
    refine pn_ret (vs := [_, _]) rfl ⟨rfl, rfl, trivial⟩ ⟨none, 0, 0, rfl, rfl, rfl⟩ (fun _ h => h.to ⟨_, r0, trivial⟩ trivial)
  · have h := ifF h c7
    refine wc_skip ?_
    refine pn_then ?_
    refine wc_seq ?_
    refine wc_region ?_   -- region 4
    refine wl_det rfl rfl (det_move rfl) rfl ?_
    refine wl_det rfl rfl (det_len rfl un22) rfl ?_
    obtain ⟨k4_2, h⟩ := chk_some h
    obtain ⟨k4_2a, h⟩ := chk_some h
    refine wl_act (act_makeS (L := (lInt .i64)) (x0 := (0 : Int)) rfl rfl un22 in3 (by refine ⟨rfl, fun _ _ => ?_⟩; first | exact rfl | exact ⟨_, _, _, rfl, rfl, Nat.zero_le _, .inl rfl⟩) rfl rfl k4_2 (decide_eq_true (Int.le_refl _)) k4_2a) rfl rfl rfl ?_
    rintro _ _ _ ⟨A4_2, c4_2, rfl, rfl, rfl⟩
    refine wl_det rfl rfl (det_assign rfl) rfl ?_
    refine wl_nil ?_
    refine pn_then ?_
    refine wc_seq ?_
    refine wc_region ?_   -- region 5
    refine wl_act (act_alloc (cs := [_]) zr61 rfl) rfl rfl rfl ?_
    rintro _ _ _ ⟨b5_0, rfl, rfl, rfl⟩
    refine wl_nil ?_
    refine pn_then ?_
    refine wc_seq ?_
    refine wc_region ?_   -- region 6
    refine wl_det rfl rfl (det_assign rfl) rfl ?_
    refine wl_nil ?_
    refine pn_then ?_
    obtain ⟨q16, h, ho16⟩ := bind_some h
    refine wc_meetG (G := (List Int) × Unit) (fun (s16, _) => s16 = q16) (fun (_, _) => [(10, .slice A4_2 (List.replicate (a0.length : Int).toNat (0 : Int)).length c4_2)]) (fun (s16, _) => [eS (lInt .i64) 3 A4_2 (List.replicate (a0.length : Int).toNat (0 : Int)).length c4_2 s16]) (fun (_, _) => []) ?_ ?_
    · refine wc_seq ?_
      refine wc_region ?_   -- region 7
      refine wl_det rfl rfl (det_move rfl) rfl ?_
      refine wl_det rfl rfl (det_len rfl un22) rfl ?_
      refine wl_det rfl rfl (det_move rfl) rfl ?_
      refine wl_nil ?_
      refine pn_then ?_
      refine wc_block ?_
      obtain ⟨k20, hk20⟩ := loopV_some.1 h
      refine wc_loop (G := Nat × ((List Int) × Int × Int × Int) × Unit) (fun g => IterN (aggregate_Apply_l20 a0 a1 a2) g.1 g.2.1 q16) (fun g => g.1) (fun (_, s20, _) => [(1, .int .i64 a1), (2, .int .i64 a2), (10, .slice A4_2 (List.replicate (a0.length : Int).toNat (0 : Int)).length c4_2), (11, .pointer (some ⟨b5_0, 0, none⟩)), (12, .int .i64 s20.2.2.1), (29, .slice A0 a0.length c0), (30, .int .i64 (a0.length : Int)), (31, .int .i64 s20.2.2.2)]) (fun (_, s20, _) => [eS (lInt .i64) 3 A4_2 (List.replicate (a0.length : Int).toNat (0 : Int)).length c4_2 s20.1, eBlk b5_0 61 [.int .i64 s20.2.1]]) (fun (_, _, _) => [fV (lSlice (lInt .i64)) (.slice A0 a0.length c0) a0]) (k20, ((List.replicate (a0.length : Int).toNat (0 : Int)), 0, 0, 0), ()) hk20 ⟨rfl, rfl, rfl, rfl, rfl, rfl, rfl, rfl, trivial⟩ (fun _ h => h.to ⟨_, (rs r0), ⟨_, r0, trivial⟩⟩ ⟨m0, trivial⟩) ?_
      rintro ⟨k20, s20, _⟩ hI
      obtain ⟨k20, rfl, q20, h, g20⟩ := IterN.pos hI
      dsimp only at h ⊢
      unfold aggregate_Apply_l20 at h
      refine wc_seq ?_
      refine wc_region ?_   -- region 8
      refine wl_det rfl rfl (det_lss rfl rfl) rfl ?_
      refine wl_nil ?_
      refine pn_then ?_
      refine wc_seq ?_
      refine wc_cond rfl (fun c24 => ?_) (fun c24 => ?_)
      · have h := ifT h c24
        refine wc_skip ?_
        refine pn_then ?_
        refine wc_seq ?_
        refine wc_block ?_
        refine wc_seq ?_
        refine wc_region ?_   -- region 9
        refine wl_det rfl rfl (det_move rfl) rfl ?_
        obtain ⟨k9_1, h⟩ := chk_some h
        refine wl_st (fun _ h => h.openF m0 k9_1) ?_
        refine wl_det rfl rfl (det_indexP rfl rfl (ms m0) k9_1 m0 un22 sz3) rfl ?_
        refine wl_det rfl rfl (det_loadP (off := 0) rfl m0 (by rfl) (by rfl) (loaded_1 na3 us3)) rfl ?_
        refine wl_det rfl rfl (det_assign rfl) rfl ?_
        refine wl_det rfl rfl (det_assign rfl) rfl ?_
        refine wl_nil ?_
        refine pn_then ?_
        refine wc_seq ?_
        refine wc_region ?_   -- region 10
        refine wl_det rfl rfl (det_move rfl) rfl ?_
        obtain ⟨r10_1, hr10_1, h⟩ := bind_some h
        refine wl_act (act_callS (cap := []) (W_aggregate_running_int_add (Grunning.mk s20.2.1) (ix a0 s20.2.2.2) b5_0 r10_1 hr10_1) rfl rfl rfl bd37 ⟨_, (rs r0), rfl⟩ trivial) rfl rfl rfl ?_
        rintro _ _ _ ⟨_, _, ⟨rfl, rfl, rfl⟩, rfl, rfl⟩
        dsimp only [List.nil_append, List.cons_append]
        refine wl_det rfl rfl (det_move rfl) rfl ?_
        refine wl_det rfl rfl (det_move rfl) rfl ?_
        obtain ⟨r10_4, hr10_4, h⟩ := bind_some h
        refine wl_act (act_callS (cap := []) (W_aggregate_paid r10_1.1 a1 a2 r10_4 hr10_4) rfl rfl rfl bd36 rfl trivial) rfl rfl rfl ?_
        rintro _ _ _ ⟨_, _, ⟨rfl, rfl, rfl⟩, rfl, rfl⟩
        dsimp only [List.nil_append, List.cons_append]
        refine wl_det rfl rfl (det_assign rfl) rfl ?_
        refine wl_nil ?_
        refine pn_then ?_
        refine wc_seq ?_
        refine wc_region ?_   -- region 11
        refine wl_det rfl rfl (det_move rfl) rfl ?_
        refine wl_det rfl rfl (det_move rfl) rfl ?_
        refine wl_det rfl rfl (det_move rfl) rfl ?_
        refine wl_det rfl rfl (det_move rfl) rfl ?_
        refine wl_det rfl rfl (det_sub rfl rfl) rfl ?_
        obtain ⟨k11_5, h⟩ := chk_some h
        refine wl_det rfl rfl (det_indexO rfl rfl (ms m0) k11_5 un22 sz3) rfl ?_
        refine wl_act0 (act_storeO (cells := [_]) (off := 0) (w64 (r10_4 - s20.2.2.1)) rfl rfl rfl (ss s0) k11_5 (by rfl) sz3 (by intro u hu; simp at hu; rcases hu with rfl <;> rfl) (stR_flat rfl rfl)) rfl rfl ?_
        rintro _ _ _ ⟨rfl, rfl⟩
        refine wl_nil ?_
        refine pn_then ?_
        refine wc_region ?_   -- region 12
        refine wl_det rfl rfl (det_move rfl) rfl ?_
        refine wl_det rfl rfl (det_assign rfl) rfl ?_
        refine wl_nil ?_
        refine pn_block ?_
        refine pn_then ?_
        refine wc_region ?_   -- region 13
        refine wl_det rfl rfl (det_add rfl rfl) rfl ?_
        refine wl_det rfl rfl (det_move rfl) rfl ?_
        refine wl_nil ?_
        replace h := Option.some.inj h
        subst h
        exact pn_some (k20, ((upd s20.1 s20.2.2.2 (w64 (r10_4 - s20.2.2.1))), r10_1.2.sum, r10_4, (w64 (s20.2.2.2 + 1))), ()) ⟨nextL g20, Nat.lt_succ_self _⟩ ⟨rfl, rfl, rfl, rfl, rfl, rfl, rfl, rfl, trivial⟩ (fun _ h => h.to ⟨_, (rs r0), ⟨_, r0, trivial⟩⟩ ⟨(ms m0), trivial⟩)
      · have h := ifF h c24
        refine wc_exit ?_
        refine px_then ?_
        refine px_then ?_
        refine px_block ?_
        replace h := Option.some.inj h
        subst h
        replace g20 := nextR g20
        subst g20
        exact pn_meetG (s20.1, ()) rfl ⟨rfl, trivial⟩ (fun _ h => h.to ⟨_, r0, trivial⟩ trivial)
    rintro ⟨s16, _⟩ e16
    dsimp only at e16 ⊢
    subst e16
    have h := ho16
    refine wc_seq ?_
    refine wc_region ?_   -- region 14
    refine wl_det rfl rfl (det_move rfl) rfl ?_
    refine wl_det rfl rfl (det_assign rfl) rfl ?_
    refine wl_det rfl rfl (det_assign rfl) rfl ?_
    refine wl_nil ?_
    refine pn_then ?_
    refine wc_ret ?_
    replace h := Option.some.inj h
    subst h
    refine pn_ret (vs := [_, _]) rfl ⟨rfl, rfl, trivial⟩ ⟨A4_2, (List.replicate (a0.length : Int).toNat (0 : Int)).length, c4_2, rfl, rfl, rfl⟩ (fun _ h => h.to ⟨_, r0, trivial⟩ trivial)
def Q_aggregate_Left (r : Int × Int × Int) : Value → List Ent → List Fact → Prop := fun v θ κ => v = .tuple #[.int .i64 r.1, .int .i64 r.2.1, .int .i64 r.2.2] ∧ θ = [] ∧ κ = []
theorem plains_aggregate_Left {r : Int × Int × Int} : ∀ v θ κ, Q_aggregate_Left r v θ κ → Plains θ := by
  rintro _ _ _ ⟨rfl, rfl, rfl⟩
  exact trivial
set_option maxRecDepth 100000 in
theorem W_aggregate_Left (a0 : (List Int)) (a1 : Int) (a2 : Int) (A0 : Option Addr) (n0 : Nat) (c0 : Nat) (r : Int × Int × Int) (h : aggregate_Left a0 a1 a2 = some r) : Spec Try.prog 32 [.slice A0 n0 c0, .int .i64 a1, .int .i64 a2] [] [fV (lSlice (lInt .i64)) (.slice A0 n0 c0) a0] (Q_aggregate_Left r) := by
  unfold aggregate_Left at h
  refine spec_of (σ := [(0, _), (1, _), (2, _)]) Try.func32 rfl rfl rfl rfl ?_
  intro C
  refine wc_know (fun _ h => h.lenF m0) (fun e => ?_)
  subst e
  refine wc_seq ?_
  refine wc_region ?_   -- region 0
  refine wl_det rfl rfl (det_assign rfl) rfl ?_
  refine wl_det rfl rfl (det_assign rfl) rfl ?_
  refine wl_det rfl rfl (det_assign rfl) rfl ?_
  refine wl_nil ?_
  refine pn_then ?_
  refine wc_seq ?_
  refine wc_region ?_   -- region 1
  refine wl_det rfl rfl (det_move rfl) rfl ?_
  refine wl_det rfl rfl (det_move rfl) rfl ?_
  refine wl_det rfl rfl (det_move rfl) rfl ?_
  obtain ⟨r1_3, hr1_3, h⟩ := bind_some h
  refine wl_act (act_callS (cap := []) (W_aggregate_total a0 a1 a2 A0 a0.length c0 r1_3 hr1_3) rfl rfl rfl bd35 rfl ⟨m0, trivial⟩) rfl rfl rfl ?_
  rintro _ _ _ ⟨_, _, ⟨rfl, rfl, rfl⟩, rfl, rfl⟩
  dsimp only [List.nil_append, List.cons_append]
  refine wl_det rfl rfl (det_move rfl) rfl ?_
  refine wl_det rfl rfl (det_extract rfl rfl) rfl ?_
  refine wl_det rfl rfl (det_extract rfl rfl) rfl ?_
  refine wl_det rfl rfl (det_assign rfl) rfl ?_
  refine wl_det rfl rfl (det_assign rfl) rfl ?_
  refine wl_nil ?_
  refine pn_then ?_
  refine wc_seq ?_
  refine wc_seq ?_
  refine wc_region ?_   -- region 2
  refine wl_det rfl rfl (det_move rfl) rfl ?_
  refine wl_det rfl rfl (det_neq rfl rfl) rfl ?_
  refine wl_nil ?_
  refine pn_then ?_
  refine wc_cond rfl (fun c7 => ?_) (fun c7 => ?_)
  · have h := ifT h c7
    refine wc_seq ?_
    refine wc_region ?_   -- region 3
    refine wl_det rfl rfl (det_move rfl) rfl ?_
    refine wl_det rfl rfl (det_assign rfl) rfl ?_
    refine wl_det rfl rfl (det_assign rfl) rfl ?_
    refine wl_det rfl rfl (det_assign rfl) rfl ?_
    refine wl_nil ?_
    refine pn_then ?_
    refine wc_ret ?_
    refine pr_then ?_
    replace h := Option.some.inj h
    subst h
    refine pn_ret (vs := [_, _, _]) rfl ⟨rfl, rfl, rfl, trivial⟩ ⟨rfl, rfl, rfl⟩ (fun _ h => h.to trivial trivial)
  · have h := ifF h c7
    refine wc_skip ?_
    refine pn_then ?_
    refine wc_seq ?_
    refine wc_region ?_   -- region 4
    refine wl_det rfl rfl (det_assign rfl) rfl ?_
    refine wl_nil ?_
    refine pn_then ?_
    obtain ⟨q12, h, ho12⟩ := bind_some h
    refine wc_meetG (G := Int × Unit) (fun (s12, _) => s12 = q12) (fun (s12, _) => [(1, .int .i64 a1), (9, .int .i64 r1_3.1), (11, .int .i64 s12)]) (fun (_, _) => []) (fun (_, _) => []) ?_ ?_
    · refine wc_seq ?_
      refine wc_region ?_   -- region 5
      refine wl_det rfl rfl (det_move rfl) rfl ?_
      refine wl_det rfl rfl (det_gtr rfl rfl) rfl ?_
      refine wl_nil ?_
      refine pn_then ?_
      refine wc_cond rfl (fun c15 => ?_) (fun c15 => ?_)
      · have h := ifT h c15
        refine wc_region ?_   -- region 6
        refine wl_det rfl rfl (det_move rfl) rfl ?_
        refine wl_det rfl rfl (det_move rfl) rfl ?_
        refine wl_det rfl rfl (det_move rfl) rfl ?_
        refine wl_det rfl rfl (det_move rfl) rfl ?_
        obtain ⟨r6_4, hr6_4, h⟩ := bind_some h
        refine wl_act (act_callS (cap := []) (W_aggregate_paid r1_3.1 a1 a2 r6_4 hr6_4) rfl rfl rfl bd36 rfl trivial) rfl rfl rfl ?_
        rintro _ _ _ ⟨_, _, ⟨rfl, rfl, rfl⟩, rfl, rfl⟩
        dsimp only [List.nil_append, List.cons_append]
        refine wl_det rfl rfl (det_sub rfl rfl) rfl ?_
        refine wl_det rfl rfl (det_assign rfl) rfl ?_
        refine wl_nil ?_
        replace h := Option.some.inj h
        subst h
        exact pn_meetG ((w64 (a2 - r6_4)), ()) rfl ⟨rfl, rfl, rfl, trivial⟩ (fun _ h => h.to trivial trivial)
      · have h := ifF h c15
        refine wc_skip ?_
        replace h := Option.some.inj h
        subst h
        exact pn_meetG (0, ()) rfl ⟨rfl, rfl, rfl, trivial⟩ (fun _ h => h.to trivial trivial)
    rintro ⟨s12, _⟩ e12
    dsimp only at e12 ⊢
    subst e12
    have h := ho12
    refine wc_seq ?_
    refine wc_region ?_   -- region 7
    refine wl_det rfl rfl (det_move rfl) rfl ?_
    refine wl_det rfl rfl (det_move rfl) rfl ?_
    refine wl_det rfl rfl (det_sub rfl rfl) rfl ?_
    refine wl_det rfl rfl (det_maxI rfl rfl) rfl ?_
    refine wl_det rfl rfl (det_move rfl) rfl ?_
    refine wl_det rfl rfl (det_assign rfl) rfl ?_
    refine wl_det rfl rfl (det_assign rfl) rfl ?_
    refine wl_det rfl rfl (det_assign rfl) rfl ?_
    refine wl_nil ?_
    refine pn_then ?_
    refine wc_ret ?_
    replace h := Option.some.inj h
    subst h
    refine pn_ret (vs := [_, _, _]) rfl ⟨rfl, rfl, rfl, trivial⟩ ⟨rfl, rfl, rfl⟩ (fun _ h => h.to trivial trivial)
def Q_treatyref01_SameInts (r : Bool) : Value → List Ent → List Fact → Prop := fun v θ κ => v = .bool r ∧ θ = [] ∧ κ = []
theorem plains_treatyref01_SameInts {r : Bool} : ∀ v θ κ, Q_treatyref01_SameInts r v θ κ → Plains θ := by
  rintro _ _ _ ⟨rfl, rfl, rfl⟩
  exact trivial
set_option maxRecDepth 100000 in
theorem W_treatyref01_SameInts (a0 : (List Int)) (a1 : (List Int)) (A0 : Option Addr) (n0 : Nat) (c0 : Nat) (A3 : Option Addr) (n3 : Nat) (c3 : Nat) (r : Bool) (h : treatyref01_SameInts a0 a1 = some r) : Spec Try.prog 17 [.slice A0 n0 c0, .slice A3 n3 c3] [] [fV (lSlice (lInt .i64)) (.slice A0 n0 c0) a0, fV (lSlice (lInt .i64)) (.slice A3 n3 c3) a1] (Q_treatyref01_SameInts r) := by
  unfold treatyref01_SameInts at h
  refine spec_of (σ := [(0, _), (1, _)]) Try.func17 rfl rfl rfl rfl ?_
  intro C
  refine wc_know (fun _ h => h.lenF m0) (fun e => ?_)
  subst e
  refine wc_know (fun _ h => h.lenF (ms m0)) (fun e => ?_)
  subst e
  refine wc_seq ?_
  refine wc_region ?_   -- region 0
  refine wl_det rfl rfl (det_assign rfl) rfl ?_
  refine wl_nil ?_
  refine pn_then ?_
  refine wc_seq ?_
  refine wc_seq ?_
  refine wc_region ?_   -- region 1
  refine wl_det rfl rfl (det_move rfl) rfl ?_
  refine wl_det rfl rfl (det_len rfl un22) rfl ?_
  refine wl_det rfl rfl (det_move rfl) rfl ?_
  refine wl_det rfl rfl (det_len rfl un22) rfl ?_
  refine wl_det rfl rfl (det_neq rfl rfl) rfl ?_
  refine wl_nil ?_
  refine pn_then ?_
  refine wc_cond rfl (fun c5 => ?_) (fun c5 => ?_)
  · have h := ifT h c5
    refine wc_seq ?_
    refine wc_region ?_   -- region 2
    refine wl_det rfl rfl (det_assign rfl) rfl ?_
    refine wl_nil ?_
    refine pn_then ?_
    refine wc_ret ?_
    refine pr_then ?_
    replace h := Option.some.inj h
    subst h
    refine pn_ret (vs := [_]) rfl ⟨rfl, trivial⟩ ⟨rfl, rfl, rfl⟩ (fun _ h => h.to trivial trivial)
  · have h := ifF h c5
    refine wc_skip ?_
    refine pn_then ?_
    obtain ⟨q8, h, ho8⟩ := bind_some h
    refine wc_meetG (G := Unit × Unit) (fun (s8, _) => (.inl s8) = q8) (fun (_, _) => []) (fun (_, _) => []) (fun (_, _) => []) ?_ ?_
    · refine wc_seq ?_
      refine wc_region ?_   -- region 3
      refine wl_det rfl rfl (det_assign rfl) rfl ?_
      refine wl_nil ?_
      refine pn_then ?_
      refine wc_block ?_
      obtain ⟨o12, h, ho12⟩ := bind_some h
      obtain ⟨k12, hk12⟩ := loopV_some.1 h
      refine wc_loop (G := Nat × Int × Unit) (fun g => IterN (treatyref01_SameInts_l12 a0 a1) g.1 g.2.1 o12) (fun g => g.1) (fun (_, s12, _) => [(0, .slice A0 a0.length c0), (1, .slice A3 a1.length c3), (5, .int .i64 s12)]) (fun (_, _, _) => []) (fun (_, _, _) => [fV (lSlice (lInt .i64)) (.slice A0 a0.length c0) a0, fV (lSlice (lInt .i64)) (.slice A3 a1.length c3) a1]) (k12, 0, ()) hk12 ⟨rfl, rfl, rfl, trivial⟩ (fun _ h => h.to trivial ⟨m0, ⟨(ms m0), trivial⟩⟩) ?_
      rintro ⟨k12, s12, _⟩ hI
      obtain ⟨k12, rfl, q12, h, g12⟩ := IterN.pos hI
      dsimp only at h ⊢
      unfold treatyref01_SameInts_l12 at h
      refine wc_seq ?_
      refine wc_seq ?_
      refine wc_region ?_   -- region 4
      refine wl_det rfl rfl (det_move rfl) rfl ?_
      refine wl_det rfl rfl (det_move rfl) rfl ?_
      refine wl_det rfl rfl (det_len rfl un22) rfl ?_
      refine wl_det rfl rfl (det_lss rfl rfl) rfl ?_
      refine wl_nil ?_
      refine pn_then ?_
      refine wc_cond rfl (fun c16 => ?_) (fun c16 => ?_)
      · have h := ifT h c16
        refine wc_skip ?_
        refine pn_then ?_
        refine wc_seq ?_
        refine wc_block ?_
        refine wc_seq ?_
        obtain ⟨k6_p1, h⟩ := chk_some h
        refine wc_st (fun _ h => h.openF m0 k6_p1) ?_
        obtain ⟨k6_p3, h⟩ := chk_some h
        refine wc_st (fun _ h => h.openF (ms (ms m0)) k6_p3) ?_
        refine dx_region 9 [[], [], [0, 1], [0, 1, 2], [], [], [4, 5], [4, 5, 6], [0, 1, 2, 3, 4, 5, 6, 7]] mixed (ord := (.det 0 (.det 1 (.det 2 (.det 3 (.det 4 (.det 5 (.det 6 (.det 7 (.det 8 .done)))))))))) (by kernel_rfl) ?_   -- region 6
        refine hx_det rfl rfl rfl nofun (det_move rfl) rfl ?_
        refine hx_det rfl rfl rfl nofun (det_move rfl) rfl ?_
        refine hx_det rfl rfl rfl nofun (det_indexP rfl rfl (ms (ms m0)) k6_p1 (ms m0) un22 sz3) rfl ?_
        refine hx_det rfl rfl rfl nofun (det_loadP (off := 0) rfl (ms m0) (by rfl) (by rfl) (loaded_1 na3 us3)) rfl ?_
        refine hx_det rfl rfl rfl nofun (det_move rfl) rfl ?_
        refine hx_det rfl rfl rfl nofun (det_move rfl) rfl ?_
        refine hx_det rfl rfl rfl nofun (det_indexP rfl rfl (ms (ms (ms m0))) k6_p3 m0 un22 sz3) rfl ?_
        refine hx_det rfl rfl rfl nofun (det_loadP (off := 0) rfl m0 (by rfl) (by rfl) (loaded_1 na3 us3)) rfl ?_
        refine hx_det rfl rfl rfl nofun (det_neq rfl rfl) rfl ?_
        refine hx_end ?_
        refine wl_nil ?_
        refine pn_then ?_
        refine wc_cond rfl (fun c22 => ?_) (fun c22 => ?_)
        · have h := ifT h c22
          refine wc_seq ?_
          refine wc_region ?_   -- region 7
          refine wl_det rfl rfl (det_assign rfl) rfl ?_
          refine wl_nil ?_
          refine pn_then ?_
          refine wc_ret ?_
          refine pr_block ?_
          refine pr_then ?_
          refine pr_then ?_
          refine pr_block ?_
          refine pr_then ?_
          replace h := Option.some.inj h
          subst h
          replace g12 := nextR g12
          subst g12
          have h := (elimL ho12)
          replace h := Option.some.inj h
          subst h
          have h := (elimR ho8)
          replace h := Option.some.inj h
          subst h
          refine pn_ret (vs := [_]) rfl ⟨rfl, trivial⟩ ⟨rfl, rfl, rfl⟩ (fun _ h => h.to trivial trivial)
        · have h := ifF h c22
          refine wc_skip ?_
          refine pn_block ?_
          refine pn_then ?_
          refine wc_region ?_   -- region 5
          refine wl_det rfl rfl (det_move rfl) rfl ?_
          refine wl_det rfl rfl (det_add rfl rfl) rfl ?_
          refine wl_det rfl rfl (det_assign rfl) rfl ?_
          refine wl_nil ?_
          replace h := Option.some.inj h
          subst h
          exact pn_some (k12, (w64 (s12 + 1)), ()) ⟨nextL g12, Nat.lt_succ_self _⟩ ⟨rfl, rfl, rfl, trivial⟩ (fun _ h => h.to trivial ⟨(ms (ms m0)), ⟨(ms (ms (ms m0))), trivial⟩⟩)
      · have h := ifF h c16
        refine wc_exit ?_
        refine px_then ?_
        refine px_then ?_
        refine px_block ?_
        replace h := Option.some.inj h
        subst h
        replace g12 := nextR g12
        subst g12
        have h := (elimR ho12)
        replace h := Option.some.inj h
        subst h
        exact pn_meetG ((), ()) rfl trivial (fun _ h => h.to trivial trivial)
    rintro ⟨s8, _⟩ e8
    dsimp only at e8 ⊢
    subst e8
    have h := (elimL ho8)
    refine wc_seq ?_
    refine wc_region ?_   -- region 8
    refine wl_det rfl rfl (det_assign rfl) rfl ?_
    refine wl_nil ?_
    refine pn_then ?_
    refine wc_ret ?_
    replace h := Option.some.inj h
    subst h
    refine pn_ret (vs := [_]) rfl ⟨rfl, trivial⟩ ⟨rfl, rfl, rfl⟩ (fun _ h => h.to trivial trivial)
def Q_amount_Valid (r : Bool) : Value → List Ent → List Fact → Prop := fun v θ κ => v = .bool r ∧ θ = [] ∧ κ = []
theorem plains_amount_Valid {r : Bool} : ∀ v θ κ, Q_amount_Valid r v θ κ → Plains θ := by
  rintro _ _ _ ⟨rfl, rfl, rfl⟩
  exact trivial
set_option maxRecDepth 100000 in
theorem W_amount_Valid (a0 : Int) (r : Bool) (h : amount_Valid a0 = some r) : Spec Try.prog 47 [.int .i64 a0] [] [] (Q_amount_Valid r) := by
  unfold amount_Valid at h
  refine spec_of (σ := [(0, _)]) Try.func47 rfl rfl rfl rfl ?_
  intro C
  refine wc_seq ?_
  refine wc_region ?_   -- region 0
  refine wl_det rfl rfl (det_assign rfl) rfl ?_
  refine wl_nil ?_
  refine pn_then ?_
  refine wc_seq ?_
  refine wc_region ?_   -- region 1
  refine wl_det rfl rfl (det_move rfl) rfl ?_
  refine wl_det rfl rfl (det_leq rfl rfl) rfl ?_
  refine wl_det rfl rfl (det_move rfl) rfl ?_
  refine wl_way (decide ((-17592186044416) ≤ a0)) ((decide ((-17592186044416) ≤ a0)) && (decide (a0 ≤ 17592186044416))) 3 8 (fun hg => ?_) (fun hg => ?_) ?_
  · have hg1_5 := hg
    refine wl_on rfl rfl rfl rfl hg1_5 ?_
    refine wl_det rfl rfl (det_move rfl) rfl ?_
    refine wl_on rfl rfl rfl rfl hg1_5 ?_
    refine wl_det rfl rfl (det_leq rfl rfl) rfl ?_
    refine wl_det rfl rfl (det_and_on rfl rfl rfl hg1_5) rfl ?_
    exact wl_nil (pn_qnE (ext_cons rfl (ext_skip rfl (ext_skip rfl (ext_skip rfl ext_refl)))) (fun _ h => h))
  · have hg1_5a := hg
    refine wl_off rfl rfl rfl rfl rfl hg1_5a rfl ?_
    refine wl_off rfl rfl rfl rfl rfl hg1_5a rfl ?_
    refine wl_det rfl rfl (det_and_off (q := (decide (a0 ≤ 17592186044416))) rfl rfl rfl hg1_5a) rfl ?_
    exact wl_nil (pn_qnE (ext_cons rfl (ext_skip rfl (ext_skip rfl (ext_skip rfl ext_refl)))) (fun _ h => h))
  refine wl_det rfl rfl (det_assign rfl) rfl ?_
  refine wl_nil ?_
  refine pn_then ?_
  refine wc_ret ?_
  replace h := Option.some.inj h
  subst h
  refine pn_ret (vs := [_]) rfl ⟨rfl, trivial⟩ ⟨rfl, rfl, rfl⟩ (fun _ h => h.to trivial trivial)
def Q_split_inRange (r : Bool) : Value → List Ent → List Fact → Prop := fun v θ κ => v = .bool r ∧ θ = [] ∧ κ = []
theorem plains_split_inRange {r : Bool} : ∀ v θ κ, Q_split_inRange r v θ κ → Plains θ := by
  rintro _ _ _ ⟨rfl, rfl, rfl⟩
  exact trivial
set_option maxRecDepth 100000 in
theorem W_split_inRange (a0 : (List Int)) (A0 : Option Addr) (n0 : Nat) (c0 : Nat) (r : Bool) (h : split_inRange a0 = some r) : Spec Try.prog 52 [.slice A0 n0 c0] [] [fV (lSlice (lInt .i64)) (.slice A0 n0 c0) a0] (Q_split_inRange r) := by
  unfold split_inRange at h
  refine spec_of (σ := [(0, _)]) Try.func52 rfl rfl rfl rfl ?_
  intro C
  refine wc_know (fun _ h => h.lenF m0) (fun e => ?_)
  subst e
  refine wc_seq ?_
  refine wc_region ?_   -- region 0
  refine wl_det rfl rfl (det_assign rfl) rfl ?_
  refine wl_nil ?_
  refine pn_then ?_
  obtain ⟨q2, h, ho2⟩ := bind_some h
  refine wc_meetG (G := Unit × Unit) (fun (s2, _) => (.inl s2) = q2) (fun (_, _) => []) (fun (_, _) => []) (fun (_, _) => []) ?_ ?_
  · refine wc_seq ?_
    refine wc_region ?_   -- region 1
    refine wl_det rfl rfl (det_move rfl) rfl ?_
    refine wl_det rfl rfl (det_len rfl un22) rfl ?_
    refine wl_det rfl rfl (det_move rfl) rfl ?_
    refine wl_nil ?_
    refine pn_then ?_
    refine wc_block ?_
    obtain ⟨o6, h, ho6⟩ := bind_some h
    obtain ⟨k6, hk6⟩ := loopV_some.1 h
    refine wc_loop (G := Nat × Int × Unit) (fun g => IterN (split_inRange_l6 a0) g.1 g.2.1 o6) (fun g => g.1) (fun (_, s6, _) => [(5, .slice A0 a0.length c0), (6, .int .i64 (a0.length : Int)), (7, .int .i64 s6)]) (fun (_, _, _) => []) (fun (_, _, _) => [fV (lSlice (lInt .i64)) (.slice A0 a0.length c0) a0]) (k6, 0, ()) hk6 ⟨rfl, rfl, rfl, trivial⟩ (fun _ h => h.to trivial ⟨m0, trivial⟩) ?_
    rintro ⟨k6, s6, _⟩ hI
    obtain ⟨k6, rfl, q6, h, g6⟩ := IterN.pos hI
    dsimp only at h ⊢
    unfold split_inRange_l6 at h
    refine wc_seq ?_
    refine wc_region ?_   -- region 2
    refine wl_det rfl rfl (det_lss rfl rfl) rfl ?_
    refine wl_nil ?_
    refine pn_then ?_
    refine wc_seq ?_
    refine wc_cond rfl (fun c10 => ?_) (fun c10 => ?_)
    · have h := ifT h c10
      refine wc_skip ?_
      refine pn_then ?_
      refine wc_seq ?_
      refine wc_block ?_
      refine wc_seq ?_
      refine wc_region ?_   -- region 3
      obtain ⟨k3_0, h⟩ := chk_some h
      refine wl_st (fun _ h => h.openF m0 k3_0) ?_
      refine wl_det rfl rfl (det_indexP rfl rfl (ms m0) k3_0 m0 un22 sz3) rfl ?_
      refine wl_det rfl rfl (det_loadP (off := 0) rfl m0 (by rfl) (by rfl) (loaded_1 na3 us3)) rfl ?_
      refine wl_det rfl rfl (det_assign rfl) rfl ?_
      refine wl_nil ?_
      refine pn_then ?_
      refine wc_seq ?_
      refine wc_region ?_   -- region 4
      refine wl_det rfl rfl (det_move rfl) rfl ?_
      refine wl_det rfl rfl (det_lss rfl rfl) rfl ?_
      refine wl_det rfl rfl (det_move rfl) rfl ?_
      refine wl_way (decide ((ix a0 s6) < 0)) ((decide ((ix a0 s6) < 0)) || (decide (17592186044416 < (ix a0 s6)))) 3 16 (fun hg => ?_) (fun hg => ?_) ?_
      · have hg4_5 := hg
        refine wl_off rfl rfl rfl rfl rfl hg4_5 rfl ?_
        refine wl_off rfl rfl rfl rfl rfl hg4_5 rfl ?_
        refine wl_det rfl rfl (det_or_on (r := (decide (17592186044416 < (ix a0 s6)))) rfl rfl rfl hg4_5) rfl ?_
        exact wl_nil (pn_qnE (ext_cons rfl (ext_skip rfl (ext_skip rfl (ext_skip rfl ext_refl)))) (fun _ h => h))
      · have hg4_5a := hg
        refine wl_on rfl rfl rfl rfl hg4_5a ?_
        refine wl_det rfl rfl (det_move rfl) rfl ?_
        refine wl_on rfl rfl rfl rfl hg4_5a ?_
        refine wl_det rfl rfl (det_gtr rfl rfl) rfl ?_
        refine wl_det rfl rfl (det_or_off rfl rfl rfl hg4_5a) rfl ?_
        exact wl_nil (pn_qnE (ext_cons rfl (ext_skip rfl (ext_skip rfl (ext_skip rfl ext_refl)))) (fun _ h => h))
      refine wl_nil ?_
      refine pn_then ?_
      refine wc_cond rfl (fun c18 => ?_) (fun c18 => ?_)
      · have h := ifT h c18
        refine wc_seq ?_
        refine wc_region ?_   -- region 5
        refine wl_det rfl rfl (det_assign rfl) rfl ?_
        refine wl_nil ?_
        refine pn_then ?_
        refine wc_ret ?_
        refine pr_block ?_
        refine pr_then ?_
        refine pr_then ?_
        refine pr_block ?_
        refine pr_then ?_
        replace h := Option.some.inj h
        subst h
        replace g6 := nextR g6
        subst g6
        have h := (elimL ho6)
        replace h := Option.some.inj h
        subst h
        have h := (elimR ho2)
        replace h := Option.some.inj h
        subst h
        refine pn_ret (vs := [_]) rfl ⟨rfl, trivial⟩ ⟨rfl, rfl, rfl⟩ (fun _ h => h.to trivial trivial)
      · have h := ifF h c18
        refine wc_skip ?_
        refine pn_block ?_
        refine pn_then ?_
        refine wc_region ?_   -- region 6
        refine wl_det rfl rfl (det_add rfl rfl) rfl ?_
        refine wl_det rfl rfl (det_move rfl) rfl ?_
        refine wl_nil ?_
        replace h := Option.some.inj h
        subst h
        exact pn_some (k6, (w64 (s6 + 1)), ()) ⟨nextL g6, Nat.lt_succ_self _⟩ ⟨rfl, rfl, rfl, trivial⟩ (fun _ h => h.to trivial ⟨(ms m0), trivial⟩)
    · have h := ifF h c10
      refine wc_exit ?_
      refine px_then ?_
      refine px_then ?_
      refine px_block ?_
      replace h := Option.some.inj h
      subst h
      replace g6 := nextR g6
      subst g6
      have h := (elimR ho6)
      replace h := Option.some.inj h
      subst h
      exact pn_meetG ((), ()) rfl trivial (fun _ h => h.to trivial trivial)
  rintro ⟨s2, _⟩ e2
  dsimp only at e2 ⊢
  subst e2
  have h := (elimL ho2)
  refine wc_seq ?_
  refine wc_region ?_   -- region 7
  refine wl_det rfl rfl (det_assign rfl) rfl ?_
  refine wl_nil ?_
  refine pn_then ?_
  refine wc_ret ?_
  replace h := Option.some.inj h
  subst h
  refine pn_ret (vs := [_]) rfl ⟨rfl, trivial⟩ ⟨rfl, rfl, rfl⟩ (fun _ h => h.to trivial trivial)
def Q_split_total (r : Int) : Value → List Ent → List Fact → Prop := fun v θ κ => v = .int .i64 r ∧ θ = [] ∧ κ = []
theorem plains_split_total {r : Int} : ∀ v θ κ, Q_split_total r v θ κ → Plains θ := by
  rintro _ _ _ ⟨rfl, rfl, rfl⟩
  exact trivial
set_option maxRecDepth 100000 in
theorem W_split_total (a0 : (List Int)) (A0 : Option Addr) (n0 : Nat) (c0 : Nat) (r : Int) (h : split_total a0 = some r) : Spec Try.prog 53 [.slice A0 n0 c0] [] [fV (lSlice (lInt .i64)) (.slice A0 n0 c0) a0] (Q_split_total r) := by
  unfold split_total at h
  refine spec_of (σ := [(0, _)]) Try.func53 rfl rfl rfl rfl ?_
  intro C
  refine wc_know (fun _ h => h.lenF m0) (fun e => ?_)
  subst e
  refine wc_seq ?_
  refine wc_region ?_   -- region 0
  refine wl_det rfl rfl (det_assign rfl) rfl ?_
  refine wl_nil ?_
  refine pn_then ?_
  refine wc_seq ?_
  refine wc_region ?_   -- region 1
  refine wl_det rfl rfl (det_assign rfl) rfl ?_
  refine wl_nil ?_
  refine pn_then ?_
  obtain ⟨q4, h, ho4⟩ := bind_some h
  refine wc_meetG (G := Int × Unit) (fun (s4, _) => s4 = q4) (fun (s4, _) => [(3, .int .i64 s4)]) (fun (_, _) => []) (fun (_, _) => []) ?_ ?_
  · refine wc_seq ?_
    refine wc_region ?_   -- region 2
    refine wl_det rfl rfl (det_move rfl) rfl ?_
    refine wl_det rfl rfl (det_len rfl un22) rfl ?_
    refine wl_det rfl rfl (det_move rfl) rfl ?_
    refine wl_nil ?_
    refine pn_then ?_
    refine wc_block ?_
    obtain ⟨k8, hk8⟩ := loopV_some.1 h
    refine wc_loop (G := Nat × (Int × Int) × Unit) (fun g => IterN (split_total_l8 a0) g.1 g.2.1 q4) (fun g => g.1) (fun (_, s8, _) => [(3, .int .i64 s8.1), (6, .slice A0 a0.length c0), (7, .int .i64 (a0.length : Int)), (8, .int .i64 s8.2)]) (fun (_, _, _) => []) (fun (_, _, _) => [fV (lSlice (lInt .i64)) (.slice A0 a0.length c0) a0]) (k8, (0, 0), ()) hk8 ⟨rfl, rfl, rfl, rfl, trivial⟩ (fun _ h => h.to trivial ⟨m0, trivial⟩) ?_
    rintro ⟨k8, s8, _⟩ hI
    obtain ⟨k8, rfl, q8, h, g8⟩ := IterN.pos hI
    dsimp only at h ⊢
    unfold split_total_l8 at h
    refine wc_seq ?_
    refine wc_region ?_   -- region 3
    refine wl_det rfl rfl (det_lss rfl rfl) rfl ?_
    refine wl_nil ?_
    refine pn_then ?_
    refine wc_seq ?_
    refine wc_cond rfl (fun c12 => ?_) (fun c12 => ?_)
    · have h := ifT h c12
      refine wc_skip ?_
      refine pn_then ?_
      refine wc_seq ?_
      refine wc_block ?_
      refine wc_seq ?_
      refine wc_region ?_   -- region 4
      obtain ⟨k4_0, h⟩ := chk_some h
      refine wl_st (fun _ h => h.openF m0 k4_0) ?_
      refine wl_det rfl rfl (det_indexP rfl rfl (ms m0) k4_0 m0 un22 sz3) rfl ?_
      refine wl_det rfl rfl (det_loadP (off := 0) rfl m0 (by rfl) (by rfl) (loaded_1 na3 us3)) rfl ?_
      refine wl_det rfl rfl (det_assign rfl) rfl ?_
      refine wl_nil ?_
      refine pn_then ?_
      refine wc_region ?_   -- region 5
      refine wl_det rfl rfl (det_move rfl) rfl ?_
      refine wl_det rfl rfl (det_move rfl) rfl ?_
      refine wl_det rfl rfl (det_add rfl rfl) rfl ?_
      refine wl_det rfl rfl (det_assign rfl) rfl ?_
      refine wl_nil ?_
      refine pn_block ?_
      refine pn_then ?_
      refine wc_region ?_   -- region 6
      refine wl_det rfl rfl (det_add rfl rfl) rfl ?_
      refine wl_det rfl rfl (det_move rfl) rfl ?_
      refine wl_nil ?_
      replace h := Option.some.inj h
      subst h
      exact pn_some (k8, ((w64 (s8.1 + (ix a0 s8.2))), (w64 (s8.2 + 1))), ()) ⟨nextL g8, Nat.lt_succ_self _⟩ ⟨rfl, rfl, rfl, rfl, trivial⟩ (fun _ h => h.to trivial ⟨(ms m0), trivial⟩)
    · have h := ifF h c12
      refine wc_exit ?_
      refine px_then ?_
      refine px_then ?_
      refine px_block ?_
      replace h := Option.some.inj h
      subst h
      replace g8 := nextR g8
      subst g8
      exact pn_meetG (s8.1, ()) rfl ⟨rfl, trivial⟩ (fun _ h => h.to trivial trivial)
  rintro ⟨s4, _⟩ e4
  dsimp only at e4 ⊢
  subst e4
  have h := ho4
  refine wc_seq ?_
  refine wc_region ?_   -- region 7
  refine wl_det rfl rfl (det_move rfl) rfl ?_
  refine wl_det rfl rfl (det_assign rfl) rfl ?_
  refine wl_nil ?_
  refine pn_then ?_
  refine wc_ret ?_
  replace h := Option.some.inj h
  subst h
  refine pn_ret (vs := [_]) rfl ⟨rfl, trivial⟩ ⟨rfl, rfl, rfl⟩ (fun _ h => h.to trivial trivial)
def Q_bits_Mul64 (r : Int × Int) : Value → List Ent → List Fact → Prop := fun v θ κ => v = .tuple #[.int .u64 r.1, .int .u64 r.2] ∧ θ = [] ∧ κ = []
theorem plains_bits_Mul64 {r : Int × Int} : ∀ v θ κ, Q_bits_Mul64 r v θ κ → Plains θ := by
  rintro _ _ _ ⟨rfl, rfl, rfl⟩
  exact trivial
theorem W_bits_Mul64 (a0 : Int) (a1 : Int) (r : Int × Int) (h : bits_Mul64 a0 a1 = some r) : Spec Try.prog 58 [.int .u64 a0, .int .u64 a1] [] [] (Q_bits_Mul64 r) :=
  spec_mul64 (ρ := Try.lay264_ren) Try.lay264 a0 a1 r h
def Q_bits_LeadingZeros64 (r : Int) : Value → List Ent → List Fact → Prop := fun v θ κ => v = .int .i64 r ∧ θ = [] ∧ κ = []
theorem plains_bits_LeadingZeros64 {r : Int} : ∀ v θ κ, Q_bits_LeadingZeros64 r v θ κ → Plains θ := by
  rintro _ _ _ ⟨rfl, rfl, rfl⟩
  exact trivial
theorem W_bits_LeadingZeros64 (a0 : Int) (r : Int) (h : bits_LeadingZeros64 a0 = some r) : Spec Try.prog 68 [.int .u64 a0] [] [] (Q_bits_LeadingZeros64 r) :=
  spec_lz64 (ρ := Try.lay134_ren) Try.lay134 a0 r h
def Q_bits_Div64 (r : Int × Int) : Value → List Ent → List Fact → Prop := fun v θ κ => v = .tuple #[.int .u64 r.1, .int .u64 r.2] ∧ θ = [] ∧ κ = []
theorem plains_bits_Div64 {r : Int × Int} : ∀ v θ κ, Q_bits_Div64 r v θ κ → Plains θ := by
  rintro _ _ _ ⟨rfl, rfl, rfl⟩
  exact trivial
set_option maxRecDepth 100000 in
theorem W_bits_Div64 (a0 : Int) (a1 : Int) (a2 : Int) (r : Int × Int) (h : bits_Div64 a0 a1 a2 = some r) : Spec Try.prog 59 [.int .u64 a0, .int .u64 a1, .int .u64 a2] [] [] (Q_bits_Div64 r) := by
  unfold bits_Div64 at h
  refine spec_of (σ := [(0, _), (1, _), (2, _)]) Try.func59 rfl rfl rfl rfl ?_
  intro C
  refine wc_seq ?_
  refine wc_region ?_   -- region 0
  refine wl_det rfl rfl (det_assign rfl) rfl ?_
  refine wl_det rfl rfl (det_assign rfl) rfl ?_
  refine wl_nil ?_
  refine pn_then ?_
  obtain ⟨q2, h, ho2⟩ := bind_some h
  refine wc_meetG (G := Unit × Unit) (fun (s2, _) => s2 = q2) (fun (_, _) => [(0, .int .u64 a0), (1, .int .u64 a1), (2, .int .u64 a2)]) (fun (_, _) => []) (fun (_, _) => []) ?_ ?_
  · refine wc_seq ?_
    refine wc_region ?_   -- region 1
    refine wl_det rfl rfl (det_move rfl) rfl ?_
    refine wl_det rfl rfl (det_eql rfl rfl) rfl ?_
    refine wl_nil ?_
    refine pn_then ?_
    refine wc_cond rfl (fun c5 => ?_) (fun c5 => ?_)
    · have h := ifT h c5
      cases h
    · have h := ifF h c5
      refine wc_skip ?_
      replace h := Option.some.inj h
      subst h
      exact pn_meetG ((), ()) rfl ⟨rfl, rfl, rfl, trivial⟩ (fun _ h => h.to trivial trivial)
  rintro ⟨s2, _⟩ e2
  dsimp only at e2 ⊢
  subst e2
  have h := ho2
  obtain ⟨q7, h, ho7⟩ := bind_some h
  refine wc_meetG (G := Unit × Unit) (fun (s7, _) => s7 = q7) (fun (_, _) => [(0, .int .u64 a0), (1, .int .u64 a1), (2, .int .u64 a2)]) (fun (_, _) => []) (fun (_, _) => []) ?_ ?_
  · refine wc_seq ?_
    refine wc_region ?_   -- region 3
    refine wl_det rfl rfl (det_move rfl) rfl ?_
    refine wl_det rfl rfl (det_move rfl) rfl ?_
    refine wl_det rfl rfl (det_leq rfl rfl) rfl ?_
    refine wl_nil ?_
    refine pn_then ?_
    refine wc_cond rfl (fun c10 => ?_) (fun c10 => ?_)
    · have h := ifT h c10
      cases h
    · have h := ifF h c10
      refine wc_skip ?_
      replace h := Option.some.inj h
      subst h
      exact pn_meetG ((), ()) rfl ⟨rfl, rfl, rfl, trivial⟩ (fun _ h => h.to trivial trivial)
  rintro ⟨s7, _⟩ e7
  dsimp only at e7 ⊢
  subst e7
  have h := ho7
  refine wc_seq ?_
  refine wc_seq ?_
  refine wc_region ?_   -- region 5
  refine wl_det rfl rfl (det_move rfl) rfl ?_
  refine wl_det rfl rfl (det_eql rfl rfl) rfl ?_
  refine wl_nil ?_
  refine pn_then ?_
  refine wc_cond rfl (fun c15 => ?_) (fun c15 => ?_)
  · have h := ifT h c15
    refine wc_seq ?_
    obtain ⟨k6_p1, h⟩ := chk_some h
    refine dx_region 7 [[], [], [0, 1], [], [], [3, 4], [0, 1, 2], [0, 1, 2, 3, 4, 5, 6]] mixed (ord := (.det 0 (.det 1 (.det 2 (.det 3 (.det 4 (.det 5 (.det 6 .done)))))))) (by kernel_rfl) ?_   -- region 6
    refine hx_det rfl rfl rfl nofun (det_move rfl) rfl ?_
    refine hx_det rfl rfl rfl nofun (det_move rfl) rfl ?_
    refine hx_det rfl rfl rfl nofun (det_quoB rfl rfl k6_p1) rfl ?_
    refine hx_det rfl rfl rfl nofun (det_move rfl) rfl ?_
    refine hx_det rfl rfl rfl nofun (det_move rfl) rfl ?_
    refine hx_det rfl rfl rfl nofun (det_remB rfl rfl k6_p1) rfl ?_
    refine hx_det rfl rfl rfl nofun (det_assign rfl) rfl ?_
    refine hx_end ?_
    refine wl_det rfl rfl (det_assign rfl) rfl ?_
    refine wl_nil ?_
    refine pn_then ?_
    refine wc_ret ?_
    refine pr_then ?_
    replace h := Option.some.inj h
    subst h
    refine pn_ret (vs := [_, _]) rfl ⟨rfl, rfl, trivial⟩ ⟨rfl, rfl, rfl⟩ (fun _ h => h.to trivial trivial)
  · have h := ifF h c15
    refine wc_skip ?_
    refine pn_then ?_
    refine wc_seq ?_
    refine wc_region ?_   -- region 7
    refine wl_det rfl rfl (det_move rfl) rfl ?_
    obtain ⟨r7_1, hr7_1, h⟩ := bind_some h
    refine wl_act (act_callS (cap := []) (W_bits_LeadingZeros64 a2 r7_1 hr7_1) rfl rfl rfl bd68 rfl trivial) rfl rfl rfl ?_
    rintro _ _ _ ⟨_, _, ⟨rfl, rfl, rfl⟩, rfl, rfl⟩
    dsimp only [List.nil_append, List.cons_append]
    refine wl_det rfl rfl (det_conv rfl us3 un54) rfl ?_
    refine wl_det rfl rfl (det_assign rfl) rfl ?_
    refine wl_nil ?_
    refine pn_then ?_
    refine wc_seq ?_
    refine wc_region ?_   -- region 8
    refine wl_det rfl rfl (det_move rfl) rfl ?_
    refine wl_det rfl rfl (det_move rfl) rfl ?_
    obtain ⟨k8_2, h⟩ := chk_some h
    refine wl_det rfl rfl (det_shl rfl rfl k8_2) rfl ?_
    refine wl_det rfl rfl (det_assign rfl) rfl ?_
    refine wl_nil ?_
    refine pn_then ?_
    refine wc_seq ?_
    refine wc_region ?_   -- region 9
    refine wl_det rfl rfl (det_move rfl) rfl ?_
    refine wl_det rfl rfl (det_shr rfl rfl rfl) rfl ?_
    refine wl_det rfl rfl (det_assign rfl) rfl ?_
    refine wl_nil ?_
    refine pn_then ?_
    refine wc_seq ?_
    refine wc_region ?_   -- region 10
    refine wl_det rfl rfl (det_move rfl) rfl ?_
    refine wl_det rfl rfl (det_band rfl rfl) rfl ?_
    refine wl_det rfl rfl (det_assign rfl) rfl ?_
    refine wl_nil ?_
    refine pn_then ?_
    refine wc_seq ?_
    refine wc_region ?_   -- region 11
    refine wl_det rfl rfl (det_move rfl) rfl ?_
    refine wl_det rfl rfl (det_move rfl) rfl ?_
    refine wl_det rfl rfl (det_shl rfl rfl k8_2) rfl ?_
    refine wl_det rfl rfl (det_move rfl) rfl ?_
    refine wl_det rfl rfl (det_move rfl) rfl ?_
    refine wl_det rfl rfl (det_sub rfl rfl) rfl ?_
    obtain ⟨k11_6, h⟩ := chk_some h
    refine wl_det rfl rfl (det_shr rfl rfl k11_6) rfl ?_
    refine wl_det rfl rfl (det_bor rfl rfl) rfl ?_
    refine wl_det rfl rfl (det_assign rfl) rfl ?_
    refine wl_nil ?_
    refine pn_then ?_
    refine wc_seq ?_
    refine wc_region ?_   -- region 12
    refine wl_det rfl rfl (det_move rfl) rfl ?_
    refine wl_det rfl rfl (det_move rfl) rfl ?_
    refine wl_det rfl rfl (det_shl rfl rfl k8_2) rfl ?_
    refine wl_det rfl rfl (det_assign rfl) rfl ?_
    refine wl_nil ?_
    refine pn_then ?_
    refine wc_seq ?_
    refine wc_region ?_   -- region 13
    refine wl_det rfl rfl (det_move rfl) rfl ?_
    refine wl_det rfl rfl (det_shr rfl rfl rfl) rfl ?_
    refine wl_det rfl rfl (det_assign rfl) rfl ?_
    refine wl_nil ?_
    refine pn_then ?_
    refine wc_seq ?_
    refine wc_region ?_   -- region 14
    refine wl_det rfl rfl (det_move rfl) rfl ?_
    refine wl_det rfl rfl (det_band rfl rfl) rfl ?_
    refine wl_det rfl rfl (det_assign rfl) rfl ?_
    refine wl_nil ?_
    refine pn_then ?_
    refine wc_seq ?_
    refine wc_region ?_   -- region 15
    refine wl_det rfl rfl (det_move rfl) rfl ?_
    refine wl_det rfl rfl (det_move rfl) rfl ?_
    obtain ⟨k15_2, h⟩ := chk_some h
    refine wl_det rfl rfl (det_quoB rfl rfl k15_2) rfl ?_
    refine wl_det rfl rfl (det_assign rfl) rfl ?_
    refine wl_nil ?_
    refine pn_then ?_
    refine wc_seq ?_
    refine wc_region ?_   -- region 16
    refine wl_det rfl rfl (det_move rfl) rfl ?_
    refine wl_det rfl rfl (det_move rfl) rfl ?_
    refine wl_det rfl rfl (det_move rfl) rfl ?_
    refine wl_det rfl rfl (det_mul rfl rfl) rfl ?_
    refine wl_det rfl rfl (det_sub rfl rfl) rfl ?_
    refine wl_det rfl rfl (det_assign rfl) rfl ?_
    refine wl_nil ?_
    refine pn_then ?_
    obtain ⟨q38, h, ho38⟩ := bind_some h
    refine wc_meetG (G := Int × Unit) (fun (s38, _) => s38 = q38) (fun (s38, _) => [(2, .int .u64 (bShl .u64 a2 (u64 r7_1))), (8, .int .u64 (u64 r7_1)), (9, .int .u64 (bShr .u64 (bShl .u64 a2 (u64 r7_1)) 32)), (10, .int .u64 (bAnd .u64 (bShl .u64 a2 (u64 r7_1)) 4294967295)), (11, .int .u64 (bOr .u64 (bShl .u64 a0 (u64 r7_1)) (bShr .u64 a1 (u64 (64 - (u64 r7_1)))))), (13, .int .u64 (bShr .u64 (bShl .u64 a1 (u64 r7_1)) 32)), (14, .int .u64 (bAnd .u64 (bShl .u64 a1 (u64 r7_1)) 4294967295)), (15, .int .u64 s38)]) (fun (_, _) => []) (fun (_, _) => []) ?_ ?_
    · refine wc_block ?_
      obtain ⟨k40, hk40⟩ := loopV_some.1 h
      refine wc_loop (G := Nat × (Int × Int) × Unit) (fun g => IterN (bits_Div64_l40 a1 a2 r7_1) g.1 g.2.1 q38) (fun g => g.1) (fun (_, s40, _) => [(2, .int .u64 (bShl .u64 a2 (u64 r7_1))), (8, .int .u64 (u64 r7_1)), (9, .int .u64 (bShr .u64 (bShl .u64 a2 (u64 r7_1)) 32)), (10, .int .u64 (bAnd .u64 (bShl .u64 a2 (u64 r7_1)) 4294967295)), (11, .int .u64 (bOr .u64 (bShl .u64 a0 (u64 r7_1)) (bShr .u64 a1 (u64 (64 - (u64 r7_1)))))), (13, .int .u64 (bShr .u64 (bShl .u64 a1 (u64 r7_1)) 32)), (14, .int .u64 (bAnd .u64 (bShl .u64 a1 (u64 r7_1)) 4294967295)), (15, .int .u64 s40.1), (16, .int .u64 s40.2)]) (fun (_, _, _) => []) (fun (_, _, _) => []) (k40, ((u64 ((bOr .u64 (bShl .u64 a0 (u64 r7_1)) (bShr .u64 a1 (u64 (64 - (u64 r7_1))))).tdiv (bShr .u64 (bShl .u64 a2 (u64 r7_1)) 32))), (u64 ((bOr .u64 (bShl .u64 a0 (u64 r7_1)) (bShr .u64 a1 (u64 (64 - (u64 r7_1))))) - (u64 ((u64 ((bOr .u64 (bShl .u64 a0 (u64 r7_1)) (bShr .u64 a1 (u64 (64 - (u64 r7_1))))).tdiv (bShr .u64 (bShl .u64 a2 (u64 r7_1)) 32))) * (bShr .u64 (bShl .u64 a2 (u64 r7_1)) 32)))))), ()) hk40 ⟨rfl, rfl, rfl, rfl, rfl, rfl, rfl, rfl, rfl, trivial⟩ (fun _ h => h.to trivial trivial) ?_
      rintro ⟨k40, s40, _⟩ hI
      obtain ⟨k40, rfl, q40, h, g40⟩ := IterN.pos hI
      dsimp only at h ⊢
      unfold bits_Div64_l40 at h
      refine wc_seq ?_
      refine wc_seq ?_
      refine wc_region ?_   -- region 17
      refine wl_det rfl rfl (det_move rfl) rfl ?_
      refine wl_det rfl rfl (det_geq rfl rfl) rfl ?_
      refine wl_det rfl rfl (det_move rfl) rfl ?_
      refine wl_way (decide (4294967296 ≤ s40.1)) ((decide (4294967296 ≤ s40.1)) || (decide ((u64 ((u64 (4294967296 * s40.2)) + (bShr .u64 (bShl .u64 a1 (u64 r7_1)) 32))) < (u64 (s40.1 * (bAnd .u64 (bShl .u64 a2 (u64 r7_1)) 4294967295)))))) 9 78 (fun hg => ?_) (fun hg => ?_) ?_
      · have hg17_11 := hg
        refine wl_off rfl rfl rfl rfl rfl hg17_11 rfl ?_
        refine wl_off rfl rfl rfl rfl rfl hg17_11 rfl ?_
        refine wl_off rfl rfl rfl rfl rfl hg17_11 rfl ?_
        refine wl_off rfl rfl rfl rfl rfl hg17_11 rfl ?_
        refine wl_off rfl rfl rfl rfl rfl hg17_11 rfl ?_
        refine wl_off rfl rfl rfl rfl rfl hg17_11 rfl ?_
        refine wl_off rfl rfl rfl rfl rfl hg17_11 rfl ?_
        refine wl_off rfl rfl rfl rfl rfl hg17_11 rfl ?_
        refine wl_det rfl rfl (det_or_on (r := (decide ((u64 ((u64 (4294967296 * s40.2)) + (bShr .u64 (bShl .u64 a1 (u64 r7_1)) 32))) < (u64 (s40.1 * (bAnd .u64 (bShl .u64 a2 (u64 r7_1)) 4294967295)))))) rfl rfl rfl hg17_11) rfl ?_
        exact wl_nil (pn_qnE (ext_cons rfl (ext_skip rfl (ext_skip rfl (ext_skip rfl (ext_skip rfl (ext_skip rfl (ext_skip rfl (ext_skip rfl (ext_skip rfl (ext_skip rfl ext_refl)))))))))) (fun _ h => h))
      · have hg17_11a := hg
        refine wl_on rfl rfl rfl rfl hg17_11a ?_
        refine wl_det rfl rfl (det_move rfl) rfl ?_
        refine wl_on rfl rfl rfl rfl hg17_11a ?_
        refine wl_det rfl rfl (det_move rfl) rfl ?_
        refine wl_on rfl rfl rfl rfl hg17_11a ?_
        refine wl_det rfl rfl (det_mul rfl rfl) rfl ?_
        refine wl_on rfl rfl rfl rfl hg17_11a ?_
        refine wl_det rfl rfl (det_move rfl) rfl ?_
        refine wl_on rfl rfl rfl rfl hg17_11a ?_
        refine wl_det rfl rfl (det_mul rfl rfl) rfl ?_
        refine wl_on rfl rfl rfl rfl hg17_11a ?_
        refine wl_det rfl rfl (det_move rfl) rfl ?_
        refine wl_on rfl rfl rfl rfl hg17_11a ?_
        refine wl_det rfl rfl (det_add rfl rfl) rfl ?_
        refine wl_on rfl rfl rfl rfl hg17_11a ?_
        refine wl_det rfl rfl (det_gtr rfl rfl) rfl ?_
        refine wl_det rfl rfl (det_or_off rfl rfl rfl hg17_11a) rfl ?_
        exact wl_nil (pn_qnE (ext_cons rfl (ext_skip rfl (ext_skip rfl (ext_skip rfl (ext_skip rfl (ext_skip rfl (ext_skip rfl (ext_skip rfl (ext_skip rfl (ext_skip rfl ext_refl)))))))))) (fun _ h => h))
      refine wl_nil ?_
      refine pn_then ?_
      refine wc_cond rfl (fun c44 => ?_) (fun c44 => ?_)
      · have h := ifT h c44
        refine wc_skip ?_
        refine pn_then ?_
        refine wc_block ?_
        refine wc_seq ?_
        refine wc_region ?_   -- region 18
        refine wl_det rfl rfl (det_move rfl) rfl ?_
        refine wl_det rfl rfl (det_sub rfl rfl) rfl ?_
        refine wl_det rfl rfl (det_assign rfl) rfl ?_
        refine wl_nil ?_
        refine pn_then ?_
        refine wc_seq ?_
        refine wc_region ?_   -- region 19
        refine wl_det rfl rfl (det_move rfl) rfl ?_
        refine wl_det rfl rfl (det_move rfl) rfl ?_
        refine wl_det rfl rfl (det_add rfl rfl) rfl ?_
        refine wl_det rfl rfl (det_assign rfl) rfl ?_
        refine wl_nil ?_
        refine pn_then ?_
        refine wc_seq ?_
        refine wc_region ?_   -- region 20
        refine wl_det rfl rfl (det_move rfl) rfl ?_
        refine wl_det rfl rfl (det_geq rfl rfl) rfl ?_
        refine wl_nil ?_
        refine pn_then ?_
        refine wc_cond rfl (fun c53 => ?_) (fun c53 => ?_)
        · have h := ifT h c53
          refine wc_exit ?_
          refine px_block_ne rfl ?_
          refine px_then ?_
          refine px_block ?_
          replace h := Option.some.inj h
          subst h
          replace g40 := nextR g40
          subst g40
          exact pn_meetG ((u64 (s40.1 - 1)), ()) rfl ⟨rfl, rfl, rfl, rfl, rfl, rfl, rfl, rfl, trivial⟩ (fun _ h => h.to trivial trivial)
        · have h := ifF h c53
          refine wc_skip ?_
          refine pn_block ?_
          replace h := Option.some.inj h
          subst h
          exact pn_some (k40, ((u64 (s40.1 - 1)), (u64 (s40.2 + (bShr .u64 (bShl .u64 a2 (u64 r7_1)) 32)))), ()) ⟨nextL g40, Nat.lt_succ_self _⟩ ⟨rfl, rfl, rfl, rfl, rfl, rfl, rfl, rfl, rfl, trivial⟩ (fun _ h => h.to trivial trivial)
      · have h := ifF h c44
        refine wc_exit ?_
        refine px_then ?_
        refine px_then ?_
        refine px_block ?_
        replace h := Option.some.inj h
        subst h
        replace g40 := nextR g40
        subst g40
        exact pn_meetG (s40.1, ()) rfl ⟨rfl, rfl, rfl, rfl, rfl, rfl, rfl, rfl, trivial⟩ (fun _ h => h.to trivial trivial)
    rintro ⟨s38, _⟩ e38
    dsimp only at e38 ⊢
    subst e38
    have h := ho38
    refine wc_seq ?_
    refine wc_region ?_   -- region 21
    refine wl_det rfl rfl (det_move rfl) rfl ?_
    refine wl_det rfl rfl (det_mul rfl rfl) rfl ?_
    refine wl_det rfl rfl (det_move rfl) rfl ?_
    refine wl_det rfl rfl (det_add rfl rfl) rfl ?_
    refine wl_det rfl rfl (det_move rfl) rfl ?_
    refine wl_det rfl rfl (det_move rfl) rfl ?_
    refine wl_det rfl rfl (det_mul rfl rfl) rfl ?_
    refine wl_det rfl rfl (det_sub rfl rfl) rfl ?_
    refine wl_det rfl rfl (det_assign rfl) rfl ?_
    refine wl_nil ?_
    refine pn_then ?_
    refine wc_seq ?_
    refine wc_region ?_   -- region 22
    refine wl_det rfl rfl (det_move rfl) rfl ?_
    refine wl_det rfl rfl (det_move rfl) rfl ?_
    refine wl_det rfl rfl (det_quoB rfl rfl k15_2) rfl ?_
    refine wl_det rfl rfl (det_assign rfl) rfl ?_
    refine wl_nil ?_
    refine pn_then ?_
    refine wc_seq ?_
    refine wc_region ?_   -- region 23
    refine wl_det rfl rfl (det_move rfl) rfl ?_
    refine wl_det rfl rfl (det_move rfl) rfl ?_
    refine wl_det rfl rfl (det_move rfl) rfl ?_
    refine wl_det rfl rfl (det_mul rfl rfl) rfl ?_
    refine wl_det rfl rfl (det_sub rfl rfl) rfl ?_
    refine wl_det rfl rfl (det_assign rfl) rfl ?_
    refine wl_nil ?_
    refine pn_then ?_
    obtain ⟨q61, h, ho61⟩ := bind_some h
    refine wc_meetG (G := Int × Unit) (fun (s61, _) => s61 = q61) (fun (s61, _) => [(2, .int .u64 (bShl .u64 a2 (u64 r7_1))), (8, .int .u64 (u64 r7_1)), (14, .int .u64 (bAnd .u64 (bShl .u64 a1 (u64 r7_1)) 4294967295)), (15, .int .u64 s38), (17, .int .u64 (u64 ((u64 ((u64 ((bOr .u64 (bShl .u64 a0 (u64 r7_1)) (bShr .u64 a1 (u64 (64 - (u64 r7_1))))) * 4294967296)) + (bShr .u64 (bShl .u64 a1 (u64 r7_1)) 32))) - (u64 (s38 * (bShl .u64 a2 (u64 r7_1))))))), (18, .int .u64 s61)]) (fun (_, _) => []) (fun (_, _) => []) ?_ ?_
    · refine wc_block ?_
      obtain ⟨k63, hk63⟩ := loopV_some.1 h
      refine wc_loop (G := Nat × (Int × Int) × Unit) (fun g => IterN (bits_Div64_l63 a1 a2 r7_1) g.1 g.2.1 q61) (fun g => g.1) (fun (_, s63, _) => [(2, .int .u64 (bShl .u64 a2 (u64 r7_1))), (8, .int .u64 (u64 r7_1)), (9, .int .u64 (bShr .u64 (bShl .u64 a2 (u64 r7_1)) 32)), (10, .int .u64 (bAnd .u64 (bShl .u64 a2 (u64 r7_1)) 4294967295)), (14, .int .u64 (bAnd .u64 (bShl .u64 a1 (u64 r7_1)) 4294967295)), (15, .int .u64 s38), (16, .int .u64 s63.1), (17, .int .u64 (u64 ((u64 ((u64 ((bOr .u64 (bShl .u64 a0 (u64 r7_1)) (bShr .u64 a1 (u64 (64 - (u64 r7_1))))) * 4294967296)) + (bShr .u64 (bShl .u64 a1 (u64 r7_1)) 32))) - (u64 (s38 * (bShl .u64 a2 (u64 r7_1))))))), (18, .int .u64 s63.2)]) (fun (_, _, _) => []) (fun (_, _, _) => []) (k63, ((u64 ((u64 ((u64 ((u64 ((bOr .u64 (bShl .u64 a0 (u64 r7_1)) (bShr .u64 a1 (u64 (64 - (u64 r7_1))))) * 4294967296)) + (bShr .u64 (bShl .u64 a1 (u64 r7_1)) 32))) - (u64 (s38 * (bShl .u64 a2 (u64 r7_1)))))) - (u64 ((u64 ((u64 ((u64 ((u64 ((bOr .u64 (bShl .u64 a0 (u64 r7_1)) (bShr .u64 a1 (u64 (64 - (u64 r7_1))))) * 4294967296)) + (bShr .u64 (bShl .u64 a1 (u64 r7_1)) 32))) - (u64 (s38 * (bShl .u64 a2 (u64 r7_1)))))).tdiv (bShr .u64 (bShl .u64 a2 (u64 r7_1)) 32))) * (bShr .u64 (bShl .u64 a2 (u64 r7_1)) 32))))), (u64 ((u64 ((u64 ((u64 ((bOr .u64 (bShl .u64 a0 (u64 r7_1)) (bShr .u64 a1 (u64 (64 - (u64 r7_1))))) * 4294967296)) + (bShr .u64 (bShl .u64 a1 (u64 r7_1)) 32))) - (u64 (s38 * (bShl .u64 a2 (u64 r7_1)))))).tdiv (bShr .u64 (bShl .u64 a2 (u64 r7_1)) 32)))), ()) hk63 ⟨rfl, rfl, rfl, rfl, rfl, rfl, rfl, rfl, rfl, trivial⟩ (fun _ h => h.to trivial trivial) ?_
      rintro ⟨k63, s63, _⟩ hI
      obtain ⟨k63, rfl, q63, h, g63⟩ := IterN.pos hI
      dsimp only at h ⊢
      unfold bits_Div64_l63 at h
      refine wc_seq ?_
      refine wc_seq ?_
      refine wc_region ?_   -- region 24
      refine wl_det rfl rfl (det_move rfl) rfl ?_
      refine wl_det rfl rfl (det_geq rfl rfl) rfl ?_
      refine wl_det rfl rfl (det_move rfl) rfl ?_
      refine wl_way (decide (4294967296 ≤ s63.2)) ((decide (4294967296 ≤ s63.2)) || (decide ((u64 ((u64 (4294967296 * s63.1)) + (bAnd .u64 (bShl .u64 a1 (u64 r7_1)) 4294967295))) < (u64 (s63.2 * (bAnd .u64 (bShl .u64 a2 (u64 r7_1)) 4294967295)))))) 9 113 (fun hg => ?_) (fun hg => ?_) ?_
      · have hg24_11 := hg
        refine wl_off rfl rfl rfl rfl rfl hg24_11 rfl ?_
        refine wl_off rfl rfl rfl rfl rfl hg24_11 rfl ?_
        refine wl_off rfl rfl rfl rfl rfl hg24_11 rfl ?_
        refine wl_off rfl rfl rfl rfl rfl hg24_11 rfl ?_
        refine wl_off rfl rfl rfl rfl rfl hg24_11 rfl ?_
        refine wl_off rfl rfl rfl rfl rfl hg24_11 rfl ?_
        refine wl_off rfl rfl rfl rfl rfl hg24_11 rfl ?_
        refine wl_off rfl rfl rfl rfl rfl hg24_11 rfl ?_
        refine wl_det rfl rfl (det_or_on (r := (decide ((u64 ((u64 (4294967296 * s63.1)) + (bAnd .u64 (bShl .u64 a1 (u64 r7_1)) 4294967295))) < (u64 (s63.2 * (bAnd .u64 (bShl .u64 a2 (u64 r7_1)) 4294967295)))))) rfl rfl rfl hg24_11) rfl ?_
        exact wl_nil (pn_qnE (ext_cons rfl (ext_skip rfl (ext_skip rfl (ext_skip rfl (ext_skip rfl (ext_skip rfl (ext_skip rfl (ext_skip rfl (ext_skip rfl (ext_skip rfl ext_refl)))))))))) (fun _ h => h))
      · have hg24_11a := hg
        refine wl_on rfl rfl rfl rfl hg24_11a ?_
        refine wl_det rfl rfl (det_move rfl) rfl ?_
        refine wl_on rfl rfl rfl rfl hg24_11a ?_
        refine wl_det rfl rfl (det_move rfl) rfl ?_
        refine wl_on rfl rfl rfl rfl hg24_11a ?_
        refine wl_det rfl rfl (det_mul rfl rfl) rfl ?_
        refine wl_on rfl rfl rfl rfl hg24_11a ?_
        refine wl_det rfl rfl (det_move rfl) rfl ?_
        refine wl_on rfl rfl rfl rfl hg24_11a ?_
        refine wl_det rfl rfl (det_mul rfl rfl) rfl ?_
        refine wl_on rfl rfl rfl rfl hg24_11a ?_
        refine wl_det rfl rfl (det_move rfl) rfl ?_
        refine wl_on rfl rfl rfl rfl hg24_11a ?_
        refine wl_det rfl rfl (det_add rfl rfl) rfl ?_
        refine wl_on rfl rfl rfl rfl hg24_11a ?_
        refine wl_det rfl rfl (det_gtr rfl rfl) rfl ?_
        refine wl_det rfl rfl (det_or_off rfl rfl rfl hg24_11a) rfl ?_
        exact wl_nil (pn_qnE (ext_cons rfl (ext_skip rfl (ext_skip rfl (ext_skip rfl (ext_skip rfl (ext_skip rfl (ext_skip rfl (ext_skip rfl (ext_skip rfl (ext_skip rfl ext_refl)))))))))) (fun _ h => h))
      refine wl_nil ?_
      refine pn_then ?_
      refine wc_cond rfl (fun c67 => ?_) (fun c67 => ?_)
      · have h := ifT h c67
        refine wc_skip ?_
        refine pn_then ?_
        refine wc_block ?_
        refine wc_seq ?_
        refine wc_region ?_   -- region 25
        refine wl_det rfl rfl (det_move rfl) rfl ?_
        refine wl_det rfl rfl (det_sub rfl rfl) rfl ?_
        refine wl_det rfl rfl (det_assign rfl) rfl ?_
        refine wl_nil ?_
        refine pn_then ?_
        refine wc_seq ?_
        refine wc_region ?_   -- region 26
        refine wl_det rfl rfl (det_move rfl) rfl ?_
        refine wl_det rfl rfl (det_move rfl) rfl ?_
        refine wl_det rfl rfl (det_add rfl rfl) rfl ?_
        refine wl_det rfl rfl (det_assign rfl) rfl ?_
        refine wl_nil ?_
        refine pn_then ?_
        refine wc_seq ?_
        refine wc_region ?_   -- region 27
        refine wl_det rfl rfl (det_move rfl) rfl ?_
        refine wl_det rfl rfl (det_geq rfl rfl) rfl ?_
        refine wl_nil ?_
        refine pn_then ?_
        refine wc_cond rfl (fun c76 => ?_) (fun c76 => ?_)
        · have h := ifT h c76
          refine wc_exit ?_
          refine px_block_ne rfl ?_
          refine px_then ?_
          refine px_block ?_
          replace h := Option.some.inj h
          subst h
          replace g63 := nextR g63
          subst g63
          exact pn_meetG ((u64 (s63.2 - 1)), ()) rfl ⟨rfl, rfl, rfl, rfl, rfl, rfl, trivial⟩ (fun _ h => h.to trivial trivial)
        · have h := ifF h c76
          refine wc_skip ?_
          refine pn_block ?_
          replace h := Option.some.inj h
          subst h
          exact pn_some (k63, ((u64 (s63.1 + (bShr .u64 (bShl .u64 a2 (u64 r7_1)) 32))), (u64 (s63.2 - 1))), ()) ⟨nextL g63, Nat.lt_succ_self _⟩ ⟨rfl, rfl, rfl, rfl, rfl, rfl, rfl, rfl, rfl, trivial⟩ (fun _ h => h.to trivial trivial)
      · have h := ifF h c67
        refine wc_exit ?_
        refine px_then ?_
        refine px_then ?_
        refine px_block ?_
        replace h := Option.some.inj h
        subst h
        replace g63 := nextR g63
        subst g63
        exact pn_meetG (s63.2, ()) rfl ⟨rfl, rfl, rfl, rfl, rfl, rfl, trivial⟩ (fun _ h => h.to trivial trivial)
    rintro ⟨s61, _⟩ e61
    dsimp only at e61 ⊢
    subst e61
    have h := ho61
    refine wc_seq ?_
    refine wc_region ?_   -- region 28
    refine wl_det rfl rfl (det_move rfl) rfl ?_
    refine wl_det rfl rfl (det_mul rfl rfl) rfl ?_
    refine wl_det rfl rfl (det_move rfl) rfl ?_
    refine wl_det rfl rfl (det_add rfl rfl) rfl ?_
    refine wl_det rfl rfl (det_move rfl) rfl ?_
    refine wl_det rfl rfl (det_mul rfl rfl) rfl ?_
    refine wl_det rfl rfl (det_move rfl) rfl ?_
    refine wl_det rfl rfl (det_add rfl rfl) rfl ?_
    refine wl_det rfl rfl (det_move rfl) rfl ?_
    refine wl_det rfl rfl (det_move rfl) rfl ?_
    refine wl_det rfl rfl (det_mul rfl rfl) rfl ?_
    refine wl_det rfl rfl (det_sub rfl rfl) rfl ?_
    refine wl_det rfl rfl (det_move rfl) rfl ?_
    refine wl_det rfl rfl (det_shr rfl rfl k8_2) rfl ?_
    refine wl_det rfl rfl (det_assign rfl) rfl ?_
    refine wl_det rfl rfl (det_assign rfl) rfl ?_
    refine wl_nil ?_
    refine pn_then ?_
    refine wc_ret ?_
    replace h := Option.some.inj h
    subst h
    refine pn_ret (vs := [_, _]) rfl ⟨rfl, rfl, trivial⟩ ⟨rfl, rfl, rfl⟩ (fun _ h => h.to trivial trivial)
def Q_cmp_isNaN_uint64 (r : Bool) : Value → List Ent → List Fact → Prop := fun v θ κ => v = .bool r ∧ θ = [] ∧ κ = []
theorem plains_cmp_isNaN_uint64 {r : Bool} : ∀ v θ κ, Q_cmp_isNaN_uint64 r v θ κ → Plains θ := by
  rintro _ _ _ ⟨rfl, rfl, rfl⟩
  exact trivial
set_option maxRecDepth 100000 in
theorem W_cmp_isNaN_uint64 (a0 : Int) (r : Bool) (h : cmp_isNaN_uint64 a0 = some r) : Spec Try.prog 69 [.int .u64 a0] [] [] (Q_cmp_isNaN_uint64 r) := by
  unfold cmp_isNaN_uint64 at h
  refine spec_of (σ := [(0, _)]) Try.func69 rfl rfl rfl rfl ?_
  intro C
  refine wc_seq ?_
  refine wc_region ?_   -- region 0
  refine wl_det rfl rfl (det_assign rfl) rfl ?_
  refine wl_nil ?_
  refine pn_then ?_
  refine wc_seq ?_
  refine wc_region ?_   -- region 1
  refine wl_det rfl rfl (det_move rfl) rfl ?_
  refine wl_det rfl rfl (det_move rfl) rfl ?_
  refine wl_det rfl rfl (det_neq rfl rfl) rfl ?_
  refine wl_det rfl rfl (det_assign rfl) rfl ?_
  refine wl_nil ?_
  refine pn_then ?_
  refine wc_ret ?_
  replace h := Option.some.inj h
  subst h
  refine pn_ret (vs := [_]) rfl ⟨rfl, trivial⟩ ⟨rfl, rfl, rfl⟩ (fun _ h => h.to trivial trivial)
def Q_cmp_Compare_uint64 (r : Int) : Value → List Ent → List Fact → Prop := fun v θ κ => v = .int .i64 r ∧ θ = [] ∧ κ = []
theorem plains_cmp_Compare_uint64 {r : Int} : ∀ v θ κ, Q_cmp_Compare_uint64 r v θ κ → Plains θ := by
  rintro _ _ _ ⟨rfl, rfl, rfl⟩
  exact trivial
set_option maxRecDepth 100000 in
theorem W_cmp_Compare_uint64 (a0 : Int) (a1 : Int) (r : Int) (h : cmp_Compare_uint64 a0 a1 = some r) : Spec Try.prog 62 [.int .u64 a0, .int .u64 a1] [] [] (Q_cmp_Compare_uint64 r) := by
  unfold cmp_Compare_uint64 at h
  refine spec_of (σ := [(0, _), (1, _)]) Try.func62 rfl rfl rfl rfl ?_
  intro C
  refine wc_seq ?_
  refine wc_region ?_   -- region 0
  refine wl_det rfl rfl (det_assign rfl) rfl ?_
  refine wl_nil ?_
  refine pn_then ?_
  refine wc_seq ?_
  refine wc_region ?_   -- region 1
  refine wl_det rfl rfl (det_move rfl) rfl ?_
  obtain ⟨r1_1, hr1_1, h⟩ := bind_some h
  refine wl_act (act_callS (cap := []) (W_cmp_isNaN_uint64 a0 r1_1 hr1_1) rfl rfl rfl bd69 rfl trivial) rfl rfl rfl ?_
  rintro _ _ _ ⟨_, _, ⟨rfl, rfl, rfl⟩, rfl, rfl⟩
  dsimp only [List.nil_append, List.cons_append]
  refine wl_det rfl rfl (det_assign rfl) rfl ?_
  refine wl_nil ?_
  refine pn_then ?_
  refine wc_seq ?_
  refine wc_region ?_   -- region 2
  refine wl_det rfl rfl (det_move rfl) rfl ?_
  obtain ⟨r2_1, hr2_1, h⟩ := bind_some h
  refine wl_act (act_callS (cap := []) (W_cmp_isNaN_uint64 a1 r2_1 hr2_1) rfl rfl rfl bd69 rfl trivial) rfl rfl rfl ?_
  rintro _ _ _ ⟨_, _, ⟨rfl, rfl, rfl⟩, rfl, rfl⟩
  dsimp only [List.nil_append, List.cons_append]
  refine wl_det rfl rfl (det_assign rfl) rfl ?_
  refine wl_nil ?_
  refine pn_then ?_
  refine wc_seq ?_
  refine wc_seq ?_
  refine wc_region ?_   -- region 3
  refine wl_det rfl rfl (det_move rfl) rfl ?_
  refine wl_nil ?_
  refine pn_then ?_
  refine wc_cond rfl (fun c9 => ?_) (fun c9 => ?_)
  · have h := ifT h c9
    refine wc_seq ?_
    refine wc_seq ?_
    refine wc_region ?_   -- region 4
    refine wl_det rfl rfl (det_move rfl) rfl ?_
    refine wl_nil ?_
    refine pn_then ?_
    refine wc_cond rfl (fun c13 => ?_) (fun c13 => ?_)
    · have h := ifT h c13
      refine wc_seq ?_
      refine wc_region ?_   -- region 5
      refine wl_det rfl rfl (det_assign rfl) rfl ?_
      refine wl_nil ?_
      refine pn_then ?_
      refine wc_ret ?_
      refine pr_then ?_
      refine pr_then ?_
      replace h := Option.some.inj h
      subst h
      refine pn_ret (vs := [_]) rfl ⟨rfl, trivial⟩ ⟨rfl, rfl, rfl⟩ (fun _ h => h.to trivial trivial)
    · have h := ifF h c13
      refine wc_skip ?_
      refine pn_then ?_
      refine wc_seq ?_
      refine wc_region ?_   -- region 6
      refine wl_det rfl rfl (det_assign rfl) rfl ?_
      refine wl_nil ?_
      refine pn_then ?_
      refine wc_ret ?_
      refine pr_then ?_
      replace h := Option.some.inj h
      subst h
      refine pn_ret (vs := [_]) rfl ⟨rfl, trivial⟩ ⟨rfl, rfl, rfl⟩ (fun _ h => h.to trivial trivial)
  · have h := ifF h c9
    refine wc_skip ?_
    refine pn_then ?_
    refine wc_seq ?_
    refine wc_seq ?_
    refine wc_region ?_   -- region 7
    refine wl_det rfl rfl (det_move rfl) rfl ?_
    refine wl_nil ?_
    refine pn_then ?_
    refine wc_cond rfl (fun c21 => ?_) (fun c21 => ?_)
    · have h := ifT h c21
      refine wc_seq ?_
      refine wc_region ?_   -- region 8
      refine wl_det rfl rfl (det_assign rfl) rfl ?_
      refine wl_nil ?_
      refine pn_then ?_
      refine wc_ret ?_
      refine pr_then ?_
      replace h := Option.some.inj h
      subst h
      refine pn_ret (vs := [_]) rfl ⟨rfl, trivial⟩ ⟨rfl, rfl, rfl⟩ (fun _ h => h.to trivial trivial)
    · have h := ifF h c21
      refine wc_skip ?_
      refine pn_then ?_
      refine wc_seq ?_
      refine wc_seq ?_
      refine wc_region ?_   -- region 9
      refine wl_det rfl rfl (det_move rfl) rfl ?_
      refine wl_det rfl rfl (det_move rfl) rfl ?_
      refine wl_det rfl rfl (det_lss rfl rfl) rfl ?_
      refine wl_nil ?_
      refine pn_then ?_
      refine wc_cond rfl (fun c27 => ?_) (fun c27 => ?_)
      · have h := ifT h c27
        refine wc_seq ?_
        refine wc_region ?_   -- region 10
        refine wl_det rfl rfl (det_assign rfl) rfl ?_
        refine wl_nil ?_
        refine pn_then ?_
        refine wc_ret ?_
        refine pr_then ?_
        replace h := Option.some.inj h
        subst h
        refine pn_ret (vs := [_]) rfl ⟨rfl, trivial⟩ ⟨rfl, rfl, rfl⟩ (fun _ h => h.to trivial trivial)
      · have h := ifF h c27
        refine wc_skip ?_
        refine pn_then ?_
        refine wc_seq ?_
        refine wc_seq ?_
        refine wc_region ?_   -- region 11
        refine wl_det rfl rfl (det_move rfl) rfl ?_
        refine wl_det rfl rfl (det_move rfl) rfl ?_
        refine wl_det rfl rfl (det_gtr rfl rfl) rfl ?_
        refine wl_nil ?_
        refine pn_then ?_
        refine wc_cond rfl (fun c33 => ?_) (fun c33 => ?_)
        · have h := ifT h c33
          refine wc_seq ?_
          refine wc_region ?_   -- region 12
          refine wl_det rfl rfl (det_assign rfl) rfl ?_
          refine wl_nil ?_
          refine pn_then ?_
          refine wc_ret ?_
          refine pr_then ?_
          replace h := Option.some.inj h
          subst h
          refine pn_ret (vs := [_]) rfl ⟨rfl, trivial⟩ ⟨rfl, rfl, rfl⟩ (fun _ h => h.to trivial trivial)
        · have h := ifF h c33
          refine wc_skip ?_
          refine pn_then ?_
          refine wc_seq ?_
          refine wc_region ?_   -- region 13
          refine wl_det rfl rfl (det_assign rfl) rfl ?_
          refine wl_nil ?_
          refine pn_then ?_
          refine wc_ret ?_
          replace h := Option.some.inj h
          subst h
          refine pn_ret (vs := [_]) rfl ⟨rfl, trivial⟩ ⟨rfl, rfl, rfl⟩ (fun _ h => h.to trivial trivial)
def Q_cmp_isNaN_int (r : Bool) : Value → List Ent → List Fact → Prop := fun v θ κ => v = .bool r ∧ θ = [] ∧ κ = []
theorem plains_cmp_isNaN_int {r : Bool} : ∀ v θ κ, Q_cmp_isNaN_int r v θ κ → Plains θ := by
  rintro _ _ _ ⟨rfl, rfl, rfl⟩
  exact trivial
set_option maxRecDepth 100000 in
theorem W_cmp_isNaN_int (a0 : Int) (r : Bool) (h : cmp_isNaN_int a0 = some r) : Spec Try.prog 70 [.int .i64 a0] [] [] (Q_cmp_isNaN_int r) := by
  unfold cmp_isNaN_int at h
  refine spec_of (σ := [(0, _)]) Try.func70 rfl rfl rfl rfl ?_
  intro C
  refine wc_seq ?_
  refine wc_region ?_   -- region 0
  refine wl_det rfl rfl (det_assign rfl) rfl ?_
  refine wl_nil ?_
  refine pn_then ?_
  refine wc_seq ?_
  refine wc_region ?_   -- region 1
  refine wl_det rfl rfl (det_move rfl) rfl ?_
  refine wl_det rfl rfl (det_move rfl) rfl ?_
  refine wl_det rfl rfl (det_neq rfl rfl) rfl ?_
  refine wl_det rfl rfl (det_assign rfl) rfl ?_
  refine wl_nil ?_
  refine pn_then ?_
  refine wc_ret ?_
  replace h := Option.some.inj h
  subst h
  refine pn_ret (vs := [_]) rfl ⟨rfl, trivial⟩ ⟨rfl, rfl, rfl⟩ (fun _ h => h.to trivial trivial)
def Q_cmp_Compare_int (r : Int) : Value → List Ent → List Fact → Prop := fun v θ κ => v = .int .i64 r ∧ θ = [] ∧ κ = []
theorem plains_cmp_Compare_int {r : Int} : ∀ v θ κ, Q_cmp_Compare_int r v θ κ → Plains θ := by
  rintro _ _ _ ⟨rfl, rfl, rfl⟩
  exact trivial
set_option maxRecDepth 100000 in
theorem W_cmp_Compare_int (a0 : Int) (a1 : Int) (r : Int) (h : cmp_Compare_int a0 a1 = some r) : Spec Try.prog 63 [.int .i64 a0, .int .i64 a1] [] [] (Q_cmp_Compare_int r) := by
  unfold cmp_Compare_int at h
  refine spec_of (σ := [(0, _), (1, _)]) Try.func63 rfl rfl rfl rfl ?_
  intro C
  refine wc_seq ?_
  refine wc_region ?_   -- region 0
  refine wl_det rfl rfl (det_assign rfl) rfl ?_
  refine wl_nil ?_
  refine pn_then ?_
  refine wc_seq ?_
  refine wc_region ?_   -- region 1
  refine wl_det rfl rfl (det_move rfl) rfl ?_
  obtain ⟨r1_1, hr1_1, h⟩ := bind_some h
  refine wl_act (act_callS (cap := []) (W_cmp_isNaN_int a0 r1_1 hr1_1) rfl rfl rfl bd70 rfl trivial) rfl rfl rfl ?_
  rintro _ _ _ ⟨_, _, ⟨rfl, rfl, rfl⟩, rfl, rfl⟩
  dsimp only [List.nil_append, List.cons_append]
  refine wl_det rfl rfl (det_assign rfl) rfl ?_
  refine wl_nil ?_
  refine pn_then ?_
  refine wc_seq ?_
  refine wc_region ?_   -- region 2
  refine wl_det rfl rfl (det_move rfl) rfl ?_
  obtain ⟨r2_1, hr2_1, h⟩ := bind_some h
  refine wl_act (act_callS (cap := []) (W_cmp_isNaN_int a1 r2_1 hr2_1) rfl rfl rfl bd70 rfl trivial) rfl rfl rfl ?_
  rintro _ _ _ ⟨_, _, ⟨rfl, rfl, rfl⟩, rfl, rfl⟩
  dsimp only [List.nil_append, List.cons_append]
  refine wl_det rfl rfl (det_assign rfl) rfl ?_
  refine wl_nil ?_
  refine pn_then ?_
  refine wc_seq ?_
  refine wc_seq ?_
  refine wc_region ?_   -- region 3
  refine wl_det rfl rfl (det_move rfl) rfl ?_
  refine wl_nil ?_
  refine pn_then ?_
  refine wc_cond rfl (fun c9 => ?_) (fun c9 => ?_)
  · have h := ifT h c9
    refine wc_seq ?_
    refine wc_seq ?_
    refine wc_region ?_   -- region 4
    refine wl_det rfl rfl (det_move rfl) rfl ?_
    refine wl_nil ?_
    refine pn_then ?_
    refine wc_cond rfl (fun c13 => ?_) (fun c13 => ?_)
    · have h := ifT h c13
      refine wc_seq ?_
      refine wc_region ?_   -- region 5
      refine wl_det rfl rfl (det_assign rfl) rfl ?_
      refine wl_nil ?_
      refine pn_then ?_
      refine wc_ret ?_
      refine pr_then ?_
      refine pr_then ?_
      replace h := Option.some.inj h
      subst h
      refine pn_ret (vs := [_]) rfl ⟨rfl, trivial⟩ ⟨rfl, rfl, rfl⟩ (fun _ h => h.to trivial trivial)
    · have h := ifF h c13
      refine wc_skip ?_
      refine pn_then ?_
      refine wc_seq ?_
      refine wc_region ?_   -- region 6
      refine wl_det rfl rfl (det_assign rfl) rfl ?_
      refine wl_nil ?_
      refine pn_then ?_
      refine wc_ret ?_
      refine pr_then ?_
      replace h := Option.some.inj h
      subst h
      refine pn_ret (vs := [_]) rfl ⟨rfl, trivial⟩ ⟨rfl, rfl, rfl⟩ (fun _ h => h.to trivial trivial)
  · have h := ifF h c9
    refine wc_skip ?_
    refine pn_then ?_
    refine wc_seq ?_
    refine wc_seq ?_
    refine wc_region ?_   -- region 7
    refine wl_det rfl rfl (det_move rfl) rfl ?_
    refine wl_nil ?_
    refine pn_then ?_
    refine wc_cond rfl (fun c21 => ?_) (fun c21 => ?_)
    · have h := ifT h c21
      refine wc_seq ?_
      refine wc_region ?_   -- region 8
      refine wl_det rfl rfl (det_assign rfl) rfl ?_
      refine wl_nil ?_
      refine pn_then ?_
      refine wc_ret ?_
      refine pr_then ?_
      replace h := Option.some.inj h
      subst h
      refine pn_ret (vs := [_]) rfl ⟨rfl, trivial⟩ ⟨rfl, rfl, rfl⟩ (fun _ h => h.to trivial trivial)
    · have h := ifF h c21
      refine wc_skip ?_
      refine pn_then ?_
      refine wc_seq ?_
      refine wc_seq ?_
      refine wc_region ?_   -- region 9
      refine wl_det rfl rfl (det_move rfl) rfl ?_
      refine wl_det rfl rfl (det_move rfl) rfl ?_
      refine wl_det rfl rfl (det_lss rfl rfl) rfl ?_
      refine wl_nil ?_
      refine pn_then ?_
      refine wc_cond rfl (fun c27 => ?_) (fun c27 => ?_)
      · have h := ifT h c27
        refine wc_seq ?_
        refine wc_region ?_   -- region 10
        refine wl_det rfl rfl (det_assign rfl) rfl ?_
        refine wl_nil ?_
        refine pn_then ?_
        refine wc_ret ?_
        refine pr_then ?_
        replace h := Option.some.inj h
        subst h
        refine pn_ret (vs := [_]) rfl ⟨rfl, trivial⟩ ⟨rfl, rfl, rfl⟩ (fun _ h => h.to trivial trivial)
      · have h := ifF h c27
        refine wc_skip ?_
        refine pn_then ?_
        refine wc_seq ?_
        refine wc_seq ?_
        refine wc_region ?_   -- region 11
        refine wl_det rfl rfl (det_move rfl) rfl ?_
        refine wl_det rfl rfl (det_move rfl) rfl ?_
        refine wl_det rfl rfl (det_gtr rfl rfl) rfl ?_
        refine wl_nil ?_
        refine pn_then ?_
        refine wc_cond rfl (fun c33 => ?_) (fun c33 => ?_)
        · have h := ifT h c33
          refine wc_seq ?_
          refine wc_region ?_   -- region 12
          refine wl_det rfl rfl (det_assign rfl) rfl ?_
          refine wl_nil ?_
          refine pn_then ?_
          refine wc_ret ?_
          refine pr_then ?_
          replace h := Option.some.inj h
          subst h
          refine pn_ret (vs := [_]) rfl ⟨rfl, trivial⟩ ⟨rfl, rfl, rfl⟩ (fun _ h => h.to trivial trivial)
        · have h := ifF h c33
          refine wc_skip ?_
          refine pn_then ?_
          refine wc_seq ?_
          refine wc_region ?_   -- region 13
          refine wl_det rfl rfl (det_assign rfl) rfl ?_
          refine wl_nil ?_
          refine pn_then ?_
          refine wc_ret ?_
          replace h := Option.some.inj h
          subst h
          refine pn_ret (vs := [_]) rfl ⟨rfl, trivial⟩ ⟨rfl, rfl, rfl⟩ (fun _ h => h.to trivial trivial)
def Q_cmp_Or_int (r : Int) : Value → List Ent → List Fact → Prop := fun v θ κ => v = .int .i64 r ∧ θ = [] ∧ κ = []
theorem plains_cmp_Or_int {r : Int} : ∀ v θ κ, Q_cmp_Or_int r v θ κ → Plains θ := by
  rintro _ _ _ ⟨rfl, rfl, rfl⟩
  exact trivial
set_option maxRecDepth 100000 in
theorem W_cmp_Or_int (a0 : (List Int)) (A0 : Option Addr) (n0 : Nat) (c0 : Nat) (r : Int) (h : cmp_Or_int a0 = some r) : Spec Try.prog 61 [.slice A0 n0 c0] [] [fV (lSlice (lInt .i64)) (.slice A0 n0 c0) a0] (Q_cmp_Or_int r) := by
  unfold cmp_Or_int at h
  refine spec_of (σ := [(0, _)]) Try.func61 rfl rfl rfl rfl ?_
  intro C
  refine wc_know (fun _ h => h.lenF m0) (fun e => ?_)
  subst e
  refine wc_seq ?_
  refine wc_region ?_   -- region 0
  refine wl_det rfl rfl (det_assign rfl) rfl ?_
  refine wl_nil ?_
  refine pn_then ?_
  refine wc_seq ?_
  refine wc_region ?_   -- region 1
  refine wl_det rfl rfl (det_assign rfl) rfl ?_
  refine wl_nil ?_
  refine pn_then ?_
  obtain ⟨q4, h, ho4⟩ := bind_some h
  refine wc_meetG (G := Unit × Unit) (fun (s4, _) => (.inl s4) = q4) (fun (_, _) => [(3, .int .i64 0)]) (fun (_, _) => []) (fun (_, _) => []) ?_ ?_
  · refine wc_seq ?_
    refine wc_region ?_   -- region 2
    refine wl_det rfl rfl (det_move rfl) rfl ?_
    refine wl_det rfl rfl (det_len rfl un22) rfl ?_
    refine wl_det rfl rfl (det_move rfl) rfl ?_
    refine wl_nil ?_
    refine pn_then ?_
    refine wc_block ?_
    obtain ⟨o8, h, ho8⟩ := bind_some h
    obtain ⟨k8, hk8⟩ := loopV_some.1 h
    refine wc_loop (G := Nat × Int × Unit) (fun g => IterN (cmp_Or_int_l8 a0) g.1 g.2.1 o8) (fun g => g.1) (fun (_, s8, _) => [(3, .int .i64 0), (6, .slice A0 a0.length c0), (7, .int .i64 (a0.length : Int)), (8, .int .i64 s8)]) (fun (_, _, _) => []) (fun (_, _, _) => [fV (lSlice (lInt .i64)) (.slice A0 a0.length c0) a0]) (k8, 0, ()) hk8 ⟨rfl, rfl, rfl, rfl, trivial⟩ (fun _ h => h.to trivial ⟨m0, trivial⟩) ?_
    rintro ⟨k8, s8, _⟩ hI
    obtain ⟨k8, rfl, q8, h, g8⟩ := IterN.pos hI
    dsimp only at h ⊢
    unfold cmp_Or_int_l8 at h
    refine wc_seq ?_
    refine wc_region ?_   -- region 3
    refine wl_det rfl rfl (det_lss rfl rfl) rfl ?_
    refine wl_nil ?_
    refine pn_then ?_
    refine wc_seq ?_
    refine wc_cond rfl (fun c12 => ?_) (fun c12 => ?_)
    · have h := ifT h c12
      refine wc_skip ?_
      refine pn_then ?_
      refine wc_seq ?_
      refine wc_block ?_
      refine wc_seq ?_
      refine wc_region ?_   -- region 4
      obtain ⟨k4_0, h⟩ := chk_some h
      refine wl_st (fun _ h => h.openF m0 k4_0) ?_
      refine wl_det rfl rfl (det_indexP rfl rfl (ms m0) k4_0 m0 un22 sz3) rfl ?_
      refine wl_det rfl rfl (det_loadP (off := 0) rfl m0 (by rfl) (by rfl) (loaded_1 na3 us3)) rfl ?_
      refine wl_det rfl rfl (det_assign rfl) rfl ?_
      refine wl_nil ?_
      refine pn_then ?_
      refine wc_seq ?_
      refine wc_region ?_   -- region 5
      refine wl_det rfl rfl (det_move rfl) rfl ?_
      refine wl_det rfl rfl (det_move rfl) rfl ?_
      refine wl_det rfl rfl (det_neq rfl rfl) rfl ?_
      refine wl_nil ?_
      refine pn_then ?_
      refine wc_cond rfl (fun c20 => ?_) (fun c20 => ?_)
      · have h := ifT h c20
        refine wc_seq ?_
        refine wc_region ?_   -- region 6
        refine wl_det rfl rfl (det_move rfl) rfl ?_
        refine wl_det rfl rfl (det_assign rfl) rfl ?_
        refine wl_nil ?_
        refine pn_then ?_
        refine wc_ret ?_
        refine pr_block ?_
        refine pr_then ?_
        refine pr_then ?_
        refine pr_block ?_
        refine pr_then ?_
        replace h := Option.some.inj h
        subst h
        replace g8 := nextR g8
        subst g8
        have h := (elimL ho8)
        replace h := Option.some.inj h
        subst h
        have h := (elimR ho4)
        replace h := Option.some.inj h
        subst h
        refine pn_ret (vs := [_]) rfl ⟨rfl, trivial⟩ ⟨rfl, rfl, rfl⟩ (fun _ h => h.to trivial trivial)
      · have h := ifF h c20
        refine wc_skip ?_
        refine pn_block ?_
        refine pn_then ?_
        refine wc_region ?_   -- region 7
        refine wl_det rfl rfl (det_add rfl rfl) rfl ?_
        refine wl_det rfl rfl (det_move rfl) rfl ?_
        refine wl_nil ?_
        replace h := Option.some.inj h
        subst h
        exact pn_some (k8, (w64 (s8 + 1)), ()) ⟨nextL g8, Nat.lt_succ_self _⟩ ⟨rfl, rfl, rfl, rfl, trivial⟩ (fun _ h => h.to trivial ⟨(ms m0), trivial⟩)
    · have h := ifF h c12
      refine wc_exit ?_
      refine px_then ?_
      refine px_then ?_
      refine px_block ?_
      replace h := Option.some.inj h
      subst h
      replace g8 := nextR g8
      subst g8
      have h := (elimR ho8)
      replace h := Option.some.inj h
      subst h
      exact pn_meetG ((), ()) rfl ⟨rfl, trivial⟩ (fun _ h => h.to trivial trivial)
  rintro ⟨s4, _⟩ e4
  dsimp only at e4 ⊢
  subst e4
  have h := (elimL ho4)
  refine wc_seq ?_
  refine wc_region ?_   -- region 8
  refine wl_det rfl rfl (det_move rfl) rfl ?_
  refine wl_det rfl rfl (det_assign rfl) rfl ?_
  refine wl_nil ?_
  refine pn_then ?_
  refine wc_ret ?_
  replace h := Option.some.inj h
  subst h
  refine pn_ret (vs := [_]) rfl ⟨rfl, trivial⟩ ⟨rfl, rfl, rfl⟩ (fun _ h => h.to trivial trivial)
def Q_split_divide_c1 (Ba2 : Nat) (A1 : Option Addr) (n1 : Nat) (c1 : Nat) (r : Int) : Value → List Ent → List Fact → Prop := fun v θ κ => v = .int .i64 r ∧ θ = [eBlk Ba2 77 [.slice A1 n1 c1]] ∧ κ = []
theorem plains_split_divide_c1 {Ba2 : Nat} {A1 : Option Addr} {n1 : Nat} {c1 : Nat} {r : Int} : ∀ v θ κ, Q_split_divide_c1 Ba2 A1 n1 c1 r v θ κ → Plains θ := by
  rintro _ _ _ ⟨rfl, rfl, rfl⟩
  exact ⟨plain_eBlk, trivial⟩
set_option maxRecDepth 100000 in
theorem W_split_divide_c1 (a0 : Int) (a1 : Int) (a2 : (List Int)) (Ba2 : Nat) (A1 : Option Addr) (n1 : Nat) (c1 : Nat) (r : Int) (h : split_divide_c1 a0 a1 a2 = some r) : Spec Try.prog 60 [.int .i64 a0, .int .i64 a1, .pointer (some ⟨Ba2, 0, none⟩)] [eBlk Ba2 77 [.slice A1 n1 c1]] [fV (lSlice (lInt .u64)) (.slice A1 n1 c1) a2] (Q_split_divide_c1 Ba2 A1 n1 c1 r) := by
  unfold split_divide_c1 at h
  refine spec_of (σ := [(0, _), (1, _), (2, _)]) Try.func60 rfl rfl rfl rfl ?_
  intro C
  refine wc_know (fun _ h => h.lenF m0) (fun e => ?_)
  subst e
  refine wc_seq ?_
  refine wc_region ?_   -- region 0
  refine wl_det rfl rfl (det_assign rfl) rfl ?_
  refine wl_nil ?_
  refine pn_then ?_
  refine wc_seq ?_
  obtain ⟨k1_p1, h⟩ := chk_some h
  refine wc_st (fun _ h => h.openF m0 k1_p1) ?_
  obtain ⟨k1_p3, h⟩ := chk_some h
  refine wc_st (fun _ h => h.openF (ms m0) k1_p3) ?_
  refine dx_region 14 [[], [], [0, 1], [0, 1, 2], [], [], [4, 5], [4, 5, 6], [0, 1, 2, 3, 4, 5, 6, 7], [], [], [0, 1, 2, 3, 4, 5, 6, 7, 8, 9, 10], [0, 1, 2, 3, 4, 5, 6, 7, 8, 9, 10, 11], [0, 1, 2, 3, 4, 5, 6, 7, 8, 9, 10, 11, 12], [0, 1, 2, 3, 4, 5, 6, 7, 8, 9, 10, 11, 12, 13]] mixed (ord := (.det 0 (.det 1 (.det 2 (.det 3 (.det 4 (.det 5 (.det 6 (.det 7 (.det 9 (.det 10 (.alt 8 (.alt 11 (.alt 12 (.alt 13 .done .dead) .dead) .dead) .dead)))))))))))) (by kernel_rfl) ?_   -- region 1
  refine hx_det rfl rfl rfl nofun (det_load rfl m0 (by rfl) na77 us77) rfl ?_
  refine hx_det rfl rfl rfl nofun (det_move rfl) rfl ?_
  refine hx_det rfl rfl rfl nofun (det_indexP rfl rfl (ms (ms m0)) k1_p1 (ms m0) un77 sz78) rfl ?_
  refine hx_det rfl rfl rfl nofun (det_loadP (off := 0) rfl (ms m0) (by rfl) (by rfl) (loaded_1 na78 us78)) rfl ?_
  refine hx_det rfl rfl rfl nofun (det_load rfl m0 (by rfl) na77 us77) rfl ?_
  refine hx_det rfl rfl rfl nofun (det_move rfl) rfl ?_
  refine hx_det rfl rfl rfl nofun (det_indexP rfl rfl (ms (ms m0)) k1_p3 m0 un77 sz78) rfl ?_
  refine hx_det rfl rfl rfl nofun (det_loadP (off := 0) rfl m0 (by rfl) (by rfl) (loaded_1 na78 us78)) rfl ?_
  refine hx_det rfl rfl rfl nofun (det_move rfl) rfl ?_
  refine hx_det rfl rfl rfl nofun (det_move rfl) rfl ?_
  obtain ⟨r1_8, hr1_8, h⟩ := bind_some h
  refine hx_act rfl rfl rfl (act_callS (cap := []) (W_cmp_Compare_uint64 (ix a2 a1) (ix a2 a0) r1_8 hr1_8) rfl rfl rfl bd62 rfl trivial) rfl (by rintro _ _ _ ⟨_, _, _, rfl, rfl⟩; first | exact ⟨_, _, rfl, rfl⟩ | exact ⟨_, [], rfl, rfl⟩) ?_
  rintro _ _ _ ⟨_, _, ⟨rfl, rfl, rfl⟩, rfl, rfl⟩
  dsimp only [List.nil_append, List.cons_append]
  obtain ⟨r1_11, hr1_11, h⟩ := bind_some h
  refine hx_act rfl rfl rfl (act_callS (cap := []) (W_cmp_Compare_int a0 a1 r1_11 hr1_11) rfl rfl rfl bd63 rfl trivial) rfl (by rintro _ _ _ ⟨_, _, _, rfl, rfl⟩; first | exact ⟨_, _, rfl, rfl⟩ | exact ⟨_, [], rfl, rfl⟩) ?_
  rintro _ _ _ ⟨_, _, ⟨rfl, rfl, rfl⟩, rfl, rfl⟩
  dsimp only [List.nil_append, List.cons_append]
  refine hx_act rfl rfl rfl (act_litS (lInt .i64) (vs := [_, _]) (cs := [_, _]) [r1_8, r1_11] un22 in3 rfl rfl rfl rfl rfl ⟨rfl, rfl, trivial⟩ (by rfl) rfl (litR_flat rfl)) rfl (by rintro _ _ _ ⟨A1_12, rfl, rfl, rfl⟩; first | exact ⟨_ :: [], [], rfl, rfl⟩ | exact ⟨[], [_], rfl, rfl⟩ | exact ⟨[], [], rfl, rfl⟩) ?_
  rintro _ _ _ ⟨A1_12, rfl, rfl, rfl⟩
  obtain ⟨r1_13, hr1_13, h⟩ := bind_some h
  refine hx_act rfl rfl rfl (act_callL (cap := []) [eS (lInt .i64) 3 A1_12 2 2 [r1_8, r1_11]] (W_cmp_Or_int [r1_8, r1_11] A1_12 2 2 r1_13 hr1_13) plains_cmp_Or_int rfl rfl rfl bd61 rfl ⟨m0, trivial⟩ ⟨.inr ⟨_, m0, lent_eS⟩, trivial⟩) rfl (by rintro _ _ _ ⟨_, _, _, rfl, rfl⟩; first | exact ⟨_, _, rfl, rfl⟩ | exact ⟨_, [], rfl, rfl⟩) ?_
  rintro _ _ _ ⟨_, _, ⟨rfl, rfl, rfl⟩, rfl, rfl⟩
  dsimp only [List.nil_append, List.cons_append]
  refine hx_end ?_
  refine wl_det rfl rfl (det_assign rfl) rfl ?_
  refine wl_nil ?_
  refine pn_then ?_
  refine wc_ret ?_
  replace h := Option.some.inj h
  subst h
  refine pn_ret (vs := [_]) rfl ⟨rfl, trivial⟩ ⟨rfl, rfl, rfl⟩ (fun _ h => h.to ⟨_, (rs r0), trivial⟩ trivial)
def Q_slices_SortFunc_s_int_int_o_split_divide_c1 (A0 : Option Addr) (n0 : Nat) (c0 : Nat) (Ba1_0 : Nat) (A4 : Option Addr) (n4 : Nat) (c4 : Nat) (r : (List Int)) : Value → List Ent → List Fact → Prop := fun v θ κ => v = .tuple #[] ∧ θ = [eS (lInt .i64) 3 A0 n0 c0 r, eBlk Ba1_0 77 [.slice A4 n4 c4]] ∧ κ = []
theorem plains_slices_SortFunc_s_int_int_o_split_divide_c1 {A0 : Option Addr} {n0 : Nat} {c0 : Nat} {Ba1_0 : Nat} {A4 : Option Addr} {n4 : Nat} {c4 : Nat} {r : (List Int)} : ∀ v θ κ, Q_slices_SortFunc_s_int_int_o_split_divide_c1 A0 n0 c0 Ba1_0 A4 n4 c4 r v θ κ → Plains θ := by
  rintro _ _ _ ⟨rfl, rfl, rfl⟩
  exact ⟨plain_eS, plain_eBlk, trivial⟩
theorem W_slices_SortFunc_s_int_int_o_split_divide_c1 (a0 : (List Int)) (a1_0 : (List Int)) (A0 : Option Addr) (n0 : Nat) (c0 : Nat) (Ba1_0 : Nat) (A4 : Option Addr) (n4 : Nat) (c4 : Nat) (r : (List Int)) (h : slices_SortFunc_s_int_int_o_split_divide_c1 a0 a1_0 = some r) : Spec Try.prog 64 [.slice A0 n0 c0, .func (.func 60) #[] #[.pointer (some ⟨Ba1_0, 0, none⟩)]] [eS (lInt .i64) 3 A0 n0 c0 a0, eBlk Ba1_0 77 [.slice A4 n4 c4]] [fV (lSlice (lInt .u64)) (.slice A4 n4 c4) a1_0] (Q_slices_SortFunc_s_int_int_o_split_divide_c1 A0 n0 c0 Ba1_0 A4 n4 c4 r) :=
  spec_sort1 (ρ := Try.sort64_ren) Try.sort64 rfl (fun _ => rfl) (cap := [.pointer (some ⟨Ba1_0, 0, none⟩)]) (θ₀ := [eBlk Ba1_0 77 [.slice A4 n4 c4]]) bd60 ⟨⟨_, _, _, rfl⟩, trivial⟩ (fun x y r h => W_split_divide_c1 x y a1_0 Ba1_0 A4 n4 c4 r h) h A0 n0 c0
def Q_split_divide (r : (List Int)) : Value → List Ent → List Fact → Prop := fun v θ κ => ∃ (pA0 : Option Addr), ∃ (pn0 : Nat), ∃ (pc0 : Nat), v = .slice pA0 pn0 pc0 ∧ θ = [eS (lInt .i64) 3 pA0 pn0 pc0 r] ∧ κ = []
theorem plains_split_divide {r : (List Int)} : ∀ v θ κ, Q_split_divide r v θ κ → Plains θ := by
  rintro _ _ _ ⟨_, _, _, rfl, rfl, rfl⟩
  exact ⟨plain_eS, trivial⟩
set_option maxRecDepth 100000 in
theorem W_split_divide (a0 : Int) (a1 : (List Int)) (a2 : Int) (A0 : Option Addr) (n0 : Nat) (c0 : Nat) (r : (List Int)) (h : split_divide a0 a1 a2 = some r) : Spec Try.prog 54 [.int .i64 a0, .slice A0 n0 c0, .int .i64 a2] [] [fV (lSlice (lInt .i64)) (.slice A0 n0 c0) a1] (Q_split_divide r) := by
  unfold split_divide at h
  refine spec_of (σ := [(0, _), (1, _), (2, _)]) Try.func54 rfl rfl rfl rfl ?_
  intro C
  refine wc_know (fun _ h => h.lenF m0) (fun e => ?_)
  subst e
  refine wc_seq ?_
  refine wc_region ?_   -- region 0
  refine wl_det rfl rfl (det_assign rfl) rfl ?_
  refine wl_nil ?_
  refine pn_then ?_
  refine wc_seq ?_
  refine wc_region ?_   -- region 1
  refine wl_det rfl rfl (det_move rfl) rfl ?_
  refine wl_det rfl rfl (det_len rfl un22) rfl ?_
  obtain ⟨k1_2, h⟩ := chk_some h
  obtain ⟨k1_2a, h⟩ := chk_some h
  refine wl_act (act_makeS (L := (lInt .i64)) (x0 := (0 : Int)) rfl rfl un22 in3 (by refine ⟨rfl, fun _ _ => ?_⟩; first | exact rfl | exact ⟨_, _, _, rfl, rfl, Nat.zero_le _, .inl rfl⟩) rfl rfl k1_2 (decide_eq_true (Int.le_refl _)) k1_2a) rfl rfl rfl ?_
  rintro _ _ _ ⟨A1_2, c1_2, rfl, rfl, rfl⟩
  refine wl_det rfl rfl (det_assign rfl) rfl ?_
  refine wl_nil ?_
  refine pn_then ?_
  refine wc_seq ?_
  refine wc_region ?_   -- region 2
  refine wl_det rfl rfl (det_move rfl) rfl ?_
  refine wl_det rfl rfl (det_len rfl un22) rfl ?_
  refine wl_act (act_makeS (L := (lInt .u64)) (x0 := (0 : Int)) rfl rfl un77 in78 (by refine ⟨rfl, fun _ _ => ?_⟩; first | exact rfl | exact ⟨_, _, _, rfl, rfl, Nat.zero_le _, .inl rfl⟩) rfl rfl k1_2 (decide_eq_true (Int.le_refl _)) k1_2a) rfl rfl rfl ?_
  rintro _ _ _ ⟨A2_2, c2_2, rfl, rfl, rfl⟩
  refine wl_act (act_alloc (cs := [_]) zr77 rfl) rfl rfl rfl ?_
  rintro _ _ _ ⟨b2_3, rfl, rfl, rfl⟩
  refine wl_act0 (act_store (cells := [_]) (cs' := [_]) rfl rfl rfl s0 (by rfl) (of_decide_eq_true rfl) sz77 ⟨rfl, trivial⟩) rfl rfl ?_
  rintro _ _ _ ⟨rfl, rfl⟩
  refine wl_nil ?_
  refine pn_then ?_
  refine wc_seq ?_
  refine wc_region ?_   -- region 3
  refine wl_det rfl rfl (det_move rfl) rfl ?_
  refine wl_det rfl rfl (det_len rfl un22) rfl ?_
  refine wl_act (act_makeS (L := (lInt .i64)) (x0 := (0 : Int)) rfl rfl un22 in3 (by refine ⟨rfl, fun _ _ => ?_⟩; first | exact rfl | exact ⟨_, _, _, rfl, rfl, Nat.zero_le _, .inl rfl⟩) rfl rfl k1_2 (decide_eq_true (Int.le_refl _)) k1_2a) rfl rfl rfl ?_
  rintro _ _ _ ⟨A3_2, c3_2, rfl, rfl, rfl⟩
  refine wl_det rfl rfl (det_assign rfl) rfl ?_
  refine wl_nil ?_
  refine pn_then ?_
  refine wc_seq ?_
  refine wc_region ?_   -- region 4
  refine wl_det rfl rfl (det_move rfl) rfl ?_
  refine wl_det rfl rfl (det_assign rfl) rfl ?_
  refine wl_nil ?_
  refine pn_then ?_
  obtain ⟨q10, h, ho10⟩ := bind_some h
  refine wc_meetG (G := ((List Int) × (List Int) × (List Int) × Int) × Unit) (fun (s10, _) => s10 = q10) (fun (s10, _) => [(7, .slice A1_2 (List.replicate (a1.length : Int).toNat (0 : Int)).length c1_2), (8, .pointer (some ⟨b2_3, 0, none⟩)), (9, .slice A3_2 (List.replicate (a1.length : Int).toNat (0 : Int)).length c3_2), (10, .int .i64 s10.2.2.2)]) (fun (s10, _) => [eS (lInt .i64) 3 A1_2 (List.replicate (a1.length : Int).toNat (0 : Int)).length c1_2 s10.1, eBlk b2_3 77 [.slice A2_2 (List.replicate (a1.length : Int).toNat (0 : Int)).length c2_2], eS (lInt .u64) 78 A2_2 (List.replicate (a1.length : Int).toNat (0 : Int)).length c2_2 s10.2.1, eS (lInt .i64) 3 A3_2 (List.replicate (a1.length : Int).toNat (0 : Int)).length c3_2 s10.2.2.1]) (fun (_, _) => []) ?_ ?_
  · refine wc_seq ?_
    refine wc_region ?_   -- region 5
    refine wl_det rfl rfl (det_move rfl) rfl ?_
    refine wl_det rfl rfl (det_len rfl un22) rfl ?_
    refine wl_det rfl rfl (det_move rfl) rfl ?_
    refine wl_nil ?_
    refine pn_then ?_
    refine wc_block ?_
    obtain ⟨k14, hk14⟩ := loopV_some.1 h
    refine wc_loop (G := Nat × ((List Int) × (List Int) × (List Int) × Int × Int) × Unit) (fun g => IterN (split_divide_l14 a0 a1 a2) g.1 g.2.1 q10) (fun g => g.1) (fun (_, s14, _) => [(0, .int .i64 a0), (2, .int .i64 a2), (7, .slice A1_2 (List.replicate (a1.length : Int).toNat (0 : Int)).length c1_2), (8, .pointer (some ⟨b2_3, 0, none⟩)), (9, .slice A3_2 (List.replicate (a1.length : Int).toNat (0 : Int)).length c3_2), (10, .int .i64 s14.2.2.2.1), (30, .slice A0 a1.length c0), (31, .int .i64 (a1.length : Int)), (32, .int .i64 s14.2.2.2.2)]) (fun (_, s14, _) => [eS (lInt .i64) 3 A1_2 (List.replicate (a1.length : Int).toNat (0 : Int)).length c1_2 s14.1, eBlk b2_3 77 [.slice A2_2 (List.replicate (a1.length : Int).toNat (0 : Int)).length c2_2], eS (lInt .u64) 78 A2_2 (List.replicate (a1.length : Int).toNat (0 : Int)).length c2_2 s14.2.1, eS (lInt .i64) 3 A3_2 (List.replicate (a1.length : Int).toNat (0 : Int)).length c3_2 s14.2.2.1]) (fun (_, _, _) => [fV (lSlice (lInt .i64)) (.slice A0 a1.length c0) a1]) (k14, ((List.replicate (a1.length : Int).toNat (0 : Int)), (List.replicate (a1.length : Int).toNat (0 : Int)), (List.replicate (a1.length : Int).toNat (0 : Int)), a0, 0), ()) hk14 ⟨rfl, rfl, rfl, rfl, rfl, rfl, rfl, rfl, rfl, trivial⟩ (fun _ h => h.to ⟨_, (rs (rs (rs r0))), ⟨_, (rs r0), ⟨_, (rs r0), ⟨_, r0, trivial⟩⟩⟩⟩ ⟨m0, trivial⟩) ?_
    rintro ⟨k14, s14, _⟩ hI
    obtain ⟨k14, rfl, q14, h, g14⟩ := IterN.pos hI
    dsimp only at h ⊢
    unfold split_divide_l14 at h
    refine wc_seq ?_
    refine wc_region ?_   -- region 6
    refine wl_det rfl rfl (det_lss rfl rfl) rfl ?_
    refine wl_nil ?_
    refine pn_then ?_
    refine wc_seq ?_
    refine wc_cond rfl (fun c18 => ?_) (fun c18 => ?_)
    · have h := ifT h c18
      refine wc_skip ?_
      refine pn_then ?_
      refine wc_seq ?_
      refine wc_block ?_
      refine wc_seq ?_
      refine wc_region ?_   -- region 7
      refine wl_det rfl rfl (det_move rfl) rfl ?_
      obtain ⟨k7_1, h⟩ := chk_some h
      refine wl_st (fun _ h => h.openF m0 k7_1) ?_
      refine wl_det rfl rfl (det_indexP rfl rfl (ms m0) k7_1 m0 un22 sz3) rfl ?_
      refine wl_det rfl rfl (det_loadP (off := 0) rfl m0 (by rfl) (by rfl) (loaded_1 na3 us3)) rfl ?_
      refine wl_det rfl rfl (det_assign rfl) rfl ?_
      refine wl_det rfl rfl (det_assign rfl) rfl ?_
      refine wl_nil ?_
      refine pn_then ?_
      refine wc_seq ?_
      refine wc_region ?_   -- region 8
      refine wl_det rfl rfl (det_move rfl) rfl ?_
      refine wl_det rfl rfl (det_conv rfl us3 un78) rfl ?_
      refine wl_det rfl rfl (det_move rfl) rfl ?_
      refine wl_det rfl rfl (det_conv rfl us3 un78) rfl ?_
      obtain ⟨r8_4, hr8_4, h⟩ := bind_some h
      refine wl_act (act_callS (cap := []) (W_bits_Mul64 (u64 a0) (u64 (ix a1 s14.2.2.2.2)) r8_4 hr8_4) rfl rfl rfl bd58 rfl trivial) rfl rfl rfl ?_
      rintro _ _ _ ⟨_, _, ⟨rfl, rfl, rfl⟩, rfl, rfl⟩
      dsimp only [List.nil_append, List.cons_append]
      refine wl_det rfl rfl (det_move rfl) rfl ?_
      refine wl_det rfl rfl (det_extract rfl rfl) rfl ?_
      refine wl_det rfl rfl (det_extract rfl rfl) rfl ?_
      refine wl_det rfl rfl (det_assign rfl) rfl ?_
      refine wl_det rfl rfl (det_assign rfl) rfl ?_
      refine wl_nil ?_
      refine pn_then ?_
      refine wc_seq ?_
      refine wc_region ?_   -- region 9
      refine wl_det rfl rfl (det_move rfl) rfl ?_
      refine wl_det rfl rfl (det_move rfl) rfl ?_
      refine wl_det rfl rfl (det_move rfl) rfl ?_
      refine wl_det rfl rfl (det_conv rfl us3 un78) rfl ?_
      obtain ⟨r9_4, hr9_4, h⟩ := bind_some h
      refine wl_act (act_callS (cap := []) (W_bits_Div64 r8_4.1 r8_4.2 (u64 a2) r9_4 hr9_4) rfl rfl rfl bd59 rfl trivial) rfl rfl rfl ?_
      rintro _ _ _ ⟨_, _, ⟨rfl, rfl, rfl⟩, rfl, rfl⟩
      dsimp only [List.nil_append, List.cons_append]
      refine wl_det rfl rfl (det_move rfl) rfl ?_
      refine wl_det rfl rfl (det_extract rfl rfl) rfl ?_
      refine wl_det rfl rfl (det_extract rfl rfl) rfl ?_
      refine wl_det rfl rfl (det_assign rfl) rfl ?_
      refine wl_det rfl rfl (det_assign rfl) rfl ?_
      refine wl_nil ?_
      refine pn_then ?_
      refine wc_seq ?_
      obtain ⟨k10_p1, h⟩ := chk_some h
      obtain ⟨k10_p2, h⟩ := chk_some h
      obtain ⟨k10_p3, h⟩ := chk_some h
      refine wc_know (fun _ h => h.ixA m0 k10_p1) (fun kx10_x4 => ?_)
      refine wc_know (fun _ h => h.ixA (ms (ms m0)) k10_p2) (fun kx10_x5 => ?_)
      refine dx_regionZ (Z := St C [_, _] [_, _]) 14 [[], [], [], [], [], [], [], [6], [], [], [0, 1, 6, 7], [0, 1, 6, 7, 10], [0, 1, 2, 3, 6, 7, 8, 10, 11], [0, 1, 2, 3, 6, 7, 8, 10, 11, 12], [0, 1, 2, 3, 4, 5, 6, 7, 8, 9, 10, 11, 12, 13], [0, 1, 2, 3, 4, 5, 6, 7, 8, 9, 10, 11, 12, 13, 14]] mixed (ord := (.det 0 (.det 1 (.det 2 (.det 3 (.det 4 (.det 5 (.det 6 (.det 7 (.det 8 (.det 9 (.det 10 (.alt 11 (.det 12 (.alt 13 .done .dead)) .dead))))))))))))) (by kernel_rfl) (fun _ h => h.to ⟨_, (rs r0), ⟨_, (rs (rs r0)), trivial⟩⟩ ⟨m0, ⟨(ms m0), trivial⟩⟩) ?_   -- region 10
      refine hx_det rfl rfl rfl nofun (det_move rfl) rfl ?_
      refine hx_det rfl rfl rfl nofun (det_move rfl) rfl ?_
      refine hx_det rfl rfl rfl nofun (det_load rfl m0 (by rfl) na77 us77) rfl ?_
      refine hx_det rfl rfl rfl nofun (det_move rfl) rfl ?_
      refine hx_det rfl rfl rfl nofun (det_move rfl) rfl ?_
      refine hx_det rfl rfl rfl nofun (det_move rfl) rfl ?_
      refine hx_det rfl rfl rfl nofun (det_move rfl) rfl ?_
      refine hx_det rfl rfl rfl nofun (det_conv rfl us78 un3) rfl ?_
      refine hx_det rfl rfl rfl nofun (det_move rfl) rfl ?_
      refine hx_det rfl rfl rfl nofun (det_move rfl) rfl ?_
      refine hx_det rfl rfl rfl nofun (det_indexV rfl rfl kx10_x4 un22 sz3) rfl ?_
      refine hx_mut0 rfl rfl rfl (act_storeO (cells := [_]) (off := 0) (w64 r9_4.1) rfl rfl rfl s0 k10_p1 (by rfl) sz3 (by intro u hu; simp at hu; rcases hu with rfl <;> rfl) (stR_flat rfl rfl)) (by rintro _ _ _ ⟨rfl, rfl⟩ w hs; exact hs.to ⟨_, (rs r0), ⟨_, (rs (rs r0)), trivial⟩⟩ ⟨m0, ⟨(ms m0), trivial⟩⟩) ?_
      rintro _ _ _ ⟨rfl, rfl⟩
      refine hx_det rfl rfl rfl nofun (det_indexV rfl rfl kx10_x5 un77 sz78) rfl ?_
      refine hx_mut0 rfl rfl rfl (act_storeO (cells := [_]) (off := 0) r9_4.2 rfl rfl rfl (ss (ss s0)) k10_p2 (by rfl) sz78 (by intro u hu; simp at hu; rcases hu with rfl <;> rfl) (stR_flat rfl rfl)) (by rintro _ _ _ ⟨rfl, rfl⟩ w hs; exact hs.to ⟨_, (rs r0), ⟨_, (rs (rs r0)), trivial⟩⟩ ⟨m0, ⟨(ms m0), trivial⟩⟩) ?_
      rintro _ _ _ ⟨rfl, rfl⟩
      refine hx_end ?_
      refine wl_det rfl rfl (det_indexO rfl rfl (ms (ms (ms m0))) k10_p3 un22 sz3) rfl ?_
      refine wl_act0 (act_storeO (cells := [_]) (off := 0) s14.2.2.2.2 rfl rfl rfl (ss (ss (ss s0))) k10_p3 (by rfl) sz3 (by intro u hu; simp at hu; rcases hu with rfl <;> rfl) (stR_flat rfl rfl)) rfl rfl ?_
      rintro _ _ _ ⟨rfl, rfl⟩
      refine wl_nil ?_
      refine pn_then ?_
      refine wc_region ?_   -- region 11
      refine wl_det rfl rfl (det_move rfl) rfl ?_
      refine wl_det rfl rfl (det_move rfl) rfl ?_
      refine wl_det rfl rfl (det_move rfl) rfl ?_
      refine wl_det rfl rfl (det_indexV rfl rfl kx10_x4 un22 sz3) rfl ?_
      obtain ⟨k11_4, h⟩ := chk_some h
      refine wl_det rfl rfl (det_loadO (off := 0) rfl m0 k11_4 (by rfl) (by rfl) (loaded_1 na3 us3)) rfl ?_
      refine wl_det rfl rfl (det_sub rfl rfl) rfl ?_
      refine wl_det rfl rfl (det_assign rfl) rfl ?_
      refine wl_nil ?_
      refine pn_block ?_
      refine pn_then ?_
      refine wc_region ?_   -- region 12
      refine wl_det rfl rfl (det_add rfl rfl) rfl ?_
      refine wl_det rfl rfl (det_move rfl) rfl ?_
      refine wl_nil ?_
      replace h := Option.some.inj h
      subst h
      exact pn_some (k14, ((upd s14.1 s14.2.2.2.2 (w64 r9_4.1)), (upd s14.2.1 s14.2.2.2.2 r9_4.2), (upd s14.2.2.1 s14.2.2.2.2 s14.2.2.2.2), (w64 (s14.2.2.2.1 - (ix (upd s14.1 s14.2.2.2.2 (w64 r9_4.1)) s14.2.2.2.2))), (w64 (s14.2.2.2.2 + 1))), ()) ⟨nextL g14, Nat.lt_succ_self _⟩ ⟨rfl, rfl, rfl, rfl, rfl, rfl, rfl, rfl, rfl, trivial⟩ (fun _ h => h.to ⟨_, r0, ⟨_, r0, ⟨_, r0, ⟨_, r0, trivial⟩⟩⟩⟩ ⟨(ms m0), trivial⟩)
    · have h := ifF h c18
      refine wc_exit ?_
      refine px_then ?_
      refine px_then ?_
      refine px_block ?_
      replace h := Option.some.inj h
      subst h
      replace g14 := nextR g14
      subst g14
      exact pn_meetG ((s14.1, s14.2.1, s14.2.2.1, s14.2.2.2.1), ()) rfl ⟨rfl, rfl, rfl, rfl, trivial⟩ (fun _ h => h.to ⟨_, r0, ⟨_, r0, ⟨_, r0, ⟨_, r0, trivial⟩⟩⟩⟩ trivial)
  rintro ⟨s10, _⟩ e10
  dsimp only at e10 ⊢
  subst e10
  have h := ho10
  refine wc_seq ?_
  refine wc_region ?_   -- region 13
  refine wl_det rfl rfl (det_makeFunc rfl) rfl ?_
  refine wl_det rfl rfl (det_assign rfl) rfl ?_
  refine wl_nil ?_
  refine pn_then ?_
  refine wc_seq ?_
  refine wc_region ?_   -- region 14
  refine wl_det rfl rfl (det_move rfl) rfl ?_
  refine wl_det rfl rfl (det_move rfl) rfl ?_
  obtain ⟨r14_2, hr14_2, h⟩ := bind_some h
  refine wl_act (act_callL (cap := []) [eS (lInt .u64) 78 A2_2 (List.replicate (a1.length : Int).toNat (0 : Int)).length c2_2 s10.2.1] (W_slices_SortFunc_s_int_int_o_split_divide_c1 s10.2.2.1 s10.2.1 A3_2 (List.replicate (a1.length : Int).toNat (0 : Int)).length c3_2 b2_3 A2_2 (List.replicate (a1.length : Int).toNat (0 : Int)).length c2_2 r14_2 hr14_2) plains_slices_SortFunc_s_int_int_o_split_divide_c1 rfl rfl rfl bd64 ⟨_, (rs (rs (rs r0))), ⟨_, (rs r0), rfl⟩⟩ ⟨(ms m0), trivial⟩ ⟨.inr ⟨_, m0, lent_eS⟩, trivial⟩) rfl rfl rfl ?_
  rintro _ _ _ ⟨_, _, ⟨rfl, rfl, rfl⟩, rfl, rfl⟩
  dsimp only [List.nil_append, List.cons_append]
  refine wl_nil ?_
  refine pn_then ?_
  obtain ⟨q36, h, ho36⟩ := bind_some h
  refine wc_meetG (G := (List Int) × Unit) (fun (s36, _) => s36 = q36) (fun (_, _) => [(7, .slice A1_2 (List.replicate (a1.length : Int).toNat (0 : Int)).length c1_2)]) (fun (s36, _) => [eS (lInt .i64) 3 A1_2 (List.replicate (a1.length : Int).toNat (0 : Int)).length c1_2 s36]) (fun (_, _) => []) ?_ ?_
  · refine wc_seq ?_
    refine wc_region ?_   -- region 15
    refine wl_det rfl rfl (det_move rfl) rfl ?_
    refine wl_det rfl rfl (det_move rfl) rfl ?_
    refine wl_st (fun _ h => h.shutS r0) ?_
    obtain ⟨k15_2, h⟩ := chk_some h
    obtain ⟨k15_2a, h⟩ := chk_some h
    refine wl_act (act_sliceH rfl rfl m0 un22 sz3 rfl k15_2 k15_2a) rfl rfl rfl ?_
    rintro _ _ _ ⟨A15_2, c15_2, rfl, rfl, rfl⟩
    refine wl_det rfl rfl (det_len rfl un22) rfl ?_
    refine wl_det rfl rfl (det_move rfl) rfl ?_
    refine wl_nil ?_
    refine pn_then ?_
    refine wc_block ?_
    obtain ⟨k40, hk40⟩ := loopV_some.1 h
    refine wc_loop (G := Nat × ((List Int) × Int) × Unit) (fun g => IterN (split_divide_l40 s10 r14_2) g.1 g.2.1 q36) (fun g => g.1) (fun (_, s40, _) => [(7, .slice A1_2 (List.replicate (a1.length : Int).toNat (0 : Int)).length c1_2), (79, .slice A15_2 (r14_2.take s10.2.2.2.toNat).length c15_2), (80, .int .i64 ((r14_2.take s10.2.2.2.toNat).length : Int)), (81, .int .i64 s40.2)]) (fun (_, s40, _) => [eS (lInt .i64) 3 A1_2 (List.replicate (a1.length : Int).toNat (0 : Int)).length c1_2 s40.1]) (fun (_, _, _) => [fV (lSlice (lInt .i64)) (.slice A15_2 (r14_2.take s10.2.2.2.toNat).length c15_2) (r14_2.take s10.2.2.2.toNat)]) (k40, (s10.1, 0), ()) hk40 ⟨rfl, rfl, rfl, rfl, trivial⟩ (fun _ h => h.to ⟨_, (rs r0), trivial⟩ ⟨m0, trivial⟩) ?_
    rintro ⟨k40, s40, _⟩ hI
    obtain ⟨k40, rfl, q40, h, g40⟩ := IterN.pos hI
    dsimp only at h ⊢
    unfold split_divide_l40 at h
    refine wc_seq ?_
    refine wc_region ?_   -- region 16
    refine wl_det rfl rfl (det_lss rfl rfl) rfl ?_
    refine wl_nil ?_
    refine pn_then ?_
    refine wc_seq ?_
    refine wc_cond rfl (fun c44 => ?_) (fun c44 => ?_)
    · have h := ifT h c44
      refine wc_skip ?_
      refine pn_then ?_
      refine wc_seq ?_
      refine wc_block ?_
      refine wc_seq ?_
      refine wc_region ?_   -- region 17
      obtain ⟨k17_0, h⟩ := chk_some h
      refine wl_st (fun _ h => h.openF m0 k17_0) ?_
      refine wl_det rfl rfl (det_indexP rfl rfl (ms m0) k17_0 m0 un22 sz3) rfl ?_
      refine wl_det rfl rfl (det_loadP (off := 0) rfl m0 (by rfl) (by rfl) (loaded_1 na3 us3)) rfl ?_
      refine wl_det rfl rfl (det_assign rfl) rfl ?_
      refine wl_nil ?_
      refine pn_then ?_
      refine wc_region ?_   -- region 18
      refine wl_det rfl rfl (det_move rfl) rfl ?_
      refine wl_det rfl rfl (det_move rfl) rfl ?_
      obtain ⟨k18_2, h⟩ := chk_some h
      refine wl_det rfl rfl (det_indexO rfl rfl m0 k18_2 un22 sz3) rfl ?_
      refine wl_det rfl rfl (det_loadO (off := 0) rfl m0 k18_2 (by rfl) (by rfl) (loaded_1 na3 us3)) rfl ?_
      refine wl_det rfl rfl (det_add rfl rfl) rfl ?_
      refine wl_det rfl rfl (det_indexO rfl rfl m0 k18_2 un22 sz3) rfl ?_
      refine wl_act0 (act_storeO (cells := [_]) (off := 0) (w64 ((ix s40.1 (ix (r14_2.take s10.2.2.2.toNat) s40.2)) + 1)) rfl rfl rfl s0 k18_2 (by rfl) sz3 (by intro u hu; simp at hu; rcases hu with rfl <;> rfl) (stR_flat rfl rfl)) rfl rfl ?_
      rintro _ _ _ ⟨rfl, rfl⟩
      refine wl_nil ?_
      refine pn_block ?_
      refine pn_then ?_
      refine wc_region ?_   -- region 19
      refine wl_det rfl rfl (det_add rfl rfl) rfl ?_
      refine wl_det rfl rfl (det_move rfl) rfl ?_
      refine wl_nil ?_
      replace h := Option.some.inj h
      subst h
      exact pn_some (k40, ((upd s40.1 (ix (r14_2.take s10.2.2.2.toNat) s40.2) (w64 ((ix s40.1 (ix (r14_2.take s10.2.2.2.toNat) s40.2)) + 1))), (w64 (s40.2 + 1))), ()) ⟨nextL g40, Nat.lt_succ_self _⟩ ⟨rfl, rfl, rfl, rfl, trivial⟩ (fun _ h => h.to ⟨_, r0, trivial⟩ ⟨(ms m0), trivial⟩)
    · have h := ifF h c44
      refine wc_exit ?_
      refine px_then ?_
      refine px_then ?_
      refine px_block ?_
      replace h := Option.some.inj h
      subst h
      replace g40 := nextR g40
      subst g40
      exact pn_meetG (s40.1, ()) rfl ⟨rfl, trivial⟩ (fun _ h => h.to ⟨_, r0, trivial⟩ trivial)
  rintro ⟨s36, _⟩ e36
  dsimp only at e36 ⊢
  subst e36
  have h := ho36
  refine wc_seq ?_
  refine wc_region ?_   -- region 20
  refine wl_det rfl rfl (det_move rfl) rfl ?_
  refine wl_det rfl rfl (det_assign rfl) rfl ?_
  refine wl_nil ?_
  refine pn_then ?_
  refine wc_ret ?_
  replace h := Option.some.inj h
  subst h
  refine pn_ret (vs := [_]) rfl ⟨rfl, trivial⟩ ⟨A1_2, (List.replicate (a1.length : Int).toNat (0 : Int)).length, c1_2, rfl, rfl, rfl⟩ (fun _ h => h.to ⟨_, r0, trivial⟩ trivial)
def Q_split_Split (r : (List Int) × Int) : Value → List Ent → List Fact → Prop := fun v θ κ => ∃ (pA0 : Option Addr), ∃ (pn0 : Nat), ∃ (pc0 : Nat), v = .tuple #[.slice pA0 pn0 pc0, .int .i64 r.2] ∧ θ = [eS (lInt .i64) 3 pA0 pn0 pc0 r.1] ∧ κ = []
theorem plains_split_Split {r : (List Int) × Int} : ∀ v θ κ, Q_split_Split r v θ κ → Plains θ := by
  rintro _ _ _ ⟨_, _, _, rfl, rfl, rfl⟩
  exact ⟨plain_eS, trivial⟩
set_option maxRecDepth 100000 in
theorem W_split_Split (a0 : Int) (a1 : (List Int)) (A0 : Option Addr) (n0 : Nat) (c0 : Nat) (r : (List Int) × Int) (h : split_Split a0 a1 = some r) : Spec Try.prog 43 [.int .i64 a0, .slice A0 n0 c0] [] [fV (lSlice (lInt .i64)) (.slice A0 n0 c0) a1] (Q_split_Split r) := by
  unfold split_Split at h
  refine spec_of (σ := [(0, _), (1, _)]) Try.func43 rfl rfl rfl rfl ?_
  intro C
  refine wc_know (fun _ h => h.lenF m0) (fun e => ?_)
  subst e
  refine wc_seq ?_
  refine wc_region ?_   -- region 0
  refine wl_det rfl rfl (det_assign rfl) rfl ?_
  refine wl_det rfl rfl (det_assign rfl) rfl ?_
  refine wl_nil ?_
  refine pn_then ?_
  refine wc_seq ?_
  refine wc_seq ?_
  refine wc_region ?_   -- region 1
  refine wl_det rfl rfl (det_move rfl) rfl ?_
  refine wl_det rfl rfl (det_len rfl un22) rfl ?_
  refine wl_det rfl rfl (det_eql rfl rfl) rfl ?_
  refine wl_nil ?_
  refine pn_then ?_
  refine wc_cond rfl (fun c5 => ?_) (fun c5 => ?_)
  · have h := ifT h c5
    refine wc_seq ?_
    refine wc_region ?_   -- region 2
    refine wl_det rfl rfl (det_assign rfl) rfl ?_
    refine wl_det rfl rfl (det_assign rfl) rfl ?_
    refine wl_nil ?_
    refine pn_then ?_
    refine wc_ret ?_
    refine pr_then ?_
    refine pn_st (fun _ h => h.zeroS (lInt .i64) 3 none) ?_
    replace h := Option.some.inj h
    subst h
    refine pn_ret (vs := [_, _]) rfl ⟨rfl, rfl, trivial⟩ ⟨none, 0, 0, rfl, rfl, rfl⟩ (fun _ h => h.to ⟨_, r0, trivial⟩ trivial)
  · have h := ifF h c5
    refine wc_skip ?_
    refine pn_then ?_
    refine wc_seq ?_
    refine wc_seq ?_
    refine wc_region ?_   -- region 3
    refine wl_det rfl rfl (det_move rfl) rfl ?_
    refine wl_det rfl rfl (det_len rfl un22) rfl ?_
    refine wl_det rfl rfl (det_gtr rfl rfl) rfl ?_
    refine wl_nil ?_
    refine pn_then ?_
    refine wc_cond rfl (fun c11 => ?_) (fun c11 => ?_)
    · have h := ifT h c11
      refine wc_seq ?_
      refine wc_region ?_   -- region 4
      refine wl_det rfl rfl (det_assign rfl) rfl ?_
      refine wl_det rfl rfl (det_assign rfl) rfl ?_
      refine wl_nil ?_
      refine pn_then ?_
      refine wc_ret ?_
      refine pr_then ?_
      refine pn_st (fun _ h => h.zeroS (lInt .i64) 3 none) ?_
      replace h := Option.some.inj h
      subst h
      refine pn_ret (vs := [_, _]) rfl ⟨rfl, rfl, trivial⟩ ⟨none, 0, 0, rfl, rfl, rfl⟩ (fun _ h => h.to ⟨_, r0, trivial⟩ trivial)
    · have h := ifF h c11
      refine wc_skip ?_
      refine pn_then ?_
      refine wc_seq ?_
      refine wc_seq ?_
      refine wc_region ?_   -- region 5
      refine wl_det rfl rfl (det_move rfl) rfl ?_
      obtain ⟨r5_1, hr5_1, h⟩ := bind_some h
      refine wl_act (act_callS (cap := []) (W_amount_Valid a0 r5_1 hr5_1) rfl rfl rfl bd47 rfl trivial) rfl rfl rfl ?_
      rintro _ _ _ ⟨_, _, ⟨rfl, rfl, rfl⟩, rfl, rfl⟩
      dsimp only [List.nil_append, List.cons_append]
      refine wl_det rfl rfl (det_not rfl) rfl ?_
      refine wl_det rfl rfl (det_move rfl) rfl ?_
      obtain ⟨q5_7, hq5_7, h⟩ := bind_some h
      have ho5_7 := h
      refine wl_way (!r5_1) q5_7 4 22 (fun hg => ?_) (fun hg => ?_) ?_
      · have hg5_7 := hg
        have h := ifT hq5_7 hg
        refine wl_off rfl rfl rfl rfl rfl hg5_7 rfl ?_
        refine wl_off rfl rfl rfl rfl rfl hg5_7 rfl ?_
        refine wl_off rfl rfl rfl rfl rfl hg5_7 rfl ?_
        replace h := Option.some.inj h
        subst h
        refine wl_det rfl rfl (det_pick_on rfl hg5_7 rfl rfl) rfl ?_
        exact wl_nil (pn_qnE (ext_cons rfl (ext_skip rfl (ext_skip rfl (ext_skip rfl (ext_skip rfl ext_refl))))) (fun _ h => h))
      · have hg5_7a := hg
        have h := ifF hq5_7 hg
        refine wl_on rfl rfl rfl rfl hg5_7a ?_
        refine wl_det rfl rfl (det_move rfl) rfl ?_
        refine wl_on rfl rfl rfl rfl hg5_7a ?_
        obtain ⟨r5_5, hr5_5, h⟩ := bind_some h
        refine wl_act (act_callS (cap := []) (W_split_inRange a1 A0 a1.length c0 r5_5 hr5_5) rfl rfl rfl bd52 rfl ⟨m0, trivial⟩) rfl rfl rfl ?_
        rintro _ _ _ ⟨_, _, ⟨rfl, rfl, rfl⟩, rfl, rfl⟩
        dsimp only [List.nil_append, List.cons_append]
        refine wl_on rfl rfl rfl rfl hg5_7a ?_
        refine wl_det rfl rfl (det_not rfl) rfl ?_
        replace h := Option.some.inj h
        subst h
        refine wl_det rfl rfl (det_pick_off rfl hg5_7a rfl rfl) rfl ?_
        exact wl_nil (pn_qnE (ext_cons rfl (ext_skip rfl (ext_skip rfl (ext_skip rfl (ext_skip rfl ext_refl))))) (fun _ h => h))
      have h := ho5_7
      refine wl_nil ?_
      refine pn_then ?_
      refine wc_cond rfl (fun c17 => ?_) (fun c17 => ?_)
      · have h := ifT h c17
        refine wc_seq ?_
        refine wc_region ?_   -- region 6
        refine wl_det rfl rfl (det_assign rfl) rfl ?_
        refine wl_det rfl rfl (det_assign rfl) rfl ?_
        refine wl_nil ?_
        refine pn_then ?_
        refine wc_ret ?_
        refine pr_then ?_
        refine pn_st (fun _ h => h.zeroS (lInt .i64) 3 none) ?_
        replace h := Option.some.inj h
        subst h
        refine pn_ret (vs := [_, _]) rfl ⟨rfl, rfl, trivial⟩ ⟨none, 0, 0, rfl, rfl, rfl⟩ (fun _ h => h.to ⟨_, r0, trivial⟩ trivial)
      · have h := ifF h c17
        refine wc_skip ?_
        refine pn_then ?_
        refine wc_seq ?_
        refine wc_region ?_   -- region 7
        refine wl_det rfl rfl (det_move rfl) rfl ?_
        obtain ⟨r7_1, hr7_1, h⟩ := bind_some h
        refine wl_act (act_callS (cap := []) (W_split_total a1 A0 a1.length c0 r7_1 hr7_1) rfl rfl rfl bd53 rfl ⟨m0, trivial⟩) rfl rfl rfl ?_
        rintro _ _ _ ⟨_, _, ⟨rfl, rfl, rfl⟩, rfl, rfl⟩
        dsimp only [List.nil_append, List.cons_append]
        refine wl_det rfl rfl (det_assign rfl) rfl ?_
        refine wl_nil ?_
        refine pn_then ?_
        refine wc_seq ?_
        refine wc_seq ?_
        refine wc_region ?_   -- region 8
        refine wl_det rfl rfl (det_move rfl) rfl ?_
        refine wl_det rfl rfl (det_eql rfl rfl) rfl ?_
        refine wl_nil ?_
        refine pn_then ?_
        refine wc_cond rfl (fun c25 => ?_) (fun c25 => ?_)
        · have h := ifT h c25
          refine wc_seq ?_
          refine wc_region ?_   -- region 9
          refine wl_det rfl rfl (det_assign rfl) rfl ?_
          refine wl_det rfl rfl (det_assign rfl) rfl ?_
          refine wl_nil ?_
          refine pn_then ?_
          refine wc_ret ?_
          refine pr_then ?_
          refine pn_st (fun _ h => h.zeroS (lInt .i64) 3 none) ?_
          replace h := Option.some.inj h
          subst h
          refine pn_ret (vs := [_, _]) rfl ⟨rfl, rfl, trivial⟩ ⟨none, 0, 0, rfl, rfl, rfl⟩ (fun _ h => h.to ⟨_, r0, trivial⟩ trivial)
        · have h := ifF h c25
          refine wc_skip ?_
          refine pn_then ?_
          refine wc_seq ?_
          refine wc_seq ?_
          refine wc_region ?_   -- region 10
          refine wl_det rfl rfl (det_move rfl) rfl ?_
          refine wl_det rfl rfl (det_geq rfl rfl) rfl ?_
          refine wl_nil ?_
          refine pn_then ?_
          refine wc_cond rfl (fun c31 => ?_) (fun c31 => ?_)
          · have h := ifT h c31
            refine wc_seq ?_
            refine wc_region ?_   -- region 11
            refine wl_det rfl rfl (det_move rfl) rfl ?_
            refine wl_det rfl rfl (det_move rfl) rfl ?_
            refine wl_det rfl rfl (det_move rfl) rfl ?_
            obtain ⟨r11_3, hr11_3, h⟩ := bind_some h
            refine wl_act (act_callS (cap := []) (W_split_divide a0 a1 r7_1 A0 a1.length c0 r11_3 hr11_3) rfl rfl rfl bd54 rfl ⟨m0, trivial⟩) rfl rfl rfl ?_
            rintro _ _ _ ⟨_, _, ⟨y11_3A0, y11_3n0, y11_3c0, rfl, rfl, rfl⟩, rfl, rfl⟩
            dsimp only [List.nil_append, List.cons_append]
            refine wl_know (fun _ h => h.lenO m0) (fun e => ?_)
            subst e
            refine wl_det rfl rfl (det_assign rfl) rfl ?_
            refine wl_det rfl rfl (det_assign rfl) rfl ?_
            refine wl_nil ?_
            refine pn_then ?_
            refine wc_ret ?_
            refine pr_then ?_
            replace h := Option.some.inj h
            subst h
            refine pn_ret (vs := [_, _]) rfl ⟨rfl, rfl, trivial⟩ ⟨y11_3A0, r11_3.length, y11_3c0, rfl, rfl, rfl⟩ (fun _ h => h.to ⟨_, r0, trivial⟩ trivial)
          · have h := ifF h c31
            refine wc_skip ?_
            refine pn_then ?_
            refine wc_seq ?_
            refine wc_region ?_   -- region 12
            refine wl_det rfl rfl (det_move rfl) rfl ?_
            refine wl_det rfl rfl (det_neg rfl) rfl ?_
            refine wl_det rfl rfl (det_move rfl) rfl ?_
            refine wl_det rfl rfl (det_move rfl) rfl ?_
            obtain ⟨r12_4, hr12_4, h⟩ := bind_some h
            refine wl_act (act_callS (cap := []) (W_split_divide (w64 (0 - a0)) a1 r7_1 A0 a1.length c0 r12_4 hr12_4) rfl rfl rfl bd54 rfl ⟨m0, trivial⟩) rfl rfl rfl ?_
            rintro _ _ _ ⟨_, _, ⟨y12_4A0, y12_4n0, y12_4c0, rfl, rfl, rfl⟩, rfl, rfl⟩
            dsimp only [List.nil_append, List.cons_append]
            refine wl_know (fun _ h => h.lenO m0) (fun e => ?_)
            subst e
            refine wl_det rfl rfl (det_assign rfl) rfl ?_
            refine wl_nil ?_
            refine pn_then ?_
            obtain ⟨q36, h, ho36⟩ := bind_some h
            refine wc_meetG (G := (List Int) × Unit) (fun (s36, _) => s36 = q36) (fun (_, _) => [(7, .slice y12_4A0 r12_4.length y12_4c0)]) (fun (s36, _) => [eS (lInt .i64) 3 y12_4A0 r12_4.length y12_4c0 s36]) (fun (_, _) => []) ?_ ?_
            · refine wc_seq ?_
              refine wc_region ?_   -- region 13
              refine wl_det rfl rfl (det_move rfl) rfl ?_
              refine wl_det rfl rfl (det_len rfl un22) rfl ?_
              refine wl_det rfl rfl (det_move rfl) rfl ?_
              refine wl_nil ?_
              refine pn_then ?_
              refine wc_block ?_
              obtain ⟨k40, hk40⟩ := loopV_some.1 h
              refine wc_loop (G := Nat × ((List Int) × Int) × Unit) (fun g => IterN (split_Split_l40 r12_4) g.1 g.2.1 q36) (fun g => g.1) (fun (_, s40, _) => [(7, .slice y12_4A0 r12_4.length y12_4c0), (39, .int .i64 (r12_4.length : Int)), (40, .int .i64 s40.2)]) (fun (_, s40, _) => [eS (lInt .i64) 3 y12_4A0 r12_4.length y12_4c0 s40.1]) (fun (_, _, _) => []) (k40, (r12_4, 0), ()) hk40 ⟨rfl, rfl, rfl, trivial⟩ (fun _ h => h.to ⟨_, r0, trivial⟩ trivial) ?_
              rintro ⟨k40, s40, _⟩ hI
              obtain ⟨k40, rfl, q40, h, g40⟩ := IterN.pos hI
              dsimp only at h ⊢
              unfold split_Split_l40 at h
              refine wc_seq ?_
              refine wc_region ?_   -- region 14
              refine wl_det rfl rfl (det_lss rfl rfl) rfl ?_
              refine wl_nil ?_
              refine pn_then ?_
              refine wc_seq ?_
              refine wc_cond rfl (fun c44 => ?_) (fun c44 => ?_)
              · have h := ifT h c44
                refine wc_skip ?_
                refine pn_then ?_
                refine wc_seq ?_
                refine wc_block ?_
                refine wc_seq ?_
                refine wc_region ?_   -- region 15
                refine wl_det rfl rfl (det_move rfl) rfl ?_
                refine wl_det rfl rfl (det_assign rfl) rfl ?_
                refine wl_nil ?_
                refine pn_then ?_
                refine wc_region ?_   -- region 16
                refine wl_det rfl rfl (det_move rfl) rfl ?_
                refine wl_det rfl rfl (det_move rfl) rfl ?_
                refine wl_det rfl rfl (det_move rfl) rfl ?_
                refine wl_det rfl rfl (det_move rfl) rfl ?_
                obtain ⟨k16_4, h⟩ := chk_some h
                refine wl_det rfl rfl (det_indexO rfl rfl m0 k16_4 un22 sz3) rfl ?_
                refine wl_det rfl rfl (det_loadO (off := 0) rfl m0 k16_4 (by rfl) (by rfl) (loaded_1 na3 us3)) rfl ?_
                refine wl_det rfl rfl (det_neg rfl) rfl ?_
                refine wl_det rfl rfl (det_indexO rfl rfl m0 k16_4 un22 sz3) rfl ?_
                refine wl_act0 (act_storeO (cells := [_]) (off := 0) (w64 (0 - (ix s40.1 s40.2))) rfl rfl rfl s0 k16_4 (by rfl) sz3 (by intro u hu; simp at hu; rcases hu with rfl <;> rfl) (stR_flat rfl rfl)) rfl rfl ?_
                rintro _ _ _ ⟨rfl, rfl⟩
                refine wl_nil ?_
                refine pn_block ?_
                refine pn_then ?_
                refine wc_region ?_   -- region 17
                refine wl_det rfl rfl (det_add rfl rfl) rfl ?_
                refine wl_det rfl rfl (det_move rfl) rfl ?_
                refine wl_nil ?_
                replace h := Option.some.inj h
                subst h
                exact pn_some (k40, ((upd s40.1 s40.2 (w64 (0 - (ix s40.1 s40.2)))), (w64 (s40.2 + 1))), ()) ⟨nextL g40, Nat.lt_succ_self _⟩ ⟨rfl, rfl, rfl, trivial⟩ (fun _ h => h.to ⟨_, r0, trivial⟩ trivial)
              · have h := ifF h c44
                refine wc_exit ?_
                refine px_then ?_
                refine px_then ?_
                refine px_block ?_
                replace h := Option.some.inj h
                subst h
                replace g40 := nextR g40
                subst g40
                exact pn_meetG (s40.1, ()) rfl ⟨rfl, trivial⟩ (fun _ h => h.to ⟨_, r0, trivial⟩ trivial)
            rintro ⟨s36, _⟩ e36
            dsimp only at e36 ⊢
            subst e36
            have h := ho36
            refine wc_seq ?_
            refine wc_region ?_   -- region 18
            refine wl_det rfl rfl (det_move rfl) rfl ?_
            refine wl_det rfl rfl (det_assign rfl) rfl ?_
            refine wl_det rfl rfl (det_assign rfl) rfl ?_
            refine wl_nil ?_
            refine pn_then ?_
            refine wc_ret ?_
            replace h := Option.some.inj h
            subst h
            refine pn_ret (vs := [_, _]) rfl ⟨rfl, rfl, trivial⟩ ⟨y12_4A0, r12_4.length, y12_4c0, rfl, rfl, rfl⟩ (fun _ h => h.to ⟨_, r0, trivial⟩ trivial)
def Q_aggregate_Spread (r : (List Int) × Int) : Value → List Ent → List Fact → Prop := fun v θ κ => ∃ (pA0 : Option Addr), ∃ (pn0 : Nat), ∃ (pc0 : Nat), v = .tuple #[.slice pA0 pn0 pc0, .int .i64 r.2] ∧ θ = [eS (lInt .i64) 3 pA0 pn0 pc0 r.1] ∧ κ = []
theorem plains_aggregate_Spread {r : (List Int) × Int} : ∀ v θ κ, Q_aggregate_Spread r v θ κ → Plains θ := by
  rintro _ _ _ ⟨_, _, _, rfl, rfl, rfl⟩
  exact ⟨plain_eS, trivial⟩
set_option maxRecDepth 100000 in
theorem W_aggregate_Spread (a0 : (List Int)) (a1 : Int) (a2 : Int) (A0 : Option Addr) (n0 : Nat) (c0 : Nat) (r : (List Int) × Int) (h : aggregate_Spread a0 a1 a2 = some r) : Spec Try.prog 21 [.slice A0 n0 c0, .int .i64 a1, .int .i64 a2] [] [fV (lSlice (lInt .i64)) (.slice A0 n0 c0) a0] (Q_aggregate_Spread r) := by
  unfold aggregate_Spread at h
  refine spec_of (σ := [(0, _), (1, _), (2, _)]) Try.func21 rfl rfl rfl rfl ?_
  intro C
  refine wc_know (fun _ h => h.lenF m0) (fun e => ?_)
  subst e
  refine wc_seq ?_
  refine wc_region ?_   -- region 0
  refine wl_det rfl rfl (det_assign rfl) rfl ?_
  refine wl_det rfl rfl (det_assign rfl) rfl ?_
  refine wl_nil ?_
  refine pn_then ?_
  refine wc_seq ?_
  refine wc_region ?_   -- region 1
  refine wl_det rfl rfl (det_move rfl) rfl ?_
  refine wl_det rfl rfl (det_move rfl) rfl ?_
  refine wl_det rfl rfl (det_move rfl) rfl ?_
  obtain ⟨r1_3, hr1_3, h⟩ := bind_some h
  refine wl_act (act_callS (cap := []) (W_aggregate_total a0 a1 a2 A0 a0.length c0 r1_3 hr1_3) rfl rfl rfl bd35 rfl ⟨m0, trivial⟩) rfl rfl rfl ?_
  rintro _ _ _ ⟨_, _, ⟨rfl, rfl, rfl⟩, rfl, rfl⟩
  dsimp only [List.nil_append, List.cons_append]
  refine wl_det rfl rfl (det_move rfl) rfl ?_
  refine wl_det rfl rfl (det_extract rfl rfl) rfl ?_
  refine wl_det rfl rfl (det_extract rfl rfl) rfl ?_
  refine wl_det rfl rfl (det_assign rfl) rfl ?_
  refine wl_det rfl rfl (det_assign rfl) rfl ?_
  refine wl_nil ?_
  refine pn_then ?_
  refine wc_seq ?_
  refine wc_seq ?_
  refine wc_region ?_   -- region 2
  refine wl_det rfl rfl (det_move rfl) rfl ?_
  refine wl_det rfl rfl (det_neq rfl rfl) rfl ?_
  refine wl_nil ?_
  refine pn_then ?_
  refine wc_cond rfl (fun c7 => ?_) (fun c7 => ?_)
  · have h := ifT h c7
    refine wc_seq ?_
    refine wc_region ?_   -- region 3
    refine wl_det rfl rfl (det_move rfl) rfl ?_
    refine wl_det rfl rfl (det_assign rfl) rfl ?_
    refine wl_det rfl rfl (det_assign rfl) rfl ?_
    refine wl_nil ?_
    refine pn_then ?_
    refine wc_ret ?_
    refine pr_then ?_
    refine pn_st (fun _ h => h.zeroS (lInt .i64) 3 none) ?_
    replace h := Option.some.inj h
    subst h
    refine pn_ret (vs := [_, _]) rfl ⟨rfl, rfl, trivial⟩ ⟨none, 0, 0, rfl, rfl, rfl⟩ (fun _ h => h.to ⟨_, r0, trivial⟩ trivial)
  · have h := ifF h c7
    refine wc_skip ?_
    refine pn_then ?_
    refine wc_seq ?_
    refine wc_seq ?_
    refine wc_region ?_   -- region 4
    refine wl_det rfl rfl (det_move rfl) rfl ?_
    refine wl_det rfl rfl (det_eql rfl rfl) rfl ?_
    refine wl_nil ?_
    refine pn_then ?_
    refine wc_cond rfl (fun c13 => ?_) (fun c13 => ?_)
    · have h := ifT h c13
      refine wc_seq ?_
      refine wc_region ?_   -- region 5
      refine wl_det rfl rfl (det_move rfl) rfl ?_
      refine wl_det rfl rfl (det_len rfl un22) rfl ?_
      obtain ⟨k5_2, h⟩ := chk_some h
      obtain ⟨k5_2a, h⟩ := chk_some h
      refine wl_act (act_makeS (L := (lInt .i64)) (x0 := (0 : Int)) rfl rfl un22 in3 (by refine ⟨rfl, fun _ _ => ?_⟩; first | exact rfl | exact ⟨_, _, _, rfl, rfl, Nat.zero_le _, .inl rfl⟩) rfl rfl k5_2 (decide_eq_true (Int.le_refl _)) k5_2a) rfl rfl rfl ?_
      rintro _ _ _ ⟨A5_2, c5_2, rfl, rfl, rfl⟩
      refine wl_det rfl rfl (det_assign rfl) rfl ?_
      refine wl_det rfl rfl (det_assign rfl) rfl ?_
      refine wl_nil ?_
      refine pn_then ?_
      refine wc_ret ?_
      refine pr_then ?_
      replace h := Option.some.inj h
      subst h
      refine pn_ret (vs := [_, _]) rfl ⟨rfl, rfl, trivial⟩ ⟨A5_2, (List.replicate (a0.length : Int).toNat (0 : Int)).length, c5_2, rfl, rfl, rfl⟩ (fun _ h => h.to ⟨_, r0, trivial⟩ trivial)
    · have h := ifF h c13
      refine wc_skip ?_
      refine pn_then ?_
      refine wc_seq ?_
      refine wc_region ?_   -- region 6
      refine wl_det rfl rfl (det_move rfl) rfl ?_
      refine wl_det rfl rfl (det_move rfl) rfl ?_
      refine wl_det rfl rfl (det_move rfl) rfl ?_
      obtain ⟨r6_3, hr6_3, h⟩ := bind_some h
      refine wl_act (act_callS (cap := []) (W_excess_Layer r1_3.1 a1 a2 r6_3 hr6_3) rfl rfl rfl bd22 rfl trivial) rfl rfl rfl ?_
      rintro _ _ _ ⟨_, _, ⟨rfl, rfl, rfl⟩, rfl, rfl⟩
      dsimp only [List.nil_append, List.cons_append]
      refine wl_det rfl rfl (det_move rfl) rfl ?_
      obtain ⟨r6_5, hr6_5, h⟩ := bind_some h
      refine wl_act (act_callS (cap := []) (W_split_Split r6_3 a0 A0 a0.length c0 r6_5 hr6_5) rfl rfl rfl bd43 rfl ⟨m0, trivial⟩) rfl rfl rfl ?_
      rintro _ _ _ ⟨_, _, ⟨y6_5A0, y6_5n0, y6_5c0, rfl, rfl, rfl⟩, rfl, rfl⟩
      dsimp only [List.nil_append, List.cons_append]
      refine wl_know (fun _ h => h.lenO m0) (fun e => ?_)
      subst e
      refine wl_det rfl rfl (det_extract rfl rfl) rfl ?_
      refine wl_det rfl rfl (det_extract rfl rfl) rfl ?_
      refine wl_det rfl rfl (det_assign rfl) rfl ?_
      refine wl_det rfl rfl (det_assign rfl) rfl ?_
      refine wl_nil ?_
      refine pn_then ?_
      refine wc_ret ?_
      replace h := Option.some.inj h
      subst h
      refine pn_ret (vs := [_, _]) rfl ⟨rfl, rfl, trivial⟩ ⟨y6_5A0, r6_5.1.length, y6_5c0, rfl, rfl, rfl⟩ (fun _ h => h.to ⟨_, r0, trivial⟩ trivial)
def Q_treatylaw23_awake (r : Bool) : Value → List Ent → List Fact → Prop := fun v θ κ => v = .bool r ∧ θ = [] ∧ κ = []
theorem plains_treatylaw23_awake {r : Bool} : ∀ v θ κ, Q_treatylaw23_awake r v θ κ → Plains θ := by
  rintro _ _ _ ⟨rfl, rfl, rfl⟩
  exact trivial
set_option maxRecDepth 100000 in
theorem W_treatylaw23_awake (r : Bool) (h : treatylaw23_awake = some r) : Spec Try.prog 13 [] [] [] (Q_treatylaw23_awake r) := by
  unfold treatylaw23_awake at h
  refine spec_of (σ := []) Try.func13 rfl rfl rfl rfl ?_
  intro C
  refine wc_seq ?_
  refine wc_region ?_   -- region 0
  refine wl_det rfl rfl (det_assign rfl) rfl ?_
  refine wl_nil ?_
  refine pn_then ?_
  refine wc_seq ?_
  refine wc_region ?_   -- region 1
  refine wl_act (act_litS (lInt .i64) (vs := [_, _, _]) (cs := [_, _, _]) [50, 80, 100] un22 in3 rfl rfl rfl rfl rfl ⟨rfl, rfl, rfl, trivial⟩ (by rfl) rfl (litR_flat rfl)) rfl rfl rfl ?_
  rintro _ _ _ ⟨A1_0, rfl, rfl, rfl⟩
  obtain ⟨r1_1, hr1_1, h⟩ := bind_some h
  refine wl_act (act_callL (cap := []) [eS (lInt .i64) 3 A1_0 3 3 [50, 80, 100]] (W_aggregate_Apply [50, 80, 100] 60 100 A1_0 3 3 r1_1 hr1_1) plains_aggregate_Apply rfl rfl rfl bd14 rfl ⟨m0, trivial⟩ ⟨.inr ⟨_, m0, lent_eS⟩, trivial⟩) rfl rfl rfl ?_
  rintro _ _ _ ⟨_, _, ⟨y1_1A0, y1_1n0, y1_1c0, rfl, rfl, rfl⟩, rfl, rfl⟩
  dsimp only [List.nil_append, List.cons_append]
  refine wl_know (fun _ h => h.lenO m0) (fun e => ?_)
  subst e
  refine wl_det rfl rfl (det_move rfl) rfl ?_
  refine wl_det rfl rfl (det_extract rfl rfl) rfl ?_
  refine wl_det rfl rfl (det_extract rfl rfl) rfl ?_
  refine wl_det rfl rfl (det_assign rfl) rfl ?_
  refine wl_det rfl rfl (det_assign rfl) rfl ?_
  refine wl_nil ?_
  refine pn_then ?_
  refine wc_seq ?_
  refine wc_region ?_   -- region 2
  refine wl_act (act_litS (lInt .i64) (vs := [_, _, _]) (cs := [_, _, _]) [30, 60, 10] un22 in3 rfl rfl rfl rfl rfl ⟨rfl, rfl, rfl, trivial⟩ (by rfl) rfl (litR_flat rfl)) rfl rfl rfl ?_
  rintro _ _ _ ⟨A2_0, rfl, rfl, rfl⟩
  obtain ⟨r2_1, hr2_1, h⟩ := bind_some h
  refine wl_act (act_callL (cap := []) [eS (lInt .i64) 3 A2_0 3 3 [30, 60, 10]] (W_aggregate_Spread [30, 60, 10] 40 30 A2_0 3 3 r2_1 hr2_1) plains_aggregate_Spread rfl rfl rfl bd21 rfl ⟨m0, trivial⟩ ⟨.inr ⟨_, m0, lent_eS⟩, trivial⟩) rfl rfl rfl ?_
  rintro _ _ _ ⟨_, _, ⟨y2_1A0, y2_1n0, y2_1c0, rfl, rfl, rfl⟩, rfl, rfl⟩
  dsimp only [List.nil_append, List.cons_append]
  refine wl_know (fun _ h => h.lenO m0) (fun e => ?_)
  subst e
  refine wl_det rfl rfl (det_move rfl) rfl ?_
  refine wl_det rfl rfl (det_extract rfl rfl) rfl ?_
  refine wl_det rfl rfl (det_extract rfl rfl) rfl ?_
  refine wl_det rfl rfl (det_assign rfl) rfl ?_
  refine wl_det rfl rfl (det_assign rfl) rfl ?_
  refine wl_nil ?_
  refine pn_then ?_
  refine wc_seq ?_
  refine wc_region ?_   -- region 3
  refine wl_det rfl rfl (det_move rfl) rfl ?_
  refine wl_det rfl rfl (det_eql rfl rfl) rfl ?_
  refine wl_det rfl rfl (det_move rfl) rfl ?_
  refine wl_way (decide (r1_1.2 = 0)) ((decide (r1_1.2 = 0)) && (decide (r2_1.2 = 0))) 3 20 (fun hg => ?_) (fun hg => ?_) ?_
  · have hg3_5 := hg
    refine wl_on rfl rfl rfl rfl hg3_5 ?_
    refine wl_det rfl rfl (det_move rfl) rfl ?_
    refine wl_on rfl rfl rfl rfl hg3_5 ?_
    refine wl_det rfl rfl (det_eql rfl rfl) rfl ?_
    refine wl_det rfl rfl (det_and_on rfl rfl rfl hg3_5) rfl ?_
    exact wl_nil (pn_qnE (ext_cons rfl (ext_skip rfl (ext_skip rfl (ext_skip rfl ext_refl)))) (fun _ h => h))
  · have hg3_5a := hg
    refine wl_off rfl rfl rfl rfl rfl hg3_5a rfl ?_
    refine wl_off rfl rfl rfl rfl rfl hg3_5a rfl ?_
    refine wl_det rfl rfl (det_and_off (q := (decide (r2_1.2 = 0))) rfl rfl rfl hg3_5a) rfl ?_
    exact wl_nil (pn_qnE (ext_cons rfl (ext_skip rfl (ext_skip rfl (ext_skip rfl ext_refl)))) (fun _ h => h))
  refine wl_det rfl rfl (det_move rfl) rfl ?_
  obtain ⟨q3_10, hq3_10, h⟩ := bind_some h
  have ho3_10 := h
  refine wl_way ((decide (r1_1.2 = 0)) && (decide (r2_1.2 = 0))) q3_10 4 25 (fun hg => ?_) (fun hg => ?_) ?_
  · have hg3_10 := hg
    have h := ifT hq3_10 hg
    refine wl_on rfl rfl rfl rfl hg3_10 ?_
    refine wl_det rfl rfl (det_move rfl) rfl ?_
    refine wl_on rfl rfl rfl rfl hg3_10 ?_
    refine wl_act (act_litS (lInt .i64) (vs := [_, _, _]) (cs := [_, _, _]) [0, 70, 30] un22 in3 rfl rfl rfl rfl rfl ⟨rfl, rfl, rfl, trivial⟩ (by rfl) rfl (litR_flat rfl)) rfl rfl rfl ?_
    rintro _ _ _ ⟨A3_8, rfl, rfl, rfl⟩
    refine wl_on rfl rfl rfl rfl hg3_10 ?_
    obtain ⟨r3_9, hr3_9, h⟩ := bind_some h
    refine wl_act (act_callL (cap := []) [eS (lInt .i64) 3 y1_1A0 r1_1.1.length y1_1c0 r1_1.1, eS (lInt .i64) 3 A3_8 3 3 [0, 70, 30]] (W_treatyref01_SameInts r1_1.1 [0, 70, 30] y1_1A0 r1_1.1.length y1_1c0 A3_8 3 3 r3_9 hr3_9) plains_treatyref01_SameInts rfl rfl rfl bd17 rfl ⟨(ms (ms (ms m0))), ⟨m0, trivial⟩⟩ ⟨.inr ⟨_, m0, lent_eS⟩, ⟨.inr ⟨_, (ms m0), lent_eS⟩, trivial⟩⟩) rfl rfl rfl ?_
    rintro _ _ _ ⟨_, _, ⟨rfl, rfl, rfl⟩, rfl, rfl⟩
    dsimp only [List.nil_append, List.cons_append]
    replace h := Option.some.inj h
    subst h
    refine wl_det rfl rfl (det_pick_on rfl hg3_10 rfl rfl) rfl ?_
    exact wl_nil (pn_qnE (ext_cons rfl (ext_skip rfl (ext_skip rfl (ext_skip rfl (ext_skip rfl ext_refl))))) (fun _ h => h.to ⟨_, (rs r0), ⟨_, (rs r0), ⟨_, (rs r0), ⟨_, (rs r0), trivial⟩⟩⟩⟩ trivial))
  · have hg3_10a := hg
    have h := ifF hq3_10 hg
    refine wl_off rfl rfl rfl rfl rfl hg3_10a rfl ?_
    refine wl_off rfl rfl rfl rfl rfl hg3_10a rfl ?_
    refine wl_off rfl rfl rfl rfl rfl hg3_10a rfl ?_
    replace h := Option.some.inj h
    subst h
    refine wl_det rfl rfl (det_pick_off rfl hg3_10a rfl rfl) rfl ?_
    exact wl_nil (pn_qnE (ext_cons rfl (ext_skip rfl (ext_skip rfl (ext_skip rfl (ext_skip rfl ext_refl))))) (fun _ h => h))
  have h := ho3_10
  refine wl_det rfl rfl (det_move rfl) rfl ?_
  obtain ⟨q3_15, hq3_15, h⟩ := bind_some h
  have ho3_15 := h
  refine wl_way q3_10 q3_15 4 30 (fun hg => ?_) (fun hg => ?_) ?_
  · have hg3_15 := hg
    have h := ifT hq3_15 hg
    refine wl_on rfl rfl rfl rfl hg3_15 ?_
    refine wl_det rfl rfl (det_move rfl) rfl ?_
    refine wl_on rfl rfl rfl rfl hg3_15 ?_
    refine wl_act (act_litS (lInt .i64) (vs := [_, _, _]) (cs := [_, _, _]) [9, 18, 3] un22 in3 rfl rfl rfl rfl rfl ⟨rfl, rfl, rfl, trivial⟩ (by rfl) rfl (litR_flat rfl)) rfl rfl rfl ?_
    rintro _ _ _ ⟨A3_13, rfl, rfl, rfl⟩
    refine wl_on rfl rfl rfl rfl hg3_15 ?_
    obtain ⟨r3_14, hr3_14, h⟩ := bind_some h
    refine wl_act (act_callL (cap := []) [eS (lInt .i64) 3 y2_1A0 r2_1.1.length y2_1c0 r2_1.1, eS (lInt .i64) 3 A3_13 3 3 [9, 18, 3]] (W_treatyref01_SameInts r2_1.1 [9, 18, 3] y2_1A0 r2_1.1.length y2_1c0 A3_13 3 3 r3_14 hr3_14) plains_treatyref01_SameInts rfl rfl rfl bd17 rfl ⟨(ms m0), ⟨m0, trivial⟩⟩ ⟨.inr ⟨_, m0, lent_eS⟩, ⟨.inr ⟨_, (ms m0), lent_eS⟩, trivial⟩⟩) rfl rfl rfl ?_
    rintro _ _ _ ⟨_, _, ⟨rfl, rfl, rfl⟩, rfl, rfl⟩
    dsimp only [List.nil_append, List.cons_append]
    replace h := Option.some.inj h
    subst h
    refine wl_det rfl rfl (det_pick_on rfl hg3_15 rfl rfl) rfl ?_
    exact wl_nil (pn_qnE (ext_cons rfl (ext_skip rfl (ext_skip rfl (ext_skip rfl (ext_skip rfl ext_refl))))) (fun _ h => h.to ⟨_, (rs r0), ⟨_, (rs r0), ⟨_, (rs r0), ⟨_, (rs r0), trivial⟩⟩⟩⟩ trivial))
  · have hg3_15a := hg
    have h := ifF hq3_15 hg
    refine wl_off rfl rfl rfl rfl rfl hg3_15a rfl ?_
    refine wl_off rfl rfl rfl rfl rfl hg3_15a rfl ?_
    refine wl_off rfl rfl rfl rfl rfl hg3_15a rfl ?_
    replace h := Option.some.inj h
    subst h
    refine wl_det rfl rfl (det_pick_off rfl hg3_15a rfl rfl) rfl ?_
    exact wl_nil (pn_qnE (ext_cons rfl (ext_skip rfl (ext_skip rfl (ext_skip rfl (ext_skip rfl ext_refl))))) (fun _ h => h))
  have h := ho3_15
  refine wl_det rfl rfl (det_assign rfl) rfl ?_
  refine wl_nil ?_
  refine pn_then ?_
  refine wc_ret ?_
  replace h := Option.some.inj h
  subst h
  refine pn_ret (vs := [_]) rfl ⟨rfl, trivial⟩ ⟨rfl, rfl, rfl⟩ (fun _ h => h.to trivial trivial)
def Q_treatylaw23_AggregateResumes (r : Bool) : Value → List Ent → List Fact → Prop := fun v θ κ => v = .bool r ∧ θ = [] ∧ κ = []
theorem plains_treatylaw23_AggregateResumes {r : Bool} : ∀ v θ κ, Q_treatylaw23_AggregateResumes r v θ κ → Plains θ := by
  rintro _ _ _ ⟨rfl, rfl, rfl⟩
  exact trivial
set_option maxRecDepth 100000 in
theorem W_treatylaw23_AggregateResumes (a0 : (List Int)) (a1 : Int) (A0 : Option Addr) (n0 : Nat) (c0 : Nat) (r : Bool) (h : treatylaw23_AggregateResumes a0 a1 = some r) : Spec Try.prog 10 [.slice A0 n0 c0, .int .u8 a1] [] [fV (lSlice (lInt .i64)) (.slice A0 n0 c0) a0] (Q_treatylaw23_AggregateResumes r) := by
  unfold treatylaw23_AggregateResumes at h
  refine spec_of (σ := [(0, _), (1, _)]) Try.func10 rfl rfl rfl rfl ?_
  intro C
  refine wc_know (fun _ h => h.lenF m0) (fun e => ?_)
  subst e
  refine wc_seq ?_
  refine wc_region ?_   -- region 0
  refine wl_det rfl rfl (det_assign rfl) rfl ?_
  refine wl_nil ?_
  refine pn_then ?_
  refine wc_seq ?_
  refine wc_region ?_   -- region 1
  refine wl_det rfl rfl (det_move rfl) rfl ?_
  obtain ⟨r1_1, hr1_1, h⟩ := bind_some h
  refine wl_act (act_callS (cap := []) (W_treatylaw23_made a0 A0 a0.length c0 r1_1 hr1_1) rfl rfl rfl bd16 rfl ⟨m0, trivial⟩) rfl rfl rfl ?_
  rintro _ _ _ ⟨_, _, ⟨y1_1A0, y1_1n0, y1_1c0, y1_1b1, y1_1A2, y1_1n2, y1_1c2, rfl, rfl, rfl⟩, rfl, rfl⟩
  dsimp only [List.nil_append, List.cons_append]
  refine wl_know (fun _ h => h.lenO m0) (fun e => ?_)
  subst e
  refine wl_know (fun _ h => h.lenF m0) (fun e => ?_)
  subst e
  refine wl_det rfl rfl (det_move rfl) rfl ?_
  refine wl_det rfl rfl (det_extract rfl rfl) rfl ?_
  refine wl_det rfl rfl (det_extract rfl rfl) rfl ?_
  refine wl_det rfl rfl (det_extract rfl rfl) rfl ?_
  refine wl_det rfl rfl (det_extract rfl rfl) rfl ?_
  refine wl_det rfl rfl (det_assign rfl) rfl ?_
  refine wl_det rfl rfl (det_assign rfl) rfl ?_
  refine wl_det rfl rfl (det_assign rfl) rfl ?_
  refine wl_det rfl rfl (det_assign rfl) rfl ?_
  refine wl_nil ?_
  refine pn_then ?_
  refine wc_seq ?_
  refine wc_region ?_   -- region 2
  refine wl_det rfl rfl (det_move rfl) rfl ?_
  refine wl_det rfl rfl (det_conv rfl us5 un3) rfl ?_
  refine wl_det rfl rfl (det_move rfl) rfl ?_
  refine wl_det rfl rfl (det_len rfl un22) rfl ?_
  refine wl_det rfl rfl (det_add rfl rfl) rfl ?_
  obtain ⟨k2_5, h⟩ := chk_some h
  refine wl_det rfl rfl (det_remB rfl rfl k2_5) rfl ?_
  refine wl_det rfl rfl (det_assign rfl) rfl ?_
  refine wl_nil ?_
  refine pn_then ?_
  refine wc_seq ?_
  refine wc_region ?_   -- region 3
  refine wl_det rfl rfl (det_move rfl) rfl ?_
  refine wl_det rfl rfl (det_move rfl) rfl ?_
  refine wl_det rfl rfl (det_move rfl) rfl ?_
  obtain ⟨r3_3, hr3_3, h⟩ := bind_some h
  refine wl_act (act_callL (cap := []) [eS (lInt .i64) 3 y1_1A0 r1_1.1.length y1_1c0 r1_1.1] (W_aggregate_Apply r1_1.1 r1_1.2.1 r1_1.2.2.1 y1_1A0 r1_1.1.length y1_1c0 r3_3 hr3_3) plains_aggregate_Apply rfl rfl rfl bd14 rfl ⟨m0, trivial⟩ ⟨.inr ⟨_, m0, lent_eS⟩, trivial⟩) rfl rfl rfl ?_
  rintro _ _ _ ⟨_, _, ⟨y3_3A0, y3_3n0, y3_3c0, rfl, rfl, rfl⟩, rfl, rfl⟩
  dsimp only [List.nil_append, List.cons_append]
  refine wl_know (fun _ h => h.lenO m0) (fun e => ?_)
  subst e
  refine wl_det rfl rfl (det_move rfl) rfl ?_
  refine wl_det rfl rfl (det_extract rfl rfl) rfl ?_
  refine wl_det rfl rfl (det_extract rfl rfl) rfl ?_
  refine wl_det rfl rfl (det_assign rfl) rfl ?_
  refine wl_det rfl rfl (det_assign rfl) rfl ?_
  refine wl_nil ?_
  refine pn_then ?_
  refine wc_seq ?_
  refine wc_region ?_   -- region 4
  refine wl_det rfl rfl (det_move rfl) rfl ?_
  refine wl_det rfl rfl (det_move rfl) rfl ?_
  refine wl_st (fun _ h => h.shutS (rs r0)) ?_
  obtain ⟨k4_2, h⟩ := chk_some h
  obtain ⟨k4_2a, h⟩ := chk_some h
  refine wl_act (act_sliceH rfl rfl m0 un22 sz3 rfl k4_2 k4_2a) rfl rfl rfl ?_
  rintro _ _ _ ⟨A4_2, c4_2, rfl, rfl, rfl⟩
  refine wl_det rfl rfl (det_move rfl) rfl ?_
  refine wl_det rfl rfl (det_move rfl) rfl ?_
  obtain ⟨r4_5, hr4_5, h⟩ := bind_some h
  refine wl_act (act_callS (cap := []) (W_aggregate_Apply (r1_1.1.take ((w64 a1).tmod (w64 ((r1_1.1.length : Int) + 1))).toNat) r1_1.2.1 r1_1.2.2.1 A4_2 (r1_1.1.take ((w64 a1).tmod (w64 ((r1_1.1.length : Int) + 1))).toNat).length c4_2 r4_5 hr4_5) rfl rfl rfl bd14 rfl ⟨m0, trivial⟩) rfl rfl rfl ?_
  rintro _ _ _ ⟨_, _, ⟨y4_5A0, y4_5n0, y4_5c0, rfl, rfl, rfl⟩, rfl, rfl⟩
  dsimp only [List.nil_append, List.cons_append]
  refine wl_know (fun _ h => h.lenO m0) (fun e => ?_)
  subst e
  refine wl_det rfl rfl (det_move rfl) rfl ?_
  refine wl_det rfl rfl (det_extract rfl rfl) rfl ?_
  refine wl_det rfl rfl (det_extract rfl rfl) rfl ?_
  refine wl_det rfl rfl (det_assign rfl) rfl ?_
  refine wl_det rfl rfl (det_assign rfl) rfl ?_
  refine wl_nil ?_
  refine pn_then ?_
  refine wc_seq ?_
  refine wc_region ?_   -- region 5
  refine wl_det rfl rfl (det_move rfl) rfl ?_
  refine wl_det rfl rfl (det_move rfl) rfl ?_
  refine wl_act (act_sliceH rfl rfl (ms m0) un22 sz3 rfl k4_2 k4_2a) rfl rfl rfl ?_
  rintro _ _ _ ⟨A5_2, c5_2, rfl, rfl, rfl⟩
  refine wl_det rfl rfl (det_move rfl) rfl ?_
  refine wl_det rfl rfl (det_move rfl) rfl ?_
  obtain ⟨r5_5, hr5_5, h⟩ := bind_some h
  refine wl_act (act_callS (cap := []) (W_aggregate_Left (r1_1.1.take ((w64 a1).tmod (w64 ((r1_1.1.length : Int) + 1))).toNat) r1_1.2.1 r1_1.2.2.1 A5_2 (r1_1.1.take ((w64 a1).tmod (w64 ((r1_1.1.length : Int) + 1))).toNat).length c5_2 r5_5 hr5_5) rfl rfl rfl bd32 rfl ⟨m0, trivial⟩) rfl rfl rfl ?_
  rintro _ _ _ ⟨_, _, ⟨rfl, rfl, rfl⟩, rfl, rfl⟩
  dsimp only [List.nil_append, List.cons_append]
  refine wl_det rfl rfl (det_move rfl) rfl ?_
  refine wl_det rfl rfl (det_extract rfl rfl) rfl ?_
  refine wl_det rfl rfl (det_extract rfl rfl) rfl ?_
  refine wl_det rfl rfl (det_extract rfl rfl) rfl ?_
  refine wl_det rfl rfl (det_assign rfl) rfl ?_
  refine wl_det rfl rfl (det_assign rfl) rfl ?_
  refine wl_det rfl rfl (det_assign rfl) rfl ?_
  refine wl_nil ?_
  refine pn_then ?_
  refine wc_seq ?_
  refine wc_region ?_   -- region 6
  refine wl_det rfl rfl (det_move rfl) rfl ?_
  refine wl_det rfl rfl (det_move rfl) rfl ?_
  refine wl_act (act_sliceL rfl rfl (ms (ms m0)) un22 sz3 rfl k4_2 k4_2a) rfl rfl rfl ?_
  rintro _ _ _ ⟨A6_2, c6_2, rfl, rfl, rfl⟩
  refine wl_det rfl rfl (det_move rfl) rfl ?_
  refine wl_det rfl rfl (det_move rfl) rfl ?_
  obtain ⟨r6_5, hr6_5, h⟩ := bind_some h
  refine wl_act (act_callS (cap := []) (W_aggregate_Apply (r1_1.1.drop ((w64 a1).tmod (w64 ((r1_1.1.length : Int) + 1))).toNat) r5_5.1 r5_5.2.1 A6_2 (r1_1.1.drop ((w64 a1).tmod (w64 ((r1_1.1.length : Int) + 1))).toNat).length c6_2 r6_5 hr6_5) rfl rfl rfl bd14 rfl ⟨m0, trivial⟩) rfl rfl rfl ?_
  rintro _ _ _ ⟨_, _, ⟨y6_5A0, y6_5n0, y6_5c0, rfl, rfl, rfl⟩, rfl, rfl⟩
  dsimp only [List.nil_append, List.cons_append]
  refine wl_know (fun _ h => h.lenO m0) (fun e => ?_)
  subst e
  refine wl_det rfl rfl (det_move rfl) rfl ?_
  refine wl_det rfl rfl (det_extract rfl rfl) rfl ?_
  refine wl_det rfl rfl (det_extract rfl rfl) rfl ?_
  refine wl_det rfl rfl (det_assign rfl) rfl ?_
  refine wl_det rfl rfl (det_assign rfl) rfl ?_
  refine wl_nil ?_
  refine pn_then ?_
  refine wc_seq ?_
  refine wc_seq ?_
  refine wc_region ?_   -- region 7
  refine wl_det rfl rfl (det_move rfl) rfl ?_
  refine wl_det rfl rfl (det_neq rfl rfl) rfl ?_
  refine wl_det rfl rfl (det_move rfl) rfl ?_
  refine wl_way (!decide (r3_3.2 = 0)) ((!decide (r3_3.2 = 0)) || (!decide (r4_5.2 = 0))) 3 72 (fun hg => ?_) (fun hg => ?_) ?_
  · have hg7_5 := hg
    refine wl_off rfl rfl rfl rfl rfl hg7_5 rfl ?_
    refine wl_off rfl rfl rfl rfl rfl hg7_5 rfl ?_
    refine wl_det rfl rfl (det_or_on (r := (!decide (r4_5.2 = 0))) rfl rfl rfl hg7_5) rfl ?_
    exact wl_nil (pn_qnE (ext_cons rfl (ext_skip rfl (ext_skip rfl (ext_skip rfl ext_refl)))) (fun _ h => h))
  · have hg7_5a := hg
    refine wl_on rfl rfl rfl rfl hg7_5a ?_
    refine wl_det rfl rfl (det_move rfl) rfl ?_
    refine wl_on rfl rfl rfl rfl hg7_5a ?_
    refine wl_det rfl rfl (det_neq rfl rfl) rfl ?_
    refine wl_det rfl rfl (det_or_off rfl rfl rfl hg7_5a) rfl ?_
    exact wl_nil (pn_qnE (ext_cons rfl (ext_skip rfl (ext_skip rfl (ext_skip rfl ext_refl)))) (fun _ h => h))
  refine wl_det rfl rfl (det_move rfl) rfl ?_
  refine wl_way ((!decide (r3_3.2 = 0)) || (!decide (r4_5.2 = 0))) (((!decide (r3_3.2 = 0)) || (!decide (r4_5.2 = 0))) || (!decide (r5_5.2.2 = 0))) 3 76 (fun hg => ?_) (fun hg => ?_) ?_
  · have hg7_9 := hg
    refine wl_off rfl rfl rfl rfl rfl hg7_9 rfl ?_
    refine wl_off rfl rfl rfl rfl rfl hg7_9 rfl ?_
    refine wl_det rfl rfl (det_or_on (r := (!decide (r5_5.2.2 = 0))) rfl rfl rfl hg7_9) rfl ?_
    exact wl_nil (pn_qnE (ext_cons rfl (ext_skip rfl (ext_skip rfl (ext_skip rfl ext_refl)))) (fun _ h => h))
  · have hg7_9a := hg
    refine wl_on rfl rfl rfl rfl hg7_9a ?_
    refine wl_det rfl rfl (det_move rfl) rfl ?_
    refine wl_on rfl rfl rfl rfl hg7_9a ?_
    refine wl_det rfl rfl (det_neq rfl rfl) rfl ?_
    refine wl_det rfl rfl (det_or_off rfl rfl rfl hg7_9a) rfl ?_
    exact wl_nil (pn_qnE (ext_cons rfl (ext_skip rfl (ext_skip rfl (ext_skip rfl ext_refl)))) (fun _ h => h))
  refine wl_det rfl rfl (det_move rfl) rfl ?_
  refine wl_way (((!decide (r3_3.2 = 0)) || (!decide (r4_5.2 = 0))) || (!decide (r5_5.2.2 = 0))) ((((!decide (r3_3.2 = 0)) || (!decide (r4_5.2 = 0))) || (!decide (r5_5.2.2 = 0))) || (!decide (r6_5.2 = 0))) 3 80 (fun hg => ?_) (fun hg => ?_) ?_
  · have hg7_13 := hg
    refine wl_off rfl rfl rfl rfl rfl hg7_13 rfl ?_
    refine wl_off rfl rfl rfl rfl rfl hg7_13 rfl ?_
    refine wl_det rfl rfl (det_or_on (r := (!decide (r6_5.2 = 0))) rfl rfl rfl hg7_13) rfl ?_
    exact wl_nil (pn_qnE (ext_cons rfl (ext_skip rfl (ext_skip rfl (ext_skip rfl ext_refl)))) (fun _ h => h))
  · have hg7_13a := hg
    refine wl_on rfl rfl rfl rfl hg7_13a ?_
    refine wl_det rfl rfl (det_move rfl) rfl ?_
    refine wl_on rfl rfl rfl rfl hg7_13a ?_
    refine wl_det rfl rfl (det_neq rfl rfl) rfl ?_
    refine wl_det rfl rfl (det_or_off rfl rfl rfl hg7_13a) rfl ?_
    exact wl_nil (pn_qnE (ext_cons rfl (ext_skip rfl (ext_skip rfl (ext_skip rfl ext_refl)))) (fun _ h => h))
  refine wl_nil ?_
  refine pn_then ?_
  refine wc_cond rfl (fun c17 => ?_) (fun c17 => ?_)
  · have h := ifT h c17
    refine wc_seq ?_
    refine wc_region ?_   -- region 8
    refine wl_det rfl rfl (det_assign rfl) rfl ?_
    refine wl_nil ?_
    refine pn_then ?_
    refine wc_ret ?_
    refine pr_then ?_
    replace h := Option.some.inj h
    subst h
    refine pn_ret (vs := [_]) rfl ⟨rfl, trivial⟩ ⟨rfl, rfl, rfl⟩ (fun _ h => h.to trivial trivial)
  · have h := ifF h c17
    refine wc_skip ?_
    refine pn_then ?_
    obtain ⟨q20, h, ho20⟩ := bind_some h
    refine wc_meetG (G := (List Int) × Option Addr × Nat × Nat × Unit) (fun (s20, _, _, _, _) => s20 = q20) (fun (_, A20_0, n20_0, c20_0, _) => [(5, .slice y1_1A0 r1_1.1.length y1_1c0), (10, .slice y3_3A0 r3_3.1.length y3_3c0), (12, .slice y4_5A0 r4_5.1.length y4_5c0), (17, .slice A20_0 n20_0 c20_0)]) (fun (s20, A20_0, n20_0, c20_0, _) => [eS (lInt .i64) 3 y3_3A0 r3_3.1.length y3_3c0 r3_3.1, eS (lInt .i64) 3 y4_5A0 r4_5.1.length y4_5c0 r4_5.1, eS (lInt .i64) 3 A20_0 n20_0 c20_0 s20]) (fun (_, _, _, _, _) => [fV (lSlice (lInt .i64)) (.slice y1_1A0 r1_1.1.length y1_1c0) r1_1.1]) ?_ ?_
    · refine wc_seq ?_
      refine wc_region ?_   -- region 9
      refine wl_det rfl rfl (det_move rfl) rfl ?_
      refine wl_det rfl rfl (det_gtr rfl rfl) rfl ?_
      refine wl_det rfl rfl (det_move rfl) rfl ?_
      refine wl_way (decide (0 < r1_1.2.2.1)) ((decide (0 < r1_1.2.2.1)) && (decide (r5_5.2.1 = 0))) 3 86 (fun hg => ?_) (fun hg => ?_) ?_
      · have hg9_5 := hg
        refine wl_on rfl rfl rfl rfl hg9_5 ?_
        refine wl_det rfl rfl (det_move rfl) rfl ?_
        refine wl_on rfl rfl rfl rfl hg9_5 ?_
        refine wl_det rfl rfl (det_eql rfl rfl) rfl ?_
        refine wl_det rfl rfl (det_and_on rfl rfl rfl hg9_5) rfl ?_
        exact wl_nil (pn_qnE (ext_cons rfl (ext_skip rfl (ext_skip rfl (ext_skip rfl ext_refl)))) (fun _ h => h))
      · have hg9_5a := hg
        refine wl_off rfl rfl rfl rfl rfl hg9_5a rfl ?_
        refine wl_off rfl rfl rfl rfl rfl hg9_5a rfl ?_
        refine wl_det rfl rfl (det_and_off (q := (decide (r5_5.2.1 = 0))) rfl rfl rfl hg9_5a) rfl ?_
        exact wl_nil (pn_qnE (ext_cons rfl (ext_skip rfl (ext_skip rfl (ext_skip rfl ext_refl)))) (fun _ h => h))
      refine wl_nil ?_
      refine pn_then ?_
      refine wc_cond rfl (fun c23 => ?_) (fun c23 => ?_)
      · have h := ifT h c23
        refine wc_region ?_   -- region 10
        refine wl_det rfl rfl (det_move rfl) rfl ?_
        refine wl_det rfl rfl (det_len rfl un22) rfl ?_
        refine wl_det rfl rfl (det_move rfl) rfl ?_
        refine wl_det rfl rfl (det_sub rfl rfl) rfl ?_
        obtain ⟨k10_4, h⟩ := chk_some h
        obtain ⟨k10_4a, h⟩ := chk_some h
        refine wl_act (act_makeS (L := (lInt .i64)) (x0 := (0 : Int)) rfl rfl un22 in3 (by refine ⟨rfl, fun _ _ => ?_⟩; first | exact rfl | exact ⟨_, _, _, rfl, rfl, Nat.zero_le _, .inl rfl⟩) rfl rfl k10_4 (decide_eq_true (Int.le_refl _)) k10_4a) rfl rfl rfl ?_
        rintro _ _ _ ⟨A10_4, c10_4, rfl, rfl, rfl⟩
        refine wl_det rfl rfl (det_assign rfl) rfl ?_
        refine wl_nil ?_
        replace h := Option.some.inj h
        subst h
        exact pn_meetG ((List.replicate (w64 ((r1_1.1.length : Int) - ((w64 a1).tmod (w64 ((r1_1.1.length : Int) + 1))))).toNat (0 : Int)), A10_4, (List.replicate (w64 ((r1_1.1.length : Int) - ((w64 a1).tmod (w64 ((r1_1.1.length : Int) + 1))))).toNat (0 : Int)).length, c10_4, ()) rfl ⟨rfl, rfl, rfl, rfl, trivial⟩ (fun _ h => h.to ⟨_, (rs (rs (rs r0))), ⟨_, (rs (rs r0)), ⟨_, r0, trivial⟩⟩⟩ ⟨(ms (ms (ms m0))), trivial⟩)
      · have h := ifF h c23
        refine wc_skip ?_
        replace h := Option.some.inj h
        subst h
        exact pn_meetG (r6_5.1, y6_5A0, r6_5.1.length, y6_5c0, ()) rfl ⟨rfl, rfl, rfl, rfl, trivial⟩ (fun _ h => h.to ⟨_, (rs (rs r0)), ⟨_, (rs r0), ⟨_, r0, trivial⟩⟩⟩ ⟨(ms (ms (ms m0))), trivial⟩)
    rintro ⟨s20, A20_0, n20_0, c20_0, _⟩ e20
    dsimp only at e20 ⊢
    subst e20
    have h := ho20
    refine wc_know (fun _ h => h.lenO (ms (ms m0))) (fun e => ?_)
    subst e
    refine wc_seq ?_
    refine wc_region ?_   -- region 11
    refine wl_det rfl rfl (det_move rfl) rfl ?_
    refine wl_act (act_lit0S (lInt .i64) un22 (by kernel_rfl)) rfl rfl rfl ?_
    rintro _ _ _ ⟨A11_1, rfl, rfl, rfl⟩
    refine wl_det rfl rfl (det_move rfl) rfl ?_
    obtain ⟨k11_3, h⟩ := chk_some h
    refine wl_act (act_appendS0 (L := (lInt .i64)) rfl rfl s0 (src_O (ms (ms m0))) un22 in3 rfl rfl rfl k11_3) rfl rfl rfl ?_
    rintro _ _ _ ⟨A11_3, c11_3, rfl, rfl, rfl⟩
    refine wl_det rfl rfl (det_move rfl) rfl ?_
    obtain ⟨k11_5, h⟩ := chk_some h
    refine wl_act (act_appendS (L := (lInt .i64)) rfl rfl s0 (src_O (ms (ms (ms m0)))) un22 in3 rfl rfl rfl k11_5) rfl rfl rfl ?_
    rintro _ _ _ ⟨A11_5, c11_5, rfl, rfl, rfl⟩
    obtain ⟨r11_6, hr11_6, h⟩ := bind_some h
    refine wl_act (act_callL (cap := []) [eS (lInt .i64) 3 y3_3A0 r3_3.1.length y3_3c0 r3_3.1, eS (lInt .i64) 3 A11_5 (r4_5.1 ++ s20).length c11_5 (r4_5.1 ++ s20)] (W_treatyref01_SameInts r3_3.1 (r4_5.1 ++ s20) y3_3A0 r3_3.1.length y3_3c0 A11_5 (r4_5.1 ++ s20).length c11_5 r11_6 hr11_6) plains_treatyref01_SameInts rfl rfl rfl bd17 rfl ⟨(ms m0), ⟨m0, trivial⟩⟩ ⟨.inr ⟨_, m0, lent_eS⟩, ⟨.inr ⟨_, (ms m0), lent_eS⟩, trivial⟩⟩) rfl rfl rfl ?_
    rintro _ _ _ ⟨_, _, ⟨rfl, rfl, rfl⟩, rfl, rfl⟩
    dsimp only [List.nil_append, List.cons_append]
    refine wl_det rfl rfl (det_move rfl) rfl ?_
    refine wl_way r11_6 (r11_6 && (decide ((r3_3.1.length : Int) = (r1_1.1.length : Int)))) 6 105 (fun hg => ?_) (fun hg => ?_) ?_
    · have hg11_13 := hg
      refine wl_on rfl rfl rfl rfl hg11_13 ?_
      refine wl_det rfl rfl (det_move rfl) rfl ?_
      refine wl_on rfl rfl rfl rfl hg11_13 ?_
      refine wl_det rfl rfl (det_len rfl un22) rfl ?_
      refine wl_on rfl rfl rfl rfl hg11_13 ?_
      refine wl_det rfl rfl (det_move rfl) rfl ?_
      refine wl_on rfl rfl rfl rfl hg11_13 ?_
      refine wl_det rfl rfl (det_len rfl un22) rfl ?_
      refine wl_on rfl rfl rfl rfl hg11_13 ?_
      refine wl_det rfl rfl (det_eql rfl rfl) rfl ?_
      refine wl_det rfl rfl (det_and_on rfl rfl rfl hg11_13) rfl ?_
      exact wl_nil (pn_qnE (ext_cons rfl (ext_skip rfl (ext_skip rfl (ext_skip rfl (ext_skip rfl (ext_skip rfl (ext_skip rfl ext_refl))))))) (fun _ h => h))
    · have hg11_13a := hg
      refine wl_off rfl rfl rfl rfl rfl hg11_13a rfl ?_
      refine wl_off rfl rfl rfl rfl rfl hg11_13a rfl ?_
      refine wl_off rfl rfl rfl rfl rfl hg11_13a rfl ?_
      refine wl_off rfl rfl rfl rfl rfl hg11_13a rfl ?_
      refine wl_off rfl rfl rfl rfl rfl hg11_13a rfl ?_
      refine wl_det rfl rfl (det_and_off (q := (decide ((r3_3.1.length : Int) = (r1_1.1.length : Int)))) rfl rfl rfl hg11_13a) rfl ?_
      exact wl_nil (pn_qnE (ext_cons rfl (ext_skip rfl (ext_skip rfl (ext_skip rfl (ext_skip rfl (ext_skip rfl (ext_skip rfl ext_refl))))))) (fun _ h => h))
    refine wl_det rfl rfl (det_move rfl) rfl ?_
    obtain ⟨q11_16, hq11_16, h⟩ := bind_some h
    have ho11_16 := h
    refine wl_way (r11_6 && (decide ((r3_3.1.length : Int) = (r1_1.1.length : Int)))) q11_16 2 108 (fun hg => ?_) (fun hg => ?_) ?_
    · have hg11_16 := hg
      have h := ifT hq11_16 hg
      refine wl_on rfl rfl rfl rfl hg11_16 ?_
      obtain ⟨r11_15, hr11_15, h⟩ := bind_some h
      refine wl_act (act_callS (cap := []) (W_treatylaw23_awake r11_15 hr11_15) rfl rfl rfl bd13 rfl trivial) rfl rfl rfl ?_
      rintro _ _ _ ⟨_, _, ⟨rfl, rfl, rfl⟩, rfl, rfl⟩
      dsimp only [List.nil_append, List.cons_append]
      replace h := Option.some.inj h
      subst h
      refine wl_det rfl rfl (det_pick_on rfl hg11_16 rfl rfl) rfl ?_
      exact wl_nil (pn_qnE (ext_cons rfl (ext_skip rfl (ext_skip rfl ext_refl))) (fun _ h => h))
    · have hg11_16a := hg
      have h := ifF hq11_16 hg
      refine wl_off rfl rfl rfl rfl rfl hg11_16a rfl ?_
      replace h := Option.some.inj h
      subst h
      refine wl_det rfl rfl (det_pick_off rfl hg11_16a rfl rfl) rfl ?_
      exact wl_nil (pn_qnE (ext_cons rfl (ext_skip rfl (ext_skip rfl ext_refl))) (fun _ h => h))
    have h := ho11_16
    refine wl_det rfl rfl (det_assign rfl) rfl ?_
    refine wl_nil ?_
    refine pn_then ?_
    refine wc_ret ?_
    replace h := Option.some.inj h
    subst h
    refine pn_ret (vs := [_]) rfl ⟨rfl, trivial⟩ ⟨rfl, rfl, rfl⟩ (fun _ h => h.to trivial trivial)
end Go.Proofs.Ytoodneljjhbfhaa
