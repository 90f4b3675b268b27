/- That functions of the program compute the plain programs of P. Written by a small program. -/
import Derived.Test.YtdenliplkmjmjaaKTab
import Derived.Test.YtdenliplkmjmjaaP
import Derived.Test.YtdenliplkmjmjaaKMap
import Derived.Test.YtdenliplkmjmjaaKRF
import Derived.Test.YtdenliplkmjmjaaKSortK
import Derived.Test.YtdenliplkmjmjaaSort38
import Derived.Test.YtdenliplkmjmjaaSort53
namespace Go.Proofs.Ytdenliplkmjmjaa
open Go.RowKit
def lGDeck : Lay GDeck := lMap (fun x => (x.L, x.At)) (lPair (lSlice (lInt .i64)) (lInt .i64))
theorem viewGDeck {w : World} {S : Nat → Prop} {cs : List Value} {x : GDeck} (h : lGDeck.R w S cs x) : ∃ A0 c0, cs = [.slice A0 x.L.length c0, .int .i64 x.At] ∧ AllR w S [fV (lSlice (lInt .i64)) (.slice A0 x.L.length c0) x.L] := by
  obtain ⟨_, _, rfl, ⟨A0, _, c0, rfl, rfl, l0, e0⟩, rfl⟩ := h
  exact ⟨A0, c0, rfl, ⟨⟨_, _, _, rfl, rfl, l0, e0⟩, trivial⟩⟩
theorem mkGDeck {w : World} {S : Nat → Prop} {x : GDeck} {A0 : Option Addr} {n0 c0 : Nat}  (h : AllR w S [fV (lSlice (lInt .i64)) (.slice A0 n0 c0) x.L]) : lGDeck.R w S [.slice A0 n0 c0, .int .i64 x.At] x := by
  obtain ⟨k0, _⟩ := h
  exact ⟨_, _, rfl, k0, rfl⟩
def encGEntry (x : GEntry) : List Value := [.int .i64 x.Kind, .int .i64 x.Treaty, .int .i64 x.Party, .int .i64 x.Loss, .int .i64 x.Amount]
def lGEntry : Lay GEntry := lFlat encGEntry 5 (fun _ => rfl) (fun _ u hu => by simp only [encGEntry, List.mem_cons, List.not_mem_nil, or_false] at hu; rcases hu with rfl | rfl | rfl | rfl | rfl <;> rfl)
def encGPosting (x : GPosting) : List Value := [.int .i64 x.Number, .int .i64 x.Period, .int .i64 x.Entry.Kind, .int .i64 x.Entry.Treaty, .int .i64 x.Entry.Party, .int .i64 x.Entry.Loss, .int .i64 x.Entry.Amount]
def lGPosting : Lay GPosting := lFlat encGPosting 7 (fun _ => rfl) (fun _ u hu => by simp only [encGPosting, List.mem_cons, List.not_mem_nil, or_false] at hu; rcases hu with rfl | rfl | rfl | rfl | rfl | rfl | rfl <;> rfl)
def lGLedger : Lay GLedger := lMap (fun x => (x.Closed, x.Postings)) (lPair (lInt .i64) (lSlice lGPosting))
theorem viewGLedger {w : World} {S : Nat → Prop} {cs : List Value} {x : GLedger} (h : lGLedger.R w S cs x) : ∃ A0 c0, cs = [.int .i64 x.Closed, .slice A0 x.Postings.length c0] ∧ AllR w S [fV (lSlice lGPosting) (.slice A0 x.Postings.length c0) x.Postings] := by
  obtain ⟨_, _, rfl, rfl, ⟨A0, _, c0, rfl, rfl, l0, e0⟩⟩ := h
  exact ⟨A0, c0, rfl, ⟨⟨_, _, _, rfl, rfl, l0, e0⟩, trivial⟩⟩
theorem mkGLedger {w : World} {S : Nat → Prop} {x : GLedger} {A0 : Option Addr} {n0 c0 : Nat}  (h : AllR w S [fV (lSlice lGPosting) (.slice A0 n0 c0) x.Postings]) : lGLedger.R w S [.int .i64 x.Closed, .slice A0 n0 c0] x := by
  obtain ⟨k0, _⟩ := h
  exact ⟨_, _, rfl, rfl, k0⟩
def encGheading (x : Gheading) : List Value := [.int .i64 x.kind, .int .i64 x.treaty, .int .i64 x.party, .int .i64 x.loss]
def lGheading : Lay Gheading := lFlat encGheading 4 (fun _ => rfl) (fun _ u hu => by simp only [encGheading, List.mem_cons, List.not_mem_nil, or_false] at hu; rcases hu with rfl | rfl | rfl | rfl <;> rfl)
def encKGEntry (x : GEntry) : Value := .agg (encGEntry x).toArray
def encKGPosting (x : GPosting) : Value := .agg (encGPosting x).toArray
def encKGheading (x : Gheading) : Value := .agg (encGheading x).toArray
theorem ko43 : KeyOk Try.prog 43 encKGEntry := keyOk_flat eq43 (fun x => [x.Kind, x.Treaty, x.Party, x.Loss, x.Amount]) (fun _ => rfl) (fun _ => rfl) (fun x y h => by simp only [List.cons.injEq, and_true] at h; cases x; cases y; simp_all)
theorem ko53 : KeyOk Try.prog 53 encKGheading := keyOk_flat eq53 (fun x => [x.kind, x.treaty, x.party, x.loss]) (fun _ => rfl) (fun _ => rfl) (fun x y h => by simp only [List.cons.injEq, and_true] at h; cases x; cases y; simp_all)
theorem openGDeck {C : Cx} {η : List Ent} {ι : List Fact} {w : World} {A : Option Addr} {m c : Nat} {xs : List GDeck} (h : St C η ι w) (hf : fV (lSlice lGDeck) (.slice A m c) xs ∈ ι) {i : Int} (hi : inb xs i = true) : ∃ g : Option Addr × Nat, True ∧ St C η (fPt A (i.toNat * 2) [.slice g.1 (ix xs i).L.length g.2, .int .i64 (ix xs i).At] :: fV (lSlice (lInt .i64)) (.slice g.1 (ix xs i).L.length g.2) (ix xs i).L :: ι) w := by
  obtain ⟨cs, hs⟩ := h.openE hf hi
  obtain ⟨A0, c0, rfl, hr⟩ := viewGDeck (hs.facts _ (ms m0))
  exact ⟨(A0, c0), trivial, (hs.addR hr).subFacts (sub_mid (κ := [_]))⟩
theorem openGLedger {C : Cx} {η : List Ent} {ι : List Fact} {w : World} {A : Option Addr} {m c : Nat} {xs : List GLedger} (h : St C η ι w) (hf : fV (lSlice lGLedger) (.slice A m c) xs ∈ ι) {i : Int} (hi : inb xs i = true) : ∃ g : Option Addr × Nat, True ∧ St C η (fPt A (i.toNat * 2) [.int .i64 (ix xs i).Closed, .slice g.1 (ix xs i).Postings.length g.2] :: fV (lSlice lGPosting) (.slice g.1 (ix xs i).Postings.length g.2) (ix xs i).Postings :: ι) w := by
  obtain ⟨cs, hs⟩ := h.openE hf hi
  obtain ⟨A0, c0, rfl, hr⟩ := viewGLedger (hs.facts _ (ms m0))
  exact ⟨(A0, c0), trivial, (hs.addR hr).subFacts (sub_mid (κ := [_]))⟩
theorem bd5 : bodyB Try.prog 5 = true := by kernel_rfl
theorem bd6 : bodyB Try.prog 6 = true := by kernel_rfl
theorem bd7 : bodyB Try.prog 7 = true := by kernel_rfl
theorem bd8 : bodyB Try.prog 8 = true := by kernel_rfl
theorem bd9 : bodyB Try.prog 9 = true := by kernel_rfl
theorem bd11 : bodyB Try.prog 11 = true := by kernel_rfl
theorem bd12 : bodyB Try.prog 12 = true := by kernel_rfl
theorem bd13 : bodyB Try.prog 13 = true := by kernel_rfl
theorem bd14 : bodyB Try.prog 14 = true := by kernel_rfl
theorem bd15 : bodyB Try.prog 15 = true := by kernel_rfl
theorem bd16 : bodyB Try.prog 16 = true := by kernel_rfl
theorem bd17 : bodyB Try.prog 17 = true := by kernel_rfl
theorem bd18 : bodyB Try.prog 18 = true := by kernel_rfl
theorem bd19 : bodyB Try.prog 19 = true := by kernel_rfl
theorem bd20 : bodyB Try.prog 20 = true := by kernel_rfl
theorem bd21 : bodyB Try.prog 21 = true := by kernel_rfl
theorem bd22 : bodyB Try.prog 22 = true := by kernel_rfl
theorem bd23 : bodyB Try.prog 23 = true := by kernel_rfl
theorem bd24 : bodyB Try.prog 24 = true := by kernel_rfl
theorem bd25 : bodyB Try.prog 25 = true := by kernel_rfl
theorem bd26 : bodyB Try.prog 26 = true := by kernel_rfl
theorem bd27 : bodyB Try.prog 27 = true := by kernel_rfl
theorem bd28 : bodyB Try.prog 28 = true := by kernel_rfl
theorem bd29 : bodyB Try.prog 29 = true := by kernel_rfl
theorem bd30 : bodyB Try.prog 30 = true := by kernel_rfl
theorem bd31 : bodyB Try.prog 31 = true := by kernel_rfl
theorem bd32 : bodyB Try.prog 32 = true := by kernel_rfl
theorem bd33 : bodyB Try.prog 33 = true := by kernel_rfl
theorem bd34 : bodyB Try.prog 34 = true := by kernel_rfl
theorem bd35 : bodyB Try.prog 35 = true := by kernel_rfl
theorem bd36 : bodyB Try.prog 36 = true := by kernel_rfl
theorem bd37 : bodyB Try.prog 37 = true := by kernel_rfl
theorem bd38 : bodyB Try.prog 38 = true := by kernel_rfl
theorem bd39 : bodyB Try.prog 39 = true := by kernel_rfl
theorem bd40 : bodyB Try.prog 40 = true := by kernel_rfl
theorem bd41 : bodyB Try.prog 41 = true := by kernel_rfl
theorem bd42 : bodyB Try.prog 42 = true := by kernel_rfl
theorem bd43 : bodyB Try.prog 43 = true := by kernel_rfl
theorem bd44 : bodyB Try.prog 44 = true := by kernel_rfl
theorem bd45 : bodyB Try.prog 45 = true := by kernel_rfl
theorem bd46 : bodyB Try.prog 46 = true := by kernel_rfl
theorem bd47 : bodyB Try.prog 47 = true := by kernel_rfl
theorem bd50 : bodyB Try.prog 50 = true := by kernel_rfl
theorem bd51 : bodyB Try.prog 51 = true := by kernel_rfl
theorem bd52 : bodyB Try.prog 52 = true := by kernel_rfl
theorem bd53 : bodyB Try.prog 53 = true := by kernel_rfl
theorem bd54 : bodyB Try.prog 54 = true := by kernel_rfl
theorem bd55 : bodyB Try.prog 55 = true := by kernel_rfl
theorem bd56 : bodyB Try.prog 56 = true := by kernel_rfl
theorem bd57 : bodyB Try.prog 57 = true := by kernel_rfl
theorem bd68 : bodyB Try.prog 68 = true := by kernel_rfl
theorem bd69 : bodyB Try.prog 69 = true := by kernel_rfl
def Q_treatymade_New (r : GDeck) : Value → List Ent → List Fact → Prop := fun v θ κ => ∃ (pb0 : Nat), ∃ (pA1 : Option Addr), ∃ (pn1 : Nat), ∃ (pc1 : Nat), v = .pointer (some ⟨pb0, 0, none⟩) ∧ θ = [eBlk pb0 67 [.slice pA1 pn1 pc1, .int .i64 r.At]] ∧ κ = [fV (lSlice (lInt .i64)) (.slice pA1 pn1 pc1) r.L]
set_option maxHeartbeats 4000000 in
set_option maxRecDepth 100000 in
theorem W_treatymade_New (a0 : (List Int)) (A0 : Option Addr) (n0 : Nat) (c0 : Nat) (r : GDeck) (h : treatymade_New a0 = some r) : Spec Try.prog 20 [.slice A0 n0 c0] [] [fV (lSlice (lInt .i64)) (.slice A0 n0 c0) a0] (Q_treatymade_New r) := by
  unfold treatymade_New at h
  refine spec_of (σ := [(0, _)]) Try.func20 rfl rfl rfl rfl ?_
  intro C
  refine wc_know (fun _ h => h.lenF m0) (fun e => ?_)
  subst e
  refine wc_seq ?_
  refine wc_region ?_   -- region 0
  refine wl_det rfl rfl (det_assign rfl) rfl ?_
  refine wl_nil ?_
  refine pn_then ?_
  refine wc_seq ?_
  refine wc_region ?_   -- region 1
  refine wl_det rfl rfl (det_move rfl) rfl ?_
  refine wl_det rfl rfl (det_build (cs := [_, _]) pl67 zr67 rfl rfl (by rfl)) rfl ?_
  refine wl_act (act_box (cs := [_, _]) rfl rfl) rfl rfl rfl ?_
  rintro _ _ _ ⟨b1_2, rfl, rfl, rfl⟩
  refine wl_det rfl rfl (det_assign rfl) rfl ?_
  refine wl_nil ?_
  refine pn_then ?_
  refine wc_ret ?_
  replace h := Option.some.inj h
  subst h
  refine pn_ret (vs := [_]) rfl ⟨rfl, trivial⟩ ⟨b1_2, A0, a0.length, c0, rfl, rfl, rfl⟩ (fun _ h => h.to ⟨_, r0, trivial⟩ ⟨m0, trivial⟩)
def Q_treatymade2_New (r : GDeck) : Value → List Ent → List Fact → Prop := fun v θ κ => ∃ (pb0 : Nat), ∃ (pA1 : Option Addr), ∃ (pn1 : Nat), ∃ (pc1 : Nat), v = .pointer (some ⟨pb0, 0, none⟩) ∧ θ = [eBlk pb0 67 [.slice pA1 pn1 pc1, .int .i64 r.At]] ∧ κ = [fV (lSlice (lInt .i64)) (.slice pA1 pn1 pc1) r.L]
set_option maxHeartbeats 4000000 in
set_option maxRecDepth 100000 in
theorem W_treatymade2_New (a0 : (List Int)) (A0 : Option Addr) (n0 : Nat) (c0 : Nat) (r : GDeck) (h : treatymade2_New a0 = some r) : Spec Try.prog 7 [.slice A0 n0 c0] [] [fV (lSlice (lInt .i64)) (.slice A0 n0 c0) a0] (Q_treatymade2_New r) := by
  unfold treatymade2_New at h
  refine spec_of (σ := [(0, _)]) Try.func7 rfl rfl rfl rfl ?_
  intro C
  refine wc_know (fun _ h => h.lenF m0) (fun e => ?_)
  subst e
  refine wc_seq ?_
  refine wc_region ?_   -- region 0
  refine wl_det rfl rfl (det_assign rfl) rfl ?_
  refine wl_nil ?_
  refine pn_then ?_
  refine wc_seq ?_
  refine wc_region ?_   -- region 1
  refine wl_det rfl rfl (det_move rfl) rfl ?_
  obtain ⟨r1_1, hr1_1, h⟩ := bind_some h
  refine wl_act (act_callS (cap := []) (W_treatymade_New a0 A0 a0.length c0 r1_1 hr1_1) rfl rfl rfl bd20 rfl ⟨m0, trivial⟩) rfl rfl rfl ?_
  rintro _ _ _ ⟨_, _, ⟨y1_1b0, y1_1A1, y1_1n1, y1_1c1, rfl, rfl, rfl⟩, rfl, rfl⟩
  dsimp only [List.nil_append, List.cons_append]
  refine wl_know (fun _ h => h.lenF m0) (fun e => ?_)
  subst e
  refine wl_det rfl rfl (det_assign rfl) rfl ?_
  refine wl_nil ?_
  refine pn_then ?_
  refine wc_ret ?_
  replace h := Option.some.inj h
  subst h
  refine pn_ret (vs := [_]) rfl ⟨rfl, trivial⟩ ⟨y1_1b0, y1_1A1, r1_1.L.length, y1_1c1, rfl, rfl, rfl⟩ (fun _ h => h.to ⟨_, r0, trivial⟩ ⟨m0, trivial⟩)
def Q_treatymade_Deck_Next (Ba0 : Nat) (r : Int × GDeck) : Value → List Ent → List Fact → Prop := fun v θ κ => ∃ (pA0 : Option Addr), ∃ (pn0 : Nat), ∃ (pc0 : Nat), v = .int .i64 r.1 ∧ θ = [eBlk Ba0 67 [.slice pA0 pn0 pc0, .int .i64 r.2.At]] ∧ κ = [fV (lSlice (lInt .i64)) (.slice pA0 pn0 pc0) r.2.L]
set_option maxHeartbeats 4000000 in
set_option maxRecDepth 100000 in
theorem W_treatymade_Deck_Next (a0 : GDeck) (a1 : Int) (Ba0 : Nat) (A1 : Option Addr) (n1 : Nat) (c1 : Nat) (r : Int × GDeck) (h : treatymade_Deck_Next a0 a1 = some r) : Spec Try.prog 16 [.pointer (some ⟨Ba0, 0, none⟩), .int .i64 a1] [eBlk Ba0 67 [.slice A1 n1 c1, .int .i64 a0.At]] [fV (lSlice (lInt .i64)) (.slice A1 n1 c1) a0.L] (Q_treatymade_Deck_Next Ba0 r) := by
  unfold treatymade_Deck_Next at h
  refine spec_of (σ := [(0, _), (1, _)]) Try.func16 rfl rfl rfl rfl ?_
  intro C
  refine wc_know (fun _ h => h.lenF m0) (fun e => ?_)
  subst e
  refine wc_seq ?_
  refine wc_region ?_   -- region 0
  refine wl_det rfl rfl (det_assign rfl) rfl ?_
  refine wl_nil ?_
  refine pn_then ?_
  refine wc_seq ?_
  refine wc_seq ?_
  refine dx_region 10 [[], [0], [0, 1], [0, 1, 2], [], [4], [4, 5], [4, 5, 6], [4, 5, 6, 7], [0, 1, 2, 3, 4, 5, 6, 7, 8]] mixed (ord := (.det 0 (.det 1 (.det 2 (.det 3 (.det 4 (.det 5 (.det 6 (.det 7 (.det 8 (.det 9 .done))))))))))) (by kernel_rfl) ?_   -- region 1
  refine hx_det rfl rfl rfl nofun (det_move rfl) rfl ?_
  refine hx_det rfl rfl rfl nofun (det_nilCheckB rfl) rfl ?_
  refine hx_det rfl rfl rfl nofun (det_field rfl fd67_1 rfl) rfl ?_
  refine hx_det rfl rfl rfl nofun (det_load rfl m0 (by rfl) na3 us3) rfl ?_
  refine hx_det rfl rfl rfl nofun (det_move rfl) rfl ?_
  refine hx_det rfl rfl rfl nofun (det_nilCheckB rfl) rfl ?_
  refine hx_det rfl rfl rfl nofun (det_field rfl fd67_0 rfl) rfl ?_
  refine hx_det rfl rfl rfl nofun (det_load rfl m0 (by rfl) na22 us22) rfl ?_
  refine hx_det rfl rfl rfl nofun (det_len rfl un22) rfl ?_
  refine hx_det rfl rfl rfl nofun (det_geq rfl rfl) rfl ?_
  refine hx_end ?_
  refine wl_nil ?_
  refine pn_then ?_
  refine wc_cond rfl (fun cd5 => ?_) (fun cd5 => ?_)
  · have h := ifT h cd5
    refine wc_seq ?_
    refine wc_region ?_   -- region 2
    refine wl_det rfl rfl (det_assign rfl) rfl ?_
    refine wl_nil ?_
    refine pn_then ?_
    refine wc_ret ?_
    refine pr_then ?_
    replace h := Option.some.inj h
    subst h
    refine pn_ret (vs := [_]) rfl ⟨rfl, trivial⟩ ⟨A1, a0.L.length, c1, rfl, rfl, rfl⟩ (fun _ h => h.to ⟨_, r0, trivial⟩ ⟨m0, trivial⟩)
  · have h := ifF h cd5
    refine wc_skip ?_
    refine pn_then ?_
    refine wc_seq ?_
    refine wc_region ?_   -- region 3
    refine wl_det rfl rfl (det_move rfl) rfl ?_
    refine wl_det rfl rfl (det_nilCheckB rfl) rfl ?_
    refine wl_det rfl rfl (det_field rfl fd67_1 rfl) rfl ?_
    refine wl_det rfl rfl (det_load rfl m0 (by rfl) na3 us3) rfl ?_
    refine wl_det rfl rfl (det_add rfl rfl) rfl ?_
    refine wl_det rfl rfl (det_nilCheckB rfl) rfl ?_
    refine wl_det rfl rfl (det_field rfl fd67_1 rfl) rfl ?_
    refine wl_act0 (act_store (cells := [_]) (cs' := [_, _]) rfl rfl rfl s0 (by rfl) (of_decide_eq_true rfl) sz3 ⟨rfl, trivial⟩) rfl rfl ?_
    rintro _ _ _ ⟨rfl, rfl⟩
    refine wl_nil ?_
    refine pn_then ?_
    refine wc_seq ?_
    obtain ⟨k4_p1, h⟩ := chk_some h
    refine wc_st (fun _ h => h.openF m0 k4_p1) ?_
    obtain ⟨k4_p3, h⟩ := chk_some h
    refine dx_region 17 [[], [0], [0, 1], [0, 1, 2], [], [4], [4, 5], [4, 5, 6], [4, 5, 6, 7], [0, 1, 2, 3, 4, 5, 6, 7, 8], [0, 1, 2, 3, 4, 5, 6, 7, 8, 9], [], [0, 1, 2, 3, 4, 5, 6, 7, 8, 9, 10, 11], [], [0, 1, 2, 3, 4, 5, 6, 7, 8, 9, 10, 11, 12, 13], [], [0, 1, 2, 3, 4, 5, 6, 7, 8, 9, 10, 11, 12, 13, 14, 15], [0, 1, 2, 3, 4, 5, 6, 7, 8, 9, 10, 11, 12, 13, 14, 15, 16]] mixed (ord := (.det 0 (.det 1 (.det 2 (.det 3 (.det 4 (.det 5 (.det 6 (.det 7 (.det 8 (.det 9 (.det 10 (.det 11 (.det 12 (.det 13 (.det 14 (.det 15 (.det 16 .done)))))))))))))))))) (by kernel_rfl) ?_   -- region 4
    refine hx_det rfl rfl rfl nofun (det_move rfl) rfl ?_
    refine hx_det rfl rfl rfl nofun (det_nilCheckB rfl) rfl ?_
    refine hx_det rfl rfl rfl nofun (det_field rfl fd67_0 rfl) rfl ?_
    refine hx_det rfl rfl rfl nofun (det_load rfl m0 (by rfl) na22 us22) rfl ?_
    refine hx_det rfl rfl rfl nofun (det_move rfl) rfl ?_
    refine hx_det rfl rfl rfl nofun (det_nilCheckB rfl) rfl ?_
    refine hx_det rfl rfl rfl nofun (det_field rfl fd67_1 rfl) rfl ?_
    refine hx_det rfl rfl rfl nofun (det_load rfl m0 (by rfl) na3 us3) rfl ?_
    refine hx_det rfl rfl rfl nofun (det_sub rfl rfl) rfl ?_
    refine hx_det rfl rfl rfl nofun (det_indexP rfl rfl (ms m0) k4_p1 m0 un22 sz3) rfl ?_
    refine hx_det rfl rfl rfl nofun (det_loadP (off := 0) rfl m0 (by rfl) (by rfl) (loaded_1 na3 us3)) rfl ?_
    refine hx_det rfl rfl rfl nofun (det_move rfl) rfl ?_
    refine hx_det rfl rfl rfl nofun (det_remB rfl rfl k4_p3) rfl ?_
    refine hx_det rfl rfl rfl nofun (det_move rfl) rfl ?_
    refine hx_det rfl rfl rfl nofun (det_add rfl rfl) rfl ?_
    refine hx_det rfl rfl rfl nofun (det_move rfl) rfl ?_
    refine hx_det rfl rfl rfl nofun (det_remB rfl rfl k4_p3) rfl ?_
    refine hx_end ?_
    refine wl_det rfl rfl (det_assign rfl) rfl ?_
    refine wl_nil ?_
    refine pn_then ?_
    refine wc_ret ?_
    replace h := Option.some.inj h
    subst h
    refine pn_ret (vs := [_]) rfl ⟨rfl, trivial⟩ ⟨A1, a0.L.length, c1, rfl, rfl, rfl⟩ (fun _ h => h.to ⟨_, r0, trivial⟩ ⟨(ms m0), trivial⟩)
def Q_treatyref01_Valid (r : Bool) : Value → List Ent → List Fact → Prop := fun v θ κ => v = .bool r ∧ θ = [] ∧ κ = []
theorem plains_treatyref01_Valid {r : Bool} : ∀ v θ κ, Q_treatyref01_Valid r v θ κ → Plains θ := by
  rintro _ _ _ ⟨rfl, rfl, rfl⟩
  exact trivial
set_option maxHeartbeats 4000000 in
set_option maxRecDepth 100000 in
theorem W_treatyref01_Valid (a0 : Int) (r : Bool) (h : treatyref01_Valid a0 = some r) : Spec Try.prog 55 [.int .i64 a0] [] [] (Q_treatyref01_Valid r) := by
  unfold treatyref01_Valid at h
  refine spec_of (σ := [(0, _)]) Try.func55 rfl rfl rfl rfl ?_
  intro C
  refine wc_seq ?_
  refine wc_region ?_   -- region 0
  refine wl_det rfl rfl (det_assign rfl) rfl ?_
  refine wl_nil ?_
  refine pn_then ?_
  refine wc_seq ?_
  refine wc_region ?_   -- region 1
  refine wl_det rfl rfl (det_move rfl) rfl ?_
  refine wl_det rfl rfl (det_geq rfl rfl) rfl ?_
  refine wl_det rfl rfl (det_move rfl) rfl ?_
  refine wl_way (decide ((-17592186044416) ≤ a0)) ((decide ((-17592186044416) ≤ a0)) && (decide (a0 ≤ 17592186044416))) 3 8 (fun hg => ?_) (fun hg => ?_) ?_
  · have hg1_5 := hg
    refine wl_on rfl rfl rfl rfl hg1_5 ?_
    refine wl_det rfl rfl (det_move rfl) rfl ?_
    refine wl_on rfl rfl rfl rfl hg1_5 ?_
    refine wl_det rfl rfl (det_leq rfl rfl) rfl ?_
    refine wl_det rfl rfl (det_and_on rfl rfl rfl hg1_5) rfl ?_
    exact wl_nil (pn_qnE (ext_cons rfl (ext_skip rfl (ext_skip rfl (ext_skip rfl ext_refl)))) (fun _ h => h))
  · have hg1_5a := hg
    refine wl_off rfl rfl rfl rfl rfl hg1_5a rfl ?_
    refine wl_off rfl rfl rfl rfl rfl hg1_5a rfl ?_
    refine wl_det rfl rfl (det_and_off (q := (decide (a0 ≤ 17592186044416))) rfl rfl rfl hg1_5a) rfl ?_
    exact wl_nil (pn_qnE (ext_cons rfl (ext_skip rfl (ext_skip rfl (ext_skip rfl ext_refl)))) (fun _ h => h))
  refine wl_det rfl rfl (det_assign rfl) rfl ?_
  refine wl_nil ?_
  refine pn_then ?_
  refine wc_ret ?_
  replace h := Option.some.inj h
  subst h
  refine pn_ret (vs := [_]) rfl ⟨rfl, trivial⟩ ⟨rfl, rfl, rfl⟩ (fun _ h => h.to trivial trivial)
def Q_treatyref33_Valid (r : Bool) : Value → List Ent → List Fact → Prop := fun v θ κ => v = .bool r ∧ θ = [] ∧ κ = []
theorem plains_treatyref33_Valid {r : Bool} : ∀ v θ κ, Q_treatyref33_Valid r v θ κ → Plains θ := by
  rintro _ _ _ ⟨rfl, rfl, rfl⟩
  exact trivial
set_option maxHeartbeats 4000000 in
set_option maxRecDepth 100000 in
theorem W_treatyref33_Valid (a0 : GEntry) (r : Bool) (h : treatyref33_Valid a0 = some r) : Spec Try.prog 44 [.agg #[.int .i64 a0.Kind, .int .i64 a0.Treaty, .int .i64 a0.Party, .int .i64 a0.Loss, .int .i64 a0.Amount]] [] [] (Q_treatyref33_Valid r) := by
  unfold treatyref33_Valid at h
  refine spec_of (σ := [(0, _)]) Try.func44 rfl rfl rfl rfl ?_
  intro C
  refine wc_seq ?_
  refine wc_region ?_   -- region 0
  refine wl_act (act_box (cs := [_, _, _, _, _]) rfl rfl) rfl rfl rfl ?_
  rintro _ _ _ ⟨b0_0, rfl, rfl, rfl⟩
  refine wl_det rfl rfl (det_assign rfl) rfl ?_
  refine wl_nil ?_
  refine pn_then ?_
  refine wc_seq ?_
  refine wc_region ?_   -- region 1
  refine wl_det rfl rfl (det_field rfl fd43_3 rfl) rfl ?_
  refine wl_det rfl rfl (det_load rfl m0 (by rfl) na3 us3) rfl ?_
  refine wl_det rfl rfl (det_eql rfl rfl) rfl ?_
  refine wl_det rfl rfl (det_assign rfl) rfl ?_
  refine wl_nil ?_
  refine pn_then ?_
  obtain ⟨q4, h, ho4⟩ := bind_some h
  refine wc_meetG (G := Bool × Unit) (fun (s4, _) => s4 = q4) (fun (s4, _) => [(1, .pointer (some ⟨b0_0, 0, none⟩)), (3, .bool s4)]) (fun (_, _) => [eBlk b0_0 43 [.int .i64 a0.Kind, .int .i64 a0.Treaty, .int .i64 a0.Party, .int .i64 a0.Loss, .int .i64 a0.Amount]]) (fun (_, _) => []) ?_ ?_
  · refine wc_seq ?_
    refine wc_region ?_   -- region 2
    refine wl_det rfl rfl (det_field rfl fd43_0 rfl) rfl ?_
    refine wl_det rfl rfl (det_load rfl m0 (by rfl) na3 us3) rfl ?_
    refine wl_det rfl rfl (det_eql rfl rfl) rfl ?_
    refine wl_det rfl rfl (det_move rfl) rfl ?_
    refine wl_way (decide (a0.Kind = 1)) ((decide (a0.Kind = 1)) || (decide (a0.Kind = 2))) 4 14 (fun hg => ?_) (fun hg => ?_) ?_
    · have hg2_7 := hg
      refine wl_off rfl rfl rfl rfl rfl hg2_7 rfl ?_
      refine wl_off rfl rfl rfl rfl rfl hg2_7 rfl ?_
      refine wl_off rfl rfl rfl rfl rfl hg2_7 rfl ?_
      refine wl_det rfl rfl (det_or_on (r := (decide (a0.Kind = 2))) rfl rfl rfl hg2_7) rfl ?_
      exact wl_nil (pn_qnE (ext_cons rfl (ext_skip rfl (ext_skip rfl (ext_skip rfl (ext_skip rfl ext_refl))))) (fun _ h => h))
    · have hg2_7a := hg
      refine wl_on rfl rfl rfl rfl hg2_7a ?_
      refine wl_det rfl rfl (det_field rfl fd43_0 rfl) rfl ?_
      refine wl_on rfl rfl rfl rfl hg2_7a ?_
      refine wl_det rfl rfl (det_load rfl m0 (by rfl) na3 us3) rfl ?_
      refine wl_on rfl rfl rfl rfl hg2_7a ?_
      refine wl_det rfl rfl (det_eql rfl rfl) rfl ?_
      refine wl_det rfl rfl (det_or_off rfl rfl rfl hg2_7a) rfl ?_
      exact wl_nil (pn_qnE (ext_cons rfl (ext_skip rfl (ext_skip rfl (ext_skip rfl (ext_skip rfl ext_refl))))) (fun _ h => h))
    refine wl_nil ?_
    refine pn_then ?_
    refine wc_cond rfl (fun cd7 => ?_) (fun cd7 => ?_)
    · have h := ifT h cd7
      refine wc_region ?_   -- region 3
      refine wl_det rfl rfl (det_field rfl fd43_3 rfl) rfl ?_
      refine wl_det rfl rfl (det_load rfl m0 (by rfl) na3 us3) rfl ?_
      refine wl_det rfl rfl (det_geq rfl rfl) rfl ?_
      refine wl_det rfl rfl (det_move rfl) rfl ?_
      refine wl_way (decide (1 ≤ a0.Loss)) ((decide (1 ≤ a0.Loss)) && (decide (a0.Loss ≤ 1048576))) 4 22 (fun hg => ?_) (fun hg => ?_) ?_
      · have hg3_7 := hg
        refine wl_on rfl rfl rfl rfl hg3_7 ?_
        refine wl_det rfl rfl (det_field rfl fd43_3 rfl) rfl ?_
        refine wl_on rfl rfl rfl rfl hg3_7 ?_
        refine wl_det rfl rfl (det_load rfl m0 (by rfl) na3 us3) rfl ?_
        refine wl_on rfl rfl rfl rfl hg3_7 ?_
        refine wl_det rfl rfl (det_leq rfl rfl) rfl ?_
        refine wl_det rfl rfl (det_and_on rfl rfl rfl hg3_7) rfl ?_
        exact wl_nil (pn_qnE (ext_cons rfl (ext_skip rfl (ext_skip rfl (ext_skip rfl (ext_skip rfl ext_refl))))) (fun _ h => h))
      · have hg3_7a := hg
        refine wl_off rfl rfl rfl rfl rfl hg3_7a rfl ?_
        refine wl_off rfl rfl rfl rfl rfl hg3_7a rfl ?_
        refine wl_off rfl rfl rfl rfl rfl hg3_7a rfl ?_
        refine wl_det rfl rfl (det_and_off (q := (decide (a0.Loss ≤ 1048576))) rfl rfl rfl hg3_7a) rfl ?_
        exact wl_nil (pn_qnE (ext_cons rfl (ext_skip rfl (ext_skip rfl (ext_skip rfl (ext_skip rfl ext_refl))))) (fun _ h => h))
      refine wl_det rfl rfl (det_assign rfl) rfl ?_
      refine wl_nil ?_
      replace h := Option.some.inj h
      subst h
      exact pn_meetG (((decide (1 ≤ a0.Loss)) && (decide (a0.Loss ≤ 1048576))), ()) rfl ⟨rfl, rfl, trivial⟩ (fun _ h => h.to ⟨_, r0, trivial⟩ trivial)
    · have h := ifF h cd7
      refine wc_skip ?_
      replace h := Option.some.inj h
      subst h
      exact pn_meetG ((decide (a0.Loss = 0)), ()) rfl ⟨rfl, rfl, trivial⟩ (fun _ h => h.to ⟨_, r0, trivial⟩ trivial)
  rintro ⟨s4, _⟩ e4
  dsimp only at e4 ⊢
  subst e4
  have h := ho4
  refine wc_seq ?_
  refine wc_region ?_   -- region 4
  refine wl_det rfl rfl (det_field rfl fd43_0 rfl) rfl ?_
  refine wl_det rfl rfl (det_load rfl m0 (by rfl) na3 us3) rfl ?_
  refine wl_det rfl rfl (det_geq rfl rfl) rfl ?_
  refine wl_det rfl rfl (det_move rfl) rfl ?_
  refine wl_way (decide (1 ≤ a0.Kind)) ((decide (1 ≤ a0.Kind)) && (decide (a0.Kind ≤ 5))) 4 30 (fun hg => ?_) (fun hg => ?_) ?_
  · have hg4_7 := hg
    refine wl_on rfl rfl rfl rfl hg4_7 ?_
    refine wl_det rfl rfl (det_field rfl fd43_0 rfl) rfl ?_
    refine wl_on rfl rfl rfl rfl hg4_7 ?_
    refine wl_det rfl rfl (det_load rfl m0 (by rfl) na3 us3) rfl ?_
    refine wl_on rfl rfl rfl rfl hg4_7 ?_
    refine wl_det rfl rfl (det_leq rfl rfl) rfl ?_
    refine wl_det rfl rfl (det_and_on rfl rfl rfl hg4_7) rfl ?_
    exact wl_nil (pn_qnE (ext_cons rfl (ext_skip rfl (ext_skip rfl (ext_skip rfl (ext_skip rfl ext_refl))))) (fun _ h => h))
  · have hg4_7a := hg
    refine wl_off rfl rfl rfl rfl rfl hg4_7a rfl ?_
    refine wl_off rfl rfl rfl rfl rfl hg4_7a rfl ?_
    refine wl_off rfl rfl rfl rfl rfl hg4_7a rfl ?_
    refine wl_det rfl rfl (det_and_off (q := (decide (a0.Kind ≤ 5))) rfl rfl rfl hg4_7a) rfl ?_
    exact wl_nil (pn_qnE (ext_cons rfl (ext_skip rfl (ext_skip rfl (ext_skip rfl (ext_skip rfl ext_refl))))) (fun _ h => h))
  refine wl_det rfl rfl (det_move rfl) rfl ?_
  refine wl_way ((decide (1 ≤ a0.Kind)) && (decide (a0.Kind ≤ 5))) (((decide (1 ≤ a0.Kind)) && (decide (a0.Kind ≤ 5))) && (decide (0 ≤ a0.Treaty))) 4 35 (fun hg => ?_) (fun hg => ?_) ?_
  · have hg4_12 := hg
    refine wl_on rfl rfl rfl rfl hg4_12 ?_
    refine wl_det rfl rfl (det_field rfl fd43_1 rfl) rfl ?_
    refine wl_on rfl rfl rfl rfl hg4_12 ?_
    refine wl_det rfl rfl (det_load rfl m0 (by rfl) na3 us3) rfl ?_
    refine wl_on rfl rfl rfl rfl hg4_12 ?_
    refine wl_det rfl rfl (det_geq rfl rfl) rfl ?_
    refine wl_det rfl rfl (det_and_on rfl rfl rfl hg4_12) rfl ?_
    exact wl_nil (pn_qnE (ext_cons rfl (ext_skip rfl (ext_skip rfl (ext_skip rfl (ext_skip rfl ext_refl))))) (fun _ h => h))
  · have hg4_12a := hg
    refine wl_off rfl rfl rfl rfl rfl hg4_12a rfl ?_
    refine wl_off rfl rfl rfl rfl rfl hg4_12a rfl ?_
    refine wl_off rfl rfl rfl rfl rfl hg4_12a rfl ?_
    refine wl_det rfl rfl (det_and_off (q := (decide (0 ≤ a0.Treaty))) rfl rfl rfl hg4_12a) rfl ?_
    exact wl_nil (pn_qnE (ext_cons rfl (ext_skip rfl (ext_skip rfl (ext_skip rfl (ext_skip rfl ext_refl))))) (fun _ h => h))
  refine wl_det rfl rfl (det_move rfl) rfl ?_
  refine wl_way (((decide (1 ≤ a0.Kind)) && (decide (a0.Kind ≤ 5))) && (decide (0 ≤ a0.Treaty))) ((((decide (1 ≤ a0.Kind)) && (decide (a0.Kind ≤ 5))) && (decide (0 ≤ a0.Treaty))) && (decide (a0.Treaty ≤ 1048576))) 4 40 (fun hg => ?_) (fun hg => ?_) ?_
  · have hg4_17 := hg
    refine wl_on rfl rfl rfl rfl hg4_17 ?_
    refine wl_det rfl rfl (det_field rfl fd43_1 rfl) rfl ?_
    refine wl_on rfl rfl rfl rfl hg4_17 ?_
    refine wl_det rfl rfl (det_load rfl m0 (by rfl) na3 us3) rfl ?_
    refine wl_on rfl rfl rfl rfl hg4_17 ?_
    refine wl_det rfl rfl (det_leq rfl rfl) rfl ?_
    refine wl_det rfl rfl (det_and_on rfl rfl rfl hg4_17) rfl ?_
    exact wl_nil (pn_qnE (ext_cons rfl (ext_skip rfl (ext_skip rfl (ext_skip rfl (ext_skip rfl ext_refl))))) (fun _ h => h))
  · have hg4_17a := hg
    refine wl_off rfl rfl rfl rfl rfl hg4_17a rfl ?_
    refine wl_off rfl rfl rfl rfl rfl hg4_17a rfl ?_
    refine wl_off rfl rfl rfl rfl rfl hg4_17a rfl ?_
    refine wl_det rfl rfl (det_and_off (q := (decide (a0.Treaty ≤ 1048576))) rfl rfl rfl hg4_17a) rfl ?_
    exact wl_nil (pn_qnE (ext_cons rfl (ext_skip rfl (ext_skip rfl (ext_skip rfl (ext_skip rfl ext_refl))))) (fun _ h => h))
  refine wl_det rfl rfl (det_move rfl) rfl ?_
  refine wl_way ((((decide (1 ≤ a0.Kind)) && (decide (a0.Kind ≤ 5))) && (decide (0 ≤ a0.Treaty))) && (decide (a0.Treaty ≤ 1048576))) (((((decide (1 ≤ a0.Kind)) && (decide (a0.Kind ≤ 5))) && (decide (0 ≤ a0.Treaty))) && (decide (a0.Treaty ≤ 1048576))) && (decide (0 ≤ a0.Party))) 4 45 (fun hg => ?_) (fun hg => ?_) ?_
  · have hg4_22 := hg
    refine wl_on rfl rfl rfl rfl hg4_22 ?_
    refine wl_det rfl rfl (det_field rfl fd43_2 rfl) rfl ?_
    refine wl_on rfl rfl rfl rfl hg4_22 ?_
    refine wl_det rfl rfl (det_load rfl m0 (by rfl) na3 us3) rfl ?_
    refine wl_on rfl rfl rfl rfl hg4_22 ?_
    refine wl_det rfl rfl (det_geq rfl rfl) rfl ?_
    refine wl_det rfl rfl (det_and_on rfl rfl rfl hg4_22) rfl ?_
    exact wl_nil (pn_qnE (ext_cons rfl (ext_skip rfl (ext_skip rfl (ext_skip rfl (ext_skip rfl ext_refl))))) (fun _ h => h))
  · have hg4_22a := hg
    refine wl_off rfl rfl rfl rfl rfl hg4_22a rfl ?_
    refine wl_off rfl rfl rfl rfl rfl hg4_22a rfl ?_
    refine wl_off rfl rfl rfl rfl rfl hg4_22a rfl ?_
    refine wl_det rfl rfl (det_and_off (q := (decide (0 ≤ a0.Party))) rfl rfl rfl hg4_22a) rfl ?_
    exact wl_nil (pn_qnE (ext_cons rfl (ext_skip rfl (ext_skip rfl (ext_skip rfl (ext_skip rfl ext_refl))))) (fun _ h => h))
  refine wl_det rfl rfl (det_move rfl) rfl ?_
  refine wl_way (((((decide (1 ≤ a0.Kind)) && (decide (a0.Kind ≤ 5))) && (decide (0 ≤ a0.Treaty))) && (decide (a0.Treaty ≤ 1048576))) && (decide (0 ≤ a0.Party))) ((((((decide (1 ≤ a0.Kind)) && (decide (a0.Kind ≤ 5))) && (decide (0 ≤ a0.Treaty))) && (decide (a0.Treaty ≤ 1048576))) && (decide (0 ≤ a0.Party))) && (decide (a0.Party ≤ 15))) 4 50 (fun hg => ?_) (fun hg => ?_) ?_
  · have hg4_27 := hg
    refine wl_on rfl rfl rfl rfl hg4_27 ?_
    refine wl_det rfl rfl (det_field rfl fd43_2 rfl) rfl ?_
    refine wl_on rfl rfl rfl rfl hg4_27 ?_
    refine wl_det rfl rfl (det_load rfl m0 (by rfl) na3 us3) rfl ?_
    refine wl_on rfl rfl rfl rfl hg4_27 ?_
    refine wl_det rfl rfl (det_leq rfl rfl) rfl ?_
    refine wl_det rfl rfl (det_and_on rfl rfl rfl hg4_27) rfl ?_
    exact wl_nil (pn_qnE (ext_cons rfl (ext_skip rfl (ext_skip rfl (ext_skip rfl (ext_skip rfl ext_refl))))) (fun _ h => h))
  · have hg4_27a := hg
    refine wl_off rfl rfl rfl rfl rfl hg4_27a rfl ?_
    refine wl_off rfl rfl rfl rfl rfl hg4_27a rfl ?_
    refine wl_off rfl rfl rfl rfl rfl hg4_27a rfl ?_
    refine wl_det rfl rfl (det_and_off (q := (decide (a0.Party ≤ 15))) rfl rfl rfl hg4_27a) rfl ?_
    exact wl_nil (pn_qnE (ext_cons rfl (ext_skip rfl (ext_skip rfl (ext_skip rfl (ext_skip rfl ext_refl))))) (fun _ h => h))
  refine wl_det rfl rfl (det_move rfl) rfl ?_
  refine wl_way ((((((decide (1 ≤ a0.Kind)) && (decide (a0.Kind ≤ 5))) && (decide (0 ≤ a0.Treaty))) && (decide (a0.Treaty ≤ 1048576))) && (decide (0 ≤ a0.Party))) && (decide (a0.Party ≤ 15))) (((((((decide (1 ≤ a0.Kind)) && (decide (a0.Kind ≤ 5))) && (decide (0 ≤ a0.Treaty))) && (decide (a0.Treaty ≤ 1048576))) && (decide (0 ≤ a0.Party))) && (decide (a0.Party ≤ 15))) && s4) 2 53 (fun hg => ?_) (fun hg => ?_) ?_
  · have hg4_30 := hg
    refine wl_on rfl rfl rfl rfl hg4_30 ?_
    refine wl_det rfl rfl (det_move rfl) rfl ?_
    refine wl_det rfl rfl (det_and_on rfl rfl rfl hg4_30) rfl ?_
    exact wl_nil (pn_qnE (ext_cons rfl (ext_skip rfl (ext_skip rfl ext_refl))) (fun _ h => h))
  · have hg4_30a := hg
    refine wl_off rfl rfl rfl rfl rfl hg4_30a rfl ?_
    refine wl_det rfl rfl (det_and_off (q := s4) rfl rfl rfl hg4_30a) rfl ?_
    exact wl_nil (pn_qnE (ext_cons rfl (ext_skip rfl (ext_skip rfl ext_refl))) (fun _ h => h))
  refine wl_det rfl rfl (det_move rfl) rfl ?_
  obtain ⟨q4_35, hq4_35, h⟩ := bind_some h
  have ho4_35 := h
  refine wl_way (((((((decide (1 ≤ a0.Kind)) && (decide (a0.Kind ≤ 5))) && (decide (0 ≤ a0.Treaty))) && (decide (a0.Treaty ≤ 1048576))) && (decide (0 ≤ a0.Party))) && (decide (a0.Party ≤ 15))) && s4) q4_35 4 58 (fun hg => ?_) (fun hg => ?_) ?_
  · have hg4_35 := hg
    have h := ifT hq4_35 hg
    refine wl_on rfl rfl rfl rfl hg4_35 ?_
    refine wl_det rfl rfl (det_field rfl fd43_4 rfl) rfl ?_
    refine wl_on rfl rfl rfl rfl hg4_35 ?_
    refine wl_det rfl rfl (det_load rfl m0 (by rfl) na3 us3) rfl ?_
    refine wl_on rfl rfl rfl rfl hg4_35 ?_
    obtain ⟨r4_34, hr4_34, h⟩ := bind_some h
    refine wl_act (act_callS (cap := []) (W_treatyref01_Valid a0.Amount r4_34 hr4_34) rfl rfl rfl bd55 rfl trivial) rfl rfl rfl ?_
    rintro _ _ _ ⟨_, _, ⟨rfl, rfl, rfl⟩, rfl, rfl⟩
    dsimp only [List.nil_append, List.cons_append]
    replace h := Option.some.inj h
    subst h
    refine wl_det rfl rfl (det_pick_on rfl hg4_35 rfl rfl) rfl ?_
    exact wl_nil (pn_qnE (ext_cons rfl (ext_skip rfl (ext_skip rfl (ext_skip rfl (ext_skip rfl ext_refl))))) (fun _ h => h))
  · have hg4_35a := hg
    have h := ifF hq4_35 hg
    refine wl_off rfl rfl rfl rfl rfl hg4_35a rfl ?_
    refine wl_off rfl rfl rfl rfl rfl hg4_35a rfl ?_
    refine wl_off rfl rfl rfl rfl rfl hg4_35a rfl ?_
    replace h := Option.some.inj h
    subst h
    refine wl_det rfl rfl (det_pick_off rfl hg4_35a rfl rfl) rfl ?_
    exact wl_nil (pn_qnE (ext_cons rfl (ext_skip rfl (ext_skip rfl (ext_skip rfl (ext_skip rfl ext_refl))))) (fun _ h => h))
  have h := ho4_35
  refine wl_det rfl rfl (det_assign rfl) rfl ?_
  refine wl_nil ?_
  refine pn_then ?_
  refine wc_ret ?_
  replace h := Option.some.inj h
  subst h
  refine pn_ret (vs := [_]) rfl ⟨rfl, trivial⟩ ⟨rfl, rfl, rfl⟩ (fun _ h => h.to trivial trivial)
def Q_treatyref33_Validate (r : Int) : Value → List Ent → List Fact → Prop := fun v θ κ => v = .int .i64 r ∧ θ = [] ∧ κ = []
theorem plains_treatyref33_Validate {r : Int} : ∀ v θ κ, Q_treatyref33_Validate r v θ κ → Plains θ := by
  rintro _ _ _ ⟨rfl, rfl, rfl⟩
  exact trivial
set_option maxHeartbeats 4000000 in
set_option maxRecDepth 100000 in
theorem W_treatyref33_Validate (a0 : GLedger) (A0 : Option Addr) (n0 : Nat) (c0 : Nat) (r : Int) (h : treatyref33_Validate a0 = some r) : Spec Try.prog 34 [.agg #[.int .i64 a0.Closed, .slice A0 n0 c0]] [] [fV (lSlice lGPosting) (.slice A0 n0 c0) a0.Postings] (Q_treatyref33_Validate r) := by
  unfold treatyref33_Validate at h
  refine spec_of (σ := [(0, _)]) Try.func34 rfl rfl rfl rfl ?_
  intro C
  refine wc_know (fun _ h => h.lenF m0) (fun e => ?_)
  subst e
  refine wc_seq ?_
  refine wc_region ?_   -- region 0
  refine wl_act (act_box (cs := [_, _]) rfl rfl) rfl rfl rfl ?_
  rintro _ _ _ ⟨b0_0, rfl, rfl, rfl⟩
  refine wl_det rfl rfl (det_assign rfl) rfl ?_
  refine wl_nil ?_
  refine pn_then ?_
  refine wc_seq ?_
  refine wc_seq ?_
  refine wc_region ?_   -- region 1
  refine wl_det rfl rfl (det_field rfl fd25_0 rfl) rfl ?_
  refine wl_det rfl rfl (det_load rfl m0 (by rfl) na3 us3) rfl ?_
  refine wl_det rfl rfl (det_lss rfl rfl) rfl ?_
  refine wl_det rfl rfl (det_move rfl) rfl ?_
  refine wl_way (decide (a0.Closed < 0)) ((decide (a0.Closed < 0)) || (decide (100 < a0.Closed))) 4 12 (fun hg => ?_) (fun hg => ?_) ?_
  · have hg1_7 := hg
    refine wl_off rfl rfl rfl rfl rfl hg1_7 rfl ?_
    refine wl_off rfl rfl rfl rfl rfl hg1_7 rfl ?_
    refine wl_off rfl rfl rfl rfl rfl hg1_7 rfl ?_
    refine wl_det rfl rfl (det_or_on (r := (decide (100 < a0.Closed))) rfl rfl rfl hg1_7) rfl ?_
    exact wl_nil (pn_qnE (ext_cons rfl (ext_skip rfl (ext_skip rfl (ext_skip rfl (ext_skip rfl ext_refl))))) (fun _ h => h))
  · have hg1_7a := hg
    refine wl_on rfl rfl rfl rfl hg1_7a ?_
    refine wl_det rfl rfl (det_field rfl fd25_0 rfl) rfl ?_
    refine wl_on rfl rfl rfl rfl hg1_7a ?_
    refine wl_det rfl rfl (det_load rfl m0 (by rfl) na3 us3) rfl ?_
    refine wl_on rfl rfl rfl rfl hg1_7a ?_
    refine wl_det rfl rfl (det_gtr rfl rfl) rfl ?_
    refine wl_det rfl rfl (det_or_off rfl rfl rfl hg1_7a) rfl ?_
    exact wl_nil (pn_qnE (ext_cons rfl (ext_skip rfl (ext_skip rfl (ext_skip rfl (ext_skip rfl ext_refl))))) (fun _ h => h))
  refine wl_det rfl rfl (det_move rfl) rfl ?_
  refine wl_way ((decide (a0.Closed < 0)) || (decide (100 < a0.Closed))) (((decide (a0.Closed < 0)) || (decide (100 < a0.Closed))) || (decide (65536 < (a0.Postings.length : Int)))) 5 18 (fun hg => ?_) (fun hg => ?_) ?_
  · have hg1_13 := hg
    refine wl_off rfl rfl rfl rfl rfl hg1_13 rfl ?_
    refine wl_off rfl rfl rfl rfl rfl hg1_13 rfl ?_
    refine wl_off rfl rfl rfl rfl rfl hg1_13 rfl ?_
    refine wl_off rfl rfl rfl rfl rfl hg1_13 rfl ?_
    refine wl_det rfl rfl (det_or_on (r := (decide (65536 < (a0.Postings.length : Int)))) rfl rfl rfl hg1_13) rfl ?_
    exact wl_nil (pn_qnE (ext_cons rfl (ext_skip rfl (ext_skip rfl (ext_skip rfl (ext_skip rfl (ext_skip rfl ext_refl)))))) (fun _ h => h))
  · have hg1_13a := hg
    refine wl_on rfl rfl rfl rfl hg1_13a ?_
    refine wl_det rfl rfl (det_field rfl fd25_1 rfl) rfl ?_
    refine wl_on rfl rfl rfl rfl hg1_13a ?_
    refine wl_det rfl rfl (det_load rfl m0 (by rfl) na23 us23) rfl ?_
    refine wl_on rfl rfl rfl rfl hg1_13a ?_
    refine wl_det rfl rfl (det_len rfl un23) rfl ?_
    refine wl_on rfl rfl rfl rfl hg1_13a ?_
    refine wl_det rfl rfl (det_gtr rfl rfl) rfl ?_
    refine wl_det rfl rfl (det_or_off rfl rfl rfl hg1_13a) rfl ?_
    exact wl_nil (pn_qnE (ext_cons rfl (ext_skip rfl (ext_skip rfl (ext_skip rfl (ext_skip rfl (ext_skip rfl ext_refl)))))) (fun _ h => h))
  refine wl_nil ?_
  refine pn_then ?_
  refine wc_cond rfl (fun cd5 => ?_) (fun cd5 => ?_)
  · have h := ifT h cd5
    refine wc_seq ?_
    refine wc_region ?_   -- region 2
    refine wl_det rfl rfl (det_assign rfl) rfl ?_
    refine wl_nil ?_
    refine pn_then ?_
    refine wc_ret ?_
    refine pr_then ?_
    replace h := Option.some.inj h
    subst h
    refine pn_ret (vs := [_]) rfl ⟨rfl, trivial⟩ ⟨rfl, rfl, rfl⟩ (fun _ h => h.to trivial trivial)
  · have h := ifF h cd5
    refine wc_skip ?_
    refine pn_then ?_
    obtain ⟨q8, h, ho8⟩ := bind_some h
    refine wc_meetG (G := Unit × Unit) (fun (s8, _) => (.inl s8) = q8) (fun (_, _) => []) (fun (_, _) => []) (fun (_, _) => []) ?_ ?_
    · refine wc_seq ?_
      refine wc_region ?_   -- region 3
      refine wl_det rfl rfl (det_field rfl fd25_1 rfl) rfl ?_
      refine wl_det rfl rfl (det_load rfl m0 (by rfl) na23 us23) rfl ?_
      refine wl_det rfl rfl (det_len rfl un23) rfl ?_
      refine wl_det rfl rfl (det_move rfl) rfl ?_
      refine wl_nil ?_
      refine pn_then ?_
      refine wc_block ?_
      obtain ⟨o12, h, ho12⟩ := bind_some h
      obtain ⟨k12, hk12⟩ := loopV_some.1 h
      refine wc_loop (G := Nat × Int × Unit) (fun g => IterN (treatyref33_Validate_l12 a0) g.1 g.2.1 o12) (fun g => g.1) (fun (_, s12, _) => [(1, .pointer (some ⟨b0_0, 0, none⟩)), (20, .slice A0 a0.Postings.length c0), (21, .int .i64 (a0.Postings.length : Int)), (22, .int .i64 s12)]) (fun (_, _, _) => [eBlk b0_0 25 [.int .i64 a0.Closed, .slice A0 a0.Postings.length c0]]) (fun (_, _, _) => [fV (lSlice lGPosting) (.slice A0 a0.Postings.length c0) a0.Postings]) (k12, 0, ()) hk12 ⟨rfl, rfl, rfl, rfl, trivial⟩ (fun _ h => h.to ⟨_, r0, trivial⟩ ⟨m0, trivial⟩) ?_
      rintro ⟨k12, s12, _⟩ hI
      obtain ⟨k12, rfl, q12, h, g12⟩ := IterN.pos hI
      dsimp only at h ⊢
      unfold treatyref33_Validate_l12 at h
      refine wc_seq ?_
      refine wc_region ?_   -- region 4
      refine wl_det rfl rfl (det_lss rfl rfl) rfl ?_
      refine wl_nil ?_
      refine pn_then ?_
      refine wc_seq ?_
      refine wc_cond rfl (fun cd16 => ?_) (fun cd16 => ?_)
      · have h := ifT h cd16
        refine wc_skip ?_
        refine pn_then ?_
        refine wc_seq ?_
        refine wc_block ?_
        refine wc_seq ?_
        refine wc_region ?_   -- region 5
        refine wl_det rfl rfl (det_move rfl) rfl ?_
        obtain ⟨k5_1, h⟩ := chk_some h
        refine wl_st (fun _ h => h.openF m0 k5_1) ?_
        refine wl_det rfl rfl (det_indexP rfl rfl (ms m0) k5_1 m0 un23 sz61) rfl ?_
        refine wl_det rfl rfl (det_loadP (off := 0) rfl m0 (by rfl) (by rfl) (loaded_n (cells := [_, _, _, _, _, _, _]) ag61 sz61)) rfl ?_
        refine wl_act (act_alloc (cs := [_, _, _, _, _, _, _]) zr61 rfl) rfl rfl rfl ?_
        rintro _ _ _ ⟨b5_3, rfl, rfl, rfl⟩
        refine wl_det rfl rfl (det_assign rfl) rfl ?_
        refine wl_act0 (act_store (cells := [_, _, _, _, _, _, _]) (cs' := [_, _, _, _, _, _, _]) rfl rfl rfl s0 (by rfl) (of_decide_eq_true rfl) sz61 ⟨rfl, rfl, rfl, rfl, rfl, rfl, rfl, trivial⟩) rfl rfl ?_
        rintro _ _ _ ⟨rfl, rfl⟩
        refine wl_nil ?_
        refine pn_then ?_
        refine wc_seq ?_
        refine wc_seq ?_
        refine wc_region ?_   -- region 6
        refine wl_det rfl rfl (det_field rfl fd61_2 rfl) rfl ?_
        refine wl_det rfl rfl (det_loadN (cells := [_, _, _, _, _]) rfl m0 (by rfl) ag43 sz43) rfl ?_
        obtain ⟨r6_2, hr6_2, h⟩ := bind_some h
        refine wl_act (act_callS (cap := []) (W_treatyref33_Valid (ix a0.Postings s12).Entry r6_2 hr6_2) rfl rfl rfl bd44 rfl trivial) rfl rfl rfl ?_
        rintro _ _ _ ⟨_, _, ⟨rfl, rfl, rfl⟩, rfl, rfl⟩
        dsimp only [List.nil_append, List.cons_append]
        refine wl_det rfl rfl (det_not rfl) rfl ?_
        refine wl_det rfl rfl (det_move rfl) rfl ?_
        refine wl_way (!r6_2) ((!r6_2) || (decide ((ix a0.Postings s12).Entry.Amount = 0))) 5 36 (fun hg => ?_) (fun hg => ?_) ?_
        · have hg6_9 := hg
          refine wl_off rfl rfl rfl rfl rfl hg6_9 rfl ?_
          refine wl_off rfl rfl rfl rfl rfl hg6_9 rfl ?_
          refine wl_off rfl rfl rfl rfl rfl hg6_9 rfl ?_
          refine wl_off rfl rfl rfl rfl rfl hg6_9 rfl ?_
          refine wl_det rfl rfl (det_or_on (r := (decide ((ix a0.Postings s12).Entry.Amount = 0))) rfl rfl rfl hg6_9) rfl ?_
          exact wl_nil (pn_qnE (ext_cons rfl (ext_skip rfl (ext_skip rfl (ext_skip rfl (ext_skip rfl (ext_skip rfl ext_refl)))))) (fun _ h => h))
        · have hg6_9a := hg
          refine wl_on rfl rfl rfl rfl hg6_9a ?_
          refine wl_det rfl rfl (det_field rfl fd61_2 rfl) rfl ?_
          refine wl_on rfl rfl rfl rfl hg6_9a ?_
          refine wl_det rfl rfl (det_field rfl fd43_4 rfl) rfl ?_
          refine wl_on rfl rfl rfl rfl hg6_9a ?_
          refine wl_det rfl rfl (det_load rfl m0 (by rfl) na3 us3) rfl ?_
          refine wl_on rfl rfl rfl rfl hg6_9a ?_
          refine wl_det rfl rfl (det_eql rfl rfl) rfl ?_
          refine wl_det rfl rfl (det_or_off rfl rfl rfl hg6_9a) rfl ?_
          exact wl_nil (pn_qnE (ext_cons rfl (ext_skip rfl (ext_skip rfl (ext_skip rfl (ext_skip rfl (ext_skip rfl ext_refl)))))) (fun _ h => h))
        refine wl_det rfl rfl (det_move rfl) rfl ?_
        refine wl_way ((!r6_2) || (decide ((ix a0.Postings s12).Entry.Amount = 0))) (((!r6_2) || (decide ((ix a0.Postings s12).Entry.Amount = 0))) || (decide ((ix a0.Postings s12).Number < 1))) 4 41 (fun hg => ?_) (fun hg => ?_) ?_
        · have hg6_14 := hg
          refine wl_off rfl rfl rfl rfl rfl hg6_14 rfl ?_
          refine wl_off rfl rfl rfl rfl rfl hg6_14 rfl ?_
          refine wl_off rfl rfl rfl rfl rfl hg6_14 rfl ?_
          refine wl_det rfl rfl (det_or_on (r := (decide ((ix a0.Postings s12).Number < 1))) rfl rfl rfl hg6_14) rfl ?_
          exact wl_nil (pn_qnE (ext_cons rfl (ext_skip rfl (ext_skip rfl (ext_skip rfl (ext_skip rfl ext_refl))))) (fun _ h => h))
        · have hg6_14a := hg
          refine wl_on rfl rfl rfl rfl hg6_14a ?_
          refine wl_det rfl rfl (det_field rfl fd61_0 rfl) rfl ?_
          refine wl_on rfl rfl rfl rfl hg6_14a ?_
          refine wl_det rfl rfl (det_load rfl m0 (by rfl) na3 us3) rfl ?_
          refine wl_on rfl rfl rfl rfl hg6_14a ?_
          refine wl_det rfl rfl (det_lss rfl rfl) rfl ?_
          refine wl_det rfl rfl (det_or_off rfl rfl rfl hg6_14a) rfl ?_
          exact wl_nil (pn_qnE (ext_cons rfl (ext_skip rfl (ext_skip rfl (ext_skip rfl (ext_skip rfl ext_refl))))) (fun _ h => h))
        refine wl_det rfl rfl (det_move rfl) rfl ?_
        refine wl_way (((!r6_2) || (decide ((ix a0.Postings s12).Entry.Amount = 0))) || (decide ((ix a0.Postings s12).Number < 1))) ((((!r6_2) || (decide ((ix a0.Postings s12).Entry.Amount = 0))) || (decide ((ix a0.Postings s12).Number < 1))) || (decide (65536 < (ix a0.Postings s12).Number))) 4 46 (fun hg => ?_) (fun hg => ?_) ?_
        · have hg6_19 := hg
          refine wl_off rfl rfl rfl rfl rfl hg6_19 rfl ?_
          refine wl_off rfl rfl rfl rfl rfl hg6_19 rfl ?_
          refine wl_off rfl rfl rfl rfl rfl hg6_19 rfl ?_
          refine wl_det rfl rfl (det_or_on (r := (decide (65536 < (ix a0.Postings s12).Number))) rfl rfl rfl hg6_19) rfl ?_
          exact wl_nil (pn_qnE (ext_cons rfl (ext_skip rfl (ext_skip rfl (ext_skip rfl (ext_skip rfl ext_refl))))) (fun _ h => h))
        · have hg6_19a := hg
          refine wl_on rfl rfl rfl rfl hg6_19a ?_
          refine wl_det rfl rfl (det_field rfl fd61_0 rfl) rfl ?_
          refine wl_on rfl rfl rfl rfl hg6_19a ?_
          refine wl_det rfl rfl (det_load rfl m0 (by rfl) na3 us3) rfl ?_
          refine wl_on rfl rfl rfl rfl hg6_19a ?_
          refine wl_det rfl rfl (det_gtr rfl rfl) rfl ?_
          refine wl_det rfl rfl (det_or_off rfl rfl rfl hg6_19a) rfl ?_
          exact wl_nil (pn_qnE (ext_cons rfl (ext_skip rfl (ext_skip rfl (ext_skip rfl (ext_skip rfl ext_refl))))) (fun _ h => h))
        refine wl_det rfl rfl (det_move rfl) rfl ?_
        refine wl_way ((((!r6_2) || (decide ((ix a0.Postings s12).Entry.Amount = 0))) || (decide ((ix a0.Postings s12).Number < 1))) || (decide (65536 < (ix a0.Postings s12).Number))) (((((!r6_2) || (decide ((ix a0.Postings s12).Entry.Amount = 0))) || (decide ((ix a0.Postings s12).Number < 1))) || (decide (65536 < (ix a0.Postings s12).Number))) || (decide ((ix a0.Postings s12).Period < 0))) 4 51 (fun hg => ?_) (fun hg => ?_) ?_
        · have hg6_24 := hg
          refine wl_off rfl rfl rfl rfl rfl hg6_24 rfl ?_
          refine wl_off rfl rfl rfl rfl rfl hg6_24 rfl ?_
          refine wl_off rfl rfl rfl rfl rfl hg6_24 rfl ?_
          refine wl_det rfl rfl (det_or_on (r := (decide ((ix a0.Postings s12).Period < 0))) rfl rfl rfl hg6_24) rfl ?_
          exact wl_nil (pn_qnE (ext_cons rfl (ext_skip rfl (ext_skip rfl (ext_skip rfl (ext_skip rfl ext_refl))))) (fun _ h => h))
        · have hg6_24a := hg
          refine wl_on rfl rfl rfl rfl hg6_24a ?_
          refine wl_det rfl rfl (det_field rfl fd61_1 rfl) rfl ?_
          refine wl_on rfl rfl rfl rfl hg6_24a ?_
          refine wl_det rfl rfl (det_load rfl m0 (by rfl) na3 us3) rfl ?_
          refine wl_on rfl rfl rfl rfl hg6_24a ?_
          refine wl_det rfl rfl (det_lss rfl rfl) rfl ?_
          refine wl_det rfl rfl (det_or_off rfl rfl rfl hg6_24a) rfl ?_
          exact wl_nil (pn_qnE (ext_cons rfl (ext_skip rfl (ext_skip rfl (ext_skip rfl (ext_skip rfl ext_refl))))) (fun _ h => h))
        refine wl_det rfl rfl (det_move rfl) rfl ?_
        refine wl_way (((((!r6_2) || (decide ((ix a0.Postings s12).Entry.Amount = 0))) || (decide ((ix a0.Postings s12).Number < 1))) || (decide (65536 < (ix a0.Postings s12).Number))) || (decide ((ix a0.Postings s12).Period < 0))) ((((((!r6_2) || (decide ((ix a0.Postings s12).Entry.Amount = 0))) || (decide ((ix a0.Postings s12).Number < 1))) || (decide (65536 < (ix a0.Postings s12).Number))) || (decide ((ix a0.Postings s12).Period < 0))) || (decide (a0.Closed < (ix a0.Postings s12).Period))) 6 58 (fun hg => ?_) (fun hg => ?_) ?_
        · have hg6_31 := hg
          refine wl_off rfl rfl rfl rfl rfl hg6_31 rfl ?_
          refine wl_off rfl rfl rfl rfl rfl hg6_31 rfl ?_
          refine wl_off rfl rfl rfl rfl rfl hg6_31 rfl ?_
          refine wl_off rfl rfl rfl rfl rfl hg6_31 rfl ?_
          refine wl_off rfl rfl rfl rfl rfl hg6_31 rfl ?_
          refine wl_det rfl rfl (det_or_on (r := (decide (a0.Closed < (ix a0.Postings s12).Period))) rfl rfl rfl hg6_31) rfl ?_
          exact wl_nil (pn_qnE (ext_cons rfl (ext_skip rfl (ext_skip rfl (ext_skip rfl (ext_skip rfl (ext_skip rfl (ext_skip rfl ext_refl))))))) (fun _ h => h))
        · have hg6_31a := hg
          refine wl_on rfl rfl rfl rfl hg6_31a ?_
          refine wl_det rfl rfl (det_field rfl fd61_1 rfl) rfl ?_
          refine wl_on rfl rfl rfl rfl hg6_31a ?_
          refine wl_det rfl rfl (det_load rfl m0 (by rfl) na3 us3) rfl ?_
          refine wl_on rfl rfl rfl rfl hg6_31a ?_
          refine wl_det rfl rfl (det_field rfl fd25_0 rfl) rfl ?_
          refine wl_on rfl rfl rfl rfl hg6_31a ?_
          refine wl_det rfl rfl (det_load rfl (ms m0) (by rfl) na3 us3) rfl ?_
          refine wl_on rfl rfl rfl rfl hg6_31a ?_
          refine wl_det rfl rfl (det_gtr rfl rfl) rfl ?_
          refine wl_det rfl rfl (det_or_off rfl rfl rfl hg6_31a) rfl ?_
          exact wl_nil (pn_qnE (ext_cons rfl (ext_skip rfl (ext_skip rfl (ext_skip rfl (ext_skip rfl (ext_skip rfl (ext_skip rfl ext_refl))))))) (fun _ h => h))
        refine wl_nil ?_
        refine pn_then ?_
        refine wc_cond rfl (fun cd25 => ?_) (fun cd25 => ?_)
        · have h := ifT h cd25
          refine wc_seq ?_
          refine wc_region ?_   -- region 7
          refine wl_det rfl rfl (det_assign rfl) rfl ?_
          refine wl_nil ?_
          refine pn_then ?_
          refine wc_ret ?_
          refine pr_then ?_
          refine pr_block ?_
          refine pr_then ?_
          refine pr_then ?_
          refine pr_block ?_
          refine pr_then ?_
          replace h := Option.some.inj h
          subst h
          replace g12 := nextR g12
          subst g12
          have h := (elimL ho12)
          replace h := Option.some.inj h
          subst h
          have h := (elimR ho8)
          replace h := Option.some.inj h
          subst h
          refine pn_ret (vs := [_]) rfl ⟨rfl, trivial⟩ ⟨rfl, rfl, rfl⟩ (fun _ h => h.to trivial trivial)
        · have h := ifF h cd25
          refine wc_skip ?_
          refine pn_then ?_
          obtain ⟨q28, h, ho28⟩ := bind_some h
          refine wc_meetG (G := Bool × Unit) (fun (s28, _) => s28 = q28) (fun (s28, _) => [(1, .pointer (some ⟨b0_0, 0, none⟩)), (20, .slice A0 a0.Postings.length c0), (21, .int .i64 (a0.Postings.length : Int)), (22, .int .i64 s12), (84, .bool s28)]) (fun (_, _) => [eBlk b0_0 25 [.int .i64 a0.Closed, .slice A0 a0.Postings.length c0]]) (fun (_, _) => [fV (lSlice lGPosting) (.slice A0 a0.Postings.length c0) a0.Postings]) ?_ ?_
          · rcases Bool.eq_false_or_eq_true (decide (0 < s12)) with hg8_g61 | hg8_g61
            · have h := ifT h hg8_g61
              rcases Bool.eq_false_or_eq_true (decide ((ix a0.Postings s12).Number ≤ (ix a0.Postings (w64 (s12 - 1))).Number)) with hg8_g72 | hg8_g72
              · have h := ifT h hg8_g72
                obtain ⟨k8_p1, h⟩ := chk_some h
                refine wc_st (fun _ h => h.openF (ms m0) k8_p1) ?_
                refine dx_region 26 [[], [0], [0, 1], [0, 1, 2], [0, 1, 2, 3], [0, 1, 2], [0, 1, 2, 5], [0, 1, 2], [0, 1, 2, 7], [0, 1, 2, 5, 6, 7, 8], [0, 1, 2, 5, 6, 7, 8, 9], [0, 1, 2, 5, 6, 7, 8, 9, 10], [0, 1, 2, 3, 4, 5, 6, 7, 8, 9, 10, 11], [0, 1, 2, 3, 4, 5, 6, 7, 8, 9, 10, 11, 12], [0, 1, 2, 3, 4, 5, 6, 7, 8, 9, 10, 11, 12, 13], [0, 1, 2, 3, 4, 5, 6, 7, 8, 9, 10, 11, 12, 13, 14], [0, 1, 2, 3, 4, 5, 6, 7, 8, 9, 10, 11, 12, 13], [0, 1, 2, 3, 4, 5, 6, 7, 8, 9, 10, 11, 12, 13, 16], [0, 1, 2, 3, 4, 5, 6, 7, 8, 9, 10, 11, 12, 13], [0, 1, 2, 3, 4, 5, 6, 7, 8, 9, 10, 11, 12, 13, 18], [0, 1, 2, 3, 4, 5, 6, 7, 8, 9, 10, 11, 12, 13, 16, 17, 18, 19], [0, 1, 2, 3, 4, 5, 6, 7, 8, 9, 10, 11, 12, 13, 16, 17, 18, 19, 20], [0, 1, 2, 3, 4, 5, 6, 7, 8, 9, 10, 11, 12, 13, 16, 17, 18, 19, 20, 21], [0, 1, 2, 3, 4, 5, 6, 7, 8, 9, 10, 11, 12, 13, 14, 15, 16, 17, 18, 19, 20, 21, 22], [0, 1, 2, 3, 4, 5, 6, 7, 8, 9, 10, 11, 12, 13, 14, 15, 16, 17, 18, 19, 20, 21, 22, 23], [0, 1, 2, 3, 4, 5, 6, 7, 8, 9, 10, 11, 12, 13, 14, 15, 16, 17, 18, 19, 20, 21, 22, 23, 24]] mixed (ord := (.det 0 (.det 1 (.det 2 (.det 3 (.det 4 (.det 5 (.det 6 (.det 7 (.det 8 (.det 9 (.det 10 (.det 11 (.det 12 (.det 13 (.det 14 (.det 15 (.det 16 (.det 17 (.det 18 (.det 19 (.det 20 (.det 21 (.det 22 (.det 23 (.det 24 (.det 25 .done))))))))))))))))))))))))))) (by kernel_rfl) ?_   -- region 8
                refine hx_det rfl rfl rfl nofun (det_move rfl) rfl ?_
                refine hx_det rfl rfl rfl nofun (det_gtr rfl rfl) rfl ?_
                refine hx_det rfl rfl rfl nofun (det_move rfl) rfl ?_
                refine hx_on rfl rfl rfl rfl rfl hg8_g61 nofun (det_field rfl fd61_0 rfl) rfl ?_
                refine hx_on rfl rfl rfl rfl rfl hg8_g61 nofun (det_load rfl m0 (by rfl) na3 us3) rfl ?_
                refine hx_on rfl rfl rfl rfl rfl hg8_g61 nofun (det_field rfl fd25_1 rfl) rfl ?_
                refine hx_on rfl rfl rfl rfl rfl hg8_g61 nofun (det_load rfl (ms m0) (by rfl) na23 us23) rfl ?_
                refine hx_on rfl rfl rfl rfl rfl hg8_g61 nofun (det_move rfl) rfl ?_
                refine hx_on rfl rfl rfl rfl rfl hg8_g61 nofun (det_sub rfl rfl) rfl ?_
                refine hx_on rfl rfl rfl rfl rfl hg8_g61 nofun (det_indexP rfl rfl (ms (ms m0)) k8_p1 m0 un23 sz61) rfl ?_
                refine hx_on rfl rfl rfl rfl rfl hg8_g61 nofun (det_fieldP rfl m0 fd61_0 rfl) rfl ?_
                refine hx_on rfl rfl rfl rfl rfl hg8_g61 nofun (det_loadP (off := 0) rfl m0 (by rfl) (by rfl) (loaded_1 na3 us3)) rfl ?_
                refine hx_on rfl rfl rfl rfl rfl hg8_g61 nofun (det_leq rfl rfl) rfl ?_
                refine hx_on rfl rfl rfl rfl rfl hg8_g61 nofun (det_move rfl) rfl ?_
                refine hx_off rfl rfl rfl rfl rfl hg8_g72 rfl ?_
                refine hx_off rfl rfl rfl rfl rfl hg8_g72 rfl ?_
                refine hx_off rfl rfl rfl rfl rfl hg8_g72 rfl ?_
                refine hx_off rfl rfl rfl rfl rfl hg8_g72 rfl ?_
                refine hx_off rfl rfl rfl rfl rfl hg8_g72 rfl ?_
                refine hx_off rfl rfl rfl rfl rfl hg8_g72 rfl ?_
                refine hx_off rfl rfl rfl rfl rfl hg8_g72 rfl ?_
                refine hx_off rfl rfl rfl rfl rfl hg8_g72 rfl ?_
                refine hx_off rfl rfl rfl rfl rfl hg8_g72 rfl ?_
                refine hx_off rfl rfl rfl rfl rfl hg8_g72 rfl ?_
                refine hx_on rfl rfl rfl rfl rfl hg8_g61 nofun (det_pick_on rfl hg8_g72 rfl rfl) rfl ?_
                refine hx_det rfl rfl rfl nofun (det_pick_on rfl hg8_g61 rfl rfl) rfl ?_
                refine hx_end ?_
                refine wl_nil ?_
                replace h := Option.some.inj h
                subst h
                exact pn_meetG (true, ()) rfl ⟨rfl, rfl, rfl, rfl, rfl, trivial⟩ (fun _ h => h.to ⟨_, (rs r0), trivial⟩ ⟨(ms (ms m0)), trivial⟩)
              · have h := ifF h hg8_g72
                obtain ⟨k8_p3, h⟩ := chk_some h
                refine wc_st (fun _ h => h.openF (ms m0) k8_p3) ?_
                refine dx_region 26 [[], [0], [0, 1], [0, 1, 2], [0, 1, 2, 3], [0, 1, 2], [0, 1, 2, 5], [0, 1, 2], [0, 1, 2, 7], [0, 1, 2, 5, 6, 7, 8], [0, 1, 2, 5, 6, 7, 8, 9], [0, 1, 2, 5, 6, 7, 8, 9, 10], [0, 1, 2, 3, 4, 5, 6, 7, 8, 9, 10, 11], [0, 1, 2, 3, 4, 5, 6, 7, 8, 9, 10, 11, 12], [0, 1, 2, 3, 4, 5, 6, 7, 8, 9, 10, 11, 12, 13], [0, 1, 2, 3, 4, 5, 6, 7, 8, 9, 10, 11, 12, 13, 14], [0, 1, 2, 3, 4, 5, 6, 7, 8, 9, 10, 11, 12, 13], [0, 1, 2, 3, 4, 5, 6, 7, 8, 9, 10, 11, 12, 13, 16], [0, 1, 2, 3, 4, 5, 6, 7, 8, 9, 10, 11, 12, 13], [0, 1, 2, 3, 4, 5, 6, 7, 8, 9, 10, 11, 12, 13, 18], [0, 1, 2, 3, 4, 5, 6, 7, 8, 9, 10, 11, 12, 13, 16, 17, 18, 19], [0, 1, 2, 3, 4, 5, 6, 7, 8, 9, 10, 11, 12, 13, 16, 17, 18, 19, 20], [0, 1, 2, 3, 4, 5, 6, 7, 8, 9, 10, 11, 12, 13, 16, 17, 18, 19, 20, 21], [0, 1, 2, 3, 4, 5, 6, 7, 8, 9, 10, 11, 12, 13, 14, 15, 16, 17, 18, 19, 20, 21, 22], [0, 1, 2, 3, 4, 5, 6, 7, 8, 9, 10, 11, 12, 13, 14, 15, 16, 17, 18, 19, 20, 21, 22, 23], [0, 1, 2, 3, 4, 5, 6, 7, 8, 9, 10, 11, 12, 13, 14, 15, 16, 17, 18, 19, 20, 21, 22, 23, 24]] mixed (ord := (.det 0 (.det 1 (.det 2 (.det 3 (.det 4 (.det 5 (.det 6 (.det 7 (.det 8 (.det 9 (.det 10 (.det 11 (.det 12 (.det 13 (.det 14 (.det 15 (.det 16 (.det 17 (.det 18 (.det 19 (.det 20 (.det 21 (.det 22 (.det 23 (.det 24 (.det 25 .done))))))))))))))))))))))))))) (by kernel_rfl) ?_   -- region 8
                refine hx_det rfl rfl rfl nofun (det_move rfl) rfl ?_
                refine hx_det rfl rfl rfl nofun (det_gtr rfl rfl) rfl ?_
                refine hx_det rfl rfl rfl nofun (det_move rfl) rfl ?_
                refine hx_on rfl rfl rfl rfl rfl hg8_g61 nofun (det_field rfl fd61_0 rfl) rfl ?_
                refine hx_on rfl rfl rfl rfl rfl hg8_g61 nofun (det_load rfl m0 (by rfl) na3 us3) rfl ?_
                refine hx_on rfl rfl rfl rfl rfl hg8_g61 nofun (det_field rfl fd25_1 rfl) rfl ?_
                refine hx_on rfl rfl rfl rfl rfl hg8_g61 nofun (det_load rfl (ms m0) (by rfl) na23 us23) rfl ?_
                refine hx_on rfl rfl rfl rfl rfl hg8_g61 nofun (det_move rfl) rfl ?_
                refine hx_on rfl rfl rfl rfl rfl hg8_g61 nofun (det_sub rfl rfl) rfl ?_
                refine hx_on rfl rfl rfl rfl rfl hg8_g61 nofun (det_indexP rfl rfl (ms (ms m0)) k8_p3 m0 un23 sz61) rfl ?_
                refine hx_on rfl rfl rfl rfl rfl hg8_g61 nofun (det_fieldP rfl m0 fd61_0 rfl) rfl ?_
                refine hx_on rfl rfl rfl rfl rfl hg8_g61 nofun (det_loadP (off := 0) rfl m0 (by rfl) (by rfl) (loaded_1 na3 us3)) rfl ?_
                refine hx_on rfl rfl rfl rfl rfl hg8_g61 nofun (det_leq rfl rfl) rfl ?_
                refine hx_on rfl rfl rfl rfl rfl hg8_g61 nofun (det_move rfl) rfl ?_
                refine hx_on rfl rfl rfl rfl rfl hg8_g72 nofun (det_field rfl fd61_1 rfl) rfl ?_
                refine hx_on rfl rfl rfl rfl rfl hg8_g72 nofun (det_load rfl m0 (by rfl) na3 us3) rfl ?_
                refine hx_on rfl rfl rfl rfl rfl hg8_g72 nofun (det_field rfl fd25_1 rfl) rfl ?_
                refine hx_on rfl rfl rfl rfl rfl hg8_g72 nofun (det_load rfl (ms m0) (by rfl) na23 us23) rfl ?_
                refine hx_on rfl rfl rfl rfl rfl hg8_g72 nofun (det_move rfl) rfl ?_
                refine hx_on rfl rfl rfl rfl rfl hg8_g72 nofun (det_sub rfl rfl) rfl ?_
                refine hx_on rfl rfl rfl rfl rfl hg8_g72 nofun (det_indexP rfl rfl (ms (ms m0)) k8_p3 m0 un23 sz61) rfl ?_
                refine hx_on rfl rfl rfl rfl rfl hg8_g72 nofun (det_fieldP rfl m0 fd61_1 rfl) rfl ?_
                refine hx_on rfl rfl rfl rfl rfl hg8_g72 nofun (det_loadP (off := 1) rfl m0 (by rfl) (by rfl) (loaded_1 na3 us3)) rfl ?_
                refine hx_on rfl rfl rfl rfl rfl hg8_g72 nofun (det_lss rfl rfl) rfl ?_
                refine hx_on rfl rfl rfl rfl rfl hg8_g61 nofun (det_pick_off rfl hg8_g72 rfl rfl) rfl ?_
                refine hx_det rfl rfl rfl nofun (det_pick_on rfl hg8_g61 rfl rfl) rfl ?_
                refine hx_end ?_
                refine wl_nil ?_
                replace h := Option.some.inj h
                subst h
                exact pn_meetG ((decide ((ix a0.Postings s12).Period < (ix a0.Postings (w64 (s12 - 1))).Period)), ()) rfl ⟨rfl, rfl, rfl, rfl, rfl, trivial⟩ (fun _ h => h.to ⟨_, (rs r0), trivial⟩ ⟨(ms (ms m0)), trivial⟩)
            · have h := ifF h hg8_g61
              refine dx_region 26 [[], [0], [0, 1], [0, 1, 2], [0, 1, 2, 3], [0, 1, 2], [0, 1, 2, 5], [0, 1, 2], [0, 1, 2, 7], [0, 1, 2, 5, 6, 7, 8], [0, 1, 2, 5, 6, 7, 8, 9], [0, 1, 2, 5, 6, 7, 8, 9, 10], [0, 1, 2, 3, 4, 5, 6, 7, 8, 9, 10, 11], [0, 1, 2, 3, 4, 5, 6, 7, 8, 9, 10, 11, 12], [0, 1, 2, 3, 4, 5, 6, 7, 8, 9, 10, 11, 12, 13], [0, 1, 2, 3, 4, 5, 6, 7, 8, 9, 10, 11, 12, 13, 14], [0, 1, 2, 3, 4, 5, 6, 7, 8, 9, 10, 11, 12, 13], [0, 1, 2, 3, 4, 5, 6, 7, 8, 9, 10, 11, 12, 13, 16], [0, 1, 2, 3, 4, 5, 6, 7, 8, 9, 10, 11, 12, 13], [0, 1, 2, 3, 4, 5, 6, 7, 8, 9, 10, 11, 12, 13, 18], [0, 1, 2, 3, 4, 5, 6, 7, 8, 9, 10, 11, 12, 13, 16, 17, 18, 19], [0, 1, 2, 3, 4, 5, 6, 7, 8, 9, 10, 11, 12, 13, 16, 17, 18, 19, 20], [0, 1, 2, 3, 4, 5, 6, 7, 8, 9, 10, 11, 12, 13, 16, 17, 18, 19, 20, 21], [0, 1, 2, 3, 4, 5, 6, 7, 8, 9, 10, 11, 12, 13, 14, 15, 16, 17, 18, 19, 20, 21, 22], [0, 1, 2, 3, 4, 5, 6, 7, 8, 9, 10, 11, 12, 13, 14, 15, 16, 17, 18, 19, 20, 21, 22, 23], [0, 1, 2, 3, 4, 5, 6, 7, 8, 9, 10, 11, 12, 13, 14, 15, 16, 17, 18, 19, 20, 21, 22, 23, 24]] mixed (ord := (.det 0 (.det 1 (.det 2 (.det 3 (.det 4 (.det 5 (.det 6 (.det 7 (.det 8 (.det 9 (.det 10 (.det 11 (.det 12 (.det 13 (.det 14 (.det 15 (.det 16 (.det 17 (.det 18 (.det 19 (.det 20 (.det 21 (.det 22 (.det 23 (.det 24 (.det 25 .done))))))))))))))))))))))))))) (by kernel_rfl) ?_   -- region 8
              refine hx_det rfl rfl rfl nofun (det_move rfl) rfl ?_
              refine hx_det rfl rfl rfl nofun (det_gtr rfl rfl) rfl ?_
              refine hx_det rfl rfl rfl nofun (det_move rfl) rfl ?_
              refine hx_off rfl rfl rfl rfl rfl hg8_g61 rfl ?_
              refine hx_off rfl rfl rfl rfl rfl hg8_g61 rfl ?_
              refine hx_off rfl rfl rfl rfl rfl hg8_g61 rfl ?_
              refine hx_off rfl rfl rfl rfl rfl hg8_g61 rfl ?_
              refine hx_off rfl rfl rfl rfl rfl hg8_g61 rfl ?_
              refine hx_off rfl rfl rfl rfl rfl hg8_g61 rfl ?_
              refine hx_off rfl rfl rfl rfl rfl hg8_g61 rfl ?_
              refine hx_off rfl rfl rfl rfl rfl hg8_g61 rfl ?_
              refine hx_off rfl rfl rfl rfl rfl hg8_g61 rfl ?_
              refine hx_off rfl rfl rfl rfl rfl hg8_g61 rfl ?_
              refine hx_off rfl rfl rfl rfl rfl hg8_g61 rfl ?_
              refine hx_none rfl rfl rfl rfl rfl rfl ?_
              refine hx_none rfl rfl rfl rfl rfl rfl ?_
              refine hx_none rfl rfl rfl rfl rfl rfl ?_
              refine hx_none rfl rfl rfl rfl rfl rfl ?_
              refine hx_none rfl rfl rfl rfl rfl rfl ?_
              refine hx_none rfl rfl rfl rfl rfl rfl ?_
              refine hx_none rfl rfl rfl rfl rfl rfl ?_
              refine hx_none rfl rfl rfl rfl rfl rfl ?_
              refine hx_none rfl rfl rfl rfl rfl rfl ?_
              refine hx_none rfl rfl rfl rfl rfl rfl ?_
              refine hx_off rfl rfl rfl rfl rfl hg8_g61 rfl ?_
              refine hx_det rfl rfl rfl nofun (det_pick_off rfl hg8_g61 rfl rfl) rfl ?_
              refine hx_end ?_
              refine wl_nil ?_
              replace h := Option.some.inj h
              subst h
              exact pn_meetG (false, ()) rfl ⟨rfl, rfl, rfl, rfl, rfl, trivial⟩ (fun _ h => h.to ⟨_, (rs r0), trivial⟩ ⟨(ms m0), trivial⟩)
          rintro ⟨s28, _⟩ e28
          dsimp only at e28 ⊢
          subst e28
          have h := ho28
          refine wc_cond rfl (fun cd30 => ?_) (fun cd30 => ?_)
          · have h := ifT h cd30
            refine wc_seq ?_
            refine wc_region ?_   -- region 9
            refine wl_det rfl rfl (det_assign rfl) rfl ?_
            refine wl_nil ?_
            refine pn_then ?_
            refine wc_ret ?_
            refine pr_block ?_
            refine pr_then ?_
            refine pr_then ?_
            refine pr_block ?_
            refine pr_then ?_
            replace h := Option.some.inj h
            subst h
            replace g12 := nextR g12
            subst g12
            have h := (elimL ho12)
            replace h := Option.some.inj h
            subst h
            have h := (elimR ho8)
            replace h := Option.some.inj h
            subst h
            refine pn_ret (vs := [_]) rfl ⟨rfl, trivial⟩ ⟨rfl, rfl, rfl⟩ (fun _ h => h.to trivial trivial)
          · have h := ifF h cd30
            refine wc_skip ?_
            refine pn_block ?_
            refine pn_then ?_
            refine wc_region ?_   -- region 10
            refine wl_det rfl rfl (det_add rfl rfl) rfl ?_
            refine wl_det rfl rfl (det_move rfl) rfl ?_
            refine wl_nil ?_
            replace h := Option.some.inj h
            subst h
            exact pn_some (k12, (w64 (s12 + 1)), ()) ⟨nextL g12, Nat.lt_succ_self _⟩ ⟨rfl, rfl, rfl, rfl, trivial⟩ (fun _ h => h.to ⟨_, r0, trivial⟩ ⟨m0, trivial⟩)
      · have h := ifF h cd16
        refine wc_exit ?_
        refine px_then ?_
        refine px_then ?_
        refine px_block ?_
        replace h := Option.some.inj h
        subst h
        replace g12 := nextR g12
        subst g12
        have h := (elimR ho12)
        replace h := Option.some.inj h
        subst h
        exact pn_meetG ((), ()) rfl trivial (fun _ h => h.to trivial trivial)
    rintro ⟨s8, _⟩ e8
    dsimp only at e8 ⊢
    subst e8
    have h := (elimL ho8)
    refine wc_seq ?_
    refine wc_region ?_   -- region 11
    refine wl_det rfl rfl (det_assign rfl) rfl ?_
    refine wl_nil ?_
    refine pn_then ?_
    refine wc_ret ?_
    replace h := Option.some.inj h
    subst h
    refine pn_ret (vs := [_]) rfl ⟨rfl, trivial⟩ ⟨rfl, rfl, rfl⟩ (fun _ h => h.to trivial trivial)
def Q_treatyref33_Close (r : GLedger × Int) : Value → List Ent → List Fact → Prop := fun v θ κ => ∃ (pA0 : Option Addr), ∃ (pn0 : Nat), ∃ (pc0 : Nat), v = .tuple #[.agg #[.int .i64 r.1.Closed, .slice pA0 pn0 pc0], .int .i64 r.2] ∧ θ = [eS lGPosting 61 pA0 pn0 pc0 r.1.Postings] ∧ κ = []
theorem plains_treatyref33_Close {r : GLedger × Int} : ∀ v θ κ, Q_treatyref33_Close r v θ κ → Plains θ := by
  rintro _ _ _ ⟨_, _, _, rfl, rfl, rfl⟩
  exact ⟨plain_eS, trivial⟩
set_option maxHeartbeats 4000000 in
set_option maxRecDepth 100000 in
theorem W_treatyref33_Close (a0 : GLedger) (A0 : Option Addr) (n0 : Nat) (c0 : Nat) (r : GLedger × Int) (h : treatyref33_Close a0 = some r) : Spec Try.prog 17 [.agg #[.int .i64 a0.Closed, .slice A0 n0 c0]] [] [fV (lSlice lGPosting) (.slice A0 n0 c0) a0.Postings] (Q_treatyref33_Close r) := by
  unfold treatyref33_Close at h
  refine spec_of (σ := [(0, _)]) Try.func17 rfl rfl rfl rfl ?_
  intro C
  refine wc_know (fun _ h => h.lenF m0) (fun e => ?_)
  subst e
  refine wc_seq ?_
  refine wc_region ?_   -- region 0
  refine wl_act (act_box (cs := [_, _]) rfl rfl) rfl rfl rfl ?_
  rintro _ _ _ ⟨b0_0, rfl, rfl, rfl⟩
  refine wl_act (act_alloc (cs := [_, _]) zr25 rfl) rfl rfl rfl ?_
  rintro _ _ _ ⟨b0_1, rfl, rfl, rfl⟩
  refine wl_det rfl rfl (det_assign rfl) rfl ?_
  refine wl_nil ?_
  refine pn_then ?_
  refine wc_seq ?_
  refine wc_seq ?_
  refine wc_region ?_   -- region 1
  refine wl_det rfl rfl (det_loadN (cells := [_, _]) rfl (ms m0) (by rfl) ag25 sz25) rfl ?_
  obtain ⟨r1_1, hr1_1, h⟩ := bind_some h
  refine wl_act (act_callS (cap := []) (W_treatyref33_Validate a0 A0 a0.Postings.length c0 r1_1 hr1_1) rfl rfl rfl bd34 rfl ⟨m0, trivial⟩) rfl rfl rfl ?_
  rintro _ _ _ ⟨_, _, ⟨rfl, rfl, rfl⟩, rfl, rfl⟩
  dsimp only [List.nil_append, List.cons_append]
  refine wl_det rfl rfl (det_assign rfl) rfl ?_
  refine wl_nil ?_
  refine pn_then ?_
  refine wc_seq ?_
  refine wc_region ?_   -- region 2
  refine wl_det rfl rfl (det_move rfl) rfl ?_
  refine wl_det rfl rfl (det_neq rfl rfl) rfl ?_
  refine wl_nil ?_
  refine pn_then ?_
  refine wc_cond rfl (fun cd7 => ?_) (fun cd7 => ?_)
  · have h := ifT h cd7
    refine wc_seq ?_
    refine wc_region ?_   -- region 3
    refine wl_det rfl rfl (det_build (cs := [_, _]) pl25 zr25 rfl rfl (by rfl)) rfl ?_
    refine wl_det rfl rfl (det_move rfl) rfl ?_
    refine wl_act0 (act_store (cells := [_, _]) (cs' := [_, _]) rfl rfl rfl s0 (by rfl) (of_decide_eq_true rfl) sz25 ⟨rfl, rfl, trivial⟩) rfl rfl ?_
    rintro _ _ _ ⟨rfl, rfl⟩
    refine wl_det rfl rfl (det_assign rfl) rfl ?_
    refine wl_nil ?_
    refine pn_then ?_
    refine wc_ret ?_
    refine pr_then ?_
    refine pn_st (fun _ h => h.zeroS lGPosting 61 none) ?_
    replace h := Option.some.inj h
    subst h
    refine pn_ret (vs := [_, _]) rfl ⟨⟨_, _, [_, _], rfl, (ms m0), .inl ⟨ag25, sz25, rfl⟩⟩, rfl, trivial⟩ ⟨none, 0, 0, rfl, rfl, rfl⟩ (fun _ h => h.to ⟨_, r0, trivial⟩ trivial)
  · have h := ifF h cd7
    refine wc_skip ?_
    refine pn_then ?_
    refine wc_seq ?_
    refine wc_seq ?_
    refine wc_region ?_   -- region 4
    refine wl_det rfl rfl (det_field rfl fd25_0 rfl) rfl ?_
    refine wl_det rfl rfl (det_load rfl (ms m0) (by rfl) na3 us3) rfl ?_
    refine wl_det rfl rfl (det_eql rfl rfl) rfl ?_
    refine wl_nil ?_
    refine pn_then ?_
    refine wc_cond rfl (fun cd13 => ?_) (fun cd13 => ?_)
    · have h := ifT h cd13
      refine wc_seq ?_
      refine wc_region ?_   -- region 5
      refine wl_det rfl rfl (det_build (cs := [_, _]) pl25 zr25 rfl rfl (by rfl)) rfl ?_
      refine wl_act0 (act_store (cells := [_, _]) (cs' := [_, _]) rfl rfl rfl s0 (by rfl) (of_decide_eq_true rfl) sz25 ⟨rfl, rfl, trivial⟩) rfl rfl ?_
      rintro _ _ _ ⟨rfl, rfl⟩
      refine wl_det rfl rfl (det_assign rfl) rfl ?_
      refine wl_nil ?_
      refine pn_then ?_
      refine wc_ret ?_
      refine pr_then ?_
      refine pn_st (fun _ h => h.zeroS lGPosting 61 none) ?_
      replace h := Option.some.inj h
      subst h
      refine pn_ret (vs := [_, _]) rfl ⟨⟨_, _, [_, _], rfl, (ms m0), .inl ⟨ag25, sz25, rfl⟩⟩, rfl, trivial⟩ ⟨none, 0, 0, rfl, rfl, rfl⟩ (fun _ h => h.to ⟨_, r0, trivial⟩ trivial)
    · have h := ifF h cd13
      refine wc_skip ?_
      refine pn_then ?_
      refine wc_seq ?_
      obtain ⟨k6_p1, h⟩ := chk_some h
      refine dx_regionZ (Z := St C [_, _] [_]) 7 [[], [0], [0, 1], [], [], [4], [3, 4, 5], [0, 1, 2, 3, 4, 5, 6], [0, 1, 2, 3, 4, 5, 6, 7], [0, 1, 2, 3, 4, 5, 6, 7, 8]] mixed (ord := (.det 0 (.det 1 (.det 2 (.det 4 (.det 5 (.alt 3 (.alt 6 .done .dead) .dead))))))) (by kernel_rfl) (fun _ h => h.to ⟨_, r0, ⟨_, r0, trivial⟩⟩ ⟨m0, trivial⟩) ?_   -- region 6
      refine hx_det rfl rfl rfl nofun (det_field rfl fd25_0 rfl) rfl ?_
      refine hx_det rfl rfl rfl nofun (det_load rfl (ms m0) (by rfl) na3 us3) rfl ?_
      refine hx_det rfl rfl rfl nofun (det_add rfl rfl) rfl ?_
      refine hx_det rfl rfl rfl nofun (det_field rfl fd25_1 rfl) rfl ?_
      refine hx_det rfl rfl rfl nofun (det_load rfl (ms m0) (by rfl) na23 us23) rfl ?_
      refine hx_mut rfl rfl rfl (act_lit0S lGPosting un23 (by kernel_rfl)) rfl (by rintro _ _ _ ⟨A6_3, rfl, rfl, rfl⟩ w hs; exact hs.to ⟨_, (rs r0), ⟨_, (rs r0), trivial⟩⟩ ⟨m0, trivial⟩) ?_
      rintro _ _ _ ⟨A6_3, rfl, rfl, rfl⟩
      refine hx_mut rfl rfl rfl (act_appendS0 (L := lGPosting) rfl rfl s0 (src_F m0) un23 in61 rfl rfl rfl k6_p1) rfl (by rintro _ _ _ ⟨A6_6, c6_6, rfl, rfl, rfl⟩ w hs; exact hs.to ⟨_, (rs r0), ⟨_, (rs r0), trivial⟩⟩ ⟨m0, trivial⟩) ?_
      rintro _ _ _ ⟨A6_6, c6_6, rfl, rfl, rfl⟩
      refine hx_end ?_
      refine wl_det rfl rfl (det_build (cs := [_, _]) pl25 zr25 rfl rfl (by rfl)) rfl ?_
      refine wl_act0 (act_store (cells := [_, _]) (cs' := [_, _]) rfl rfl rfl (ss s0) (by rfl) (of_decide_eq_true rfl) sz25 ⟨rfl, rfl, trivial⟩) rfl rfl ?_
      rintro _ _ _ ⟨rfl, rfl⟩
      refine wl_det rfl rfl (det_assign rfl) rfl ?_
      refine wl_nil ?_
      refine pn_then ?_
      refine wc_ret ?_
      replace h := Option.some.inj h
      subst h
      refine pn_ret (vs := [_, _]) rfl ⟨⟨_, _, [_, _], rfl, (ms m0), .inl ⟨ag25, sz25, rfl⟩⟩, rfl, trivial⟩ ⟨A6_6, a0.Postings.length, c6_6, rfl, rfl, rfl⟩ (fun _ h => h.to ⟨_, r0, trivial⟩ trivial)
def Q_treatymade2_Entry (Ba0 : Nat) (r : GEntry × GDeck) : Value → List Ent → List Fact → Prop := fun v θ κ => ∃ (pA0 : Option Addr), ∃ (pn0 : Nat), ∃ (pc0 : Nat), v = .agg #[.int .i64 r.1.Kind, .int .i64 r.1.Treaty, .int .i64 r.1.Party, .int .i64 r.1.Loss, .int .i64 r.1.Amount] ∧ θ = [eBlk Ba0 67 [.slice pA0 pn0 pc0, .int .i64 r.2.At]] ∧ κ = [fV (lSlice (lInt .i64)) (.slice pA0 pn0 pc0) r.2.L]
set_option maxHeartbeats 4000000 in
set_option maxRecDepth 100000 in
theorem W_treatymade2_Entry (a0 : GDeck) (Ba0 : Nat) (A1 : Option Addr) (n1 : Nat) (c1 : Nat) (r : GEntry × GDeck) (h : treatymade2_Entry a0 = some r) : Spec Try.prog 35 [.pointer (some ⟨Ba0, 0, none⟩)] [eBlk Ba0 67 [.slice A1 n1 c1, .int .i64 a0.At]] [fV (lSlice (lInt .i64)) (.slice A1 n1 c1) a0.L] (Q_treatymade2_Entry Ba0 r) := by
  unfold treatymade2_Entry at h
  refine spec_of (σ := [(0, _)]) Try.func35 rfl rfl rfl rfl ?_
  intro C
  refine wc_know (fun _ h => h.lenF m0) (fun e => ?_)
  subst e
  refine wc_seq ?_
  refine wc_region ?_   -- region 0
  refine wl_act (act_alloc (cs := [_, _, _, _, _]) zr43 rfl) rfl rfl rfl ?_
  rintro _ _ _ ⟨b0_0, rfl, rfl, rfl⟩
  refine wl_nil ?_
  refine pn_then ?_
  refine wc_seq ?_
  refine wc_region ?_   -- region 1
  refine wl_det rfl rfl (det_move rfl) rfl ?_
  obtain ⟨r1_1, hr1_1, h⟩ := bind_some h
  refine wl_act (act_callS (cap := []) (W_treatymade_Deck_Next a0 5 Ba0 A1 a0.L.length c1 r1_1 hr1_1) rfl rfl rfl bd16 ⟨_, (rs r0), rfl⟩ ⟨m0, trivial⟩) rfl rfl rfl ?_
  rintro _ _ _ ⟨_, _, ⟨y1_1A0, y1_1n0, y1_1c0, rfl, rfl, rfl⟩, rfl, rfl⟩
  dsimp only [List.nil_append, List.cons_append]
  refine wl_know (fun _ h => h.lenF m0) (fun e => ?_)
  subst e
  refine wl_det rfl rfl (det_add rfl rfl) rfl ?_
  refine wl_det rfl rfl (det_move rfl) rfl ?_
  obtain ⟨r1_4, hr1_4, h⟩ := bind_some h
  refine wl_act (act_callS (cap := []) (W_treatymade_Deck_Next r1_1.2 4 Ba0 y1_1A0 r1_1.2.L.length y1_1c0 r1_4 hr1_4) rfl rfl rfl bd16 ⟨_, r0, rfl⟩ ⟨m0, trivial⟩) rfl rfl rfl ?_
  rintro _ _ _ ⟨_, _, ⟨y1_4A0, y1_4n0, y1_4c0, rfl, rfl, rfl⟩, rfl, rfl⟩
  dsimp only [List.nil_append, List.cons_append]
  refine wl_know (fun _ h => h.lenF m0) (fun e => ?_)
  subst e
  refine wl_det rfl rfl (det_move rfl) rfl ?_
  obtain ⟨r1_6, hr1_6, h⟩ := bind_some h
  refine wl_act (act_callS (cap := []) (W_treatymade_Deck_Next r1_4.2 4 Ba0 y1_4A0 r1_4.2.L.length y1_4c0 r1_6 hr1_6) rfl rfl rfl bd16 ⟨_, r0, rfl⟩ ⟨m0, trivial⟩) rfl rfl rfl ?_
  rintro _ _ _ ⟨_, _, ⟨y1_6A0, y1_6n0, y1_6c0, rfl, rfl, rfl⟩, rfl, rfl⟩
  dsimp only [List.nil_append, List.cons_append]
  refine wl_know (fun _ h => h.lenF m0) (fun e => ?_)
  subst e
  refine wl_det rfl rfl (det_move rfl) rfl ?_
  obtain ⟨r1_8, hr1_8, h⟩ := bind_some h
  refine wl_act (act_callS (cap := []) (W_treatymade_Deck_Next r1_6.2 400 Ba0 y1_6A0 r1_6.2.L.length y1_6c0 r1_8 hr1_8) rfl rfl rfl bd16 ⟨_, r0, rfl⟩ ⟨m0, trivial⟩) rfl rfl rfl ?_
  rintro _ _ _ ⟨_, _, ⟨y1_8A0, y1_8n0, y1_8c0, rfl, rfl, rfl⟩, rfl, rfl⟩
  dsimp only [List.nil_append, List.cons_append]
  refine wl_know (fun _ h => h.lenF m0) (fun e => ?_)
  subst e
  refine wl_det rfl rfl (det_sub rfl rfl) rfl ?_
  refine wl_det rfl rfl (det_build (cs := [_, _, _, _, _]) pl43 zr43 rfl rfl (by rfl)) rfl ?_
  refine wl_act (act_alloc (cs := [_, _, _, _, _]) zr43 rfl) rfl rfl rfl ?_
  rintro _ _ _ ⟨b1_11, rfl, rfl, rfl⟩
  refine wl_act0 (act_store (cells := [_, _, _, _, _]) (cs' := [_, _, _, _, _]) rfl rfl rfl s0 (by rfl) (of_decide_eq_true rfl) sz43 ⟨rfl, rfl, rfl, rfl, rfl, trivial⟩) rfl rfl ?_
  rintro _ _ _ ⟨rfl, rfl⟩
  refine wl_nil ?_
  refine pn_then ?_
  obtain ⟨q4, h, ho4⟩ := bind_some h
  refine wc_meetG (G := ((List Int) × Int × Int) × Option Addr × Nat × Nat × Unit) (fun (s4, _, _, _, _) => s4 = q4) (fun (_, _, _, _, _) => [(0, .pointer (some ⟨Ba0, 0, none⟩)), (2, .pointer (some ⟨b0_0, 0, none⟩)), (3, .pointer (some ⟨b1_11, 0, none⟩))]) (fun (s4, A4_0, n4_0, c4_0, _) => [eBlk Ba0 67 [.slice A4_0 n4_0 c4_0, .int .i64 s4.2.1], eBlk b0_0 43 [.int .i64 0, .int .i64 0, .int .i64 0, .int .i64 0, .int .i64 0], eBlk b1_11 43 [.int .i64 (w64 (1 + r1_1.1)), .int .i64 r1_4.1, .int .i64 r1_6.1, .int .i64 s4.2.2, .int .i64 (w64 (r1_8.1 - 200))]]) (fun (s4, A4_0, n4_0, c4_0, _) => [fV (lSlice (lInt .i64)) (.slice A4_0 n4_0 c4_0) s4.1]) ?_ ?_
  · refine wc_seq ?_
    refine wc_region ?_   -- region 2
    refine wl_det rfl rfl (det_field rfl fd43_0 rfl) rfl ?_
    refine wl_det rfl rfl (det_load rfl m0 (by rfl) na3 us3) rfl ?_
    refine wl_det rfl rfl (det_leq rfl rfl) rfl ?_
    refine wl_nil ?_
    refine pn_then ?_
    refine wc_cond rfl (fun cd7 => ?_) (fun cd7 => ?_)
    · have h := ifT h cd7
      refine wc_region ?_   -- region 3
      refine wl_det rfl rfl (det_move rfl) rfl ?_
      obtain ⟨r3_1, hr3_1, h⟩ := bind_some h
      refine wl_act (act_callS (cap := []) (W_treatymade_Deck_Next r1_8.2 3 Ba0 y1_8A0 r1_8.2.L.length y1_8c0 r3_1 hr3_1) rfl rfl rfl bd16 ⟨_, (rs r0), rfl⟩ ⟨m0, trivial⟩) rfl rfl rfl ?_
      rintro _ _ _ ⟨_, _, ⟨y3_1A0, y3_1n0, y3_1c0, rfl, rfl, rfl⟩, rfl, rfl⟩
      dsimp only [List.nil_append, List.cons_append]
      refine wl_know (fun _ h => h.lenF m0) (fun e => ?_)
      subst e
      refine wl_det rfl rfl (det_add rfl rfl) rfl ?_
      refine wl_det rfl rfl (det_field rfl fd43_3 rfl) rfl ?_
      refine wl_act0 (act_store (cells := [_]) (cs' := [_, _, _, _, _]) rfl rfl rfl (ss s0) (by rfl) (of_decide_eq_true rfl) sz3 ⟨rfl, trivial⟩) rfl rfl ?_
      rintro _ _ _ ⟨rfl, rfl⟩
      refine wl_nil ?_
      replace h := Option.some.inj h
      subst h
      exact pn_meetG ((r3_1.2.L, r3_1.2.At, (w64 (1 + r3_1.1))), y3_1A0, r3_1.2.L.length, y3_1c0, ()) rfl ⟨rfl, rfl, rfl, trivial⟩ (fun _ h => h.to ⟨_, r0, ⟨_, (rs r0), ⟨_, r0, trivial⟩⟩⟩ ⟨m0, trivial⟩)
    · have h := ifF h cd7
      refine wc_skip ?_
      replace h := Option.some.inj h
      subst h
      exact pn_meetG ((r1_8.2.L, r1_8.2.At, 0), y1_8A0, r1_8.2.L.length, y1_8c0, ()) rfl ⟨rfl, rfl, rfl, trivial⟩ (fun _ h => h.to ⟨_, (rs r0), ⟨_, (rs r0), ⟨_, r0, trivial⟩⟩⟩ ⟨m0, trivial⟩)
  rintro ⟨s4, A4_0, n4_0, c4_0, _⟩ e4
  dsimp only at e4 ⊢
  subst e4
  have h := ho4
  refine wc_know (fun _ h => h.lenF m0) (fun e => ?_)
  subst e
  obtain ⟨q9, h, ho9⟩ := bind_some h
  refine wc_meetG (G := ((List Int) × Int × Int) × Option Addr × Nat × Nat × Unit) (fun (s9, _, _, _, _) => s9 = q9) (fun (_, _, _, _, _) => [(2, .pointer (some ⟨b0_0, 0, none⟩)), (3, .pointer (some ⟨b1_11, 0, none⟩))]) (fun (s9, A9_0, n9_0, c9_0, _) => [eBlk Ba0 67 [.slice A9_0 n9_0 c9_0, .int .i64 s9.2.1], eBlk b0_0 43 [.int .i64 0, .int .i64 0, .int .i64 0, .int .i64 0, .int .i64 0], eBlk b1_11 43 [.int .i64 (w64 (1 + r1_1.1)), .int .i64 r1_4.1, .int .i64 r1_6.1, .int .i64 s4.2.2, .int .i64 s9.2.2]]) (fun (s9, A9_0, n9_0, c9_0, _) => [fV (lSlice (lInt .i64)) (.slice A9_0 n9_0 c9_0) s9.1]) ?_ ?_
  · refine wc_seq ?_
    refine wc_region ?_   -- region 4
    refine wl_det rfl rfl (det_move rfl) rfl ?_
    obtain ⟨r4_1, hr4_1, h⟩ := bind_some h
    refine wl_act (act_callS (cap := []) (W_treatymade_Deck_Next (GDeck.mk s4.1 s4.2.1) 8 Ba0 A4_0 s4.1.length c4_0 r4_1 hr4_1) rfl rfl rfl bd16 ⟨_, r0, rfl⟩ ⟨m0, trivial⟩) rfl rfl rfl ?_
    rintro _ _ _ ⟨_, _, ⟨y4_1A0, y4_1n0, y4_1c0, rfl, rfl, rfl⟩, rfl, rfl⟩
    dsimp only [List.nil_append, List.cons_append]
    refine wl_know (fun _ h => h.lenF m0) (fun e => ?_)
    subst e
    refine wl_det rfl rfl (det_eql rfl rfl) rfl ?_
    refine wl_nil ?_
    refine pn_then ?_
    refine wc_cond rfl (fun cd12 => ?_) (fun cd12 => ?_)
    · have h := ifT h cd12
      refine wc_region ?_   -- region 5
      refine wl_det rfl rfl (det_move rfl) rfl ?_
      obtain ⟨r5_1, hr5_1, h⟩ := bind_some h
      refine wl_act (act_callS (cap := []) (W_treatymade_Deck_Next r4_1.2 68719476736 Ba0 y4_1A0 r4_1.2.L.length y4_1c0 r5_1 hr5_1) rfl rfl rfl bd16 ⟨_, r0, rfl⟩ ⟨m0, trivial⟩) rfl rfl rfl ?_
      rintro _ _ _ ⟨_, _, ⟨y5_1A0, y5_1n0, y5_1c0, rfl, rfl, rfl⟩, rfl, rfl⟩
      dsimp only [List.nil_append, List.cons_append]
      refine wl_know (fun _ h => h.lenF m0) (fun e => ?_)
      subst e
      refine wl_det rfl rfl (det_sub rfl rfl) rfl ?_
      refine wl_det rfl rfl (det_field rfl fd43_4 rfl) rfl ?_
      refine wl_act0 (act_store (cells := [_]) (cs' := [_, _, _, _, _]) rfl rfl rfl (ss (ss s0)) (by rfl) (of_decide_eq_true rfl) sz3 ⟨rfl, trivial⟩) rfl rfl ?_
      rintro _ _ _ ⟨rfl, rfl⟩
      refine wl_nil ?_
      replace h := Option.some.inj h
      subst h
      exact pn_meetG ((r5_1.2.L, r5_1.2.At, (w64 (r5_1.1 - 34359738368))), y5_1A0, r5_1.2.L.length, y5_1c0, ()) rfl ⟨rfl, rfl, trivial⟩ (fun _ h => h.to ⟨_, r0, ⟨_, r0, ⟨_, r0, trivial⟩⟩⟩ ⟨m0, trivial⟩)
    · have h := ifF h cd12
      refine wc_skip ?_
      replace h := Option.some.inj h
      subst h
      exact pn_meetG ((r4_1.2.L, r4_1.2.At, (w64 (r1_8.1 - 200))), y4_1A0, r4_1.2.L.length, y4_1c0, ()) rfl ⟨rfl, rfl, trivial⟩ (fun _ h => h.to ⟨_, r0, ⟨_, r0, ⟨_, r0, trivial⟩⟩⟩ ⟨m0, trivial⟩)
  rintro ⟨s9, A9_0, n9_0, c9_0, _⟩ e9
  dsimp only at e9 ⊢
  subst e9
  have h := ho9
  refine wc_know (fun _ h => h.lenF m0) (fun e => ?_)
  subst e
  refine wc_seq ?_
  refine wc_region ?_   -- region 6
  refine wl_det rfl rfl (det_loadN (cells := [_, _, _, _, _]) rfl (ms (ms m0)) (by rfl) ag43 sz43) rfl ?_
  refine wl_act0 (act_store (cells := [_, _, _, _, _]) (cs' := [_, _, _, _, _]) rfl rfl rfl (ss s0) (by rfl) (of_decide_eq_true rfl) sz43 ⟨rfl, rfl, rfl, rfl, rfl, trivial⟩) rfl rfl ?_
  rintro _ _ _ ⟨rfl, rfl⟩
  refine wl_nil ?_
  refine pn_then ?_
  refine wc_ret ?_
  replace h := Option.some.inj h
  subst h
  refine pn_ret (vs := [_]) rfl ⟨⟨_, _, [_, _, _, _, _], rfl, (ms m0), .inl ⟨ag43, sz43, rfl⟩⟩, trivial⟩ ⟨A9_0, s9.1.length, c9_0, rfl, rfl, rfl⟩ (fun _ h => h.to ⟨_, r0, trivial⟩ ⟨m0, trivial⟩)
def Q_treatymade2_Entries (Ba0 : Nat) (r : (List GEntry) × GDeck) : Value → List Ent → List Fact → Prop := fun v θ κ => ∃ (pA0 : Option Addr), ∃ (pn0 : Nat), ∃ (pc0 : Nat), ∃ (pA1 : Option Addr), ∃ (pn1 : Nat), ∃ (pc1 : Nat), v = .slice pA0 pn0 pc0 ∧ θ = [eS lGEntry 43 pA0 pn0 pc0 r.1, eBlk Ba0 67 [.slice pA1 pn1 pc1, .int .i64 r.2.At]] ∧ κ = [fV (lSlice (lInt .i64)) (.slice pA1 pn1 pc1) r.2.L]
set_option maxHeartbeats 4000000 in
set_option maxRecDepth 100000 in
theorem W_treatymade2_Entries (a0 : GDeck) (a1 : Int) (Ba0 : Nat) (A1 : Option Addr) (n1 : Nat) (c1 : Nat) (r : (List GEntry) × GDeck) (h : treatymade2_Entries a0 a1 = some r) : Spec Try.prog 19 [.pointer (some ⟨Ba0, 0, none⟩), .int .i64 a1] [eBlk Ba0 67 [.slice A1 n1 c1, .int .i64 a0.At]] [fV (lSlice (lInt .i64)) (.slice A1 n1 c1) a0.L] (Q_treatymade2_Entries Ba0 r) := by
  unfold treatymade2_Entries at h
  refine spec_of (σ := [(0, _), (1, _)]) Try.func19 rfl rfl rfl rfl ?_
  intro C
  refine wc_know (fun _ h => h.lenF m0) (fun e => ?_)
  subst e
  refine wc_seq ?_
  refine wc_region ?_   -- region 0
  refine wl_det rfl rfl (det_assign rfl) rfl ?_
  refine wl_nil ?_
  refine pn_then ?_
  refine wc_seq ?_
  refine wc_region ?_   -- region 1
  refine wl_det rfl rfl (det_assign rfl) rfl ?_
  refine wl_nil ?_
  refine pn_then ?_
  obtain ⟨q4, h, ho4⟩ := bind_some h
  refine wc_meetG (G := ((List Int) × Int × (List GEntry)) × Option Addr × Nat × Nat × Option Addr × Nat × Nat × Unit) (fun (s4, _, _, _, _, _, _, _) => s4 = q4) (fun (_, _, _, _, A4_3, n4_3, c4_3, _) => [(5, .slice A4_3 n4_3 c4_3)]) (fun (s4, A4_0, n4_0, c4_0, A4_3, n4_3, c4_3, _) => [eBlk Ba0 67 [.slice A4_0 n4_0 c4_0, .int .i64 s4.2.1], eS lGEntry 43 A4_3 n4_3 c4_3 s4.2.2]) (fun (s4, A4_0, n4_0, c4_0, _, _, _, _) => [fV (lSlice (lInt .i64)) (.slice A4_0 n4_0 c4_0) s4.1]) ?_ ?_
  · refine wc_seq ?_
    refine wc_region ?_   -- region 2
    refine wl_det rfl rfl (det_move rfl) rfl ?_
    refine wl_det rfl rfl (det_move rfl) rfl ?_
    refine wl_det rfl rfl (det_add rfl rfl) rfl ?_
    obtain ⟨r2_3, hr2_3, h⟩ := bind_some h
    refine wl_act (act_callS (cap := []) (W_treatymade_Deck_Next a0 (w64 (a1 + 1)) Ba0 A1 a0.L.length c1 r2_3 hr2_3) rfl rfl rfl bd16 ⟨_, r0, rfl⟩ ⟨m0, trivial⟩) rfl rfl rfl ?_
    rintro _ _ _ ⟨_, _, ⟨y2_3A0, y2_3n0, y2_3c0, rfl, rfl, rfl⟩, rfl, rfl⟩
    dsimp only [List.nil_append, List.cons_append]
    refine wl_know (fun _ h => h.lenF m0) (fun e => ?_)
    subst e
    refine wl_det rfl rfl (det_assign rfl) rfl ?_
    refine wl_nil ?_
    refine pn_then ?_
    refine wc_block ?_
    refine wc_st (fun _ h => h.zeroS lGEntry 43 none) ?_
    obtain ⟨k8, hk8⟩ := loopV_some.1 h
    refine wc_loop (G := Nat × ((List Int) × Int × (List GEntry) × Int) × Option Addr × Nat × Nat × Option Addr × Nat × Nat × Unit) (fun g => IterN treatymade2_Entries_l8 g.1 g.2.1 q4) (fun g => g.1) (fun (_, s8, _, _, _, A8_3, n8_3, c8_3, _) => [(0, .pointer (some ⟨Ba0, 0, none⟩)), (5, .slice A8_3 n8_3 c8_3), (6, .int .i64 s8.2.2.2)]) (fun (_, s8, A8_0, n8_0, c8_0, A8_3, n8_3, c8_3, _) => [eBlk Ba0 67 [.slice A8_0 n8_0 c8_0, .int .i64 s8.2.1], eS lGEntry 43 A8_3 n8_3 c8_3 s8.2.2.1]) (fun (_, s8, A8_0, n8_0, c8_0, _, _, _, _) => [fV (lSlice (lInt .i64)) (.slice A8_0 n8_0 c8_0) s8.1]) (k8, (r2_3.2.L, r2_3.2.At, [], r2_3.1), y2_3A0, r2_3.2.L.length, y2_3c0, none, 0, 0, ()) hk8 ⟨rfl, rfl, rfl, trivial⟩ (fun _ h => h.to ⟨_, (rs r0), ⟨_, r0, trivial⟩⟩ ⟨m0, trivial⟩) ?_
    rintro ⟨k8, s8, A8_0, n8_0, c8_0, A8_3, n8_3, c8_3, _⟩ hI
    obtain ⟨k8, rfl, q8, h, g8⟩ := IterN.pos hI
    dsimp only at h ⊢
    unfold treatymade2_Entries_l8 at h
    refine wc_know (fun _ h => h.lenF m0) (fun e => ?_)
    subst e
    refine wc_know (fun _ h => h.lenO (ms m0)) (fun e => ?_)
    subst e
    refine wc_seq ?_
    refine wc_seq ?_
    refine wc_region ?_   -- region 3
    refine wl_det rfl rfl (det_move rfl) rfl ?_
    refine wl_det rfl rfl (det_gtr rfl rfl) rfl ?_
    refine wl_nil ?_
    refine pn_then ?_
    refine wc_cond rfl (fun cd12 => ?_) (fun cd12 => ?_)
    · have h := ifT h cd12
      refine wc_skip ?_
      refine pn_then ?_
      refine wc_seq ?_
      refine wc_block ?_
      refine wc_region ?_   -- region 5
      refine wl_det rfl rfl (det_move rfl) rfl ?_
      refine wl_det rfl rfl (det_move rfl) rfl ?_
      obtain ⟨r5_2, hr5_2, h⟩ := bind_some h
      refine wl_act (act_callS (cap := []) (W_treatymade2_Entry (GDeck.mk s8.1 s8.2.1) Ba0 A8_0 s8.1.length c8_0 r5_2 hr5_2) rfl rfl rfl bd35 ⟨_, r0, rfl⟩ ⟨m0, trivial⟩) rfl rfl rfl ?_
      rintro _ _ _ ⟨_, _, ⟨y5_2A0, y5_2n0, y5_2c0, rfl, rfl, rfl⟩, rfl, rfl⟩
      dsimp only [List.nil_append, List.cons_append]
      refine wl_know (fun _ h => h.lenF m0) (fun e => ?_)
      subst e
      refine wl_act (act_litS lGEntry (vs := [_]) (cs := [_, _, _, _, _]) [r5_2.1] un29 in43 rfl rfl rfl rfl rfl ⟨rfl, trivial⟩ (by rfl) rfl (litR_flat rfl)) rfl rfl rfl ?_
      rintro _ _ _ ⟨A5_3, rfl, rfl, rfl⟩
      obtain ⟨k5_4, h⟩ := chk_some h
      refine wl_act (act_appendS (L := lGEntry) rfl rfl (ss (ss s0)) (src_O m0) un29 in43 rfl rfl rfl k5_4) rfl rfl rfl ?_
      rintro _ _ _ ⟨A5_4, c5_4, rfl, rfl, rfl⟩
      refine wl_det rfl rfl (det_assign rfl) rfl ?_
      refine wl_nil ?_
      refine pn_block ?_
      refine pn_then ?_
      refine wc_region ?_   -- region 4
      refine wl_det rfl rfl (det_move rfl) rfl ?_
      refine wl_det rfl rfl (det_sub rfl rfl) rfl ?_
      refine wl_det rfl rfl (det_assign rfl) rfl ?_
      refine wl_nil ?_
      replace h := Option.some.inj h
      subst h
      exact pn_some (k8, (r5_2.2.L, r5_2.2.At, (s8.2.2.1 ++ [r5_2.1]), (w64 (s8.2.2.2 - 1))), y5_2A0, r5_2.2.L.length, y5_2c0, A5_4, (s8.2.2.1 ++ [r5_2.1]).length, c5_4, ()) ⟨nextL g8, Nat.lt_succ_self _⟩ ⟨rfl, rfl, rfl, trivial⟩ (fun _ h => h.to ⟨_, (rs r0), ⟨_, (rs r0), trivial⟩⟩ ⟨m0, trivial⟩)
    · have h := ifF h cd12
      refine wc_exit ?_
      refine px_then ?_
      refine px_then ?_
      refine px_block ?_
      replace h := Option.some.inj h
      subst h
      replace g8 := nextR g8
      subst g8
      exact pn_meetG ((s8.1, s8.2.1, s8.2.2.1), A8_0, s8.1.length, c8_0, A8_3, s8.2.2.1.length, c8_3, ()) rfl ⟨rfl, trivial⟩ (fun _ h => h.to ⟨_, r0, ⟨_, r0, trivial⟩⟩ ⟨m0, trivial⟩)
  rintro ⟨s4, A4_0, n4_0, c4_0, A4_3, n4_3, c4_3, _⟩ e4
  dsimp only at e4 ⊢
  subst e4
  have h := ho4
  refine wc_know (fun _ h => h.lenF m0) (fun e => ?_)
  subst e
  refine wc_know (fun _ h => h.lenO (ms m0)) (fun e => ?_)
  subst e
  refine wc_seq ?_
  refine wc_region ?_   -- region 6
  refine wl_det rfl rfl (det_move rfl) rfl ?_
  refine wl_det rfl rfl (det_assign rfl) rfl ?_
  refine wl_nil ?_
  refine pn_then ?_
  refine wc_ret ?_
  replace h := Option.some.inj h
  subst h
  refine pn_ret (vs := [_]) rfl ⟨rfl, trivial⟩ ⟨A4_3, s4.2.2.length, c4_3, A4_0, s4.1.length, c4_0, rfl, rfl, rfl⟩ (fun _ h => h.to ⟨_, (rs r0), ⟨_, r0, trivial⟩⟩ ⟨m0, trivial⟩)
def Q_treatyref33_Before (r : Bool) : Value → List Ent → List Fact → Prop := fun v θ κ => v = .bool r ∧ θ = [] ∧ κ = []
theorem plains_treatyref33_Before {r : Bool} : ∀ v θ κ, Q_treatyref33_Before r v θ κ → Plains θ := by
  rintro _ _ _ ⟨rfl, rfl, rfl⟩
  exact trivial
set_option maxHeartbeats 4000000 in
set_option maxRecDepth 100000 in
theorem W_treatyref33_Before (a0 : GEntry) (a1 : GEntry) (r : Bool) (h : treatyref33_Before a0 a1 = some r) : Spec Try.prog 57 [.agg #[.int .i64 a0.Kind, .int .i64 a0.Treaty, .int .i64 a0.Party, .int .i64 a0.Loss, .int .i64 a0.Amount], .agg #[.int .i64 a1.Kind, .int .i64 a1.Treaty, .int .i64 a1.Party, .int .i64 a1.Loss, .int .i64 a1.Amount]] [] [] (Q_treatyref33_Before r) := by
  unfold treatyref33_Before at h
  refine spec_of (σ := [(0, _), (1, _)]) Try.func57 rfl rfl rfl rfl ?_
  intro C
  refine wc_seq ?_
  refine wc_region ?_   -- region 0
  refine wl_act (act_box (cs := [_, _, _, _, _]) rfl rfl) rfl rfl rfl ?_
  rintro _ _ _ ⟨b0_0, rfl, rfl, rfl⟩
  refine wl_act (act_box (cs := [_, _, _, _, _]) rfl rfl) rfl rfl rfl ?_
  rintro _ _ _ ⟨b0_1, rfl, rfl, rfl⟩
  refine wl_det rfl rfl (det_assign rfl) rfl ?_
  refine wl_nil ?_
  refine pn_then ?_
  refine wc_seq ?_
  refine wc_seq ?_
  refine wc_region ?_   -- region 1
  refine wl_det rfl rfl (det_field rfl fd43_0 rfl) rfl ?_
  refine wl_det rfl rfl (det_load rfl (ms m0) (by rfl) na3 us3) rfl ?_
  refine wl_det rfl rfl (det_field rfl fd43_0 rfl) rfl ?_
  refine wl_det rfl rfl (det_load rfl m0 (by rfl) na3 us3) rfl ?_
  refine wl_det rfl rfl (det_neq rfl rfl) rfl ?_
  refine wl_nil ?_
  refine pn_then ?_
  refine wc_cond rfl (fun cd5 => ?_) (fun cd5 => ?_)
  · have h := ifT h cd5
    refine wc_seq ?_
    refine wc_region ?_   -- region 2
    refine wl_det rfl rfl (det_field rfl fd43_0 rfl) rfl ?_
    refine wl_det rfl rfl (det_load rfl (ms m0) (by rfl) na3 us3) rfl ?_
    refine wl_det rfl rfl (det_field rfl fd43_0 rfl) rfl ?_
    refine wl_det rfl rfl (det_load rfl m0 (by rfl) na3 us3) rfl ?_
    refine wl_det rfl rfl (det_lss rfl rfl) rfl ?_
    refine wl_det rfl rfl (det_assign rfl) rfl ?_
    refine wl_nil ?_
    refine pn_then ?_
    refine wc_ret ?_
    refine pr_then ?_
    replace h := Option.some.inj h
    subst h
    refine pn_ret (vs := [_]) rfl ⟨rfl, trivial⟩ ⟨rfl, rfl, rfl⟩ (fun _ h => h.to trivial trivial)
  · have h := ifF h cd5
    refine wc_skip ?_
    refine pn_then ?_
    refine wc_seq ?_
    refine wc_seq ?_
    refine wc_region ?_   -- region 3
    refine wl_det rfl rfl (det_field rfl fd43_1 rfl) rfl ?_
    refine wl_det rfl rfl (det_load rfl (ms m0) (by rfl) na3 us3) rfl ?_
    refine wl_det rfl rfl (det_field rfl fd43_1 rfl) rfl ?_
    refine wl_det rfl rfl (det_load rfl m0 (by rfl) na3 us3) rfl ?_
    refine wl_det rfl rfl (det_neq rfl rfl) rfl ?_
    refine wl_nil ?_
    refine pn_then ?_
    refine wc_cond rfl (fun cd11 => ?_) (fun cd11 => ?_)
    · have h := ifT h cd11
      refine wc_seq ?_
      refine wc_region ?_   -- region 4
      refine wl_det rfl rfl (det_field rfl fd43_1 rfl) rfl ?_
      refine wl_det rfl rfl (det_load rfl (ms m0) (by rfl) na3 us3) rfl ?_
      refine wl_det rfl rfl (det_field rfl fd43_1 rfl) rfl ?_
      refine wl_det rfl rfl (det_load rfl m0 (by rfl) na3 us3) rfl ?_
      refine wl_det rfl rfl (det_lss rfl rfl) rfl ?_
      refine wl_det rfl rfl (det_assign rfl) rfl ?_
      refine wl_nil ?_
      refine pn_then ?_
      refine wc_ret ?_
      refine pr_then ?_
      replace h := Option.some.inj h
      subst h
      refine pn_ret (vs := [_]) rfl ⟨rfl, trivial⟩ ⟨rfl, rfl, rfl⟩ (fun _ h => h.to trivial trivial)
    · have h := ifF h cd11
      refine wc_skip ?_
      refine pn_then ?_
      refine wc_seq ?_
      refine wc_seq ?_
      refine wc_region ?_   -- region 5
      refine wl_det rfl rfl (det_field rfl fd43_2 rfl) rfl ?_
      refine wl_det rfl rfl (det_load rfl (ms m0) (by rfl) na3 us3) rfl ?_
      refine wl_det rfl rfl (det_field rfl fd43_2 rfl) rfl ?_
      refine wl_det rfl rfl (det_load rfl m0 (by rfl) na3 us3) rfl ?_
      refine wl_det rfl rfl (det_neq rfl rfl) rfl ?_
      refine wl_nil ?_
      refine pn_then ?_
      refine wc_cond rfl (fun cd17 => ?_) (fun cd17 => ?_)
      · have h := ifT h cd17
        refine wc_seq ?_
        refine wc_region ?_   -- region 6
        refine wl_det rfl rfl (det_field rfl fd43_2 rfl) rfl ?_
        refine wl_det rfl rfl (det_load rfl (ms m0) (by rfl) na3 us3) rfl ?_
        refine wl_det rfl rfl (det_field rfl fd43_2 rfl) rfl ?_
        refine wl_det rfl rfl (det_load rfl m0 (by rfl) na3 us3) rfl ?_
        refine wl_det rfl rfl (det_lss rfl rfl) rfl ?_
        refine wl_det rfl rfl (det_assign rfl) rfl ?_
        refine wl_nil ?_
        refine pn_then ?_
        refine wc_ret ?_
        refine pr_then ?_
        replace h := Option.some.inj h
        subst h
        refine pn_ret (vs := [_]) rfl ⟨rfl, trivial⟩ ⟨rfl, rfl, rfl⟩ (fun _ h => h.to trivial trivial)
      · have h := ifF h cd17
        refine wc_skip ?_
        refine pn_then ?_
        refine wc_seq ?_
        refine wc_region ?_   -- region 7
        refine wl_det rfl rfl (det_field rfl fd43_3 rfl) rfl ?_
        refine wl_det rfl rfl (det_load rfl (ms m0) (by rfl) na3 us3) rfl ?_
        refine wl_det rfl rfl (det_field rfl fd43_3 rfl) rfl ?_
        refine wl_det rfl rfl (det_load rfl m0 (by rfl) na3 us3) rfl ?_
        refine wl_det rfl rfl (det_lss rfl rfl) rfl ?_
        refine wl_det rfl rfl (det_assign rfl) rfl ?_
        refine wl_nil ?_
        refine pn_then ?_
        refine wc_ret ?_
        replace h := Option.some.inj h
        subst h
        refine pn_ret (vs := [_]) rfl ⟨rfl, trivial⟩ ⟨rfl, rfl, rfl⟩ (fun _ h => h.to trivial trivial)
def Q_treatyref33_sorted (r : (List GEntry)) : Value → List Ent → List Fact → Prop := fun v θ κ => ∃ (pA0 : Option Addr), ∃ (pn0 : Nat), ∃ (pc0 : Nat), v = .slice pA0 pn0 pc0 ∧ θ = [eS lGEntry 43 pA0 pn0 pc0 r] ∧ κ = []
theorem plains_treatyref33_sorted {r : (List GEntry)} : ∀ v θ κ, Q_treatyref33_sorted r v θ κ → Plains θ := by
  rintro _ _ _ ⟨_, _, _, rfl, rfl, rfl⟩
  exact ⟨plain_eS, trivial⟩
set_option maxRecDepth 100000 in
theorem W_treatyref33_sorted_F (self : (List GEntry) → Option (List GEntry)) (ih : ∀ (a0 : (List GEntry)) (A0 : Option Addr) (n0 : Nat) (c0 : Nat) (r : (List GEntry)), self a0 = some r → Spec Try.prog 56 [.slice A0 n0 c0] [] [fV (lSlice lGEntry) (.slice A0 n0 c0) a0] (Q_treatyref33_sorted r)) (a0 : (List GEntry)) (A0 : Option Addr) (n0 : Nat) (c0 : Nat) (r : (List GEntry)) (h : treatyref33_sorted_F self a0 = some r) : Spec Try.prog 56 [.slice A0 n0 c0] [] [fV (lSlice lGEntry) (.slice A0 n0 c0) a0] (Q_treatyref33_sorted r) := by
  unfold treatyref33_sorted_F at h
  refine spec_of (σ := [(0, _)]) Try.func56 rfl rfl rfl rfl ?_
  intro C
  refine wc_know (fun _ h => h.lenF m0) (fun e => ?_)
  subst e
  refine wc_seq ?_
  refine wc_region ?_   -- region 0
  refine wl_det rfl rfl (det_assign rfl) rfl ?_
  refine wl_nil ?_
  refine pn_then ?_
  refine wc_seq ?_
  refine wc_seq ?_
  refine wc_region ?_   -- region 1
  refine wl_det rfl rfl (det_move rfl) rfl ?_
  refine wl_det rfl rfl (det_len rfl un29) rfl ?_
  refine wl_det rfl rfl (det_lss rfl rfl) rfl ?_
  refine wl_nil ?_
  refine pn_then ?_
  refine wc_cond rfl (fun cd5 => ?_) (fun cd5 => ?_)
  · have h := ifT h cd5
    refine wc_seq ?_
    refine wc_region ?_   -- region 2
    refine wl_act (act_lit0S lGEntry un29 (by kernel_rfl)) rfl rfl rfl ?_
    rintro _ _ _ ⟨A2_0, rfl, rfl, rfl⟩
    refine wl_det rfl rfl (det_move rfl) rfl ?_
    obtain ⟨k2_2, h⟩ := chk_some h
    refine wl_act (act_appendS0 (L := lGEntry) rfl rfl s0 (src_F m0) un29 in43 rfl rfl rfl k2_2) rfl rfl rfl ?_
    rintro _ _ _ ⟨A2_2, c2_2, rfl, rfl, rfl⟩
    refine wl_det rfl rfl (det_assign rfl) rfl ?_
    refine wl_nil ?_
    refine pn_then ?_
    refine wc_ret ?_
    refine pr_then ?_
    replace h := Option.some.inj h
    subst h
    refine pn_ret (vs := [_]) rfl ⟨rfl, trivial⟩ ⟨A2_2, a0.length, c2_2, rfl, rfl, rfl⟩ (fun _ h => h.to ⟨_, r0, trivial⟩ trivial)
  · have h := ifF h cd5
    refine wc_skip ?_
    refine pn_then ?_
    obtain ⟨q8, h, ho8⟩ := bind_some h
    refine wc_meetG (G := ((List GEntry) × (List GEntry)) × Option Addr × Nat × Nat × Option Addr × Nat × Nat × Unit) (fun (s8, _, _, _, _, _, _, _) => s8 = q8) (fun (_, A8_0, n8_0, c8_0, A8_3, n8_3, c8_3, _) => [(3, .slice A8_0 n8_0 c8_0), (4, .slice A8_3 n8_3 c8_3)]) (fun (s8, A8_0, n8_0, c8_0, A8_3, n8_3, c8_3, _) => [eS lGEntry 43 A8_0 n8_0 c8_0 s8.1, eS lGEntry 43 A8_3 n8_3 c8_3 s8.2]) (fun (_, _, _, _, _, _, _, _) => []) ?_ ?_
    · obtain ⟨k3_p1, h⟩ := chk_some h
      obtain ⟨k3_p2, h⟩ := chk_some h
      refine dx_regionZ (Z := St C [] [_]) 12 [[], [], [1], [1, 2], [0, 1, 2, 3], [0, 1, 2, 3, 4], [], [], [7], [7, 8], [6, 7, 8, 9], [0, 1, 2, 3, 4, 5, 6, 7, 8, 9, 10], [0, 1, 2, 3, 4, 5, 6, 7, 8, 9, 10, 11], [0, 1, 2, 3, 4, 5, 6, 7, 8, 9, 10, 11, 12]] mixed (ord := (.det 0 (.det 1 (.det 2 (.det 3 (.det 6 (.det 7 (.det 8 (.det 9 (.alt 4 (.alt 5 (.alt 10 (.alt 11 .done .dead) .dead) (.alt 10 (.alt 5 (.alt 11 .done .dead) .dead) .dead)) (.alt 10 (.alt 4 (.alt 5 (.alt 11 .done .dead) .dead) .dead) .dead))))))))))) (by kernel_rfl) (fun _ h => h.to trivial ⟨m0, trivial⟩) ?_   -- region 3
      refine hx_det rfl rfl rfl nofun (det_move rfl) rfl ?_
      refine hx_det rfl rfl rfl nofun (det_move rfl) rfl ?_
      refine hx_det rfl rfl rfl nofun (det_len rfl un29) rfl ?_
      refine hx_det rfl rfl rfl nofun (det_quoB rfl rfl rfl) rfl ?_
      refine hx_det rfl rfl rfl nofun (det_move rfl) rfl ?_
      refine hx_det rfl rfl rfl nofun (det_move rfl) rfl ?_
      refine hx_det rfl rfl rfl nofun (det_len rfl un29) rfl ?_
      refine hx_det rfl rfl rfl nofun (det_quoB rfl rfl rfl) rfl ?_
      refine hx_or ?_ ?_
      · refine hx_mut rfl rfl rfl (act_sliceH rfl rfl m0 un29 sz43 rfl k3_p1 k3_p2) rfl (by rintro _ _ _ ⟨A3_4, c3_4, rfl, rfl, rfl⟩ w hs; exact hs.to trivial ⟨(ms m0), trivial⟩) ?_
        rintro _ _ _ ⟨A3_4, c3_4, rfl, rfl, rfl⟩
        refine hx_or ?_ ?_
        · obtain ⟨r3_5, hr3_5, h⟩ := bind_some h
          refine hx_mut rfl rfl rfl (act_callS (cap := []) (ih (a0.take (w64 ((a0.length : Int).tdiv 2)).toNat) A3_4 (a0.take (w64 ((a0.length : Int).tdiv 2)).toNat).length c3_4 r3_5 hr3_5) rfl rfl rfl bd56 rfl ⟨m0, trivial⟩) rfl (by rintro _ _ _ ⟨_, _, ⟨y3_5A0, y3_5n0, y3_5c0, rfl, rfl, rfl⟩, rfl, rfl⟩ w hs; exact hs.to trivial ⟨(ms m0), trivial⟩) ?_
          rintro _ _ _ ⟨_, _, ⟨y3_5A0, y3_5n0, y3_5c0, rfl, rfl, rfl⟩, rfl, rfl⟩
          dsimp only [List.nil_append, List.cons_append]
          refine hx_mut rfl rfl rfl (act_sliceL rfl rfl (ms m0) un29 sz43 rfl k3_p1 k3_p2) rfl (by rintro _ _ _ ⟨A3_10, c3_10, rfl, rfl, rfl⟩ w hs; exact hs.to trivial ⟨(ms (ms m0)), trivial⟩) ?_
          rintro _ _ _ ⟨A3_10, c3_10, rfl, rfl, rfl⟩
          obtain ⟨r3_11, hr3_11, h⟩ := bind_some h
          refine hx_mut rfl rfl rfl (act_callS (cap := []) (ih (a0.drop (w64 ((a0.length : Int).tdiv 2)).toNat) A3_10 (a0.drop (w64 ((a0.length : Int).tdiv 2)).toNat).length c3_10 r3_11 hr3_11) rfl rfl rfl bd56 rfl ⟨m0, trivial⟩) rfl (by rintro _ _ _ ⟨_, _, ⟨y3_11A0, y3_11n0, y3_11c0, rfl, rfl, rfl⟩, rfl, rfl⟩ w hs; exact hs.to trivial ⟨(ms (ms m0)), trivial⟩) ?_
          rintro _ _ _ ⟨_, _, ⟨y3_11A0, y3_11n0, y3_11c0, rfl, rfl, rfl⟩, rfl, rfl⟩
          dsimp only [List.nil_append, List.cons_append]
          refine hx_end ?_
          refine wl_know (fun _ h => h.lenO (ms m0)) (fun e => ?_)
          subst e
          refine wl_know (fun _ h => h.lenO m0) (fun e => ?_)
          subst e
          refine wl_det rfl rfl (det_assign rfl) rfl ?_
          refine wl_det rfl rfl (det_assign rfl) rfl ?_
          refine wl_nil ?_
          replace h := Option.some.inj h
          subst h
          exact pn_meetG ((r3_5, r3_11), y3_5A0, r3_5.length, y3_5c0, y3_11A0, r3_11.length, y3_11c0, ()) rfl ⟨rfl, rfl, trivial⟩ (fun _ h => h.to ⟨_, (rs r0), ⟨_, r0, trivial⟩⟩ trivial)
        refine hx_or ?_ trivial
        refine hx_mut rfl rfl rfl (act_sliceL rfl rfl (ms m0) un29 sz43 rfl k3_p1 k3_p2) rfl (by rintro _ _ _ ⟨A3_10, c3_10, rfl, rfl, rfl⟩ w hs; exact hs.to trivial ⟨(ms (ms m0)), trivial⟩) ?_
        rintro _ _ _ ⟨A3_10, c3_10, rfl, rfl, rfl⟩
        obtain ⟨r3_5, hr3_5, h⟩ := bind_some h
        refine hx_mut rfl rfl rfl (act_callS (cap := []) (ih (a0.take (w64 ((a0.length : Int).tdiv 2)).toNat) A3_4 (a0.take (w64 ((a0.length : Int).tdiv 2)).toNat).length c3_4 r3_5 hr3_5) rfl rfl rfl bd56 rfl ⟨(ms m0), trivial⟩) rfl (by rintro _ _ _ ⟨_, _, ⟨y3_5A0, y3_5n0, y3_5c0, rfl, rfl, rfl⟩, rfl, rfl⟩ w hs; exact hs.to trivial ⟨(ms (ms m0)), trivial⟩) ?_
        rintro _ _ _ ⟨_, _, ⟨y3_5A0, y3_5n0, y3_5c0, rfl, rfl, rfl⟩, rfl, rfl⟩
        dsimp only [List.nil_append, List.cons_append]
        obtain ⟨r3_11, hr3_11, h⟩ := bind_some h
        refine hx_mut rfl rfl rfl (act_callS (cap := []) (ih (a0.drop (w64 ((a0.length : Int).tdiv 2)).toNat) A3_10 (a0.drop (w64 ((a0.length : Int).tdiv 2)).toNat).length c3_10 r3_11 hr3_11) rfl rfl rfl bd56 rfl ⟨m0, trivial⟩) rfl (by rintro _ _ _ ⟨_, _, ⟨y3_11A0, y3_11n0, y3_11c0, rfl, rfl, rfl⟩, rfl, rfl⟩ w hs; exact hs.to trivial ⟨(ms (ms m0)), trivial⟩) ?_
        rintro _ _ _ ⟨_, _, ⟨y3_11A0, y3_11n0, y3_11c0, rfl, rfl, rfl⟩, rfl, rfl⟩
        dsimp only [List.nil_append, List.cons_append]
        refine hx_end ?_
        refine wl_know (fun _ h => h.lenO (ms m0)) (fun e => ?_)
        subst e
        refine wl_know (fun _ h => h.lenO m0) (fun e => ?_)
        subst e
        refine wl_det rfl rfl (det_assign rfl) rfl ?_
        refine wl_det rfl rfl (det_assign rfl) rfl ?_
        refine wl_nil ?_
        replace h := Option.some.inj h
        subst h
        exact pn_meetG ((r3_5, r3_11), y3_5A0, r3_5.length, y3_5c0, y3_11A0, r3_11.length, y3_11c0, ()) rfl ⟨rfl, rfl, trivial⟩ (fun _ h => h.to ⟨_, (rs r0), ⟨_, r0, trivial⟩⟩ trivial)
      refine hx_or ?_ trivial
      refine hx_mut rfl rfl rfl (act_sliceL rfl rfl m0 un29 sz43 rfl k3_p1 k3_p2) rfl (by rintro _ _ _ ⟨A3_10, c3_10, rfl, rfl, rfl⟩ w hs; exact hs.to trivial ⟨(ms m0), trivial⟩) ?_
      rintro _ _ _ ⟨A3_10, c3_10, rfl, rfl, rfl⟩
      refine hx_mut rfl rfl rfl (act_sliceH rfl rfl (ms m0) un29 sz43 rfl k3_p1 k3_p2) rfl (by rintro _ _ _ ⟨A3_4, c3_4, rfl, rfl, rfl⟩ w hs; exact hs.to trivial ⟨(ms (ms m0)), trivial⟩) ?_
      rintro _ _ _ ⟨A3_4, c3_4, rfl, rfl, rfl⟩
      obtain ⟨r3_5, hr3_5, h⟩ := bind_some h
      refine hx_mut rfl rfl rfl (act_callS (cap := []) (ih (a0.take (w64 ((a0.length : Int).tdiv 2)).toNat) A3_4 (a0.take (w64 ((a0.length : Int).tdiv 2)).toNat).length c3_4 r3_5 hr3_5) rfl rfl rfl bd56 rfl ⟨m0, trivial⟩) rfl (by rintro _ _ _ ⟨_, _, ⟨y3_5A0, y3_5n0, y3_5c0, rfl, rfl, rfl⟩, rfl, rfl⟩ w hs; exact hs.to trivial ⟨(ms (ms m0)), trivial⟩) ?_
      rintro _ _ _ ⟨_, _, ⟨y3_5A0, y3_5n0, y3_5c0, rfl, rfl, rfl⟩, rfl, rfl⟩
      dsimp only [List.nil_append, List.cons_append]
      obtain ⟨r3_11, hr3_11, h⟩ := bind_some h
      refine hx_mut rfl rfl rfl (act_callS (cap := []) (ih (a0.drop (w64 ((a0.length : Int).tdiv 2)).toNat) A3_10 (a0.drop (w64 ((a0.length : Int).tdiv 2)).toNat).length c3_10 r3_11 hr3_11) rfl rfl rfl bd56 rfl ⟨(ms m0), trivial⟩) rfl (by rintro _ _ _ ⟨_, _, ⟨y3_11A0, y3_11n0, y3_11c0, rfl, rfl, rfl⟩, rfl, rfl⟩ w hs; exact hs.to trivial ⟨(ms (ms m0)), trivial⟩) ?_
      rintro _ _ _ ⟨_, _, ⟨y3_11A0, y3_11n0, y3_11c0, rfl, rfl, rfl⟩, rfl, rfl⟩
      dsimp only [List.nil_append, List.cons_append]
      refine hx_end ?_
      refine wl_know (fun _ h => h.lenO (ms m0)) (fun e => ?_)
      subst e
      refine wl_know (fun _ h => h.lenO m0) (fun e => ?_)
      subst e
      refine wl_det rfl rfl (det_assign rfl) rfl ?_
      refine wl_det rfl rfl (det_assign rfl) rfl ?_
      refine wl_nil ?_
      replace h := Option.some.inj h
      subst h
      exact pn_meetG ((r3_5, r3_11), y3_5A0, r3_5.length, y3_5c0, y3_11A0, r3_11.length, y3_11c0, ()) rfl ⟨rfl, rfl, trivial⟩ (fun _ h => h.to ⟨_, (rs r0), ⟨_, r0, trivial⟩⟩ trivial)
    rintro ⟨s8, A8_0, n8_0, c8_0, A8_3, n8_3, c8_3, _⟩ e8
    dsimp only at e8 ⊢
    subst e8
    have h := ho8
    refine wc_know (fun _ h => h.lenO m0) (fun e => ?_)
    subst e
    refine wc_know (fun _ h => h.lenO (ms m0)) (fun e => ?_)
    subst e
    refine wc_seq ?_
    refine wc_region ?_   -- region 4
    refine wl_det rfl rfl (det_assign rfl) rfl ?_
    refine wl_nil ?_
    refine pn_then ?_
    obtain ⟨q12, h, ho12⟩ := bind_some h
    refine wc_meetG (G := ((List GEntry) × (List GEntry) × (List GEntry)) × Option Addr × Nat × Nat × Option Addr × Nat × Nat × Option Addr × Nat × Nat × Unit) (fun (s12, _, _, _, _, _, _, _, _, _, _) => s12 = q12) (fun (_, A12_0, n12_0, c12_0, A12_3, n12_3, c12_3, A12_6, n12_6, c12_6, _) => [(3, .slice A12_0 n12_0 c12_0), (4, .slice A12_3 n12_3 c12_3), (5, .slice A12_6 n12_6 c12_6)]) (fun (s12, _, _, _, _, _, _, A12_6, n12_6, c12_6, _) => [eS lGEntry 43 A12_6 n12_6 c12_6 s12.2.2]) (fun (s12, A12_0, n12_0, c12_0, A12_3, n12_3, c12_3, _, _, _, _) => [fV (lSlice lGEntry) (.slice A12_0 n12_0 c12_0) s12.1, fV (lSlice lGEntry) (.slice A12_3 n12_3 c12_3) s12.2.1]) ?_ ?_
    · refine wc_block ?_
      refine wc_st (fun _ h => h.shutS r0) ?_
      refine wc_st (fun _ h => h.shutS r0) ?_
      refine wc_st (fun _ h => h.zeroS lGEntry 43 none) ?_
      obtain ⟨k14, hk14⟩ := loopV_some.1 h
      refine wc_loop (G := Nat × ((List GEntry) × (List GEntry) × (List GEntry)) × Option Addr × Nat × Nat × Option Addr × Nat × Nat × Option Addr × Nat × Nat × Unit) (fun g => IterN treatyref33_sorted_l14 g.1 g.2.1 q12) (fun g => g.1) (fun (_, _, A14_0, n14_0, c14_0, A14_3, n14_3, c14_3, A14_6, n14_6, c14_6, _) => [(3, .slice A14_0 n14_0 c14_0), (4, .slice A14_3 n14_3 c14_3), (5, .slice A14_6 n14_6 c14_6)]) (fun (_, s14, _, _, _, _, _, _, A14_6, n14_6, c14_6, _) => [eS lGEntry 43 A14_6 n14_6 c14_6 s14.2.2]) (fun (_, s14, A14_0, n14_0, c14_0, A14_3, n14_3, c14_3, _, _, _, _) => [fV (lSlice lGEntry) (.slice A14_0 n14_0 c14_0) s14.1, fV (lSlice lGEntry) (.slice A14_3 n14_3 c14_3) s14.2.1]) (k14, (s8.1, s8.2, []), A8_0, s8.1.length, c8_0, A8_3, s8.2.length, c8_3, none, 0, 0, ()) hk14 ⟨rfl, rfl, rfl, trivial⟩ (fun _ h => h.to ⟨_, r0, trivial⟩ ⟨(ms m0), ⟨m0, trivial⟩⟩) ?_
      rintro ⟨k14, s14, A14_0, n14_0, c14_0, A14_3, n14_3, c14_3, A14_6, n14_6, c14_6, _⟩ hI
      obtain ⟨k14, rfl, q14, h, g14⟩ := IterN.pos hI
      dsimp only at h ⊢
      unfold treatyref33_sorted_l14 at h
      refine wc_know (fun _ h => h.lenF m0) (fun e => ?_)
      subst e
      refine wc_know (fun _ h => h.lenF (ms m0)) (fun e => ?_)
      subst e
      refine wc_know (fun _ h => h.lenO m0) (fun e => ?_)
      subst e
      refine wc_seq ?_
      refine wc_seq ?_
      refine wc_region ?_   -- region 5
      refine wl_det rfl rfl (det_move rfl) rfl ?_
      refine wl_det rfl rfl (det_len rfl un29) rfl ?_
      refine wl_det rfl rfl (det_gtr rfl rfl) rfl ?_
      refine wl_det rfl rfl (det_move rfl) rfl ?_
      refine wl_way (decide (0 < (s14.1.length : Int))) ((decide (0 < (s14.1.length : Int))) && (decide (0 < (s14.2.1.length : Int)))) 4 31 (fun hg => ?_) (fun hg => ?_) ?_
      · have hg5_7 := hg
        refine wl_on rfl rfl rfl rfl hg5_7 ?_
        refine wl_det rfl rfl (det_move rfl) rfl ?_
        refine wl_on rfl rfl rfl rfl hg5_7 ?_
        refine wl_det rfl rfl (det_len rfl un29) rfl ?_
        refine wl_on rfl rfl rfl rfl hg5_7 ?_
        refine wl_det rfl rfl (det_gtr rfl rfl) rfl ?_
        refine wl_det rfl rfl (det_and_on rfl rfl rfl hg5_7) rfl ?_
        exact wl_nil (pn_qnE (ext_cons rfl (ext_skip rfl (ext_skip rfl (ext_skip rfl (ext_skip rfl ext_refl))))) (fun _ h => h))
      · have hg5_7a := hg
        refine wl_off rfl rfl rfl rfl rfl hg5_7a rfl ?_
        refine wl_off rfl rfl rfl rfl rfl hg5_7a rfl ?_
        refine wl_off rfl rfl rfl rfl rfl hg5_7a rfl ?_
        refine wl_det rfl rfl (det_and_off (q := (decide (0 < (s14.2.1.length : Int)))) rfl rfl rfl hg5_7a) rfl ?_
        exact wl_nil (pn_qnE (ext_cons rfl (ext_skip rfl (ext_skip rfl (ext_skip rfl (ext_skip rfl ext_refl))))) (fun _ h => h))
      refine wl_nil ?_
      refine pn_then ?_
      refine wc_cond rfl (fun cd18 => ?_) (fun cd18 => ?_)
      · have h := ifT h cd18
        refine wc_skip ?_
        refine pn_then ?_
        refine wc_block ?_
        refine wc_seq ?_
        obtain ⟨k6_p1, h⟩ := chk_some h
        refine wc_st (fun _ h => h.openF (ms m0) k6_p1) ?_
        obtain ⟨k6_p3, h⟩ := chk_some h
        refine wc_st (fun _ h => h.openF (ms m0) k6_p3) ?_
        refine dx_region 7 [[], [0], [0, 1], [], [3], [3, 4], [0, 1, 2, 3, 4, 5]] mixed (ord := (.det 0 (.det 1 (.det 2 (.det 3 (.det 4 (.det 5 (.alt 6 .done .dead)))))))) (by kernel_rfl) ?_   -- region 6
        refine hx_det rfl rfl rfl nofun (det_move rfl) rfl ?_
        refine hx_det rfl rfl rfl nofun (det_indexP rfl rfl (ms (ms (ms m0))) k6_p1 (ms m0) un29 sz43) rfl ?_
        refine hx_det rfl rfl rfl nofun (det_loadP (off := 0) rfl (ms m0) (by rfl) (by rfl) (loaded_n (cells := [_, _, _, _, _]) ag43 sz43)) rfl ?_
        refine hx_det rfl rfl rfl nofun (det_move rfl) rfl ?_
        refine hx_det rfl rfl rfl nofun (det_indexP rfl rfl (ms (ms m0)) k6_p3 m0 un29 sz43) rfl ?_
        refine hx_det rfl rfl rfl nofun (det_loadP (off := 0) rfl m0 (by rfl) (by rfl) (loaded_n (cells := [_, _, _, _, _]) ag43 sz43)) rfl ?_
        obtain ⟨r6_6, hr6_6, h⟩ := bind_some h
        refine hx_act rfl rfl rfl (act_callS (cap := []) (W_treatyref33_Before (ix s14.2.1 0) (ix s14.1 0) r6_6 hr6_6) rfl rfl rfl bd57 rfl trivial) rfl (by rintro _ _ _ ⟨_, _, _, rfl, rfl⟩; first | exact ⟨_, _, rfl, rfl⟩ | exact ⟨_, [], rfl, rfl⟩) ?_
        rintro _ _ _ ⟨_, _, ⟨rfl, rfl, rfl⟩, rfl, rfl⟩
        dsimp only [List.nil_append, List.cons_append]
        refine hx_end ?_
        refine wl_nil ?_
        refine pn_then ?_
        refine wc_cond rfl (fun cd23 => ?_) (fun cd23 => ?_)
        · have h := ifT h cd23
          obtain ⟨k7_p1, h⟩ := chk_some h
          obtain ⟨k7_p2, h⟩ := chk_some h
          refine dx_regionZ (Z := St C [] [_, _, _, _]) 9 [[], [], [1], [1, 2], [1, 2, 3], [0, 1, 2, 3, 4], [], [6], [0, 1, 2, 3, 4, 5], [0, 1, 2, 3, 4, 5, 6, 7, 8]] mixed (ord := (.det 0 (.det 1 (.det 2 (.det 3 (.det 6 (.alt 4 (.alt 5 (.det 8 (.alt 7 .done .dead)) (.alt 7 (.alt 5 (.det 8 .done) .dead) .dead)) (.alt 7 (.alt 4 (.alt 5 (.det 8 .done) .dead) .dead) .dead)))))))) (by kernel_rfl) (fun _ h => h.to trivial ⟨m0, ⟨(ms m0), ⟨(ms (ms m0)), ⟨(ms (ms (ms m0))), trivial⟩⟩⟩⟩) ?_   -- region 7
          refine hx_det rfl rfl rfl nofun (det_move rfl) rfl ?_
          refine hx_det rfl rfl rfl nofun (det_move rfl) rfl ?_
          refine hx_det rfl rfl rfl nofun (det_indexP rfl rfl (ms (ms (ms m0))) k6_p1 (ms m0) un29 sz43) rfl ?_
          refine hx_det rfl rfl rfl nofun (det_loadP (off := 0) rfl (ms m0) (by rfl) (by rfl) (loaded_n (cells := [_, _, _, _, _]) ag43 sz43)) rfl ?_
          refine hx_det rfl rfl rfl nofun (det_move rfl) rfl ?_
          refine hx_or ?_ ?_
          · refine hx_mut rfl rfl rfl (act_litS lGEntry (vs := [_]) (cs := [_, _, _, _, _]) [(ix s14.2.1 0)] un29 in43 rfl rfl rfl rfl rfl ⟨rfl, trivial⟩ (by rfl) rfl (litR_flat rfl)) rfl (by rintro _ _ _ ⟨A7_4, rfl, rfl, rfl⟩ w hs; exact hs.to trivial ⟨m0, ⟨(ms m0), ⟨(ms (ms m0)), ⟨(ms (ms (ms m0))), trivial⟩⟩⟩⟩) ?_
            rintro _ _ _ ⟨A7_4, rfl, rfl, rfl⟩
            refine hx_or ?_ ?_
            · refine hx_mut rfl rfl rfl (act_appendS (L := lGEntry) rfl rfl (ss s0) (src_O m0) un29 in43 rfl rfl rfl k7_p1) rfl (by rintro _ _ _ ⟨A7_5, c7_5, rfl, rfl, rfl⟩ w hs; exact hs.to trivial ⟨m0, ⟨(ms m0), ⟨(ms (ms m0)), ⟨(ms (ms (ms m0))), trivial⟩⟩⟩⟩) ?_
              rintro _ _ _ ⟨A7_5, c7_5, rfl, rfl, rfl⟩
              refine hx_det rfl rfl rfl nofun (det_assign rfl) rfl ?_
              refine hx_mut rfl rfl rfl (act_sliceL rfl rfl (ms (ms (ms m0))) un29 sz43 rfl rfl k7_p2) rfl (by rintro _ _ _ ⟨A7_7, c7_7, rfl, rfl, rfl⟩ w hs; exact hs.to trivial ⟨(ms m0), ⟨(ms (ms m0)), ⟨(ms (ms (ms m0))), ⟨(ms (ms (ms (ms m0)))), trivial⟩⟩⟩⟩) ?_
              rintro _ _ _ ⟨A7_7, c7_7, rfl, rfl, rfl⟩
              refine hx_end ?_
              refine wl_det rfl rfl (det_assign rfl) rfl ?_
              refine wl_nil ?_
              refine pn_block ?_
              replace h := Option.some.inj h
              subst h
              exact pn_some (k14, (s14.1, (s14.2.1.drop (1 : Int).toNat), (s14.2.2 ++ [(ix s14.2.1 0)])), A14_0, s14.1.length, c14_0, A7_7, (s14.2.1.drop (1 : Int).toNat).length, c7_7, A7_5, (s14.2.2 ++ [(ix s14.2.1 0)]).length, c7_5, ()) ⟨nextL g14, Nat.lt_succ_self _⟩ ⟨rfl, rfl, rfl, trivial⟩ (fun _ h => h.to ⟨_, (rs r0), trivial⟩ ⟨(ms (ms (ms m0))), ⟨m0, trivial⟩⟩)
            refine hx_or ?_ trivial
            refine hx_mut rfl rfl rfl (act_sliceL rfl rfl (ms (ms (ms m0))) un29 sz43 rfl rfl k7_p2) rfl (by rintro _ _ _ ⟨A7_7, c7_7, rfl, rfl, rfl⟩ w hs; exact hs.to trivial ⟨(ms m0), ⟨(ms (ms m0)), ⟨(ms (ms (ms m0))), ⟨(ms (ms (ms (ms m0)))), trivial⟩⟩⟩⟩) ?_
            rintro _ _ _ ⟨A7_7, c7_7, rfl, rfl, rfl⟩
            refine hx_mut rfl rfl rfl (act_appendS (L := lGEntry) rfl rfl (ss s0) (src_O m0) un29 in43 rfl rfl rfl k7_p1) rfl (by rintro _ _ _ ⟨A7_5, c7_5, rfl, rfl, rfl⟩ w hs; exact hs.to trivial ⟨(ms m0), ⟨(ms (ms m0)), ⟨(ms (ms (ms m0))), ⟨(ms (ms (ms (ms m0)))), trivial⟩⟩⟩⟩) ?_
            rintro _ _ _ ⟨A7_5, c7_5, rfl, rfl, rfl⟩
            refine hx_det rfl rfl rfl nofun (det_assign rfl) rfl ?_
            refine hx_end ?_
            refine wl_det rfl rfl (det_assign rfl) rfl ?_
            refine wl_nil ?_
            refine pn_block ?_
            replace h := Option.some.inj h
            subst h
            exact pn_some (k14, (s14.1, (s14.2.1.drop (1 : Int).toNat), (s14.2.2 ++ [(ix s14.2.1 0)])), A14_0, s14.1.length, c14_0, A7_7, (s14.2.1.drop (1 : Int).toNat).length, c7_7, A7_5, (s14.2.2 ++ [(ix s14.2.1 0)]).length, c7_5, ()) ⟨nextL g14, Nat.lt_succ_self _⟩ ⟨rfl, rfl, rfl, trivial⟩ (fun _ h => h.to ⟨_, (rs r0), trivial⟩ ⟨(ms (ms (ms m0))), ⟨m0, trivial⟩⟩)
          refine hx_or ?_ trivial
          refine hx_mut rfl rfl rfl (act_sliceL rfl rfl (ms (ms (ms m0))) un29 sz43 rfl rfl k7_p2) rfl (by rintro _ _ _ ⟨A7_7, c7_7, rfl, rfl, rfl⟩ w hs; exact hs.to trivial ⟨(ms m0), ⟨(ms (ms m0)), ⟨(ms (ms (ms m0))), ⟨(ms (ms (ms (ms m0)))), trivial⟩⟩⟩⟩) ?_
          rintro _ _ _ ⟨A7_7, c7_7, rfl, rfl, rfl⟩
          refine hx_mut rfl rfl rfl (act_litS lGEntry (vs := [_]) (cs := [_, _, _, _, _]) [(ix s14.2.1 0)] un29 in43 rfl rfl rfl rfl rfl ⟨rfl, trivial⟩ (by rfl) rfl (litR_flat rfl)) rfl (by rintro _ _ _ ⟨A7_4, rfl, rfl, rfl⟩ w hs; exact hs.to trivial ⟨(ms m0), ⟨(ms (ms m0)), ⟨(ms (ms (ms m0))), ⟨(ms (ms (ms (ms m0)))), trivial⟩⟩⟩⟩) ?_
          rintro _ _ _ ⟨A7_4, rfl, rfl, rfl⟩
          refine hx_mut rfl rfl rfl (act_appendS (L := lGEntry) rfl rfl (ss s0) (src_O m0) un29 in43 rfl rfl rfl k7_p1) rfl (by rintro _ _ _ ⟨A7_5, c7_5, rfl, rfl, rfl⟩ w hs; exact hs.to trivial ⟨(ms m0), ⟨(ms (ms m0)), ⟨(ms (ms (ms m0))), ⟨(ms (ms (ms (ms m0)))), trivial⟩⟩⟩⟩) ?_
          rintro _ _ _ ⟨A7_5, c7_5, rfl, rfl, rfl⟩
          refine hx_det rfl rfl rfl nofun (det_assign rfl) rfl ?_
          refine hx_end ?_
          refine wl_det rfl rfl (det_assign rfl) rfl ?_
          refine wl_nil ?_
          refine pn_block ?_
          replace h := Option.some.inj h
          subst h
          exact pn_some (k14, (s14.1, (s14.2.1.drop (1 : Int).toNat), (s14.2.2 ++ [(ix s14.2.1 0)])), A14_0, s14.1.length, c14_0, A7_7, (s14.2.1.drop (1 : Int).toNat).length, c7_7, A7_5, (s14.2.2 ++ [(ix s14.2.1 0)]).length, c7_5, ()) ⟨nextL g14, Nat.lt_succ_self _⟩ ⟨rfl, rfl, rfl, trivial⟩ (fun _ h => h.to ⟨_, (rs r0), trivial⟩ ⟨(ms (ms (ms m0))), ⟨m0, trivial⟩⟩)
        · have h := ifF h cd23
          obtain ⟨k8_p1, h⟩ := chk_some h
          obtain ⟨k8_p2, h⟩ := chk_some h
          refine dx_regionZ (Z := St C [] [_, _, _, _]) 9 [[], [], [1], [1, 2], [1, 2, 3], [0, 1, 2, 3, 4], [], [6], [0, 1, 2, 3, 4, 5], [0, 1, 2, 3, 4, 5, 6, 7, 8]] mixed (ord := (.det 0 (.det 1 (.det 2 (.det 3 (.det 6 (.alt 4 (.alt 5 (.det 8 (.alt 7 .done .dead)) (.alt 7 (.alt 5 (.det 8 .done) .dead) .dead)) (.alt 7 (.alt 4 (.alt 5 (.det 8 .done) .dead) .dead) .dead)))))))) (by kernel_rfl) (fun _ h => h.to trivial ⟨m0, ⟨(ms m0), ⟨(ms (ms m0)), ⟨(ms (ms (ms m0))), trivial⟩⟩⟩⟩) ?_   -- region 8
          refine hx_det rfl rfl rfl nofun (det_move rfl) rfl ?_
          refine hx_det rfl rfl rfl nofun (det_move rfl) rfl ?_
          refine hx_det rfl rfl rfl nofun (det_indexP rfl rfl (ms (ms m0)) k6_p3 m0 un29 sz43) rfl ?_
          refine hx_det rfl rfl rfl nofun (det_loadP (off := 0) rfl m0 (by rfl) (by rfl) (loaded_n (cells := [_, _, _, _, _]) ag43 sz43)) rfl ?_
          refine hx_det rfl rfl rfl nofun (det_move rfl) rfl ?_
          refine hx_or ?_ ?_
          · refine hx_mut rfl rfl rfl (act_litS lGEntry (vs := [_]) (cs := [_, _, _, _, _]) [(ix s14.1 0)] un29 in43 rfl rfl rfl rfl rfl ⟨rfl, trivial⟩ (by rfl) rfl (litR_flat rfl)) rfl (by rintro _ _ _ ⟨A8_4, rfl, rfl, rfl⟩ w hs; exact hs.to trivial ⟨m0, ⟨(ms m0), ⟨(ms (ms m0)), ⟨(ms (ms (ms m0))), trivial⟩⟩⟩⟩) ?_
            rintro _ _ _ ⟨A8_4, rfl, rfl, rfl⟩
            refine hx_or ?_ ?_
            · refine hx_mut rfl rfl rfl (act_appendS (L := lGEntry) rfl rfl (ss s0) (src_O m0) un29 in43 rfl rfl rfl k8_p1) rfl (by rintro _ _ _ ⟨A8_5, c8_5, rfl, rfl, rfl⟩ w hs; exact hs.to trivial ⟨m0, ⟨(ms m0), ⟨(ms (ms m0)), ⟨(ms (ms (ms m0))), trivial⟩⟩⟩⟩) ?_
              rintro _ _ _ ⟨A8_5, c8_5, rfl, rfl, rfl⟩
              refine hx_det rfl rfl rfl nofun (det_assign rfl) rfl ?_
              refine hx_mut rfl rfl rfl (act_sliceL rfl rfl (ms (ms m0)) un29 sz43 rfl rfl k8_p2) rfl (by rintro _ _ _ ⟨A8_7, c8_7, rfl, rfl, rfl⟩ w hs; exact hs.to trivial ⟨(ms m0), ⟨(ms (ms m0)), ⟨(ms (ms (ms m0))), ⟨(ms (ms (ms (ms m0)))), trivial⟩⟩⟩⟩) ?_
              rintro _ _ _ ⟨A8_7, c8_7, rfl, rfl, rfl⟩
              refine hx_end ?_
              refine wl_det rfl rfl (det_assign rfl) rfl ?_
              refine wl_nil ?_
              refine pn_block ?_
              replace h := Option.some.inj h
              subst h
              exact pn_some (k14, ((s14.1.drop (1 : Int).toNat), s14.2.1, (s14.2.2 ++ [(ix s14.1 0)])), A8_7, (s14.1.drop (1 : Int).toNat).length, c8_7, A14_3, s14.2.1.length, c14_3, A8_5, (s14.2.2 ++ [(ix s14.1 0)]).length, c8_5, ()) ⟨nextL g14, Nat.lt_succ_self _⟩ ⟨rfl, rfl, rfl, trivial⟩ (fun _ h => h.to ⟨_, (rs r0), trivial⟩ ⟨m0, ⟨(ms (ms (ms (ms m0)))), trivial⟩⟩)
            refine hx_or ?_ trivial
            refine hx_mut rfl rfl rfl (act_sliceL rfl rfl (ms (ms m0)) un29 sz43 rfl rfl k8_p2) rfl (by rintro _ _ _ ⟨A8_7, c8_7, rfl, rfl, rfl⟩ w hs; exact hs.to trivial ⟨(ms m0), ⟨(ms (ms m0)), ⟨(ms (ms (ms m0))), ⟨(ms (ms (ms (ms m0)))), trivial⟩⟩⟩⟩) ?_
            rintro _ _ _ ⟨A8_7, c8_7, rfl, rfl, rfl⟩
            refine hx_mut rfl rfl rfl (act_appendS (L := lGEntry) rfl rfl (ss s0) (src_O m0) un29 in43 rfl rfl rfl k8_p1) rfl (by rintro _ _ _ ⟨A8_5, c8_5, rfl, rfl, rfl⟩ w hs; exact hs.to trivial ⟨(ms m0), ⟨(ms (ms m0)), ⟨(ms (ms (ms m0))), ⟨(ms (ms (ms (ms m0)))), trivial⟩⟩⟩⟩) ?_
            rintro _ _ _ ⟨A8_5, c8_5, rfl, rfl, rfl⟩
            refine hx_det rfl rfl rfl nofun (det_assign rfl) rfl ?_
            refine hx_end ?_
            refine wl_det rfl rfl (det_assign rfl) rfl ?_
            refine wl_nil ?_
            refine pn_block ?_
            replace h := Option.some.inj h
            subst h
            exact pn_some (k14, ((s14.1.drop (1 : Int).toNat), s14.2.1, (s14.2.2 ++ [(ix s14.1 0)])), A8_7, (s14.1.drop (1 : Int).toNat).length, c8_7, A14_3, s14.2.1.length, c14_3, A8_5, (s14.2.2 ++ [(ix s14.1 0)]).length, c8_5, ()) ⟨nextL g14, Nat.lt_succ_self _⟩ ⟨rfl, rfl, rfl, trivial⟩ (fun _ h => h.to ⟨_, (rs r0), trivial⟩ ⟨m0, ⟨(ms (ms (ms (ms m0)))), trivial⟩⟩)
          refine hx_or ?_ trivial
          refine hx_mut rfl rfl rfl (act_sliceL rfl rfl (ms (ms m0)) un29 sz43 rfl rfl k8_p2) rfl (by rintro _ _ _ ⟨A8_7, c8_7, rfl, rfl, rfl⟩ w hs; exact hs.to trivial ⟨(ms m0), ⟨(ms (ms m0)), ⟨(ms (ms (ms m0))), ⟨(ms (ms (ms (ms m0)))), trivial⟩⟩⟩⟩) ?_
          rintro _ _ _ ⟨A8_7, c8_7, rfl, rfl, rfl⟩
          refine hx_mut rfl rfl rfl (act_litS lGEntry (vs := [_]) (cs := [_, _, _, _, _]) [(ix s14.1 0)] un29 in43 rfl rfl rfl rfl rfl ⟨rfl, trivial⟩ (by rfl) rfl (litR_flat rfl)) rfl (by rintro _ _ _ ⟨A8_4, rfl, rfl, rfl⟩ w hs; exact hs.to trivial ⟨(ms m0), ⟨(ms (ms m0)), ⟨(ms (ms (ms m0))), ⟨(ms (ms (ms (ms m0)))), trivial⟩⟩⟩⟩) ?_
          rintro _ _ _ ⟨A8_4, rfl, rfl, rfl⟩
          refine hx_mut rfl rfl rfl (act_appendS (L := lGEntry) rfl rfl (ss s0) (src_O m0) un29 in43 rfl rfl rfl k8_p1) rfl (by rintro _ _ _ ⟨A8_5, c8_5, rfl, rfl, rfl⟩ w hs; exact hs.to trivial ⟨(ms m0), ⟨(ms (ms m0)), ⟨(ms (ms (ms m0))), ⟨(ms (ms (ms (ms m0)))), trivial⟩⟩⟩⟩) ?_
          rintro _ _ _ ⟨A8_5, c8_5, rfl, rfl, rfl⟩
          refine hx_det rfl rfl rfl nofun (det_assign rfl) rfl ?_
          refine hx_end ?_
          refine wl_det rfl rfl (det_assign rfl) rfl ?_
          refine wl_nil ?_
          refine pn_block ?_
          replace h := Option.some.inj h
          subst h
          exact pn_some (k14, ((s14.1.drop (1 : Int).toNat), s14.2.1, (s14.2.2 ++ [(ix s14.1 0)])), A8_7, (s14.1.drop (1 : Int).toNat).length, c8_7, A14_3, s14.2.1.length, c14_3, A8_5, (s14.2.2 ++ [(ix s14.1 0)]).length, c8_5, ()) ⟨nextL g14, Nat.lt_succ_self _⟩ ⟨rfl, rfl, rfl, trivial⟩ (fun _ h => h.to ⟨_, (rs r0), trivial⟩ ⟨m0, ⟨(ms (ms (ms (ms m0)))), trivial⟩⟩)
      · have h := ifF h cd18
        refine wc_exit ?_
        refine px_then ?_
        refine px_then ?_
        refine px_block ?_
        replace h := Option.some.inj h
        subst h
        replace g14 := nextR g14
        subst g14
        exact pn_meetG ((s14.1, s14.2.1, s14.2.2), A14_0, s14.1.length, c14_0, A14_3, s14.2.1.length, c14_3, A14_6, s14.2.2.length, c14_6, ()) rfl ⟨rfl, rfl, rfl, trivial⟩ (fun _ h => h.to ⟨_, r0, trivial⟩ ⟨m0, ⟨(ms m0), trivial⟩⟩)
    rintro ⟨s12, A12_0, n12_0, c12_0, A12_3, n12_3, c12_3, A12_6, n12_6, c12_6, _⟩ e12
    dsimp only at e12 ⊢
    subst e12
    have h := ho12
    refine wc_know (fun _ h => h.lenF m0) (fun e => ?_)
    subst e
    refine wc_know (fun _ h => h.lenF (ms m0)) (fun e => ?_)
    subst e
    refine wc_know (fun _ h => h.lenO m0) (fun e => ?_)
    subst e
    refine wc_seq ?_
    refine wc_region ?_   -- region 9
    refine wl_det rfl rfl (det_move rfl) rfl ?_
    refine wl_det rfl rfl (det_move rfl) rfl ?_
    obtain ⟨k9_2, h⟩ := chk_some h
    refine wl_act (act_appendS (L := lGEntry) rfl rfl s0 (src_F m0) un29 in43 rfl rfl rfl k9_2) rfl rfl rfl ?_
    rintro _ _ _ ⟨A9_2, c9_2, rfl, rfl, rfl⟩
    refine wl_det rfl rfl (det_move rfl) rfl ?_
    obtain ⟨k9_4, h⟩ := chk_some h
    refine wl_act (act_appendS (L := lGEntry) rfl rfl s0 (src_F (ms m0)) un29 in43 rfl rfl rfl k9_4) rfl rfl rfl ?_
    rintro _ _ _ ⟨A9_4, c9_4, rfl, rfl, rfl⟩
    refine wl_det rfl rfl (det_assign rfl) rfl ?_
    refine wl_nil ?_
    refine pn_then ?_
    refine wc_ret ?_
    replace h := Option.some.inj h
    subst h
    refine pn_ret (vs := [_]) rfl ⟨rfl, trivial⟩ ⟨A9_4, ((s12.2.2 ++ s12.1) ++ s12.2.1).length, c9_4, rfl, rfl, rfl⟩ (fun _ h => h.to ⟨_, r0, trivial⟩ trivial)
theorem W_treatyref33_sorted_n : ∀ (k : Nat) (a0 : (List GEntry)) (A0 : Option Addr) (n0 : Nat) (c0 : Nat) (r : (List GEntry)), treatyref33_sorted_n k a0 = some r → Spec Try.prog 56 [.slice A0 n0 c0] [] [fV (lSlice lGEntry) (.slice A0 n0 c0) a0] (Q_treatyref33_sorted r)
  | 0, _, _, _, _, _, h => by cases h
  | k + 1, a0, A0, n0, c0, r, h => W_treatyref33_sorted_F (treatyref33_sorted_n k) (fun a0 A0 n0 c0 r h => W_treatyref33_sorted_n k a0 A0 n0 c0 r h) a0 A0 n0 c0 r h
theorem W_treatyref33_sorted (a0 : (List GEntry)) (A0 : Option Addr) (n0 : Nat) (c0 : Nat) (r : (List GEntry)) (h : treatyref33_sorted a0 = some r) : Spec Try.prog 56 [.slice A0 n0 c0] [] [fV (lSlice lGEntry) (.slice A0 n0 c0) a0] (Q_treatyref33_sorted r) := by
  obtain ⟨k, hk⟩ := recV_some h
  exact W_treatyref33_sorted_n k a0 A0 n0 c0 r hk
def Q_treatyref33_sums (r : (List GEntry) × Bool) : Value → List Ent → List Fact → Prop := fun v θ κ => ∃ (pA0 : Option Addr), ∃ (pn0 : Nat), ∃ (pc0 : Nat), v = .tuple #[.slice pA0 pn0 pc0, .bool r.2] ∧ θ = [eS lGEntry 43 pA0 pn0 pc0 r.1] ∧ κ = []
theorem plains_treatyref33_sums {r : (List GEntry) × Bool} : ∀ v θ κ, Q_treatyref33_sums r v θ κ → Plains θ := by
  rintro _ _ _ ⟨_, _, _, rfl, rfl, rfl⟩
  exact ⟨plain_eS, trivial⟩
set_option maxHeartbeats 4000000 in
set_option maxRecDepth 100000 in
theorem W_treatyref33_sums (a0 : (List GEntry)) (A0 : Option Addr) (n0 : Nat) (c0 : Nat) (r : (List GEntry) × Bool) (h : treatyref33_sums a0 = some r) : Spec Try.prog 45 [.slice A0 n0 c0] [] [fV (lSlice lGEntry) (.slice A0 n0 c0) a0] (Q_treatyref33_sums r) := by
  unfold treatyref33_sums at h
  refine spec_of (σ := [(0, _)]) Try.func45 rfl rfl rfl rfl ?_
  intro C
  refine wc_know (fun _ h => h.lenF m0) (fun e => ?_)
  subst e
  refine wc_seq ?_
  refine wc_region ?_   -- region 0
  refine wl_det rfl rfl (det_assign rfl) rfl ?_
  refine wl_det rfl rfl (det_assign rfl) rfl ?_
  refine wl_nil ?_
  refine pn_then ?_
  refine wc_seq ?_
  refine wc_region ?_   -- region 1
  refine wl_det rfl rfl (det_assign rfl) rfl ?_
  refine wl_nil ?_
  refine pn_then ?_
  refine wc_seq ?_
  refine wc_region ?_   -- region 2
  refine wl_det rfl rfl (det_move rfl) rfl ?_
  obtain ⟨r2_1, hr2_1, h⟩ := bind_some h
  refine wl_act (act_callS (cap := []) (W_treatyref33_sorted a0 A0 a0.length c0 r2_1 hr2_1) rfl rfl rfl bd56 rfl ⟨m0, trivial⟩) rfl rfl rfl ?_
  rintro _ _ _ ⟨_, _, ⟨y2_1A0, y2_1n0, y2_1c0, rfl, rfl, rfl⟩, rfl, rfl⟩
  dsimp only [List.nil_append, List.cons_append]
  refine wl_know (fun _ h => h.lenO m0) (fun e => ?_)
  subst e
  refine wl_det rfl rfl (det_assign rfl) rfl ?_
  refine wl_nil ?_
  refine pn_then ?_
  obtain ⟨q6, h, ho6⟩ := bind_some h
  refine wc_meetG (G := (List GEntry) × Option Addr × Nat × Nat × Unit) (fun (s6, _, _, _, _) => (.inl s6) = q6) (fun (_, A6_0, n6_0, c6_0, _) => [(4, .slice A6_0 n6_0 c6_0)]) (fun (s6, A6_0, n6_0, c6_0, _) => [eS lGEntry 43 A6_0 n6_0 c6_0 s6]) (fun (_, _, _, _, _) => []) ?_ ?_
  · refine wc_seq ?_
    refine wc_region ?_   -- region 3
    refine wl_det rfl rfl (det_assign rfl) rfl ?_
    refine wl_nil ?_
    refine pn_then ?_
    refine wc_block ?_
    refine wc_st (fun _ h => h.zeroS lGEntry 43 none) ?_
    obtain ⟨o10, h, ho10⟩ := bind_some h
    obtain ⟨k10, hk10⟩ := loopV_some.1 h
    refine wc_loop (G := Nat × ((List GEntry) × Int) × Option Addr × Nat × Nat × Unit) (fun g => IterN (treatyref33_sums_l10 r2_1) g.1 g.2.1 o10) (fun g => g.1) (fun (_, s10, A10_0, n10_0, c10_0, _) => [(4, .slice A10_0 n10_0 c10_0), (5, .slice y2_1A0 r2_1.length y2_1c0), (6, .int .i64 s10.2)]) (fun (_, s10, A10_0, n10_0, c10_0, _) => [eS lGEntry 43 A10_0 n10_0 c10_0 s10.1, eS lGEntry 43 y2_1A0 r2_1.length y2_1c0 r2_1]) (fun (_, _, _, _, _, _) => []) (k10, ([], 0), none, 0, 0, ()) hk10 ⟨rfl, rfl, rfl, trivial⟩ (fun _ h => h.to ⟨_, r0, ⟨_, r0, trivial⟩⟩ trivial) ?_
    rintro ⟨k10, s10, A10_0, n10_0, c10_0, _⟩ hI
    obtain ⟨k10, rfl, q10, h, g10⟩ := IterN.pos hI
    dsimp only at h ⊢
    unfold treatyref33_sums_l10 at h
    refine wc_know (fun _ h => h.lenO m0) (fun e => ?_)
    subst e
    refine wc_seq ?_
    refine wc_seq ?_
    refine wc_region ?_   -- region 4
    refine wl_det rfl rfl (det_move rfl) rfl ?_
    refine wl_det rfl rfl (det_move rfl) rfl ?_
    refine wl_det rfl rfl (det_len rfl un29) rfl ?_
    refine wl_det rfl rfl (det_lss rfl rfl) rfl ?_
    refine wl_nil ?_
    refine pn_then ?_
    refine wc_cond rfl (fun cd14 => ?_) (fun cd14 => ?_)
    · have h := ifT h cd14
      refine wc_skip ?_
      refine pn_then ?_
      refine wc_block ?_
      refine wc_seq ?_
      refine wc_region ?_   -- region 5
      refine wl_det rfl rfl (det_move rfl) rfl ?_
      refine wl_det rfl rfl (det_move rfl) rfl ?_
      obtain ⟨k5_2, h⟩ := chk_some h
      refine wl_det rfl rfl (det_indexO rfl rfl (ms m0) k5_2 un29 sz43) rfl ?_
      refine wl_det rfl rfl (det_loadO (off := 0) rfl (ms m0) k5_2 (by rfl) (by rfl) (loaded_n (cells := [_, _, _, _, _]) ag43 sz43)) rfl ?_
      refine wl_act (act_alloc (cs := [_, _, _, _, _]) zr43 rfl) rfl rfl rfl ?_
      rintro _ _ _ ⟨b5_4, rfl, rfl, rfl⟩
      refine wl_act0 (act_store (cells := [_, _, _, _, _]) (cs' := [_, _, _, _, _]) rfl rfl rfl s0 (by rfl) (of_decide_eq_true rfl) sz43 ⟨rfl, rfl, rfl, rfl, rfl, trivial⟩) rfl rfl ?_
      rintro _ _ _ ⟨rfl, rfl⟩
      refine wl_nil ?_
      refine pn_then ?_
      obtain ⟨q19, h, ho19⟩ := bind_some h
      refine wc_meetG (G := (Int × Int) × Unit) (fun (s19, _) => s19 = q19) (fun (s19, _) => [(4, .slice A10_0 s10.1.length c10_0), (5, .slice y2_1A0 r2_1.length y2_1c0), (6, .int .i64 s19.1), (7, .pointer (some ⟨b5_4, 0, none⟩))]) (fun (s19, _) => [eS lGEntry 43 A10_0 s10.1.length c10_0 s10.1, eS lGEntry 43 y2_1A0 r2_1.length y2_1c0 r2_1, eBlk b5_4 43 [.int .i64 (ix r2_1 s10.2).Kind, .int .i64 (ix r2_1 s10.2).Treaty, .int .i64 (ix r2_1 s10.2).Party, .int .i64 (ix r2_1 s10.2).Loss, .int .i64 s19.2]]) (fun (_, _) => []) ?_ ?_
      · refine wc_seq ?_
        refine wc_region ?_   -- region 6
        refine wl_det rfl rfl (det_move rfl) rfl ?_
        refine wl_det rfl rfl (det_add rfl rfl) rfl ?_
        refine wl_det rfl rfl (det_assign rfl) rfl ?_
        refine wl_nil ?_
        refine pn_then ?_
        refine wc_block ?_
        obtain ⟨k23, hk23⟩ := loopV_some.1 h
        refine wc_loop (G := Nat × (Int × Int) × Unit) (fun g => IterN (treatyref33_sums_l23 r2_1 s10) g.1 g.2.1 q19) (fun g => g.1) (fun (_, s23, _) => [(4, .slice A10_0 s10.1.length c10_0), (5, .slice y2_1A0 r2_1.length y2_1c0), (6, .int .i64 s23.1), (7, .pointer (some ⟨b5_4, 0, none⟩))]) (fun (_, s23, _) => [eS lGEntry 43 A10_0 s10.1.length c10_0 s10.1, eS lGEntry 43 y2_1A0 r2_1.length y2_1c0 r2_1, eBlk b5_4 43 [.int .i64 (ix r2_1 s10.2).Kind, .int .i64 (ix r2_1 s10.2).Treaty, .int .i64 (ix r2_1 s10.2).Party, .int .i64 (ix r2_1 s10.2).Loss, .int .i64 s23.2]]) (fun (_, _, _) => []) (k23, ((w64 (s10.2 + 1)), (ix r2_1 s10.2).Amount), ()) hk23 ⟨rfl, rfl, rfl, rfl, trivial⟩ (fun _ h => h.to ⟨_, (rs r0), ⟨_, (rs r0), ⟨_, r0, trivial⟩⟩⟩ trivial) ?_
        rintro ⟨k23, s23, _⟩ hI
        obtain ⟨k23, rfl, q23, h, g23⟩ := IterN.pos hI
        dsimp only at h ⊢
        unfold treatyref33_sums_l23 at h
        refine wc_seq ?_
        obtain ⟨q25, h, ho25⟩ := bind_some h
        refine wc_meetG (G := Bool × Unit) (fun (s25, _) => s25 = q25) (fun (s25, _) => [(4, .slice A10_0 s10.1.length c10_0), (5, .slice y2_1A0 r2_1.length y2_1c0), (6, .int .i64 s23.1), (7, .pointer (some ⟨b5_4, 0, none⟩)), (32, .bool s25)]) (fun (_, _) => [eS lGEntry 43 A10_0 s10.1.length c10_0 s10.1, eS lGEntry 43 y2_1A0 r2_1.length y2_1c0 r2_1, eBlk b5_4 43 [.int .i64 (ix r2_1 s10.2).Kind, .int .i64 (ix r2_1 s10.2).Treaty, .int .i64 (ix r2_1 s10.2).Party, .int .i64 (ix r2_1 s10.2).Loss, .int .i64 s23.2]]) (fun (_, _) => []) ?_ ?_
        · rcases Bool.eq_false_or_eq_true (decide (s23.1 < (r2_1.length : Int))) with hg7_g24 | hg7_g24
          · have h := ifT h hg7_g24
            obtain ⟨k7_p1, h⟩ := chk_some h
            refine dx_region 13 [[], [], [1], [0, 1, 2], [0, 1, 2, 3], [0, 1, 2, 3, 4], [0, 1, 2, 3, 4], [0, 1, 2, 3, 4], [0, 1, 2, 3, 4, 6, 7], [0, 1, 2, 3, 4, 6, 7, 8], [0, 1, 2, 3, 4, 5, 6, 7, 8, 9], [0, 1, 2, 3, 4, 5, 6, 7, 8, 9, 10], [0, 1, 2, 3, 4, 5, 6, 7, 8, 9, 10, 11]] mixed (ord := (.det 0 (.det 1 (.det 2 (.det 3 (.det 4 (.det 5 (.det 6 (.det 7 (.det 8 (.det 9 (.alt 10 (.det 11 (.det 12 .done)) .dead)))))))))))) (by kernel_rfl) ?_   -- region 7
            refine hx_det rfl rfl rfl nofun (det_move rfl) rfl ?_
            refine hx_det rfl rfl rfl nofun (det_move rfl) rfl ?_
            refine hx_det rfl rfl rfl nofun (det_len rfl un29) rfl ?_
            refine hx_det rfl rfl rfl nofun (det_lss rfl rfl) rfl ?_
            refine hx_det rfl rfl rfl nofun (det_move rfl) rfl ?_
            refine hx_on rfl rfl rfl rfl rfl hg7_g24 nofun (det_loadN (cells := [_, _, _, _, _]) rfl (ms (ms m0)) (by rfl) ag43 sz43) rfl ?_
            refine hx_on rfl rfl rfl rfl rfl hg7_g24 nofun (det_move rfl) rfl ?_
            refine hx_on rfl rfl rfl rfl rfl hg7_g24 nofun (det_move rfl) rfl ?_
            refine hx_on rfl rfl rfl rfl rfl hg7_g24 nofun (det_indexO rfl rfl (ms m0) k7_p1 un29 sz43) rfl ?_
            refine hx_on rfl rfl rfl rfl rfl hg7_g24 nofun (det_loadO (off := 0) rfl (ms m0) k7_p1 (by rfl) (by rfl) (loaded_n (cells := [_, _, _, _, _]) ag43 sz43)) rfl ?_
            obtain ⟨r7_10, hr7_10, h⟩ := bind_some h
            refine hx_actG rfl rfl rfl rfl rfl hg7_g24 (act_callS (cap := []) (W_treatyref33_Before (GEntry.mk (ix r2_1 s10.2).Kind (ix r2_1 s10.2).Treaty (ix r2_1 s10.2).Party (ix r2_1 s10.2).Loss s23.2) (ix r2_1 s23.1) r7_10 hr7_10) rfl rfl rfl bd57 rfl trivial) rfl (by rintro _ _ _ ⟨_, _, _, rfl, rfl⟩; first | exact ⟨_, _, rfl, rfl⟩ | exact ⟨_, [], rfl, rfl⟩) ?_
            rintro _ _ _ ⟨_, _, ⟨rfl, rfl, rfl⟩, rfl, rfl⟩
            dsimp only [List.nil_append, List.cons_append]
            refine hx_on rfl rfl rfl rfl rfl hg7_g24 nofun (det_not rfl) rfl ?_
            refine hx_det rfl rfl rfl nofun (det_pick_on rfl hg7_g24 rfl rfl) rfl ?_
            refine hx_end ?_
            refine wl_nil ?_
            replace h := Option.some.inj h
            subst h
            exact pn_meetG ((!r7_10), ()) rfl ⟨rfl, rfl, rfl, rfl, rfl, trivial⟩ (fun _ h => h.to ⟨_, r0, ⟨_, r0, ⟨_, r0, trivial⟩⟩⟩ trivial)
          · have h := ifF h hg7_g24
            refine dx_region 13 [[], [], [1], [0, 1, 2], [0, 1, 2, 3], [0, 1, 2, 3, 4], [0, 1, 2, 3, 4], [0, 1, 2, 3, 4], [0, 1, 2, 3, 4, 6, 7], [0, 1, 2, 3, 4, 6, 7, 8], [0, 1, 2, 3, 4, 5, 6, 7, 8, 9], [0, 1, 2, 3, 4, 5, 6, 7, 8, 9, 10], [0, 1, 2, 3, 4, 5, 6, 7, 8, 9, 10, 11]] mixed (ord := (.det 0 (.det 1 (.det 2 (.det 3 (.det 4 (.det 5 (.det 6 (.det 7 (.det 8 (.det 9 (.det 10 (.det 11 (.det 12 .done)))))))))))))) (by kernel_rfl) ?_   -- region 7
            refine hx_det rfl rfl rfl nofun (det_move rfl) rfl ?_
            refine hx_det rfl rfl rfl nofun (det_move rfl) rfl ?_
            refine hx_det rfl rfl rfl nofun (det_len rfl un29) rfl ?_
            refine hx_det rfl rfl rfl nofun (det_lss rfl rfl) rfl ?_
            refine hx_det rfl rfl rfl nofun (det_move rfl) rfl ?_
            refine hx_off rfl rfl rfl rfl rfl hg7_g24 rfl ?_
            refine hx_off rfl rfl rfl rfl rfl hg7_g24 rfl ?_
            refine hx_off rfl rfl rfl rfl rfl hg7_g24 rfl ?_
            refine hx_off rfl rfl rfl rfl rfl hg7_g24 rfl ?_
            refine hx_off rfl rfl rfl rfl rfl hg7_g24 rfl ?_
            refine hx_off rfl rfl rfl rfl rfl hg7_g24 rfl ?_
            refine hx_off rfl rfl rfl rfl rfl hg7_g24 rfl ?_
            refine hx_det rfl rfl rfl nofun (det_pick_off rfl hg7_g24 rfl rfl) rfl ?_
            refine hx_end ?_
            refine wl_nil ?_
            replace h := Option.some.inj h
            subst h
            exact pn_meetG (false, ()) rfl ⟨rfl, rfl, rfl, rfl, rfl, trivial⟩ (fun _ h => h.to ⟨_, r0, ⟨_, r0, ⟨_, r0, trivial⟩⟩⟩ trivial)
        rintro ⟨s25, _⟩ e25
        dsimp only at e25 ⊢
        subst e25
        have h := ho25
        refine wc_cond rfl (fun cd27 => ?_) (fun cd27 => ?_)
        · have h := ifT h cd27
          refine wc_skip ?_
          refine pn_then ?_
          refine wc_seq ?_
          refine wc_block ?_
          obtain ⟨k9_p1, h⟩ := chk_some h
          refine dx_region 9 [[], [0], [], [], [2, 3], [2, 3, 4], [2, 3, 4, 5], [0, 1, 2, 3, 4, 5, 6], [0, 1, 2, 3, 4, 5, 6, 7], [0, 1, 2, 3, 4, 5, 6, 7, 8]] mixed (ord := (.det 0 (.det 1 (.det 2 (.det 3 (.det 4 (.det 5 (.det 6 (.det 7 (.det 8 .done)))))))))) (by kernel_rfl) ?_   -- region 9
          refine hx_det rfl rfl rfl nofun (det_field rfl fd43_4 rfl) rfl ?_
          refine hx_det rfl rfl rfl nofun (det_load rfl (ms (ms m0)) (by rfl) na3 us3) rfl ?_
          refine hx_det rfl rfl rfl nofun (det_move rfl) rfl ?_
          refine hx_det rfl rfl rfl nofun (det_move rfl) rfl ?_
          refine hx_det rfl rfl rfl nofun (det_indexO rfl rfl (ms m0) k9_p1 un29 sz43) rfl ?_
          refine hx_det rfl rfl rfl nofun (det_fieldO rfl (ms m0) k9_p1 fd43_4 rfl) rfl ?_
          refine hx_det rfl rfl rfl nofun (det_loadO (off := 4) rfl (ms m0) k9_p1 (by rfl) (by rfl) (loaded_1 na3 us3)) rfl ?_
          refine hx_det rfl rfl rfl nofun (det_add rfl rfl) rfl ?_
          refine hx_det rfl rfl rfl nofun (det_field rfl fd43_4 rfl) rfl ?_
          refine hx_end ?_
          refine wl_act0 (act_store (cells := [_]) (cs' := [_, _, _, _, _]) rfl rfl rfl (ss (ss s0)) (by rfl) (of_decide_eq_true rfl) sz3 ⟨rfl, trivial⟩) rfl rfl ?_
          rintro _ _ _ ⟨rfl, rfl⟩
          refine wl_nil ?_
          refine pn_block ?_
          refine pn_then ?_
          refine wc_region ?_   -- region 8
          refine wl_det rfl rfl (det_move rfl) rfl ?_
          refine wl_det rfl rfl (det_add rfl rfl) rfl ?_
          refine wl_det rfl rfl (det_assign rfl) rfl ?_
          refine wl_nil ?_
          replace h := Option.some.inj h
          subst h
          exact pn_some (k23, ((w64 (s23.1 + 1)), (w64 (s23.2 + (ix r2_1 s23.1).Amount))), ()) ⟨nextL g23, Nat.lt_succ_self _⟩ ⟨rfl, rfl, rfl, rfl, trivial⟩ (fun _ h => h.to ⟨_, r0, ⟨_, r0, ⟨_, r0, trivial⟩⟩⟩ trivial)
        · have h := ifF h cd27
          refine wc_exit ?_
          refine px_then ?_
          refine px_then ?_
          refine px_block ?_
          replace h := Option.some.inj h
          subst h
          replace g23 := nextR g23
          subst g23
          exact pn_meetG ((s23.1, s23.2), ()) rfl ⟨rfl, rfl, rfl, rfl, trivial⟩ (fun _ h => h.to ⟨_, r0, ⟨_, r0, ⟨_, r0, trivial⟩⟩⟩ trivial)
      rintro ⟨s19, _⟩ e19
      dsimp only at e19 ⊢
      subst e19
      have h := ho19
      refine wc_seq ?_
      refine wc_seq ?_
      refine wc_region ?_   -- region 10
      refine wl_det rfl rfl (det_field rfl fd43_4 rfl) rfl ?_
      refine wl_det rfl rfl (det_load rfl (ms (ms m0)) (by rfl) na3 us3) rfl ?_
      obtain ⟨r10_2, hr10_2, h⟩ := bind_some h
      refine wl_act (act_callS (cap := []) (W_treatyref01_Valid s19.2 r10_2 hr10_2) rfl rfl rfl bd55 rfl trivial) rfl rfl rfl ?_
      rintro _ _ _ ⟨_, _, ⟨rfl, rfl, rfl⟩, rfl, rfl⟩
      dsimp only [List.nil_append, List.cons_append]
      refine wl_det rfl rfl (det_not rfl) rfl ?_
      refine wl_nil ?_
      refine pn_then ?_
      refine wc_cond rfl (fun cd36 => ?_) (fun cd36 => ?_)
      · have h := ifT h cd36
        refine wc_seq ?_
        refine wc_region ?_   -- region 11
        refine wl_det rfl rfl (det_assign rfl) rfl ?_
        refine wl_det rfl rfl (det_assign rfl) rfl ?_
        refine wl_nil ?_
        refine pn_then ?_
        refine wc_ret ?_
        refine pr_then ?_
        refine pr_block ?_
        refine pr_then ?_
        refine pr_block ?_
        refine pr_then ?_
        refine pn_st (fun _ h => h.zeroS lGEntry 43 none) ?_
        replace h := Option.some.inj h
        subst h
        replace g10 := nextR g10
        subst g10
        have h := (elimL ho10)
        replace h := Option.some.inj h
        subst h
        have h := (elimR ho6)
        replace h := Option.some.inj h
        subst h
        refine pn_ret (vs := [_, _]) rfl ⟨rfl, rfl, trivial⟩ ⟨none, 0, 0, rfl, rfl, rfl⟩ (fun _ h => h.to ⟨_, r0, trivial⟩ trivial)
      · have h := ifF h cd36
        refine wc_skip ?_
        refine pn_then ?_
        refine wc_seq ?_
        refine wc_region ?_   -- region 12
        refine wl_det rfl rfl (det_field rfl fd43_4 rfl) rfl ?_
        refine wl_det rfl rfl (det_load rfl (ms (ms m0)) (by rfl) na3 us3) rfl ?_
        refine wl_det rfl rfl (det_neq rfl rfl) rfl ?_
        refine wl_nil ?_
        refine pn_then ?_
        refine wc_cond rfl (fun cd41 => ?_) (fun cd41 => ?_)
        · have h := ifT h cd41
          refine wc_region ?_   -- region 13
          refine wl_det rfl rfl (det_move rfl) rfl ?_
          refine wl_det rfl rfl (det_loadN (cells := [_, _, _, _, _]) rfl (ms (ms m0)) (by rfl) ag43 sz43) rfl ?_
          refine wl_act (act_litS lGEntry (vs := [_]) (cs := [_, _, _, _, _]) [(GEntry.mk (ix r2_1 s10.2).Kind (ix r2_1 s10.2).Treaty (ix r2_1 s10.2).Party (ix r2_1 s10.2).Loss s19.2)] un29 in43 rfl rfl rfl rfl rfl ⟨rfl, trivial⟩ (by rfl) rfl (litR_flat rfl)) rfl rfl rfl ?_
          rintro _ _ _ ⟨A13_2, rfl, rfl, rfl⟩
          obtain ⟨k13_3, h⟩ := chk_some h
          refine wl_act (act_appendS (L := lGEntry) rfl rfl (ss s0) (src_O m0) un29 in43 rfl rfl rfl k13_3) rfl rfl rfl ?_
          rintro _ _ _ ⟨A13_3, c13_3, rfl, rfl, rfl⟩
          refine wl_det rfl rfl (det_assign rfl) rfl ?_
          refine wl_nil ?_
          refine pn_block ?_
          replace h := Option.some.inj h
          subst h
          exact pn_some (k10, ((s10.1 ++ [(GEntry.mk (ix r2_1 s10.2).Kind (ix r2_1 s10.2).Treaty (ix r2_1 s10.2).Party (ix r2_1 s10.2).Loss s19.2)]), s19.1), A13_3, (s10.1 ++ [(GEntry.mk (ix r2_1 s10.2).Kind (ix r2_1 s10.2).Treaty (ix r2_1 s10.2).Party (ix r2_1 s10.2).Loss s19.2)]).length, c13_3, ()) ⟨nextL g10, Nat.lt_succ_self _⟩ ⟨rfl, rfl, rfl, trivial⟩ (fun _ h => h.to ⟨_, (rs r0), ⟨_, (rs r0), trivial⟩⟩ trivial)
        · have h := ifF h cd41
          refine wc_skip ?_
          refine pn_block ?_
          replace h := Option.some.inj h
          subst h
          exact pn_some (k10, (s10.1, s19.1), A10_0, s10.1.length, c10_0, ()) ⟨nextL g10, Nat.lt_succ_self _⟩ ⟨rfl, rfl, rfl, trivial⟩ (fun _ h => h.to ⟨_, r0, ⟨_, r0, trivial⟩⟩ trivial)
    · have h := ifF h cd14
      refine wc_exit ?_
      refine px_then ?_
      refine px_then ?_
      refine px_block ?_
      replace h := Option.some.inj h
      subst h
      replace g10 := nextR g10
      subst g10
      have h := (elimR ho10)
      replace h := Option.some.inj h
      subst h
      exact pn_meetG (s10.1, A10_0, s10.1.length, c10_0, ()) rfl ⟨rfl, trivial⟩ (fun _ h => h.to ⟨_, r0, trivial⟩ trivial)
  rintro ⟨s6, A6_0, n6_0, c6_0, _⟩ e6
  dsimp only at e6 ⊢
  subst e6
  have h := (elimL ho6)
  refine wc_know (fun _ h => h.lenO m0) (fun e => ?_)
  subst e
  refine wc_seq ?_
  refine wc_region ?_   -- region 14
  refine wl_det rfl rfl (det_move rfl) rfl ?_
  refine wl_det rfl rfl (det_assign rfl) rfl ?_
  refine wl_det rfl rfl (det_assign rfl) rfl ?_
  refine wl_nil ?_
  refine pn_then ?_
  refine wc_ret ?_
  replace h := Option.some.inj h
  subst h
  refine pn_ret (vs := [_, _]) rfl ⟨rfl, rfl, trivial⟩ ⟨A6_0, s6.length, c6_0, rfl, rfl, rfl⟩ (fun _ h => h.to ⟨_, r0, trivial⟩ trivial)
def Q_treatyref33_Collect (r : (List GEntry) × Int) : Value → List Ent → List Fact → Prop := fun v θ κ => ∃ (pA0 : Option Addr), ∃ (pn0 : Nat), ∃ (pc0 : Nat), v = .tuple #[.slice pA0 pn0 pc0, .int .i64 r.2] ∧ θ = [eS lGEntry 43 pA0 pn0 pc0 r.1] ∧ κ = []
theorem plains_treatyref33_Collect {r : (List GEntry) × Int} : ∀ v θ κ, Q_treatyref33_Collect r v θ κ → Plains θ := by
  rintro _ _ _ ⟨_, _, _, rfl, rfl, rfl⟩
  exact ⟨plain_eS, trivial⟩
set_option maxHeartbeats 4000000 in
set_option maxRecDepth 100000 in
theorem W_treatyref33_Collect (a0 : (List GEntry)) (A0 : Option Addr) (n0 : Nat) (c0 : Nat) (r : (List GEntry) × Int) (h : treatyref33_Collect a0 = some r) : Spec Try.prog 27 [.slice A0 n0 c0] [] [fV (lSlice lGEntry) (.slice A0 n0 c0) a0] (Q_treatyref33_Collect r) := by
  unfold treatyref33_Collect at h
  refine spec_of (σ := [(0, _)]) Try.func27 rfl rfl rfl rfl ?_
  intro C
  refine wc_know (fun _ h => h.lenF m0) (fun e => ?_)
  subst e
  refine wc_seq ?_
  refine wc_region ?_   -- region 0
  refine wl_det rfl rfl (det_assign rfl) rfl ?_
  refine wl_det rfl rfl (det_assign rfl) rfl ?_
  refine wl_nil ?_
  refine pn_then ?_
  refine wc_seq ?_
  refine wc_seq ?_
  refine wc_region ?_   -- region 1
  refine wl_det rfl rfl (det_move rfl) rfl ?_
  refine wl_det rfl rfl (det_len rfl un29) rfl ?_
  refine wl_det rfl rfl (det_gtr rfl rfl) rfl ?_
  refine wl_nil ?_
  refine pn_then ?_
  refine wc_cond rfl (fun cd5 => ?_) (fun cd5 => ?_)
  · have h := ifT h cd5
    refine wc_seq ?_
    refine wc_region ?_   -- region 2
    refine wl_det rfl rfl (det_assign rfl) rfl ?_
    refine wl_det rfl rfl (det_assign rfl) rfl ?_
    refine wl_nil ?_
    refine pn_then ?_
    refine wc_ret ?_
    refine pr_then ?_
    refine pn_st (fun _ h => h.zeroS lGEntry 43 none) ?_
    replace h := Option.some.inj h
    subst h
    refine pn_ret (vs := [_, _]) rfl ⟨rfl, rfl, trivial⟩ ⟨none, 0, 0, rfl, rfl, rfl⟩ (fun _ h => h.to ⟨_, r0, trivial⟩ trivial)
  · have h := ifF h cd5
    refine wc_skip ?_
    refine pn_then ?_
    obtain ⟨q8, h, ho8⟩ := bind_some h
    refine wc_meetG (G := Unit × Unit) (fun (s8, _) => (.inl s8) = q8) (fun (_, _) => [(0, .slice A0 a0.length c0)]) (fun (_, _) => []) (fun (_, _) => [fV (lSlice lGEntry) (.slice A0 a0.length c0) a0]) ?_ ?_
    · refine wc_seq ?_
      refine wc_region ?_   -- region 3
      refine wl_det rfl rfl (det_move rfl) rfl ?_
      refine wl_det rfl rfl (det_len rfl un29) rfl ?_
      refine wl_det rfl rfl (det_move rfl) rfl ?_
      refine wl_nil ?_
      refine pn_then ?_
      refine wc_block ?_
      obtain ⟨o12, h, ho12⟩ := bind_some h
      obtain ⟨k12, hk12⟩ := loopV_some.1 h
      refine wc_loop (G := Nat × Int × Unit) (fun g => IterN (treatyref33_Collect_l12 a0) g.1 g.2.1 o12) (fun g => g.1) (fun (_, s12, _) => [(0, .slice A0 a0.length c0), (11, .slice A0 a0.length c0), (12, .int .i64 (a0.length : Int)), (13, .int .i64 s12)]) (fun (_, _, _) => []) (fun (_, _, _) => [fV (lSlice lGEntry) (.slice A0 a0.length c0) a0]) (k12, 0, ()) hk12 ⟨rfl, rfl, rfl, rfl, trivial⟩ (fun _ h => h.to trivial ⟨m0, trivial⟩) ?_
      rintro ⟨k12, s12, _⟩ hI
      obtain ⟨k12, rfl, q12, h, g12⟩ := IterN.pos hI
      dsimp only at h ⊢
      unfold treatyref33_Collect_l12 at h
      refine wc_seq ?_
      refine wc_region ?_   -- region 4
      refine wl_det rfl rfl (det_lss rfl rfl) rfl ?_
      refine wl_nil ?_
      refine pn_then ?_
      refine wc_seq ?_
      refine wc_cond rfl (fun cd16 => ?_) (fun cd16 => ?_)
      · have h := ifT h cd16
        refine wc_skip ?_
        refine pn_then ?_
        refine wc_seq ?_
        refine wc_block ?_
        refine wc_seq ?_
        refine wc_region ?_   -- region 5
        obtain ⟨k5_0, h⟩ := chk_some h
        refine wl_st (fun _ h => h.openF m0 k5_0) ?_
        refine wl_det rfl rfl (det_indexP rfl rfl (ms m0) k5_0 m0 un29 sz43) rfl ?_
        refine wl_det rfl rfl (det_loadP (off := 0) rfl m0 (by rfl) (by rfl) (loaded_n (cells := [_, _, _, _, _]) ag43 sz43)) rfl ?_
        refine wl_act (act_alloc (cs := [_, _, _, _, _]) zr43 rfl) rfl rfl rfl ?_
        rintro _ _ _ ⟨b5_2, rfl, rfl, rfl⟩
        refine wl_act0 (act_store (cells := [_, _, _, _, _]) (cs' := [_, _, _, _, _]) rfl rfl rfl s0 (by rfl) (of_decide_eq_true rfl) sz43 ⟨rfl, rfl, rfl, rfl, rfl, trivial⟩) rfl rfl ?_
        rintro _ _ _ ⟨rfl, rfl⟩
        refine wl_nil ?_
        refine pn_then ?_
        refine wc_seq ?_
        refine wc_region ?_   -- region 6
        refine wl_det rfl rfl (det_loadN (cells := [_, _, _, _, _]) rfl m0 (by rfl) ag43 sz43) rfl ?_
        obtain ⟨r6_1, hr6_1, h⟩ := bind_some h
        refine wl_act (act_callS (cap := []) (W_treatyref33_Valid (ix a0 s12) r6_1 hr6_1) rfl rfl rfl bd44 rfl trivial) rfl rfl rfl ?_
        rintro _ _ _ ⟨_, _, ⟨rfl, rfl, rfl⟩, rfl, rfl⟩
        dsimp only [List.nil_append, List.cons_append]
        refine wl_det rfl rfl (det_not rfl) rfl ?_
        refine wl_nil ?_
        refine pn_then ?_
        refine wc_cond rfl (fun cd24 => ?_) (fun cd24 => ?_)
        · have h := ifT h cd24
          refine wc_seq ?_
          refine wc_region ?_   -- region 7
          refine wl_det rfl rfl (det_assign rfl) rfl ?_
          refine wl_det rfl rfl (det_assign rfl) rfl ?_
          refine wl_nil ?_
          refine pn_then ?_
          refine wc_ret ?_
          refine pr_block ?_
          refine pr_then ?_
          refine pr_then ?_
          refine pr_block ?_
          refine pr_then ?_
          refine pn_st (fun _ h => h.zeroS lGEntry 43 none) ?_
          replace h := Option.some.inj h
          subst h
          replace g12 := nextR g12
          subst g12
          have h := (elimL ho12)
          replace h := Option.some.inj h
          subst h
          have h := (elimR ho8)
          replace h := Option.some.inj h
          subst h
          refine pn_ret (vs := [_, _]) rfl ⟨rfl, rfl, trivial⟩ ⟨none, 0, 0, rfl, rfl, rfl⟩ (fun _ h => h.to ⟨_, r0, trivial⟩ trivial)
        · have h := ifF h cd24
          refine wc_skip ?_
          refine pn_block ?_
          refine pn_then ?_
          refine wc_region ?_   -- region 8
          refine wl_det rfl rfl (det_add rfl rfl) rfl ?_
          refine wl_det rfl rfl (det_move rfl) rfl ?_
          refine wl_nil ?_
          replace h := Option.some.inj h
          subst h
          exact pn_some (k12, (w64 (s12 + 1)), ()) ⟨nextL g12, Nat.lt_succ_self _⟩ ⟨rfl, rfl, rfl, rfl, trivial⟩ (fun _ h => h.to trivial ⟨(ms m0), trivial⟩)
      · have h := ifF h cd16
        refine wc_exit ?_
        refine px_then ?_
        refine px_then ?_
        refine px_block ?_
        replace h := Option.some.inj h
        subst h
        replace g12 := nextR g12
        subst g12
        have h := (elimR ho12)
        replace h := Option.some.inj h
        subst h
        exact pn_meetG ((), ()) rfl ⟨rfl, trivial⟩ (fun _ h => h.to trivial ⟨m0, trivial⟩)
    rintro ⟨s8, _⟩ e8
    dsimp only at e8 ⊢
    subst e8
    have h := (elimL ho8)
    refine wc_seq ?_
    refine wc_region ?_   -- region 9
    refine wl_det rfl rfl (det_move rfl) rfl ?_
    obtain ⟨r9_1, hr9_1, h⟩ := bind_some h
    refine wl_act (act_callS (cap := []) (W_treatyref33_sums a0 A0 a0.length c0 r9_1 hr9_1) rfl rfl rfl bd45 rfl ⟨m0, trivial⟩) rfl rfl rfl ?_
    rintro _ _ _ ⟨_, _, ⟨y9_1A0, y9_1n0, y9_1c0, rfl, rfl, rfl⟩, rfl, rfl⟩
    dsimp only [List.nil_append, List.cons_append]
    refine wl_know (fun _ h => h.lenO m0) (fun e => ?_)
    subst e
    refine wl_det rfl rfl (det_move rfl) rfl ?_
    refine wl_det rfl rfl (det_extract rfl rfl) rfl ?_
    refine wl_det rfl rfl (det_extract rfl rfl) rfl ?_
    refine wl_det rfl rfl (det_assign rfl) rfl ?_
    refine wl_det rfl rfl (det_assign rfl) rfl ?_
    refine wl_nil ?_
    refine pn_then ?_
    refine wc_seq ?_
    refine wc_seq ?_
    refine wc_region ?_   -- region 10
    refine wl_det rfl rfl (det_move rfl) rfl ?_
    refine wl_det rfl rfl (det_not rfl) rfl ?_
    refine wl_nil ?_
    refine pn_then ?_
    refine wc_cond rfl (fun cd33 => ?_) (fun cd33 => ?_)
    · have h := ifT h cd33
      refine wc_seq ?_
      refine wc_region ?_   -- region 11
      refine wl_det rfl rfl (det_assign rfl) rfl ?_
      refine wl_det rfl rfl (det_assign rfl) rfl ?_
      refine wl_nil ?_
      refine pn_then ?_
      refine wc_ret ?_
      refine pr_then ?_
      refine pn_st (fun _ h => h.zeroS lGEntry 43 none) ?_
      replace h := Option.some.inj h
      subst h
      refine pn_ret (vs := [_, _]) rfl ⟨rfl, rfl, trivial⟩ ⟨none, 0, 0, rfl, rfl, rfl⟩ (fun _ h => h.to ⟨_, r0, trivial⟩ trivial)
    · have h := ifF h cd33
      refine wc_skip ?_
      refine pn_then ?_
      refine wc_seq ?_
      refine wc_region ?_   -- region 12
      refine wl_det rfl rfl (det_move rfl) rfl ?_
      refine wl_det rfl rfl (det_assign rfl) rfl ?_
      refine wl_det rfl rfl (det_assign rfl) rfl ?_
      refine wl_nil ?_
      refine pn_then ?_
      refine wc_ret ?_
      replace h := Option.some.inj h
      subst h
      refine pn_ret (vs := [_, _]) rfl ⟨rfl, rfl, trivial⟩ ⟨y9_1A0, r9_1.1.length, y9_1c0, rfl, rfl, rfl⟩ (fun _ h => h.to ⟨_, r0, trivial⟩ trivial)
def Q_treatyref33_Post (r : GLedger × Int) : Value → List Ent → List Fact → Prop := fun v θ κ => ∃ (pA0 : Option Addr), ∃ (pn0 : Nat), ∃ (pc0 : Nat), v = .tuple #[.agg #[.int .i64 r.1.Closed, .slice pA0 pn0 pc0], .int .i64 r.2] ∧ θ = [eS lGPosting 61 pA0 pn0 pc0 r.1.Postings] ∧ κ = []
theorem plains_treatyref33_Post {r : GLedger × Int} : ∀ v θ κ, Q_treatyref33_Post r v θ κ → Plains θ := by
  rintro _ _ _ ⟨_, _, _, rfl, rfl, rfl⟩
  exact ⟨plain_eS, trivial⟩
set_option maxHeartbeats 4000000 in
set_option maxRecDepth 100000 in
theorem W_treatyref33_Post (a0 : GLedger) (a1 : (List GEntry)) (A0 : Option Addr) (n0 : Nat) (c0 : Nat) (A3 : Option Addr) (n3 : Nat) (c3 : Nat) (r : GLedger × Int) (h : treatyref33_Post a0 a1 = some r) : Spec Try.prog 18 [.agg #[.int .i64 a0.Closed, .slice A0 n0 c0], .slice A3 n3 c3] [] [fV (lSlice lGPosting) (.slice A0 n0 c0) a0.Postings, fV (lSlice lGEntry) (.slice A3 n3 c3) a1] (Q_treatyref33_Post r) := by
  unfold treatyref33_Post at h
  refine spec_of (σ := [(0, _), (1, _)]) Try.func18 rfl rfl rfl rfl ?_
  intro C
  refine wc_know (fun _ h => h.lenF m0) (fun e => ?_)
  subst e
  refine wc_know (fun _ h => h.lenF (ms m0)) (fun e => ?_)
  subst e
  refine wc_seq ?_
  refine wc_region ?_   -- region 0
  refine wl_act (act_box (cs := [_, _]) rfl rfl) rfl rfl rfl ?_
  rintro _ _ _ ⟨b0_0, rfl, rfl, rfl⟩
  refine wl_act (act_alloc (cs := [_, _]) zr25 rfl) rfl rfl rfl ?_
  rintro _ _ _ ⟨b0_1, rfl, rfl, rfl⟩
  refine wl_det rfl rfl (det_assign rfl) rfl ?_
  refine wl_nil ?_
  refine pn_then ?_
  refine wc_seq ?_
  refine wc_seq ?_
  refine wc_region ?_   -- region 1
  refine wl_det rfl rfl (det_loadN (cells := [_, _]) rfl (ms m0) (by rfl) ag25 sz25) rfl ?_
  obtain ⟨r1_1, hr1_1, h⟩ := bind_some h
  refine wl_act (act_callS (cap := []) (W_treatyref33_Validate a0 A0 a0.Postings.length c0 r1_1 hr1_1) rfl rfl rfl bd34 rfl ⟨m0, trivial⟩) rfl rfl rfl ?_
  rintro _ _ _ ⟨_, _, ⟨rfl, rfl, rfl⟩, rfl, rfl⟩
  dsimp only [List.nil_append, List.cons_append]
  refine wl_det rfl rfl (det_assign rfl) rfl ?_
  refine wl_nil ?_
  refine pn_then ?_
  refine wc_seq ?_
  refine wc_region ?_   -- region 2
  refine wl_det rfl rfl (det_move rfl) rfl ?_
  refine wl_det rfl rfl (det_neq rfl rfl) rfl ?_
  refine wl_nil ?_
  refine pn_then ?_
  refine wc_cond rfl (fun cd7 => ?_) (fun cd7 => ?_)
  · have h := ifT h cd7
    refine wc_seq ?_
    refine wc_region ?_   -- region 3
    refine wl_det rfl rfl (det_build (cs := [_, _]) pl25 zr25 rfl rfl (by rfl)) rfl ?_
    refine wl_det rfl rfl (det_move rfl) rfl ?_
    refine wl_act0 (act_store (cells := [_, _]) (cs' := [_, _]) rfl rfl rfl s0 (by rfl) (of_decide_eq_true rfl) sz25 ⟨rfl, rfl, trivial⟩) rfl rfl ?_
    rintro _ _ _ ⟨rfl, rfl⟩
    refine wl_det rfl rfl (det_assign rfl) rfl ?_
    refine wl_nil ?_
    refine pn_then ?_
    refine wc_ret ?_
    refine pr_then ?_
    refine pn_st (fun _ h => h.zeroS lGPosting 61 none) ?_
    replace h := Option.some.inj h
    subst h
    refine pn_ret (vs := [_, _]) rfl ⟨⟨_, _, [_, _], rfl, (ms m0), .inl ⟨ag25, sz25, rfl⟩⟩, rfl, trivial⟩ ⟨none, 0, 0, rfl, rfl, rfl⟩ (fun _ h => h.to ⟨_, r0, trivial⟩ trivial)
  · have h := ifF h cd7
    refine wc_skip ?_
    refine pn_then ?_
    refine wc_seq ?_
    refine wc_region ?_   -- region 4
    refine wl_det rfl rfl (det_move rfl) rfl ?_
    obtain ⟨r4_1, hr4_1, h⟩ := bind_some h
    refine wl_act (act_callS (cap := []) (W_treatyref33_Collect a1 A3 a1.length c3 r4_1 hr4_1) rfl rfl rfl bd27 rfl ⟨(ms m0), trivial⟩) rfl rfl rfl ?_
    rintro _ _ _ ⟨_, _, ⟨y4_1A0, y4_1n0, y4_1c0, rfl, rfl, rfl⟩, rfl, rfl⟩
    dsimp only [List.nil_append, List.cons_append]
    refine wl_know (fun _ h => h.lenO m0) (fun e => ?_)
    subst e
    refine wl_det rfl rfl (det_move rfl) rfl ?_
    refine wl_det rfl rfl (det_extract rfl rfl) rfl ?_
    refine wl_det rfl rfl (det_extract rfl rfl) rfl ?_
    refine wl_det rfl rfl (det_assign rfl) rfl ?_
    refine wl_det rfl rfl (det_assign rfl) rfl ?_
    refine wl_nil ?_
    refine pn_then ?_
    refine wc_seq ?_
    refine wc_seq ?_
    refine wc_region ?_   -- region 5
    refine wl_det rfl rfl (det_move rfl) rfl ?_
    refine wl_det rfl rfl (det_neq rfl rfl) rfl ?_
    refine wl_nil ?_
    refine pn_then ?_
    refine wc_cond rfl (fun cd15 => ?_) (fun cd15 => ?_)
    · have h := ifT h cd15
      refine wc_seq ?_
      refine wc_region ?_   -- region 6
      refine wl_det rfl rfl (det_build (cs := [_, _]) pl25 zr25 rfl rfl (by rfl)) rfl ?_
      refine wl_det rfl rfl (det_move rfl) rfl ?_
      refine wl_act0 (act_store (cells := [_, _]) (cs' := [_, _]) rfl rfl rfl (ss s0) (by rfl) (of_decide_eq_true rfl) sz25 ⟨rfl, rfl, trivial⟩) rfl rfl ?_
      rintro _ _ _ ⟨rfl, rfl⟩
      refine wl_det rfl rfl (det_assign rfl) rfl ?_
      refine wl_nil ?_
      refine pn_then ?_
      refine wc_ret ?_
      refine pr_then ?_
      refine pn_st (fun _ h => h.zeroS lGPosting 61 none) ?_
      replace h := Option.some.inj h
      subst h
      refine pn_ret (vs := [_, _]) rfl ⟨⟨_, _, [_, _], rfl, (ms (ms m0)), .inl ⟨ag25, sz25, rfl⟩⟩, rfl, trivial⟩ ⟨none, 0, 0, rfl, rfl, rfl⟩ (fun _ h => h.to ⟨_, r0, trivial⟩ trivial)
    · have h := ifF h cd15
      refine wc_skip ?_
      refine pn_then ?_
      refine wc_seq ?_
      refine wc_seq ?_
      refine wc_region ?_   -- region 7
      refine wl_det rfl rfl (det_field rfl fd25_0 rfl) rfl ?_
      refine wl_det rfl rfl (det_load rfl (ms (ms m0)) (by rfl) na3 us3) rfl ?_
      refine wl_det rfl rfl (det_eql rfl rfl) rfl ?_
      refine wl_nil ?_
      refine pn_then ?_
      refine wc_cond rfl (fun cd21 => ?_) (fun cd21 => ?_)
      · have h := ifT h cd21
        refine wc_seq ?_
        refine wc_region ?_   -- region 8
        refine wl_det rfl rfl (det_build (cs := [_, _]) pl25 zr25 rfl rfl (by rfl)) rfl ?_
        refine wl_act0 (act_store (cells := [_, _]) (cs' := [_, _]) rfl rfl rfl (ss s0) (by rfl) (of_decide_eq_true rfl) sz25 ⟨rfl, rfl, trivial⟩) rfl rfl ?_
        rintro _ _ _ ⟨rfl, rfl⟩
        refine wl_det rfl rfl (det_assign rfl) rfl ?_
        refine wl_nil ?_
        refine pn_then ?_
        refine wc_ret ?_
        refine pr_then ?_
        refine pn_st (fun _ h => h.zeroS lGPosting 61 none) ?_
        replace h := Option.some.inj h
        subst h
        refine pn_ret (vs := [_, _]) rfl ⟨⟨_, _, [_, _], rfl, (ms (ms m0)), .inl ⟨ag25, sz25, rfl⟩⟩, rfl, trivial⟩ ⟨none, 0, 0, rfl, rfl, rfl⟩ (fun _ h => h.to ⟨_, r0, trivial⟩ trivial)
      · have h := ifF h cd21
        refine wc_skip ?_
        refine pn_then ?_
        refine wc_seq ?_
        refine wc_region ?_   -- region 9
        refine wl_det rfl rfl (det_assign rfl) rfl ?_
        refine wl_nil ?_
        refine pn_then ?_
        obtain ⟨q26, h, ho26⟩ := bind_some h
        refine wc_meetG (G := Int × Unit) (fun (s26, _) => s26 = q26) (fun (s26, _) => [(2, .pointer (some ⟨b0_0, 0, none⟩)), (4, .pointer (some ⟨b0_1, 0, none⟩)), (7, .slice y4_1A0 r4_1.1.length y4_1c0), (9, .int .i64 s26)]) (fun (_, _) => [eBlk b0_0 25 [.int .i64 a0.Closed, .slice A0 a0.Postings.length c0], eBlk b0_1 25 [.int .i64 0, .slice none 0 0], eS lGEntry 43 y4_1A0 r4_1.1.length y4_1c0 r4_1.1]) (fun (_, _) => [fV (lSlice lGPosting) (.slice A0 a0.Postings.length c0) a0.Postings]) ?_ ?_
        · refine wc_seq ?_
          refine wc_region ?_   -- region 10
          refine wl_det rfl rfl (det_field rfl fd25_1 rfl) rfl ?_
          refine wl_det rfl rfl (det_load rfl (ms (ms m0)) (by rfl) na23 us23) rfl ?_
          refine wl_det rfl rfl (det_len rfl un23) rfl ?_
          refine wl_det rfl rfl (det_assign rfl) rfl ?_
          refine wl_nil ?_
          refine pn_then ?_
          refine wc_seq ?_
          refine wc_region ?_   -- region 11
          refine wl_det rfl rfl (det_move rfl) rfl ?_
          refine wl_det rfl rfl (det_gtr rfl rfl) rfl ?_
          refine wl_nil ?_
          refine pn_then ?_
          refine wc_cond rfl (fun cd31 => ?_) (fun cd31 => ?_)
          · have h := ifT h cd31
            refine wc_region ?_   -- region 12
            refine wl_det rfl rfl (det_field rfl fd25_1 rfl) rfl ?_
            refine wl_det rfl rfl (det_load rfl (ms (ms m0)) (by rfl) na23 us23) rfl ?_
            refine wl_det rfl rfl (det_move rfl) rfl ?_
            refine wl_det rfl rfl (det_sub rfl rfl) rfl ?_
            obtain ⟨k12_4, h⟩ := chk_some h
            refine wl_st (fun _ h => h.openF m0 k12_4) ?_
            refine wl_det rfl rfl (det_indexP rfl rfl (ms m0) k12_4 m0 un23 sz61) rfl ?_
            refine wl_det rfl rfl (det_fieldP rfl m0 fd61_0 rfl) rfl ?_
            refine wl_det rfl rfl (det_loadP (off := 0) rfl m0 (by rfl) (by rfl) (loaded_1 na3 us3)) rfl ?_
            refine wl_det rfl rfl (det_add rfl rfl) rfl ?_
            refine wl_det rfl rfl (det_assign rfl) rfl ?_
            refine wl_nil ?_
            replace h := Option.some.inj h
            subst h
            exact pn_meetG ((w64 ((ix a0.Postings (w64 ((a0.Postings.length : Int) - 1))).Number + 1)), ()) rfl ⟨rfl, rfl, rfl, rfl, trivial⟩ (fun _ h => h.to ⟨_, (rs (rs r0)), ⟨_, (rs r0), ⟨_, r0, trivial⟩⟩⟩ ⟨(ms m0), trivial⟩)
          · have h := ifF h cd31
            refine wc_skip ?_
            replace h := Option.some.inj h
            subst h
            exact pn_meetG (1, ()) rfl ⟨rfl, rfl, rfl, rfl, trivial⟩ (fun _ h => h.to ⟨_, (rs (rs r0)), ⟨_, (rs r0), ⟨_, r0, trivial⟩⟩⟩ ⟨m0, trivial⟩)
        rintro ⟨s26, _⟩ e26
        dsimp only at e26 ⊢
        subst e26
        have h := ho26
        refine wc_seq ?_
        refine wc_seq ?_
        refine wc_region ?_   -- region 13
        refine wl_det rfl rfl (det_field rfl fd25_1 rfl) rfl ?_
        refine wl_det rfl rfl (det_load rfl m0 (by rfl) na23 us23) rfl ?_
        refine wl_det rfl rfl (det_len rfl un23) rfl ?_
        refine wl_det rfl rfl (det_move rfl) rfl ?_
        refine wl_det rfl rfl (det_len rfl un29) rfl ?_
        refine wl_det rfl rfl (det_add rfl rfl) rfl ?_
        refine wl_det rfl rfl (det_gtr rfl rfl) rfl ?_
        refine wl_det rfl rfl (det_move rfl) rfl ?_
        refine wl_way (decide (65536 < (w64 ((a0.Postings.length : Int) + (r4_1.1.length : Int))))) ((decide (65536 < (w64 ((a0.Postings.length : Int) + (r4_1.1.length : Int))))) || (decide (65536 < (w64 ((w64 (s26 - 1)) + (r4_1.1.length : Int)))))) 7 60 (fun hg => ?_) (fun hg => ?_) ?_
        · have hg13_14 := hg
          refine wl_off rfl rfl rfl rfl rfl hg13_14 rfl ?_
          refine wl_off rfl rfl rfl rfl rfl hg13_14 rfl ?_
          refine wl_off rfl rfl rfl rfl rfl hg13_14 rfl ?_
          refine wl_off rfl rfl rfl rfl rfl hg13_14 rfl ?_
          refine wl_off rfl rfl rfl rfl rfl hg13_14 rfl ?_
          refine wl_off rfl rfl rfl rfl rfl hg13_14 rfl ?_
          refine wl_det rfl rfl (det_or_on (r := (decide (65536 < (w64 ((w64 (s26 - 1)) + (r4_1.1.length : Int)))))) rfl rfl rfl hg13_14) rfl ?_
          exact wl_nil (pn_qnE (ext_cons rfl (ext_skip rfl (ext_skip rfl (ext_skip rfl (ext_skip rfl (ext_skip rfl (ext_skip rfl (ext_skip rfl ext_refl)))))))) (fun _ h => h))
        · have hg13_14a := hg
          refine wl_on rfl rfl rfl rfl hg13_14a ?_
          refine wl_det rfl rfl (det_move rfl) rfl ?_
          refine wl_on rfl rfl rfl rfl hg13_14a ?_
          refine wl_det rfl rfl (det_sub rfl rfl) rfl ?_
          refine wl_on rfl rfl rfl rfl hg13_14a ?_
          refine wl_det rfl rfl (det_move rfl) rfl ?_
          refine wl_on rfl rfl rfl rfl hg13_14a ?_
          refine wl_det rfl rfl (det_len rfl un29) rfl ?_
          refine wl_on rfl rfl rfl rfl hg13_14a ?_
          refine wl_det rfl rfl (det_add rfl rfl) rfl ?_
          refine wl_on rfl rfl rfl rfl hg13_14a ?_
          refine wl_det rfl rfl (det_gtr rfl rfl) rfl ?_
          refine wl_det rfl rfl (det_or_off rfl rfl rfl hg13_14a) rfl ?_
          exact wl_nil (pn_qnE (ext_cons rfl (ext_skip rfl (ext_skip rfl (ext_skip rfl (ext_skip rfl (ext_skip rfl (ext_skip rfl (ext_skip rfl ext_refl)))))))) (fun _ h => h))
        refine wl_nil ?_
        refine pn_then ?_
        refine wc_cond rfl (fun cd36 => ?_) (fun cd36 => ?_)
        · have h := ifT h cd36
          refine wc_seq ?_
          refine wc_region ?_   -- region 14
          refine wl_det rfl rfl (det_build (cs := [_, _]) pl25 zr25 rfl rfl (by rfl)) rfl ?_
          refine wl_act0 (act_store (cells := [_, _]) (cs' := [_, _]) rfl rfl rfl (ss s0) (by rfl) (of_decide_eq_true rfl) sz25 ⟨rfl, rfl, trivial⟩) rfl rfl ?_
          rintro _ _ _ ⟨rfl, rfl⟩
          refine wl_det rfl rfl (det_assign rfl) rfl ?_
          refine wl_nil ?_
          refine pn_then ?_
          refine wc_ret ?_
          refine pr_then ?_
          refine pn_st (fun _ h => h.zeroS lGPosting 61 none) ?_
          replace h := Option.some.inj h
          subst h
          refine pn_ret (vs := [_, _]) rfl ⟨⟨_, _, [_, _], rfl, (ms (ms m0)), .inl ⟨ag25, sz25, rfl⟩⟩, rfl, trivial⟩ ⟨none, 0, 0, rfl, rfl, rfl⟩ (fun _ h => h.to ⟨_, r0, trivial⟩ trivial)
        · have h := ifF h cd36
          refine wc_skip ?_
          refine pn_then ?_
          obtain ⟨q39, h, ho39⟩ := bind_some h
          refine wc_meetG (G := Unit × Nat × Option Addr × Nat × Nat × Unit) (fun (s39, _, _, _, _, _) => s39 = q39) (fun (_, B39_0, _, _, _, _) => [(2, .pointer (some ⟨b0_0, 0, none⟩)), (4, .pointer (some ⟨b0_1, 0, none⟩)), (7, .slice y4_1A0 r4_1.1.length y4_1c0), (9, .int .i64 s26), (11, .pointer (some ⟨B39_0, 0, none⟩))]) (fun (_, B39_0, A39_1, n39_1, c39_1, _) => [eBlk b0_0 25 [.int .i64 a0.Closed, .slice A0 a0.Postings.length c0], eBlk b0_1 25 [.int .i64 0, .slice none 0 0], eS lGEntry 43 y4_1A0 r4_1.1.length y4_1c0 r4_1.1, eBlk B39_0 25 [.int .i64 a0.Closed, .slice A39_1 n39_1 c39_1], eS lGPosting 61 A39_1 n39_1 c39_1 a0.Postings]) (fun (_, _, _, _, _, _) => [fV (lSlice lGPosting) (.slice A0 a0.Postings.length c0) a0.Postings]) ?_ ?_
          · obtain ⟨k15_p1, h⟩ := chk_some h
            refine dx_regionZ (Z := St C [_, _, _] [_]) 8 [[], [0], [], [], [3], [2, 3, 4], [0, 1, 2, 3, 4, 5], [], [0, 1, 2, 3, 4, 5, 6, 7]] mixed (ord := (.det 0 (.det 1 (.det 3 (.det 4 (.alt 2 (.alt 5 (.det 6 (.alt 7 .done .dead)) (.alt 7 (.alt 5 (.det 6 .done) .dead) .dead)) (.alt 7 (.alt 2 (.alt 5 (.det 6 .done) .dead) .dead) .dead))))))) (by kernel_rfl) (fun _ h => h.to ⟨_, r0, ⟨_, r0, ⟨_, r0, trivial⟩⟩⟩ ⟨m0, trivial⟩) ?_   -- region 15
            refine hx_det rfl rfl rfl nofun (det_field rfl fd25_0 rfl) rfl ?_
            refine hx_det rfl rfl rfl nofun (det_load rfl m0 (by rfl) na3 us3) rfl ?_
            refine hx_det rfl rfl rfl nofun (det_field rfl fd25_1 rfl) rfl ?_
            refine hx_det rfl rfl rfl nofun (det_load rfl m0 (by rfl) na23 us23) rfl ?_
            refine hx_or ?_ ?_
            · refine hx_mut rfl rfl rfl (act_lit0S lGPosting un23 (by kernel_rfl)) rfl (by rintro _ _ _ ⟨A15_2, rfl, rfl, rfl⟩ w hs; exact hs.to ⟨_, (rs r0), ⟨_, (rs r0), ⟨_, (rs r0), trivial⟩⟩⟩ ⟨m0, trivial⟩) ?_
              rintro _ _ _ ⟨A15_2, rfl, rfl, rfl⟩
              refine hx_or ?_ ?_
              · refine hx_mut rfl rfl rfl (act_appendS0 (L := lGPosting) rfl rfl s0 (src_F m0) un23 in61 rfl rfl rfl k15_p1) rfl (by rintro _ _ _ ⟨A15_5, c15_5, rfl, rfl, rfl⟩ w hs; exact hs.to ⟨_, (rs r0), ⟨_, (rs r0), ⟨_, (rs r0), trivial⟩⟩⟩ ⟨m0, trivial⟩) ?_
                rintro _ _ _ ⟨A15_5, c15_5, rfl, rfl, rfl⟩
                refine hx_det rfl rfl rfl nofun (det_build (cs := [_, _]) pl25 zr25 rfl rfl (by rfl)) rfl ?_
                refine hx_mut rfl rfl rfl (act_alloc (cs := [_, _]) zr25 rfl) rfl (by rintro _ _ _ ⟨b15_7, rfl, rfl, rfl⟩ w hs; exact hs.to ⟨_, (rs (rs r0)), ⟨_, (rs (rs r0)), ⟨_, (rs (rs r0)), trivial⟩⟩⟩ ⟨m0, trivial⟩) ?_
                rintro _ _ _ ⟨b15_7, rfl, rfl, rfl⟩
                refine hx_end ?_
                refine wl_act0 (act_store (cells := [_, _]) (cs' := [_, _]) rfl rfl rfl s0 (by rfl) (of_decide_eq_true rfl) sz25 ⟨rfl, rfl, trivial⟩) rfl rfl ?_
                rintro _ _ _ ⟨rfl, rfl⟩
                refine wl_nil ?_
                replace h := Option.some.inj h
                subst h
                exact pn_meetG ((), b15_7, A15_5, a0.Postings.length, c15_5, ()) rfl ⟨rfl, rfl, rfl, rfl, rfl, trivial⟩ (fun _ h => h.to ⟨_, (rs (rs r0)), ⟨_, (rs (rs r0)), ⟨_, (rs (rs r0)), ⟨_, r0, ⟨_, r0, trivial⟩⟩⟩⟩⟩ ⟨m0, trivial⟩)
              refine hx_or ?_ trivial
              refine hx_mut rfl rfl rfl (act_alloc (cs := [_, _]) zr25 rfl) rfl (by rintro _ _ _ ⟨b15_7, rfl, rfl, rfl⟩ w hs; exact hs.to ⟨_, (rs (rs r0)), ⟨_, (rs (rs r0)), ⟨_, (rs (rs r0)), trivial⟩⟩⟩ ⟨m0, trivial⟩) ?_
              rintro _ _ _ ⟨b15_7, rfl, rfl, rfl⟩
              refine hx_mut rfl rfl rfl (act_appendS0 (L := lGPosting) rfl rfl (ss s0) (src_F m0) un23 in61 rfl rfl rfl k15_p1) rfl (by rintro _ _ _ ⟨A15_5, c15_5, rfl, rfl, rfl⟩ w hs; exact hs.to ⟨_, (rs (rs r0)), ⟨_, (rs (rs r0)), ⟨_, (rs (rs r0)), trivial⟩⟩⟩ ⟨m0, trivial⟩) ?_
              rintro _ _ _ ⟨A15_5, c15_5, rfl, rfl, rfl⟩
              refine hx_det rfl rfl rfl nofun (det_build (cs := [_, _]) pl25 zr25 rfl rfl (by rfl)) rfl ?_
              refine hx_end ?_
              refine wl_act0 (act_store (cells := [_, _]) (cs' := [_, _]) rfl rfl rfl s0 (by rfl) (of_decide_eq_true rfl) sz25 ⟨rfl, rfl, trivial⟩) rfl rfl ?_
              rintro _ _ _ ⟨rfl, rfl⟩
              refine wl_nil ?_
              replace h := Option.some.inj h
              subst h
              exact pn_meetG ((), b15_7, A15_5, a0.Postings.length, c15_5, ()) rfl ⟨rfl, rfl, rfl, rfl, rfl, trivial⟩ (fun _ h => h.to ⟨_, (rs (rs r0)), ⟨_, (rs (rs r0)), ⟨_, (rs (rs r0)), ⟨_, r0, ⟨_, r0, trivial⟩⟩⟩⟩⟩ ⟨m0, trivial⟩)
            refine hx_or ?_ trivial
            refine hx_mut rfl rfl rfl (act_alloc (cs := [_, _]) zr25 rfl) rfl (by rintro _ _ _ ⟨b15_7, rfl, rfl, rfl⟩ w hs; exact hs.to ⟨_, (rs r0), ⟨_, (rs r0), ⟨_, (rs r0), trivial⟩⟩⟩ ⟨m0, trivial⟩) ?_
            rintro _ _ _ ⟨b15_7, rfl, rfl, rfl⟩
            refine hx_mut rfl rfl rfl (act_lit0S lGPosting un23 (by kernel_rfl)) rfl (by rintro _ _ _ ⟨A15_2, rfl, rfl, rfl⟩ w hs; exact hs.to ⟨_, (rs (rs r0)), ⟨_, (rs (rs r0)), ⟨_, (rs (rs r0)), trivial⟩⟩⟩ ⟨m0, trivial⟩) ?_
            rintro _ _ _ ⟨A15_2, rfl, rfl, rfl⟩
            refine hx_mut rfl rfl rfl (act_appendS0 (L := lGPosting) rfl rfl s0 (src_F m0) un23 in61 rfl rfl rfl k15_p1) rfl (by rintro _ _ _ ⟨A15_5, c15_5, rfl, rfl, rfl⟩ w hs; exact hs.to ⟨_, (rs (rs r0)), ⟨_, (rs (rs r0)), ⟨_, (rs (rs r0)), trivial⟩⟩⟩ ⟨m0, trivial⟩) ?_
            rintro _ _ _ ⟨A15_5, c15_5, rfl, rfl, rfl⟩
            refine hx_det rfl rfl rfl nofun (det_build (cs := [_, _]) pl25 zr25 rfl rfl (by rfl)) rfl ?_
            refine hx_end ?_
            refine wl_act0 (act_store (cells := [_, _]) (cs' := [_, _]) rfl rfl rfl (ss s0) (by rfl) (of_decide_eq_true rfl) sz25 ⟨rfl, rfl, trivial⟩) rfl rfl ?_
            rintro _ _ _ ⟨rfl, rfl⟩
            refine wl_nil ?_
            replace h := Option.some.inj h
            subst h
            exact pn_meetG ((), b15_7, A15_5, a0.Postings.length, c15_5, ()) rfl ⟨rfl, rfl, rfl, rfl, rfl, trivial⟩ (fun _ h => h.to ⟨_, (rs (rs r0)), ⟨_, (rs (rs r0)), ⟨_, (rs (rs r0)), ⟨_, (rs r0), ⟨_, r0, trivial⟩⟩⟩⟩⟩ ⟨m0, trivial⟩)
          rintro ⟨s39, B39_0, A39_1, n39_1, c39_1, _⟩ e39
          dsimp only at e39 ⊢
          subst e39
          have h := ho39
          refine wc_know (fun _ h => h.lenO (ms (ms (ms (ms m0))))) (fun e => ?_)
          subst e
          obtain ⟨q41, h, ho41⟩ := bind_some h
          refine wc_meetG (G := (List GPosting) × Option Addr × Nat × Nat × Unit) (fun (s41, _, _, _, _) => s41 = q41) (fun (_, _, _, _, _) => [(4, .pointer (some ⟨b0_1, 0, none⟩)), (11, .pointer (some ⟨B39_0, 0, none⟩))]) (fun (s41, A41_0, n41_0, c41_0, _) => [eBlk b0_1 25 [.int .i64 0, .slice none 0 0], eBlk B39_0 25 [.int .i64 a0.Closed, .slice A41_0 n41_0 c41_0], eS lGPosting 61 A41_0 n41_0 c41_0 s41]) (fun (_, _, _, _, _) => []) ?_ ?_
          · refine wc_seq ?_
            refine wc_region ?_   -- region 16
            refine wl_det rfl rfl (det_move rfl) rfl ?_
            refine wl_det rfl rfl (det_len rfl un29) rfl ?_
            refine wl_det rfl rfl (det_move rfl) rfl ?_
            refine wl_nil ?_
            refine pn_then ?_
            refine wc_block ?_
            obtain ⟨k45, hk45⟩ := loopV_some.1 h
            refine wc_loop (G := Nat × ((List GPosting) × Int) × Option Addr × Nat × Nat × Unit) (fun g => IterN (treatyref33_Post_l45 a0 r4_1 s26) g.1 g.2.1 q41) (fun g => g.1) (fun (_, s45, _, _, _, _) => [(2, .pointer (some ⟨b0_0, 0, none⟩)), (4, .pointer (some ⟨b0_1, 0, none⟩)), (9, .int .i64 s26), (11, .pointer (some ⟨B39_0, 0, none⟩)), (69, .slice y4_1A0 r4_1.1.length y4_1c0), (70, .int .i64 (r4_1.1.length : Int)), (71, .int .i64 s45.2)]) (fun (_, s45, A45_0, n45_0, c45_0, _) => [eBlk b0_0 25 [.int .i64 a0.Closed, .slice A0 a0.Postings.length c0], eBlk b0_1 25 [.int .i64 0, .slice none 0 0], eBlk B39_0 25 [.int .i64 a0.Closed, .slice A45_0 n45_0 c45_0], eS lGPosting 61 A45_0 n45_0 c45_0 s45.1, eS lGEntry 43 y4_1A0 r4_1.1.length y4_1c0 r4_1.1]) (fun (_, _, _, _, _, _) => [fV (lSlice lGPosting) (.slice A0 a0.Postings.length c0) a0.Postings]) (k45, (a0.Postings, 0), A39_1, a0.Postings.length, c39_1, ()) hk45 ⟨rfl, rfl, rfl, rfl, rfl, rfl, rfl, trivial⟩ (fun _ h => h.to ⟨_, r0, ⟨_, r0, ⟨_, (rs r0), ⟨_, (rs r0), ⟨_, r0, trivial⟩⟩⟩⟩⟩ ⟨m0, trivial⟩) ?_
            rintro ⟨k45, s45, A45_0, n45_0, c45_0, _⟩ hI
            obtain ⟨k45, rfl, q45, h, g45⟩ := IterN.pos hI
            dsimp only at h ⊢
            unfold treatyref33_Post_l45 at h
            refine wc_know (fun _ h => h.lenO (ms (ms (ms m0)))) (fun e => ?_)
            subst e
            refine wc_seq ?_
            refine wc_region ?_   -- region 17
            refine wl_det rfl rfl (det_lss rfl rfl) rfl ?_
            refine wl_nil ?_
            refine pn_then ?_
            refine wc_seq ?_
            refine wc_cond rfl (fun cd49 => ?_) (fun cd49 => ?_)
            · have h := ifT h cd49
              refine wc_skip ?_
              refine pn_then ?_
              refine wc_seq ?_
              refine wc_block ?_
              refine wc_seq ?_
              refine wc_region ?_   -- region 18
              refine wl_det rfl rfl (det_move rfl) rfl ?_
              obtain ⟨k18_1, h⟩ := chk_some h
              refine wl_det rfl rfl (det_indexO rfl rfl (ms (ms (ms (ms m0)))) k18_1 un29 sz43) rfl ?_
              refine wl_det rfl rfl (det_loadO (off := 0) rfl (ms (ms (ms (ms m0)))) k18_1 (by rfl) (by rfl) (loaded_n (cells := [_, _, _, _, _]) ag43 sz43)) rfl ?_
              refine wl_act (act_alloc (cs := [_, _, _, _, _]) zr43 rfl) rfl rfl rfl ?_
              rintro _ _ _ ⟨b18_3, rfl, rfl, rfl⟩
              refine wl_det rfl rfl (det_assign rfl) rfl ?_
              refine wl_act0 (act_store (cells := [_, _, _, _, _]) (cs' := [_, _, _, _, _]) rfl rfl rfl s0 (by rfl) (of_decide_eq_true rfl) sz43 ⟨rfl, rfl, rfl, rfl, rfl, trivial⟩) rfl rfl ?_
              rintro _ _ _ ⟨rfl, rfl⟩
              refine wl_nil ?_
              refine pn_then ?_
              refine wc_region ?_   -- region 19
              refine wl_det rfl rfl (det_field rfl fd25_1 rfl) rfl ?_
              refine wl_det rfl rfl (det_load rfl (ms (ms (ms m0))) (by rfl) na23 us23) rfl ?_
              refine wl_det rfl rfl (det_move rfl) rfl ?_
              refine wl_det rfl rfl (det_move rfl) rfl ?_
              refine wl_det rfl rfl (det_add rfl rfl) rfl ?_
              refine wl_det rfl rfl (det_field rfl fd25_0 rfl) rfl ?_
              refine wl_det rfl rfl (det_load rfl (ms m0) (by rfl) na3 us3) rfl ?_
              refine wl_det rfl rfl (det_loadN (cells := [_, _, _, _, _]) rfl m0 (by rfl) ag43 sz43) rfl ?_
              refine wl_det rfl rfl (det_build (cs := [_, _, _, _, _, _, _]) pl61 zr61 rfl rfl (by rfl)) rfl ?_
              refine wl_act (act_litS lGPosting (vs := [_]) (cs := [_, _, _, _, _, _, _]) [(GPosting.mk (w64 (s26 + s45.2)) a0.Closed (ix r4_1.1 s45.2))] un23 in61 rfl rfl rfl rfl rfl ⟨rfl, trivial⟩ (by rfl) rfl (litR_flat rfl)) rfl rfl rfl ?_
              rintro _ _ _ ⟨A19_9, rfl, rfl, rfl⟩
              obtain ⟨k19_10, h⟩ := chk_some h
              refine wl_act (act_appendS (L := lGPosting) rfl rfl (ss (ss (ss (ss (ss s0))))) (src_O m0) un23 in61 rfl rfl rfl k19_10) rfl rfl rfl ?_
              rintro _ _ _ ⟨A19_10, c19_10, rfl, rfl, rfl⟩
              refine wl_det rfl rfl (det_field rfl fd25_1 rfl) rfl ?_
              refine wl_act0 (act_store (cells := [_]) (cs' := [_, _]) rfl rfl rfl (ss (ss (ss (ss s0)))) (by rfl) (of_decide_eq_true rfl) sz23 ⟨rfl, trivial⟩) rfl rfl ?_
              rintro _ _ _ ⟨rfl, rfl⟩
              refine wl_nil ?_
              refine pn_block ?_
              refine pn_then ?_
              refine wc_region ?_   -- region 20
              refine wl_det rfl rfl (det_add rfl rfl) rfl ?_
              refine wl_det rfl rfl (det_move rfl) rfl ?_
              refine wl_nil ?_
              replace h := Option.some.inj h
              subst h
              exact pn_some (k45, ((s45.1 ++ [(GPosting.mk (w64 (s26 + s45.2)) a0.Closed (ix r4_1.1 s45.2))]), (w64 (s45.2 + 1))), A19_10, (s45.1 ++ [(GPosting.mk (w64 (s26 + s45.2)) a0.Closed (ix r4_1.1 s45.2))]).length, c19_10, ()) ⟨nextL g45, Nat.lt_succ_self _⟩ ⟨rfl, rfl, rfl, rfl, rfl, rfl, rfl, trivial⟩ (fun _ h => h.to ⟨_, (rs (rs r0)), ⟨_, (rs (rs r0)), ⟨_, (rs (rs r0)), ⟨_, (rs (rs r0)), ⟨_, (rs (rs r0)), trivial⟩⟩⟩⟩⟩ ⟨m0, trivial⟩)
            · have h := ifF h cd49
              refine wc_exit ?_
              refine px_then ?_
              refine px_then ?_
              refine px_block ?_
              replace h := Option.some.inj h
              subst h
              replace g45 := nextR g45
              subst g45
              exact pn_meetG (s45.1, A45_0, s45.1.length, c45_0, ()) rfl ⟨rfl, rfl, trivial⟩ (fun _ h => h.to ⟨_, (rs r0), ⟨_, (rs r0), ⟨_, (rs r0), trivial⟩⟩⟩ trivial)
          rintro ⟨s41, A41_0, n41_0, c41_0, _⟩ e41
          dsimp only at e41 ⊢
          subst e41
          have h := ho41
          refine wc_know (fun _ h => h.lenO (ms (ms m0))) (fun e => ?_)
          subst e
          refine wc_seq ?_
          refine wc_region ?_   -- region 21
          refine wl_det rfl rfl (det_loadN (cells := [_, _]) rfl (ms m0) (by rfl) ag25 sz25) rfl ?_
          refine wl_act0 (act_store (cells := [_, _]) (cs' := [_, _]) rfl rfl rfl s0 (by rfl) (of_decide_eq_true rfl) sz25 ⟨rfl, rfl, trivial⟩) rfl rfl ?_
          rintro _ _ _ ⟨rfl, rfl⟩
          refine wl_det rfl rfl (det_assign rfl) rfl ?_
          refine wl_nil ?_
          refine pn_then ?_
          refine wc_ret ?_
          replace h := Option.some.inj h
          subst h
          refine pn_ret (vs := [_, _]) rfl ⟨⟨_, _, [_, _], rfl, m0, .inl ⟨ag25, sz25, rfl⟩⟩, rfl, trivial⟩ ⟨A41_0, s41.length, c41_0, rfl, rfl, rfl⟩ (fun _ h => h.to ⟨_, (rs (rs r0)), trivial⟩ trivial)
def Q_treatymade2_Ledger (Ba0 : Nat) (r : GLedger × GDeck) : Value → List Ent → List Fact → Prop := fun v θ κ => ∃ (pA0 : Option Addr), ∃ (pn0 : Nat), ∃ (pc0 : Nat), ∃ (pA1 : Option Addr), ∃ (pn1 : Nat), ∃ (pc1 : Nat), v = .agg #[.int .i64 r.1.Closed, .slice pA0 pn0 pc0] ∧ θ = [eS lGPosting 61 pA0 pn0 pc0 r.1.Postings, eBlk Ba0 67 [.slice pA1 pn1 pc1, .int .i64 r.2.At]] ∧ κ = [fV (lSlice (lInt .i64)) (.slice pA1 pn1 pc1) r.2.L]
set_option maxHeartbeats 4000000 in
set_option maxRecDepth 100000 in
theorem W_treatymade2_Ledger (a0 : GDeck) (a1 : Int) (Ba0 : Nat) (A1 : Option Addr) (n1 : Nat) (c1 : Nat) (r : GLedger × GDeck) (h : treatymade2_Ledger a0 a1 = some r) : Spec Try.prog 6 [.pointer (some ⟨Ba0, 0, none⟩), .int .i64 a1] [eBlk Ba0 67 [.slice A1 n1 c1, .int .i64 a0.At]] [fV (lSlice (lInt .i64)) (.slice A1 n1 c1) a0.L] (Q_treatymade2_Ledger Ba0 r) := by
  unfold treatymade2_Ledger at h
  refine spec_of (σ := [(0, _), (1, _)]) Try.func6 rfl rfl rfl rfl ?_
  intro C
  refine wc_know (fun _ h => h.lenF m0) (fun e => ?_)
  subst e
  refine wc_seq ?_
  refine wc_region ?_   -- region 0
  refine wl_act (act_alloc (cs := [_, _]) zr25 rfl) rfl rfl rfl ?_
  rintro _ _ _ ⟨b0_0, rfl, rfl, rfl⟩
  refine wl_nil ?_
  refine pn_then ?_
  refine wc_seq ?_
  refine wc_region ?_   -- region 1
  refine wl_act (act_alloc (cs := [_, _]) zr25 rfl) rfl rfl rfl ?_
  rintro _ _ _ ⟨b1_0, rfl, rfl, rfl⟩
  refine wl_nil ?_
  refine pn_then ?_
  obtain ⟨q4, h, ho4⟩ := bind_some h
  refine wc_meetG (G := ((List Int) × Int × Int × (List GPosting)) × Option Addr × Nat × Nat × Option Addr × Nat × Nat × Unit) (fun (s4, _, _, _, _, _, _, _) => s4 = q4) (fun (_, _, _, _, _, _, _, _) => [(4, .pointer (some ⟨b0_0, 0, none⟩)), (5, .pointer (some ⟨b1_0, 0, none⟩))]) (fun (s4, A4_0, n4_0, c4_0, A4_3, n4_3, c4_3, _) => [eBlk Ba0 67 [.slice A4_0 n4_0 c4_0, .int .i64 s4.2.1], eBlk b0_0 25 [.int .i64 0, .slice none 0 0], eBlk b1_0 25 [.int .i64 s4.2.2.1, .slice A4_3 n4_3 c4_3], eS lGPosting 61 A4_3 n4_3 c4_3 s4.2.2.2]) (fun (s4, A4_0, n4_0, c4_0, _, _, _, _) => [fV (lSlice (lInt .i64)) (.slice A4_0 n4_0 c4_0) s4.1]) ?_ ?_
  · refine wc_seq ?_
    refine wc_region ?_   -- region 2
    refine wl_det rfl rfl (det_move rfl) rfl ?_
    refine wl_det rfl rfl (det_move rfl) rfl ?_
    refine wl_det rfl rfl (det_add rfl rfl) rfl ?_
    obtain ⟨r2_3, hr2_3, h⟩ := bind_some h
    refine wl_act (act_callS (cap := []) (W_treatymade_Deck_Next a0 (w64 (a1 + 1)) Ba0 A1 a0.L.length c1 r2_3 hr2_3) rfl rfl rfl bd16 ⟨_, (rs (rs r0)), rfl⟩ ⟨m0, trivial⟩) rfl rfl rfl ?_
    rintro _ _ _ ⟨_, _, ⟨y2_3A0, y2_3n0, y2_3c0, rfl, rfl, rfl⟩, rfl, rfl⟩
    dsimp only [List.nil_append, List.cons_append]
    refine wl_know (fun _ h => h.lenF m0) (fun e => ?_)
    subst e
    refine wl_det rfl rfl (det_assign rfl) rfl ?_
    refine wl_nil ?_
    refine pn_then ?_
    refine wc_block ?_
    refine wc_st (fun _ h => h.zeroS lGPosting 61 none) ?_
    obtain ⟨k8, hk8⟩ := loopV_some.1 h
    refine wc_loop (G := Nat × ((List Int) × Int × Int × (List GPosting) × Int) × Option Addr × Nat × Nat × Option Addr × Nat × Nat × Unit) (fun g => IterN treatymade2_Ledger_l8 g.1 g.2.1 q4) (fun g => g.1) (fun (_, s8, _, _, _, _, _, _, _) => [(0, .pointer (some ⟨Ba0, 0, none⟩)), (4, .pointer (some ⟨b0_0, 0, none⟩)), (5, .pointer (some ⟨b1_0, 0, none⟩)), (6, .int .i64 s8.2.2.2.2)]) (fun (_, s8, A8_0, n8_0, c8_0, A8_3, n8_3, c8_3, _) => [eBlk Ba0 67 [.slice A8_0 n8_0 c8_0, .int .i64 s8.2.1], eBlk b0_0 25 [.int .i64 0, .slice none 0 0], eBlk b1_0 25 [.int .i64 s8.2.2.1, .slice A8_3 n8_3 c8_3], eS lGPosting 61 A8_3 n8_3 c8_3 s8.2.2.2.1]) (fun (_, s8, A8_0, n8_0, c8_0, _, _, _, _) => [fV (lSlice (lInt .i64)) (.slice A8_0 n8_0 c8_0) s8.1]) (k8, (r2_3.2.L, r2_3.2.At, 0, [], r2_3.1), y2_3A0, r2_3.2.L.length, y2_3c0, none, 0, 0, ()) hk8 ⟨rfl, rfl, rfl, rfl, trivial⟩ (fun _ h => h.to ⟨_, (rs r0), ⟨_, (rs (rs r0)), ⟨_, (rs r0), ⟨_, r0, trivial⟩⟩⟩⟩ ⟨m0, trivial⟩) ?_
    rintro ⟨k8, s8, A8_0, n8_0, c8_0, A8_3, n8_3, c8_3, _⟩ hI
    obtain ⟨k8, rfl, q8, h, g8⟩ := IterN.pos hI
    dsimp only at h ⊢
    unfold treatymade2_Ledger_l8 at h
    refine wc_know (fun _ h => h.lenF m0) (fun e => ?_)
    subst e
    refine wc_know (fun _ h => h.lenO (ms (ms (ms m0)))) (fun e => ?_)
    subst e
    refine wc_seq ?_
    refine wc_seq ?_
    refine wc_region ?_   -- region 3
    refine wl_det rfl rfl (det_move rfl) rfl ?_
    refine wl_det rfl rfl (det_gtr rfl rfl) rfl ?_
    refine wl_nil ?_
    refine pn_then ?_
    refine wc_cond rfl (fun cd12 => ?_) (fun cd12 => ?_)
    · have h := ifT h cd12
      refine wc_skip ?_
      refine pn_then ?_
      obtain ⟨q14, h, ho14⟩ := bind_some h
      refine wc_meetG (G := ((List Int) × Int × Int × (List GPosting)) × Option Addr × Nat × Nat × Option Addr × Nat × Nat × Unit) (fun (s14, _, _, _, _, _, _, _) => s14 = q14) (fun (_, _, _, _, _, _, _, _) => [(0, .pointer (some ⟨Ba0, 0, none⟩)), (4, .pointer (some ⟨b0_0, 0, none⟩)), (5, .pointer (some ⟨b1_0, 0, none⟩)), (6, .int .i64 s8.2.2.2.2)]) (fun (s14, A14_0, n14_0, c14_0, A14_3, n14_3, c14_3, _) => [eBlk Ba0 67 [.slice A14_0 n14_0 c14_0, .int .i64 s14.2.1], eBlk b0_0 25 [.int .i64 0, .slice none 0 0], eBlk b1_0 25 [.int .i64 s14.2.2.1, .slice A14_3 n14_3 c14_3], eS lGPosting 61 A14_3 n14_3 c14_3 s14.2.2.2]) (fun (s14, A14_0, n14_0, c14_0, _, _, _, _) => [fV (lSlice (lInt .i64)) (.slice A14_0 n14_0 c14_0) s14.1]) ?_ ?_
      · refine wc_block ?_
        refine wc_seq ?_
        refine wc_seq ?_
        refine wc_region ?_   -- region 5
        refine wl_det rfl rfl (det_move rfl) rfl ?_
        obtain ⟨r5_1, hr5_1, h⟩ := bind_some h
        refine wl_act (act_callS (cap := []) (W_treatymade_Deck_Next (GDeck.mk s8.1 s8.2.1) 3 Ba0 A8_0 s8.1.length c8_0 r5_1 hr5_1) rfl rfl rfl bd16 ⟨_, r0, rfl⟩ ⟨m0, trivial⟩) rfl rfl rfl ?_
        rintro _ _ _ ⟨_, _, ⟨y5_1A0, y5_1n0, y5_1c0, rfl, rfl, rfl⟩, rfl, rfl⟩
        dsimp only [List.nil_append, List.cons_append]
        refine wl_know (fun _ h => h.lenF m0) (fun e => ?_)
        subst e
        refine wl_det rfl rfl (det_eql rfl rfl) rfl ?_
        refine wl_nil ?_
        refine pn_then ?_
        refine wc_cond rfl (fun cd19 => ?_) (fun cd19 => ?_)
        · have h := ifT h cd19
          refine wc_seq ?_
          refine wc_region ?_   -- region 6
          refine wl_det rfl rfl (det_loadN (cells := [_, _]) rfl (ms (ms m0)) (by rfl) ag25 sz25) rfl ?_
          obtain ⟨r6_1, hr6_1, h⟩ := bind_some h
          refine wl_act (act_callL (cap := []) [eS lGPosting 61 A8_3 s8.2.2.2.1.length c8_3 s8.2.2.2.1] (W_treatyref33_Close (GLedger.mk s8.2.2.1 s8.2.2.2.1) A8_3 s8.2.2.2.1.length c8_3 r6_1 hr6_1) plains_treatyref33_Close rfl rfl rfl bd17 rfl ⟨(ms (ms (ms m0))), trivial⟩ ⟨.inr ⟨_, m0, lent_eS⟩, trivial⟩) rfl rfl rfl ?_
          rintro _ _ _ ⟨_, _, ⟨y6_1A0, y6_1n0, y6_1c0, rfl, rfl, rfl⟩, rfl, rfl⟩
          dsimp only [List.nil_append, List.cons_append]
          refine wl_know (fun _ h => h.lenO m0) (fun e => ?_)
          subst e
          refine wl_det rfl rfl (det_move rfl) rfl ?_
          refine wl_det rfl rfl (det_extract rfl rfl) rfl ?_
          refine wl_det rfl rfl (det_extract rfl rfl) rfl ?_
          refine wl_act0 (act_store (cells := [_, _]) (cs' := [_, _]) rfl rfl rfl (ss (ss (ss s0))) (by rfl) (of_decide_eq_true rfl) sz25 ⟨rfl, rfl, trivial⟩) rfl rfl ?_
          rintro _ _ _ ⟨rfl, rfl⟩
          refine wl_nil ?_
          refine pn_then ?_
          refine wc_exit ?_
          refine px_then ?_
          refine px_block ?_
          replace h := Option.some.inj h
          subst h
          exact pn_meetG ((r5_1.2.L, r5_1.2.At, r6_1.1.Closed, r6_1.1.Postings), y5_1A0, r5_1.2.L.length, y5_1c0, y6_1A0, r6_1.1.Postings.length, y6_1c0, ()) rfl ⟨rfl, rfl, rfl, rfl, trivial⟩ (fun _ h => h.to ⟨_, (rs r0), ⟨_, (rs r0), ⟨_, (rs r0), ⟨_, r0, trivial⟩⟩⟩⟩ ⟨m0, trivial⟩)
        · have h := ifF h cd19
          refine wc_skip ?_
          refine pn_then ?_
          obtain ⟨q23, h, ho23⟩ := bind_some h
          refine wc_meetG (G := ((List Int) × Int × Int × (List GPosting) × Int) × Option Addr × Nat × Nat × Nat × Option Addr × Nat × Nat × Unit) (fun (s23, _, _, _, _, _, _, _, _) => s23 = q23) (fun (s23, _, _, _, B23_3, _, _, _, _) => [(0, .pointer (some ⟨Ba0, 0, none⟩)), (4, .pointer (some ⟨b0_0, 0, none⟩)), (5, .pointer (some ⟨b1_0, 0, none⟩)), (6, .int .i64 s8.2.2.2.2), (7, .pointer (some ⟨B23_3, 0, none⟩)), (8, .int .i64 s23.2.2.2.2)]) (fun (s23, A23_0, n23_0, c23_0, B23_3, A23_4, n23_4, c23_4, _) => [eBlk Ba0 67 [.slice A23_0 n23_0 c23_0, .int .i64 s23.2.1], eBlk b0_0 25 [.int .i64 0, .slice none 0 0], eBlk b1_0 25 [.int .i64 s8.2.2.1, .slice A8_3 s8.2.2.2.1.length c8_3], eS lGPosting 61 A8_3 s8.2.2.2.1.length c8_3 s8.2.2.2.1, eBlk B23_3 25 [.int .i64 s23.2.2.1, .slice A23_4 n23_4 c23_4], eS lGPosting 61 A23_4 n23_4 c23_4 s23.2.2.2.1]) (fun (s23, A23_0, n23_0, c23_0, _, _, _, _, _) => [fV (lSlice (lInt .i64)) (.slice A23_0 n23_0 c23_0) s23.1]) ?_ ?_
          · refine dx_regionZ (Z := St C [_, _, _] [_, _]) 9 [[], [], [1], [0, 1, 2], [0, 1, 2, 3], [0, 1, 2, 3, 4], [0, 1, 2, 3, 4], [], [0, 1, 2, 3, 4, 5, 7], [0, 1, 2, 3, 4, 5, 6, 7, 8]] mixed (ord := (.det 0 (.det 1 (.alt 2 (.alt 3 (.det 4 (.det 5 (.det 6 (.alt 7 (.alt 8 .done .dead) .dead)))) (.alt 7 (.alt 3 (.det 4 (.det 5 (.det 6 (.alt 8 .done .dead)))) .dead) .dead)) (.alt 7 (.alt 2 (.alt 3 (.det 4 (.det 5 (.det 6 (.alt 8 .done .dead)))) .dead) .dead) .dead))))) (by kernel_rfl) (fun _ h => h.to ⟨_, (rs r0), ⟨_, (rs r0), ⟨_, (rs r0), trivial⟩⟩⟩ ⟨m0, ⟨(ms m0), trivial⟩⟩) ?_   -- region 7
            refine hx_det rfl rfl rfl nofun (det_loadN (cells := [_, _]) rfl (ms m0) (by rfl) ag25 sz25) rfl ?_
            refine hx_det rfl rfl rfl nofun (det_move rfl) rfl ?_
            refine hx_or ?_ ?_
            · obtain ⟨r7_2, hr7_2, h⟩ := bind_some h
              refine hx_mut rfl rfl rfl (act_callS (cap := []) (W_treatymade2_Entries r5_1.2 4 Ba0 y5_1A0 r5_1.2.L.length y5_1c0 r7_2 hr7_2) rfl rfl rfl bd19 ⟨_, r0, rfl⟩ ⟨m0, trivial⟩) rfl (by rintro _ _ _ ⟨_, _, ⟨y7_2A0, y7_2n0, y7_2c0, y7_2A1, y7_2n1, y7_2c1, rfl, rfl, rfl⟩, rfl, rfl⟩ w hs; exact hs.to ⟨_, (rs (rs r0)), ⟨_, (rs (rs r0)), ⟨_, (rs (rs r0)), trivial⟩⟩⟩ ⟨(ms m0), ⟨(ms (ms m0)), trivial⟩⟩) ?_
              rintro _ _ _ ⟨_, _, ⟨y7_2A0, y7_2n0, y7_2c0, y7_2A1, y7_2n1, y7_2c1, rfl, rfl, rfl⟩, rfl, rfl⟩
              dsimp only [List.nil_append, List.cons_append]
              refine hx_or ?_ ?_
              · obtain ⟨r7_3, hr7_3, h⟩ := bind_some h
                refine hx_mut rfl rfl rfl (act_callL (cap := []) [eS lGPosting 61 A8_3 s8.2.2.2.1.length c8_3 s8.2.2.2.1, eS lGEntry 43 y7_2A0 y7_2n0 y7_2c0 r7_2.1] (W_treatyref33_Post (GLedger.mk s8.2.2.1 s8.2.2.2.1) r7_2.1 A8_3 s8.2.2.2.1.length c8_3 y7_2A0 y7_2n0 y7_2c0 r7_3 hr7_3) plains_treatyref33_Post rfl rfl rfl bd18 rfl ⟨(ms (ms (ms (ms m0)))), ⟨m0, trivial⟩⟩ ⟨.inr ⟨_, m0, lent_eS⟩, ⟨.inr ⟨_, (ms m0), lent_eS⟩, trivial⟩⟩) rfl (by rintro _ _ _ ⟨_, _, ⟨y7_3A0, y7_3n0, y7_3c0, rfl, rfl, rfl⟩, rfl, rfl⟩ w hs; exact hs.to ⟨_, (rs (rs (rs r0))), ⟨_, (rs (rs (rs r0))), ⟨_, (rs (rs (rs r0))), trivial⟩⟩⟩ ⟨(ms m0), ⟨(ms (ms m0)), trivial⟩⟩) ?_
                rintro _ _ _ ⟨_, _, ⟨y7_3A0, y7_3n0, y7_3c0, rfl, rfl, rfl⟩, rfl, rfl⟩
                dsimp only [List.nil_append, List.cons_append]
                refine hx_det rfl rfl rfl nofun (det_move rfl) rfl ?_
                refine hx_det rfl rfl rfl nofun (det_extract rfl rfl) rfl ?_
                refine hx_det rfl rfl rfl nofun (det_extract rfl rfl) rfl ?_
                refine hx_mut rfl rfl rfl (act_alloc (cs := [_, _]) zr25 rfl) rfl (by rintro _ _ _ ⟨b7_7, rfl, rfl, rfl⟩ w hs; exact hs.to ⟨_, (rs (rs (rs (rs r0)))), ⟨_, (rs (rs (rs (rs r0)))), ⟨_, (rs (rs (rs (rs r0)))), trivial⟩⟩⟩ ⟨(ms m0), ⟨(ms (ms m0)), trivial⟩⟩) ?_
                rintro _ _ _ ⟨b7_7, rfl, rfl, rfl⟩
                refine hx_mut0 rfl rfl rfl (act_store (cells := [_, _]) (cs' := [_, _]) rfl rfl rfl s0 (by rfl) (of_decide_eq_true rfl) sz25 ⟨rfl, rfl, trivial⟩) (by rintro _ _ _ ⟨rfl, rfl⟩ w hs; exact hs.to ⟨_, (rs (rs (rs (rs r0)))), ⟨_, (rs (rs (rs (rs r0)))), ⟨_, (rs (rs (rs (rs r0)))), trivial⟩⟩⟩ ⟨(ms m0), ⟨(ms (ms m0)), trivial⟩⟩) ?_
                rintro _ _ _ ⟨rfl, rfl⟩
                refine hx_end ?_
                refine wl_know (fun _ h => h.lenO (ms (ms m0))) (fun e => ?_)
                subst e
                refine wl_know (fun _ h => h.lenF m0) (fun e => ?_)
                subst e
                refine wl_know (fun _ h => h.lenO (ms m0)) (fun e => ?_)
                subst e
                refine wl_det rfl rfl (det_assign rfl) rfl ?_
                refine wl_nil ?_
                replace h := Option.some.inj h
                subst h
                exact pn_meetG ((r7_2.2.L, r7_2.2.At, r7_3.1.Closed, r7_3.1.Postings, r7_3.2), y7_2A1, r7_2.2.L.length, y7_2c1, b7_7, y7_3A0, r7_3.1.Postings.length, y7_3c0, ()) rfl ⟨rfl, rfl, rfl, rfl, rfl, rfl, trivial⟩ (fun _ h => h.to ⟨_, (rs (rs (rs r0))), ⟨_, (rs (rs (rs r0))), ⟨_, (rs (rs (rs r0))), ⟨_, (rs (rs (rs r0))), ⟨_, r0, ⟨_, r0, trivial⟩⟩⟩⟩⟩⟩ ⟨m0, trivial⟩)
              refine hx_or ?_ trivial
              refine hx_mut rfl rfl rfl (act_alloc (cs := [_, _]) zr25 rfl) rfl (by rintro _ _ _ ⟨b7_7, rfl, rfl, rfl⟩ w hs; exact hs.to ⟨_, (rs (rs (rs r0))), ⟨_, (rs (rs (rs r0))), ⟨_, (rs (rs (rs r0))), trivial⟩⟩⟩ ⟨(ms m0), ⟨(ms (ms m0)), trivial⟩⟩) ?_
              rintro _ _ _ ⟨b7_7, rfl, rfl, rfl⟩
              obtain ⟨r7_3, hr7_3, h⟩ := bind_some h
              refine hx_mut rfl rfl rfl (act_callL (cap := []) [eS lGPosting 61 A8_3 s8.2.2.2.1.length c8_3 s8.2.2.2.1, eS lGEntry 43 y7_2A0 y7_2n0 y7_2c0 r7_2.1] (W_treatyref33_Post (GLedger.mk s8.2.2.1 s8.2.2.2.1) r7_2.1 A8_3 s8.2.2.2.1.length c8_3 y7_2A0 y7_2n0 y7_2c0 r7_3 hr7_3) plains_treatyref33_Post rfl rfl rfl bd18 rfl ⟨(ms (ms (ms (ms (ms m0))))), ⟨(ms m0), trivial⟩⟩ ⟨.inr ⟨_, m0, lent_eS⟩, ⟨.inr ⟨_, (ms m0), lent_eS⟩, trivial⟩⟩) rfl (by rintro _ _ _ ⟨_, _, ⟨y7_3A0, y7_3n0, y7_3c0, rfl, rfl, rfl⟩, rfl, rfl⟩ w hs; exact hs.to ⟨_, (rs (rs (rs (rs r0)))), ⟨_, (rs (rs (rs (rs r0)))), ⟨_, (rs (rs (rs (rs r0)))), trivial⟩⟩⟩ ⟨(ms m0), ⟨(ms (ms m0)), trivial⟩⟩) ?_
              rintro _ _ _ ⟨_, _, ⟨y7_3A0, y7_3n0, y7_3c0, rfl, rfl, rfl⟩, rfl, rfl⟩
              dsimp only [List.nil_append, List.cons_append]
              refine hx_det rfl rfl rfl nofun (det_move rfl) rfl ?_
              refine hx_det rfl rfl rfl nofun (det_extract rfl rfl) rfl ?_
              refine hx_det rfl rfl rfl nofun (det_extract rfl rfl) rfl ?_
              refine hx_mut0 rfl rfl rfl (act_store (cells := [_, _]) (cs' := [_, _]) rfl rfl rfl (ss s0) (by rfl) (of_decide_eq_true rfl) sz25 ⟨rfl, rfl, trivial⟩) (by rintro _ _ _ ⟨rfl, rfl⟩ w hs; exact hs.to ⟨_, (rs (rs (rs (rs r0)))), ⟨_, (rs (rs (rs (rs r0)))), ⟨_, (rs (rs (rs (rs r0)))), trivial⟩⟩⟩ ⟨(ms m0), ⟨(ms (ms m0)), trivial⟩⟩) ?_
              rintro _ _ _ ⟨rfl, rfl⟩
              refine hx_end ?_
              refine wl_know (fun _ h => h.lenO (ms (ms m0))) (fun e => ?_)
              subst e
              refine wl_know (fun _ h => h.lenF m0) (fun e => ?_)
              subst e
              refine wl_know (fun _ h => h.lenO m0) (fun e => ?_)
              subst e
              refine wl_det rfl rfl (det_assign rfl) rfl ?_
              refine wl_nil ?_
              replace h := Option.some.inj h
              subst h
              exact pn_meetG ((r7_2.2.L, r7_2.2.At, r7_3.1.Closed, r7_3.1.Postings, r7_3.2), y7_2A1, r7_2.2.L.length, y7_2c1, b7_7, y7_3A0, r7_3.1.Postings.length, y7_3c0, ()) rfl ⟨rfl, rfl, rfl, rfl, rfl, rfl, trivial⟩ (fun _ h => h.to ⟨_, (rs (rs (rs r0))), ⟨_, (rs (rs (rs r0))), ⟨_, (rs (rs (rs r0))), ⟨_, (rs (rs (rs r0))), ⟨_, (rs r0), ⟨_, r0, trivial⟩⟩⟩⟩⟩⟩ ⟨m0, trivial⟩)
            refine hx_or ?_ trivial
            refine hx_mut rfl rfl rfl (act_alloc (cs := [_, _]) zr25 rfl) rfl (by rintro _ _ _ ⟨b7_7, rfl, rfl, rfl⟩ w hs; exact hs.to ⟨_, (rs (rs r0)), ⟨_, (rs (rs r0)), ⟨_, (rs (rs r0)), trivial⟩⟩⟩ ⟨m0, ⟨(ms m0), trivial⟩⟩) ?_
            rintro _ _ _ ⟨b7_7, rfl, rfl, rfl⟩
            obtain ⟨r7_2, hr7_2, h⟩ := bind_some h
            refine hx_mut rfl rfl rfl (act_callS (cap := []) (W_treatymade2_Entries r5_1.2 4 Ba0 y5_1A0 r5_1.2.L.length y5_1c0 r7_2 hr7_2) rfl rfl rfl bd19 ⟨_, (rs r0), rfl⟩ ⟨m0, trivial⟩) rfl (by rintro _ _ _ ⟨_, _, ⟨y7_2A0, y7_2n0, y7_2c0, y7_2A1, y7_2n1, y7_2c1, rfl, rfl, rfl⟩, rfl, rfl⟩ w hs; exact hs.to ⟨_, (rs (rs (rs r0))), ⟨_, (rs (rs (rs r0))), ⟨_, (rs (rs (rs r0))), trivial⟩⟩⟩ ⟨(ms m0), ⟨(ms (ms m0)), trivial⟩⟩) ?_
            rintro _ _ _ ⟨_, _, ⟨y7_2A0, y7_2n0, y7_2c0, y7_2A1, y7_2n1, y7_2c1, rfl, rfl, rfl⟩, rfl, rfl⟩
            dsimp only [List.nil_append, List.cons_append]
            obtain ⟨r7_3, hr7_3, h⟩ := bind_some h
            refine hx_mut rfl rfl rfl (act_callL (cap := []) [eS lGPosting 61 A8_3 s8.2.2.2.1.length c8_3 s8.2.2.2.1, eS lGEntry 43 y7_2A0 y7_2n0 y7_2c0 r7_2.1] (W_treatyref33_Post (GLedger.mk s8.2.2.1 s8.2.2.2.1) r7_2.1 A8_3 s8.2.2.2.1.length c8_3 y7_2A0 y7_2n0 y7_2c0 r7_3 hr7_3) plains_treatyref33_Post rfl rfl rfl bd18 rfl ⟨(ms (ms (ms (ms (ms m0))))), ⟨m0, trivial⟩⟩ ⟨.inr ⟨_, m0, lent_eS⟩, ⟨.inr ⟨_, (ms m0), lent_eS⟩, trivial⟩⟩) rfl (by rintro _ _ _ ⟨_, _, ⟨y7_3A0, y7_3n0, y7_3c0, rfl, rfl, rfl⟩, rfl, rfl⟩ w hs; exact hs.to ⟨_, (rs (rs (rs (rs r0)))), ⟨_, (rs (rs (rs (rs r0)))), ⟨_, (rs (rs (rs (rs r0)))), trivial⟩⟩⟩ ⟨(ms m0), ⟨(ms (ms m0)), trivial⟩⟩) ?_
            rintro _ _ _ ⟨_, _, ⟨y7_3A0, y7_3n0, y7_3c0, rfl, rfl, rfl⟩, rfl, rfl⟩
            dsimp only [List.nil_append, List.cons_append]
            refine hx_det rfl rfl rfl nofun (det_move rfl) rfl ?_
            refine hx_det rfl rfl rfl nofun (det_extract rfl rfl) rfl ?_
            refine hx_det rfl rfl rfl nofun (det_extract rfl rfl) rfl ?_
            refine hx_mut0 rfl rfl rfl (act_store (cells := [_, _]) (cs' := [_, _]) rfl rfl rfl (ss (ss (ss s0))) (by rfl) (of_decide_eq_true rfl) sz25 ⟨rfl, rfl, trivial⟩) (by rintro _ _ _ ⟨rfl, rfl⟩ w hs; exact hs.to ⟨_, (rs (rs (rs (rs r0)))), ⟨_, (rs (rs (rs (rs r0)))), ⟨_, (rs (rs (rs (rs r0)))), trivial⟩⟩⟩ ⟨(ms m0), ⟨(ms (ms m0)), trivial⟩⟩) ?_
            rintro _ _ _ ⟨rfl, rfl⟩
            refine hx_end ?_
            refine wl_know (fun _ h => h.lenO (ms m0)) (fun e => ?_)
            subst e
            refine wl_know (fun _ h => h.lenF m0) (fun e => ?_)
            subst e
            refine wl_know (fun _ h => h.lenO m0) (fun e => ?_)
            subst e
            refine wl_det rfl rfl (det_assign rfl) rfl ?_
            refine wl_nil ?_
            replace h := Option.some.inj h
            subst h
            exact pn_meetG ((r7_2.2.L, r7_2.2.At, r7_3.1.Closed, r7_3.1.Postings, r7_3.2), y7_2A1, r7_2.2.L.length, y7_2c1, b7_7, y7_3A0, r7_3.1.Postings.length, y7_3c0, ()) rfl ⟨rfl, rfl, rfl, rfl, rfl, rfl, trivial⟩ (fun _ h => h.to ⟨_, (rs (rs r0)), ⟨_, (rs (rs (rs r0))), ⟨_, (rs (rs (rs r0))), ⟨_, (rs (rs (rs r0))), ⟨_, (rs (rs r0)), ⟨_, r0, trivial⟩⟩⟩⟩⟩⟩ ⟨m0, trivial⟩)
          rintro ⟨s23, A23_0, n23_0, c23_0, B23_3, A23_4, n23_4, c23_4, _⟩ e23
          dsimp only at e23 ⊢
          subst e23
          have h := ho23
          refine wc_know (fun _ h => h.lenF m0) (fun e => ?_)
          subst e
          refine wc_know (fun _ h => h.lenO (ms (ms (ms (ms (ms m0)))))) (fun e => ?_)
          subst e
          refine wc_seq ?_
          refine wc_region ?_   -- region 8
          refine wl_det rfl rfl (det_move rfl) rfl ?_
          refine wl_det rfl rfl (det_eql rfl rfl) rfl ?_
          refine wl_nil ?_
          refine pn_then ?_
          refine wc_cond rfl (fun cd27 => ?_) (fun cd27 => ?_)
          · have h := ifT h cd27
            refine wc_region ?_   -- region 9
            refine wl_det rfl rfl (det_loadN (cells := [_, _]) rfl (ms (ms (ms (ms m0)))) (by rfl) ag25 sz25) rfl ?_
            refine wl_act0 (act_store (cells := [_, _]) (cs' := [_, _]) rfl rfl rfl (ss (ss s0)) (by rfl) (of_decide_eq_true rfl) sz25 ⟨rfl, rfl, trivial⟩) rfl rfl ?_
            rintro _ _ _ ⟨rfl, rfl⟩
            refine wl_nil ?_
            refine pn_block ?_
            replace h := Option.some.inj h
            subst h
            exact pn_meetG ((s23.1, s23.2.1, s23.2.2.1, s23.2.2.2.1), A23_0, s23.1.length, c23_0, A23_4, s23.2.2.2.1.length, c23_4, ()) rfl ⟨rfl, rfl, rfl, rfl, trivial⟩ (fun _ h => h.to ⟨_, r0, ⟨_, r0, ⟨_, r0, ⟨_, (rs (rs r0)), trivial⟩⟩⟩⟩ ⟨m0, trivial⟩)
          · have h := ifF h cd27
            refine wc_skip ?_
            refine pn_block ?_
            replace h := Option.some.inj h
            subst h
            exact pn_meetG ((s23.1, s23.2.1, s8.2.2.1, s8.2.2.2.1), A23_0, s23.1.length, c23_0, A8_3, s8.2.2.2.1.length, c8_3, ()) rfl ⟨rfl, rfl, rfl, rfl, trivial⟩ (fun _ h => h.to ⟨_, r0, ⟨_, r0, ⟨_, r0, ⟨_, r0, trivial⟩⟩⟩⟩ ⟨m0, trivial⟩)
      rintro ⟨s14, A14_0, n14_0, c14_0, A14_3, n14_3, c14_3, _⟩ e14
      dsimp only at e14 ⊢
      subst e14
      have h := ho14
      refine wc_know (fun _ h => h.lenF m0) (fun e => ?_)
      subst e
      refine wc_know (fun _ h => h.lenO (ms (ms (ms m0)))) (fun e => ?_)
      subst e
      refine wc_region ?_   -- region 4
      refine wl_det rfl rfl (det_move rfl) rfl ?_
      refine wl_det rfl rfl (det_sub rfl rfl) rfl ?_
      refine wl_det rfl rfl (det_assign rfl) rfl ?_
      refine wl_nil ?_
      replace h := Option.some.inj h
      subst h
      exact pn_some (k8, (s14.1, s14.2.1, s14.2.2.1, s14.2.2.2, (w64 (s8.2.2.2.2 - 1))), A14_0, s14.1.length, c14_0, A14_3, s14.2.2.2.length, c14_3, ()) ⟨nextL g8, Nat.lt_succ_self _⟩ ⟨rfl, rfl, rfl, rfl, trivial⟩ (fun _ h => h.to ⟨_, r0, ⟨_, r0, ⟨_, r0, ⟨_, r0, trivial⟩⟩⟩⟩ ⟨m0, trivial⟩)
    · have h := ifF h cd12
      refine wc_exit ?_
      refine px_then ?_
      refine px_then ?_
      refine px_block ?_
      replace h := Option.some.inj h
      subst h
      replace g8 := nextR g8
      subst g8
      exact pn_meetG ((s8.1, s8.2.1, s8.2.2.1, s8.2.2.2.1), A8_0, s8.1.length, c8_0, A8_3, s8.2.2.2.1.length, c8_3, ()) rfl ⟨rfl, rfl, trivial⟩ (fun _ h => h.to ⟨_, r0, ⟨_, r0, ⟨_, r0, ⟨_, r0, trivial⟩⟩⟩⟩ ⟨m0, trivial⟩)
  rintro ⟨s4, A4_0, n4_0, c4_0, A4_3, n4_3, c4_3, _⟩ e4
  dsimp only at e4 ⊢
  subst e4
  have h := ho4
  refine wc_know (fun _ h => h.lenF m0) (fun e => ?_)
  subst e
  refine wc_know (fun _ h => h.lenO (ms (ms (ms m0)))) (fun e => ?_)
  subst e
  refine wc_seq ?_
  refine wc_region ?_   -- region 10
  refine wl_det rfl rfl (det_loadN (cells := [_, _]) rfl (ms (ms m0)) (by rfl) ag25 sz25) rfl ?_
  refine wl_act0 (act_store (cells := [_, _]) (cs' := [_, _]) rfl rfl rfl (ss s0) (by rfl) (of_decide_eq_true rfl) sz25 ⟨rfl, rfl, trivial⟩) rfl rfl ?_
  rintro _ _ _ ⟨rfl, rfl⟩
  refine wl_nil ?_
  refine pn_then ?_
  refine wc_ret ?_
  replace h := Option.some.inj h
  subst h
  refine pn_ret (vs := [_]) rfl ⟨⟨_, _, [_, _], rfl, (ms m0), .inl ⟨ag25, sz25, rfl⟩⟩, trivial⟩ ⟨A4_3, s4.2.2.2.length, c4_3, A4_0, s4.1.length, c4_0, rfl, rfl, rfl⟩ (fun _ h => h.to ⟨_, (rs (rs (rs r0))), ⟨_, r0, trivial⟩⟩ ⟨m0, trivial⟩)
def Q_amount_Valid (r : Bool) : Value → List Ent → List Fact → Prop := fun v θ κ => v = .bool r ∧ θ = [] ∧ κ = []
theorem plains_amount_Valid {r : Bool} : ∀ v θ κ, Q_amount_Valid r v θ κ → Plains θ := by
  rintro _ _ _ ⟨rfl, rfl, rfl⟩
  exact trivial
set_option maxHeartbeats 4000000 in
set_option maxRecDepth 100000 in
theorem W_amount_Valid (a0 : Int) (r : Bool) (h : amount_Valid a0 = some r) : Spec Try.prog 37 [.int .i64 a0] [] [] (Q_amount_Valid r) := by
  unfold amount_Valid at h
  refine spec_of (σ := [(0, _)]) Try.func37 rfl rfl rfl rfl ?_
  intro C
  refine wc_seq ?_
  refine wc_region ?_   -- region 0
  refine wl_det rfl rfl (det_assign rfl) rfl ?_
  refine wl_nil ?_
  refine pn_then ?_
  refine wc_seq ?_
  refine wc_region ?_   -- region 1
  refine wl_det rfl rfl (det_move rfl) rfl ?_
  refine wl_det rfl rfl (det_leq rfl rfl) rfl ?_
  refine wl_det rfl rfl (det_move rfl) rfl ?_
  refine wl_way (decide ((-17592186044416) ≤ a0)) ((decide ((-17592186044416) ≤ a0)) && (decide (a0 ≤ 17592186044416))) 3 8 (fun hg => ?_) (fun hg => ?_) ?_
  · have hg1_5 := hg
    refine wl_on rfl rfl rfl rfl hg1_5 ?_
    refine wl_det rfl rfl (det_move rfl) rfl ?_
    refine wl_on rfl rfl rfl rfl hg1_5 ?_
    refine wl_det rfl rfl (det_leq rfl rfl) rfl ?_
    refine wl_det rfl rfl (det_and_on rfl rfl rfl hg1_5) rfl ?_
    exact wl_nil (pn_qnE (ext_cons rfl (ext_skip rfl (ext_skip rfl (ext_skip rfl ext_refl)))) (fun _ h => h))
  · have hg1_5a := hg
    refine wl_off rfl rfl rfl rfl rfl hg1_5a rfl ?_
    refine wl_off rfl rfl rfl rfl rfl hg1_5a rfl ?_
    refine wl_det rfl rfl (det_and_off (q := (decide (a0 ≤ 17592186044416))) rfl rfl rfl hg1_5a) rfl ?_
    exact wl_nil (pn_qnE (ext_cons rfl (ext_skip rfl (ext_skip rfl (ext_skip rfl ext_refl)))) (fun _ h => h))
  refine wl_det rfl rfl (det_assign rfl) rfl ?_
  refine wl_nil ?_
  refine pn_then ?_
  refine wc_ret ?_
  replace h := Option.some.inj h
  subst h
  refine pn_ret (vs := [_]) rfl ⟨rfl, trivial⟩ ⟨rfl, rfl, rfl⟩ (fun _ h => h.to trivial trivial)
def Q_ledger_Valid (r : Bool) : Value → List Ent → List Fact → Prop := fun v θ κ => v = .bool r ∧ θ = [] ∧ κ = []
theorem plains_ledger_Valid {r : Bool} : ∀ v θ κ, Q_ledger_Valid r v θ κ → Plains θ := by
  rintro _ _ _ ⟨rfl, rfl, rfl⟩
  exact trivial
set_option maxHeartbeats 4000000 in
set_option maxRecDepth 100000 in
theorem W_ledger_Valid (a0 : GEntry) (r : Bool) (h : ledger_Valid a0 = some r) : Spec Try.prog 36 [.agg #[.int .i64 a0.Kind, .int .i64 a0.Treaty, .int .i64 a0.Party, .int .i64 a0.Loss, .int .i64 a0.Amount]] [] [] (Q_ledger_Valid r) := by
  unfold ledger_Valid at h
  refine spec_of (σ := [(0, _)]) Try.func36 rfl rfl rfl rfl ?_
  intro C
  refine wc_seq ?_
  refine wc_region ?_   -- region 0
  refine wl_act (act_box (cs := [_, _, _, _, _]) rfl rfl) rfl rfl rfl ?_
  rintro _ _ _ ⟨b0_0, rfl, rfl, rfl⟩
  refine wl_det rfl rfl (det_assign rfl) rfl ?_
  refine wl_nil ?_
  refine pn_then ?_
  refine wc_seq ?_
  refine wc_seq ?_
  refine wc_region ?_   -- region 1
  refine wl_det rfl rfl (det_field rfl fd43_0 rfl) rfl ?_
  refine wl_det rfl rfl (det_load rfl m0 (by rfl) na3 us3) rfl ?_
  refine wl_det rfl rfl (det_lss rfl rfl) rfl ?_
  refine wl_det rfl rfl (det_move rfl) rfl ?_
  refine wl_way (decide (a0.Kind < 1)) ((decide (a0.Kind < 1)) || (decide (5 < a0.Kind))) 4 10 (fun hg => ?_) (fun hg => ?_) ?_
  · have hg1_7 := hg
    refine wl_off rfl rfl rfl rfl rfl hg1_7 rfl ?_
    refine wl_off rfl rfl rfl rfl rfl hg1_7 rfl ?_
    refine wl_off rfl rfl rfl rfl rfl hg1_7 rfl ?_
    refine wl_det rfl rfl (det_or_on (r := (decide (5 < a0.Kind))) rfl rfl rfl hg1_7) rfl ?_
    exact wl_nil (pn_qnE (ext_cons rfl (ext_skip rfl (ext_skip rfl (ext_skip rfl (ext_skip rfl ext_refl))))) (fun _ h => h))
  · have hg1_7a := hg
    refine wl_on rfl rfl rfl rfl hg1_7a ?_
    refine wl_det rfl rfl (det_field rfl fd43_0 rfl) rfl ?_
    refine wl_on rfl rfl rfl rfl hg1_7a ?_
    refine wl_det rfl rfl (det_load rfl m0 (by rfl) na3 us3) rfl ?_
    refine wl_on rfl rfl rfl rfl hg1_7a ?_
    refine wl_det rfl rfl (det_gtr rfl rfl) rfl ?_
    refine wl_det rfl rfl (det_or_off rfl rfl rfl hg1_7a) rfl ?_
    exact wl_nil (pn_qnE (ext_cons rfl (ext_skip rfl (ext_skip rfl (ext_skip rfl (ext_skip rfl ext_refl))))) (fun _ h => h))
  refine wl_det rfl rfl (det_move rfl) rfl ?_
  refine wl_way ((decide (a0.Kind < 1)) || (decide (5 < a0.Kind))) (((decide (a0.Kind < 1)) || (decide (5 < a0.Kind))) || (decide (a0.Treaty < 0))) 4 15 (fun hg => ?_) (fun hg => ?_) ?_
  · have hg1_12 := hg
    refine wl_off rfl rfl rfl rfl rfl hg1_12 rfl ?_
    refine wl_off rfl rfl rfl rfl rfl hg1_12 rfl ?_
    refine wl_off rfl rfl rfl rfl rfl hg1_12 rfl ?_
    refine wl_det rfl rfl (det_or_on (r := (decide (a0.Treaty < 0))) rfl rfl rfl hg1_12) rfl ?_
    exact wl_nil (pn_qnE (ext_cons rfl (ext_skip rfl (ext_skip rfl (ext_skip rfl (ext_skip rfl ext_refl))))) (fun _ h => h))
  · have hg1_12a := hg
    refine wl_on rfl rfl rfl rfl hg1_12a ?_
    refine wl_det rfl rfl (det_field rfl fd43_1 rfl) rfl ?_
    refine wl_on rfl rfl rfl rfl hg1_12a ?_
    refine wl_det rfl rfl (det_load rfl m0 (by rfl) na3 us3) rfl ?_
    refine wl_on rfl rfl rfl rfl hg1_12a ?_
    refine wl_det rfl rfl (det_lss rfl rfl) rfl ?_
    refine wl_det rfl rfl (det_or_off rfl rfl rfl hg1_12a) rfl ?_
    exact wl_nil (pn_qnE (ext_cons rfl (ext_skip rfl (ext_skip rfl (ext_skip rfl (ext_skip rfl ext_refl))))) (fun _ h => h))
  refine wl_det rfl rfl (det_move rfl) rfl ?_
  refine wl_way (((decide (a0.Kind < 1)) || (decide (5 < a0.Kind))) || (decide (a0.Treaty < 0))) ((((decide (a0.Kind < 1)) || (decide (5 < a0.Kind))) || (decide (a0.Treaty < 0))) || (decide (1048576 < a0.Treaty))) 4 20 (fun hg => ?_) (fun hg => ?_) ?_
  · have hg1_17 := hg
    refine wl_off rfl rfl rfl rfl rfl hg1_17 rfl ?_
    refine wl_off rfl rfl rfl rfl rfl hg1_17 rfl ?_
    refine wl_off rfl rfl rfl rfl rfl hg1_17 rfl ?_
    refine wl_det rfl rfl (det_or_on (r := (decide (1048576 < a0.Treaty))) rfl rfl rfl hg1_17) rfl ?_
    exact wl_nil (pn_qnE (ext_cons rfl (ext_skip rfl (ext_skip rfl (ext_skip rfl (ext_skip rfl ext_refl))))) (fun _ h => h))
  · have hg1_17a := hg
    refine wl_on rfl rfl rfl rfl hg1_17a ?_
    refine wl_det rfl rfl (det_field rfl fd43_1 rfl) rfl ?_
    refine wl_on rfl rfl rfl rfl hg1_17a ?_
    refine wl_det rfl rfl (det_load rfl m0 (by rfl) na3 us3) rfl ?_
    refine wl_on rfl rfl rfl rfl hg1_17a ?_
    refine wl_det rfl rfl (det_gtr rfl rfl) rfl ?_
    refine wl_det rfl rfl (det_or_off rfl rfl rfl hg1_17a) rfl ?_
    exact wl_nil (pn_qnE (ext_cons rfl (ext_skip rfl (ext_skip rfl (ext_skip rfl (ext_skip rfl ext_refl))))) (fun _ h => h))
  refine wl_nil ?_
  refine pn_then ?_
  refine wc_cond rfl (fun cd5 => ?_) (fun cd5 => ?_)
  · have h := ifT h cd5
    refine wc_seq ?_
    refine wc_region ?_   -- region 2
    refine wl_det rfl rfl (det_assign rfl) rfl ?_
    refine wl_nil ?_
    refine pn_then ?_
    refine wc_ret ?_
    refine pr_then ?_
    replace h := Option.some.inj h
    subst h
    refine pn_ret (vs := [_]) rfl ⟨rfl, trivial⟩ ⟨rfl, rfl, rfl⟩ (fun _ h => h.to trivial trivial)
  · have h := ifF h cd5
    refine wc_skip ?_
    refine pn_then ?_
    refine wc_seq ?_
    refine wc_seq ?_
    refine wc_region ?_   -- region 3
    refine wl_det rfl rfl (det_field rfl fd43_2 rfl) rfl ?_
    refine wl_det rfl rfl (det_load rfl m0 (by rfl) na3 us3) rfl ?_
    refine wl_det rfl rfl (det_lss rfl rfl) rfl ?_
    refine wl_det rfl rfl (det_move rfl) rfl ?_
    refine wl_way (decide (a0.Party < 0)) ((decide (a0.Party < 0)) || (decide (15 < a0.Party))) 4 28 (fun hg => ?_) (fun hg => ?_) ?_
    · have hg3_7 := hg
      refine wl_off rfl rfl rfl rfl rfl hg3_7 rfl ?_
      refine wl_off rfl rfl rfl rfl rfl hg3_7 rfl ?_
      refine wl_off rfl rfl rfl rfl rfl hg3_7 rfl ?_
      refine wl_det rfl rfl (det_or_on (r := (decide (15 < a0.Party))) rfl rfl rfl hg3_7) rfl ?_
      exact wl_nil (pn_qnE (ext_cons rfl (ext_skip rfl (ext_skip rfl (ext_skip rfl (ext_skip rfl ext_refl))))) (fun _ h => h))
    · have hg3_7a := hg
      refine wl_on rfl rfl rfl rfl hg3_7a ?_
      refine wl_det rfl rfl (det_field rfl fd43_2 rfl) rfl ?_
      refine wl_on rfl rfl rfl rfl hg3_7a ?_
      refine wl_det rfl rfl (det_load rfl m0 (by rfl) na3 us3) rfl ?_
      refine wl_on rfl rfl rfl rfl hg3_7a ?_
      refine wl_det rfl rfl (det_gtr rfl rfl) rfl ?_
      refine wl_det rfl rfl (det_or_off rfl rfl rfl hg3_7a) rfl ?_
      exact wl_nil (pn_qnE (ext_cons rfl (ext_skip rfl (ext_skip rfl (ext_skip rfl (ext_skip rfl ext_refl))))) (fun _ h => h))
    refine wl_det rfl rfl (det_move rfl) rfl ?_
    obtain ⟨q3_13, hq3_13, h⟩ := bind_some h
    have ho3_13 := h
    refine wl_way ((decide (a0.Party < 0)) || (decide (15 < a0.Party))) q3_13 5 34 (fun hg => ?_) (fun hg => ?_) ?_
    · have hg3_13 := hg
      have h := ifT hq3_13 hg
      refine wl_off rfl rfl rfl rfl rfl hg3_13 rfl ?_
      refine wl_off rfl rfl rfl rfl rfl hg3_13 rfl ?_
      refine wl_off rfl rfl rfl rfl rfl hg3_13 rfl ?_
      refine wl_off rfl rfl rfl rfl rfl hg3_13 rfl ?_
      replace h := Option.some.inj h
      subst h
      refine wl_det rfl rfl (det_pick_on rfl hg3_13 rfl rfl) rfl ?_
      exact wl_nil (pn_qnE (ext_cons rfl (ext_skip rfl (ext_skip rfl (ext_skip rfl (ext_skip rfl (ext_skip rfl ext_refl)))))) (fun _ h => h))
    · have hg3_13a := hg
      have h := ifF hq3_13 hg
      refine wl_on rfl rfl rfl rfl hg3_13a ?_
      refine wl_det rfl rfl (det_field rfl fd43_4 rfl) rfl ?_
      refine wl_on rfl rfl rfl rfl hg3_13a ?_
      refine wl_det rfl rfl (det_load rfl m0 (by rfl) na3 us3) rfl ?_
      refine wl_on rfl rfl rfl rfl hg3_13a ?_
      obtain ⟨r3_11, hr3_11, h⟩ := bind_some h
      refine wl_act (act_callS (cap := []) (W_amount_Valid a0.Amount r3_11 hr3_11) rfl rfl rfl bd37 rfl trivial) rfl rfl rfl ?_
      rintro _ _ _ ⟨_, _, ⟨rfl, rfl, rfl⟩, rfl, rfl⟩
      dsimp only [List.nil_append, List.cons_append]
      refine wl_on rfl rfl rfl rfl hg3_13a ?_
      refine wl_det rfl rfl (det_not rfl) rfl ?_
      replace h := Option.some.inj h
      subst h
      refine wl_det rfl rfl (det_pick_off rfl hg3_13a rfl rfl) rfl ?_
      exact wl_nil (pn_qnE (ext_cons rfl (ext_skip rfl (ext_skip rfl (ext_skip rfl (ext_skip rfl (ext_skip rfl ext_refl)))))) (fun _ h => h))
    have h := ho3_13
    refine wl_nil ?_
    refine pn_then ?_
    refine wc_cond rfl (fun cd11 => ?_) (fun cd11 => ?_)
    · have h := ifT h cd11
      refine wc_seq ?_
      refine wc_region ?_   -- region 4
      refine wl_det rfl rfl (det_assign rfl) rfl ?_
      refine wl_nil ?_
      refine pn_then ?_
      refine wc_ret ?_
      refine pr_then ?_
      replace h := Option.some.inj h
      subst h
      refine pn_ret (vs := [_]) rfl ⟨rfl, trivial⟩ ⟨rfl, rfl, rfl⟩ (fun _ h => h.to trivial trivial)
    · have h := ifF h cd11
      refine wc_skip ?_
      refine pn_then ?_
      refine wc_seq ?_
      refine wc_seq ?_
      refine wc_region ?_   -- region 5
      refine wl_det rfl rfl (det_field rfl fd43_0 rfl) rfl ?_
      refine wl_det rfl rfl (det_load rfl m0 (by rfl) na3 us3) rfl ?_
      refine wl_det rfl rfl (det_eql rfl rfl) rfl ?_
      refine wl_det rfl rfl (det_move rfl) rfl ?_
      refine wl_way (decide (a0.Kind = 1)) ((decide (a0.Kind = 1)) || (decide (a0.Kind = 2))) 4 42 (fun hg => ?_) (fun hg => ?_) ?_
      · have hg5_7 := hg
        refine wl_off rfl rfl rfl rfl rfl hg5_7 rfl ?_
        refine wl_off rfl rfl rfl rfl rfl hg5_7 rfl ?_
        refine wl_off rfl rfl rfl rfl rfl hg5_7 rfl ?_
        refine wl_det rfl rfl (det_or_on (r := (decide (a0.Kind = 2))) rfl rfl rfl hg5_7) rfl ?_
        exact wl_nil (pn_qnE (ext_cons rfl (ext_skip rfl (ext_skip rfl (ext_skip rfl (ext_skip rfl ext_refl))))) (fun _ h => h))
      · have hg5_7a := hg
        refine wl_on rfl rfl rfl rfl hg5_7a ?_
        refine wl_det rfl rfl (det_field rfl fd43_0 rfl) rfl ?_
        refine wl_on rfl rfl rfl rfl hg5_7a ?_
        refine wl_det rfl rfl (det_load rfl m0 (by rfl) na3 us3) rfl ?_
        refine wl_on rfl rfl rfl rfl hg5_7a ?_
        refine wl_det rfl rfl (det_eql rfl rfl) rfl ?_
        refine wl_det rfl rfl (det_or_off rfl rfl rfl hg5_7a) rfl ?_
        exact wl_nil (pn_qnE (ext_cons rfl (ext_skip rfl (ext_skip rfl (ext_skip rfl (ext_skip rfl ext_refl))))) (fun _ h => h))
      refine wl_nil ?_
      refine pn_then ?_
      refine wc_cond rfl (fun cd17 => ?_) (fun cd17 => ?_)
      · have h := ifT h cd17
        refine wc_seq ?_
        refine wc_region ?_   -- region 6
        refine wl_det rfl rfl (det_field rfl fd43_3 rfl) rfl ?_
        refine wl_det rfl rfl (det_load rfl m0 (by rfl) na3 us3) rfl ?_
        refine wl_det rfl rfl (det_leq rfl rfl) rfl ?_
        refine wl_det rfl rfl (det_move rfl) rfl ?_
        refine wl_way (decide (1 ≤ a0.Loss)) ((decide (1 ≤ a0.Loss)) && (decide (a0.Loss ≤ 1048576))) 4 50 (fun hg => ?_) (fun hg => ?_) ?_
        · have hg6_7 := hg
          refine wl_on rfl rfl rfl rfl hg6_7 ?_
          refine wl_det rfl rfl (det_field rfl fd43_3 rfl) rfl ?_
          refine wl_on rfl rfl rfl rfl hg6_7 ?_
          refine wl_det rfl rfl (det_load rfl m0 (by rfl) na3 us3) rfl ?_
          refine wl_on rfl rfl rfl rfl hg6_7 ?_
          refine wl_det rfl rfl (det_leq rfl rfl) rfl ?_
          refine wl_det rfl rfl (det_and_on rfl rfl rfl hg6_7) rfl ?_
          exact wl_nil (pn_qnE (ext_cons rfl (ext_skip rfl (ext_skip rfl (ext_skip rfl (ext_skip rfl ext_refl))))) (fun _ h => h))
        · have hg6_7a := hg
          refine wl_off rfl rfl rfl rfl rfl hg6_7a rfl ?_
          refine wl_off rfl rfl rfl rfl rfl hg6_7a rfl ?_
          refine wl_off rfl rfl rfl rfl rfl hg6_7a rfl ?_
          refine wl_det rfl rfl (det_and_off (q := (decide (a0.Loss ≤ 1048576))) rfl rfl rfl hg6_7a) rfl ?_
          exact wl_nil (pn_qnE (ext_cons rfl (ext_skip rfl (ext_skip rfl (ext_skip rfl (ext_skip rfl ext_refl))))) (fun _ h => h))
        refine wl_det rfl rfl (det_assign rfl) rfl ?_
        refine wl_nil ?_
        refine pn_then ?_
        refine wc_ret ?_
        refine pr_then ?_
        replace h := Option.some.inj h
        subst h
        refine pn_ret (vs := [_]) rfl ⟨rfl, trivial⟩ ⟨rfl, rfl, rfl⟩ (fun _ h => h.to trivial trivial)
      · have h := ifF h cd17
        refine wc_skip ?_
        refine pn_then ?_
        refine wc_seq ?_
        refine wc_region ?_   -- region 7
        refine wl_det rfl rfl (det_field rfl fd43_3 rfl) rfl ?_
        refine wl_det rfl rfl (det_load rfl m0 (by rfl) na3 us3) rfl ?_
        refine wl_det rfl rfl (det_eql rfl rfl) rfl ?_
        refine wl_det rfl rfl (det_assign rfl) rfl ?_
        refine wl_nil ?_
        refine pn_then ?_
        refine wc_ret ?_
        replace h := Option.some.inj h
        subst h
        refine pn_ret (vs := [_]) rfl ⟨rfl, trivial⟩ ⟨rfl, rfl, rfl⟩ (fun _ h => h.to trivial trivial)
end Go.Proofs.Ytdenliplkmjmjaa
