/- That functions of the program compute the plain programs of P. Written by a small program. -/
import Derived.Test.YtlmhmpngjfjfhaaKTab
import Derived.Test.YtlmhmpngjfjfhaaP
import Derived.Test.YtlmhmpngjfjfhaaKArr2
import Derived.Test.YtlmhmpngjfjfhaaKSort
import Derived.Test.YtlmhmpngjfjfhaaSort86
import Derived.Test.YtlmhmpngjfjfhaaKBits
import Derived.Test.YtlmhmpngjfjfhaaBits
namespace Go.Proofs.Ytlmhmpngjfjfhaa
open Go.RowKit
def lGDeck : Lay GDeck := lMap (fun x => (x.L, x.At)) (lPair (lSlice (lInt .i64)) (lInt .i64))
theorem viewGDeck {w : World} {S : Nat → Prop} {cs : List Value} {x : GDeck} (h : lGDeck.R w S cs x) : ∃ A0 c0, cs = [.slice A0 x.L.length c0, .int .i64 x.At] ∧ AllR w S [fV (lSlice (lInt .i64)) (.slice A0 x.L.length c0) x.L] := by
  obtain ⟨_, _, rfl, ⟨A0, _, c0, rfl, rfl, l0, e0⟩, rfl⟩ := h
  exact ⟨A0, c0, rfl, ⟨⟨_, _, _, rfl, rfl, l0, e0⟩, trivial⟩⟩
theorem mkGDeck {w : World} {S : Nat → Prop} {x : GDeck} {A0 : Option Addr} {n0 c0 : Nat}  (h : AllR w S [fV (lSlice (lInt .i64)) (.slice A0 n0 c0) x.L]) : lGDeck.R w S [.slice A0 n0 c0, .int .i64 x.At] x := by
  obtain ⟨k0, _⟩ := h
  exact ⟨_, _, rfl, k0, rfl⟩
def encGPart (x : GPart) : List Value := [.int .i64 x.Party, .int .i64 x.Share]
def lGPart : Lay GPart := lFlat encGPart 2 (fun _ => rfl) (fun _ u hu => by simp only [encGPart, List.mem_cons, List.not_mem_nil, or_false] at hu; rcases hu with rfl | rfl <;> rfl)
def encGPeriod (x : GPeriod) : List Value := [.int .i64 x.From, .int .i64 x.To]
def lGPeriod : Lay GPeriod := lFlat encGPeriod 2 (fun _ => rfl) (fun _ u hu => by simp only [encGPeriod, List.mem_cons, List.not_mem_nil, or_false] at hu; rcases hu with rfl | rfl <;> rfl)
def lGTreaty : Lay GTreaty := lMap (fun x => (x.ID, (x.Kind, (x.Period, (x.Perils, (x.Areas, (x.Risk, (x.Cession, (x.Line, (x.Lines, (x.Retention, (x.Limit, (x.Window, (x.Deductible, (x.Aggregate, (x.Premium, (x.Reinstatements, (x.Timed, (x.Base, (x.Inures, x.Parts)))))))))))))))))))) (lPair (lInt .i64) (lPair (lInt .i64) (lPair lGPeriod (lPair (lSlice (lInt .i64)) (lPair (lSlice (lInt .i64)) (lPair (lInt .i64) (lPair (lInt .i64) (lPair (lInt .i64) (lPair (lInt .i64) (lPair (lInt .i64) (lPair (lInt .i64) (lPair (lInt .i64) (lPair (lInt .i64) (lPair (lInt .i64) (lPair (lInt .i64) (lPair (lSlice (lInt .i64)) (lPair lBool (lPair (lInt .i64) (lPair (lSlice (lInt .i64)) (lSlice lGPart))))))))))))))))))))
theorem viewGTreaty {w : World} {S : Nat → Prop} {cs : List Value} {x : GTreaty} (h : lGTreaty.R w S cs x) : ∃ A0 c0 A1 c1 A2 c2 A3 c3 A4 c4, cs = [.int .i64 x.ID, .int .i64 x.Kind, .int .i64 x.Period.From, .int .i64 x.Period.To, .slice A0 x.Perils.length c0, .slice A1 x.Areas.length c1, .int .i64 x.Risk, .int .i64 x.Cession, .int .i64 x.Line, .int .i64 x.Lines, .int .i64 x.Retention, .int .i64 x.Limit, .int .i64 x.Window, .int .i64 x.Deductible, .int .i64 x.Aggregate, .int .i64 x.Premium, .slice A2 x.Reinstatements.length c2, .bool x.Timed, .int .i64 x.Base, .slice A3 x.Inures.length c3, .slice A4 x.Parts.length c4] ∧ AllR w S [fV (lSlice (lInt .i64)) (.slice A0 x.Perils.length c0) x.Perils, fV (lSlice (lInt .i64)) (.slice A1 x.Areas.length c1) x.Areas, fV (lSlice (lInt .i64)) (.slice A2 x.Reinstatements.length c2) x.Reinstatements, fV (lSlice (lInt .i64)) (.slice A3 x.Inures.length c3) x.Inures, fV (lSlice lGPart) (.slice A4 x.Parts.length c4) x.Parts] := by
  obtain ⟨_, _, rfl, rfl, ⟨_, _, rfl, rfl, ⟨_, _, rfl, rfl, ⟨_, _, rfl, ⟨A0, _, c0, rfl, rfl, l0, e0⟩, ⟨_, _, rfl, ⟨A1, _, c1, rfl, rfl, l1, e1⟩, ⟨_, _, rfl, rfl, ⟨_, _, rfl, rfl, ⟨_, _, rfl, rfl, ⟨_, _, rfl, rfl, ⟨_, _, rfl, rfl, ⟨_, _, rfl, rfl, ⟨_, _, rfl, rfl, ⟨_, _, rfl, rfl, ⟨_, _, rfl, rfl, ⟨_, _, rfl, rfl, ⟨_, _, rfl, ⟨A2, _, c2, rfl, rfl, l2, e2⟩, ⟨_, _, rfl, rfl, ⟨_, _, rfl, rfl, ⟨_, _, rfl, ⟨A3, _, c3, rfl, rfl, l3, e3⟩, ⟨A4, _, c4, rfl, rfl, l4, e4⟩⟩⟩⟩⟩⟩⟩⟩⟩⟩⟩⟩⟩⟩⟩⟩⟩⟩⟩⟩ := h
  exact ⟨A0, c0, A1, c1, A2, c2, A3, c3, A4, c4, rfl, ⟨⟨_, _, _, rfl, rfl, l0, e0⟩, ⟨_, _, _, rfl, rfl, l1, e1⟩, ⟨_, _, _, rfl, rfl, l2, e2⟩, ⟨_, _, _, rfl, rfl, l3, e3⟩, ⟨_, _, _, rfl, rfl, l4, e4⟩, trivial⟩⟩
theorem mkGTreaty {w : World} {S : Nat → Prop} {x : GTreaty} {A0 A1 A2 A3 A4 : Option Addr} {n0 n1 n2 n3 n4 c0 c1 c2 c3 c4 : Nat}  (h : AllR w S [fV (lSlice (lInt .i64)) (.slice A0 n0 c0) x.Perils, fV (lSlice (lInt .i64)) (.slice A1 n1 c1) x.Areas, fV (lSlice (lInt .i64)) (.slice A2 n2 c2) x.Reinstatements, fV (lSlice (lInt .i64)) (.slice A3 n3 c3) x.Inures, fV (lSlice lGPart) (.slice A4 n4 c4) x.Parts]) : lGTreaty.R w S [.int .i64 x.ID, .int .i64 x.Kind, .int .i64 x.Period.From, .int .i64 x.Period.To, .slice A0 n0 c0, .slice A1 n1 c1, .int .i64 x.Risk, .int .i64 x.Cession, .int .i64 x.Line, .int .i64 x.Lines, .int .i64 x.Retention, .int .i64 x.Limit, .int .i64 x.Window, .int .i64 x.Deductible, .int .i64 x.Aggregate, .int .i64 x.Premium, .slice A2 n2 c2, .bool x.Timed, .int .i64 x.Base, .slice A3 n3 c3, .slice A4 n4 c4] x := by
  obtain ⟨k0, k1, k2, k3, k4, _⟩ := h
  exact ⟨_, _, rfl, rfl, ⟨_, _, rfl, rfl, ⟨_, _, rfl, rfl, ⟨_, _, rfl, k0, ⟨_, _, rfl, k1, ⟨_, _, rfl, rfl, ⟨_, _, rfl, rfl, ⟨_, _, rfl, rfl, ⟨_, _, rfl, rfl, ⟨_, _, rfl, rfl, ⟨_, _, rfl, rfl, ⟨_, _, rfl, rfl, ⟨_, _, rfl, rfl, ⟨_, _, rfl, rfl, ⟨_, _, rfl, rfl, ⟨_, _, rfl, k2, ⟨_, _, rfl, rfl, ⟨_, _, rfl, rfl, ⟨_, _, rfl, k3, k4⟩⟩⟩⟩⟩⟩⟩⟩⟩⟩⟩⟩⟩⟩⟩⟩⟩⟩⟩
def encGspan (x : Gspan) : List Value := [.int .i64 x.low, .int .i64 x.high]
def lGspan : Lay Gspan := lFlat encGspan 2 (fun _ => rfl) (fun _ u hu => by simp only [encGspan, List.mem_cons, List.not_mem_nil, or_false] at hu; rcases hu with rfl | rfl <;> rfl)
def encGCession (x : GCession) : List Value := [.int .i64 x.Ceded, .int .i64 x.Kept, .int .i64 x.Excess]
def lGCession : Lay GCession := lFlat encGCession 3 (fun _ => rfl) (fun _ u hu => by simp only [encGCession, List.mem_cons, List.not_mem_nil, or_false] at hu; rcases hu with rfl | rfl | rfl <;> rfl)
theorem openGDeck {C : Cx} {η : List Ent} {ι : List Fact} {w : World} {A : Option Addr} {m c : Nat} {xs : List GDeck} (h : St C η ι w) (hf : fV (lSlice lGDeck) (.slice A m c) xs ∈ ι) {i : Int} (hi : inb xs i = true) : ∃ g : Option Addr × Nat, True ∧ St C η (fPt A (i.toNat * 2) [.slice g.1 (ix xs i).L.length g.2, .int .i64 (ix xs i).At] :: fV (lSlice (lInt .i64)) (.slice g.1 (ix xs i).L.length g.2) (ix xs i).L :: ι) w := by
  obtain ⟨cs, hs⟩ := h.openE hf hi
  obtain ⟨A0, c0, rfl, hr⟩ := viewGDeck (hs.facts _ (ms m0))
  exact ⟨(A0, c0), trivial, (hs.addR hr).subFacts (sub_mid (κ := [_]))⟩
theorem openGTreaty {C : Cx} {η : List Ent} {ι : List Fact} {w : World} {A : Option Addr} {m c : Nat} {xs : List GTreaty} (h : St C η ι w) (hf : fV (lSlice lGTreaty) (.slice A m c) xs ∈ ι) {i : Int} (hi : inb xs i = true) : ∃ g : Option Addr × Nat × Option Addr × Nat × Option Addr × Nat × Option Addr × Nat × Option Addr × Nat, True ∧ St C η (fPt A (i.toNat * 21) [.int .i64 (ix xs i).ID, .int .i64 (ix xs i).Kind, .int .i64 (ix xs i).Period.From, .int .i64 (ix xs i).Period.To, .slice g.1 (ix xs i).Perils.length g.2.1, .slice g.2.2.1 (ix xs i).Areas.length g.2.2.2.1, .int .i64 (ix xs i).Risk, .int .i64 (ix xs i).Cession, .int .i64 (ix xs i).Line, .int .i64 (ix xs i).Lines, .int .i64 (ix xs i).Retention, .int .i64 (ix xs i).Limit, .int .i64 (ix xs i).Window, .int .i64 (ix xs i).Deductible, .int .i64 (ix xs i).Aggregate, .int .i64 (ix xs i).Premium, .slice g.2.2.2.2.1 (ix xs i).Reinstatements.length g.2.2.2.2.2.1, .bool (ix xs i).Timed, .int .i64 (ix xs i).Base, .slice g.2.2.2.2.2.2.1 (ix xs i).Inures.length g.2.2.2.2.2.2.2.1, .slice g.2.2.2.2.2.2.2.2.1 (ix xs i).Parts.length g.2.2.2.2.2.2.2.2.2] :: fV (lSlice (lInt .i64)) (.slice g.1 (ix xs i).Perils.length g.2.1) (ix xs i).Perils :: fV (lSlice (lInt .i64)) (.slice g.2.2.1 (ix xs i).Areas.length g.2.2.2.1) (ix xs i).Areas :: fV (lSlice (lInt .i64)) (.slice g.2.2.2.2.1 (ix xs i).Reinstatements.length g.2.2.2.2.2.1) (ix xs i).Reinstatements :: fV (lSlice (lInt .i64)) (.slice g.2.2.2.2.2.2.1 (ix xs i).Inures.length g.2.2.2.2.2.2.2.1) (ix xs i).Inures :: fV (lSlice lGPart) (.slice g.2.2.2.2.2.2.2.2.1 (ix xs i).Parts.length g.2.2.2.2.2.2.2.2.2) (ix xs i).Parts :: ι) w := by
  obtain ⟨cs, hs⟩ := h.openE hf hi
  obtain ⟨A0, c0, A1, c1, A2, c2, A3, c3, A4, c4, rfl, hr⟩ := viewGTreaty (hs.facts _ (ms m0))
  exact ⟨(A0, c0, A1, c1, A2, c2, A3, c3, A4, c4), trivial, (hs.addR hr).subFacts (sub_mid (κ := [_, _, _, _, _]))⟩
theorem bd13 : bodyB Try.prog 13 = true := by kernel_rfl
theorem bd16 : bodyB Try.prog 16 = true := by kernel_rfl
theorem bd17 : bodyB Try.prog 17 = true := by kernel_rfl
theorem bd19 : bodyB Try.prog 19 = true := by kernel_rfl
theorem bd20 : bodyB Try.prog 20 = true := by kernel_rfl
theorem bd28 : bodyB Try.prog 28 = true := by kernel_rfl
theorem bd30 : bodyB Try.prog 30 = true := by kernel_rfl
theorem bd31 : bodyB Try.prog 31 = true := by kernel_rfl
theorem bd32 : bodyB Try.prog 32 = true := by kernel_rfl
theorem bd33 : bodyB Try.prog 33 = true := by kernel_rfl
theorem bd34 : bodyB Try.prog 34 = true := by kernel_rfl
theorem bd35 : bodyB Try.prog 35 = true := by kernel_rfl
theorem bd37 : bodyB Try.prog 37 = true := by kernel_rfl
theorem bd38 : bodyB Try.prog 38 = true := by kernel_rfl
theorem bd39 : bodyB Try.prog 39 = true := by kernel_rfl
theorem bd45 : bodyB Try.prog 45 = true := by kernel_rfl
theorem bd46 : bodyB Try.prog 46 = true := by kernel_rfl
theorem bd47 : bodyB Try.prog 47 = true := by kernel_rfl
theorem bd48 : bodyB Try.prog 48 = true := by kernel_rfl
theorem bd50 : bodyB Try.prog 50 = true := by kernel_rfl
theorem bd51 : bodyB Try.prog 51 = true := by kernel_rfl
theorem bd52 : bodyB Try.prog 52 = true := by kernel_rfl
theorem bd55 : bodyB Try.prog 55 = true := by kernel_rfl
theorem bd56 : bodyB Try.prog 56 = true := by kernel_rfl
theorem bd57 : bodyB Try.prog 57 = true := by kernel_rfl
theorem bd58 : bodyB Try.prog 58 = true := by kernel_rfl
theorem bd59 : bodyB Try.prog 59 = true := by kernel_rfl
theorem bd60 : bodyB Try.prog 60 = true := by kernel_rfl
theorem bd61 : bodyB Try.prog 61 = true := by kernel_rfl
theorem bd62 : bodyB Try.prog 62 = true := by kernel_rfl
theorem bd64 : bodyB Try.prog 64 = true := by kernel_rfl
theorem bd65 : bodyB Try.prog 65 = true := by kernel_rfl
theorem bd66 : bodyB Try.prog 66 = true := by kernel_rfl
theorem bd67 : bodyB Try.prog 67 = true := by kernel_rfl
theorem bd68 : bodyB Try.prog 68 = true := by kernel_rfl
theorem bd69 : bodyB Try.prog 69 = true := by kernel_rfl
theorem bd70 : bodyB Try.prog 70 = true := by kernel_rfl
theorem bd72 : bodyB Try.prog 72 = true := by kernel_rfl
theorem bd73 : bodyB Try.prog 73 = true := by kernel_rfl
theorem bd74 : bodyB Try.prog 74 = true := by kernel_rfl
theorem bd75 : bodyB Try.prog 75 = true := by kernel_rfl
theorem bd76 : bodyB Try.prog 76 = true := by kernel_rfl
theorem bd77 : bodyB Try.prog 77 = true := by kernel_rfl
theorem bd78 : bodyB Try.prog 78 = true := by kernel_rfl
theorem bd79 : bodyB Try.prog 79 = true := by kernel_rfl
theorem bd80 : bodyB Try.prog 80 = true := by kernel_rfl
theorem bd81 : bodyB Try.prog 81 = true := by kernel_rfl
theorem bd82 : bodyB Try.prog 82 = true := by kernel_rfl
theorem bd83 : bodyB Try.prog 83 = true := by kernel_rfl
theorem bd84 : bodyB Try.prog 84 = true := by kernel_rfl
theorem bd85 : bodyB Try.prog 85 = true := by kernel_rfl
theorem bd86 : bodyB Try.prog 86 = true := by kernel_rfl
theorem bd87 : bodyB Try.prog 87 = true := by kernel_rfl
theorem bd88 : bodyB Try.prog 88 = true := by kernel_rfl
theorem bd89 : bodyB Try.prog 89 = true := by kernel_rfl
theorem bd90 : bodyB Try.prog 90 = true := by kernel_rfl
def Q_treatymade_New (r : GDeck) : Value → List Ent → List Fact → Prop := fun v θ κ => ∃ (pb0 : Nat), ∃ (pA1 : Option Addr), ∃ (pn1 : Nat), ∃ (pc1 : Nat), v = .pointer (some ⟨pb0, 0, none⟩) ∧ θ = [eBlk pb0 71 [.slice pA1 pn1 pc1, .int .i64 r.At]] ∧ κ = [fV (lSlice (lInt .i64)) (.slice pA1 pn1 pc1) r.L]
set_option maxHeartbeats 4000000 in
set_option maxRecDepth 100000 in
theorem W_treatymade_New (a0 : (List Int)) (A0 : Option Addr) (n0 : Nat) (c0 : Nat) (r : GDeck) (h : treatymade_New a0 = some r) : Spec Try.prog 16 [.slice A0 n0 c0] [] [fV (lSlice (lInt .i64)) (.slice A0 n0 c0) a0] (Q_treatymade_New r) := by
  unfold treatymade_New at h
  refine spec_of (σ := [(0, _)]) Try.func16 rfl rfl rfl rfl ?_
  intro C
  refine wc_know (fun _ h => h.lenF m0) (fun e => ?_)
  subst e
  refine wc_seq ?_
  refine wc_region ?_   -- region 0
  refine wl_det rfl rfl (det_assign rfl) rfl ?_
  refine wl_nil ?_
  refine pn_then ?_
  refine wc_seq ?_
  refine wc_region ?_   -- region 1
  refine wl_det rfl rfl (det_move rfl) rfl ?_
  refine wl_det rfl rfl (det_build (cs := [_, _]) pl71 zr71 rfl rfl (by rfl)) rfl ?_
  refine wl_act (act_box (cs := [_, _]) rfl rfl) rfl rfl rfl ?_
  rintro _ _ _ ⟨b1_2, rfl, rfl, rfl⟩
  refine wl_det rfl rfl (det_assign rfl) rfl ?_
  refine wl_nil ?_
  refine pn_then ?_
  refine wc_ret ?_
  replace h := Option.some.inj h
  subst h
  refine pn_ret (vs := [_]) rfl ⟨rfl, trivial⟩ ⟨b1_2, A0, a0.length, c0, rfl, rfl, rfl⟩ (fun _ h => h.to ⟨_, r0, trivial⟩ ⟨m0, trivial⟩)
def Q_treatymade_Deck_Next (Ba0 : Nat) (r : Int × GDeck) : Value → List Ent → List Fact → Prop := fun v θ κ => ∃ (pA0 : Option Addr), ∃ (pn0 : Nat), ∃ (pc0 : Nat), v = .int .i64 r.1 ∧ θ = [eBlk Ba0 71 [.slice pA0 pn0 pc0, .int .i64 r.2.At]] ∧ κ = [fV (lSlice (lInt .i64)) (.slice pA0 pn0 pc0) r.2.L]
set_option maxHeartbeats 4000000 in
set_option maxRecDepth 100000 in
theorem W_treatymade_Deck_Next (a0 : GDeck) (a1 : Int) (Ba0 : Nat) (A1 : Option Addr) (n1 : Nat) (c1 : Nat) (r : Int × GDeck) (h : treatymade_Deck_Next a0 a1 = some r) : Spec Try.prog 45 [.pointer (some ⟨Ba0, 0, none⟩), .int .i64 a1] [eBlk Ba0 71 [.slice A1 n1 c1, .int .i64 a0.At]] [fV (lSlice (lInt .i64)) (.slice A1 n1 c1) a0.L] (Q_treatymade_Deck_Next Ba0 r) := by
  unfold treatymade_Deck_Next at h
  refine spec_of (σ := [(0, _), (1, _)]) Try.func45 rfl rfl rfl rfl ?_
  intro C
  refine wc_know (fun _ h => h.lenF m0) (fun e => ?_)
  subst e
  refine wc_seq ?_
  refine wc_region ?_   -- region 0
  refine wl_det rfl rfl (det_assign rfl) rfl ?_
  refine wl_nil ?_
  refine pn_then ?_
  refine wc_seq ?_
  refine wc_seq ?_
  refine dx_region 10 [[], [0], [0, 1], [0, 1, 2], [], [4], [4, 5], [4, 5, 6], [4, 5, 6, 7], [0, 1, 2, 3, 4, 5, 6, 7, 8]] mixed (ord := (.det 0 (.det 1 (.det 2 (.det 3 (.det 4 (.det 5 (.det 6 (.det 7 (.det 8 (.det 9 .done))))))))))) (by kernel_rfl) ?_   -- region 1
  refine hx_det rfl rfl rfl nofun (det_move rfl) rfl ?_
  refine hx_det rfl rfl rfl nofun (det_nilCheckB rfl) rfl ?_
  refine hx_det rfl rfl rfl nofun (det_field rfl fd71_1 rfl) rfl ?_
  refine hx_det rfl rfl rfl nofun (det_load rfl m0 (by rfl) na3 us3) rfl ?_
  refine hx_det rfl rfl rfl nofun (det_move rfl) rfl ?_
  refine hx_det rfl rfl rfl nofun (det_nilCheckB rfl) rfl ?_
  refine hx_det rfl rfl rfl nofun (det_field rfl fd71_0 rfl) rfl ?_
  refine hx_det rfl rfl rfl nofun (det_load rfl m0 (by rfl) na23 us23) rfl ?_
  refine hx_det rfl rfl rfl nofun (det_len rfl un23) rfl ?_
  refine hx_det rfl rfl rfl nofun (det_geq rfl rfl) rfl ?_
  refine hx_end ?_
  refine wl_nil ?_
  refine pn_then ?_
  refine wc_cond rfl (fun cd5 => ?_) (fun cd5 => ?_)
  · have h := ifT h cd5
    refine wc_seq ?_
    refine wc_region ?_   -- region 2
    refine wl_det rfl rfl (det_assign rfl) rfl ?_
    refine wl_nil ?_
    refine pn_then ?_
    refine wc_ret ?_
    refine pr_then ?_
    replace h := Option.some.inj h
    subst h
    refine pn_ret (vs := [_]) rfl ⟨rfl, trivial⟩ ⟨A1, a0.L.length, c1, rfl, rfl, rfl⟩ (fun _ h => h.to ⟨_, r0, trivial⟩ ⟨m0, trivial⟩)
  · have h := ifF h cd5
    refine wc_skip ?_
    refine pn_then ?_
    refine wc_seq ?_
    refine wc_region ?_   -- region 3
    refine wl_det rfl rfl (det_move rfl) rfl ?_
    refine wl_det rfl rfl (det_nilCheckB rfl) rfl ?_
    refine wl_det rfl rfl (det_field rfl fd71_1 rfl) rfl ?_
    refine wl_det rfl rfl (det_load rfl m0 (by rfl) na3 us3) rfl ?_
    refine wl_det rfl rfl (det_add rfl rfl) rfl ?_
    refine wl_det rfl rfl (det_nilCheckB rfl) rfl ?_
    refine wl_det rfl rfl (det_field rfl fd71_1 rfl) rfl ?_
    refine wl_act0 (act_store (cells := [_]) (cs' := [_, _]) rfl rfl rfl s0 (by rfl) (of_decide_eq_true rfl) sz3 ⟨rfl, trivial⟩) rfl rfl ?_
    rintro _ _ _ ⟨rfl, rfl⟩
    refine wl_nil ?_
    refine pn_then ?_
    refine wc_seq ?_
    obtain ⟨k4_p1, h⟩ := chk_some h
    refine wc_st (fun _ h => h.openF m0 k4_p1) ?_
    obtain ⟨k4_p3, h⟩ := chk_some h
    refine dx_region 17 [[], [0], [0, 1], [0, 1, 2], [], [4], [4, 5], [4, 5, 6], [4, 5, 6, 7], [0, 1, 2, 3, 4, 5, 6, 7, 8], [0, 1, 2, 3, 4, 5, 6, 7, 8, 9], [], [0, 1, 2, 3, 4, 5, 6, 7, 8, 9, 10, 11], [], [0, 1, 2, 3, 4, 5, 6, 7, 8, 9, 10, 11, 12, 13], [], [0, 1, 2, 3, 4, 5, 6, 7, 8, 9, 10, 11, 12, 13, 14, 15], [0, 1, 2, 3, 4, 5, 6, 7, 8, 9, 10, 11, 12, 13, 14, 15, 16]] mixed (ord := (.det 0 (.det 1 (.det 2 (.det 3 (.det 4 (.det 5 (.det 6 (.det 7 (.det 8 (.det 9 (.det 10 (.det 11 (.det 12 (.det 13 (.det 14 (.det 15 (.det 16 .done)))))))))))))))))) (by kernel_rfl) ?_   -- region 4
    refine hx_det rfl rfl rfl nofun (det_move rfl) rfl ?_
    refine hx_det rfl rfl rfl nofun (det_nilCheckB rfl) rfl ?_
    refine hx_det rfl rfl rfl nofun (det_field rfl fd71_0 rfl) rfl ?_
    refine hx_det rfl rfl rfl nofun (det_load rfl m0 (by rfl) na23 us23) rfl ?_
    refine hx_det rfl rfl rfl nofun (det_move rfl) rfl ?_
    refine hx_det rfl rfl rfl nofun (det_nilCheckB rfl) rfl ?_
    refine hx_det rfl rfl rfl nofun (det_field rfl fd71_1 rfl) rfl ?_
    refine hx_det rfl rfl rfl nofun (det_load rfl m0 (by rfl) na3 us3) rfl ?_
    refine hx_det rfl rfl rfl nofun (det_sub rfl rfl) rfl ?_
    refine hx_det rfl rfl rfl nofun (det_indexP rfl rfl (ms m0) k4_p1 m0 un23 sz3) rfl ?_
    refine hx_det rfl rfl rfl nofun (det_loadP (off := 0) rfl m0 (by rfl) (by rfl) (loaded_1 na3 us3)) rfl ?_
    refine hx_det rfl rfl rfl nofun (det_move rfl) rfl ?_
    refine hx_det rfl rfl rfl nofun (det_remB rfl rfl k4_p3) rfl ?_
    refine hx_det rfl rfl rfl nofun (det_move rfl) rfl ?_
    refine hx_det rfl rfl rfl nofun (det_add rfl rfl) rfl ?_
    refine hx_det rfl rfl rfl nofun (det_move rfl) rfl ?_
    refine hx_det rfl rfl rfl nofun (det_remB rfl rfl k4_p3) rfl ?_
    refine hx_end ?_
    refine wl_det rfl rfl (det_assign rfl) rfl ?_
    refine wl_nil ?_
    refine pn_then ?_
    refine wc_ret ?_
    replace h := Option.some.inj h
    subst h
    refine pn_ret (vs := [_]) rfl ⟨rfl, trivial⟩ ⟨A1, a0.L.length, c1, rfl, rfl, rfl⟩ (fun _ h => h.to ⟨_, r0, trivial⟩ ⟨(ms m0), trivial⟩)
def Q_treatymade_Deck_Range (Ba0 : Nat) (r : Int × GDeck) : Value → List Ent → List Fact → Prop := fun v θ κ => ∃ (pA0 : Option Addr), ∃ (pn0 : Nat), ∃ (pc0 : Nat), v = .int .i64 r.1 ∧ θ = [eBlk Ba0 71 [.slice pA0 pn0 pc0, .int .i64 r.2.At]] ∧ κ = [fV (lSlice (lInt .i64)) (.slice pA0 pn0 pc0) r.2.L]
set_option maxHeartbeats 4000000 in
set_option maxRecDepth 100000 in
theorem W_treatymade_Deck_Range (a0 : GDeck) (a1 : Int) (a2 : Int) (Ba0 : Nat) (A1 : Option Addr) (n1 : Nat) (c1 : Nat) (r : Int × GDeck) (h : treatymade_Deck_Range a0 a1 a2 = some r) : Spec Try.prog 55 [.pointer (some ⟨Ba0, 0, none⟩), .int .i64 a1, .int .i64 a2] [eBlk Ba0 71 [.slice A1 n1 c1, .int .i64 a0.At]] [fV (lSlice (lInt .i64)) (.slice A1 n1 c1) a0.L] (Q_treatymade_Deck_Range Ba0 r) := by
  unfold treatymade_Deck_Range at h
  refine spec_of (σ := [(0, _), (1, _), (2, _)]) Try.func55 rfl rfl rfl rfl ?_
  intro C
  refine wc_know (fun _ h => h.lenF m0) (fun e => ?_)
  subst e
  refine wc_seq ?_
  refine wc_region ?_   -- region 0
  refine wl_det rfl rfl (det_assign rfl) rfl ?_
  refine wl_nil ?_
  refine pn_then ?_
  refine wc_seq ?_
  refine wc_region ?_   -- region 1
  refine wl_det rfl rfl (det_move rfl) rfl ?_
  refine wl_det rfl rfl (det_move rfl) rfl ?_
  refine wl_det rfl rfl (det_move rfl) rfl ?_
  refine wl_det rfl rfl (det_move rfl) rfl ?_
  refine wl_det rfl rfl (det_sub rfl rfl) rfl ?_
  refine wl_det rfl rfl (det_add rfl rfl) rfl ?_
  obtain ⟨r1_6, hr1_6, h⟩ := bind_some h
  refine wl_act (act_callS (cap := []) (W_treatymade_Deck_Next a0 (w64 ((w64 (a2 - a1)) + 1)) Ba0 A1 a0.L.length c1 r1_6 hr1_6) rfl rfl rfl bd45 ⟨_, r0, rfl⟩ ⟨m0, trivial⟩) rfl rfl rfl ?_
  rintro _ _ _ ⟨_, _, ⟨y1_6A0, y1_6n0, y1_6c0, rfl, rfl, rfl⟩, rfl, rfl⟩
  dsimp only [List.nil_append, List.cons_append]
  refine wl_know (fun _ h => h.lenF m0) (fun e => ?_)
  subst e
  refine wl_det rfl rfl (det_add rfl rfl) rfl ?_
  refine wl_det rfl rfl (det_assign rfl) rfl ?_
  refine wl_nil ?_
  refine pn_then ?_
  refine wc_ret ?_
  replace h := Option.some.inj h
  subst h
  refine pn_ret (vs := [_]) rfl ⟨rfl, trivial⟩ ⟨y1_6A0, r1_6.2.L.length, y1_6c0, rfl, rfl, rfl⟩ (fun _ h => h.to ⟨_, r0, trivial⟩ ⟨m0, trivial⟩)
def Q_treatymade_Deck_subset (Ba0 : Nat) (r : (List Int) × GDeck) : Value → List Ent → List Fact → Prop := fun v θ κ => ∃ (pA0 : Option Addr), ∃ (pn0 : Nat), ∃ (pc0 : Nat), ∃ (pA1 : Option Addr), ∃ (pn1 : Nat), ∃ (pc1 : Nat), v = .slice pA0 pn0 pc0 ∧ θ = [eS (lInt .i64) 3 pA0 pn0 pc0 r.1, eBlk Ba0 71 [.slice pA1 pn1 pc1, .int .i64 r.2.At]] ∧ κ = [fV (lSlice (lInt .i64)) (.slice pA1 pn1 pc1) r.2.L]
set_option maxHeartbeats 4000000 in
set_option maxRecDepth 100000 in
theorem W_treatymade_Deck_subset (a0 : GDeck) (a1 : Int) (a2 : Int) (Ba0 : Nat) (A1 : Option Addr) (n1 : Nat) (c1 : Nat) (r : (List Int) × GDeck) (h : treatymade_Deck_subset a0 a1 a2 = some r) : Spec Try.prog 61 [.pointer (some ⟨Ba0, 0, none⟩), .int .i64 a1, .int .i64 a2] [eBlk Ba0 71 [.slice A1 n1 c1, .int .i64 a0.At]] [fV (lSlice (lInt .i64)) (.slice A1 n1 c1) a0.L] (Q_treatymade_Deck_subset Ba0 r) := by
  unfold treatymade_Deck_subset at h
  refine spec_of (σ := [(0, _), (1, _), (2, _)]) Try.func61 rfl rfl rfl rfl ?_
  intro C
  refine wc_know (fun _ h => h.lenF m0) (fun e => ?_)
  subst e
  refine wc_seq ?_
  refine wc_region ?_   -- region 0
  refine wl_det rfl rfl (det_assign rfl) rfl ?_
  refine wl_nil ?_
  refine pn_then ?_
  refine wc_seq ?_
  refine wc_region ?_   -- region 1
  refine wl_det rfl rfl (det_assign rfl) rfl ?_
  refine wl_nil ?_
  refine pn_then ?_
  refine wc_seq ?_
  refine wc_seq ?_
  refine wc_region ?_   -- region 2
  refine wl_det rfl rfl (det_move rfl) rfl ?_
  obtain ⟨r2_1, hr2_1, h⟩ := bind_some h
  refine wl_act (act_callS (cap := []) (W_treatymade_Deck_Next a0 2 Ba0 A1 a0.L.length c1 r2_1 hr2_1) rfl rfl rfl bd45 ⟨_, r0, rfl⟩ ⟨m0, trivial⟩) rfl rfl rfl ?_
  rintro _ _ _ ⟨_, _, ⟨y2_1A0, y2_1n0, y2_1c0, rfl, rfl, rfl⟩, rfl, rfl⟩
  dsimp only [List.nil_append, List.cons_append]
  refine wl_know (fun _ h => h.lenF m0) (fun e => ?_)
  subst e
  refine wl_det rfl rfl (det_eql rfl rfl) rfl ?_
  refine wl_nil ?_
  refine pn_then ?_
  refine wc_cond rfl (fun cd7 => ?_) (fun cd7 => ?_)
  · have h := ifT h cd7
    refine wc_seq ?_
    refine wc_region ?_   -- region 3
    refine wl_det rfl rfl (det_assign rfl) rfl ?_
    refine wl_nil ?_
    refine pn_then ?_
    refine wc_ret ?_
    refine pr_then ?_
    refine pn_st (fun _ h => h.zeroS (lInt .i64) 3 none) ?_
    replace h := Option.some.inj h
    subst h
    refine pn_ret (vs := [_]) rfl ⟨rfl, trivial⟩ ⟨none, 0, 0, y2_1A0, r2_1.2.L.length, y2_1c0, rfl, rfl, rfl⟩ (fun _ h => h.to ⟨_, r0, ⟨_, r0, trivial⟩⟩ ⟨m0, trivial⟩)
  · have h := ifF h cd7
    refine wc_skip ?_
    refine pn_then ?_
    obtain ⟨q10, h, ho10⟩ := bind_some h
    refine wc_meetG (G := ((List Int) × Int × (List Int)) × Option Addr × Nat × Nat × Option Addr × Nat × Nat × Unit) (fun (s10, _, _, _, _, _, _, _) => s10 = q10) (fun (_, _, _, _, A10_3, n10_3, c10_3, _) => [(7, .slice A10_3 n10_3 c10_3)]) (fun (s10, A10_0, n10_0, c10_0, A10_3, n10_3, c10_3, _) => [eBlk Ba0 71 [.slice A10_0 n10_0 c10_0, .int .i64 s10.2.1], eS (lInt .i64) 3 A10_3 n10_3 c10_3 s10.2.2]) (fun (s10, A10_0, n10_0, c10_0, _, _, _, _) => [fV (lSlice (lInt .i64)) (.slice A10_0 n10_0 c10_0) s10.1]) ?_ ?_
    · refine wc_seq ?_
      refine wc_region ?_   -- region 4
      refine wl_det rfl rfl (det_move rfl) rfl ?_
      refine wl_det rfl rfl (det_assign rfl) rfl ?_
      refine wl_nil ?_
      refine pn_then ?_
      refine wc_block ?_
      refine wc_st (fun _ h => h.zeroS (lInt .i64) 3 none) ?_
      obtain ⟨k14, hk14⟩ := loopV_some.1 h
      refine wc_loop (G := Nat × ((List Int) × Int × (List Int) × Int) × Option Addr × Nat × Nat × Option Addr × Nat × Nat × Unit) (fun g => IterN (treatymade_Deck_subset_l14 a2) g.1 g.2.1 q10) (fun g => g.1) (fun (_, s14, _, _, _, A14_3, n14_3, c14_3, _) => [(0, .pointer (some ⟨Ba0, 0, none⟩)), (2, .int .i64 a2), (7, .slice A14_3 n14_3 c14_3), (8, .int .i64 s14.2.2.2)]) (fun (_, s14, A14_0, n14_0, c14_0, A14_3, n14_3, c14_3, _) => [eBlk Ba0 71 [.slice A14_0 n14_0 c14_0, .int .i64 s14.2.1], eS (lInt .i64) 3 A14_3 n14_3 c14_3 s14.2.2.1]) (fun (_, s14, A14_0, n14_0, c14_0, _, _, _, _) => [fV (lSlice (lInt .i64)) (.slice A14_0 n14_0 c14_0) s14.1]) (k14, (r2_1.2.L, r2_1.2.At, [], a1), y2_1A0, r2_1.2.L.length, y2_1c0, none, 0, 0, ()) hk14 ⟨rfl, rfl, rfl, rfl, trivial⟩ (fun _ h => h.to ⟨_, (rs r0), ⟨_, r0, trivial⟩⟩ ⟨m0, trivial⟩) ?_
      rintro ⟨k14, s14, A14_0, n14_0, c14_0, A14_3, n14_3, c14_3, _⟩ hI
      obtain ⟨k14, rfl, q14, h, g14⟩ := IterN.pos hI
      dsimp only at h ⊢
      unfold treatymade_Deck_subset_l14 at h
      refine wc_know (fun _ h => h.lenF m0) (fun e => ?_)
      subst e
      refine wc_know (fun _ h => h.lenO (ms m0)) (fun e => ?_)
      subst e
      refine wc_seq ?_
      refine wc_seq ?_
      refine wc_region ?_   -- region 5
      refine wl_det rfl rfl (det_move rfl) rfl ?_
      refine wl_det rfl rfl (det_move rfl) rfl ?_
      refine wl_det rfl rfl (det_leq rfl rfl) rfl ?_
      refine wl_nil ?_
      refine pn_then ?_
      refine wc_cond rfl (fun cd18 => ?_) (fun cd18 => ?_)
      · have h := ifT h cd18
        refine wc_skip ?_
        refine pn_then ?_
        obtain ⟨q20, h, ho20⟩ := bind_some h
        refine wc_meetG (G := ((List Int) × Int × (List Int)) × Option Addr × Nat × Nat × Option Addr × Nat × Nat × Unit) (fun (s20, _, _, _, _, _, _, _) => s20 = q20) (fun (_, _, _, _, A20_3, n20_3, c20_3, _) => [(0, .pointer (some ⟨Ba0, 0, none⟩)), (2, .int .i64 a2), (7, .slice A20_3 n20_3 c20_3), (8, .int .i64 s14.2.2.2)]) (fun (s20, A20_0, n20_0, c20_0, A20_3, n20_3, c20_3, _) => [eBlk Ba0 71 [.slice A20_0 n20_0 c20_0, .int .i64 s20.2.1], eS (lInt .i64) 3 A20_3 n20_3 c20_3 s20.2.2]) (fun (s20, A20_0, n20_0, c20_0, _, _, _, _) => [fV (lSlice (lInt .i64)) (.slice A20_0 n20_0 c20_0) s20.1]) ?_ ?_
        · refine wc_block ?_
          refine wc_seq ?_
          refine wc_region ?_   -- region 7
          refine wl_det rfl rfl (det_move rfl) rfl ?_
          obtain ⟨r7_1, hr7_1, h⟩ := bind_some h
          refine wl_act (act_callS (cap := []) (W_treatymade_Deck_Next (GDeck.mk s14.1 s14.2.1) 3 Ba0 A14_0 s14.1.length c14_0 r7_1 hr7_1) rfl rfl rfl bd45 ⟨_, r0, rfl⟩ ⟨m0, trivial⟩) rfl rfl rfl ?_
          rintro _ _ _ ⟨_, _, ⟨y7_1A0, y7_1n0, y7_1c0, rfl, rfl, rfl⟩, rfl, rfl⟩
          dsimp only [List.nil_append, List.cons_append]
          refine wl_know (fun _ h => h.lenF m0) (fun e => ?_)
          subst e
          refine wl_det rfl rfl (det_gtr rfl rfl) rfl ?_
          refine wl_nil ?_
          refine pn_then ?_
          refine wc_cond rfl (fun cd24 => ?_) (fun cd24 => ?_)
          · have h := ifT h cd24
            refine wc_region ?_   -- region 8
            refine wl_det rfl rfl (det_move rfl) rfl ?_
            refine wl_det rfl rfl (det_move rfl) rfl ?_
            refine wl_act (act_litS (lInt .i64) (vs := [_]) (cs := [_]) [s14.2.2.2] un23 in3 rfl rfl rfl rfl rfl ⟨rfl, trivial⟩ (by rfl) rfl (litR_flat rfl)) rfl rfl rfl ?_
            rintro _ _ _ ⟨A8_2, rfl, rfl, rfl⟩
            obtain ⟨k8_3, h⟩ := chk_some h
            refine wl_act (act_appendS (L := (lInt .i64)) rfl rfl (ss (ss s0)) (src_O m0) un23 in3 rfl rfl rfl k8_3) rfl rfl rfl ?_
            rintro _ _ _ ⟨A8_3, c8_3, rfl, rfl, rfl⟩
            refine wl_det rfl rfl (det_assign rfl) rfl ?_
            refine wl_nil ?_
            refine pn_block ?_
            replace h := Option.some.inj h
            subst h
            exact pn_meetG ((r7_1.2.L, r7_1.2.At, (s14.2.2.1 ++ [s14.2.2.2])), y7_1A0, r7_1.2.L.length, y7_1c0, A8_3, (s14.2.2.1 ++ [s14.2.2.2]).length, c8_3, ()) rfl ⟨rfl, rfl, rfl, rfl, trivial⟩ (fun _ h => h.to ⟨_, (rs r0), ⟨_, (rs r0), trivial⟩⟩ ⟨m0, trivial⟩)
          · have h := ifF h cd24
            refine wc_skip ?_
            refine pn_block ?_
            replace h := Option.some.inj h
            subst h
            exact pn_meetG ((r7_1.2.L, r7_1.2.At, s14.2.2.1), y7_1A0, r7_1.2.L.length, y7_1c0, A14_3, s14.2.2.1.length, c14_3, ()) rfl ⟨rfl, rfl, rfl, rfl, trivial⟩ (fun _ h => h.to ⟨_, r0, ⟨_, r0, trivial⟩⟩ ⟨m0, trivial⟩)
        rintro ⟨s20, A20_0, n20_0, c20_0, A20_3, n20_3, c20_3, _⟩ e20
        dsimp only at e20 ⊢
        subst e20
        have h := ho20
        refine wc_know (fun _ h => h.lenF m0) (fun e => ?_)
        subst e
        refine wc_know (fun _ h => h.lenO (ms m0)) (fun e => ?_)
        subst e
        refine wc_region ?_   -- region 6
        refine wl_det rfl rfl (det_move rfl) rfl ?_
        refine wl_det rfl rfl (det_add rfl rfl) rfl ?_
        refine wl_det rfl rfl (det_assign rfl) rfl ?_
        refine wl_nil ?_
        replace h := Option.some.inj h
        subst h
        exact pn_some (k14, (s20.1, s20.2.1, s20.2.2, (w64 (s14.2.2.2 + 1))), A20_0, s20.1.length, c20_0, A20_3, s20.2.2.length, c20_3, ()) ⟨nextL g14, Nat.lt_succ_self _⟩ ⟨rfl, rfl, rfl, rfl, trivial⟩ (fun _ h => h.to ⟨_, r0, ⟨_, r0, trivial⟩⟩ ⟨m0, trivial⟩)
      · have h := ifF h cd18
        refine wc_exit ?_
        refine px_then ?_
        refine px_then ?_
        refine px_block ?_
        replace h := Option.some.inj h
        subst h
        replace g14 := nextR g14
        subst g14
        exact pn_meetG ((s14.1, s14.2.1, s14.2.2.1), A14_0, s14.1.length, c14_0, A14_3, s14.2.2.1.length, c14_3, ()) rfl ⟨rfl, trivial⟩ (fun _ h => h.to ⟨_, r0, ⟨_, r0, trivial⟩⟩ ⟨m0, trivial⟩)
    rintro ⟨s10, A10_0, n10_0, c10_0, A10_3, n10_3, c10_3, _⟩ e10
    dsimp only at e10 ⊢
    subst e10
    have h := ho10
    refine wc_know (fun _ h => h.lenF m0) (fun e => ?_)
    subst e
    refine wc_know (fun _ h => h.lenO (ms m0)) (fun e => ?_)
    subst e
    refine wc_seq ?_
    refine wc_region ?_   -- region 9
    refine wl_det rfl rfl (det_move rfl) rfl ?_
    refine wl_det rfl rfl (det_assign rfl) rfl ?_
    refine wl_nil ?_
    refine pn_then ?_
    refine wc_ret ?_
    replace h := Option.some.inj h
    subst h
    refine pn_ret (vs := [_]) rfl ⟨rfl, trivial⟩ ⟨A10_3, s10.2.2.length, c10_3, A10_0, s10.1.length, c10_0, rfl, rfl, rfl⟩ (fun _ h => h.to ⟨_, (rs r0), ⟨_, r0, trivial⟩⟩ ⟨m0, trivial⟩)
def Q_treatymade_Deck_Upto (Ba0 : Nat) (r : Int × GDeck) : Value → List Ent → List Fact → Prop := fun v θ κ => ∃ (pA0 : Option Addr), ∃ (pn0 : Nat), ∃ (pc0 : Nat), v = .int .i64 r.1 ∧ θ = [eBlk Ba0 71 [.slice pA0 pn0 pc0, .int .i64 r.2.At]] ∧ κ = [fV (lSlice (lInt .i64)) (.slice pA0 pn0 pc0) r.2.L]
set_option maxHeartbeats 4000000 in
set_option maxRecDepth 100000 in
theorem W_treatymade_Deck_Upto (a0 : GDeck) (a1 : Int) (Ba0 : Nat) (A1 : Option Addr) (n1 : Nat) (c1 : Nat) (r : Int × GDeck) (h : treatymade_Deck_Upto a0 a1 = some r) : Spec Try.prog 28 [.pointer (some ⟨Ba0, 0, none⟩), .int .i64 a1] [eBlk Ba0 71 [.slice A1 n1 c1, .int .i64 a0.At]] [fV (lSlice (lInt .i64)) (.slice A1 n1 c1) a0.L] (Q_treatymade_Deck_Upto Ba0 r) := by
  unfold treatymade_Deck_Upto at h
  refine spec_of (σ := [(0, _), (1, _)]) Try.func28 rfl rfl rfl rfl ?_
  intro C
  refine wc_know (fun _ h => h.lenF m0) (fun e => ?_)
  subst e
  refine wc_seq ?_
  refine wc_region ?_   -- region 0
  refine wl_det rfl rfl (det_assign rfl) rfl ?_
  refine wl_nil ?_
  refine pn_then ?_
  refine wc_seq ?_
  refine wc_seq ?_
  refine wc_region ?_   -- region 1
  refine wl_det rfl rfl (det_move rfl) rfl ?_
  obtain ⟨r1_1, hr1_1, h⟩ := bind_some h
  refine wl_act (act_callS (cap := []) (W_treatymade_Deck_Next a0 6 Ba0 A1 a0.L.length c1 r1_1 hr1_1) rfl rfl rfl bd45 ⟨_, r0, rfl⟩ ⟨m0, trivial⟩) rfl rfl rfl ?_
  rintro _ _ _ ⟨_, _, ⟨y1_1A0, y1_1n0, y1_1c0, rfl, rfl, rfl⟩, rfl, rfl⟩
  dsimp only [List.nil_append, List.cons_append]
  refine wl_know (fun _ h => h.lenF m0) (fun e => ?_)
  subst e
  refine wl_nil ?_
  refine pn_then ?_
  refine wc_block ?_
  refine wc_seq ?_
  refine wc_region ?_   -- region 2
  refine wl_det rfl rfl (det_eql rfl rfl) rfl ?_
  refine wl_det rfl rfl (det_assign rfl) rfl ?_
  refine wl_nil ?_
  refine pn_then ?_
  refine wc_cond rfl (fun cd8 => ?_) (fun cd8 => ?_)
  · have h := ifT h cd8
    refine wc_seq ?_
    refine wc_region ?_   -- region 3
    refine wl_det rfl rfl (det_move rfl) rfl ?_
    obtain ⟨r3_1, hr3_1, h⟩ := bind_some h
    refine wl_act (act_callS (cap := []) (W_treatymade_Deck_Next r1_1.2 4 Ba0 y1_1A0 r1_1.2.L.length y1_1c0 r3_1 hr3_1) rfl rfl rfl bd45 ⟨_, r0, rfl⟩ ⟨m0, trivial⟩) rfl rfl rfl ?_
    rintro _ _ _ ⟨_, _, ⟨y3_1A0, y3_1n0, y3_1c0, rfl, rfl, rfl⟩, rfl, rfl⟩
    dsimp only [List.nil_append, List.cons_append]
    refine wl_know (fun _ h => h.lenF m0) (fun e => ?_)
    subst e
    refine wl_det rfl rfl (det_move rfl) rfl ?_
    refine wl_det rfl rfl (det_minI rfl rfl) rfl ?_
    refine wl_det rfl rfl (det_assign rfl) rfl ?_
    refine wl_nil ?_
    refine pn_then ?_
    refine wc_ret ?_
    refine pr_block ?_
    refine pr_then ?_
    replace h := Option.some.inj h
    subst h
    refine pn_ret (vs := [_]) rfl ⟨rfl, trivial⟩ ⟨y3_1A0, r3_1.2.L.length, y3_1c0, rfl, rfl, rfl⟩ (fun _ h => h.to ⟨_, r0, trivial⟩ ⟨m0, trivial⟩)
  · have h := ifF h cd8
    refine wc_seq ?_
    refine wc_region ?_   -- region 4
    refine wl_det rfl rfl (det_eql rfl rfl) rfl ?_
    refine wl_det rfl rfl (det_assign rfl) rfl ?_
    refine wl_nil ?_
    refine pn_then ?_
    refine wc_cond rfl (fun cd13 => ?_) (fun cd13 => ?_)
    · have h := ifT h cd13
      refine wc_seq ?_
      refine wc_region ?_   -- region 5
      refine wl_det rfl rfl (det_move rfl) rfl ?_
      obtain ⟨r5_1, hr5_1, h⟩ := bind_some h
      refine wl_act (act_callS (cap := []) (W_treatymade_Deck_Next r1_1.2 100 Ba0 y1_1A0 r1_1.2.L.length y1_1c0 r5_1 hr5_1) rfl rfl rfl bd45 ⟨_, r0, rfl⟩ ⟨m0, trivial⟩) rfl rfl rfl ?_
      rintro _ _ _ ⟨_, _, ⟨y5_1A0, y5_1n0, y5_1c0, rfl, rfl, rfl⟩, rfl, rfl⟩
      dsimp only [List.nil_append, List.cons_append]
      refine wl_know (fun _ h => h.lenF m0) (fun e => ?_)
      subst e
      refine wl_det rfl rfl (det_move rfl) rfl ?_
      refine wl_det rfl rfl (det_minI rfl rfl) rfl ?_
      refine wl_det rfl rfl (det_assign rfl) rfl ?_
      refine wl_nil ?_
      refine pn_then ?_
      refine wc_ret ?_
      refine pr_block ?_
      refine pr_then ?_
      replace h := Option.some.inj h
      subst h
      refine pn_ret (vs := [_]) rfl ⟨rfl, trivial⟩ ⟨y5_1A0, r5_1.2.L.length, y5_1c0, rfl, rfl, rfl⟩ (fun _ h => h.to ⟨_, r0, trivial⟩ ⟨m0, trivial⟩)
    · have h := ifF h cd13
      refine wc_seq ?_
      refine wc_region ?_   -- region 6
      refine wl_det rfl rfl (det_eql rfl rfl) rfl ?_
      refine wl_det rfl rfl (det_assign rfl) rfl ?_
      refine wl_nil ?_
      refine pn_then ?_
      refine wc_cond rfl (fun cd18 => ?_) (fun cd18 => ?_)
      · have h := ifT h cd18
        refine wc_seq ?_
        refine wc_region ?_   -- region 7
        refine wl_det rfl rfl (det_move rfl) rfl ?_
        obtain ⟨r7_1, hr7_1, h⟩ := bind_some h
        refine wl_act (act_callS (cap := []) (W_treatymade_Deck_Next r1_1.2 1048576 Ba0 y1_1A0 r1_1.2.L.length y1_1c0 r7_1 hr7_1) rfl rfl rfl bd45 ⟨_, r0, rfl⟩ ⟨m0, trivial⟩) rfl rfl rfl ?_
        rintro _ _ _ ⟨_, _, ⟨y7_1A0, y7_1n0, y7_1c0, rfl, rfl, rfl⟩, rfl, rfl⟩
        dsimp only [List.nil_append, List.cons_append]
        refine wl_know (fun _ h => h.lenF m0) (fun e => ?_)
        subst e
        refine wl_det rfl rfl (det_move rfl) rfl ?_
        refine wl_det rfl rfl (det_minI rfl rfl) rfl ?_
        refine wl_det rfl rfl (det_assign rfl) rfl ?_
        refine wl_nil ?_
        refine pn_then ?_
        refine wc_ret ?_
        refine pr_block ?_
        refine pr_then ?_
        replace h := Option.some.inj h
        subst h
        refine pn_ret (vs := [_]) rfl ⟨rfl, trivial⟩ ⟨y7_1A0, r7_1.2.L.length, y7_1c0, rfl, rfl, rfl⟩ (fun _ h => h.to ⟨_, r0, trivial⟩ ⟨m0, trivial⟩)
      · have h := ifF h cd18
        refine wc_seq ?_
        refine wc_region ?_   -- region 8
        refine wl_det rfl rfl (det_eql rfl rfl) rfl ?_
        refine wl_det rfl rfl (det_assign rfl) rfl ?_
        refine wl_nil ?_
        refine pn_then ?_
        refine wc_cond rfl (fun cd23 => ?_) (fun cd23 => ?_)
        · have h := ifT h cd23
          refine wc_seq ?_
          refine wc_region ?_   -- region 9
          refine wl_det rfl rfl (det_move rfl) rfl ?_
          refine wl_det rfl rfl (det_move rfl) rfl ?_
          refine wl_det rfl rfl (det_move rfl) rfl ?_
          refine wl_det rfl rfl (det_add rfl rfl) rfl ?_
          refine wl_det rfl rfl (det_minI rfl rfl) rfl ?_
          obtain ⟨r9_5, hr9_5, h⟩ := bind_some h
          refine wl_act (act_callS (cap := []) (W_treatymade_Deck_Next r1_1.2 (minI 3 (w64 (a1 + 1))) Ba0 y1_1A0 r1_1.2.L.length y1_1c0 r9_5 hr9_5) rfl rfl rfl bd45 ⟨_, r0, rfl⟩ ⟨m0, trivial⟩) rfl rfl rfl ?_
          rintro _ _ _ ⟨_, _, ⟨y9_5A0, y9_5n0, y9_5c0, rfl, rfl, rfl⟩, rfl, rfl⟩
          dsimp only [List.nil_append, List.cons_append]
          refine wl_know (fun _ h => h.lenF m0) (fun e => ?_)
          subst e
          refine wl_det rfl rfl (det_sub rfl rfl) rfl ?_
          refine wl_det rfl rfl (det_assign rfl) rfl ?_
          refine wl_nil ?_
          refine pn_then ?_
          refine wc_ret ?_
          refine pr_block ?_
          refine pr_then ?_
          replace h := Option.some.inj h
          subst h
          refine pn_ret (vs := [_]) rfl ⟨rfl, trivial⟩ ⟨y9_5A0, r9_5.2.L.length, y9_5c0, rfl, rfl, rfl⟩ (fun _ h => h.to ⟨_, r0, trivial⟩ ⟨m0, trivial⟩)
        · have h := ifF h cd23
          refine wc_skip ?_
          refine pn_block ?_
          refine pn_then ?_
          refine wc_seq ?_
          refine wc_region ?_   -- region 10
          refine wl_det rfl rfl (det_move rfl) rfl ?_
          refine wl_det rfl rfl (det_move rfl) rfl ?_
          refine wl_det rfl rfl (det_add rfl rfl) rfl ?_
          obtain ⟨r10_3, hr10_3, h⟩ := bind_some h
          refine wl_act (act_callS (cap := []) (W_treatymade_Deck_Next r1_1.2 (w64 (a1 + 1)) Ba0 y1_1A0 r1_1.2.L.length y1_1c0 r10_3 hr10_3) rfl rfl rfl bd45 ⟨_, r0, rfl⟩ ⟨m0, trivial⟩) rfl rfl rfl ?_
          rintro _ _ _ ⟨_, _, ⟨y10_3A0, y10_3n0, y10_3c0, rfl, rfl, rfl⟩, rfl, rfl⟩
          dsimp only [List.nil_append, List.cons_append]
          refine wl_know (fun _ h => h.lenF m0) (fun e => ?_)
          subst e
          refine wl_det rfl rfl (det_assign rfl) rfl ?_
          refine wl_nil ?_
          refine pn_then ?_
          refine wc_ret ?_
          replace h := Option.some.inj h
          subst h
          refine pn_ret (vs := [_]) rfl ⟨rfl, trivial⟩ ⟨y10_3A0, r10_3.2.L.length, y10_3c0, rfl, rfl, rfl⟩ (fun _ h => h.to ⟨_, r0, trivial⟩ ⟨m0, trivial⟩)
def Q_treatymade_Deck_Money (Ba0 : Nat) (r : Int × GDeck) : Value → List Ent → List Fact → Prop := fun v θ κ => ∃ (pA0 : Option Addr), ∃ (pn0 : Nat), ∃ (pc0 : Nat), v = .int .i64 r.1 ∧ θ = [eBlk Ba0 71 [.slice pA0 pn0 pc0, .int .i64 r.2.At]] ∧ κ = [fV (lSlice (lInt .i64)) (.slice pA0 pn0 pc0) r.2.L]
set_option maxHeartbeats 4000000 in
set_option maxRecDepth 100000 in
theorem W_treatymade_Deck_Money (a0 : GDeck) (Ba0 : Nat) (A1 : Option Addr) (n1 : Nat) (c1 : Nat) (r : Int × GDeck) (h : treatymade_Deck_Money a0 = some r) : Spec Try.prog 62 [.pointer (some ⟨Ba0, 0, none⟩)] [eBlk Ba0 71 [.slice A1 n1 c1, .int .i64 a0.At]] [fV (lSlice (lInt .i64)) (.slice A1 n1 c1) a0.L] (Q_treatymade_Deck_Money Ba0 r) := by
  unfold treatymade_Deck_Money at h
  refine spec_of (σ := [(0, _)]) Try.func62 rfl rfl rfl rfl ?_
  intro C
  refine wc_know (fun _ h => h.lenF m0) (fun e => ?_)
  subst e
  refine wc_seq ?_
  refine wc_region ?_   -- region 0
  refine wl_det rfl rfl (det_assign rfl) rfl ?_
  refine wl_nil ?_
  refine pn_then ?_
  refine wc_seq ?_
  refine wc_region ?_   -- region 1
  refine wl_det rfl rfl (det_move rfl) rfl ?_
  obtain ⟨r1_1, hr1_1, h⟩ := bind_some h
  refine wl_act (act_callS (cap := []) (W_treatymade_Deck_Upto a0 1073741824 Ba0 A1 a0.L.length c1 r1_1 hr1_1) rfl rfl rfl bd28 ⟨_, r0, rfl⟩ ⟨m0, trivial⟩) rfl rfl rfl ?_
  rintro _ _ _ ⟨_, _, ⟨y1_1A0, y1_1n0, y1_1c0, rfl, rfl, rfl⟩, rfl, rfl⟩
  dsimp only [List.nil_append, List.cons_append]
  refine wl_know (fun _ h => h.lenF m0) (fun e => ?_)
  subst e
  refine wl_det rfl rfl (det_assign rfl) rfl ?_
  refine wl_nil ?_
  refine pn_then ?_
  refine wc_ret ?_
  replace h := Option.some.inj h
  subst h
  refine pn_ret (vs := [_]) rfl ⟨rfl, trivial⟩ ⟨y1_1A0, r1_1.2.L.length, y1_1c0, rfl, rfl, rfl⟩ (fun _ h => h.to ⟨_, r0, trivial⟩ ⟨m0, trivial⟩)
def Q_treatymade_Deck_Parts (Ba0 : Nat) (r : (List GPart) × GDeck) : Value → List Ent → List Fact → Prop := fun v θ κ => ∃ (pA0 : Option Addr), ∃ (pn0 : Nat), ∃ (pc0 : Nat), ∃ (pA1 : Option Addr), ∃ (pn1 : Nat), ∃ (pc1 : Nat), v = .slice pA0 pn0 pc0 ∧ θ = [eS lGPart 25 pA0 pn0 pc0 r.1, eBlk Ba0 71 [.slice pA1 pn1 pc1, .int .i64 r.2.At]] ∧ κ = [fV (lSlice (lInt .i64)) (.slice pA1 pn1 pc1) r.2.L]
set_option maxHeartbeats 4000000 in
set_option maxRecDepth 100000 in
theorem W_treatymade_Deck_Parts (a0 : GDeck) (Ba0 : Nat) (A1 : Option Addr) (n1 : Nat) (c1 : Nat) (r : (List GPart) × GDeck) (h : treatymade_Deck_Parts a0 = some r) : Spec Try.prog 17 [.pointer (some ⟨Ba0, 0, none⟩)] [eBlk Ba0 71 [.slice A1 n1 c1, .int .i64 a0.At]] [fV (lSlice (lInt .i64)) (.slice A1 n1 c1) a0.L] (Q_treatymade_Deck_Parts Ba0 r) := by
  unfold treatymade_Deck_Parts at h
  refine spec_of (σ := [(0, _)]) Try.func17 rfl rfl rfl rfl ?_
  intro C
  refine wc_know (fun _ h => h.lenF m0) (fun e => ?_)
  subst e
  refine wc_seq ?_
  refine wc_region ?_   -- region 0
  refine wl_det rfl rfl (det_assign rfl) rfl ?_
  refine wl_nil ?_
  refine pn_then ?_
  refine wc_seq ?_
  refine wc_region ?_   -- region 1
  refine wl_det rfl rfl (det_assign rfl) rfl ?_
  refine wl_nil ?_
  refine pn_then ?_
  refine wc_seq ?_
  refine wc_region ?_   -- region 2
  refine wl_det rfl rfl (det_assign rfl) rfl ?_
  refine wl_det rfl rfl (det_assign rfl) rfl ?_
  refine wl_nil ?_
  refine pn_then ?_
  obtain ⟨q6, h, ho6⟩ := bind_some h
  refine wc_meetG (G := ((List Int) × Int × (List GPart)) × Option Addr × Nat × Nat × Option Addr × Nat × Nat × Unit) (fun (s6, _, _, _, _, _, _, _) => s6 = q6) (fun (_, _, _, _, A6_3, n6_3, c6_3, _) => [(3, .slice A6_3 n6_3 c6_3)]) (fun (s6, A6_0, n6_0, c6_0, A6_3, n6_3, c6_3, _) => [eBlk Ba0 71 [.slice A6_0 n6_0 c6_0, .int .i64 s6.2.1], eS lGPart 25 A6_3 n6_3 c6_3 s6.2.2]) (fun (s6, A6_0, n6_0, c6_0, _, _, _, _) => [fV (lSlice (lInt .i64)) (.slice A6_0 n6_0 c6_0) s6.1]) ?_ ?_
  · refine wc_seq ?_
    refine wc_region ?_   -- region 3
    refine wl_det rfl rfl (det_move rfl) rfl ?_
    obtain ⟨r3_1, hr3_1, h⟩ := bind_some h
    refine wl_act (act_callS (cap := []) (W_treatymade_Deck_Next a0 5 Ba0 A1 a0.L.length c1 r3_1 hr3_1) rfl rfl rfl bd45 ⟨_, r0, rfl⟩ ⟨m0, trivial⟩) rfl rfl rfl ?_
    rintro _ _ _ ⟨_, _, ⟨y3_1A0, y3_1n0, y3_1c0, rfl, rfl, rfl⟩, rfl, rfl⟩
    dsimp only [List.nil_append, List.cons_append]
    refine wl_know (fun _ h => h.lenF m0) (fun e => ?_)
    subst e
    refine wl_det rfl rfl (det_assign rfl) rfl ?_
    refine wl_nil ?_
    refine pn_then ?_
    refine wc_block ?_
    refine wc_st (fun _ h => h.zeroS lGPart 25 none) ?_
    obtain ⟨k10, hk10⟩ := loopV_some.1 h
    refine wc_loop (G := Nat × ((List Int) × Int × (List GPart) × Int × Int × Int) × Option Addr × Nat × Nat × Option Addr × Nat × Nat × Unit) (fun g => IterN treatymade_Deck_Parts_l10 g.1 g.2.1 q6) (fun g => g.1) (fun (_, s10, _, _, _, A10_3, n10_3, c10_3, _) => [(0, .pointer (some ⟨Ba0, 0, none⟩)), (3, .slice A10_3 n10_3 c10_3), (4, .int .i64 s10.2.2.2.1), (5, .int .i64 s10.2.2.2.2.1), (6, .int .i64 s10.2.2.2.2.2)]) (fun (_, s10, A10_0, n10_0, c10_0, A10_3, n10_3, c10_3, _) => [eBlk Ba0 71 [.slice A10_0 n10_0 c10_0, .int .i64 s10.2.1], eS lGPart 25 A10_3 n10_3 c10_3 s10.2.2.1]) (fun (_, s10, A10_0, n10_0, c10_0, _, _, _, _) => [fV (lSlice (lInt .i64)) (.slice A10_0 n10_0 c10_0) s10.1]) (k10, (r3_1.2.L, r3_1.2.At, [], 1000000, 0, r3_1.1), y3_1A0, r3_1.2.L.length, y3_1c0, none, 0, 0, ()) hk10 ⟨rfl, rfl, rfl, rfl, rfl, trivial⟩ (fun _ h => h.to ⟨_, (rs r0), ⟨_, r0, trivial⟩⟩ ⟨m0, trivial⟩) ?_
    rintro ⟨k10, s10, A10_0, n10_0, c10_0, A10_3, n10_3, c10_3, _⟩ hI
    obtain ⟨k10, rfl, q10, h, g10⟩ := IterN.pos hI
    dsimp only at h ⊢
    unfold treatymade_Deck_Parts_l10 at h
    refine wc_know (fun _ h => h.lenF m0) (fun e => ?_)
    subst e
    refine wc_know (fun _ h => h.lenO (ms m0)) (fun e => ?_)
    subst e
    refine wc_seq ?_
    refine wc_seq ?_
    refine wc_region ?_   -- region 4
    refine wl_det rfl rfl (det_move rfl) rfl ?_
    refine wl_det rfl rfl (det_gtr rfl rfl) rfl ?_
    refine wl_det rfl rfl (det_move rfl) rfl ?_
    refine wl_way (decide (0 < s10.2.2.2.2.2)) ((decide (0 < s10.2.2.2.2.2)) && (decide (0 < s10.2.2.2.1))) 3 15 (fun hg => ?_) (fun hg => ?_) ?_
    · have hg4_5 := hg
      refine wl_on rfl rfl rfl rfl hg4_5 ?_
      refine wl_det rfl rfl (det_move rfl) rfl ?_
      refine wl_on rfl rfl rfl rfl hg4_5 ?_
      refine wl_det rfl rfl (det_gtr rfl rfl) rfl ?_
      refine wl_det rfl rfl (det_and_on rfl rfl rfl hg4_5) rfl ?_
      exact wl_nil (pn_qnE (ext_cons rfl (ext_skip rfl (ext_skip rfl (ext_skip rfl ext_refl)))) (fun _ h => h))
    · have hg4_5a := hg
      refine wl_off rfl rfl rfl rfl rfl hg4_5a rfl ?_
      refine wl_off rfl rfl rfl rfl rfl hg4_5a rfl ?_
      refine wl_det rfl rfl (det_and_off (q := (decide (0 < s10.2.2.2.1))) rfl rfl rfl hg4_5a) rfl ?_
      exact wl_nil (pn_qnE (ext_cons rfl (ext_skip rfl (ext_skip rfl (ext_skip rfl ext_refl)))) (fun _ h => h))
    refine wl_nil ?_
    refine pn_then ?_
    refine wc_cond rfl (fun cd14 => ?_) (fun cd14 => ?_)
    · have h := ifT h cd14
      refine wc_skip ?_
      refine pn_then ?_
      refine wc_seq ?_
      refine wc_block ?_
      refine wc_seq ?_
      refine wc_region ?_   -- region 6
      refine wl_det rfl rfl (det_move rfl) rfl ?_
      refine wl_det rfl rfl (det_add rfl rfl) rfl ?_
      refine wl_det rfl rfl (det_move rfl) rfl ?_
      obtain ⟨r6_3, hr6_3, h⟩ := bind_some h
      refine wl_act (act_callS (cap := []) (W_treatymade_Deck_Next (GDeck.mk s10.1 s10.2.1) 3 Ba0 A10_0 s10.1.length c10_0 r6_3 hr6_3) rfl rfl rfl bd45 ⟨_, r0, rfl⟩ ⟨m0, trivial⟩) rfl rfl rfl ?_
      rintro _ _ _ ⟨_, _, ⟨y6_3A0, y6_3n0, y6_3c0, rfl, rfl, rfl⟩, rfl, rfl⟩
      dsimp only [List.nil_append, List.cons_append]
      refine wl_know (fun _ h => h.lenF m0) (fun e => ?_)
      subst e
      refine wl_det rfl rfl (det_add rfl rfl) rfl ?_
      refine wl_det rfl rfl (det_assign rfl) rfl ?_
      refine wl_nil ?_
      refine pn_then ?_
      refine wc_seq ?_
      refine wc_region ?_   -- region 7
      refine wl_det rfl rfl (det_move rfl) rfl ?_
      refine wl_det rfl rfl (det_move rfl) rfl ?_
      refine wl_det rfl rfl (det_sub rfl rfl) rfl ?_
      obtain ⟨r7_3, hr7_3, h⟩ := bind_some h
      refine wl_act (act_callS (cap := []) (W_treatymade_Deck_Upto r6_3.2 (w64 (s10.2.2.2.1 - 1)) Ba0 y6_3A0 r6_3.2.L.length y6_3c0 r7_3 hr7_3) rfl rfl rfl bd28 ⟨_, r0, rfl⟩ ⟨m0, trivial⟩) rfl rfl rfl ?_
      rintro _ _ _ ⟨_, _, ⟨y7_3A0, y7_3n0, y7_3c0, rfl, rfl, rfl⟩, rfl, rfl⟩
      dsimp only [List.nil_append, List.cons_append]
      refine wl_know (fun _ h => h.lenF m0) (fun e => ?_)
      subst e
      refine wl_det rfl rfl (det_add rfl rfl) rfl ?_
      refine wl_det rfl rfl (det_assign rfl) rfl ?_
      refine wl_nil ?_
      refine pn_then ?_
      refine wc_region ?_   -- region 8
      refine wl_det rfl rfl (det_move rfl) rfl ?_
      refine wl_det rfl rfl (det_move rfl) rfl ?_
      refine wl_det rfl rfl (det_move rfl) rfl ?_
      refine wl_det rfl rfl (det_build (cs := [_, _]) pl25 zr25 rfl rfl (by rfl)) rfl ?_
      refine wl_act (act_litS lGPart (vs := [_]) (cs := [_, _]) [(GPart.mk (w64 ((w64 (s10.2.2.2.2.1 + 1)) + r6_3.1)) (w64 (1 + r7_3.1)))] un22 in25 rfl rfl rfl rfl rfl ⟨rfl, trivial⟩ (by rfl) rfl (litR_flat rfl)) rfl rfl rfl ?_
      rintro _ _ _ ⟨A8_4, rfl, rfl, rfl⟩
      obtain ⟨k8_5, h⟩ := chk_some h
      refine wl_act (act_appendS (L := lGPart) rfl rfl (ss (ss s0)) (src_O m0) un22 in25 rfl rfl rfl k8_5) rfl rfl rfl ?_
      rintro _ _ _ ⟨A8_5, c8_5, rfl, rfl, rfl⟩
      refine wl_det rfl rfl (det_move rfl) rfl ?_
      refine wl_det rfl rfl (det_move rfl) rfl ?_
      refine wl_det rfl rfl (det_sub rfl rfl) rfl ?_
      refine wl_det rfl rfl (det_assign rfl) rfl ?_
      refine wl_det rfl rfl (det_assign rfl) rfl ?_
      refine wl_nil ?_
      refine pn_block ?_
      refine pn_then ?_
      refine wc_region ?_   -- region 5
      refine wl_det rfl rfl (det_move rfl) rfl ?_
      refine wl_det rfl rfl (det_sub rfl rfl) rfl ?_
      refine wl_det rfl rfl (det_assign rfl) rfl ?_
      refine wl_nil ?_
      replace h := Option.some.inj h
      subst h
      exact pn_some (k10, (r7_3.2.L, r7_3.2.At, (s10.2.2.1 ++ [(GPart.mk (w64 ((w64 (s10.2.2.2.2.1 + 1)) + r6_3.1)) (w64 (1 + r7_3.1)))]), (w64 (s10.2.2.2.1 - (w64 (1 + r7_3.1)))), (w64 ((w64 (s10.2.2.2.2.1 + 1)) + r6_3.1)), (w64 (s10.2.2.2.2.2 - 1))), y7_3A0, r7_3.2.L.length, y7_3c0, A8_5, (s10.2.2.1 ++ [(GPart.mk (w64 ((w64 (s10.2.2.2.2.1 + 1)) + r6_3.1)) (w64 (1 + r7_3.1)))]).length, c8_5, ()) ⟨nextL g10, Nat.lt_succ_self _⟩ ⟨rfl, rfl, rfl, rfl, rfl, trivial⟩ (fun _ h => h.to ⟨_, (rs r0), ⟨_, (rs r0), trivial⟩⟩ ⟨m0, trivial⟩)
    · have h := ifF h cd14
      refine wc_exit ?_
      refine px_then ?_
      refine px_then ?_
      refine px_block ?_
      replace h := Option.some.inj h
      subst h
      replace g10 := nextR g10
      subst g10
      exact pn_meetG ((s10.1, s10.2.1, s10.2.2.1), A10_0, s10.1.length, c10_0, A10_3, s10.2.2.1.length, c10_3, ()) rfl ⟨rfl, trivial⟩ (fun _ h => h.to ⟨_, r0, ⟨_, r0, trivial⟩⟩ ⟨m0, trivial⟩)
  rintro ⟨s6, A6_0, n6_0, c6_0, A6_3, n6_3, c6_3, _⟩ e6
  dsimp only at e6 ⊢
  subst e6
  have h := ho6
  refine wc_know (fun _ h => h.lenF m0) (fun e => ?_)
  subst e
  refine wc_know (fun _ h => h.lenO (ms m0)) (fun e => ?_)
  subst e
  refine wc_seq ?_
  refine wc_region ?_   -- region 9
  refine wl_det rfl rfl (det_move rfl) rfl ?_
  refine wl_det rfl rfl (det_assign rfl) rfl ?_
  refine wl_nil ?_
  refine pn_then ?_
  refine wc_ret ?_
  replace h := Option.some.inj h
  subst h
  refine pn_ret (vs := [_]) rfl ⟨rfl, trivial⟩ ⟨A6_3, s6.2.2.length, c6_3, A6_0, s6.1.length, c6_0, rfl, rfl, rfl⟩ (fun _ h => h.to ⟨_, (rs r0), ⟨_, r0, trivial⟩⟩ ⟨m0, trivial⟩)
def Q_treatymade_Deck_Treaty (Ba0 : Nat) (r : GTreaty × GDeck) : Value → List Ent → List Fact → Prop := fun v θ κ => ∃ (pA0 : Option Addr), ∃ (pn0 : Nat), ∃ (pc0 : Nat), ∃ (pA1 : Option Addr), ∃ (pn1 : Nat), ∃ (pc1 : Nat), ∃ (pA2 : Option Addr), ∃ (pn2 : Nat), ∃ (pc2 : Nat), ∃ (pA3 : Option Addr), ∃ (pn3 : Nat), ∃ (pc3 : Nat), ∃ (pA4 : Option Addr), ∃ (pn4 : Nat), ∃ (pc4 : Nat), ∃ (pA5 : Option Addr), ∃ (pn5 : Nat), ∃ (pc5 : Nat), v = .agg #[.int .i64 r.1.ID, .int .i64 r.1.Kind, .int .i64 r.1.Period.From, .int .i64 r.1.Period.To, .slice pA0 pn0 pc0, .slice pA1 pn1 pc1, .int .i64 r.1.Risk, .int .i64 r.1.Cession, .int .i64 r.1.Line, .int .i64 r.1.Lines, .int .i64 r.1.Retention, .int .i64 r.1.Limit, .int .i64 r.1.Window, .int .i64 r.1.Deductible, .int .i64 r.1.Aggregate, .int .i64 r.1.Premium, .slice pA2 pn2 pc2, .bool r.1.Timed, .int .i64 r.1.Base, .slice pA3 pn3 pc3, .slice pA4 pn4 pc4] ∧ θ = [eS (lInt .i64) 3 pA0 pn0 pc0 r.1.Perils, eS (lInt .i64) 3 pA1 pn1 pc1 r.1.Areas, eS (lInt .i64) 3 pA2 pn2 pc2 r.1.Reinstatements, eS (lInt .i64) 3 pA3 pn3 pc3 r.1.Inures, eS lGPart 25 pA4 pn4 pc4 r.1.Parts, eBlk Ba0 71 [.slice pA5 pn5 pc5, .int .i64 r.2.At]] ∧ κ = [fV (lSlice (lInt .i64)) (.slice pA5 pn5 pc5) r.2.L]
set_option maxHeartbeats 4000000 in
set_option maxRecDepth 100000 in
theorem W_treatymade_Deck_Treaty (a0 : GDeck) (a1 : Int) (a2 : Int) (Ba0 : Nat) (A1 : Option Addr) (n1 : Nat) (c1 : Nat) (r : GTreaty × GDeck) (h : treatymade_Deck_Treaty a0 a1 a2 = some r) : Spec Try.prog 37 [.pointer (some ⟨Ba0, 0, none⟩), .int .i64 a1, .int .i64 a2] [eBlk Ba0 71 [.slice A1 n1 c1, .int .i64 a0.At]] [fV (lSlice (lInt .i64)) (.slice A1 n1 c1) a0.L] (Q_treatymade_Deck_Treaty Ba0 r) := by
  unfold treatymade_Deck_Treaty at h
  refine spec_of (σ := [(0, _), (1, _), (2, _)]) Try.func37 rfl rfl rfl rfl ?_
  intro C
  refine wc_know (fun _ h => h.lenF m0) (fun e => ?_)
  subst e
  refine wc_seq ?_
  refine wc_region ?_   -- region 0
  refine wl_act (act_alloc (cs := [_, _, _, _, _, _, _, _, _, _, _, _, _, _, _, _, _, _, _, _, _]) zr49 rfl) rfl rfl rfl ?_
  rintro _ _ _ ⟨b0_0, rfl, rfl, rfl⟩
  refine wl_nil ?_
  refine pn_then ?_
  refine wc_seq ?_
  refine wc_region ?_   -- region 1
  refine wl_det rfl rfl (det_move rfl) rfl ?_
  refine wl_det rfl rfl (det_move rfl) rfl ?_
  refine wl_det rfl rfl (det_move rfl) rfl ?_
  obtain ⟨r1_3, hr1_3, h⟩ := bind_some h
  refine wl_act (act_callS (cap := []) (W_treatymade_Deck_Next a0 10 Ba0 A1 a0.L.length c1 r1_3 hr1_3) rfl rfl rfl bd45 ⟨_, (rs r0), rfl⟩ ⟨m0, trivial⟩) rfl rfl rfl ?_
  rintro _ _ _ ⟨_, _, ⟨y1_3A0, y1_3n0, y1_3c0, rfl, rfl, rfl⟩, rfl, rfl⟩
  dsimp only [List.nil_append, List.cons_append]
  refine wl_know (fun _ h => h.lenF m0) (fun e => ?_)
  subst e
  refine wl_det rfl rfl (det_move rfl) rfl ?_
  obtain ⟨r1_5, hr1_5, h⟩ := bind_some h
  refine wl_act (act_callS (cap := []) (W_treatymade_Deck_Next r1_3.2 60 Ba0 y1_3A0 r1_3.2.L.length y1_3c0 r1_5 hr1_5) rfl rfl rfl bd45 ⟨_, r0, rfl⟩ ⟨m0, trivial⟩) rfl rfl rfl ?_
  rintro _ _ _ ⟨_, _, ⟨y1_5A0, y1_5n0, y1_5c0, rfl, rfl, rfl⟩, rfl, rfl⟩
  dsimp only [List.nil_append, List.cons_append]
  refine wl_know (fun _ h => h.lenF m0) (fun e => ?_)
  subst e
  refine wl_det rfl rfl (det_add rfl rfl) rfl ?_
  refine wl_det rfl rfl (det_build (cs := [_, _]) pl47 zr47 rfl rfl (by rfl)) rfl ?_
  refine wl_det rfl rfl (det_move rfl) rfl ?_
  obtain ⟨r1_9, hr1_9, h⟩ := bind_some h
  refine wl_act (act_callS (cap := []) (W_treatymade_Deck_subset r1_5.2 0 2 Ba0 y1_5A0 r1_5.2.L.length y1_5c0 r1_9 hr1_9) rfl rfl rfl bd61 ⟨_, r0, rfl⟩ ⟨m0, trivial⟩) rfl rfl rfl ?_
  rintro _ _ _ ⟨_, _, ⟨y1_9A0, y1_9n0, y1_9c0, y1_9A1, y1_9n1, y1_9c1, rfl, rfl, rfl⟩, rfl, rfl⟩
  dsimp only [List.nil_append, List.cons_append]
  refine wl_know (fun _ h => h.lenO m0) (fun e => ?_)
  subst e
  refine wl_know (fun _ h => h.lenF m0) (fun e => ?_)
  subst e
  refine wl_det rfl rfl (det_move rfl) rfl ?_
  obtain ⟨r1_11, hr1_11, h⟩ := bind_some h
  refine wl_act (act_callS (cap := []) (W_treatymade_Deck_subset r1_9.2 0 2 Ba0 y1_9A1 r1_9.2.L.length y1_9c1 r1_11 hr1_11) rfl rfl rfl bd61 ⟨_, (rs r0), rfl⟩ ⟨m0, trivial⟩) rfl rfl rfl ?_
  rintro _ _ _ ⟨_, _, ⟨y1_11A0, y1_11n0, y1_11c0, y1_11A1, y1_11n1, y1_11c1, rfl, rfl, rfl⟩, rfl, rfl⟩
  dsimp only [List.nil_append, List.cons_append]
  refine wl_know (fun _ h => h.lenO m0) (fun e => ?_)
  subst e
  refine wl_know (fun _ h => h.lenF m0) (fun e => ?_)
  subst e
  refine wl_det rfl rfl (det_move rfl) rfl ?_
  obtain ⟨r1_13, hr1_13, h⟩ := bind_some h
  refine wl_act (act_callS (cap := []) (W_treatymade_Deck_Money r1_11.2 Ba0 y1_11A1 r1_11.2.L.length y1_11c1 r1_13 hr1_13) rfl rfl rfl bd62 ⟨_, (rs r0), rfl⟩ ⟨m0, trivial⟩) rfl rfl rfl ?_
  rintro _ _ _ ⟨_, _, ⟨y1_13A0, y1_13n0, y1_13c0, rfl, rfl, rfl⟩, rfl, rfl⟩
  dsimp only [List.nil_append, List.cons_append]
  refine wl_know (fun _ h => h.lenF m0) (fun e => ?_)
  subst e
  refine wl_det rfl rfl (det_move rfl) rfl ?_
  obtain ⟨r1_15, hr1_15, h⟩ := bind_some h
  refine wl_act (act_callS (cap := []) (W_treatymade_Deck_Parts r1_13.2 Ba0 y1_13A0 r1_13.2.L.length y1_13c0 r1_15 hr1_15) rfl rfl rfl bd17 ⟨_, r0, rfl⟩ ⟨m0, trivial⟩) rfl rfl rfl ?_
  rintro _ _ _ ⟨_, _, ⟨y1_15A0, y1_15n0, y1_15c0, y1_15A1, y1_15n1, y1_15c1, rfl, rfl, rfl⟩, rfl, rfl⟩
  dsimp only [List.nil_append, List.cons_append]
  refine wl_know (fun _ h => h.lenO m0) (fun e => ?_)
  subst e
  refine wl_know (fun _ h => h.lenF m0) (fun e => ?_)
  subst e
  refine wl_det rfl rfl (det_build (cs := [_, _, _, _, _, _, _, _, _, _, _, _, _, _, _, _, _, _, _, _, _]) pl49 zr49 rfl rfl (by rfl)) rfl ?_
  refine wl_act (act_alloc (cs := [_, _, _, _, _, _, _, _, _, _, _, _, _, _, _, _, _, _, _, _, _]) zr49 rfl) rfl rfl rfl ?_
  rintro _ _ _ ⟨b1_17, rfl, rfl, rfl⟩
  refine wl_act0 (act_store (cells := [_, _, _, _, _, _, _, _, _, _, _, _, _, _, _, _, _, _, _, _, _]) (cs' := [_, _, _, _, _, _, _, _, _, _, _, _, _, _, _, _, _, _, _, _, _]) rfl rfl rfl s0 (by rfl) (of_decide_eq_true rfl) sz49 ⟨rfl, rfl, rfl, rfl, rfl, rfl, rfl, rfl, rfl, rfl, rfl, rfl, rfl, rfl, rfl, rfl, rfl, rfl, rfl, rfl, rfl, trivial⟩) rfl rfl ?_
  rintro _ _ _ ⟨rfl, rfl⟩
  refine wl_nil ?_
  refine pn_then ?_
  obtain ⟨q4, h, ho4⟩ := bind_some h
  refine wc_meetG (G := ((List Int) × Int × Int × Int × Int × Int × Int × Int) × Option Addr × Nat × Nat × Unit) (fun (s4, _, _, _, _) => s4 = q4) (fun (_, _, _, _, _) => [(0, .pointer (some ⟨Ba0, 0, none⟩)), (2, .int .i64 a2), (6, .pointer (some ⟨b0_0, 0, none⟩)), (7, .pointer (some ⟨b1_17, 0, none⟩))]) (fun (s4, A4_0, n4_0, c4_0, _) => [eBlk Ba0 71 [.slice A4_0 n4_0 c4_0, .int .i64 s4.2.1], eBlk b0_0 49 [.int .i64 0, .int .i64 0, .int .i64 0, .int .i64 0, .slice none 0 0, .slice none 0 0, .int .i64 0, .int .i64 0, .int .i64 0, .int .i64 0, .int .i64 0, .int .i64 0, .int .i64 0, .int .i64 0, .int .i64 0, .int .i64 0, .slice none 0 0, .bool false, .int .i64 0, .slice none 0 0, .slice none 0 0], eBlk b1_17 49 [.int .i64 a1, .int .i64 a2, .int .i64 r1_3.1, .int .i64 (w64 (60 + r1_5.1)), .slice y1_9A0 r1_9.1.length y1_9c0, .slice y1_11A0 r1_11.1.length y1_11c0, .int .i64 s4.2.2.1, .int .i64 s4.2.2.2.1, .int .i64 s4.2.2.2.2.1, .int .i64 s4.2.2.2.2.2.1, .int .i64 s4.2.2.2.2.2.2.1, .int .i64 s4.2.2.2.2.2.2.2, .int .i64 0, .int .i64 0, .int .i64 0, .int .i64 r1_13.1, .slice none 0 0, .bool false, .int .i64 0, .slice none 0 0, .slice y1_15A0 r1_15.1.length y1_15c0], eS (lInt .i64) 3 y1_9A0 r1_9.1.length y1_9c0 r1_9.1, eS (lInt .i64) 3 y1_11A0 r1_11.1.length y1_11c0 r1_11.1, eS lGPart 25 y1_15A0 r1_15.1.length y1_15c0 r1_15.1]) (fun (s4, A4_0, n4_0, c4_0, _) => [fV (lSlice (lInt .i64)) (.slice A4_0 n4_0 c4_0) s4.1]) ?_ ?_
  · refine wc_seq ?_
    refine wc_region ?_   -- region 2
    refine wl_det rfl rfl (det_move rfl) rfl ?_
    refine wl_nil ?_
    refine pn_then ?_
    refine wc_block ?_
    refine wc_seq ?_
    refine wc_region ?_   -- region 4
    refine wl_det rfl rfl (det_eql rfl rfl) rfl ?_
    refine wl_det rfl rfl (det_assign rfl) rfl ?_
    refine wl_nil ?_
    refine pn_then ?_
    refine wc_cond rfl (fun cd10 => ?_) (fun cd10 => ?_)
    · have h := ifT h cd10
      refine wc_seq ?_
      refine wc_region ?_   -- region 5
      refine wl_det rfl rfl (det_move rfl) rfl ?_
      obtain ⟨r5_1, hr5_1, h⟩ := bind_some h
      refine wl_act (act_callS (cap := []) (W_treatymade_Deck_Upto r1_15.2 999999 Ba0 y1_15A1 r1_15.2.L.length y1_15c1 r5_1 hr5_1) rfl rfl rfl bd28 ⟨_, (rs (rs r0)), rfl⟩ ⟨m0, trivial⟩) rfl rfl rfl ?_
      rintro _ _ _ ⟨_, _, ⟨y5_1A0, y5_1n0, y5_1c0, rfl, rfl, rfl⟩, rfl, rfl⟩
      dsimp only [List.nil_append, List.cons_append]
      refine wl_know (fun _ h => h.lenF m0) (fun e => ?_)
      subst e
      refine wl_det rfl rfl (det_add rfl rfl) rfl ?_
      refine wl_det rfl rfl (det_field rfl fd49_6 rfl) rfl ?_
      refine wl_act0 (act_store (cells := [_]) (cs' := [_, _, _, _, _, _, _, _, _, _, _, _, _, _, _, _, _, _, _, _, _]) rfl rfl rfl (ss s0) (by rfl) (of_decide_eq_true rfl) sz3 ⟨rfl, trivial⟩) rfl rfl ?_
      rintro _ _ _ ⟨rfl, rfl⟩
      refine wl_nil ?_
      refine pn_then ?_
      refine wc_seq ?_
      refine wc_region ?_   -- region 6
      refine wl_det rfl rfl (det_move rfl) rfl ?_
      obtain ⟨r6_1, hr6_1, h⟩ := bind_some h
      refine wl_act (act_callS (cap := []) (W_treatymade_Deck_Next r5_1.2 2 Ba0 y5_1A0 r5_1.2.L.length y5_1c0 r6_1 hr6_1) rfl rfl rfl bd45 ⟨_, r0, rfl⟩ ⟨m0, trivial⟩) rfl rfl rfl ?_
      rintro _ _ _ ⟨_, _, ⟨y6_1A0, y6_1n0, y6_1c0, rfl, rfl, rfl⟩, rfl, rfl⟩
      dsimp only [List.nil_append, List.cons_append]
      refine wl_know (fun _ h => h.lenF m0) (fun e => ?_)
      subst e
      refine wl_det rfl rfl (det_eql rfl rfl) rfl ?_
      refine wl_nil ?_
      refine pn_then ?_
      refine wc_cond rfl (fun cd15 => ?_) (fun cd15 => ?_)
      · have h := ifT h cd15
        refine wc_region ?_   -- region 7
        refine wl_det rfl rfl (det_move rfl) rfl ?_
        obtain ⟨r7_1, hr7_1, h⟩ := bind_some h
        refine wl_act (act_callS (cap := []) (W_treatymade_Deck_Money r6_1.2 Ba0 y6_1A0 r6_1.2.L.length y6_1c0 r7_1 hr7_1) rfl rfl rfl bd62 ⟨_, r0, rfl⟩ ⟨m0, trivial⟩) rfl rfl rfl ?_
        rintro _ _ _ ⟨_, _, ⟨y7_1A0, y7_1n0, y7_1c0, rfl, rfl, rfl⟩, rfl, rfl⟩
        dsimp only [List.nil_append, List.cons_append]
        refine wl_know (fun _ h => h.lenF m0) (fun e => ?_)
        subst e
        refine wl_det rfl rfl (det_field rfl fd49_10 rfl) rfl ?_
        refine wl_act0 (act_store (cells := [_]) (cs' := [_, _, _, _, _, _, _, _, _, _, _, _, _, _, _, _, _, _, _, _, _]) rfl rfl rfl (ss s0) (by rfl) (of_decide_eq_true rfl) sz3 ⟨rfl, trivial⟩) rfl rfl ?_
        rintro _ _ _ ⟨rfl, rfl⟩
        refine wl_nil ?_
        refine pn_block ?_
        replace h := Option.some.inj h
        subst h
        exact pn_meetG ((r7_1.2.L, r7_1.2.At, 0, (w64 (1 + r5_1.1)), 0, 0, 0, r7_1.1), y7_1A0, r7_1.2.L.length, y7_1c0, ()) rfl ⟨rfl, rfl, rfl, rfl, trivial⟩ (fun _ h => h.to ⟨_, r0, ⟨_, (rs (rs (rs (rs r0)))), ⟨_, r0, ⟨_, (rs (rs r0)), ⟨_, (rs r0), ⟨_, r0, trivial⟩⟩⟩⟩⟩⟩ ⟨m0, trivial⟩)
      · have h := ifF h cd15
        refine wc_skip ?_
        refine pn_block ?_
        replace h := Option.some.inj h
        subst h
        exact pn_meetG ((r6_1.2.L, r6_1.2.At, 0, (w64 (1 + r5_1.1)), 0, 0, 0, 0), y6_1A0, r6_1.2.L.length, y6_1c0, ()) rfl ⟨rfl, rfl, rfl, rfl, trivial⟩ (fun _ h => h.to ⟨_, r0, ⟨_, (rs (rs (rs (rs r0)))), ⟨_, r0, ⟨_, (rs (rs r0)), ⟨_, (rs r0), ⟨_, r0, trivial⟩⟩⟩⟩⟩⟩ ⟨m0, trivial⟩)
    · have h := ifF h cd10
      refine wc_seq ?_
      refine wc_region ?_   -- region 8
      refine wl_det rfl rfl (det_eql rfl rfl) rfl ?_
      refine wl_det rfl rfl (det_assign rfl) rfl ?_
      refine wl_nil ?_
      refine pn_then ?_
      refine wc_cond rfl (fun cd19 => ?_) (fun cd19 => ?_)
      · have h := ifT h cd19
        refine wc_region ?_   -- region 9
        refine wl_det rfl rfl (det_move rfl) rfl ?_
        obtain ⟨r9_1, hr9_1, h⟩ := bind_some h
        refine wl_act (act_callS (cap := []) (W_treatymade_Deck_Upto r1_15.2 1073741823 Ba0 y1_15A1 r1_15.2.L.length y1_15c1 r9_1 hr9_1) rfl rfl rfl bd28 ⟨_, (rs (rs r0)), rfl⟩ ⟨m0, trivial⟩) rfl rfl rfl ?_
        rintro _ _ _ ⟨_, _, ⟨y9_1A0, y9_1n0, y9_1c0, rfl, rfl, rfl⟩, rfl, rfl⟩
        dsimp only [List.nil_append, List.cons_append]
        refine wl_know (fun _ h => h.lenF m0) (fun e => ?_)
        subst e
        refine wl_det rfl rfl (det_add rfl rfl) rfl ?_
        refine wl_det rfl rfl (det_move rfl) rfl ?_
        obtain ⟨r9_4, hr9_4, h⟩ := bind_some h
        refine wl_act (act_callS (cap := []) (W_treatymade_Deck_Range r9_1.2 1 9 Ba0 y9_1A0 r9_1.2.L.length y9_1c0 r9_4 hr9_4) rfl rfl rfl bd55 ⟨_, r0, rfl⟩ ⟨m0, trivial⟩) rfl rfl rfl ?_
        rintro _ _ _ ⟨_, _, ⟨y9_4A0, y9_4n0, y9_4c0, rfl, rfl, rfl⟩, rfl, rfl⟩
        dsimp only [List.nil_append, List.cons_append]
        refine wl_know (fun _ h => h.lenF m0) (fun e => ?_)
        subst e
        refine wl_det rfl rfl (det_field rfl fd49_7 rfl) rfl ?_
        refine wl_act0 (act_store (cells := [_]) (cs' := [_, _, _, _, _, _, _, _, _, _, _, _, _, _, _, _, _, _, _, _, _]) rfl rfl rfl (ss s0) (by rfl) (of_decide_eq_true rfl) sz3 ⟨rfl, trivial⟩) rfl rfl ?_
        rintro _ _ _ ⟨rfl, rfl⟩
        refine wl_det rfl rfl (det_field rfl fd49_8 rfl) rfl ?_
        refine wl_act0 (act_store (cells := [_]) (cs' := [_, _, _, _, _, _, _, _, _, _, _, _, _, _, _, _, _, _, _, _, _]) rfl rfl rfl (ss s0) (by rfl) (of_decide_eq_true rfl) sz3 ⟨rfl, trivial⟩) rfl rfl ?_
        rintro _ _ _ ⟨rfl, rfl⟩
        refine wl_nil ?_
        refine pn_block ?_
        replace h := Option.some.inj h
        subst h
        exact pn_meetG ((r9_4.2.L, r9_4.2.At, 0, 0, (w64 (1 + r9_1.1)), r9_4.1, 0, 0), y9_4A0, r9_4.2.L.length, y9_4c0, ()) rfl ⟨rfl, rfl, rfl, rfl, trivial⟩ (fun _ h => h.to ⟨_, r0, ⟨_, (rs (rs (rs (rs r0)))), ⟨_, r0, ⟨_, (rs (rs r0)), ⟨_, (rs r0), ⟨_, r0, trivial⟩⟩⟩⟩⟩⟩ ⟨m0, trivial⟩)
      · have h := ifF h cd19
        refine wc_seq ?_
        refine wc_region ?_   -- region 10
        refine wl_det rfl rfl (det_eql rfl rfl) rfl ?_
        refine wl_det rfl rfl (det_assign rfl) rfl ?_
        refine wl_nil ?_
        refine pn_then ?_
        refine wc_cond rfl (fun cd23 => ?_) (fun cd23 => ?_)
        · have h := ifT h cd23
          refine wc_region ?_   -- region 11
          refine wl_det rfl rfl (det_move rfl) rfl ?_
          obtain ⟨r11_1, hr11_1, h⟩ := bind_some h
          refine wl_act (act_callS (cap := []) (W_treatymade_Deck_Range r1_15.2 1 4 Ba0 y1_15A1 r1_15.2.L.length y1_15c1 r11_1 hr11_1) rfl rfl rfl bd55 ⟨_, (rs (rs r0)), rfl⟩ ⟨m0, trivial⟩) rfl rfl rfl ?_
          rintro _ _ _ ⟨_, _, ⟨y11_1A0, y11_1n0, y11_1c0, rfl, rfl, rfl⟩, rfl, rfl⟩
          dsimp only [List.nil_append, List.cons_append]
          refine wl_know (fun _ h => h.lenF m0) (fun e => ?_)
          subst e
          refine wl_det rfl rfl (det_move rfl) rfl ?_
          obtain ⟨r11_3, hr11_3, h⟩ := bind_some h
          refine wl_act (act_callS (cap := []) (W_treatymade_Deck_Upto r11_1.2 999999 Ba0 y11_1A0 r11_1.2.L.length y11_1c0 r11_3 hr11_3) rfl rfl rfl bd28 ⟨_, r0, rfl⟩ ⟨m0, trivial⟩) rfl rfl rfl ?_
          rintro _ _ _ ⟨_, _, ⟨y11_3A0, y11_3n0, y11_3c0, rfl, rfl, rfl⟩, rfl, rfl⟩
          dsimp only [List.nil_append, List.cons_append]
          refine wl_know (fun _ h => h.lenF m0) (fun e => ?_)
          subst e
          refine wl_det rfl rfl (det_add rfl rfl) rfl ?_
          refine wl_det rfl rfl (det_field rfl fd49_5 rfl) rfl ?_
          refine wl_act0 (act_store (cells := [_]) (cs' := [_, _, _, _, _, _, _, _, _, _, _, _, _, _, _, _, _, _, _, _, _]) rfl rfl rfl (ss s0) (by rfl) (of_decide_eq_true rfl) sz3 ⟨rfl, trivial⟩) rfl rfl ?_
          rintro _ _ _ ⟨rfl, rfl⟩
          refine wl_det rfl rfl (det_field rfl fd49_6 rfl) rfl ?_
          refine wl_act0 (act_store (cells := [_]) (cs' := [_, _, _, _, _, _, _, _, _, _, _, _, _, _, _, _, _, _, _, _, _]) rfl rfl rfl (ss s0) (by rfl) (of_decide_eq_true rfl) sz3 ⟨rfl, trivial⟩) rfl rfl ?_
          rintro _ _ _ ⟨rfl, rfl⟩
          refine wl_nil ?_
          refine pn_block ?_
          replace h := Option.some.inj h
          subst h
          exact pn_meetG ((r11_3.2.L, r11_3.2.At, r11_1.1, (w64 (1 + r11_3.1)), 0, 0, 0, 0), y11_3A0, r11_3.2.L.length, y11_3c0, ()) rfl ⟨rfl, rfl, rfl, rfl, trivial⟩ (fun _ h => h.to ⟨_, r0, ⟨_, (rs (rs (rs (rs r0)))), ⟨_, r0, ⟨_, (rs (rs r0)), ⟨_, (rs r0), ⟨_, r0, trivial⟩⟩⟩⟩⟩⟩ ⟨m0, trivial⟩)
        · have h := ifF h cd23
          refine wc_region ?_   -- region 3
          refine wl_det rfl rfl (det_move rfl) rfl ?_
          obtain ⟨r3_1, hr3_1, h⟩ := bind_some h
          refine wl_act (act_callS (cap := []) (W_treatymade_Deck_Upto r1_15.2 1073741824 Ba0 y1_15A1 r1_15.2.L.length y1_15c1 r3_1 hr3_1) rfl rfl rfl bd28 ⟨_, (rs (rs r0)), rfl⟩ ⟨m0, trivial⟩) rfl rfl rfl ?_
          rintro _ _ _ ⟨_, _, ⟨y3_1A0, y3_1n0, y3_1c0, rfl, rfl, rfl⟩, rfl, rfl⟩
          dsimp only [List.nil_append, List.cons_append]
          refine wl_know (fun _ h => h.lenF m0) (fun e => ?_)
          subst e
          refine wl_det rfl rfl (det_move rfl) rfl ?_
          obtain ⟨r3_3, hr3_3, h⟩ := bind_some h
          refine wl_act (act_callS (cap := []) (W_treatymade_Deck_Upto r3_1.2 1073741823 Ba0 y3_1A0 r3_1.2.L.length y3_1c0 r3_3 hr3_3) rfl rfl rfl bd28 ⟨_, r0, rfl⟩ ⟨m0, trivial⟩) rfl rfl rfl ?_
          rintro _ _ _ ⟨_, _, ⟨y3_3A0, y3_3n0, y3_3c0, rfl, rfl, rfl⟩, rfl, rfl⟩
          dsimp only [List.nil_append, List.cons_append]
          refine wl_know (fun _ h => h.lenF m0) (fun e => ?_)
          subst e
          refine wl_det rfl rfl (det_add rfl rfl) rfl ?_
          refine wl_det rfl rfl (det_field rfl fd49_9 rfl) rfl ?_
          refine wl_act0 (act_store (cells := [_]) (cs' := [_, _, _, _, _, _, _, _, _, _, _, _, _, _, _, _, _, _, _, _, _]) rfl rfl rfl (ss s0) (by rfl) (of_decide_eq_true rfl) sz3 ⟨rfl, trivial⟩) rfl rfl ?_
          rintro _ _ _ ⟨rfl, rfl⟩
          refine wl_det rfl rfl (det_field rfl fd49_10 rfl) rfl ?_
          refine wl_act0 (act_store (cells := [_]) (cs' := [_, _, _, _, _, _, _, _, _, _, _, _, _, _, _, _, _, _, _, _, _]) rfl rfl rfl (ss s0) (by rfl) (of_decide_eq_true rfl) sz3 ⟨rfl, trivial⟩) rfl rfl ?_
          rintro _ _ _ ⟨rfl, rfl⟩
          refine wl_nil ?_
          refine pn_block ?_
          replace h := Option.some.inj h
          subst h
          exact pn_meetG ((r3_3.2.L, r3_3.2.At, 0, 0, 0, 0, r3_1.1, (w64 (1 + r3_3.1))), y3_3A0, r3_3.2.L.length, y3_3c0, ()) rfl ⟨rfl, rfl, rfl, rfl, trivial⟩ (fun _ h => h.to ⟨_, r0, ⟨_, (rs (rs (rs (rs r0)))), ⟨_, r0, ⟨_, (rs (rs r0)), ⟨_, (rs r0), ⟨_, r0, trivial⟩⟩⟩⟩⟩⟩ ⟨m0, trivial⟩)
  rintro ⟨s4, A4_0, n4_0, c4_0, _⟩ e4
  dsimp only at e4 ⊢
  subst e4
  have h := ho4
  refine wc_know (fun _ h => h.lenF m0) (fun e => ?_)
  subst e
  obtain ⟨q26, h, ho26⟩ := bind_some h
  refine wc_meetG (G := ((List Int) × Int × Int × Int × (List Int) × Bool) × Option Addr × Nat × Nat × Option Addr × Nat × Nat × Unit) (fun (s26, _, _, _, _, _, _, _) => s26 = q26) (fun (_, _, _, _, _, _, _, _) => [(0, .pointer (some ⟨Ba0, 0, none⟩)), (2, .int .i64 a2), (6, .pointer (some ⟨b0_0, 0, none⟩)), (7, .pointer (some ⟨b1_17, 0, none⟩))]) (fun (s26, A26_0, n26_0, c26_0, A26_3, n26_3, c26_3, _) => [eBlk Ba0 71 [.slice A26_0 n26_0 c26_0, .int .i64 s26.2.1], eBlk b0_0 49 [.int .i64 0, .int .i64 0, .int .i64 0, .int .i64 0, .slice none 0 0, .slice none 0 0, .int .i64 0, .int .i64 0, .int .i64 0, .int .i64 0, .int .i64 0, .int .i64 0, .int .i64 0, .int .i64 0, .int .i64 0, .int .i64 0, .slice none 0 0, .bool false, .int .i64 0, .slice none 0 0, .slice none 0 0], eBlk b1_17 49 [.int .i64 a1, .int .i64 a2, .int .i64 r1_3.1, .int .i64 (w64 (60 + r1_5.1)), .slice y1_9A0 r1_9.1.length y1_9c0, .slice y1_11A0 r1_11.1.length y1_11c0, .int .i64 s4.2.2.1, .int .i64 s4.2.2.2.1, .int .i64 s4.2.2.2.2.1, .int .i64 s4.2.2.2.2.2.1, .int .i64 s4.2.2.2.2.2.2.1, .int .i64 s4.2.2.2.2.2.2.2, .int .i64 0, .int .i64 s26.2.2.1, .int .i64 s26.2.2.2.1, .int .i64 r1_13.1, .slice A26_3 n26_3 c26_3, .bool s26.2.2.2.2.2, .int .i64 0, .slice none 0 0, .slice y1_15A0 r1_15.1.length y1_15c0], eS (lInt .i64) 3 y1_9A0 r1_9.1.length y1_9c0 r1_9.1, eS (lInt .i64) 3 y1_11A0 r1_11.1.length y1_11c0 r1_11.1, eS (lInt .i64) 3 A26_3 n26_3 c26_3 s26.2.2.2.2.1, eS lGPart 25 y1_15A0 r1_15.1.length y1_15c0 r1_15.1]) (fun (s26, A26_0, n26_0, c26_0, _, _, _, _) => [fV (lSlice (lInt .i64)) (.slice A26_0 n26_0 c26_0) s26.1]) ?_ ?_
  · refine wc_seq ?_
    refine wc_region ?_   -- region 12
    refine wl_det rfl rfl (det_move rfl) rfl ?_
    refine wl_det rfl rfl (det_eql rfl rfl) rfl ?_
    refine wl_det rfl rfl (det_move rfl) rfl ?_
    refine wl_way (decide (a2 = 4)) ((decide (a2 = 4)) || (decide (a2 = 5))) 3 69 (fun hg => ?_) (fun hg => ?_) ?_
    · have hg12_5 := hg
      refine wl_off rfl rfl rfl rfl rfl hg12_5 rfl ?_
      refine wl_off rfl rfl rfl rfl rfl hg12_5 rfl ?_
      refine wl_det rfl rfl (det_or_on (r := (decide (a2 = 5))) rfl rfl rfl hg12_5) rfl ?_
      exact wl_nil (pn_qnE (ext_cons rfl (ext_skip rfl (ext_skip rfl (ext_skip rfl ext_refl)))) (fun _ h => h))
    · have hg12_5a := hg
      refine wl_on rfl rfl rfl rfl hg12_5a ?_
      refine wl_det rfl rfl (det_move rfl) rfl ?_
      refine wl_on rfl rfl rfl rfl hg12_5a ?_
      refine wl_det rfl rfl (det_eql rfl rfl) rfl ?_
      refine wl_det rfl rfl (det_or_off rfl rfl rfl hg12_5a) rfl ?_
      exact wl_nil (pn_qnE (ext_cons rfl (ext_skip rfl (ext_skip rfl (ext_skip rfl ext_refl)))) (fun _ h => h))
    refine wl_nil ?_
    refine pn_then ?_
    refine wc_cond rfl (fun cd29 => ?_) (fun cd29 => ?_)
    · have h := ifT h cd29
      obtain ⟨q30, h, ho30⟩ := bind_some h
      refine wc_meetG (G := ((List Int) × Int × Int) × Option Addr × Nat × Nat × Unit) (fun (s30, _, _, _, _) => s30 = q30) (fun (_, _, _, _, _) => [(0, .pointer (some ⟨Ba0, 0, none⟩)), (2, .int .i64 a2), (6, .pointer (some ⟨b0_0, 0, none⟩)), (7, .pointer (some ⟨b1_17, 0, none⟩))]) (fun (s30, A30_0, n30_0, c30_0, _) => [eBlk Ba0 71 [.slice A30_0 n30_0 c30_0, .int .i64 s30.2.1], eBlk b0_0 49 [.int .i64 0, .int .i64 0, .int .i64 0, .int .i64 0, .slice none 0 0, .slice none 0 0, .int .i64 0, .int .i64 0, .int .i64 0, .int .i64 0, .int .i64 0, .int .i64 0, .int .i64 0, .int .i64 0, .int .i64 0, .int .i64 0, .slice none 0 0, .bool false, .int .i64 0, .slice none 0 0, .slice none 0 0], eBlk b1_17 49 [.int .i64 a1, .int .i64 a2, .int .i64 r1_3.1, .int .i64 (w64 (60 + r1_5.1)), .slice y1_9A0 r1_9.1.length y1_9c0, .slice y1_11A0 r1_11.1.length y1_11c0, .int .i64 s4.2.2.1, .int .i64 s4.2.2.2.1, .int .i64 s4.2.2.2.2.1, .int .i64 s4.2.2.2.2.2.1, .int .i64 s4.2.2.2.2.2.2.1, .int .i64 s4.2.2.2.2.2.2.2, .int .i64 0, .int .i64 s30.2.2, .int .i64 0, .int .i64 r1_13.1, .slice none 0 0, .bool false, .int .i64 0, .slice none 0 0, .slice y1_15A0 r1_15.1.length y1_15c0], eS (lInt .i64) 3 y1_9A0 r1_9.1.length y1_9c0 r1_9.1, eS (lInt .i64) 3 y1_11A0 r1_11.1.length y1_11c0 r1_11.1, eS lGPart 25 y1_15A0 r1_15.1.length y1_15c0 r1_15.1]) (fun (s30, A30_0, n30_0, c30_0, _) => [fV (lSlice (lInt .i64)) (.slice A30_0 n30_0 c30_0) s30.1]) ?_ ?_
      · refine wc_seq ?_
        refine wc_region ?_   -- region 13
        refine wl_det rfl rfl (det_move rfl) rfl ?_
        obtain ⟨r13_1, hr13_1, h⟩ := bind_some h
        refine wl_act (act_callS (cap := []) (W_treatymade_Deck_Next (GDeck.mk s4.1 s4.2.1) 2 Ba0 A4_0 s4.1.length c4_0 r13_1 hr13_1) rfl rfl rfl bd45 ⟨_, r0, rfl⟩ ⟨m0, trivial⟩) rfl rfl rfl ?_
        rintro _ _ _ ⟨_, _, ⟨y13_1A0, y13_1n0, y13_1c0, rfl, rfl, rfl⟩, rfl, rfl⟩
        dsimp only [List.nil_append, List.cons_append]
        refine wl_know (fun _ h => h.lenF m0) (fun e => ?_)
        subst e
        refine wl_det rfl rfl (det_eql rfl rfl) rfl ?_
        refine wl_nil ?_
        refine pn_then ?_
        refine wc_cond rfl (fun cd33 => ?_) (fun cd33 => ?_)
        · have h := ifT h cd33
          refine wc_region ?_   -- region 14
          refine wl_det rfl rfl (det_move rfl) rfl ?_
          obtain ⟨r14_1, hr14_1, h⟩ := bind_some h
          refine wl_act (act_callS (cap := []) (W_treatymade_Deck_Money r13_1.2 Ba0 y13_1A0 r13_1.2.L.length y13_1c0 r14_1 hr14_1) rfl rfl rfl bd62 ⟨_, r0, rfl⟩ ⟨m0, trivial⟩) rfl rfl rfl ?_
          rintro _ _ _ ⟨_, _, ⟨y14_1A0, y14_1n0, y14_1c0, rfl, rfl, rfl⟩, rfl, rfl⟩
          dsimp only [List.nil_append, List.cons_append]
          refine wl_know (fun _ h => h.lenF m0) (fun e => ?_)
          subst e
          refine wl_det rfl rfl (det_field rfl fd49_12 rfl) rfl ?_
          refine wl_act0 (act_store (cells := [_]) (cs' := [_, _, _, _, _, _, _, _, _, _, _, _, _, _, _, _, _, _, _, _, _]) rfl rfl rfl (ss (ss s0)) (by rfl) (of_decide_eq_true rfl) sz3 ⟨rfl, trivial⟩) rfl rfl ?_
          rintro _ _ _ ⟨rfl, rfl⟩
          refine wl_nil ?_
          replace h := Option.some.inj h
          subst h
          exact pn_meetG ((r14_1.2.L, r14_1.2.At, r14_1.1), y14_1A0, r14_1.2.L.length, y14_1c0, ()) rfl ⟨rfl, rfl, rfl, rfl, trivial⟩ (fun _ h => h.to ⟨_, r0, ⟨_, r0, ⟨_, r0, ⟨_, r0, ⟨_, r0, ⟨_, r0, trivial⟩⟩⟩⟩⟩⟩ ⟨m0, trivial⟩)
        · have h := ifF h cd33
          refine wc_skip ?_
          replace h := Option.some.inj h
          subst h
          exact pn_meetG ((r13_1.2.L, r13_1.2.At, 0), y13_1A0, r13_1.2.L.length, y13_1c0, ()) rfl ⟨rfl, rfl, rfl, rfl, trivial⟩ (fun _ h => h.to ⟨_, r0, ⟨_, r0, ⟨_, r0, ⟨_, r0, ⟨_, r0, ⟨_, r0, trivial⟩⟩⟩⟩⟩⟩ ⟨m0, trivial⟩)
      rintro ⟨s30, A30_0, n30_0, c30_0, _⟩ e30
      dsimp only at e30 ⊢
      subst e30
      have h := ho30
      refine wc_know (fun _ h => h.lenF m0) (fun e => ?_)
      subst e
      obtain ⟨q35, h, ho35⟩ := bind_some h
      refine wc_meetG (G := ((List Int) × Int × Int) × Option Addr × Nat × Nat × Unit) (fun (s35, _, _, _, _) => s35 = q35) (fun (_, _, _, _, _) => [(0, .pointer (some ⟨Ba0, 0, none⟩)), (2, .int .i64 a2), (6, .pointer (some ⟨b0_0, 0, none⟩)), (7, .pointer (some ⟨b1_17, 0, none⟩))]) (fun (s35, A35_0, n35_0, c35_0, _) => [eBlk Ba0 71 [.slice A35_0 n35_0 c35_0, .int .i64 s35.2.1], eBlk b0_0 49 [.int .i64 0, .int .i64 0, .int .i64 0, .int .i64 0, .slice none 0 0, .slice none 0 0, .int .i64 0, .int .i64 0, .int .i64 0, .int .i64 0, .int .i64 0, .int .i64 0, .int .i64 0, .int .i64 0, .int .i64 0, .int .i64 0, .slice none 0 0, .bool false, .int .i64 0, .slice none 0 0, .slice none 0 0], eBlk b1_17 49 [.int .i64 a1, .int .i64 a2, .int .i64 r1_3.1, .int .i64 (w64 (60 + r1_5.1)), .slice y1_9A0 r1_9.1.length y1_9c0, .slice y1_11A0 r1_11.1.length y1_11c0, .int .i64 s4.2.2.1, .int .i64 s4.2.2.2.1, .int .i64 s4.2.2.2.2.1, .int .i64 s4.2.2.2.2.2.1, .int .i64 s4.2.2.2.2.2.2.1, .int .i64 s4.2.2.2.2.2.2.2, .int .i64 0, .int .i64 s30.2.2, .int .i64 s35.2.2, .int .i64 r1_13.1, .slice none 0 0, .bool false, .int .i64 0, .slice none 0 0, .slice y1_15A0 r1_15.1.length y1_15c0], eS (lInt .i64) 3 y1_9A0 r1_9.1.length y1_9c0 r1_9.1, eS (lInt .i64) 3 y1_11A0 r1_11.1.length y1_11c0 r1_11.1, eS lGPart 25 y1_15A0 r1_15.1.length y1_15c0 r1_15.1]) (fun (s35, A35_0, n35_0, c35_0, _) => [fV (lSlice (lInt .i64)) (.slice A35_0 n35_0 c35_0) s35.1]) ?_ ?_
      · refine wc_seq ?_
        refine wc_region ?_   -- region 15
        refine wl_det rfl rfl (det_move rfl) rfl ?_
        obtain ⟨r15_1, hr15_1, h⟩ := bind_some h
        refine wl_act (act_callS (cap := []) (W_treatymade_Deck_Next (GDeck.mk s30.1 s30.2.1) 2 Ba0 A30_0 s30.1.length c30_0 r15_1 hr15_1) rfl rfl rfl bd45 ⟨_, r0, rfl⟩ ⟨m0, trivial⟩) rfl rfl rfl ?_
        rintro _ _ _ ⟨_, _, ⟨y15_1A0, y15_1n0, y15_1c0, rfl, rfl, rfl⟩, rfl, rfl⟩
        dsimp only [List.nil_append, List.cons_append]
        refine wl_know (fun _ h => h.lenF m0) (fun e => ?_)
        subst e
        refine wl_det rfl rfl (det_eql rfl rfl) rfl ?_
        refine wl_nil ?_
        refine pn_then ?_
        refine wc_cond rfl (fun cd38 => ?_) (fun cd38 => ?_)
        · have h := ifT h cd38
          refine wc_region ?_   -- region 16
          refine wl_det rfl rfl (det_move rfl) rfl ?_
          obtain ⟨r16_1, hr16_1, h⟩ := bind_some h
          refine wl_act (act_callS (cap := []) (W_treatymade_Deck_Money r15_1.2 Ba0 y15_1A0 r15_1.2.L.length y15_1c0 r16_1 hr16_1) rfl rfl rfl bd62 ⟨_, r0, rfl⟩ ⟨m0, trivial⟩) rfl rfl rfl ?_
          rintro _ _ _ ⟨_, _, ⟨y16_1A0, y16_1n0, y16_1c0, rfl, rfl, rfl⟩, rfl, rfl⟩
          dsimp only [List.nil_append, List.cons_append]
          refine wl_know (fun _ h => h.lenF m0) (fun e => ?_)
          subst e
          refine wl_det rfl rfl (det_field rfl fd49_13 rfl) rfl ?_
          refine wl_act0 (act_store (cells := [_]) (cs' := [_, _, _, _, _, _, _, _, _, _, _, _, _, _, _, _, _, _, _, _, _]) rfl rfl rfl (ss (ss s0)) (by rfl) (of_decide_eq_true rfl) sz3 ⟨rfl, trivial⟩) rfl rfl ?_
          rintro _ _ _ ⟨rfl, rfl⟩
          refine wl_nil ?_
          replace h := Option.some.inj h
          subst h
          exact pn_meetG ((r16_1.2.L, r16_1.2.At, r16_1.1), y16_1A0, r16_1.2.L.length, y16_1c0, ()) rfl ⟨rfl, rfl, rfl, rfl, trivial⟩ (fun _ h => h.to ⟨_, r0, ⟨_, r0, ⟨_, r0, ⟨_, r0, ⟨_, r0, ⟨_, r0, trivial⟩⟩⟩⟩⟩⟩ ⟨m0, trivial⟩)
        · have h := ifF h cd38
          refine wc_skip ?_
          replace h := Option.some.inj h
          subst h
          exact pn_meetG ((r15_1.2.L, r15_1.2.At, 0), y15_1A0, r15_1.2.L.length, y15_1c0, ()) rfl ⟨rfl, rfl, rfl, rfl, trivial⟩ (fun _ h => h.to ⟨_, r0, ⟨_, r0, ⟨_, r0, ⟨_, r0, ⟨_, r0, ⟨_, r0, trivial⟩⟩⟩⟩⟩⟩ ⟨m0, trivial⟩)
      rintro ⟨s35, A35_0, n35_0, c35_0, _⟩ e35
      dsimp only at e35 ⊢
      subst e35
      have h := ho35
      refine wc_know (fun _ h => h.lenF m0) (fun e => ?_)
      subst e
      obtain ⟨q40, h, ho40⟩ := bind_some h
      refine wc_meetG (G := ((List Int) × Int × (List Int)) × Option Addr × Nat × Nat × Option Addr × Nat × Nat × Unit) (fun (s40, _, _, _, _, _, _, _) => s40 = q40) (fun (_, _, _, _, _, _, _, _) => [(0, .pointer (some ⟨Ba0, 0, none⟩)), (2, .int .i64 a2), (6, .pointer (some ⟨b0_0, 0, none⟩)), (7, .pointer (some ⟨b1_17, 0, none⟩))]) (fun (s40, A40_0, n40_0, c40_0, A40_3, n40_3, c40_3, _) => [eBlk Ba0 71 [.slice A40_0 n40_0 c40_0, .int .i64 s40.2.1], eBlk b0_0 49 [.int .i64 0, .int .i64 0, .int .i64 0, .int .i64 0, .slice none 0 0, .slice none 0 0, .int .i64 0, .int .i64 0, .int .i64 0, .int .i64 0, .int .i64 0, .int .i64 0, .int .i64 0, .int .i64 0, .int .i64 0, .int .i64 0, .slice none 0 0, .bool false, .int .i64 0, .slice none 0 0, .slice none 0 0], eBlk b1_17 49 [.int .i64 a1, .int .i64 a2, .int .i64 r1_3.1, .int .i64 (w64 (60 + r1_5.1)), .slice y1_9A0 r1_9.1.length y1_9c0, .slice y1_11A0 r1_11.1.length y1_11c0, .int .i64 s4.2.2.1, .int .i64 s4.2.2.2.1, .int .i64 s4.2.2.2.2.1, .int .i64 s4.2.2.2.2.2.1, .int .i64 s4.2.2.2.2.2.2.1, .int .i64 s4.2.2.2.2.2.2.2, .int .i64 0, .int .i64 s30.2.2, .int .i64 s35.2.2, .int .i64 r1_13.1, .slice A40_3 n40_3 c40_3, .bool false, .int .i64 0, .slice none 0 0, .slice y1_15A0 r1_15.1.length y1_15c0], eS (lInt .i64) 3 y1_9A0 r1_9.1.length y1_9c0 r1_9.1, eS (lInt .i64) 3 y1_11A0 r1_11.1.length y1_11c0 r1_11.1, eS (lInt .i64) 3 A40_3 n40_3 c40_3 s40.2.2, eS lGPart 25 y1_15A0 r1_15.1.length y1_15c0 r1_15.1]) (fun (s40, A40_0, n40_0, c40_0, _, _, _, _) => [fV (lSlice (lInt .i64)) (.slice A40_0 n40_0 c40_0) s40.1]) ?_ ?_
      · refine wc_seq ?_
        refine wc_region ?_   -- region 17
        refine wl_det rfl rfl (det_move rfl) rfl ?_
        obtain ⟨r17_1, hr17_1, h⟩ := bind_some h
        refine wl_act (act_callS (cap := []) (W_treatymade_Deck_Next (GDeck.mk s35.1 s35.2.1) 4 Ba0 A35_0 s35.1.length c35_0 r17_1 hr17_1) rfl rfl rfl bd45 ⟨_, r0, rfl⟩ ⟨m0, trivial⟩) rfl rfl rfl ?_
        rintro _ _ _ ⟨_, _, ⟨y17_1A0, y17_1n0, y17_1c0, rfl, rfl, rfl⟩, rfl, rfl⟩
        dsimp only [List.nil_append, List.cons_append]
        refine wl_know (fun _ h => h.lenF m0) (fun e => ?_)
        subst e
        refine wl_det rfl rfl (det_assign rfl) rfl ?_
        refine wl_nil ?_
        refine pn_then ?_
        refine wc_block ?_
        refine wc_st (fun _ h => h.zeroS (lInt .i64) 3 none) ?_
        obtain ⟨k44, hk44⟩ := loopV_some.1 h
        refine wc_loop (G := Nat × ((List Int) × Int × (List Int) × Int) × Option Addr × Nat × Nat × Option Addr × Nat × Nat × Unit) (fun g => IterN treatymade_Deck_Treaty_l44 g.1 g.2.1 q40) (fun g => g.1) (fun (_, s44, _, _, _, _, _, _, _) => [(0, .pointer (some ⟨Ba0, 0, none⟩)), (2, .int .i64 a2), (6, .pointer (some ⟨b0_0, 0, none⟩)), (7, .pointer (some ⟨b1_17, 0, none⟩)), (8, .int .i64 s44.2.2.2)]) (fun (_, s44, A44_0, n44_0, c44_0, A44_3, n44_3, c44_3, _) => [eBlk Ba0 71 [.slice A44_0 n44_0 c44_0, .int .i64 s44.2.1], eBlk b0_0 49 [.int .i64 0, .int .i64 0, .int .i64 0, .int .i64 0, .slice none 0 0, .slice none 0 0, .int .i64 0, .int .i64 0, .int .i64 0, .int .i64 0, .int .i64 0, .int .i64 0, .int .i64 0, .int .i64 0, .int .i64 0, .int .i64 0, .slice none 0 0, .bool false, .int .i64 0, .slice none 0 0, .slice none 0 0], eBlk b1_17 49 [.int .i64 a1, .int .i64 a2, .int .i64 r1_3.1, .int .i64 (w64 (60 + r1_5.1)), .slice y1_9A0 r1_9.1.length y1_9c0, .slice y1_11A0 r1_11.1.length y1_11c0, .int .i64 s4.2.2.1, .int .i64 s4.2.2.2.1, .int .i64 s4.2.2.2.2.1, .int .i64 s4.2.2.2.2.2.1, .int .i64 s4.2.2.2.2.2.2.1, .int .i64 s4.2.2.2.2.2.2.2, .int .i64 0, .int .i64 s30.2.2, .int .i64 s35.2.2, .int .i64 r1_13.1, .slice A44_3 n44_3 c44_3, .bool false, .int .i64 0, .slice none 0 0, .slice y1_15A0 r1_15.1.length y1_15c0], eS (lInt .i64) 3 y1_9A0 r1_9.1.length y1_9c0 r1_9.1, eS (lInt .i64) 3 y1_11A0 r1_11.1.length y1_11c0 r1_11.1, eS (lInt .i64) 3 A44_3 n44_3 c44_3 s44.2.2.1, eS lGPart 25 y1_15A0 r1_15.1.length y1_15c0 r1_15.1]) (fun (_, s44, A44_0, n44_0, c44_0, _, _, _, _) => [fV (lSlice (lInt .i64)) (.slice A44_0 n44_0 c44_0) s44.1]) (k44, (r17_1.2.L, r17_1.2.At, [], r17_1.1), y17_1A0, r17_1.2.L.length, y17_1c0, none, 0, 0, ()) hk44 ⟨rfl, rfl, rfl, rfl, rfl, trivial⟩ (fun _ h => h.to ⟨_, (rs r0), ⟨_, (rs r0), ⟨_, (rs r0), ⟨_, (rs r0), ⟨_, (rs r0), ⟨_, r0, ⟨_, r0, trivial⟩⟩⟩⟩⟩⟩⟩ ⟨m0, trivial⟩) ?_
        rintro ⟨k44, s44, A44_0, n44_0, c44_0, A44_3, n44_3, c44_3, _⟩ hI
        obtain ⟨k44, rfl, q44, h, g44⟩ := IterN.pos hI
        dsimp only at h ⊢
        unfold treatymade_Deck_Treaty_l44 at h
        refine wc_know (fun _ h => h.lenF m0) (fun e => ?_)
        subst e
        refine wc_know (fun _ h => h.lenO (ms (ms (ms (ms (ms m0)))))) (fun e => ?_)
        subst e
        refine wc_seq ?_
        refine wc_seq ?_
        refine wc_region ?_   -- region 18
        refine wl_det rfl rfl (det_move rfl) rfl ?_
        refine wl_det rfl rfl (det_gtr rfl rfl) rfl ?_
        refine wl_nil ?_
        refine pn_then ?_
        refine wc_cond rfl (fun cd48 => ?_) (fun cd48 => ?_)
        · have h := ifT h cd48
          refine wc_skip ?_
          refine pn_then ?_
          refine wc_seq ?_
          refine wc_block ?_
          refine dx_regionZ (Z := St C [_, _, _, _, _, _] [_]) 5 [[], [0], [], [2], [2, 3], [0, 1, 2, 3, 4], [0, 1, 2, 3, 4, 5], [0, 1, 2, 3, 4, 5, 6]] mixed (ord := (.det 0 (.det 1 (.det 2 (.alt 3 (.alt 4 .done .dead) .dead))))) (by kernel_rfl) (fun _ h => h.to ⟨_, (rs r0), ⟨_, (rs r0), ⟨_, (rs r0), ⟨_, (rs r0), ⟨_, (rs r0), ⟨_, (rs r0), trivial⟩⟩⟩⟩⟩⟩ ⟨m0, trivial⟩) ?_   -- region 20
          refine hx_det rfl rfl rfl nofun (det_field rfl fd49_15 rfl) rfl ?_
          refine hx_det rfl rfl rfl nofun (det_load rfl (ms m0) (by rfl) na23 us23) rfl ?_
          refine hx_det rfl rfl rfl nofun (det_move rfl) rfl ?_
          obtain ⟨r20_3, hr20_3, h⟩ := bind_some h
          refine hx_mut rfl rfl rfl (act_callS (cap := []) (W_treatymade_Deck_Upto (GDeck.mk s44.1 s44.2.1) 2000000 Ba0 A44_0 s44.1.length c44_0 r20_3 hr20_3) rfl rfl rfl bd28 ⟨_, r0, rfl⟩ ⟨m0, trivial⟩) rfl (by rintro _ _ _ ⟨_, _, ⟨y20_3A0, y20_3n0, y20_3c0, rfl, rfl, rfl⟩, rfl, rfl⟩ w hs; exact hs.to ⟨_, (rs r0), ⟨_, (rs r0), ⟨_, (rs r0), ⟨_, (rs r0), ⟨_, (rs r0), ⟨_, (rs r0), trivial⟩⟩⟩⟩⟩⟩ ⟨(ms m0), trivial⟩) ?_
          rintro _ _ _ ⟨_, _, ⟨y20_3A0, y20_3n0, y20_3c0, rfl, rfl, rfl⟩, rfl, rfl⟩
          dsimp only [List.nil_append, List.cons_append]
          refine hx_mut rfl rfl rfl (act_litS (lInt .i64) (vs := [_]) (cs := [_]) [r20_3.1] un23 in3 rfl rfl rfl rfl rfl ⟨rfl, trivial⟩ (by rfl) rfl (litR_flat rfl)) rfl (by rintro _ _ _ ⟨A20_4, rfl, rfl, rfl⟩ w hs; exact hs.to ⟨_, (rs (rs r0)), ⟨_, (rs (rs r0)), ⟨_, (rs (rs r0)), ⟨_, (rs (rs r0)), ⟨_, (rs (rs r0)), ⟨_, (rs (rs r0)), trivial⟩⟩⟩⟩⟩⟩ ⟨(ms m0), trivial⟩) ?_
          rintro _ _ _ ⟨A20_4, rfl, rfl, rfl⟩
          refine hx_end ?_
          refine wl_know (fun _ h => h.lenF m0) (fun e => ?_)
          subst e
          obtain ⟨k20_5, h⟩ := chk_some h
          refine wl_act (act_appendS (L := (lInt .i64)) rfl rfl (ss (ss (ss (ss (ss (ss s0)))))) (src_O m0) un23 in3 rfl rfl rfl k20_5) rfl rfl rfl ?_
          rintro _ _ _ ⟨A20_5, c20_5, rfl, rfl, rfl⟩
          refine wl_det rfl rfl (det_field rfl fd49_15 rfl) rfl ?_
          refine wl_act0 (act_store (cells := [_]) (cs' := [_, _, _, _, _, _, _, _, _, _, _, _, _, _, _, _, _, _, _, _, _]) rfl rfl rfl (ss (ss (ss s0))) (by rfl) (of_decide_eq_true rfl) sz23 ⟨rfl, trivial⟩) rfl rfl ?_
          rintro _ _ _ ⟨rfl, rfl⟩
          refine wl_nil ?_
          refine pn_block ?_
          refine pn_then ?_
          refine wc_region ?_   -- region 19
          refine wl_det rfl rfl (det_move rfl) rfl ?_
          refine wl_det rfl rfl (det_sub rfl rfl) rfl ?_
          refine wl_det rfl rfl (det_assign rfl) rfl ?_
          refine wl_nil ?_
          replace h := Option.some.inj h
          subst h
          exact pn_some (k44, (r20_3.2.L, r20_3.2.At, (s44.2.2.1 ++ [r20_3.1]), (w64 (s44.2.2.2 - 1))), y20_3A0, r20_3.2.L.length, y20_3c0, A20_5, (s44.2.2.1 ++ [r20_3.1]).length, c20_5, ()) ⟨nextL g44, Nat.lt_succ_self _⟩ ⟨rfl, rfl, rfl, rfl, rfl, trivial⟩ (fun _ h => h.to ⟨_, (rs r0), ⟨_, (rs r0), ⟨_, (rs r0), ⟨_, (rs r0), ⟨_, (rs r0), ⟨_, (rs r0), ⟨_, (rs r0), trivial⟩⟩⟩⟩⟩⟩⟩ ⟨m0, trivial⟩)
        · have h := ifF h cd48
          refine wc_exit ?_
          refine px_then ?_
          refine px_then ?_
          refine px_block ?_
          replace h := Option.some.inj h
          subst h
          replace g44 := nextR g44
          subst g44
          exact pn_meetG ((s44.1, s44.2.1, s44.2.2.1), A44_0, s44.1.length, c44_0, A44_3, s44.2.2.1.length, c44_3, ()) rfl ⟨rfl, rfl, rfl, rfl, trivial⟩ (fun _ h => h.to ⟨_, r0, ⟨_, r0, ⟨_, r0, ⟨_, r0, ⟨_, r0, ⟨_, r0, ⟨_, r0, trivial⟩⟩⟩⟩⟩⟩⟩ ⟨m0, trivial⟩)
      rintro ⟨s40, A40_0, n40_0, c40_0, A40_3, n40_3, c40_3, _⟩ e40
      dsimp only at e40 ⊢
      subst e40
      have h := ho40
      refine wc_know (fun _ h => h.lenF m0) (fun e => ?_)
      subst e
      refine wc_know (fun _ h => h.lenO (ms (ms (ms (ms (ms m0)))))) (fun e => ?_)
      subst e
      refine wc_region ?_   -- region 21
      refine wl_det rfl rfl (det_field rfl fd49_15 rfl) rfl ?_
      refine wl_det rfl rfl (det_load rfl (ms (ms m0)) (by rfl) na23 us23) rfl ?_
      refine wl_det rfl rfl (det_len rfl un23) rfl ?_
      refine wl_det rfl rfl (det_gtr rfl rfl) rfl ?_
      refine wl_det rfl rfl (det_move rfl) rfl ?_
      rcases Bool.eq_false_or_eq_true (decide (0 < (s40.2.2.length : Int))) with hg21_f5 | hg21_f5
      · have h := ifT h hg21_f5
        refine wl_on rfl rfl rfl rfl hg21_f5 ?_
        refine wl_det rfl rfl (det_move rfl) rfl ?_
        refine wl_on rfl rfl rfl rfl hg21_f5 ?_
        obtain ⟨r21_6, hr21_6, h⟩ := bind_some h
        refine wl_act (act_callS (cap := []) (W_treatymade_Deck_Next (GDeck.mk s40.1 s40.2.1) 2 Ba0 A40_0 s40.1.length c40_0 r21_6 hr21_6) rfl rfl rfl bd45 ⟨_, r0, rfl⟩ ⟨m0, trivial⟩) rfl rfl rfl ?_
        rintro _ _ _ ⟨_, _, ⟨y21_6A0, y21_6n0, y21_6c0, rfl, rfl, rfl⟩, rfl, rfl⟩
        dsimp only [List.nil_append, List.cons_append]
        refine wl_know (fun _ h => h.lenF m0) (fun e => ?_)
        subst e
        refine wl_on rfl rfl rfl rfl hg21_f5 ?_
        refine wl_det rfl rfl (det_eql rfl rfl) rfl ?_
        refine wl_det rfl rfl (det_pick_on rfl hg21_f5 rfl rfl) rfl ?_
        refine wl_det rfl rfl (det_field rfl fd49_16 rfl) rfl ?_
        refine wl_act0 (act_store (cells := [_]) (cs' := [_, _, _, _, _, _, _, _, _, _, _, _, _, _, _, _, _, _, _, _, _]) rfl rfl rfl (ss (ss s0)) (by rfl) (of_decide_eq_true rfl) sz4 ⟨rfl, trivial⟩) rfl rfl ?_
        rintro _ _ _ ⟨rfl, rfl⟩
        refine wl_nil ?_
        replace h := Option.some.inj h
        subst h
        exact pn_meetG ((r21_6.2.L, r21_6.2.At, s30.2.2, s35.2.2, s40.2.2, (decide (r21_6.1 = 1))), y21_6A0, r21_6.2.L.length, y21_6c0, A40_3, s40.2.2.length, c40_3, ()) rfl ⟨rfl, rfl, rfl, rfl, trivial⟩ (fun _ h => h.to ⟨_, r0, ⟨_, r0, ⟨_, r0, ⟨_, r0, ⟨_, r0, ⟨_, r0, ⟨_, r0, trivial⟩⟩⟩⟩⟩⟩⟩ ⟨m0, trivial⟩)
      · have h := ifF h hg21_f5
        refine wl_off rfl rfl rfl rfl rfl hg21_f5 rfl ?_
        refine wl_off rfl rfl rfl rfl rfl hg21_f5 rfl ?_
        refine wl_off rfl rfl rfl rfl rfl hg21_f5 rfl ?_
        refine wl_det rfl rfl (det_pick_off rfl hg21_f5 rfl rfl) rfl ?_
        refine wl_det rfl rfl (det_field rfl fd49_16 rfl) rfl ?_
        refine wl_act0 (act_store (cells := [_]) (cs' := [_, _, _, _, _, _, _, _, _, _, _, _, _, _, _, _, _, _, _, _, _]) rfl rfl rfl (ss (ss s0)) (by rfl) (of_decide_eq_true rfl) sz4 ⟨rfl, trivial⟩) rfl rfl ?_
        rintro _ _ _ ⟨rfl, rfl⟩
        refine wl_nil ?_
        replace h := Option.some.inj h
        subst h
        exact pn_meetG ((s40.1, s40.2.1, s30.2.2, s35.2.2, s40.2.2, false), A40_0, s40.1.length, c40_0, A40_3, s40.2.2.length, c40_3, ()) rfl ⟨rfl, rfl, rfl, rfl, trivial⟩ (fun _ h => h.to ⟨_, r0, ⟨_, r0, ⟨_, r0, ⟨_, r0, ⟨_, r0, ⟨_, r0, ⟨_, r0, trivial⟩⟩⟩⟩⟩⟩⟩ ⟨m0, trivial⟩)
    · have h := ifF h cd29
      refine wc_skip ?_
      refine pn_st (fun _ h => h.zeroS (lInt .i64) 3 none) ?_
      replace h := Option.some.inj h
      subst h
      exact pn_meetG ((s4.1, s4.2.1, 0, 0, [], false), A4_0, s4.1.length, c4_0, none, 0, 0, ()) rfl ⟨rfl, rfl, rfl, rfl, trivial⟩ (fun _ h => h.to ⟨_, (rs r0), ⟨_, (rs r0), ⟨_, (rs r0), ⟨_, (rs r0), ⟨_, (rs r0), ⟨_, r0, ⟨_, r0, trivial⟩⟩⟩⟩⟩⟩⟩ ⟨m0, trivial⟩)
  rintro ⟨s26, A26_0, n26_0, c26_0, A26_3, n26_3, c26_3, _⟩ e26
  dsimp only at e26 ⊢
  subst e26
  have h := ho26
  refine wc_know (fun _ h => h.lenF m0) (fun e => ?_)
  subst e
  refine wc_know (fun _ h => h.lenO (ms (ms (ms (ms (ms m0)))))) (fun e => ?_)
  subst e
  obtain ⟨q55, h, ho55⟩ := bind_some h
  refine wc_meetG (G := ((List Int) × Int × Int) × Option Addr × Nat × Nat × Unit) (fun (s55, _, _, _, _) => s55 = q55) (fun (_, _, _, _, _) => [(0, .pointer (some ⟨Ba0, 0, none⟩)), (2, .int .i64 a2), (6, .pointer (some ⟨b0_0, 0, none⟩)), (7, .pointer (some ⟨b1_17, 0, none⟩))]) (fun (s55, A55_0, n55_0, c55_0, _) => [eBlk Ba0 71 [.slice A55_0 n55_0 c55_0, .int .i64 s55.2.1], eBlk b0_0 49 [.int .i64 0, .int .i64 0, .int .i64 0, .int .i64 0, .slice none 0 0, .slice none 0 0, .int .i64 0, .int .i64 0, .int .i64 0, .int .i64 0, .int .i64 0, .int .i64 0, .int .i64 0, .int .i64 0, .int .i64 0, .int .i64 0, .slice none 0 0, .bool false, .int .i64 0, .slice none 0 0, .slice none 0 0], eBlk b1_17 49 [.int .i64 a1, .int .i64 a2, .int .i64 r1_3.1, .int .i64 (w64 (60 + r1_5.1)), .slice y1_9A0 r1_9.1.length y1_9c0, .slice y1_11A0 r1_11.1.length y1_11c0, .int .i64 s4.2.2.1, .int .i64 s4.2.2.2.1, .int .i64 s4.2.2.2.2.1, .int .i64 s4.2.2.2.2.2.1, .int .i64 s4.2.2.2.2.2.2.1, .int .i64 s4.2.2.2.2.2.2.2, .int .i64 0, .int .i64 s26.2.2.1, .int .i64 s26.2.2.2.1, .int .i64 r1_13.1, .slice A26_3 s26.2.2.2.2.1.length c26_3, .bool s26.2.2.2.2.2, .int .i64 s55.2.2, .slice none 0 0, .slice y1_15A0 r1_15.1.length y1_15c0], eS (lInt .i64) 3 y1_9A0 r1_9.1.length y1_9c0 r1_9.1, eS (lInt .i64) 3 y1_11A0 r1_11.1.length y1_11c0 r1_11.1, eS (lInt .i64) 3 A26_3 s26.2.2.2.2.1.length c26_3 s26.2.2.2.2.1, eS lGPart 25 y1_15A0 r1_15.1.length y1_15c0 r1_15.1]) (fun (s55, A55_0, n55_0, c55_0, _) => [fV (lSlice (lInt .i64)) (.slice A55_0 n55_0 c55_0) s55.1]) ?_ ?_
  · obtain ⟨q56, h, ho56⟩ := bind_some h
    refine wc_meetG (G := ((List Int) × Int × Bool) × Option Addr × Nat × Nat × Unit) (fun (s56, _, _, _, _) => s56 = q56) (fun (s56, _, _, _, _) => [(0, .pointer (some ⟨Ba0, 0, none⟩)), (2, .int .i64 a2), (6, .pointer (some ⟨b0_0, 0, none⟩)), (7, .pointer (some ⟨b1_17, 0, none⟩)), (111, .bool s56.2.2)]) (fun (s56, A56_0, n56_0, c56_0, _) => [eBlk Ba0 71 [.slice A56_0 n56_0 c56_0, .int .i64 s56.2.1], eBlk b0_0 49 [.int .i64 0, .int .i64 0, .int .i64 0, .int .i64 0, .slice none 0 0, .slice none 0 0, .int .i64 0, .int .i64 0, .int .i64 0, .int .i64 0, .int .i64 0, .int .i64 0, .int .i64 0, .int .i64 0, .int .i64 0, .int .i64 0, .slice none 0 0, .bool false, .int .i64 0, .slice none 0 0, .slice none 0 0], eBlk b1_17 49 [.int .i64 a1, .int .i64 a2, .int .i64 r1_3.1, .int .i64 (w64 (60 + r1_5.1)), .slice y1_9A0 r1_9.1.length y1_9c0, .slice y1_11A0 r1_11.1.length y1_11c0, .int .i64 s4.2.2.1, .int .i64 s4.2.2.2.1, .int .i64 s4.2.2.2.2.1, .int .i64 s4.2.2.2.2.2.1, .int .i64 s4.2.2.2.2.2.2.1, .int .i64 s4.2.2.2.2.2.2.2, .int .i64 0, .int .i64 s26.2.2.1, .int .i64 s26.2.2.2.1, .int .i64 r1_13.1, .slice A26_3 s26.2.2.2.2.1.length c26_3, .bool s26.2.2.2.2.2, .int .i64 0, .slice none 0 0, .slice y1_15A0 r1_15.1.length y1_15c0], eS (lInt .i64) 3 y1_9A0 r1_9.1.length y1_9c0 r1_9.1, eS (lInt .i64) 3 y1_11A0 r1_11.1.length y1_11c0 r1_11.1, eS (lInt .i64) 3 A26_3 s26.2.2.2.2.1.length c26_3 s26.2.2.2.2.1, eS lGPart 25 y1_15A0 r1_15.1.length y1_15c0 r1_15.1]) (fun (s56, A56_0, n56_0, c56_0, _) => [fV (lSlice (lInt .i64)) (.slice A56_0 n56_0 c56_0) s56.1]) ?_ ?_
    · refine wc_region ?_   -- region 22
      refine wl_det rfl rfl (det_move rfl) rfl ?_
      refine wl_det rfl rfl (det_eql rfl rfl) rfl ?_
      refine wl_det rfl rfl (det_move rfl) rfl ?_
      rcases Bool.eq_false_or_eq_true (decide (a2 = 4)) with hg22_f3 | hg22_f3
      · have h := ifT h hg22_f3
        refine wl_on rfl rfl rfl rfl hg22_f3 ?_
        refine wl_det rfl rfl (det_move rfl) rfl ?_
        refine wl_on rfl rfl rfl rfl hg22_f3 ?_
        obtain ⟨r22_4, hr22_4, h⟩ := bind_some h
        refine wl_act (act_callS (cap := []) (W_treatymade_Deck_Next (GDeck.mk s26.1 s26.2.1) 2 Ba0 A26_0 s26.1.length c26_0 r22_4 hr22_4) rfl rfl rfl bd45 ⟨_, r0, rfl⟩ ⟨m0, trivial⟩) rfl rfl rfl ?_
        rintro _ _ _ ⟨_, _, ⟨y22_4A0, y22_4n0, y22_4c0, rfl, rfl, rfl⟩, rfl, rfl⟩
        dsimp only [List.nil_append, List.cons_append]
        refine wl_know (fun _ h => h.lenF m0) (fun e => ?_)
        subst e
        refine wl_on rfl rfl rfl rfl hg22_f3 ?_
        refine wl_det rfl rfl (det_eql rfl rfl) rfl ?_
        refine wl_det rfl rfl (det_pick_on rfl hg22_f3 rfl rfl) rfl ?_
        refine wl_nil ?_
        replace h := Option.some.inj h
        subst h
        exact pn_meetG ((r22_4.2.L, r22_4.2.At, (decide (r22_4.1 = 1))), y22_4A0, r22_4.2.L.length, y22_4c0, ()) rfl ⟨rfl, rfl, rfl, rfl, rfl, trivial⟩ (fun _ h => h.to ⟨_, r0, ⟨_, r0, ⟨_, r0, ⟨_, r0, ⟨_, r0, ⟨_, r0, ⟨_, r0, trivial⟩⟩⟩⟩⟩⟩⟩ ⟨m0, trivial⟩)
      · have h := ifF h hg22_f3
        refine wl_off rfl rfl rfl rfl rfl hg22_f3 rfl ?_
        refine wl_off rfl rfl rfl rfl rfl hg22_f3 rfl ?_
        refine wl_off rfl rfl rfl rfl rfl hg22_f3 rfl ?_
        refine wl_det rfl rfl (det_pick_off rfl hg22_f3 rfl rfl) rfl ?_
        refine wl_nil ?_
        replace h := Option.some.inj h
        subst h
        exact pn_meetG ((s26.1, s26.2.1, false), A26_0, s26.1.length, c26_0, ()) rfl ⟨rfl, rfl, rfl, rfl, rfl, trivial⟩ (fun _ h => h.to ⟨_, r0, ⟨_, r0, ⟨_, r0, ⟨_, r0, ⟨_, r0, ⟨_, r0, ⟨_, r0, trivial⟩⟩⟩⟩⟩⟩⟩ ⟨m0, trivial⟩)
    rintro ⟨s56, A56_0, n56_0, c56_0, _⟩ e56
    dsimp only at e56 ⊢
    subst e56
    have h := ho56
    refine wc_know (fun _ h => h.lenF m0) (fun e => ?_)
    subst e
    refine wc_cond rfl (fun cd58 => ?_) (fun cd58 => ?_)
    · have h := ifT h cd58
      refine wc_region ?_   -- region 23
      refine wl_det rfl rfl (det_move rfl) rfl ?_
      obtain ⟨r23_1, hr23_1, h⟩ := bind_some h
      refine wl_act (act_callS (cap := []) (W_treatymade_Deck_Upto (GDeck.mk s56.1 s56.2.1) 1000 Ba0 A56_0 s56.1.length c56_0 r23_1 hr23_1) rfl rfl rfl bd28 ⟨_, r0, rfl⟩ ⟨m0, trivial⟩) rfl rfl rfl ?_
      rintro _ _ _ ⟨_, _, ⟨y23_1A0, y23_1n0, y23_1c0, rfl, rfl, rfl⟩, rfl, rfl⟩
      dsimp only [List.nil_append, List.cons_append]
      refine wl_know (fun _ h => h.lenF m0) (fun e => ?_)
      subst e
      refine wl_det rfl rfl (det_add rfl rfl) rfl ?_
      refine wl_det rfl rfl (det_field rfl fd49_17 rfl) rfl ?_
      refine wl_act0 (act_store (cells := [_]) (cs' := [_, _, _, _, _, _, _, _, _, _, _, _, _, _, _, _, _, _, _, _, _]) rfl rfl rfl (ss (ss s0)) (by rfl) (of_decide_eq_true rfl) sz3 ⟨rfl, trivial⟩) rfl rfl ?_
      rintro _ _ _ ⟨rfl, rfl⟩
      refine wl_nil ?_
      replace h := Option.some.inj h
      subst h
      exact pn_meetG ((r23_1.2.L, r23_1.2.At, (w64 (1 + r23_1.1))), y23_1A0, r23_1.2.L.length, y23_1c0, ()) rfl ⟨rfl, rfl, rfl, rfl, trivial⟩ (fun _ h => h.to ⟨_, r0, ⟨_, r0, ⟨_, r0, ⟨_, r0, ⟨_, r0, ⟨_, r0, ⟨_, r0, trivial⟩⟩⟩⟩⟩⟩⟩ ⟨m0, trivial⟩)
    · have h := ifF h cd58
      refine wc_skip ?_
      replace h := Option.some.inj h
      subst h
      exact pn_meetG ((s56.1, s56.2.1, 0), A56_0, s56.1.length, c56_0, ()) rfl ⟨rfl, rfl, rfl, rfl, trivial⟩ (fun _ h => h.to ⟨_, r0, ⟨_, r0, ⟨_, r0, ⟨_, r0, ⟨_, r0, ⟨_, r0, ⟨_, r0, trivial⟩⟩⟩⟩⟩⟩⟩ ⟨m0, trivial⟩)
  rintro ⟨s55, A55_0, n55_0, c55_0, _⟩ e55
  dsimp only at e55 ⊢
  subst e55
  have h := ho55
  refine wc_know (fun _ h => h.lenF m0) (fun e => ?_)
  subst e
  obtain ⟨q60, h, ho60⟩ := bind_some h
  refine wc_meetG (G := ((List Int) × Int × Int) × Option Addr × Nat × Nat × Unit) (fun (s60, _, _, _, _) => s60 = q60) (fun (_, _, _, _, _) => [(6, .pointer (some ⟨b0_0, 0, none⟩)), (7, .pointer (some ⟨b1_17, 0, none⟩))]) (fun (s60, A60_0, n60_0, c60_0, _) => [eBlk Ba0 71 [.slice A60_0 n60_0 c60_0, .int .i64 s60.2.1], eBlk b0_0 49 [.int .i64 0, .int .i64 0, .int .i64 0, .int .i64 0, .slice none 0 0, .slice none 0 0, .int .i64 0, .int .i64 0, .int .i64 0, .int .i64 0, .int .i64 0, .int .i64 0, .int .i64 0, .int .i64 0, .int .i64 0, .int .i64 0, .slice none 0 0, .bool false, .int .i64 0, .slice none 0 0, .slice none 0 0], eBlk b1_17 49 [.int .i64 a1, .int .i64 a2, .int .i64 r1_3.1, .int .i64 (w64 (60 + r1_5.1)), .slice y1_9A0 r1_9.1.length y1_9c0, .slice y1_11A0 r1_11.1.length y1_11c0, .int .i64 s4.2.2.1, .int .i64 s4.2.2.2.1, .int .i64 s4.2.2.2.2.1, .int .i64 s4.2.2.2.2.2.1, .int .i64 s4.2.2.2.2.2.2.1, .int .i64 s4.2.2.2.2.2.2.2, .int .i64 s60.2.2, .int .i64 s26.2.2.1, .int .i64 s26.2.2.2.1, .int .i64 r1_13.1, .slice A26_3 s26.2.2.2.2.1.length c26_3, .bool s26.2.2.2.2.2, .int .i64 s55.2.2, .slice none 0 0, .slice y1_15A0 r1_15.1.length y1_15c0], eS (lInt .i64) 3 y1_9A0 r1_9.1.length y1_9c0 r1_9.1, eS (lInt .i64) 3 y1_11A0 r1_11.1.length y1_11c0 r1_11.1, eS (lInt .i64) 3 A26_3 s26.2.2.2.2.1.length c26_3 s26.2.2.2.2.1, eS lGPart 25 y1_15A0 r1_15.1.length y1_15c0 r1_15.1]) (fun (s60, A60_0, n60_0, c60_0, _) => [fV (lSlice (lInt .i64)) (.slice A60_0 n60_0 c60_0) s60.1]) ?_ ?_
  · refine wc_seq ?_
    refine wc_region ?_   -- region 24
    refine wl_det rfl rfl (det_move rfl) rfl ?_
    refine wl_det rfl rfl (det_eql rfl rfl) rfl ?_
    refine wl_nil ?_
    refine pn_then ?_
    refine wc_cond rfl (fun cd63 => ?_) (fun cd63 => ?_)
    · have h := ifT h cd63
      refine wc_region ?_   -- region 25
      refine wl_det rfl rfl (det_move rfl) rfl ?_
      obtain ⟨r25_1, hr25_1, h⟩ := bind_some h
      refine wl_act (act_callS (cap := []) (W_treatymade_Deck_Range (GDeck.mk s55.1 s55.2.1) 1 30 Ba0 A55_0 s55.1.length c55_0 r25_1 hr25_1) rfl rfl rfl bd55 ⟨_, r0, rfl⟩ ⟨m0, trivial⟩) rfl rfl rfl ?_
      rintro _ _ _ ⟨_, _, ⟨y25_1A0, y25_1n0, y25_1c0, rfl, rfl, rfl⟩, rfl, rfl⟩
      dsimp only [List.nil_append, List.cons_append]
      refine wl_know (fun _ h => h.lenF m0) (fun e => ?_)
      subst e
      refine wl_det rfl rfl (det_field rfl fd49_11 rfl) rfl ?_
      refine wl_act0 (act_store (cells := [_]) (cs' := [_, _, _, _, _, _, _, _, _, _, _, _, _, _, _, _, _, _, _, _, _]) rfl rfl rfl (ss (ss s0)) (by rfl) (of_decide_eq_true rfl) sz3 ⟨rfl, trivial⟩) rfl rfl ?_
      rintro _ _ _ ⟨rfl, rfl⟩
      refine wl_nil ?_
      replace h := Option.some.inj h
      subst h
      exact pn_meetG ((r25_1.2.L, r25_1.2.At, r25_1.1), y25_1A0, r25_1.2.L.length, y25_1c0, ()) rfl ⟨rfl, rfl, trivial⟩ (fun _ h => h.to ⟨_, r0, ⟨_, r0, ⟨_, r0, ⟨_, r0, ⟨_, r0, ⟨_, r0, ⟨_, r0, trivial⟩⟩⟩⟩⟩⟩⟩ ⟨m0, trivial⟩)
    · have h := ifF h cd63
      refine wc_skip ?_
      replace h := Option.some.inj h
      subst h
      exact pn_meetG ((s55.1, s55.2.1, 0), A55_0, s55.1.length, c55_0, ()) rfl ⟨rfl, rfl, trivial⟩ (fun _ h => h.to ⟨_, r0, ⟨_, r0, ⟨_, r0, ⟨_, r0, ⟨_, r0, ⟨_, r0, ⟨_, r0, trivial⟩⟩⟩⟩⟩⟩⟩ ⟨m0, trivial⟩)
  rintro ⟨s60, A60_0, n60_0, c60_0, _⟩ e60
  dsimp only at e60 ⊢
  subst e60
  have h := ho60
  refine wc_know (fun _ h => h.lenF m0) (fun e => ?_)
  subst e
  refine wc_seq ?_
  refine wc_region ?_   -- region 26
  refine wl_det rfl rfl (det_loadN (cells := [_, _, _, _, _, _, _, _, _, _, _, _, _, _, _, _, _, _, _, _, _]) rfl (ms (ms m0)) (by rfl) ag49 sz49) rfl ?_
  refine wl_act0 (act_store (cells := [_, _, _, _, _, _, _, _, _, _, _, _, _, _, _, _, _, _, _, _, _]) (cs' := [_, _, _, _, _, _, _, _, _, _, _, _, _, _, _, _, _, _, _, _, _]) rfl rfl rfl (ss s0) (by rfl) (of_decide_eq_true rfl) sz49 ⟨rfl, rfl, rfl, rfl, rfl, rfl, rfl, rfl, rfl, rfl, rfl, rfl, rfl, rfl, rfl, rfl, rfl, rfl, rfl, rfl, rfl, trivial⟩) rfl rfl ?_
  rintro _ _ _ ⟨rfl, rfl⟩
  refine wl_nil ?_
  refine pn_then ?_
  refine wc_ret ?_
  refine pn_st (fun _ h => h.zeroS (lInt .i64) 3 none) ?_
  replace h := Option.some.inj h
  subst h
  refine pn_ret (vs := [_]) rfl ⟨⟨_, _, [_, _, _, _, _, _, _, _, _, _, _, _, _, _, _, _, _, _, _, _, _], rfl, (ms (ms m0)), ag49, sz49, rfl⟩, trivial⟩ ⟨y1_9A0, r1_9.1.length, y1_9c0, y1_11A0, r1_11.1.length, y1_11c0, A26_3, s26.2.2.2.2.1.length, c26_3, none, 0, 0, y1_15A0, r1_15.1.length, y1_15c0, A60_0, s60.1.length, c60_0, rfl, rfl, rfl⟩ (fun _ h => h.to ⟨_, (rs (rs (rs (rs r0)))), ⟨_, (rs (rs (rs (rs r0)))), ⟨_, (rs (rs (rs (rs r0)))), ⟨_, r0, ⟨_, (rs (rs (rs r0))), ⟨_, r0, trivial⟩⟩⟩⟩⟩⟩ ⟨m0, trivial⟩)
def Q_treatylaw21_made (r : GTreaty × GDeck) : Value → List Ent → List Fact → Prop := fun v θ κ => ∃ (pA0 : Option Addr), ∃ (pn0 : Nat), ∃ (pc0 : Nat), ∃ (pA1 : Option Addr), ∃ (pn1 : Nat), ∃ (pc1 : Nat), ∃ (pA2 : Option Addr), ∃ (pn2 : Nat), ∃ (pc2 : Nat), ∃ (pA3 : Option Addr), ∃ (pn3 : Nat), ∃ (pc3 : Nat), ∃ (pA4 : Option Addr), ∃ (pn4 : Nat), ∃ (pc4 : Nat), ∃ (pb5 : Nat), ∃ (pA6 : Option Addr), ∃ (pn6 : Nat), ∃ (pc6 : Nat), v = .tuple #[.agg #[.int .i64 r.1.ID, .int .i64 r.1.Kind, .int .i64 r.1.Period.From, .int .i64 r.1.Period.To, .slice pA0 pn0 pc0, .slice pA1 pn1 pc1, .int .i64 r.1.Risk, .int .i64 r.1.Cession, .int .i64 r.1.Line, .int .i64 r.1.Lines, .int .i64 r.1.Retention, .int .i64 r.1.Limit, .int .i64 r.1.Window, .int .i64 r.1.Deductible, .int .i64 r.1.Aggregate, .int .i64 r.1.Premium, .slice pA2 pn2 pc2, .bool r.1.Timed, .int .i64 r.1.Base, .slice pA3 pn3 pc3, .slice pA4 pn4 pc4], .pointer (some ⟨pb5, 0, none⟩)] ∧ θ = [eS (lInt .i64) 3 pA0 pn0 pc0 r.1.Perils, eS (lInt .i64) 3 pA1 pn1 pc1 r.1.Areas, eS (lInt .i64) 3 pA2 pn2 pc2 r.1.Reinstatements, eS (lInt .i64) 3 pA3 pn3 pc3 r.1.Inures, eS lGPart 25 pA4 pn4 pc4 r.1.Parts, eBlk pb5 71 [.slice pA6 pn6 pc6, .int .i64 r.2.At]] ∧ κ = [fV (lSlice (lInt .i64)) (.slice pA6 pn6 pc6) r.2.L]
set_option maxHeartbeats 4000000 in
set_option maxRecDepth 100000 in
theorem W_treatylaw21_made (a0 : (List Int)) (A0 : Option Addr) (n0 : Nat) (c0 : Nat) (r : GTreaty × GDeck) (h : treatylaw21_made a0 = some r) : Spec Try.prog 30 [.slice A0 n0 c0] [] [fV (lSlice (lInt .i64)) (.slice A0 n0 c0) a0] (Q_treatylaw21_made r) := by
  unfold treatylaw21_made at h
  refine spec_of (σ := [(0, _)]) Try.func30 rfl rfl rfl rfl ?_
  intro C
  refine wc_know (fun _ h => h.lenF m0) (fun e => ?_)
  subst e
  refine wc_seq ?_
  refine wc_region ?_   -- region 0
  refine wl_act (act_alloc (cs := [_, _, _, _, _, _, _, _, _, _, _, _, _, _, _, _, _, _, _, _, _]) zr49 rfl) rfl rfl rfl ?_
  rintro _ _ _ ⟨b0_0, rfl, rfl, rfl⟩
  refine wl_det rfl rfl (det_assign rfl) rfl ?_
  refine wl_nil ?_
  refine pn_then ?_
  refine wc_seq ?_
  refine wc_region ?_   -- region 1
  refine wl_det rfl rfl (det_move rfl) rfl ?_
  obtain ⟨r1_1, hr1_1, h⟩ := bind_some h
  refine wl_act (act_callS (cap := []) (W_treatymade_New a0 A0 a0.length c0 r1_1 hr1_1) rfl rfl rfl bd16 rfl ⟨m0, trivial⟩) rfl rfl rfl ?_
  rintro _ _ _ ⟨_, _, ⟨y1_1b0, y1_1A1, y1_1n1, y1_1c1, rfl, rfl, rfl⟩, rfl, rfl⟩
  dsimp only [List.nil_append, List.cons_append]
  refine wl_know (fun _ h => h.lenF m0) (fun e => ?_)
  subst e
  refine wl_det rfl rfl (det_assign rfl) rfl ?_
  refine wl_nil ?_
  refine pn_then ?_
  refine wc_seq ?_
  refine wc_region ?_   -- region 2
  refine wl_det rfl rfl (det_move rfl) rfl ?_
  refine wl_det rfl rfl (det_move rfl) rfl ?_
  obtain ⟨r2_2, hr2_2, h⟩ := bind_some h
  refine wl_act (act_callS (cap := []) (W_treatymade_Deck_Range r1_1 1 9 y1_1b0 y1_1A1 r1_1.L.length y1_1c1 r2_2 hr2_2) rfl rfl rfl bd55 ⟨_, r0, rfl⟩ ⟨m0, trivial⟩) rfl rfl rfl ?_
  rintro _ _ _ ⟨_, _, ⟨y2_2A0, y2_2n0, y2_2c0, rfl, rfl, rfl⟩, rfl, rfl⟩
  dsimp only [List.nil_append, List.cons_append]
  refine wl_know (fun _ h => h.lenF m0) (fun e => ?_)
  subst e
  refine wl_det rfl rfl (det_move rfl) rfl ?_
  obtain ⟨r2_4, hr2_4, h⟩ := bind_some h
  refine wl_act (act_callS (cap := []) (W_treatymade_Deck_Range r2_2.2 1 3 y1_1b0 y2_2A0 r2_2.2.L.length y2_2c0 r2_4 hr2_4) rfl rfl rfl bd55 ⟨_, r0, rfl⟩ ⟨m0, trivial⟩) rfl rfl rfl ?_
  rintro _ _ _ ⟨_, _, ⟨y2_4A0, y2_4n0, y2_4c0, rfl, rfl, rfl⟩, rfl, rfl⟩
  dsimp only [List.nil_append, List.cons_append]
  refine wl_know (fun _ h => h.lenF m0) (fun e => ?_)
  subst e
  obtain ⟨r2_5, hr2_5, h⟩ := bind_some h
  refine wl_act (act_callS (cap := []) (W_treatymade_Deck_Treaty r2_4.2 r2_2.1 r2_4.1 y1_1b0 y2_4A0 r2_4.2.L.length y2_4c0 r2_5 hr2_5) rfl rfl rfl bd37 ⟨_, r0, rfl⟩ ⟨m0, trivial⟩) rfl rfl rfl ?_
  rintro _ _ _ ⟨_, _, ⟨y2_5A0, y2_5n0, y2_5c0, y2_5A1, y2_5n1, y2_5c1, y2_5A2, y2_5n2, y2_5c2, y2_5A3, y2_5n3, y2_5c3, y2_5A4, y2_5n4, y2_5c4, y2_5A5, y2_5n5, y2_5c5, rfl, rfl, rfl⟩, rfl, rfl⟩
  dsimp only [List.nil_append, List.cons_append]
  refine wl_know (fun _ h => h.lenO m0) (fun e => ?_)
  subst e
  refine wl_know (fun _ h => h.lenO (ms m0)) (fun e => ?_)
  subst e
  refine wl_know (fun _ h => h.lenO (ms (ms m0))) (fun e => ?_)
  subst e
  refine wl_know (fun _ h => h.lenO (ms (ms (ms m0)))) (fun e => ?_)
  subst e
  refine wl_know (fun _ h => h.lenO (ms (ms (ms (ms m0))))) (fun e => ?_)
  subst e
  refine wl_know (fun _ h => h.lenF m0) (fun e => ?_)
  subst e
  refine wl_det rfl rfl (det_move rfl) rfl ?_
  refine wl_act0 (act_store (cells := [_, _, _, _, _, _, _, _, _, _, _, _, _, _, _, _, _, _, _, _, _]) (cs' := [_, _, _, _, _, _, _, _, _, _, _, _, _, _, _, _, _, _, _, _, _]) rfl rfl rfl (ss (ss (ss (ss (ss (ss s0)))))) (by rfl) (of_decide_eq_true rfl) sz49 ⟨rfl, rfl, rfl, rfl, rfl, rfl, rfl, rfl, rfl, rfl, rfl, rfl, rfl, rfl, rfl, rfl, rfl, rfl, rfl, rfl, rfl, trivial⟩) rfl rfl ?_
  rintro _ _ _ ⟨rfl, rfl⟩
  refine wl_det rfl rfl (det_assign rfl) rfl ?_
  refine wl_nil ?_
  refine pn_then ?_
  refine wc_ret ?_
  replace h := Option.some.inj h
  subst h
  refine pn_ret (vs := [_, _]) rfl ⟨⟨_, _, [_, _, _, _, _, _, _, _, _, _, _, _, _, _, _, _, _, _, _, _, _], rfl, (ms (ms (ms (ms (ms (ms m0)))))), ag49, sz49, rfl⟩, rfl, trivial⟩ ⟨y2_5A0, r2_5.1.Perils.length, y2_5c0, y2_5A1, r2_5.1.Areas.length, y2_5c1, y2_5A2, r2_5.1.Reinstatements.length, y2_5c2, y2_5A3, r2_5.1.Inures.length, y2_5c3, y2_5A4, r2_5.1.Parts.length, y2_5c4, y1_1b0, y2_5A5, r2_5.2.L.length, y2_5c5, rfl, rfl, rfl⟩ (fun _ h => h.to ⟨_, r0, ⟨_, r0, ⟨_, r0, ⟨_, r0, ⟨_, r0, ⟨_, r0, trivial⟩⟩⟩⟩⟩⟩ ⟨m0, trivial⟩)
def Q_contract_within (r : Bool) : Value → List Ent → List Fact → Prop := fun v θ κ => v = .bool r ∧ θ = [] ∧ κ = []
theorem plains_contract_within {r : Bool} : ∀ v θ κ, Q_contract_within r v θ κ → Plains θ := by
  rintro _ _ _ ⟨rfl, rfl, rfl⟩
  exact trivial
set_option maxHeartbeats 4000000 in
set_option maxRecDepth 100000 in
theorem W_contract_within (a0 : Int) (a1 : Int) (a2 : Int) (r : Bool) (h : contract_within a0 a1 a2 = some r) : Spec Try.prog 46 [.int .i64 a0, .int .i64 a1, .int .i64 a2] [] [] (Q_contract_within r) := by
  unfold contract_within at h
  refine spec_of (σ := [(0, _), (1, _), (2, _)]) Try.func46 rfl rfl rfl rfl ?_
  intro C
  refine wc_seq ?_
  refine wc_region ?_   -- region 0
  refine wl_det rfl rfl (det_assign rfl) rfl ?_
  refine wl_nil ?_
  refine pn_then ?_
  refine wc_seq ?_
  refine wc_region ?_   -- region 1
  refine wl_det rfl rfl (det_move rfl) rfl ?_
  refine wl_det rfl rfl (det_move rfl) rfl ?_
  refine wl_det rfl rfl (det_geq rfl rfl) rfl ?_
  refine wl_det rfl rfl (det_move rfl) rfl ?_
  refine wl_way (decide (a1 ≤ a0)) ((decide (a1 ≤ a0)) && (decide (a0 ≤ a2))) 4 14 (fun hg => ?_) (fun hg => ?_) ?_
  · have hg1_7 := hg
    refine wl_on rfl rfl rfl rfl hg1_7 ?_
    refine wl_det rfl rfl (det_move rfl) rfl ?_
    refine wl_on rfl rfl rfl rfl hg1_7 ?_
    refine wl_det rfl rfl (det_move rfl) rfl ?_
    refine wl_on rfl rfl rfl rfl hg1_7 ?_
    refine wl_det rfl rfl (det_leq rfl rfl) rfl ?_
    refine wl_det rfl rfl (det_and_on rfl rfl rfl hg1_7) rfl ?_
    exact wl_nil (pn_qnE (ext_cons rfl (ext_skip rfl (ext_skip rfl (ext_skip rfl (ext_skip rfl ext_refl))))) (fun _ h => h))
  · have hg1_7a := hg
    refine wl_off rfl rfl rfl rfl rfl hg1_7a rfl ?_
    refine wl_off rfl rfl rfl rfl rfl hg1_7a rfl ?_
    refine wl_off rfl rfl rfl rfl rfl hg1_7a rfl ?_
    refine wl_det rfl rfl (det_and_off (q := (decide (a0 ≤ a2))) rfl rfl rfl hg1_7a) rfl ?_
    exact wl_nil (pn_qnE (ext_cons rfl (ext_skip rfl (ext_skip rfl (ext_skip rfl (ext_skip rfl ext_refl))))) (fun _ h => h))
  refine wl_det rfl rfl (det_assign rfl) rfl ?_
  refine wl_nil ?_
  refine pn_then ?_
  refine wc_ret ?_
  replace h := Option.some.inj h
  subst h
  refine pn_ret (vs := [_]) rfl ⟨rfl, trivial⟩ ⟨rfl, rfl, rfl⟩ (fun _ h => h.to trivial trivial)
def Q_calendar_Valid (r : Bool) : Value → List Ent → List Fact → Prop := fun v θ κ => v = .bool r ∧ θ = [] ∧ κ = []
theorem plains_calendar_Valid {r : Bool} : ∀ v θ κ, Q_calendar_Valid r v θ κ → Plains θ := by
  rintro _ _ _ ⟨rfl, rfl, rfl⟩
  exact trivial
set_option maxHeartbeats 4000000 in
set_option maxRecDepth 100000 in
theorem W_calendar_Valid (a0 : GPeriod) (r : Bool) (h : calendar_Valid a0 = some r) : Spec Try.prog 72 [.agg #[.int .i64 a0.From, .int .i64 a0.To]] [] [] (Q_calendar_Valid r) := by
  unfold calendar_Valid at h
  refine spec_of (σ := [(0, _)]) Try.func72 rfl rfl rfl rfl ?_
  intro C
  refine wc_seq ?_
  refine wc_region ?_   -- region 0
  refine wl_act (act_box (cs := [_, _]) rfl rfl) rfl rfl rfl ?_
  rintro _ _ _ ⟨b0_0, rfl, rfl, rfl⟩
  refine wl_det rfl rfl (det_assign rfl) rfl ?_
  refine wl_nil ?_
  refine pn_then ?_
  refine wc_seq ?_
  refine wc_region ?_   -- region 1
  refine wl_det rfl rfl (det_field rfl fd47_0 rfl) rfl ?_
  refine wl_det rfl rfl (det_load rfl m0 (by rfl) na3 us3) rfl ?_
  refine wl_det rfl rfl (det_leq rfl rfl) rfl ?_
  refine wl_det rfl rfl (det_move rfl) rfl ?_
  refine wl_way (decide (0 ≤ a0.From)) ((decide (0 ≤ a0.From)) && (decide (a0.From < a0.To))) 6 12 (fun hg => ?_) (fun hg => ?_) ?_
  · have hg1_9 := hg
    refine wl_on rfl rfl rfl rfl hg1_9 ?_
    refine wl_det rfl rfl (det_field rfl fd47_0 rfl) rfl ?_
    refine wl_on rfl rfl rfl rfl hg1_9 ?_
    refine wl_det rfl rfl (det_load rfl m0 (by rfl) na3 us3) rfl ?_
    refine wl_on rfl rfl rfl rfl hg1_9 ?_
    refine wl_det rfl rfl (det_field rfl fd47_1 rfl) rfl ?_
    refine wl_on rfl rfl rfl rfl hg1_9 ?_
    refine wl_det rfl rfl (det_load rfl m0 (by rfl) na3 us3) rfl ?_
    refine wl_on rfl rfl rfl rfl hg1_9 ?_
    refine wl_det rfl rfl (det_lss rfl rfl) rfl ?_
    refine wl_det rfl rfl (det_and_on rfl rfl rfl hg1_9) rfl ?_
    exact wl_nil (pn_qnE (ext_cons rfl (ext_skip rfl (ext_skip rfl (ext_skip rfl (ext_skip rfl (ext_skip rfl (ext_skip rfl ext_refl))))))) (fun _ h => h))
  · have hg1_9a := hg
    refine wl_off rfl rfl rfl rfl rfl hg1_9a rfl ?_
    refine wl_off rfl rfl rfl rfl rfl hg1_9a rfl ?_
    refine wl_off rfl rfl rfl rfl rfl hg1_9a rfl ?_
    refine wl_off rfl rfl rfl rfl rfl hg1_9a rfl ?_
    refine wl_off rfl rfl rfl rfl rfl hg1_9a rfl ?_
    refine wl_det rfl rfl (det_and_off (q := (decide (a0.From < a0.To))) rfl rfl rfl hg1_9a) rfl ?_
    exact wl_nil (pn_qnE (ext_cons rfl (ext_skip rfl (ext_skip rfl (ext_skip rfl (ext_skip rfl (ext_skip rfl (ext_skip rfl ext_refl))))))) (fun _ h => h))
  refine wl_det rfl rfl (det_move rfl) rfl ?_
  refine wl_way ((decide (0 ≤ a0.From)) && (decide (a0.From < a0.To))) (((decide (0 ≤ a0.From)) && (decide (a0.From < a0.To))) && (decide (a0.To ≤ 876600))) 4 17 (fun hg => ?_) (fun hg => ?_) ?_
  · have hg1_14 := hg
    refine wl_on rfl rfl rfl rfl hg1_14 ?_
    refine wl_det rfl rfl (det_field rfl fd47_1 rfl) rfl ?_
    refine wl_on rfl rfl rfl rfl hg1_14 ?_
    refine wl_det rfl rfl (det_load rfl m0 (by rfl) na3 us3) rfl ?_
    refine wl_on rfl rfl rfl rfl hg1_14 ?_
    refine wl_det rfl rfl (det_leq rfl rfl) rfl ?_
    refine wl_det rfl rfl (det_and_on rfl rfl rfl hg1_14) rfl ?_
    exact wl_nil (pn_qnE (ext_cons rfl (ext_skip rfl (ext_skip rfl (ext_skip rfl (ext_skip rfl ext_refl))))) (fun _ h => h))
  · have hg1_14a := hg
    refine wl_off rfl rfl rfl rfl rfl hg1_14a rfl ?_
    refine wl_off rfl rfl rfl rfl rfl hg1_14a rfl ?_
    refine wl_off rfl rfl rfl rfl rfl hg1_14a rfl ?_
    refine wl_det rfl rfl (det_and_off (q := (decide (a0.To ≤ 876600))) rfl rfl rfl hg1_14a) rfl ?_
    exact wl_nil (pn_qnE (ext_cons rfl (ext_skip rfl (ext_skip rfl (ext_skip rfl (ext_skip rfl ext_refl))))) (fun _ h => h))
  refine wl_det rfl rfl (det_assign rfl) rfl ?_
  refine wl_nil ?_
  refine pn_then ?_
  refine wc_ret ?_
  replace h := Option.some.inj h
  subst h
  refine pn_ret (vs := [_]) rfl ⟨rfl, trivial⟩ ⟨rfl, rfl, rfl⟩ (fun _ h => h.to trivial trivial)
def Q_contract_ascending (r : Int) : Value → List Ent → List Fact → Prop := fun v θ κ => v = .int .i64 r ∧ θ = [] ∧ κ = []
theorem plains_contract_ascending {r : Int} : ∀ v θ κ, Q_contract_ascending r v θ κ → Plains θ := by
  rintro _ _ _ ⟨rfl, rfl, rfl⟩
  exact trivial
set_option maxHeartbeats 4000000 in
set_option maxRecDepth 100000 in
theorem W_contract_ascending (a0 : (List Int)) (a1 : Int) (a2 : Int) (A0 : Option Addr) (n0 : Nat) (c0 : Nat) (r : Int) (h : contract_ascending a0 a1 a2 = some r) : Spec Try.prog 73 [.slice A0 n0 c0, .int .i64 a1, .int .i64 a2] [] [fV (lSlice (lInt .i64)) (.slice A0 n0 c0) a0] (Q_contract_ascending r) := by
  unfold contract_ascending at h
  refine spec_of (σ := [(0, _), (1, _), (2, _)]) Try.func73 rfl rfl rfl rfl ?_
  intro C
  refine wc_know (fun _ h => h.lenF m0) (fun e => ?_)
  subst e
  refine wc_seq ?_
  refine wc_region ?_   -- region 0
  refine wl_det rfl rfl (det_assign rfl) rfl ?_
  refine wl_nil ?_
  refine pn_then ?_
  obtain ⟨q2, h, ho2⟩ := bind_some h
  refine wc_meetG (G := Unit × Unit) (fun (s2, _) => (.inl s2) = q2) (fun (_, _) => []) (fun (_, _) => []) (fun (_, _) => []) ?_ ?_
  · refine wc_seq ?_
    refine wc_region ?_   -- region 1
    refine wl_det rfl rfl (det_move rfl) rfl ?_
    refine wl_det rfl rfl (det_len rfl un23) rfl ?_
    refine wl_det rfl rfl (det_move rfl) rfl ?_
    refine wl_nil ?_
    refine pn_then ?_
    refine wc_block ?_
    obtain ⟨o6, h, ho6⟩ := bind_some h
    obtain ⟨k6, hk6⟩ := loopV_some.1 h
    refine wc_loop (G := Nat × Int × Unit) (fun g => IterN (contract_ascending_l6 a0 a1 a2) g.1 g.2.1 o6) (fun g => g.1) (fun (_, s6, _) => [(0, .slice A0 a0.length c0), (1, .int .i64 a1), (2, .int .i64 a2), (9, .slice A0 a0.length c0), (10, .int .i64 (a0.length : Int)), (11, .int .i64 s6)]) (fun (_, _, _) => []) (fun (_, _, _) => [fV (lSlice (lInt .i64)) (.slice A0 a0.length c0) a0]) (k6, 0, ()) hk6 ⟨rfl, rfl, rfl, rfl, rfl, rfl, trivial⟩ (fun _ h => h.to trivial ⟨m0, trivial⟩) ?_
    rintro ⟨k6, s6, _⟩ hI
    obtain ⟨k6, rfl, q6, h, g6⟩ := IterN.pos hI
    dsimp only at h ⊢
    unfold contract_ascending_l6 at h
    refine wc_seq ?_
    refine wc_region ?_   -- region 2
    refine wl_det rfl rfl (det_lss rfl rfl) rfl ?_
    refine wl_nil ?_
    refine pn_then ?_
    refine wc_seq ?_
    refine wc_cond rfl (fun cd10 => ?_) (fun cd10 => ?_)
    · have h := ifT h cd10
      refine wc_skip ?_
      refine pn_then ?_
      refine wc_seq ?_
      refine wc_block ?_
      refine wc_seq ?_
      refine wc_region ?_   -- region 3
      refine wl_det rfl rfl (det_move rfl) rfl ?_
      obtain ⟨k3_1, h⟩ := chk_some h
      refine wl_st (fun _ h => h.openF m0 k3_1) ?_
      refine wl_det rfl rfl (det_indexP rfl rfl (ms m0) k3_1 m0 un23 sz3) rfl ?_
      refine wl_det rfl rfl (det_loadP (off := 0) rfl m0 (by rfl) (by rfl) (loaded_1 na3 us3)) rfl ?_
      refine wl_det rfl rfl (det_assign rfl) rfl ?_
      refine wl_det rfl rfl (det_assign rfl) rfl ?_
      refine wl_nil ?_
      refine pn_then ?_
      refine wc_seq ?_
      refine wc_seq ?_
      refine wc_region ?_   -- region 4
      refine wl_det rfl rfl (det_move rfl) rfl ?_
      refine wl_det rfl rfl (det_move rfl) rfl ?_
      refine wl_det rfl rfl (det_move rfl) rfl ?_
      obtain ⟨r4_3, hr4_3, h⟩ := bind_some h
      refine wl_act (act_callS (cap := []) (W_contract_within (ix a0 s6) a1 a2 r4_3 hr4_3) rfl rfl rfl bd46 rfl trivial) rfl rfl rfl ?_
      rintro _ _ _ ⟨_, _, ⟨rfl, rfl, rfl⟩, rfl, rfl⟩
      dsimp only [List.nil_append, List.cons_append]
      refine wl_det rfl rfl (det_not rfl) rfl ?_
      refine wl_nil ?_
      refine pn_then ?_
      refine wc_cond rfl (fun cd19 => ?_) (fun cd19 => ?_)
      · have h := ifT h cd19
        refine wc_seq ?_
        refine wc_region ?_   -- region 5
        refine wl_det rfl rfl (det_assign rfl) rfl ?_
        refine wl_nil ?_
        refine pn_then ?_
        refine wc_ret ?_
        refine pr_then ?_
        refine pr_block ?_
        refine pr_then ?_
        refine pr_then ?_
        refine pr_block ?_
        refine pr_then ?_
        replace h := Option.some.inj h
        subst h
        replace g6 := nextR g6
        subst g6
        have h := (elimL ho6)
        replace h := Option.some.inj h
        subst h
        have h := (elimR ho2)
        replace h := Option.some.inj h
        subst h
        refine pn_ret (vs := [_]) rfl ⟨rfl, trivial⟩ ⟨rfl, rfl, rfl⟩ (fun _ h => h.to trivial trivial)
      · have h := ifF h cd19
        refine wc_skip ?_
        refine pn_then ?_
        refine wc_seq ?_
        refine wc_region ?_   -- region 6
        refine wl_det rfl rfl (det_move rfl) rfl ?_
        refine wl_det rfl rfl (det_gtr rfl rfl) rfl ?_
        refine wl_det rfl rfl (det_move rfl) rfl ?_
        obtain ⟨q6_10, hq6_10, h⟩ := bind_some h
        have ho6_10 := h
        refine wl_way (decide (0 < s6)) q6_10 8 31 (fun hg => ?_) (fun hg => ?_) ?_
        · have hg6_10 := hg
          have h := ifT hq6_10 hg
          refine wl_on rfl rfl rfl rfl hg6_10 ?_
          refine wl_det rfl rfl (det_move rfl) rfl ?_
          refine wl_on rfl rfl rfl rfl hg6_10 ?_
          refine wl_det rfl rfl (det_move rfl) rfl ?_
          refine wl_on rfl rfl rfl rfl hg6_10 ?_
          refine wl_det rfl rfl (det_move rfl) rfl ?_
          refine wl_on rfl rfl rfl rfl hg6_10 ?_
          refine wl_det rfl rfl (det_sub rfl rfl) rfl ?_
          refine wl_on rfl rfl rfl rfl hg6_10 ?_
          obtain ⟨k6_7, h⟩ := chk_some h
          refine wl_st (fun _ h => h.openF (ms m0) k6_7) ?_
          refine wl_det rfl rfl (det_indexP rfl rfl (ms (ms m0)) k6_7 m0 un23 sz3) rfl ?_
          refine wl_on rfl rfl rfl rfl hg6_10 ?_
          refine wl_det rfl rfl (det_loadP (off := 0) rfl m0 (by rfl) (by rfl) (loaded_1 na3 us3)) rfl ?_
          refine wl_on rfl rfl rfl rfl hg6_10 ?_
          refine wl_det rfl rfl (det_leq rfl rfl) rfl ?_
          replace h := Option.some.inj h
          subst h
          refine wl_det rfl rfl (det_pick_on rfl hg6_10 rfl rfl) rfl ?_
          exact wl_nil (pn_qnE (ext_cons rfl (ext_skip rfl (ext_skip rfl (ext_skip rfl (ext_skip rfl (ext_skip rfl (ext_skip rfl (ext_skip rfl (ext_skip rfl ext_refl))))))))) (fun _ h => h.to trivial ⟨(ms m0), ⟨(ms (ms m0)), trivial⟩⟩))
        · have hg6_10a := hg
          have h := ifF hq6_10 hg
          refine wl_off rfl rfl rfl rfl rfl hg6_10a rfl ?_
          refine wl_off rfl rfl rfl rfl rfl hg6_10a rfl ?_
          refine wl_off rfl rfl rfl rfl rfl hg6_10a rfl ?_
          refine wl_off rfl rfl rfl rfl rfl hg6_10a rfl ?_
          refine wl_off rfl rfl rfl rfl rfl hg6_10a rfl ?_
          refine wl_off rfl rfl rfl rfl rfl hg6_10a rfl ?_
          refine wl_off rfl rfl rfl rfl rfl hg6_10a rfl ?_
          replace h := Option.some.inj h
          subst h
          refine wl_det rfl rfl (det_pick_off rfl hg6_10a rfl rfl) rfl ?_
          exact wl_nil (pn_qnE (ext_cons rfl (ext_skip rfl (ext_skip rfl (ext_skip rfl (ext_skip rfl (ext_skip rfl (ext_skip rfl (ext_skip rfl (ext_skip rfl ext_refl))))))))) (fun _ h => h))
        have h := ho6_10
        refine wl_nil ?_
        refine pn_then ?_
        refine wc_cond rfl (fun cd24 => ?_) (fun cd24 => ?_)
        · have h := ifT h cd24
          refine wc_seq ?_
          refine wc_region ?_   -- region 7
          refine wl_det rfl rfl (det_assign rfl) rfl ?_
          refine wl_nil ?_
          refine pn_then ?_
          refine wc_ret ?_
          refine pr_block ?_
          refine pr_then ?_
          refine pr_then ?_
          refine pr_block ?_
          refine pr_then ?_
          replace h := Option.some.inj h
          subst h
          replace g6 := nextR g6
          subst g6
          have h := (elimL ho6)
          replace h := Option.some.inj h
          subst h
          have h := (elimR ho2)
          replace h := Option.some.inj h
          subst h
          refine pn_ret (vs := [_]) rfl ⟨rfl, trivial⟩ ⟨rfl, rfl, rfl⟩ (fun _ h => h.to trivial trivial)
        · have h := ifF h cd24
          refine wc_skip ?_
          refine pn_block ?_
          refine pn_then ?_
          refine wc_region ?_   -- region 8
          refine wl_det rfl rfl (det_add rfl rfl) rfl ?_
          refine wl_det rfl rfl (det_move rfl) rfl ?_
          refine wl_nil ?_
          replace h := Option.some.inj h
          subst h
          exact pn_some (k6, (w64 (s6 + 1)), ()) ⟨nextL g6, Nat.lt_succ_self _⟩ ⟨rfl, rfl, rfl, rfl, rfl, rfl, trivial⟩ (fun _ h => h.to trivial ⟨(ms m0), trivial⟩)
    · have h := ifF h cd10
      refine wc_exit ?_
      refine px_then ?_
      refine px_then ?_
      refine px_block ?_
      replace h := Option.some.inj h
      subst h
      replace g6 := nextR g6
      subst g6
      have h := (elimR ho6)
      replace h := Option.some.inj h
      subst h
      exact pn_meetG ((), ()) rfl trivial (fun _ h => h.to trivial trivial)
  rintro ⟨s2, _⟩ e2
  dsimp only at e2 ⊢
  subst e2
  have h := (elimL ho2)
  refine wc_seq ?_
  refine wc_region ?_   -- region 9
  refine wl_det rfl rfl (det_assign rfl) rfl ?_
  refine wl_nil ?_
  refine pn_then ?_
  refine wc_ret ?_
  replace h := Option.some.inj h
  subst h
  refine pn_ret (vs := [_]) rfl ⟨rfl, trivial⟩ ⟨rfl, rfl, rfl⟩ (fun _ h => h.to trivial trivial)
def Q_contract_ruleOf (r : (List Gspan)) : Value → List Ent → List Fact → Prop := fun v θ κ => v = .agg (aC encGspan r).toArray ∧ θ = [] ∧ κ = []
theorem plains_contract_ruleOf {r : (List Gspan)} : ∀ v θ κ, Q_contract_ruleOf r v θ κ → Plains θ := by
  rintro _ _ _ ⟨rfl, rfl, rfl⟩
  exact trivial
set_option maxHeartbeats 4000000 in
set_option maxRecDepth 100000 in
theorem W_contract_ruleOf (a0 : Int) (r : (List Gspan)) (h : contract_ruleOf a0 = some r) : Spec Try.prog 87 [.int .i64 a0] [] [] (Q_contract_ruleOf r) := by
  unfold contract_ruleOf at h
  refine spec_of (σ := [(0, _)]) Try.func87 rfl rfl rfl rfl ?_
  intro C
  refine wc_seq ?_
  refine wc_region ?_   -- region 0
  refine wl_act (act_alloc (cs := aC encGspan (List.replicate 11 (Gspan.mk 0 0))) zr112 rfl) rfl rfl rfl ?_
  rintro _ _ _ ⟨b0_0, rfl, rfl, rfl⟩
  refine wl_nil ?_
  refine pn_then ?_
  refine wc_seq ?_
  refine wc_region ?_   -- region 1
  refine wl_det rfl rfl (det_build (cs := [_, _]) pl110 zr110 rfl rfl (by rfl)) rfl ?_
  refine wl_det rfl rfl (det_build (cs := [_, _]) pl110 zr110 rfl rfl (by rfl)) rfl ?_
  refine wl_act (act_alloc (cs := [_, _]) zr110 rfl) rfl rfl rfl ?_
  rintro _ _ _ ⟨b1_2, rfl, rfl, rfl⟩
  refine wl_act (act_alloc (cs := [_, _]) zr110 rfl) rfl rfl rfl ?_
  rintro _ _ _ ⟨b1_3, rfl, rfl, rfl⟩
  refine wl_act0 (act_store (cells := [_, _]) (cs' := [_, _]) rfl rfl rfl (ss s0) (by rfl) (of_decide_eq_true rfl) sz110 ⟨rfl, rfl, trivial⟩) rfl rfl ?_
  rintro _ _ _ ⟨rfl, rfl⟩
  refine wl_act0 (act_store (cells := [_, _]) (cs' := [_, _]) rfl rfl rfl s0 (by rfl) (of_decide_eq_true rfl) sz110 ⟨rfl, rfl, trivial⟩) rfl rfl ?_
  rintro _ _ _ ⟨rfl, rfl⟩
  refine wl_nil ?_
  refine pn_then ?_
  refine wc_seq ?_
  refine wc_region ?_   -- region 2
  refine wl_det rfl rfl (det_loadN (cells := [_, _]) rfl (ms m0) (by rfl) ag110 sz110) rfl ?_
  refine wl_det rfl rfl (det_buildA (cs := aC encGspan [(Gspan.mk 0 0), (Gspan.mk 0 0), (Gspan.mk 0 0), (Gspan.mk 0 0), (Gspan.mk 0 0), (Gspan.mk 0 0), (Gspan.mk 0 0), (Gspan.mk 0 0), (Gspan.mk 0 0), (Gspan.mk 0 0), (Gspan.mk 0 1073741824)]) un112 sz110 zr112 rfl rfl (by rfl)) rfl ?_
  refine wl_act (act_alloc (cs := aC encGspan (List.replicate 11 (Gspan.mk 0 0))) zr112 rfl) rfl rfl rfl ?_
  rintro _ _ _ ⟨b2_2, rfl, rfl, rfl⟩
  obtain ⟨k2_3, h⟩ := chk_some h
  obtain ⟨k2_3a, h⟩ := chk_some h
  refine wl_act0 (act_store (cells := aC encGspan [(Gspan.mk 0 0), (Gspan.mk 0 0), (Gspan.mk 0 0), (Gspan.mk 0 0), (Gspan.mk 0 0), (Gspan.mk 0 0), (Gspan.mk 0 0), (Gspan.mk 0 0), (Gspan.mk 0 0), (Gspan.mk 0 0), (Gspan.mk 0 1073741824)]) (cs' := aC encGspan [(Gspan.mk 0 0), (Gspan.mk 0 0), (Gspan.mk 0 0), (Gspan.mk 0 0), (Gspan.mk 0 0), (Gspan.mk 0 0), (Gspan.mk 0 0), (Gspan.mk 0 0), (Gspan.mk 0 0), (Gspan.mk 0 0), (Gspan.mk 0 1073741824)]) rfl rfl rfl s0 (aC_over (enc := encGspan) (z := 2) (fun _ => rfl) k2_3 k2_3a) (aC_fits (enc := encGspan) (z := 2) (fun _ => rfl) k2_3 k2_3a) (sz_aC (enc := encGspan) (z := 2) sz112 (fun _ => rfl) k2_3a rfl) (aC_ones (fun _ u hu => (lGspan).one (w := default) (S := fun _ => True) rfl u hu) _)) rfl rfl ?_
  rintro _ _ _ ⟨rfl, rfl⟩
  refine wl_nil ?_
  refine pn_then ?_
  obtain ⟨q6, h, ho6⟩ := bind_some h
  refine wc_meetG (G := (List Gspan) × Unit) (fun (s6, _) => s6 = q6) (fun (_, _) => [(2, .pointer (some ⟨b0_0, 0, none⟩)), (5, .pointer (some ⟨b2_2, 0, none⟩))]) (fun (s6, _) => [eBlk b0_0 112 (aC encGspan (List.replicate 11 (Gspan.mk 0 0))), eBlk b2_2 112 (aC encGspan s6)]) (fun (_, _) => []) ?_ ?_
  · refine wc_seq ?_
    refine wc_region ?_   -- region 3
    refine wl_det rfl rfl (det_move rfl) rfl ?_
    refine wl_nil ?_
    refine pn_then ?_
    refine wc_block ?_
    refine wc_seq ?_
    refine wc_region ?_   -- region 4
    refine wl_det rfl rfl (det_eql rfl rfl) rfl ?_
    refine wl_det rfl rfl (det_assign rfl) rfl ?_
    refine wl_nil ?_
    refine pn_then ?_
    refine wc_cond rfl (fun cd12 => ?_) (fun cd12 => ?_)
    · have h := ifT h cd12
      obtain ⟨k5_p1, h⟩ := chk_some h
      obtain ⟨k5_p2, h⟩ := chk_some h
      refine dx_regionZ (Z := St C [_, _, _] []) 4 [[], [], [0], [0, 2], [0, 1, 2, 3], [0, 1, 2, 3, 4]] mixed (ord := (.det 0 (.det 1 (.det 2 (.alt 3 .done .dead))))) (by kernel_rfl) (fun _ h => h.to ⟨_, (rs r0), ⟨_, (rs r0), ⟨_, (rs r0), trivial⟩⟩⟩ trivial) ?_   -- region 5
      refine hx_det rfl rfl rfl nofun (det_build (cs := [_, _]) pl110 zr110 rfl rfl (by rfl)) rfl ?_
      refine hx_det rfl rfl rfl nofun (det_loadN (cells := [_, _]) rfl (ms m0) (by rfl) ag110 sz110) rfl ?_
      refine hx_det rfl rfl rfl nofun (det_indexA rfl rfl rfl rfl un112 sz110) rfl ?_
      refine hx_mut0 rfl rfl rfl (act_store (cells := [_, _]) (cs' := aC encGspan (upd [(Gspan.mk 0 0), (Gspan.mk 0 0), (Gspan.mk 0 0), (Gspan.mk 0 0), (Gspan.mk 0 0), (Gspan.mk 0 0), (Gspan.mk 0 0), (Gspan.mk 0 0), (Gspan.mk 0 0), (Gspan.mk 0 0), (Gspan.mk 0 1073741824)] 1 (Gspan.mk 1 1000000))) rfl rfl rfl s0 (aC_set (enc := encGspan) (z := 2) (o := 0) (fun _ => rfl) k5_p1 rfl rfl) (aC_le (enc := encGspan) (z := 2) (o := 0) (fun _ => rfl) k5_p1 rfl) sz110 ⟨rfl, rfl, trivial⟩) (by rintro _ _ _ ⟨rfl, rfl⟩ w hs; exact hs.to ⟨_, (rs r0), ⟨_, (rs r0), ⟨_, (rs r0), trivial⟩⟩⟩ trivial) ?_
      rintro _ _ _ ⟨rfl, rfl⟩
      refine hx_end ?_
      refine wl_det rfl rfl (det_indexA rfl rfl rfl rfl un112 sz110) rfl ?_
      refine wl_act0 (act_store (cells := [_, _]) (cs' := aC encGspan (upd (upd [(Gspan.mk 0 0), (Gspan.mk 0 0), (Gspan.mk 0 0), (Gspan.mk 0 0), (Gspan.mk 0 0), (Gspan.mk 0 0), (Gspan.mk 0 0), (Gspan.mk 0 0), (Gspan.mk 0 0), (Gspan.mk 0 0), (Gspan.mk 0 1073741824)] 1 (Gspan.mk 1 1000000)) 5 (Gspan.mk 0 1073741824))) rfl rfl rfl s0 (aC_set (enc := encGspan) (z := 2) (o := 0) (fun _ => rfl) k5_p2 rfl rfl) (aC_le (enc := encGspan) (z := 2) (o := 0) (fun _ => rfl) k5_p2 rfl) sz110 ⟨rfl, rfl, trivial⟩) rfl rfl ?_
      rintro _ _ _ ⟨rfl, rfl⟩
      refine wl_nil ?_
      refine pn_block ?_
      replace h := Option.some.inj h
      subst h
      exact pn_meetG ((upd (upd [(Gspan.mk 0 0), (Gspan.mk 0 0), (Gspan.mk 0 0), (Gspan.mk 0 0), (Gspan.mk 0 0), (Gspan.mk 0 0), (Gspan.mk 0 0), (Gspan.mk 0 0), (Gspan.mk 0 0), (Gspan.mk 0 0), (Gspan.mk 0 1073741824)] 1 (Gspan.mk 1 1000000)) 5 (Gspan.mk 0 1073741824)), ()) rfl ⟨rfl, rfl, trivial⟩ (fun _ h => h.to ⟨_, (rs (rs (rs r0))), ⟨_, r0, trivial⟩⟩ trivial)
    · have h := ifF h cd12
      refine wc_seq ?_
      refine wc_region ?_   -- region 6
      refine wl_det rfl rfl (det_eql rfl rfl) rfl ?_
      refine wl_det rfl rfl (det_assign rfl) rfl ?_
      refine wl_nil ?_
      refine pn_then ?_
      refine wc_cond rfl (fun cd16 => ?_) (fun cd16 => ?_)
      · have h := ifT h cd16
        refine wc_region ?_   -- region 7
        refine wl_det rfl rfl (det_loadN (cells := [_, _]) rfl (ms m0) (by rfl) ag110 sz110) rfl ?_
        refine wl_det rfl rfl (det_build (cs := [_, _]) pl110 zr110 rfl rfl (by rfl)) rfl ?_
        refine wl_det rfl rfl (det_indexA rfl rfl rfl rfl un112 sz110) rfl ?_
        obtain ⟨k7_3, h⟩ := chk_some h
        refine wl_act0 (act_store (cells := [_, _]) (cs' := aC encGspan (upd [(Gspan.mk 0 0), (Gspan.mk 0 0), (Gspan.mk 0 0), (Gspan.mk 0 0), (Gspan.mk 0 0), (Gspan.mk 0 0), (Gspan.mk 0 0), (Gspan.mk 0 0), (Gspan.mk 0 0), (Gspan.mk 0 0), (Gspan.mk 0 1073741824)] 2 (Gspan.mk 1 1073741824))) rfl rfl rfl s0 (aC_set (enc := encGspan) (z := 2) (o := 0) (fun _ => rfl) k7_3 rfl rfl) (aC_le (enc := encGspan) (z := 2) (o := 0) (fun _ => rfl) k7_3 rfl) sz110 ⟨rfl, rfl, trivial⟩) rfl rfl ?_
        rintro _ _ _ ⟨rfl, rfl⟩
        refine wl_det rfl rfl (det_indexA rfl rfl rfl rfl un112 sz110) rfl ?_
        obtain ⟨k7_5, h⟩ := chk_some h
        refine wl_act0 (act_store (cells := [_, _]) (cs' := aC encGspan (upd (upd [(Gspan.mk 0 0), (Gspan.mk 0 0), (Gspan.mk 0 0), (Gspan.mk 0 0), (Gspan.mk 0 0), (Gspan.mk 0 0), (Gspan.mk 0 0), (Gspan.mk 0 0), (Gspan.mk 0 0), (Gspan.mk 0 0), (Gspan.mk 0 1073741824)] 2 (Gspan.mk 1 1073741824)) 3 (Gspan.mk 1 100))) rfl rfl rfl s0 (aC_set (enc := encGspan) (z := 2) (o := 0) (fun _ => rfl) k7_5 rfl rfl) (aC_le (enc := encGspan) (z := 2) (o := 0) (fun _ => rfl) k7_5 rfl) sz110 ⟨rfl, rfl, trivial⟩) rfl rfl ?_
        rintro _ _ _ ⟨rfl, rfl⟩
        refine wl_nil ?_
        refine pn_block ?_
        replace h := Option.some.inj h
        subst h
        exact pn_meetG ((upd (upd [(Gspan.mk 0 0), (Gspan.mk 0 0), (Gspan.mk 0 0), (Gspan.mk 0 0), (Gspan.mk 0 0), (Gspan.mk 0 0), (Gspan.mk 0 0), (Gspan.mk 0 0), (Gspan.mk 0 0), (Gspan.mk 0 0), (Gspan.mk 0 1073741824)] 2 (Gspan.mk 1 1073741824)) 3 (Gspan.mk 1 100)), ()) rfl ⟨rfl, rfl, trivial⟩ (fun _ h => h.to ⟨_, (rs (rs (rs r0))), ⟨_, r0, trivial⟩⟩ trivial)
      · have h := ifF h cd16
        refine wc_seq ?_
        refine wc_region ?_   -- region 8
        refine wl_det rfl rfl (det_eql rfl rfl) rfl ?_
        refine wl_det rfl rfl (det_assign rfl) rfl ?_
        refine wl_nil ?_
        refine pn_then ?_
        refine wc_cond rfl (fun cd20 => ?_) (fun cd20 => ?_)
        · have h := ifT h cd20
          refine wc_region ?_   -- region 9
          refine wl_det rfl rfl (det_build (cs := [_, _]) pl110 zr110 rfl rfl (by rfl)) rfl ?_
          refine wl_det rfl rfl (det_build (cs := [_, _]) pl110 zr110 rfl rfl (by rfl)) rfl ?_
          refine wl_det rfl rfl (det_indexA rfl rfl rfl rfl un112 sz110) rfl ?_
          obtain ⟨k9_3, h⟩ := chk_some h
          refine wl_act0 (act_store (cells := [_, _]) (cs' := aC encGspan (upd [(Gspan.mk 0 0), (Gspan.mk 0 0), (Gspan.mk 0 0), (Gspan.mk 0 0), (Gspan.mk 0 0), (Gspan.mk 0 0), (Gspan.mk 0 0), (Gspan.mk 0 0), (Gspan.mk 0 0), (Gspan.mk 0 0), (Gspan.mk 0 1073741824)] 0 (Gspan.mk 1 1048576))) rfl rfl rfl s0 (aC_set (enc := encGspan) (z := 2) (o := 0) (fun _ => rfl) k9_3 rfl rfl) (aC_le (enc := encGspan) (z := 2) (o := 0) (fun _ => rfl) k9_3 rfl) sz110 ⟨rfl, rfl, trivial⟩) rfl rfl ?_
          rintro _ _ _ ⟨rfl, rfl⟩
          refine wl_det rfl rfl (det_indexA rfl rfl rfl rfl un112 sz110) rfl ?_
          obtain ⟨k9_5, h⟩ := chk_some h
          refine wl_act0 (act_store (cells := [_, _]) (cs' := aC encGspan (upd (upd [(Gspan.mk 0 0), (Gspan.mk 0 0), (Gspan.mk 0 0), (Gspan.mk 0 0), (Gspan.mk 0 0), (Gspan.mk 0 0), (Gspan.mk 0 0), (Gspan.mk 0 0), (Gspan.mk 0 0), (Gspan.mk 0 0), (Gspan.mk 0 1073741824)] 0 (Gspan.mk 1 1048576)) 1 (Gspan.mk 1 1000000))) rfl rfl rfl s0 (aC_set (enc := encGspan) (z := 2) (o := 0) (fun _ => rfl) k9_5 rfl rfl) (aC_le (enc := encGspan) (z := 2) (o := 0) (fun _ => rfl) k9_5 rfl) sz110 ⟨rfl, rfl, trivial⟩) rfl rfl ?_
          rintro _ _ _ ⟨rfl, rfl⟩
          refine wl_nil ?_
          refine pn_block ?_
          replace h := Option.some.inj h
          subst h
          exact pn_meetG ((upd (upd [(Gspan.mk 0 0), (Gspan.mk 0 0), (Gspan.mk 0 0), (Gspan.mk 0 0), (Gspan.mk 0 0), (Gspan.mk 0 0), (Gspan.mk 0 0), (Gspan.mk 0 0), (Gspan.mk 0 0), (Gspan.mk 0 0), (Gspan.mk 0 1073741824)] 0 (Gspan.mk 1 1048576)) 1 (Gspan.mk 1 1000000)), ()) rfl ⟨rfl, rfl, trivial⟩ (fun _ h => h.to ⟨_, (rs (rs (rs r0))), ⟨_, r0, trivial⟩⟩ trivial)
        · have h := ifF h cd20
          refine wc_seq ?_
          refine wc_region ?_   -- region 10
          refine wl_det rfl rfl (det_eql rfl rfl) rfl ?_
          refine wl_det rfl rfl (det_assign rfl) rfl ?_
          refine wl_nil ?_
          refine pn_then ?_
          refine wc_cond rfl (fun cd24 => ?_) (fun cd24 => ?_)
          · have h := ifT h cd24
            refine wc_seq ?_
            obtain ⟨k11_p1, h⟩ := chk_some h
            obtain ⟨k11_p2, h⟩ := chk_some h
            obtain ⟨k11_p3, h⟩ := chk_some h
            obtain ⟨k11_p4, h⟩ := chk_some h
            refine dx_regionZ (Z := St C [_, _, _] []) 10 [[], [], [], [], [0], [0, 4], [0, 1, 4, 5], [0, 1, 4, 5, 6], [0, 1, 2, 4, 5, 6, 7], [0, 1, 2, 4, 5, 6, 7, 8], [0, 1, 2, 3, 4, 5, 6, 7, 8, 9], [0, 1, 2, 3, 4, 5, 6, 7, 8, 9, 10]] mixed (ord := (.det 0 (.det 1 (.det 2 (.det 3 (.det 4 (.alt 5 (.det 6 (.alt 7 (.det 8 (.alt 9 .done .dead)) .dead)) .dead))))))) (by kernel_rfl) (fun _ h => h.to ⟨_, (rs r0), ⟨_, (rs r0), ⟨_, (rs r0), trivial⟩⟩⟩ trivial) ?_   -- region 11
            refine hx_det rfl rfl rfl nofun (det_loadN (cells := [_, _]) rfl (ms m0) (by rfl) ag110 sz110) rfl ?_
            refine hx_det rfl rfl rfl nofun (det_loadN (cells := [_, _]) rfl m0 (by rfl) ag110 sz110) rfl ?_
            refine hx_det rfl rfl rfl nofun (det_loadN (cells := [_, _]) rfl (ms m0) (by rfl) ag110 sz110) rfl ?_
            refine hx_det rfl rfl rfl nofun (det_loadN (cells := [_, _]) rfl (ms m0) (by rfl) ag110 sz110) rfl ?_
            refine hx_det rfl rfl rfl nofun (det_indexA rfl rfl rfl rfl un112 sz110) rfl ?_
            refine hx_mut0 rfl rfl rfl (act_store (cells := [_, _]) (cs' := aC encGspan (upd [(Gspan.mk 0 0), (Gspan.mk 0 0), (Gspan.mk 0 0), (Gspan.mk 0 0), (Gspan.mk 0 0), (Gspan.mk 0 0), (Gspan.mk 0 0), (Gspan.mk 0 0), (Gspan.mk 0 0), (Gspan.mk 0 0), (Gspan.mk 0 1073741824)] 4 (Gspan.mk 0 1073741824))) rfl rfl rfl s0 (aC_set (enc := encGspan) (z := 2) (o := 0) (fun _ => rfl) k11_p1 rfl rfl) (aC_le (enc := encGspan) (z := 2) (o := 0) (fun _ => rfl) k11_p1 rfl) sz110 ⟨rfl, rfl, trivial⟩) (by rintro _ _ _ ⟨rfl, rfl⟩ w hs; exact hs.to ⟨_, (rs r0), ⟨_, (rs r0), ⟨_, (rs r0), trivial⟩⟩⟩ trivial) ?_
            rintro _ _ _ ⟨rfl, rfl⟩
            refine hx_det rfl rfl rfl nofun (det_indexA rfl rfl rfl rfl un112 sz110) rfl ?_
            refine hx_mut0 rfl rfl rfl (act_store (cells := [_, _]) (cs' := aC encGspan (upd (upd [(Gspan.mk 0 0), (Gspan.mk 0 0), (Gspan.mk 0 0), (Gspan.mk 0 0), (Gspan.mk 0 0), (Gspan.mk 0 0), (Gspan.mk 0 0), (Gspan.mk 0 0), (Gspan.mk 0 0), (Gspan.mk 0 0), (Gspan.mk 0 1073741824)] 4 (Gspan.mk 0 1073741824)) 5 (Gspan.mk 1 1073741824))) rfl rfl rfl s0 (aC_set (enc := encGspan) (z := 2) (o := 0) (fun _ => rfl) k11_p2 rfl rfl) (aC_le (enc := encGspan) (z := 2) (o := 0) (fun _ => rfl) k11_p2 rfl) sz110 ⟨rfl, rfl, trivial⟩) (by rintro _ _ _ ⟨rfl, rfl⟩ w hs; exact hs.to ⟨_, (rs r0), ⟨_, (rs r0), ⟨_, (rs r0), trivial⟩⟩⟩ trivial) ?_
            rintro _ _ _ ⟨rfl, rfl⟩
            refine hx_det rfl rfl rfl nofun (det_indexA rfl rfl rfl rfl un112 sz110) rfl ?_
            refine hx_mut0 rfl rfl rfl (act_store (cells := [_, _]) (cs' := aC encGspan (upd (upd (upd [(Gspan.mk 0 0), (Gspan.mk 0 0), (Gspan.mk 0 0), (Gspan.mk 0 0), (Gspan.mk 0 0), (Gspan.mk 0 0), (Gspan.mk 0 0), (Gspan.mk 0 0), (Gspan.mk 0 0), (Gspan.mk 0 0), (Gspan.mk 0 1073741824)] 4 (Gspan.mk 0 1073741824)) 5 (Gspan.mk 1 1073741824)) 7 (Gspan.mk 0 1073741824))) rfl rfl rfl s0 (aC_set (enc := encGspan) (z := 2) (o := 0) (fun _ => rfl) k11_p3 rfl rfl) (aC_le (enc := encGspan) (z := 2) (o := 0) (fun _ => rfl) k11_p3 rfl) sz110 ⟨rfl, rfl, trivial⟩) (by rintro _ _ _ ⟨rfl, rfl⟩ w hs; exact hs.to ⟨_, (rs r0), ⟨_, (rs r0), ⟨_, (rs r0), trivial⟩⟩⟩ trivial) ?_
            rintro _ _ _ ⟨rfl, rfl⟩
            refine hx_end ?_
            refine wl_det rfl rfl (det_indexA rfl rfl rfl rfl un112 sz110) rfl ?_
            refine wl_act0 (act_store (cells := [_, _]) (cs' := aC encGspan (upd (upd (upd (upd [(Gspan.mk 0 0), (Gspan.mk 0 0), (Gspan.mk 0 0), (Gspan.mk 0 0), (Gspan.mk 0 0), (Gspan.mk 0 0), (Gspan.mk 0 0), (Gspan.mk 0 0), (Gspan.mk 0 0), (Gspan.mk 0 0), (Gspan.mk 0 1073741824)] 4 (Gspan.mk 0 1073741824)) 5 (Gspan.mk 1 1073741824)) 7 (Gspan.mk 0 1073741824)) 8 (Gspan.mk 0 1073741824))) rfl rfl rfl s0 (aC_set (enc := encGspan) (z := 2) (o := 0) (fun _ => rfl) k11_p4 rfl rfl) (aC_le (enc := encGspan) (z := 2) (o := 0) (fun _ => rfl) k11_p4 rfl) sz110 ⟨rfl, rfl, trivial⟩) rfl rfl ?_
            rintro _ _ _ ⟨rfl, rfl⟩
            refine wl_nil ?_
            refine pn_then ?_
            refine wc_region ?_   -- region 12
            refine wl_det rfl rfl (det_build (cs := [_, _]) pl110 zr110 rfl rfl (by rfl)) rfl ?_
            refine wl_det rfl rfl (det_indexA rfl rfl rfl rfl un112 sz110) rfl ?_
            obtain ⟨k12_2, h⟩ := chk_some h
            refine wl_act0 (act_store (cells := [_, _]) (cs' := aC encGspan (upd (upd (upd (upd (upd [(Gspan.mk 0 0), (Gspan.mk 0 0), (Gspan.mk 0 0), (Gspan.mk 0 0), (Gspan.mk 0 0), (Gspan.mk 0 0), (Gspan.mk 0 0), (Gspan.mk 0 0), (Gspan.mk 0 0), (Gspan.mk 0 0), (Gspan.mk 0 1073741824)] 4 (Gspan.mk 0 1073741824)) 5 (Gspan.mk 1 1073741824)) 7 (Gspan.mk 0 1073741824)) 8 (Gspan.mk 0 1073741824)) 9 (Gspan.mk 0 1000000000))) rfl rfl rfl s0 (aC_set (enc := encGspan) (z := 2) (o := 0) (fun _ => rfl) k12_2 rfl rfl) (aC_le (enc := encGspan) (z := 2) (o := 0) (fun _ => rfl) k12_2 rfl) sz110 ⟨rfl, rfl, trivial⟩) rfl rfl ?_
            rintro _ _ _ ⟨rfl, rfl⟩
            refine wl_nil ?_
            refine pn_block ?_
            replace h := Option.some.inj h
            subst h
            exact pn_meetG ((upd (upd (upd (upd (upd [(Gspan.mk 0 0), (Gspan.mk 0 0), (Gspan.mk 0 0), (Gspan.mk 0 0), (Gspan.mk 0 0), (Gspan.mk 0 0), (Gspan.mk 0 0), (Gspan.mk 0 0), (Gspan.mk 0 0), (Gspan.mk 0 0), (Gspan.mk 0 1073741824)] 4 (Gspan.mk 0 1073741824)) 5 (Gspan.mk 1 1073741824)) 7 (Gspan.mk 0 1073741824)) 8 (Gspan.mk 0 1073741824)) 9 (Gspan.mk 0 1000000000)), ()) rfl ⟨rfl, rfl, trivial⟩ (fun _ h => h.to ⟨_, (rs (rs (rs r0))), ⟨_, r0, trivial⟩⟩ trivial)
          · have h := ifF h cd24
            refine wc_seq ?_
            refine wc_region ?_   -- region 13
            refine wl_det rfl rfl (det_eql rfl rfl) rfl ?_
            refine wl_det rfl rfl (det_assign rfl) rfl ?_
            refine wl_nil ?_
            refine pn_then ?_
            refine wc_cond rfl (fun cd30 => ?_) (fun cd30 => ?_)
            · have h := ifT h cd30
              refine wc_seq ?_
              obtain ⟨k14_p1, h⟩ := chk_some h
              obtain ⟨k14_p2, h⟩ := chk_some h
              obtain ⟨k14_p3, h⟩ := chk_some h
              obtain ⟨k14_p4, h⟩ := chk_some h
              refine dx_regionZ (Z := St C [_, _, _] []) 10 [[], [], [], [], [0], [0, 4], [0, 1, 4, 5], [0, 1, 4, 5, 6], [0, 1, 2, 4, 5, 6, 7], [0, 1, 2, 4, 5, 6, 7, 8], [0, 1, 2, 3, 4, 5, 6, 7, 8, 9], [0, 1, 2, 3, 4, 5, 6, 7, 8, 9, 10]] mixed (ord := (.det 0 (.det 1 (.det 2 (.det 3 (.det 4 (.alt 5 (.det 6 (.alt 7 (.det 8 (.alt 9 .done .dead)) .dead)) .dead))))))) (by kernel_rfl) (fun _ h => h.to ⟨_, (rs r0), ⟨_, (rs r0), ⟨_, (rs r0), trivial⟩⟩⟩ trivial) ?_   -- region 14
              refine hx_det rfl rfl rfl nofun (det_loadN (cells := [_, _]) rfl (ms m0) (by rfl) ag110 sz110) rfl ?_
              refine hx_det rfl rfl rfl nofun (det_loadN (cells := [_, _]) rfl m0 (by rfl) ag110 sz110) rfl ?_
              refine hx_det rfl rfl rfl nofun (det_loadN (cells := [_, _]) rfl (ms m0) (by rfl) ag110 sz110) rfl ?_
              refine hx_det rfl rfl rfl nofun (det_loadN (cells := [_, _]) rfl (ms m0) (by rfl) ag110 sz110) rfl ?_
              refine hx_det rfl rfl rfl nofun (det_indexA rfl rfl rfl rfl un112 sz110) rfl ?_
              refine hx_mut0 rfl rfl rfl (act_store (cells := [_, _]) (cs' := aC encGspan (upd [(Gspan.mk 0 0), (Gspan.mk 0 0), (Gspan.mk 0 0), (Gspan.mk 0 0), (Gspan.mk 0 0), (Gspan.mk 0 0), (Gspan.mk 0 0), (Gspan.mk 0 0), (Gspan.mk 0 0), (Gspan.mk 0 0), (Gspan.mk 0 1073741824)] 4 (Gspan.mk 0 1073741824))) rfl rfl rfl s0 (aC_set (enc := encGspan) (z := 2) (o := 0) (fun _ => rfl) k14_p1 rfl rfl) (aC_le (enc := encGspan) (z := 2) (o := 0) (fun _ => rfl) k14_p1 rfl) sz110 ⟨rfl, rfl, trivial⟩) (by rintro _ _ _ ⟨rfl, rfl⟩ w hs; exact hs.to ⟨_, (rs r0), ⟨_, (rs r0), ⟨_, (rs r0), trivial⟩⟩⟩ trivial) ?_
              rintro _ _ _ ⟨rfl, rfl⟩
              refine hx_det rfl rfl rfl nofun (det_indexA rfl rfl rfl rfl un112 sz110) rfl ?_
              refine hx_mut0 rfl rfl rfl (act_store (cells := [_, _]) (cs' := aC encGspan (upd (upd [(Gspan.mk 0 0), (Gspan.mk 0 0), (Gspan.mk 0 0), (Gspan.mk 0 0), (Gspan.mk 0 0), (Gspan.mk 0 0), (Gspan.mk 0 0), (Gspan.mk 0 0), (Gspan.mk 0 0), (Gspan.mk 0 0), (Gspan.mk 0 1073741824)] 4 (Gspan.mk 0 1073741824)) 5 (Gspan.mk 1 1073741824))) rfl rfl rfl s0 (aC_set (enc := encGspan) (z := 2) (o := 0) (fun _ => rfl) k14_p2 rfl rfl) (aC_le (enc := encGspan) (z := 2) (o := 0) (fun _ => rfl) k14_p2 rfl) sz110 ⟨rfl, rfl, trivial⟩) (by rintro _ _ _ ⟨rfl, rfl⟩ w hs; exact hs.to ⟨_, (rs r0), ⟨_, (rs r0), ⟨_, (rs r0), trivial⟩⟩⟩ trivial) ?_
              rintro _ _ _ ⟨rfl, rfl⟩
              refine hx_det rfl rfl rfl nofun (det_indexA rfl rfl rfl rfl un112 sz110) rfl ?_
              refine hx_mut0 rfl rfl rfl (act_store (cells := [_, _]) (cs' := aC encGspan (upd (upd (upd [(Gspan.mk 0 0), (Gspan.mk 0 0), (Gspan.mk 0 0), (Gspan.mk 0 0), (Gspan.mk 0 0), (Gspan.mk 0 0), (Gspan.mk 0 0), (Gspan.mk 0 0), (Gspan.mk 0 0), (Gspan.mk 0 0), (Gspan.mk 0 1073741824)] 4 (Gspan.mk 0 1073741824)) 5 (Gspan.mk 1 1073741824)) 7 (Gspan.mk 0 1073741824))) rfl rfl rfl s0 (aC_set (enc := encGspan) (z := 2) (o := 0) (fun _ => rfl) k14_p3 rfl rfl) (aC_le (enc := encGspan) (z := 2) (o := 0) (fun _ => rfl) k14_p3 rfl) sz110 ⟨rfl, rfl, trivial⟩) (by rintro _ _ _ ⟨rfl, rfl⟩ w hs; exact hs.to ⟨_, (rs r0), ⟨_, (rs r0), ⟨_, (rs r0), trivial⟩⟩⟩ trivial) ?_
              rintro _ _ _ ⟨rfl, rfl⟩
              refine hx_end ?_
              refine wl_det rfl rfl (det_indexA rfl rfl rfl rfl un112 sz110) rfl ?_
              refine wl_act0 (act_store (cells := [_, _]) (cs' := aC encGspan (upd (upd (upd (upd [(Gspan.mk 0 0), (Gspan.mk 0 0), (Gspan.mk 0 0), (Gspan.mk 0 0), (Gspan.mk 0 0), (Gspan.mk 0 0), (Gspan.mk 0 0), (Gspan.mk 0 0), (Gspan.mk 0 0), (Gspan.mk 0 0), (Gspan.mk 0 1073741824)] 4 (Gspan.mk 0 1073741824)) 5 (Gspan.mk 1 1073741824)) 7 (Gspan.mk 0 1073741824)) 8 (Gspan.mk 0 1073741824))) rfl rfl rfl s0 (aC_set (enc := encGspan) (z := 2) (o := 0) (fun _ => rfl) k14_p4 rfl rfl) (aC_le (enc := encGspan) (z := 2) (o := 0) (fun _ => rfl) k14_p4 rfl) sz110 ⟨rfl, rfl, trivial⟩) rfl rfl ?_
              rintro _ _ _ ⟨rfl, rfl⟩
              refine wl_nil ?_
              refine pn_then ?_
              refine wc_region ?_   -- region 15
              refine wl_det rfl rfl (det_build (cs := [_, _]) pl110 zr110 rfl rfl (by rfl)) rfl ?_
              refine wl_det rfl rfl (det_indexA rfl rfl rfl rfl un112 sz110) rfl ?_
              obtain ⟨k15_2, h⟩ := chk_some h
              refine wl_act0 (act_store (cells := [_, _]) (cs' := aC encGspan (upd (upd (upd (upd (upd [(Gspan.mk 0 0), (Gspan.mk 0 0), (Gspan.mk 0 0), (Gspan.mk 0 0), (Gspan.mk 0 0), (Gspan.mk 0 0), (Gspan.mk 0 0), (Gspan.mk 0 0), (Gspan.mk 0 0), (Gspan.mk 0 0), (Gspan.mk 0 1073741824)] 4 (Gspan.mk 0 1073741824)) 5 (Gspan.mk 1 1073741824)) 7 (Gspan.mk 0 1073741824)) 8 (Gspan.mk 0 1073741824)) 6 (Gspan.mk 1 8784))) rfl rfl rfl s0 (aC_set (enc := encGspan) (z := 2) (o := 0) (fun _ => rfl) k15_2 rfl rfl) (aC_le (enc := encGspan) (z := 2) (o := 0) (fun _ => rfl) k15_2 rfl) sz110 ⟨rfl, rfl, trivial⟩) rfl rfl ?_
              rintro _ _ _ ⟨rfl, rfl⟩
              refine wl_nil ?_
              refine pn_block ?_
              replace h := Option.some.inj h
              subst h
              exact pn_meetG ((upd (upd (upd (upd (upd [(Gspan.mk 0 0), (Gspan.mk 0 0), (Gspan.mk 0 0), (Gspan.mk 0 0), (Gspan.mk 0 0), (Gspan.mk 0 0), (Gspan.mk 0 0), (Gspan.mk 0 0), (Gspan.mk 0 0), (Gspan.mk 0 0), (Gspan.mk 0 1073741824)] 4 (Gspan.mk 0 1073741824)) 5 (Gspan.mk 1 1073741824)) 7 (Gspan.mk 0 1073741824)) 8 (Gspan.mk 0 1073741824)) 6 (Gspan.mk 1 8784)), ()) rfl ⟨rfl, rfl, trivial⟩ (fun _ h => h.to ⟨_, (rs (rs (rs r0))), ⟨_, r0, trivial⟩⟩ trivial)
            · have h := ifF h cd30
              refine wc_seq ?_
              refine wc_region ?_   -- region 16
              refine wl_det rfl rfl (det_eql rfl rfl) rfl ?_
              refine wl_det rfl rfl (det_assign rfl) rfl ?_
              refine wl_nil ?_
              refine pn_then ?_
              refine wc_cond rfl (fun cd36 => ?_) (fun cd36 => ?_)
              · have h := ifT h cd36
                obtain ⟨k17_p1, h⟩ := chk_some h
                obtain ⟨k17_p2, h⟩ := chk_some h
                refine dx_regionZ (Z := St C [_, _, _] []) 4 [[], [], [0], [0, 2], [0, 1, 2, 3], [0, 1, 2, 3, 4]] mixed (ord := (.det 0 (.det 1 (.det 2 (.alt 3 .done .dead))))) (by kernel_rfl) (fun _ h => h.to ⟨_, (rs r0), ⟨_, (rs r0), ⟨_, (rs r0), trivial⟩⟩⟩ trivial) ?_   -- region 17
                refine hx_det rfl rfl rfl nofun (det_loadN (cells := [_, _]) rfl (ms m0) (by rfl) ag110 sz110) rfl ?_
                refine hx_det rfl rfl rfl nofun (det_loadN (cells := [_, _]) rfl m0 (by rfl) ag110 sz110) rfl ?_
                refine hx_det rfl rfl rfl nofun (det_indexA rfl rfl rfl rfl un112 sz110) rfl ?_
                refine hx_mut0 rfl rfl rfl (act_store (cells := [_, _]) (cs' := aC encGspan (upd [(Gspan.mk 0 0), (Gspan.mk 0 0), (Gspan.mk 0 0), (Gspan.mk 0 0), (Gspan.mk 0 0), (Gspan.mk 0 0), (Gspan.mk 0 0), (Gspan.mk 0 0), (Gspan.mk 0 0), (Gspan.mk 0 0), (Gspan.mk 0 1073741824)] 4 (Gspan.mk 0 1073741824))) rfl rfl rfl s0 (aC_set (enc := encGspan) (z := 2) (o := 0) (fun _ => rfl) k17_p1 rfl rfl) (aC_le (enc := encGspan) (z := 2) (o := 0) (fun _ => rfl) k17_p1 rfl) sz110 ⟨rfl, rfl, trivial⟩) (by rintro _ _ _ ⟨rfl, rfl⟩ w hs; exact hs.to ⟨_, (rs r0), ⟨_, (rs r0), ⟨_, (rs r0), trivial⟩⟩⟩ trivial) ?_
                rintro _ _ _ ⟨rfl, rfl⟩
                refine hx_end ?_
                refine wl_det rfl rfl (det_indexA rfl rfl rfl rfl un112 sz110) rfl ?_
                refine wl_act0 (act_store (cells := [_, _]) (cs' := aC encGspan (upd (upd [(Gspan.mk 0 0), (Gspan.mk 0 0), (Gspan.mk 0 0), (Gspan.mk 0 0), (Gspan.mk 0 0), (Gspan.mk 0 0), (Gspan.mk 0 0), (Gspan.mk 0 0), (Gspan.mk 0 0), (Gspan.mk 0 0), (Gspan.mk 0 1073741824)] 4 (Gspan.mk 0 1073741824)) 5 (Gspan.mk 1 1073741824))) rfl rfl rfl s0 (aC_set (enc := encGspan) (z := 2) (o := 0) (fun _ => rfl) k17_p2 rfl rfl) (aC_le (enc := encGspan) (z := 2) (o := 0) (fun _ => rfl) k17_p2 rfl) sz110 ⟨rfl, rfl, trivial⟩) rfl rfl ?_
                rintro _ _ _ ⟨rfl, rfl⟩
                refine wl_nil ?_
                refine pn_block ?_
                replace h := Option.some.inj h
                subst h
                exact pn_meetG ((upd (upd [(Gspan.mk 0 0), (Gspan.mk 0 0), (Gspan.mk 0 0), (Gspan.mk 0 0), (Gspan.mk 0 0), (Gspan.mk 0 0), (Gspan.mk 0 0), (Gspan.mk 0 0), (Gspan.mk 0 0), (Gspan.mk 0 0), (Gspan.mk 0 1073741824)] 4 (Gspan.mk 0 1073741824)) 5 (Gspan.mk 1 1073741824)), ()) rfl ⟨rfl, rfl, trivial⟩ (fun _ h => h.to ⟨_, (rs (rs (rs r0))), ⟨_, r0, trivial⟩⟩ trivial)
              · have h := ifF h cd36
                refine wc_skip ?_
                refine pn_block ?_
                replace h := Option.some.inj h
                subst h
                exact pn_meetG ([(Gspan.mk 0 0), (Gspan.mk 0 0), (Gspan.mk 0 0), (Gspan.mk 0 0), (Gspan.mk 0 0), (Gspan.mk 0 0), (Gspan.mk 0 0), (Gspan.mk 0 0), (Gspan.mk 0 0), (Gspan.mk 0 0), (Gspan.mk 0 1073741824)], ()) rfl ⟨rfl, rfl, trivial⟩ (fun _ h => h.to ⟨_, (rs (rs (rs r0))), ⟨_, r0, trivial⟩⟩ trivial)
  rintro ⟨s6, _⟩ e6
  dsimp only at e6 ⊢
  subst e6
  have h := ho6
  refine wc_seq ?_
  refine wc_region ?_   -- region 18
  obtain ⟨k18_0, h⟩ := chk_some h
  refine wl_det rfl rfl (det_loadN (cells := aC encGspan s6) rfl (ms m0) aC_whole ag112 (sz_aC (enc := encGspan) (z := 2) sz112 (fun _ => rfl) k18_0 rfl)) rfl ?_
  refine wl_act0 (act_store (cells := aC encGspan s6) (cs' := aC encGspan s6) rfl rfl rfl s0 (aC_over (enc := encGspan) (z := 2) (fun _ => rfl) k2_3 k18_0) (aC_fits (enc := encGspan) (z := 2) (fun _ => rfl) k2_3 k18_0) (sz_aC (enc := encGspan) (z := 2) sz112 (fun _ => rfl) k18_0 rfl) (aC_ones (fun _ u hu => (lGspan).one (w := default) (S := fun _ => True) rfl u hu) _)) rfl rfl ?_
  rintro _ _ _ ⟨rfl, rfl⟩
  refine wl_nil ?_
  refine pn_then ?_
  refine wc_ret ?_
  replace h := Option.some.inj h
  subst h
  refine pn_ret (vs := [_]) rfl ⟨⟨_, _, aC encGspan s6, rfl, m0, ag112, sz_aC (enc := encGspan) (z := 2) sz112 (fun _ => rfl) k18_0 rfl, rfl⟩, trivial⟩ ⟨rfl, rfl, rfl⟩ (fun _ h => h.to trivial trivial)
def Q_contract_fields (r : Int) : Value → List Ent → List Fact → Prop := fun v θ κ => v = .int .i64 r ∧ θ = [] ∧ κ = []
theorem plains_contract_fields {r : Int} : ∀ v θ κ, Q_contract_fields r v θ κ → Plains θ := by
  rintro _ _ _ ⟨rfl, rfl, rfl⟩
  exact trivial
set_option maxHeartbeats 4000000 in
set_option maxRecDepth 100000 in
theorem W_contract_fields (a0 : GTreaty) (A0 : Option Addr) (n0 : Nat) (c0 : Nat) (A3 : Option Addr) (n3 : Nat) (c3 : Nat) (A6 : Option Addr) (n6 : Nat) (c6 : Nat) (A9 : Option Addr) (n9 : Nat) (c9 : Nat) (A12 : Option Addr) (n12 : Nat) (c12 : Nat) (r : Int) (h : contract_fields a0 = some r) : Spec Try.prog 74 [.agg #[.int .i64 a0.ID, .int .i64 a0.Kind, .int .i64 a0.Period.From, .int .i64 a0.Period.To, .slice A0 n0 c0, .slice A3 n3 c3, .int .i64 a0.Risk, .int .i64 a0.Cession, .int .i64 a0.Line, .int .i64 a0.Lines, .int .i64 a0.Retention, .int .i64 a0.Limit, .int .i64 a0.Window, .int .i64 a0.Deductible, .int .i64 a0.Aggregate, .int .i64 a0.Premium, .slice A6 n6 c6, .bool a0.Timed, .int .i64 a0.Base, .slice A9 n9 c9, .slice A12 n12 c12]] [] [fV (lSlice (lInt .i64)) (.slice A0 n0 c0) a0.Perils, fV (lSlice (lInt .i64)) (.slice A3 n3 c3) a0.Areas, fV (lSlice (lInt .i64)) (.slice A6 n6 c6) a0.Reinstatements, fV (lSlice (lInt .i64)) (.slice A9 n9 c9) a0.Inures, fV (lSlice lGPart) (.slice A12 n12 c12) a0.Parts] (Q_contract_fields r) := by
  unfold contract_fields at h
  refine spec_of (σ := [(0, _)]) Try.func74 rfl rfl rfl rfl ?_
  intro C
  refine wc_know (fun _ h => h.lenF m0) (fun e => ?_)
  subst e
  refine wc_know (fun _ h => h.lenF (ms m0)) (fun e => ?_)
  subst e
  refine wc_know (fun _ h => h.lenF (ms (ms m0))) (fun e => ?_)
  subst e
  refine wc_know (fun _ h => h.lenF (ms (ms (ms m0)))) (fun e => ?_)
  subst e
  refine wc_know (fun _ h => h.lenF (ms (ms (ms (ms m0))))) (fun e => ?_)
  subst e
  refine wc_seq ?_
  refine wc_region ?_   -- region 0
  refine wl_act (act_box (cs := [_, _, _, _, _, _, _, _, _, _, _, _, _, _, _, _, _, _, _, _, _]) rfl rfl) rfl rfl rfl ?_
  rintro _ _ _ ⟨b0_0, rfl, rfl, rfl⟩
  refine wl_det rfl rfl (det_assign rfl) rfl ?_
  refine wl_nil ?_
  refine pn_then ?_
  refine wc_seq ?_
  refine wc_region ?_   -- region 1
  refine wl_det rfl rfl (det_field rfl fd49_5 rfl) rfl ?_
  refine wl_det rfl rfl (det_load rfl m0 (by rfl) na3 us3) rfl ?_
  refine wl_det rfl rfl (det_field rfl fd49_6 rfl) rfl ?_
  refine wl_det rfl rfl (det_load rfl m0 (by rfl) na3 us3) rfl ?_
  refine wl_det rfl rfl (det_field rfl fd49_7 rfl) rfl ?_
  refine wl_det rfl rfl (det_load rfl m0 (by rfl) na3 us3) rfl ?_
  refine wl_det rfl rfl (det_field rfl fd49_8 rfl) rfl ?_
  refine wl_det rfl rfl (det_load rfl m0 (by rfl) na3 us3) rfl ?_
  refine wl_det rfl rfl (det_field rfl fd49_9 rfl) rfl ?_
  refine wl_det rfl rfl (det_load rfl m0 (by rfl) na3 us3) rfl ?_
  refine wl_det rfl rfl (det_field rfl fd49_10 rfl) rfl ?_
  refine wl_det rfl rfl (det_load rfl m0 (by rfl) na3 us3) rfl ?_
  refine wl_det rfl rfl (det_field rfl fd49_11 rfl) rfl ?_
  refine wl_det rfl rfl (det_load rfl m0 (by rfl) na3 us3) rfl ?_
  refine wl_det rfl rfl (det_field rfl fd49_12 rfl) rfl ?_
  refine wl_det rfl rfl (det_load rfl m0 (by rfl) na3 us3) rfl ?_
  refine wl_det rfl rfl (det_field rfl fd49_13 rfl) rfl ?_
  refine wl_det rfl rfl (det_load rfl m0 (by rfl) na3 us3) rfl ?_
  refine wl_det rfl rfl (det_field rfl fd49_17 rfl) rfl ?_
  refine wl_det rfl rfl (det_load rfl m0 (by rfl) na3 us3) rfl ?_
  refine wl_det rfl rfl (det_field rfl fd49_14 rfl) rfl ?_
  refine wl_det rfl rfl (det_load rfl m0 (by rfl) na3 us3) rfl ?_
  refine wl_det rfl rfl (det_buildA (cs := aC (encI .i64) [a0.Risk, a0.Cession, a0.Line, a0.Lines, a0.Retention, a0.Limit, a0.Window, a0.Deductible, a0.Aggregate, a0.Base, a0.Premium]) un108 sz3 zr108 rfl rfl (by rfl)) rfl ?_
  refine wl_act (act_alloc (cs := aC (encI .i64) (List.replicate 11 (0 : Int))) zr108 rfl) rfl rfl rfl ?_
  rintro _ _ _ ⟨b1_23, rfl, rfl, rfl⟩
  obtain ⟨k1_24, h⟩ := chk_some h
  obtain ⟨k1_24a, h⟩ := chk_some h
  refine wl_act0 (act_store (cells := aC (encI .i64) [a0.Risk, a0.Cession, a0.Line, a0.Lines, a0.Retention, a0.Limit, a0.Window, a0.Deductible, a0.Aggregate, a0.Base, a0.Premium]) (cs' := aC (encI .i64) [a0.Risk, a0.Cession, a0.Line, a0.Lines, a0.Retention, a0.Limit, a0.Window, a0.Deductible, a0.Aggregate, a0.Base, a0.Premium]) rfl rfl rfl s0 (aC_over (enc := (encI .i64)) (z := 1) (fun _ => rfl) k1_24 k1_24a) (aC_fits (enc := (encI .i64)) (z := 1) (fun _ => rfl) k1_24 k1_24a) (sz_aC (enc := (encI .i64)) (z := 1) sz108 (fun _ => rfl) k1_24a rfl) (aC_ones (fun _ u hu => ((lInt .i64)).one (w := default) (S := fun _ => True) rfl u hu) _)) rfl rfl ?_
  rintro _ _ _ ⟨rfl, rfl⟩
  refine wl_nil ?_
  refine pn_then ?_
  refine wc_seq ?_
  refine wc_region ?_   -- region 2
  refine wl_det rfl rfl (det_field rfl fd49_1 rfl) rfl ?_
  refine wl_det rfl rfl (det_load rfl (ms m0) (by rfl) na3 us3) rfl ?_
  obtain ⟨r2_2, hr2_2, h⟩ := bind_some h
  refine wl_act (act_callS (cap := []) (W_contract_ruleOf a0.Kind r2_2 hr2_2) rfl rfl rfl bd87 rfl trivial) rfl rfl rfl ?_
  rintro _ _ _ ⟨_, _, ⟨rfl, rfl, rfl⟩, rfl, rfl⟩
  dsimp only [List.nil_append, List.cons_append]
  refine wl_act (act_alloc (cs := aC encGspan (List.replicate 11 (Gspan.mk 0 0))) zr112 rfl) rfl rfl rfl ?_
  rintro _ _ _ ⟨b2_3, rfl, rfl, rfl⟩
  obtain ⟨k2_4, h⟩ := chk_some h
  obtain ⟨k2_4a, h⟩ := chk_some h
  refine wl_act0 (act_store (cells := aC encGspan r2_2) (cs' := aC encGspan r2_2) rfl rfl rfl s0 (aC_over (enc := encGspan) (z := 2) (fun _ => rfl) k2_4 k2_4a) (aC_fits (enc := encGspan) (z := 2) (fun _ => rfl) k2_4 k2_4a) (sz_aC (enc := encGspan) (z := 2) sz112 (fun _ => rfl) k2_4a rfl) (aC_ones (fun _ u hu => (lGspan).one (w := default) (S := fun _ => True) rfl u hu) _)) rfl rfl ?_
  rintro _ _ _ ⟨rfl, rfl⟩
  refine wl_nil ?_
  refine pn_then ?_
  obtain ⟨q6, h, ho6⟩ := bind_some h
  refine wc_meetG (G := Unit × Unit) (fun (s6, _) => (.inl s6) = q6) (fun (_, _) => [(1, .pointer (some ⟨b0_0, 0, none⟩)), (3, .pointer (some ⟨b1_23, 0, none⟩)), (4, .pointer (some ⟨b2_3, 0, none⟩))]) (fun (_, _) => [eBlk b0_0 49 [.int .i64 a0.ID, .int .i64 a0.Kind, .int .i64 a0.Period.From, .int .i64 a0.Period.To, .slice A0 a0.Perils.length c0, .slice A3 a0.Areas.length c3, .int .i64 a0.Risk, .int .i64 a0.Cession, .int .i64 a0.Line, .int .i64 a0.Lines, .int .i64 a0.Retention, .int .i64 a0.Limit, .int .i64 a0.Window, .int .i64 a0.Deductible, .int .i64 a0.Aggregate, .int .i64 a0.Premium, .slice A6 a0.Reinstatements.length c6, .bool a0.Timed, .int .i64 a0.Base, .slice A9 a0.Inures.length c9, .slice A12 a0.Parts.length c12], eBlk b1_23 108 (aC (encI .i64) [a0.Risk, a0.Cession, a0.Line, a0.Lines, a0.Retention, a0.Limit, a0.Window, a0.Deductible, a0.Aggregate, a0.Base, a0.Premium]), eBlk b2_3 112 (aC encGspan r2_2)]) (fun (_, _) => [fV (lSlice (lInt .i64)) (.slice A0 a0.Perils.length c0) a0.Perils, fV (lSlice (lInt .i64)) (.slice A3 a0.Areas.length c3) a0.Areas, fV (lSlice (lInt .i64)) (.slice A6 a0.Reinstatements.length c6) a0.Reinstatements, fV (lSlice (lInt .i64)) (.slice A9 a0.Inures.length c9) a0.Inures, fV (lSlice lGPart) (.slice A12 a0.Parts.length c12) a0.Parts]) ?_ ?_
  · refine wc_seq ?_
    refine wc_region ?_   -- region 3
    refine wl_det rfl rfl (det_loadN (cells := aC (encI .i64) [a0.Risk, a0.Cession, a0.Line, a0.Lines, a0.Retention, a0.Limit, a0.Window, a0.Deductible, a0.Aggregate, a0.Base, a0.Premium]) rfl (ms m0) aC_whole ag108 (sz_aC (enc := (encI .i64)) (z := 1) sz108 (fun _ => rfl) k1_24a rfl)) rfl ?_
    refine wl_det rfl rfl (det_move rfl) rfl ?_
    refine wl_nil ?_
    refine pn_then ?_
    refine wc_block ?_
    obtain ⟨o10, h, ho10⟩ := bind_some h
    obtain ⟨k10, hk10⟩ := loopV_some.1 h
    refine wc_loop (G := Nat × Int × Unit) (fun g => IterN (contract_fields_l10 a0 r2_2) g.1 g.2.1 o10) (fun g => g.1) (fun (_, s10, _) => [(1, .pointer (some ⟨b0_0, 0, none⟩)), (3, .pointer (some ⟨b1_23, 0, none⟩)), (4, .pointer (some ⟨b2_3, 0, none⟩)), (35, .agg (aC (encI .i64) [a0.Risk, a0.Cession, a0.Line, a0.Lines, a0.Retention, a0.Limit, a0.Window, a0.Deductible, a0.Aggregate, a0.Base, a0.Premium]).toArray), (36, .int .i64 s10)]) (fun (_, _, _) => [eBlk b0_0 49 [.int .i64 a0.ID, .int .i64 a0.Kind, .int .i64 a0.Period.From, .int .i64 a0.Period.To, .slice A0 a0.Perils.length c0, .slice A3 a0.Areas.length c3, .int .i64 a0.Risk, .int .i64 a0.Cession, .int .i64 a0.Line, .int .i64 a0.Lines, .int .i64 a0.Retention, .int .i64 a0.Limit, .int .i64 a0.Window, .int .i64 a0.Deductible, .int .i64 a0.Aggregate, .int .i64 a0.Premium, .slice A6 a0.Reinstatements.length c6, .bool a0.Timed, .int .i64 a0.Base, .slice A9 a0.Inures.length c9, .slice A12 a0.Parts.length c12], eBlk b1_23 108 (aC (encI .i64) [a0.Risk, a0.Cession, a0.Line, a0.Lines, a0.Retention, a0.Limit, a0.Window, a0.Deductible, a0.Aggregate, a0.Base, a0.Premium]), eBlk b2_3 112 (aC encGspan r2_2)]) (fun (_, _, _) => [fV (lSlice (lInt .i64)) (.slice A0 a0.Perils.length c0) a0.Perils, fV (lSlice (lInt .i64)) (.slice A3 a0.Areas.length c3) a0.Areas, fV (lSlice (lInt .i64)) (.slice A6 a0.Reinstatements.length c6) a0.Reinstatements, fV (lSlice (lInt .i64)) (.slice A9 a0.Inures.length c9) a0.Inures, fV (lSlice lGPart) (.slice A12 a0.Parts.length c12) a0.Parts]) (k10, 0, ()) hk10 ⟨rfl, rfl, rfl, rfl, rfl, trivial⟩ (fun _ h => h.to ⟨_, (rs (rs r0)), ⟨_, (rs r0), ⟨_, r0, trivial⟩⟩⟩ ⟨m0, ⟨(ms m0), ⟨(ms (ms m0)), ⟨(ms (ms (ms m0))), ⟨(ms (ms (ms (ms m0)))), trivial⟩⟩⟩⟩⟩) ?_
    rintro ⟨k10, s10, _⟩ hI
    obtain ⟨k10, rfl, q10, h, g10⟩ := IterN.pos hI
    dsimp only at h ⊢
    unfold contract_fields_l10 at h
    refine wc_seq ?_
    refine wc_region ?_   -- region 4
    refine wl_det rfl rfl (det_lss rfl rfl) rfl ?_
    refine wl_nil ?_
    refine pn_then ?_
    refine wc_seq ?_
    refine wc_cond rfl (fun cd14 => ?_) (fun cd14 => ?_)
    · have h := ifT h cd14
      refine wc_skip ?_
      refine pn_then ?_
      refine wc_seq ?_
      refine wc_block ?_
      refine wc_seq ?_
      refine wc_region ?_   -- region 5
      refine wl_det rfl rfl (det_move rfl) rfl ?_
      obtain ⟨k5_1, h⟩ := chk_some h
      obtain ⟨k5_1a, h⟩ := chk_some h
      obtain ⟨k5_1b, h⟩ := chk_some h
      refine wl_det rfl rfl (det_indexAV (enc := (encI .i64)) (xs := [a0.Risk, a0.Cession, a0.Line, a0.Lines, a0.Retention, a0.Limit, a0.Window, a0.Deductible, a0.Aggregate, a0.Base, a0.Premium]) (fun _ => rfl) rfl rfl k5_1 k5_1a k5_1b rfl un108 sz3 na3 us3) rfl ?_
      refine wl_det rfl rfl (det_assign rfl) rfl ?_
      refine wl_det rfl rfl (det_assign rfl) rfl ?_
      refine wl_nil ?_
      refine pn_then ?_
      refine wc_seq ?_
      refine wc_region ?_   -- region 6
      refine wl_det rfl rfl (det_move rfl) rfl ?_
      refine wl_det rfl rfl (det_indexA rfl rfl k5_1 k5_1a un112 sz110) rfl ?_
      obtain ⟨k6_2, h⟩ := chk_some h
      refine wl_det rfl rfl (det_loadN (cells := [.int .i64 (ix r2_2 s10).low, .int .i64 (ix r2_2 s10).high]) rfl (ms (ms m0)) (aC_cut (enc := encGspan) (z := 2) (o := 0) (fun _ => rfl) k6_2 rfl rfl) ag110 sz110) rfl ?_
      refine wl_det rfl rfl (det_build (cs := [_, _]) pl110 zr110 rfl rfl (by rfl)) rfl ?_
      refine wl_det rfl rfl (det_eqlS [_, _] [_, _] eq110 rfl rfl rfl rfl) rfl ?_
      refine wl_det rfl rfl (det_move rfl) rfl ?_
      refine wl_way (decide ([(ix r2_2 s10).low, (ix r2_2 s10).high] = [0, 0])) ((decide ([(ix r2_2 s10).low, (ix r2_2 s10).high] = [0, 0])) && (!decide ((ix [a0.Risk, a0.Cession, a0.Line, a0.Lines, a0.Retention, a0.Limit, a0.Window, a0.Deductible, a0.Aggregate, a0.Base, a0.Premium] s10) = 0))) 3 48 (fun hg => ?_) (fun hg => ?_) ?_
      · have hg6_8 := hg
        refine wl_on rfl rfl rfl rfl hg6_8 ?_
        refine wl_det rfl rfl (det_move rfl) rfl ?_
        refine wl_on rfl rfl rfl rfl hg6_8 ?_
        refine wl_det rfl rfl (det_neq rfl rfl) rfl ?_
        refine wl_det rfl rfl (det_and_on rfl rfl rfl hg6_8) rfl ?_
        exact wl_nil (pn_qnE (ext_cons rfl (ext_skip rfl (ext_skip rfl (ext_skip rfl ext_refl)))) (fun _ h => h))
      · have hg6_8a := hg
        refine wl_off rfl rfl rfl rfl rfl hg6_8a rfl ?_
        refine wl_off rfl rfl rfl rfl rfl hg6_8a rfl ?_
        refine wl_det rfl rfl (det_and_off (q := (!decide ((ix [a0.Risk, a0.Cession, a0.Line, a0.Lines, a0.Retention, a0.Limit, a0.Window, a0.Deductible, a0.Aggregate, a0.Base, a0.Premium] s10) = 0))) rfl rfl rfl hg6_8a) rfl ?_
        exact wl_nil (pn_qnE (ext_cons rfl (ext_skip rfl (ext_skip rfl (ext_skip rfl ext_refl)))) (fun _ h => h))
      refine wl_nil ?_
      refine pn_then ?_
      refine wc_cond rfl (fun cd22 => ?_) (fun cd22 => ?_)
      · have h := ifT h cd22
        refine wc_seq ?_
        refine wc_region ?_   -- region 7
        refine wl_det rfl rfl (det_assign rfl) rfl ?_
        refine wl_nil ?_
        refine pn_then ?_
        refine wc_ret ?_
        refine pr_block ?_
        refine pr_then ?_
        refine pr_then ?_
        refine pr_block ?_
        refine pr_then ?_
        replace h := Option.some.inj h
        subst h
        replace g10 := nextR g10
        subst g10
        have h := (elimL ho10)
        replace h := Option.some.inj h
        subst h
        have h := (elimR ho6)
        replace h := Option.some.inj h
        subst h
        refine pn_ret (vs := [_]) rfl ⟨rfl, trivial⟩ ⟨rfl, rfl, rfl⟩ (fun _ h => h.to trivial trivial)
      · have h := ifF h cd22
        refine wc_skip ?_
        refine pn_block ?_
        refine pn_then ?_
        refine wc_region ?_   -- region 8
        refine wl_det rfl rfl (det_add rfl rfl) rfl ?_
        refine wl_det rfl rfl (det_move rfl) rfl ?_
        refine wl_nil ?_
        replace h := Option.some.inj h
        subst h
        exact pn_some (k10, (w64 (s10 + 1)), ()) ⟨nextL g10, Nat.lt_succ_self _⟩ ⟨rfl, rfl, rfl, rfl, rfl, trivial⟩ (fun _ h => h.to ⟨_, r0, ⟨_, r0, ⟨_, r0, trivial⟩⟩⟩ ⟨m0, ⟨(ms m0), ⟨(ms (ms m0)), ⟨(ms (ms (ms m0))), ⟨(ms (ms (ms (ms m0)))), trivial⟩⟩⟩⟩⟩)
    · have h := ifF h cd14
      refine wc_exit ?_
      refine px_then ?_
      refine px_then ?_
      refine px_block ?_
      replace h := Option.some.inj h
      subst h
      replace g10 := nextR g10
      subst g10
      have h := (elimR ho10)
      replace h := Option.some.inj h
      subst h
      exact pn_meetG ((), ()) rfl ⟨rfl, rfl, rfl, trivial⟩ (fun _ h => h.to ⟨_, r0, ⟨_, r0, ⟨_, r0, trivial⟩⟩⟩ ⟨m0, ⟨(ms m0), ⟨(ms (ms m0)), ⟨(ms (ms (ms m0))), ⟨(ms (ms (ms (ms m0)))), trivial⟩⟩⟩⟩⟩)
  rintro ⟨s6, _⟩ e6
  dsimp only at e6 ⊢
  subst e6
  have h := (elimL ho6)
  refine wc_seq ?_
  refine wc_seq ?_
  refine wc_region ?_   -- region 9
  refine wl_det rfl rfl (det_field rfl fd49_15 rfl) rfl ?_
  refine wl_det rfl rfl (det_load rfl m0 (by rfl) na23 us23) rfl ?_
  refine wl_det rfl rfl (det_len rfl un23) rfl ?_
  refine wl_det rfl rfl (det_gtr rfl rfl) rfl ?_
  refine wl_det rfl rfl (det_move rfl) rfl ?_
  refine wl_way (decide (0 < (a0.Reinstatements.length : Int))) ((decide (0 < (a0.Reinstatements.length : Int))) && (!decide (a0.Kind = 4))) 4 58 (fun hg => ?_) (fun hg => ?_) ?_
  · have hg9_8 := hg
    refine wl_on rfl rfl rfl rfl hg9_8 ?_
    refine wl_det rfl rfl (det_field rfl fd49_1 rfl) rfl ?_
    refine wl_on rfl rfl rfl rfl hg9_8 ?_
    refine wl_det rfl rfl (det_load rfl m0 (by rfl) na3 us3) rfl ?_
    refine wl_on rfl rfl rfl rfl hg9_8 ?_
    refine wl_det rfl rfl (det_neq rfl rfl) rfl ?_
    refine wl_det rfl rfl (det_and_on rfl rfl rfl hg9_8) rfl ?_
    exact wl_nil (pn_qnE (ext_cons rfl (ext_skip rfl (ext_skip rfl (ext_skip rfl (ext_skip rfl ext_refl))))) (fun _ h => h))
  · have hg9_8a := hg
    refine wl_off rfl rfl rfl rfl rfl hg9_8a rfl ?_
    refine wl_off rfl rfl rfl rfl rfl hg9_8a rfl ?_
    refine wl_off rfl rfl rfl rfl rfl hg9_8a rfl ?_
    refine wl_det rfl rfl (det_and_off (q := (!decide (a0.Kind = 4))) rfl rfl rfl hg9_8a) rfl ?_
    exact wl_nil (pn_qnE (ext_cons rfl (ext_skip rfl (ext_skip rfl (ext_skip rfl (ext_skip rfl ext_refl))))) (fun _ h => h))
  refine wl_det rfl rfl (det_move rfl) rfl ?_
  refine wl_way ((decide (0 < (a0.Reinstatements.length : Int))) && (!decide (a0.Kind = 4))) (((decide (0 < (a0.Reinstatements.length : Int))) && (!decide (a0.Kind = 4))) && (!decide (a0.Kind = 5))) 4 63 (fun hg => ?_) (fun hg => ?_) ?_
  · have hg9_13 := hg
    refine wl_on rfl rfl rfl rfl hg9_13 ?_
    refine wl_det rfl rfl (det_field rfl fd49_1 rfl) rfl ?_
    refine wl_on rfl rfl rfl rfl hg9_13 ?_
    refine wl_det rfl rfl (det_load rfl m0 (by rfl) na3 us3) rfl ?_
    refine wl_on rfl rfl rfl rfl hg9_13 ?_
    refine wl_det rfl rfl (det_neq rfl rfl) rfl ?_
    refine wl_det rfl rfl (det_and_on rfl rfl rfl hg9_13) rfl ?_
    exact wl_nil (pn_qnE (ext_cons rfl (ext_skip rfl (ext_skip rfl (ext_skip rfl (ext_skip rfl ext_refl))))) (fun _ h => h))
  · have hg9_13a := hg
    refine wl_off rfl rfl rfl rfl rfl hg9_13a rfl ?_
    refine wl_off rfl rfl rfl rfl rfl hg9_13a rfl ?_
    refine wl_off rfl rfl rfl rfl rfl hg9_13a rfl ?_
    refine wl_det rfl rfl (det_and_off (q := (!decide (a0.Kind = 5))) rfl rfl rfl hg9_13a) rfl ?_
    exact wl_nil (pn_qnE (ext_cons rfl (ext_skip rfl (ext_skip rfl (ext_skip rfl (ext_skip rfl ext_refl))))) (fun _ h => h))
  refine wl_nil ?_
  refine pn_then ?_
  refine wc_cond rfl (fun cd29 => ?_) (fun cd29 => ?_)
  · have h := ifT h cd29
    refine wc_seq ?_
    refine wc_region ?_   -- region 10
    refine wl_det rfl rfl (det_assign rfl) rfl ?_
    refine wl_nil ?_
    refine pn_then ?_
    refine wc_ret ?_
    refine pr_then ?_
    replace h := Option.some.inj h
    subst h
    refine pn_ret (vs := [_]) rfl ⟨rfl, trivial⟩ ⟨rfl, rfl, rfl⟩ (fun _ h => h.to trivial trivial)
  · have h := ifF h cd29
    refine wc_skip ?_
    refine pn_then ?_
    refine wc_seq ?_
    refine wc_seq ?_
    refine wc_region ?_   -- region 11
    refine wl_det rfl rfl (det_field rfl fd49_15 rfl) rfl ?_
    refine wl_det rfl rfl (det_load rfl m0 (by rfl) na23 us23) rfl ?_
    refine wl_det rfl rfl (det_len rfl un23) rfl ?_
    refine wl_det rfl rfl (det_eql rfl rfl) rfl ?_
    refine wl_det rfl rfl (det_move rfl) rfl ?_
    refine wl_way (decide ((a0.Reinstatements.length : Int) = 0)) ((decide ((a0.Reinstatements.length : Int) = 0)) && a0.Timed) 3 71 (fun hg => ?_) (fun hg => ?_) ?_
    · have hg11_7 := hg
      refine wl_on rfl rfl rfl rfl hg11_7 ?_
      refine wl_det rfl rfl (det_field rfl fd49_16 rfl) rfl ?_
      refine wl_on rfl rfl rfl rfl hg11_7 ?_
      refine wl_det rfl rfl (det_load rfl m0 (by rfl) na4 us4) rfl ?_
      refine wl_det rfl rfl (det_and_on rfl rfl rfl hg11_7) rfl ?_
      exact wl_nil (pn_qnE (ext_cons rfl (ext_skip rfl (ext_skip rfl (ext_skip rfl ext_refl)))) (fun _ h => h))
    · have hg11_7a := hg
      refine wl_off rfl rfl rfl rfl rfl hg11_7a rfl ?_
      refine wl_off rfl rfl rfl rfl rfl hg11_7a rfl ?_
      refine wl_det rfl rfl (det_and_off (q := a0.Timed) rfl rfl rfl hg11_7a) rfl ?_
      exact wl_nil (pn_qnE (ext_cons rfl (ext_skip rfl (ext_skip rfl (ext_skip rfl ext_refl)))) (fun _ h => h))
    refine wl_nil ?_
    refine pn_then ?_
    refine wc_cond rfl (fun cd35 => ?_) (fun cd35 => ?_)
    · have h := ifT h cd35
      refine wc_seq ?_
      refine wc_region ?_   -- region 12
      refine wl_det rfl rfl (det_assign rfl) rfl ?_
      refine wl_nil ?_
      refine pn_then ?_
      refine wc_ret ?_
      refine pr_then ?_
      replace h := Option.some.inj h
      subst h
      refine pn_ret (vs := [_]) rfl ⟨rfl, trivial⟩ ⟨rfl, rfl, rfl⟩ (fun _ h => h.to trivial trivial)
    · have h := ifF h cd35
      refine wc_skip ?_
      refine pn_then ?_
      obtain ⟨q38, h, ho38⟩ := bind_some h
      refine wc_meetG (G := Unit × Unit) (fun (s38, _) => (.inl s38) = q38) (fun (_, _) => []) (fun (_, _) => []) (fun (_, _) => []) ?_ ?_
      · refine wc_seq ?_
        refine wc_region ?_   -- region 13
        refine wl_det rfl rfl (det_loadN (cells := aC (encI .i64) [a0.Risk, a0.Cession, a0.Line, a0.Lines, a0.Retention, a0.Limit, a0.Window, a0.Deductible, a0.Aggregate, a0.Base, a0.Premium]) rfl (ms m0) aC_whole ag108 (sz_aC (enc := (encI .i64)) (z := 1) sz108 (fun _ => rfl) k1_24a rfl)) rfl ?_
        refine wl_det rfl rfl (det_move rfl) rfl ?_
        refine wl_nil ?_
        refine pn_then ?_
        refine wc_block ?_
        obtain ⟨o42, h, ho42⟩ := bind_some h
        obtain ⟨k42, hk42⟩ := loopV_some.1 h
        refine wc_loop (G := Nat × Int × Unit) (fun g => IterN (contract_fields_l42 a0 r2_2) g.1 g.2.1 o42) (fun g => g.1) (fun (_, s42, _) => [(4, .pointer (some ⟨b2_3, 0, none⟩)), (72, .agg (aC (encI .i64) [a0.Risk, a0.Cession, a0.Line, a0.Lines, a0.Retention, a0.Limit, a0.Window, a0.Deductible, a0.Aggregate, a0.Base, a0.Premium]).toArray), (73, .int .i64 s42)]) (fun (_, _, _) => [eBlk b2_3 112 (aC encGspan r2_2)]) (fun (_, _, _) => []) (k42, 0, ()) hk42 ⟨rfl, rfl, rfl, trivial⟩ (fun _ h => h.to ⟨_, (rs (rs r0)), trivial⟩ trivial) ?_
        rintro ⟨k42, s42, _⟩ hI
        obtain ⟨k42, rfl, q42, h, g42⟩ := IterN.pos hI
        dsimp only at h ⊢
        unfold contract_fields_l42 at h
        refine wc_seq ?_
        refine wc_region ?_   -- region 14
        refine wl_det rfl rfl (det_lss rfl rfl) rfl ?_
        refine wl_nil ?_
        refine pn_then ?_
        refine wc_seq ?_
        refine wc_cond rfl (fun cd46 => ?_) (fun cd46 => ?_)
        · have h := ifT h cd46
          refine wc_skip ?_
          refine pn_then ?_
          refine wc_seq ?_
          refine wc_block ?_
          refine wc_seq ?_
          refine wc_region ?_   -- region 15
          refine wl_det rfl rfl (det_move rfl) rfl ?_
          obtain ⟨k15_1, h⟩ := chk_some h
          obtain ⟨k15_1a, h⟩ := chk_some h
          obtain ⟨k15_1b, h⟩ := chk_some h
          refine wl_det rfl rfl (det_indexAV (enc := (encI .i64)) (xs := [a0.Risk, a0.Cession, a0.Line, a0.Lines, a0.Retention, a0.Limit, a0.Window, a0.Deductible, a0.Aggregate, a0.Base, a0.Premium]) (fun _ => rfl) rfl rfl k15_1 k15_1a k15_1b rfl un108 sz3 na3 us3) rfl ?_
          refine wl_det rfl rfl (det_assign rfl) rfl ?_
          refine wl_det rfl rfl (det_assign rfl) rfl ?_
          refine wl_nil ?_
          refine pn_then ?_
          obtain ⟨q52, h, ho52⟩ := bind_some h
          refine wc_meetG (G := Bool × Unit) (fun (s52, _) => s52 = q52) (fun (s52, _) => [(4, .pointer (some ⟨b2_3, 0, none⟩)), (72, .agg (aC (encI .i64) [a0.Risk, a0.Cession, a0.Line, a0.Lines, a0.Retention, a0.Limit, a0.Window, a0.Deductible, a0.Aggregate, a0.Base, a0.Premium]).toArray), (73, .int .i64 s42), (94, .bool s52)]) (fun (_, _) => [eBlk b2_3 112 (aC encGspan r2_2)]) (fun (_, _) => []) ?_ ?_
          · rcases Bool.eq_false_or_eq_true (!(decide ([(ix r2_2 s42).low, (ix r2_2 s42).high] = [0, 0]))) with hg16_g82 | hg16_g82
            · have h := ifT h hg16_g82
              obtain ⟨k16_p1, h⟩ := chk_some h
              refine dx_region 18 [[], [0], [0, 1], [], [0, 1, 2, 3], [0, 1, 2, 3, 4], [0, 1, 2, 3, 4, 5], [0, 1, 2, 3, 4, 5], [0, 1, 2, 3, 4, 5, 7], [0, 1, 2, 3, 4, 5, 7, 8], [0, 1, 2, 3, 4, 5, 7, 8, 9], [0, 1, 2, 3, 4, 5], [0, 1, 2, 3, 4, 5, 11], [0, 1, 2, 3, 4, 5, 11, 12], [0, 1, 2, 3, 4, 5, 11, 12, 13], [0, 1, 2, 3, 4, 5, 6, 7, 8, 9, 10, 11, 12, 13, 14], [0, 1, 2, 3, 4, 5, 6, 7, 8, 9, 10, 11, 12, 13, 14, 15], [0, 1, 2, 3, 4, 5, 6, 7, 8, 9, 10, 11, 12, 13, 14, 15, 16]] mixed (ord := (.det 0 (.det 1 (.det 2 (.det 3 (.det 4 (.det 5 (.det 6 (.det 7 (.det 8 (.det 9 (.det 10 (.det 11 (.det 12 (.det 13 (.det 14 (.alt 15 (.det 16 (.det 17 .done)) .dead))))))))))))))))) (by kernel_rfl) ?_   -- region 16
              refine hx_det rfl rfl rfl nofun (det_move rfl) rfl ?_
              refine hx_det rfl rfl rfl nofun (det_indexA rfl rfl k15_1 k15_1a un112 sz110) rfl ?_
              refine hx_det rfl rfl rfl nofun (det_loadN (cells := [.int .i64 (ix r2_2 s42).low, .int .i64 (ix r2_2 s42).high]) rfl m0 (aC_cut (enc := encGspan) (z := 2) (o := 0) (fun _ => rfl) k16_p1 rfl rfl) ag110 sz110) rfl ?_
              refine hx_det rfl rfl rfl nofun (det_build (cs := [_, _]) pl110 zr110 rfl rfl (by rfl)) rfl ?_
              refine hx_det rfl rfl rfl nofun (det_neqS [_, _] [_, _] eq110 rfl rfl rfl rfl) rfl ?_
              refine hx_det rfl rfl rfl nofun (det_move rfl) rfl ?_
              refine hx_on rfl rfl rfl rfl rfl hg16_g82 nofun (det_move rfl) rfl ?_
              refine hx_on rfl rfl rfl rfl rfl hg16_g82 nofun (det_move rfl) rfl ?_
              refine hx_on rfl rfl rfl rfl rfl hg16_g82 nofun (det_indexA rfl rfl k15_1 k15_1a un112 sz110) rfl ?_
              refine hx_on rfl rfl rfl rfl rfl hg16_g82 nofun (det_field rfl fd110_0 rfl) rfl ?_
              refine hx_on rfl rfl rfl rfl rfl hg16_g82 nofun (det_load rfl m0 (aC_get (enc := encGspan) (z := 2) (o := 0) (fun _ => rfl) k16_p1 rfl) na3 us3) rfl ?_
              refine hx_on rfl rfl rfl rfl rfl hg16_g82 nofun (det_move rfl) rfl ?_
              refine hx_on rfl rfl rfl rfl rfl hg16_g82 nofun (det_indexA rfl rfl k15_1 k15_1a un112 sz110) rfl ?_
              refine hx_on rfl rfl rfl rfl rfl hg16_g82 nofun (det_field rfl fd110_1 rfl) rfl ?_
              refine hx_on rfl rfl rfl rfl rfl hg16_g82 nofun (det_load rfl m0 (aC_get (enc := encGspan) (z := 2) (o := 1) (fun _ => rfl) k16_p1 rfl) na3 us3) rfl ?_
              obtain ⟨r16_15, hr16_15, h⟩ := bind_some h
              refine hx_actG rfl rfl rfl rfl rfl hg16_g82 (act_callS (cap := []) (W_contract_within (ix [a0.Risk, a0.Cession, a0.Line, a0.Lines, a0.Retention, a0.Limit, a0.Window, a0.Deductible, a0.Aggregate, a0.Base, a0.Premium] s42) (ix r2_2 s42).low (ix r2_2 s42).high r16_15 hr16_15) rfl rfl rfl bd46 rfl trivial) rfl (by rintro _ _ _ ⟨_, _, _, rfl, rfl⟩; first | exact ⟨_, _, rfl, rfl⟩ | exact ⟨_, [], rfl, rfl⟩) ?_
              rintro _ _ _ ⟨_, _, ⟨rfl, rfl, rfl⟩, rfl, rfl⟩
              dsimp only [List.nil_append, List.cons_append]
              refine hx_on rfl rfl rfl rfl rfl hg16_g82 nofun (det_not rfl) rfl ?_
              refine hx_det rfl rfl rfl nofun (det_pick_on rfl hg16_g82 rfl rfl) rfl ?_
              refine hx_end ?_
              refine wl_nil ?_
              replace h := Option.some.inj h
              subst h
              exact pn_meetG ((!r16_15), ()) rfl ⟨rfl, rfl, rfl, rfl, trivial⟩ (fun _ h => h.to ⟨_, r0, trivial⟩ trivial)
            · have h := ifF h hg16_g82
              obtain ⟨k16_p2, h⟩ := chk_some h
              refine dx_region 18 [[], [0], [0, 1], [], [0, 1, 2, 3], [0, 1, 2, 3, 4], [0, 1, 2, 3, 4, 5], [0, 1, 2, 3, 4, 5], [0, 1, 2, 3, 4, 5, 7], [0, 1, 2, 3, 4, 5, 7, 8], [0, 1, 2, 3, 4, 5, 7, 8, 9], [0, 1, 2, 3, 4, 5], [0, 1, 2, 3, 4, 5, 11], [0, 1, 2, 3, 4, 5, 11, 12], [0, 1, 2, 3, 4, 5, 11, 12, 13], [0, 1, 2, 3, 4, 5, 6, 7, 8, 9, 10, 11, 12, 13, 14], [0, 1, 2, 3, 4, 5, 6, 7, 8, 9, 10, 11, 12, 13, 14, 15], [0, 1, 2, 3, 4, 5, 6, 7, 8, 9, 10, 11, 12, 13, 14, 15, 16]] mixed (ord := (.det 0 (.det 1 (.det 2 (.det 3 (.det 4 (.det 5 (.det 6 (.det 7 (.det 8 (.det 9 (.det 10 (.det 11 (.det 12 (.det 13 (.det 14 (.det 15 (.det 16 (.det 17 .done))))))))))))))))))) (by kernel_rfl) ?_   -- region 16
              refine hx_det rfl rfl rfl nofun (det_move rfl) rfl ?_
              refine hx_det rfl rfl rfl nofun (det_indexA rfl rfl k15_1 k15_1a un112 sz110) rfl ?_
              refine hx_det rfl rfl rfl nofun (det_loadN (cells := [.int .i64 (ix r2_2 s42).low, .int .i64 (ix r2_2 s42).high]) rfl m0 (aC_cut (enc := encGspan) (z := 2) (o := 0) (fun _ => rfl) k16_p2 rfl rfl) ag110 sz110) rfl ?_
              refine hx_det rfl rfl rfl nofun (det_build (cs := [_, _]) pl110 zr110 rfl rfl (by rfl)) rfl ?_
              refine hx_det rfl rfl rfl nofun (det_neqS [_, _] [_, _] eq110 rfl rfl rfl rfl) rfl ?_
              refine hx_det rfl rfl rfl nofun (det_move rfl) rfl ?_
              refine hx_off rfl rfl rfl rfl rfl hg16_g82 rfl ?_
              refine hx_off rfl rfl rfl rfl rfl hg16_g82 rfl ?_
              refine hx_off rfl rfl rfl rfl rfl hg16_g82 rfl ?_
              refine hx_off rfl rfl rfl rfl rfl hg16_g82 rfl ?_
              refine hx_off rfl rfl rfl rfl rfl hg16_g82 rfl ?_
              refine hx_off rfl rfl rfl rfl rfl hg16_g82 rfl ?_
              refine hx_off rfl rfl rfl rfl rfl hg16_g82 rfl ?_
              refine hx_off rfl rfl rfl rfl rfl hg16_g82 rfl ?_
              refine hx_off rfl rfl rfl rfl rfl hg16_g82 rfl ?_
              refine hx_off rfl rfl rfl rfl rfl hg16_g82 rfl ?_
              refine hx_off rfl rfl rfl rfl rfl hg16_g82 rfl ?_
              refine hx_det rfl rfl rfl nofun (det_pick_off rfl hg16_g82 rfl rfl) rfl ?_
              refine hx_end ?_
              refine wl_nil ?_
              replace h := Option.some.inj h
              subst h
              exact pn_meetG (false, ()) rfl ⟨rfl, rfl, rfl, rfl, trivial⟩ (fun _ h => h.to ⟨_, r0, trivial⟩ trivial)
          rintro ⟨s52, _⟩ e52
          dsimp only at e52 ⊢
          subst e52
          have h := ho52
          refine wc_cond rfl (fun cd54 => ?_) (fun cd54 => ?_)
          · have h := ifT h cd54
            refine wc_seq ?_
            refine wc_region ?_   -- region 17
            refine wl_det rfl rfl (det_assign rfl) rfl ?_
            refine wl_nil ?_
            refine pn_then ?_
            refine wc_ret ?_
            refine pr_block ?_
            refine pr_then ?_
            refine pr_then ?_
            refine pr_block ?_
            refine pr_then ?_
            replace h := Option.some.inj h
            subst h
            replace g42 := nextR g42
            subst g42
            have h := (elimL ho42)
            replace h := Option.some.inj h
            subst h
            have h := (elimR ho38)
            replace h := Option.some.inj h
            subst h
            refine pn_ret (vs := [_]) rfl ⟨rfl, trivial⟩ ⟨rfl, rfl, rfl⟩ (fun _ h => h.to trivial trivial)
          · have h := ifF h cd54
            refine wc_skip ?_
            refine pn_block ?_
            refine pn_then ?_
            refine wc_region ?_   -- region 18
            refine wl_det rfl rfl (det_add rfl rfl) rfl ?_
            refine wl_det rfl rfl (det_move rfl) rfl ?_
            refine wl_nil ?_
            replace h := Option.some.inj h
            subst h
            exact pn_some (k42, (w64 (s42 + 1)), ()) ⟨nextL g42, Nat.lt_succ_self _⟩ ⟨rfl, rfl, rfl, trivial⟩ (fun _ h => h.to ⟨_, r0, trivial⟩ trivial)
        · have h := ifF h cd46
          refine wc_exit ?_
          refine px_then ?_
          refine px_then ?_
          refine px_block ?_
          replace h := Option.some.inj h
          subst h
          replace g42 := nextR g42
          subst g42
          have h := (elimR ho42)
          replace h := Option.some.inj h
          subst h
          exact pn_meetG ((), ()) rfl trivial (fun _ h => h.to trivial trivial)
      rintro ⟨s38, _⟩ e38
      dsimp only at e38 ⊢
      subst e38
      have h := (elimL ho38)
      refine wc_seq ?_
      refine wc_region ?_   -- region 19
      refine wl_det rfl rfl (det_assign rfl) rfl ?_
      refine wl_nil ?_
      refine pn_then ?_
      refine wc_ret ?_
      replace h := Option.some.inj h
      subst h
      refine pn_ret (vs := [_]) rfl ⟨rfl, trivial⟩ ⟨rfl, rfl, rfl⟩ (fun _ h => h.to trivial trivial)
def Q_slices_Index_s_int_int (r : Int) : Value → List Ent → List Fact → Prop := fun v θ κ => v = .int .i64 r ∧ θ = [] ∧ κ = []
theorem plains_slices_Index_s_int_int {r : Int} : ∀ v θ κ, Q_slices_Index_s_int_int r v θ κ → Plains θ := by
  rintro _ _ _ ⟨rfl, rfl, rfl⟩
  exact trivial
set_option maxHeartbeats 4000000 in
set_option maxRecDepth 100000 in
theorem W_slices_Index_s_int_int (a0 : (List Int)) (a1 : Int) (A0 : Option Addr) (n0 : Nat) (c0 : Nat) (r : Int) (h : slices_Index_s_int_int a0 a1 = some r) : Spec Try.prog 79 [.slice A0 n0 c0, .int .i64 a1] [] [fV (lSlice (lInt .i64)) (.slice A0 n0 c0) a0] (Q_slices_Index_s_int_int r) := by
  unfold slices_Index_s_int_int at h
  refine spec_of (σ := [(0, _), (1, _)]) Try.func79 rfl rfl rfl rfl ?_
  intro C
  refine wc_know (fun _ h => h.lenF m0) (fun e => ?_)
  subst e
  refine wc_seq ?_
  refine wc_region ?_   -- region 0
  refine wl_det rfl rfl (det_assign rfl) rfl ?_
  refine wl_nil ?_
  refine pn_then ?_
  obtain ⟨q2, h, ho2⟩ := bind_some h
  refine wc_meetG (G := Unit × Unit) (fun (s2, _) => (.inl s2) = q2) (fun (_, _) => []) (fun (_, _) => []) (fun (_, _) => []) ?_ ?_
  · refine wc_seq ?_
    refine wc_region ?_   -- region 1
    refine wl_det rfl rfl (det_move rfl) rfl ?_
    refine wl_det rfl rfl (det_len rfl un23) rfl ?_
    refine wl_det rfl rfl (det_move rfl) rfl ?_
    refine wl_nil ?_
    refine pn_then ?_
    refine wc_block ?_
    obtain ⟨o6, h, ho6⟩ := bind_some h
    obtain ⟨k6, hk6⟩ := loopV_some.1 h
    refine wc_loop (G := Nat × Int × Unit) (fun g => IterN (slices_Index_s_int_int_l6 a0 a1) g.1 g.2.1 o6) (fun g => g.1) (fun (_, s6, _) => [(0, .slice A0 a0.length c0), (1, .int .i64 a1), (7, .int .i64 (a0.length : Int)), (8, .int .i64 s6)]) (fun (_, _, _) => []) (fun (_, _, _) => [fV (lSlice (lInt .i64)) (.slice A0 a0.length c0) a0]) (k6, 0, ()) hk6 ⟨rfl, rfl, rfl, rfl, trivial⟩ (fun _ h => h.to trivial ⟨m0, trivial⟩) ?_
    rintro ⟨k6, s6, _⟩ hI
    obtain ⟨k6, rfl, q6, h, g6⟩ := IterN.pos hI
    dsimp only at h ⊢
    unfold slices_Index_s_int_int_l6 at h
    refine wc_seq ?_
    refine wc_region ?_   -- region 2
    refine wl_det rfl rfl (det_lss rfl rfl) rfl ?_
    refine wl_nil ?_
    refine pn_then ?_
    refine wc_seq ?_
    refine wc_cond rfl (fun cd10 => ?_) (fun cd10 => ?_)
    · have h := ifT h cd10
      refine wc_skip ?_
      refine pn_then ?_
      refine wc_seq ?_
      refine wc_block ?_
      refine wc_seq ?_
      refine wc_region ?_   -- region 3
      refine wl_det rfl rfl (det_move rfl) rfl ?_
      refine wl_det rfl rfl (det_assign rfl) rfl ?_
      refine wl_nil ?_
      refine pn_then ?_
      refine wc_seq ?_
      refine wc_region ?_   -- region 4
      refine wl_det rfl rfl (det_move rfl) rfl ?_
      refine wl_det rfl rfl (det_move rfl) rfl ?_
      refine wl_det rfl rfl (det_move rfl) rfl ?_
      obtain ⟨k4_3, h⟩ := chk_some h
      refine wl_st (fun _ h => h.openF m0 k4_3) ?_
      refine wl_det rfl rfl (det_indexP rfl rfl (ms m0) k4_3 m0 un23 sz3) rfl ?_
      refine wl_det rfl rfl (det_loadP (off := 0) rfl m0 (by rfl) (by rfl) (loaded_1 na3 us3)) rfl ?_
      refine wl_det rfl rfl (det_eql rfl rfl) rfl ?_
      refine wl_nil ?_
      refine pn_then ?_
      refine wc_cond rfl (fun cd18 => ?_) (fun cd18 => ?_)
      · have h := ifT h cd18
        refine wc_seq ?_
        refine wc_region ?_   -- region 5
        refine wl_det rfl rfl (det_move rfl) rfl ?_
        refine wl_det rfl rfl (det_assign rfl) rfl ?_
        refine wl_nil ?_
        refine pn_then ?_
        refine wc_ret ?_
        refine pr_block ?_
        refine pr_then ?_
        refine pr_then ?_
        refine pr_block ?_
        refine pr_then ?_
        replace h := Option.some.inj h
        subst h
        replace g6 := nextR g6
        subst g6
        have h := (elimL ho6)
        replace h := Option.some.inj h
        subst h
        have h := (elimR ho2)
        replace h := Option.some.inj h
        subst h
        refine pn_ret (vs := [_]) rfl ⟨rfl, trivial⟩ ⟨rfl, rfl, rfl⟩ (fun _ h => h.to trivial trivial)
      · have h := ifF h cd18
        refine wc_skip ?_
        refine pn_block ?_
        refine pn_then ?_
        refine wc_region ?_   -- region 6
        refine wl_det rfl rfl (det_add rfl rfl) rfl ?_
        refine wl_det rfl rfl (det_move rfl) rfl ?_
        refine wl_nil ?_
        replace h := Option.some.inj h
        subst h
        exact pn_some (k6, (w64 (s6 + 1)), ()) ⟨nextL g6, Nat.lt_succ_self _⟩ ⟨rfl, rfl, rfl, rfl, trivial⟩ (fun _ h => h.to trivial ⟨(ms m0), trivial⟩)
    · have h := ifF h cd10
      refine wc_exit ?_
      refine px_then ?_
      refine px_then ?_
      refine px_block ?_
      replace h := Option.some.inj h
      subst h
      replace g6 := nextR g6
      subst g6
      have h := (elimR ho6)
      replace h := Option.some.inj h
      subst h
      exact pn_meetG ((), ()) rfl trivial (fun _ h => h.to trivial trivial)
  rintro ⟨s2, _⟩ e2
  dsimp only at e2 ⊢
  subst e2
  have h := (elimL ho2)
  refine wc_seq ?_
  refine wc_region ?_   -- region 7
  refine wl_det rfl rfl (det_assign rfl) rfl ?_
  refine wl_nil ?_
  refine pn_then ?_
  refine wc_ret ?_
  replace h := Option.some.inj h
  subst h
  refine pn_ret (vs := [_]) rfl ⟨rfl, trivial⟩ ⟨rfl, rfl, rfl⟩ (fun _ h => h.to trivial trivial)
def Q_slices_Contains_s_int_int (r : Bool) : Value → List Ent → List Fact → Prop := fun v θ κ => v = .bool r ∧ θ = [] ∧ κ = []
theorem plains_slices_Contains_s_int_int {r : Bool} : ∀ v θ κ, Q_slices_Contains_s_int_int r v θ κ → Plains θ := by
  rintro _ _ _ ⟨rfl, rfl, rfl⟩
  exact trivial
set_option maxHeartbeats 4000000 in
set_option maxRecDepth 100000 in
theorem W_slices_Contains_s_int_int (a0 : (List Int)) (a1 : Int) (A0 : Option Addr) (n0 : Nat) (c0 : Nat) (r : Bool) (h : slices_Contains_s_int_int a0 a1 = some r) : Spec Try.prog 64 [.slice A0 n0 c0, .int .i64 a1] [] [fV (lSlice (lInt .i64)) (.slice A0 n0 c0) a0] (Q_slices_Contains_s_int_int r) := by
  unfold slices_Contains_s_int_int at h
  refine spec_of (σ := [(0, _), (1, _)]) Try.func64 rfl rfl rfl rfl ?_
  intro C
  refine wc_know (fun _ h => h.lenF m0) (fun e => ?_)
  subst e
  refine wc_seq ?_
  refine wc_region ?_   -- region 0
  refine wl_det rfl rfl (det_assign rfl) rfl ?_
  refine wl_nil ?_
  refine pn_then ?_
  refine wc_seq ?_
  refine wc_region ?_   -- region 1
  refine wl_det rfl rfl (det_move rfl) rfl ?_
  refine wl_det rfl rfl (det_move rfl) rfl ?_
  obtain ⟨r1_2, hr1_2, h⟩ := bind_some h
  refine wl_act (act_callS (cap := []) (W_slices_Index_s_int_int a0 a1 A0 a0.length c0 r1_2 hr1_2) rfl rfl rfl bd79 rfl ⟨m0, trivial⟩) rfl rfl rfl ?_
  rintro _ _ _ ⟨_, _, ⟨rfl, rfl, rfl⟩, rfl, rfl⟩
  dsimp only [List.nil_append, List.cons_append]
  refine wl_det rfl rfl (det_geq rfl rfl) rfl ?_
  refine wl_det rfl rfl (det_assign rfl) rfl ?_
  refine wl_nil ?_
  refine pn_then ?_
  refine wc_ret ?_
  replace h := Option.some.inj h
  subst h
  refine pn_ret (vs := [_]) rfl ⟨rfl, trivial⟩ ⟨rfl, rfl, rfl⟩ (fun _ h => h.to trivial trivial)
def Q_contract_Parts (r : Int) : Value → List Ent → List Fact → Prop := fun v θ κ => v = .int .i64 r ∧ θ = [] ∧ κ = []
theorem plains_contract_Parts {r : Int} : ∀ v θ κ, Q_contract_Parts r v θ κ → Plains θ := by
  rintro _ _ _ ⟨rfl, rfl, rfl⟩
  exact trivial
set_option maxHeartbeats 4000000 in
set_option maxRecDepth 100000 in
theorem W_contract_Parts (a0 : (List GPart)) (A0 : Option Addr) (n0 : Nat) (c0 : Nat) (r : Int) (h : contract_Parts a0 = some r) : Spec Try.prog 19 [.slice A0 n0 c0] [] [fV (lSlice lGPart) (.slice A0 n0 c0) a0] (Q_contract_Parts r) := by
  unfold contract_Parts at h
  refine spec_of (σ := [(0, _)]) Try.func19 rfl rfl rfl rfl ?_
  intro C
  refine wc_know (fun _ h => h.lenF m0) (fun e => ?_)
  subst e
  refine wc_seq ?_
  refine wc_region ?_   -- region 0
  refine wl_det rfl rfl (det_assign rfl) rfl ?_
  refine wl_nil ?_
  refine pn_then ?_
  refine wc_seq ?_
  refine wc_seq ?_
  refine wc_region ?_   -- region 1
  refine wl_det rfl rfl (det_move rfl) rfl ?_
  refine wl_det rfl rfl (det_len rfl un22) rfl ?_
  refine wl_det rfl rfl (det_gtr rfl rfl) rfl ?_
  refine wl_nil ?_
  refine pn_then ?_
  refine wc_cond rfl (fun cd5 => ?_) (fun cd5 => ?_)
  · have h := ifT h cd5
    refine wc_seq ?_
    refine wc_region ?_   -- region 2
    refine wl_det rfl rfl (det_assign rfl) rfl ?_
    refine wl_nil ?_
    refine pn_then ?_
    refine wc_ret ?_
    refine pr_then ?_
    replace h := Option.some.inj h
    subst h
    refine pn_ret (vs := [_]) rfl ⟨rfl, trivial⟩ ⟨rfl, rfl, rfl⟩ (fun _ h => h.to trivial trivial)
  · have h := ifF h cd5
    refine wc_skip ?_
    refine pn_then ?_
    refine wc_seq ?_
    refine wc_region ?_   -- region 3
    refine wl_det rfl rfl (det_assign rfl) rfl ?_
    refine wl_nil ?_
    refine pn_then ?_
    obtain ⟨q10, h, ho10⟩ := bind_some h
    refine wc_meetG (G := Int × Unit) (fun (s10, _) => (.inl s10) = q10) (fun (s10, _) => [(3, .int .i64 s10)]) (fun (_, _) => []) (fun (_, _) => []) ?_ ?_
    · refine wc_seq ?_
      refine wc_region ?_   -- region 4
      refine wl_det rfl rfl (det_move rfl) rfl ?_
      refine wl_det rfl rfl (det_len rfl un22) rfl ?_
      refine wl_det rfl rfl (det_move rfl) rfl ?_
      refine wl_nil ?_
      refine pn_then ?_
      refine wc_block ?_
      obtain ⟨o14, h, ho14⟩ := bind_some h
      obtain ⟨k14, hk14⟩ := loopV_some.1 h
      refine wc_loop (G := Nat × (Int × Int) × Unit) (fun g => IterN (contract_Parts_l14 a0) g.1 g.2.1 o14) (fun g => g.1) (fun (_, s14, _) => [(0, .slice A0 a0.length c0), (3, .int .i64 s14.1), (9, .slice A0 a0.length c0), (10, .int .i64 (a0.length : Int)), (11, .int .i64 s14.2)]) (fun (_, _, _) => []) (fun (_, _, _) => [fV (lSlice lGPart) (.slice A0 a0.length c0) a0]) (k14, (0, 0), ()) hk14 ⟨rfl, rfl, rfl, rfl, rfl, trivial⟩ (fun _ h => h.to trivial ⟨m0, trivial⟩) ?_
      rintro ⟨k14, s14, _⟩ hI
      obtain ⟨k14, rfl, q14, h, g14⟩ := IterN.pos hI
      dsimp only at h ⊢
      unfold contract_Parts_l14 at h
      refine wc_seq ?_
      refine wc_region ?_   -- region 5
      refine wl_det rfl rfl (det_lss rfl rfl) rfl ?_
      refine wl_nil ?_
      refine pn_then ?_
      refine wc_seq ?_
      refine wc_cond rfl (fun cd18 => ?_) (fun cd18 => ?_)
      · have h := ifT h cd18
        refine wc_skip ?_
        refine pn_then ?_
        refine wc_seq ?_
        refine wc_block ?_
        refine wc_seq ?_
        refine wc_region ?_   -- region 6
        refine wl_det rfl rfl (det_move rfl) rfl ?_
        obtain ⟨k6_1, h⟩ := chk_some h
        refine wl_st (fun _ h => h.openF m0 k6_1) ?_
        refine wl_det rfl rfl (det_indexP rfl rfl (ms m0) k6_1 m0 un22 sz25) rfl ?_
        refine wl_det rfl rfl (det_loadP (off := 0) rfl m0 (by rfl) (by rfl) (loaded_n (cells := [_, _]) ag25 sz25)) rfl ?_
        refine wl_act (act_alloc (cs := [_, _]) zr25 rfl) rfl rfl rfl ?_
        rintro _ _ _ ⟨b6_3, rfl, rfl, rfl⟩
        refine wl_det rfl rfl (det_assign rfl) rfl ?_
        refine wl_act0 (act_store (cells := [_, _]) (cs' := [_, _]) rfl rfl rfl s0 (by rfl) (of_decide_eq_true rfl) sz25 ⟨rfl, rfl, trivial⟩) rfl rfl ?_
        rintro _ _ _ ⟨rfl, rfl⟩
        refine wl_nil ?_
        refine pn_then ?_
        refine wc_seq ?_
        refine wc_seq ?_
        refine wc_region ?_   -- region 7
        refine wl_det rfl rfl (det_field rfl fd25_0 rfl) rfl ?_
        refine wl_det rfl rfl (det_load rfl m0 (by rfl) na3 us3) rfl ?_
        obtain ⟨r7_2, hr7_2, h⟩ := bind_some h
        refine wl_act (act_callS (cap := []) (W_contract_within (ix a0 s14.2).Party 1 15 r7_2 hr7_2) rfl rfl rfl bd46 rfl trivial) rfl rfl rfl ?_
        rintro _ _ _ ⟨_, _, ⟨rfl, rfl, rfl⟩, rfl, rfl⟩
        dsimp only [List.nil_append, List.cons_append]
        refine wl_det rfl rfl (det_not rfl) rfl ?_
        refine wl_det rfl rfl (det_move rfl) rfl ?_
        obtain ⟨q7_9, hq7_9, h⟩ := bind_some h
        have ho7_9 := h
        refine wl_way (!r7_2) q7_9 5 25 (fun hg => ?_) (fun hg => ?_) ?_
        · have hg7_9 := hg
          have h := ifT hq7_9 hg
          refine wl_off rfl rfl rfl rfl rfl hg7_9 rfl ?_
          refine wl_off rfl rfl rfl rfl rfl hg7_9 rfl ?_
          refine wl_off rfl rfl rfl rfl rfl hg7_9 rfl ?_
          refine wl_off rfl rfl rfl rfl rfl hg7_9 rfl ?_
          replace h := Option.some.inj h
          subst h
          refine wl_det rfl rfl (det_pick_on rfl hg7_9 rfl rfl) rfl ?_
          exact wl_nil (pn_qnE (ext_cons rfl (ext_skip rfl (ext_skip rfl (ext_skip rfl (ext_skip rfl (ext_skip rfl ext_refl)))))) (fun _ h => h))
        · have hg7_9a := hg
          have h := ifF hq7_9 hg
          refine wl_on rfl rfl rfl rfl hg7_9a ?_
          refine wl_det rfl rfl (det_field rfl fd25_1 rfl) rfl ?_
          refine wl_on rfl rfl rfl rfl hg7_9a ?_
          refine wl_det rfl rfl (det_load rfl m0 (by rfl) na3 us3) rfl ?_
          refine wl_on rfl rfl rfl rfl hg7_9a ?_
          obtain ⟨r7_7, hr7_7, h⟩ := bind_some h
          refine wl_act (act_callS (cap := []) (W_contract_within (ix a0 s14.2).Share 1 1000000 r7_7 hr7_7) rfl rfl rfl bd46 rfl trivial) rfl rfl rfl ?_
          rintro _ _ _ ⟨_, _, ⟨rfl, rfl, rfl⟩, rfl, rfl⟩
          dsimp only [List.nil_append, List.cons_append]
          refine wl_on rfl rfl rfl rfl hg7_9a ?_
          refine wl_det rfl rfl (det_not rfl) rfl ?_
          replace h := Option.some.inj h
          subst h
          refine wl_det rfl rfl (det_pick_off rfl hg7_9a rfl rfl) rfl ?_
          exact wl_nil (pn_qnE (ext_cons rfl (ext_skip rfl (ext_skip rfl (ext_skip rfl (ext_skip rfl (ext_skip rfl ext_refl)))))) (fun _ h => h))
        have h := ho7_9
        refine wl_nil ?_
        refine pn_then ?_
        refine wc_cond rfl (fun cd27 => ?_) (fun cd27 => ?_)
        · have h := ifT h cd27
          refine wc_seq ?_
          refine wc_region ?_   -- region 8
          refine wl_det rfl rfl (det_assign rfl) rfl ?_
          refine wl_nil ?_
          refine pn_then ?_
          refine wc_ret ?_
          refine pr_then ?_
          refine pr_block ?_
          refine pr_then ?_
          refine pr_then ?_
          refine pr_block ?_
          refine pr_then ?_
          replace h := Option.some.inj h
          subst h
          replace g14 := nextR g14
          subst g14
          have h := (elimL ho14)
          replace h := Option.some.inj h
          subst h
          have h := (elimR ho10)
          replace h := Option.some.inj h
          subst h
          refine pn_ret (vs := [_]) rfl ⟨rfl, trivial⟩ ⟨rfl, rfl, rfl⟩ (fun _ h => h.to trivial trivial)
        · have h := ifF h cd27
          refine wc_skip ?_
          refine pn_then ?_
          refine wc_seq ?_
          obtain ⟨q31, h, ho31⟩ := bind_some h
          refine wc_meetG (G := Bool × Unit) (fun (s31, _) => s31 = q31) (fun (s31, _) => [(0, .slice A0 a0.length c0), (3, .int .i64 s14.1), (5, .pointer (some ⟨b6_3, 0, none⟩)), (9, .slice A0 a0.length c0), (10, .int .i64 (a0.length : Int)), (11, .int .i64 s14.2), (38, .bool s31)]) (fun (_, _) => [eBlk b6_3 25 [.int .i64 (ix a0 s14.2).Party, .int .i64 (ix a0 s14.2).Share]]) (fun (_, _) => [fV (lSlice lGPart) (.slice A0 a0.length c0) a0]) ?_ ?_
          · rcases Bool.eq_false_or_eq_true (decide (0 < s14.2)) with hg9_g28 | hg9_g28
            · have h := ifT h hg9_g28
              obtain ⟨k9_p1, h⟩ := chk_some h
              refine wc_st (fun _ h => h.openF (ms m0) k9_p1) ?_
              refine dx_region 13 [[], [0], [0, 1], [0, 1, 2], [0, 1, 2, 3], [0, 1, 2], [0, 1, 2], [0, 1, 2, 6], [0, 1, 2, 5, 6, 7], [0, 1, 2, 5, 6, 7, 8], [0, 1, 2, 5, 6, 7, 8, 9], [0, 1, 2, 3, 4, 5, 6, 7, 8, 9, 10], [0, 1, 2, 3, 4, 5, 6, 7, 8, 9, 10, 11]] mixed (ord := (.det 0 (.det 1 (.det 2 (.det 3 (.det 4 (.det 5 (.det 6 (.det 7 (.det 8 (.det 9 (.det 10 (.det 11 (.det 12 .done)))))))))))))) (by kernel_rfl) ?_   -- region 9
              refine hx_det rfl rfl rfl nofun (det_move rfl) rfl ?_
              refine hx_det rfl rfl rfl nofun (det_gtr rfl rfl) rfl ?_
              refine hx_det rfl rfl rfl nofun (det_move rfl) rfl ?_
              refine hx_on rfl rfl rfl rfl rfl hg9_g28 nofun (det_field rfl fd25_0 rfl) rfl ?_
              refine hx_on rfl rfl rfl rfl rfl hg9_g28 nofun (det_load rfl m0 (by rfl) na3 us3) rfl ?_
              refine hx_on rfl rfl rfl rfl rfl hg9_g28 nofun (det_move rfl) rfl ?_
              refine hx_on rfl rfl rfl rfl rfl hg9_g28 nofun (det_move rfl) rfl ?_
              refine hx_on rfl rfl rfl rfl rfl hg9_g28 nofun (det_sub rfl rfl) rfl ?_
              refine hx_on rfl rfl rfl rfl rfl hg9_g28 nofun (det_indexP rfl rfl (ms (ms m0)) k9_p1 m0 un22 sz25) rfl ?_
              refine hx_on rfl rfl rfl rfl rfl hg9_g28 nofun (det_fieldP rfl m0 fd25_0 rfl) rfl ?_
              refine hx_on rfl rfl rfl rfl rfl hg9_g28 nofun (det_loadP (off := 0) rfl m0 (by rfl) (by rfl) (loaded_1 na3 us3)) rfl ?_
              refine hx_on rfl rfl rfl rfl rfl hg9_g28 nofun (det_leq rfl rfl) rfl ?_
              refine hx_det rfl rfl rfl nofun (det_pick_on rfl hg9_g28 rfl rfl) rfl ?_
              refine hx_end ?_
              refine wl_nil ?_
              replace h := Option.some.inj h
              subst h
              exact pn_meetG ((decide ((ix a0 s14.2).Party ≤ (ix a0 (w64 (s14.2 - 1))).Party)), ()) rfl ⟨rfl, rfl, rfl, rfl, rfl, rfl, rfl, trivial⟩ (fun _ h => h.to ⟨_, r0, trivial⟩ ⟨(ms (ms m0)), trivial⟩)
            · have h := ifF h hg9_g28
              refine dx_region 13 [[], [0], [0, 1], [0, 1, 2], [0, 1, 2, 3], [0, 1, 2], [0, 1, 2], [0, 1, 2, 6], [0, 1, 2, 5, 6, 7], [0, 1, 2, 5, 6, 7, 8], [0, 1, 2, 5, 6, 7, 8, 9], [0, 1, 2, 3, 4, 5, 6, 7, 8, 9, 10], [0, 1, 2, 3, 4, 5, 6, 7, 8, 9, 10, 11]] mixed (ord := (.det 0 (.det 1 (.det 2 (.det 3 (.det 4 (.det 5 (.det 6 (.det 7 (.det 8 (.det 9 (.det 10 (.det 11 (.det 12 .done)))))))))))))) (by kernel_rfl) ?_   -- region 9
              refine hx_det rfl rfl rfl nofun (det_move rfl) rfl ?_
              refine hx_det rfl rfl rfl nofun (det_gtr rfl rfl) rfl ?_
              refine hx_det rfl rfl rfl nofun (det_move rfl) rfl ?_
              refine hx_off rfl rfl rfl rfl rfl hg9_g28 rfl ?_
              refine hx_off rfl rfl rfl rfl rfl hg9_g28 rfl ?_
              refine hx_off rfl rfl rfl rfl rfl hg9_g28 rfl ?_
              refine hx_off rfl rfl rfl rfl rfl hg9_g28 rfl ?_
              refine hx_off rfl rfl rfl rfl rfl hg9_g28 rfl ?_
              refine hx_off rfl rfl rfl rfl rfl hg9_g28 rfl ?_
              refine hx_off rfl rfl rfl rfl rfl hg9_g28 rfl ?_
              refine hx_off rfl rfl rfl rfl rfl hg9_g28 rfl ?_
              refine hx_off rfl rfl rfl rfl rfl hg9_g28 rfl ?_
              refine hx_det rfl rfl rfl nofun (det_pick_off rfl hg9_g28 rfl rfl) rfl ?_
              refine hx_end ?_
              refine wl_nil ?_
              replace h := Option.some.inj h
              subst h
              exact pn_meetG (false, ()) rfl ⟨rfl, rfl, rfl, rfl, rfl, rfl, rfl, trivial⟩ (fun _ h => h.to ⟨_, r0, trivial⟩ ⟨(ms m0), trivial⟩)
          rintro ⟨s31, _⟩ e31
          dsimp only at e31 ⊢
          subst e31
          have h := ho31
          refine wc_cond rfl (fun cd33 => ?_) (fun cd33 => ?_)
          · have h := ifT h cd33
            refine wc_seq ?_
            refine wc_region ?_   -- region 10
            refine wl_det rfl rfl (det_assign rfl) rfl ?_
            refine wl_nil ?_
            refine pn_then ?_
            refine wc_ret ?_
            refine pr_then ?_
            refine pr_block ?_
            refine pr_then ?_
            refine pr_then ?_
            refine pr_block ?_
            refine pr_then ?_
            replace h := Option.some.inj h
            subst h
            replace g14 := nextR g14
            subst g14
            have h := (elimL ho14)
            replace h := Option.some.inj h
            subst h
            have h := (elimR ho10)
            replace h := Option.some.inj h
            subst h
            refine pn_ret (vs := [_]) rfl ⟨rfl, trivial⟩ ⟨rfl, rfl, rfl⟩ (fun _ h => h.to trivial trivial)
          · have h := ifF h cd33
            refine wc_skip ?_
            refine pn_then ?_
            refine wc_region ?_   -- region 11
            refine wl_det rfl rfl (det_move rfl) rfl ?_
            refine wl_det rfl rfl (det_field rfl fd25_1 rfl) rfl ?_
            refine wl_det rfl rfl (det_load rfl m0 (by rfl) na3 us3) rfl ?_
            refine wl_det rfl rfl (det_add rfl rfl) rfl ?_
            refine wl_det rfl rfl (det_assign rfl) rfl ?_
            refine wl_nil ?_
            refine pn_block ?_
            refine pn_then ?_
            refine wc_region ?_   -- region 12
            refine wl_det rfl rfl (det_add rfl rfl) rfl ?_
            refine wl_det rfl rfl (det_move rfl) rfl ?_
            refine wl_nil ?_
            replace h := Option.some.inj h
            subst h
            exact pn_some (k14, ((w64 (s14.1 + (ix a0 s14.2).Share)), (w64 (s14.2 + 1))), ()) ⟨nextL g14, Nat.lt_succ_self _⟩ ⟨rfl, rfl, rfl, rfl, rfl, trivial⟩ (fun _ h => h.to trivial ⟨m0, trivial⟩)
      · have h := ifF h cd18
        refine wc_exit ?_
        refine px_then ?_
        refine px_then ?_
        refine px_block ?_
        replace h := Option.some.inj h
        subst h
        replace g14 := nextR g14
        subst g14
        have h := (elimR ho14)
        replace h := Option.some.inj h
        subst h
        exact pn_meetG (s14.1, ()) rfl ⟨rfl, trivial⟩ (fun _ h => h.to trivial trivial)
    rintro ⟨s10, _⟩ e10
    dsimp only at e10 ⊢
    subst e10
    have h := (elimL ho10)
    refine wc_seq ?_
    refine wc_seq ?_
    refine wc_region ?_   -- region 13
    refine wl_det rfl rfl (det_move rfl) rfl ?_
    refine wl_det rfl rfl (det_gtr rfl rfl) rfl ?_
    refine wl_nil ?_
    refine pn_then ?_
    refine wc_cond rfl (fun cd41 => ?_) (fun cd41 => ?_)
    · have h := ifT h cd41
      refine wc_seq ?_
      refine wc_region ?_   -- region 14
      refine wl_det rfl rfl (det_assign rfl) rfl ?_
      refine wl_nil ?_
      refine pn_then ?_
      refine wc_ret ?_
      refine pr_then ?_
      replace h := Option.some.inj h
      subst h
      refine pn_ret (vs := [_]) rfl ⟨rfl, trivial⟩ ⟨rfl, rfl, rfl⟩ (fun _ h => h.to trivial trivial)
    · have h := ifF h cd41
      refine wc_skip ?_
      refine pn_then ?_
      refine wc_seq ?_
      refine wc_region ?_   -- region 15
      refine wl_det rfl rfl (det_assign rfl) rfl ?_
      refine wl_nil ?_
      refine pn_then ?_
      refine wc_ret ?_
      replace h := Option.some.inj h
      subst h
      refine pn_ret (vs := [_]) rfl ⟨rfl, trivial⟩ ⟨rfl, rfl, rfl⟩ (fun _ h => h.to trivial trivial)
def Q_contract_Validate (r : Int) : Value → List Ent → List Fact → Prop := fun v θ κ => v = .int .i64 r ∧ θ = [] ∧ κ = []
theorem plains_contract_Validate {r : Int} : ∀ v θ κ, Q_contract_Validate r v θ κ → Plains θ := by
  rintro _ _ _ ⟨rfl, rfl, rfl⟩
  exact trivial
set_option maxHeartbeats 4000000 in
set_option maxRecDepth 100000 in
theorem W_contract_Validate (a0 : GTreaty) (A0 : Option Addr) (n0 : Nat) (c0 : Nat) (A3 : Option Addr) (n3 : Nat) (c3 : Nat) (A6 : Option Addr) (n6 : Nat) (c6 : Nat) (A9 : Option Addr) (n9 : Nat) (c9 : Nat) (A12 : Option Addr) (n12 : Nat) (c12 : Nat) (r : Int) (h : contract_Validate a0 = some r) : Spec Try.prog 56 [.agg #[.int .i64 a0.ID, .int .i64 a0.Kind, .int .i64 a0.Period.From, .int .i64 a0.Period.To, .slice A0 n0 c0, .slice A3 n3 c3, .int .i64 a0.Risk, .int .i64 a0.Cession, .int .i64 a0.Line, .int .i64 a0.Lines, .int .i64 a0.Retention, .int .i64 a0.Limit, .int .i64 a0.Window, .int .i64 a0.Deductible, .int .i64 a0.Aggregate, .int .i64 a0.Premium, .slice A6 n6 c6, .bool a0.Timed, .int .i64 a0.Base, .slice A9 n9 c9, .slice A12 n12 c12]] [] [fV (lSlice (lInt .i64)) (.slice A0 n0 c0) a0.Perils, fV (lSlice (lInt .i64)) (.slice A3 n3 c3) a0.Areas, fV (lSlice (lInt .i64)) (.slice A6 n6 c6) a0.Reinstatements, fV (lSlice (lInt .i64)) (.slice A9 n9 c9) a0.Inures, fV (lSlice lGPart) (.slice A12 n12 c12) a0.Parts] (Q_contract_Validate r) := by
  unfold contract_Validate at h
  refine spec_of (σ := [(0, _)]) Try.func56 rfl rfl rfl rfl ?_
  intro C
  refine wc_know (fun _ h => h.lenF m0) (fun e => ?_)
  subst e
  refine wc_know (fun _ h => h.lenF (ms m0)) (fun e => ?_)
  subst e
  refine wc_know (fun _ h => h.lenF (ms (ms m0))) (fun e => ?_)
  subst e
  refine wc_know (fun _ h => h.lenF (ms (ms (ms m0)))) (fun e => ?_)
  subst e
  refine wc_know (fun _ h => h.lenF (ms (ms (ms (ms m0))))) (fun e => ?_)
  subst e
  refine wc_seq ?_
  refine wc_region ?_   -- region 0
  refine wl_act (act_box (cs := [_, _, _, _, _, _, _, _, _, _, _, _, _, _, _, _, _, _, _, _, _]) rfl rfl) rfl rfl rfl ?_
  rintro _ _ _ ⟨b0_0, rfl, rfl, rfl⟩
  refine wl_det rfl rfl (det_assign rfl) rfl ?_
  refine wl_nil ?_
  refine pn_then ?_
  refine wc_seq ?_
  refine wc_seq ?_
  refine wc_region ?_   -- region 1
  refine wl_det rfl rfl (det_field rfl fd49_0 rfl) rfl ?_
  refine wl_det rfl rfl (det_load rfl m0 (by rfl) na3 us3) rfl ?_
  obtain ⟨r1_2, hr1_2, h⟩ := bind_some h
  refine wl_act (act_callS (cap := []) (W_contract_within a0.ID 1 1048576 r1_2 hr1_2) rfl rfl rfl bd46 rfl trivial) rfl rfl rfl ?_
  rintro _ _ _ ⟨_, _, ⟨rfl, rfl, rfl⟩, rfl, rfl⟩
  dsimp only [List.nil_append, List.cons_append]
  refine wl_det rfl rfl (det_not rfl) rfl ?_
  refine wl_nil ?_
  refine pn_then ?_
  refine wc_cond rfl (fun cd5 => ?_) (fun cd5 => ?_)
  · have h := ifT h cd5
    refine wc_seq ?_
    refine wc_region ?_   -- region 2
    refine wl_det rfl rfl (det_assign rfl) rfl ?_
    refine wl_nil ?_
    refine pn_then ?_
    refine wc_ret ?_
    refine pr_then ?_
    replace h := Option.some.inj h
    subst h
    refine pn_ret (vs := [_]) rfl ⟨rfl, trivial⟩ ⟨rfl, rfl, rfl⟩ (fun _ h => h.to trivial trivial)
  · have h := ifF h cd5
    refine wc_skip ?_
    refine pn_then ?_
    refine wc_seq ?_
    refine wc_seq ?_
    refine wc_region ?_   -- region 3
    refine wl_det rfl rfl (det_field rfl fd49_1 rfl) rfl ?_
    refine wl_det rfl rfl (det_load rfl m0 (by rfl) na3 us3) rfl ?_
    obtain ⟨r3_2, hr3_2, h⟩ := bind_some h
    refine wl_act (act_callS (cap := []) (W_contract_within a0.Kind 1 6 r3_2 hr3_2) rfl rfl rfl bd46 rfl trivial) rfl rfl rfl ?_
    rintro _ _ _ ⟨_, _, ⟨rfl, rfl, rfl⟩, rfl, rfl⟩
    dsimp only [List.nil_append, List.cons_append]
    refine wl_det rfl rfl (det_not rfl) rfl ?_
    refine wl_nil ?_
    refine pn_then ?_
    refine wc_cond rfl (fun cd11 => ?_) (fun cd11 => ?_)
    · have h := ifT h cd11
      refine wc_seq ?_
      refine wc_region ?_   -- region 4
      refine wl_det rfl rfl (det_assign rfl) rfl ?_
      refine wl_nil ?_
      refine pn_then ?_
      refine wc_ret ?_
      refine pr_then ?_
      replace h := Option.some.inj h
      subst h
      refine pn_ret (vs := [_]) rfl ⟨rfl, trivial⟩ ⟨rfl, rfl, rfl⟩ (fun _ h => h.to trivial trivial)
    · have h := ifF h cd11
      refine wc_skip ?_
      refine pn_then ?_
      refine wc_seq ?_
      refine wc_seq ?_
      refine wc_region ?_   -- region 5
      refine wl_det rfl rfl (det_field rfl fd49_2 rfl) rfl ?_
      refine wl_det rfl rfl (det_loadN (cells := [_, _]) rfl m0 (by rfl) ag47 sz47) rfl ?_
      obtain ⟨r5_2, hr5_2, h⟩ := bind_some h
      refine wl_act (act_callS (cap := []) (W_calendar_Valid a0.Period r5_2 hr5_2) rfl rfl rfl bd72 rfl trivial) rfl rfl rfl ?_
      rintro _ _ _ ⟨_, _, ⟨rfl, rfl, rfl⟩, rfl, rfl⟩
      dsimp only [List.nil_append, List.cons_append]
      refine wl_det rfl rfl (det_not rfl) rfl ?_
      refine wl_nil ?_
      refine pn_then ?_
      refine wc_cond rfl (fun cd17 => ?_) (fun cd17 => ?_)
      · have h := ifT h cd17
        refine wc_seq ?_
        refine wc_region ?_   -- region 6
        refine wl_det rfl rfl (det_assign rfl) rfl ?_
        refine wl_nil ?_
        refine pn_then ?_
        refine wc_ret ?_
        refine pr_then ?_
        replace h := Option.some.inj h
        subst h
        refine pn_ret (vs := [_]) rfl ⟨rfl, trivial⟩ ⟨rfl, rfl, rfl⟩ (fun _ h => h.to trivial trivial)
      · have h := ifF h cd17
        refine wc_skip ?_
        refine pn_then ?_
        refine wc_seq ?_
        refine wc_seq ?_
        refine wc_region ?_   -- region 7
        refine wl_det rfl rfl (det_field rfl fd49_3 rfl) rfl ?_
        refine wl_det rfl rfl (det_load rfl m0 (by rfl) na23 us23) rfl ?_
        obtain ⟨r7_2, hr7_2, h⟩ := bind_some h
        refine wl_act (act_callS (cap := []) (W_contract_ascending a0.Perils 0 15 A0 a0.Perils.length c0 r7_2 hr7_2) rfl rfl rfl bd73 rfl ⟨m0, trivial⟩) rfl rfl rfl ?_
        rintro _ _ _ ⟨_, _, ⟨rfl, rfl, rfl⟩, rfl, rfl⟩
        dsimp only [List.nil_append, List.cons_append]
        refine wl_det rfl rfl (det_assign rfl) rfl ?_
        refine wl_nil ?_
        refine pn_then ?_
        refine wc_seq ?_
        refine wc_region ?_   -- region 8
        refine wl_det rfl rfl (det_move rfl) rfl ?_
        refine wl_det rfl rfl (det_neq rfl rfl) rfl ?_
        refine wl_nil ?_
        refine pn_then ?_
        refine wc_cond rfl (fun cd25 => ?_) (fun cd25 => ?_)
        · have h := ifT h cd25
          refine wc_seq ?_
          refine wc_region ?_   -- region 9
          refine wl_det rfl rfl (det_move rfl) rfl ?_
          refine wl_det rfl rfl (det_assign rfl) rfl ?_
          refine wl_nil ?_
          refine pn_then ?_
          refine wc_ret ?_
          refine pr_then ?_
          replace h := Option.some.inj h
          subst h
          refine pn_ret (vs := [_]) rfl ⟨rfl, trivial⟩ ⟨rfl, rfl, rfl⟩ (fun _ h => h.to trivial trivial)
        · have h := ifF h cd25
          refine wc_skip ?_
          refine pn_then ?_
          refine wc_seq ?_
          refine wc_seq ?_
          refine wc_region ?_   -- region 10
          refine wl_det rfl rfl (det_field rfl fd49_4 rfl) rfl ?_
          refine wl_det rfl rfl (det_load rfl m0 (by rfl) na23 us23) rfl ?_
          obtain ⟨r10_2, hr10_2, h⟩ := bind_some h
          refine wl_act (act_callS (cap := []) (W_contract_ascending a0.Areas 0 15 A3 a0.Areas.length c3 r10_2 hr10_2) rfl rfl rfl bd73 rfl ⟨(ms m0), trivial⟩) rfl rfl rfl ?_
          rintro _ _ _ ⟨_, _, ⟨rfl, rfl, rfl⟩, rfl, rfl⟩
          dsimp only [List.nil_append, List.cons_append]
          refine wl_det rfl rfl (det_assign rfl) rfl ?_
          refine wl_nil ?_
          refine pn_then ?_
          refine wc_seq ?_
          refine wc_region ?_   -- region 11
          refine wl_det rfl rfl (det_move rfl) rfl ?_
          refine wl_det rfl rfl (det_neq rfl rfl) rfl ?_
          refine wl_nil ?_
          refine pn_then ?_
          refine wc_cond rfl (fun cd33 => ?_) (fun cd33 => ?_)
          · have h := ifT h cd33
            refine wc_seq ?_
            refine wc_region ?_   -- region 12
            refine wl_det rfl rfl (det_move rfl) rfl ?_
            refine wl_det rfl rfl (det_assign rfl) rfl ?_
            refine wl_nil ?_
            refine pn_then ?_
            refine wc_ret ?_
            refine pr_then ?_
            replace h := Option.some.inj h
            subst h
            refine pn_ret (vs := [_]) rfl ⟨rfl, trivial⟩ ⟨rfl, rfl, rfl⟩ (fun _ h => h.to trivial trivial)
          · have h := ifF h cd33
            refine wc_skip ?_
            refine pn_then ?_
            refine wc_seq ?_
            refine wc_seq ?_
            refine wc_region ?_   -- region 13
            refine wl_det rfl rfl (det_loadN (cells := [_, _, _, _, _, _, _, _, _, _, _, _, _, _, _, _, _, _, _, _, _]) rfl m0 (by rfl) ag49 sz49) rfl ?_
            obtain ⟨r13_1, hr13_1, h⟩ := bind_some h
            refine wl_act (act_callS (cap := []) (W_contract_fields a0 A0 a0.Perils.length c0 A3 a0.Areas.length c3 A6 a0.Reinstatements.length c6 A9 a0.Inures.length c9 A12 a0.Parts.length c12 r13_1 hr13_1) rfl rfl rfl bd74 rfl ⟨m0, ⟨(ms m0), ⟨(ms (ms m0)), ⟨(ms (ms (ms m0))), ⟨(ms (ms (ms (ms m0)))), trivial⟩⟩⟩⟩⟩) rfl rfl rfl ?_
            rintro _ _ _ ⟨_, _, ⟨rfl, rfl, rfl⟩, rfl, rfl⟩
            dsimp only [List.nil_append, List.cons_append]
            refine wl_det rfl rfl (det_assign rfl) rfl ?_
            refine wl_nil ?_
            refine pn_then ?_
            refine wc_seq ?_
            refine wc_region ?_   -- region 14
            refine wl_det rfl rfl (det_move rfl) rfl ?_
            refine wl_det rfl rfl (det_neq rfl rfl) rfl ?_
            refine wl_nil ?_
            refine pn_then ?_
            refine wc_cond rfl (fun cd41 => ?_) (fun cd41 => ?_)
            · have h := ifT h cd41
              refine wc_seq ?_
              refine wc_region ?_   -- region 15
              refine wl_det rfl rfl (det_move rfl) rfl ?_
              refine wl_det rfl rfl (det_assign rfl) rfl ?_
              refine wl_nil ?_
              refine pn_then ?_
              refine wc_ret ?_
              refine pr_then ?_
              replace h := Option.some.inj h
              subst h
              refine pn_ret (vs := [_]) rfl ⟨rfl, trivial⟩ ⟨rfl, rfl, rfl⟩ (fun _ h => h.to trivial trivial)
            · have h := ifF h cd41
              refine wc_skip ?_
              refine pn_then ?_
              refine wc_seq ?_
              refine wc_seq ?_
              refine wc_region ?_   -- region 16
              refine wl_det rfl rfl (det_field rfl fd49_15 rfl) rfl ?_
              refine wl_det rfl rfl (det_load rfl m0 (by rfl) na23 us23) rfl ?_
              refine wl_det rfl rfl (det_len rfl un23) rfl ?_
              refine wl_det rfl rfl (det_gtr rfl rfl) rfl ?_
              refine wl_nil ?_
              refine pn_then ?_
              refine wc_cond rfl (fun cd47 => ?_) (fun cd47 => ?_)
              · have h := ifT h cd47
                refine wc_seq ?_
                refine wc_region ?_   -- region 17
                refine wl_det rfl rfl (det_assign rfl) rfl ?_
                refine wl_nil ?_
                refine pn_then ?_
                refine wc_ret ?_
                refine pr_then ?_
                replace h := Option.some.inj h
                subst h
                refine pn_ret (vs := [_]) rfl ⟨rfl, trivial⟩ ⟨rfl, rfl, rfl⟩ (fun _ h => h.to trivial trivial)
              · have h := ifF h cd47
                refine wc_skip ?_
                refine pn_then ?_
                obtain ⟨q50, h, ho50⟩ := bind_some h
                refine wc_meetG (G := Unit × Unit) (fun (s50, _) => (.inl s50) = q50) (fun (_, _) => [(1, .pointer (some ⟨b0_0, 0, none⟩))]) (fun (_, _) => [eBlk b0_0 49 [.int .i64 a0.ID, .int .i64 a0.Kind, .int .i64 a0.Period.From, .int .i64 a0.Period.To, .slice A0 a0.Perils.length c0, .slice A3 a0.Areas.length c3, .int .i64 a0.Risk, .int .i64 a0.Cession, .int .i64 a0.Line, .int .i64 a0.Lines, .int .i64 a0.Retention, .int .i64 a0.Limit, .int .i64 a0.Window, .int .i64 a0.Deductible, .int .i64 a0.Aggregate, .int .i64 a0.Premium, .slice A6 a0.Reinstatements.length c6, .bool a0.Timed, .int .i64 a0.Base, .slice A9 a0.Inures.length c9, .slice A12 a0.Parts.length c12]]) (fun (_, _) => [fV (lSlice (lInt .i64)) (.slice A0 a0.Perils.length c0) a0.Perils, fV (lSlice (lInt .i64)) (.slice A3 a0.Areas.length c3) a0.Areas, fV (lSlice (lInt .i64)) (.slice A6 a0.Reinstatements.length c6) a0.Reinstatements, fV (lSlice (lInt .i64)) (.slice A9 a0.Inures.length c9) a0.Inures, fV (lSlice lGPart) (.slice A12 a0.Parts.length c12) a0.Parts]) ?_ ?_
                · refine wc_seq ?_
                  refine wc_region ?_   -- region 18
                  refine wl_det rfl rfl (det_field rfl fd49_15 rfl) rfl ?_
                  refine wl_det rfl rfl (det_load rfl m0 (by rfl) na23 us23) rfl ?_
                  refine wl_det rfl rfl (det_len rfl un23) rfl ?_
                  refine wl_det rfl rfl (det_move rfl) rfl ?_
                  refine wl_nil ?_
                  refine pn_then ?_
                  refine wc_block ?_
                  obtain ⟨o54, h, ho54⟩ := bind_some h
                  obtain ⟨k54, hk54⟩ := loopV_some.1 h
                  refine wc_loop (G := Nat × Int × Unit) (fun g => IterN (contract_Validate_l54 a0) g.1 g.2.1 o54) (fun g => g.1) (fun (_, s54, _) => [(1, .pointer (some ⟨b0_0, 0, none⟩)), (43, .slice A6 a0.Reinstatements.length c6), (44, .int .i64 (a0.Reinstatements.length : Int)), (45, .int .i64 s54)]) (fun (_, _, _) => [eBlk b0_0 49 [.int .i64 a0.ID, .int .i64 a0.Kind, .int .i64 a0.Period.From, .int .i64 a0.Period.To, .slice A0 a0.Perils.length c0, .slice A3 a0.Areas.length c3, .int .i64 a0.Risk, .int .i64 a0.Cession, .int .i64 a0.Line, .int .i64 a0.Lines, .int .i64 a0.Retention, .int .i64 a0.Limit, .int .i64 a0.Window, .int .i64 a0.Deductible, .int .i64 a0.Aggregate, .int .i64 a0.Premium, .slice A6 a0.Reinstatements.length c6, .bool a0.Timed, .int .i64 a0.Base, .slice A9 a0.Inures.length c9, .slice A12 a0.Parts.length c12]]) (fun (_, _, _) => [fV (lSlice (lInt .i64)) (.slice A0 a0.Perils.length c0) a0.Perils, fV (lSlice (lInt .i64)) (.slice A3 a0.Areas.length c3) a0.Areas, fV (lSlice (lInt .i64)) (.slice A6 a0.Reinstatements.length c6) a0.Reinstatements, fV (lSlice (lInt .i64)) (.slice A9 a0.Inures.length c9) a0.Inures, fV (lSlice lGPart) (.slice A12 a0.Parts.length c12) a0.Parts]) (k54, 0, ()) hk54 ⟨rfl, rfl, rfl, rfl, trivial⟩ (fun _ h => h.to ⟨_, r0, trivial⟩ ⟨m0, ⟨(ms m0), ⟨(ms (ms m0)), ⟨(ms (ms (ms m0))), ⟨(ms (ms (ms (ms m0)))), trivial⟩⟩⟩⟩⟩) ?_
                  rintro ⟨k54, s54, _⟩ hI
                  obtain ⟨k54, rfl, q54, h, g54⟩ := IterN.pos hI
                  dsimp only at h ⊢
                  unfold contract_Validate_l54 at h
                  refine wc_seq ?_
                  refine wc_region ?_   -- region 19
                  refine wl_det rfl rfl (det_lss rfl rfl) rfl ?_
                  refine wl_nil ?_
                  refine pn_then ?_
                  refine wc_seq ?_
                  refine wc_cond rfl (fun cd58 => ?_) (fun cd58 => ?_)
                  · have h := ifT h cd58
                    refine wc_skip ?_
                    refine pn_then ?_
                    refine wc_seq ?_
                    refine wc_block ?_
                    refine wc_seq ?_
                    refine wc_region ?_   -- region 20
                    obtain ⟨k20_0, h⟩ := chk_some h
                    refine wl_st (fun _ h => h.openF (ms (ms m0)) k20_0) ?_
                    refine wl_det rfl rfl (det_indexP rfl rfl (ms (ms (ms m0))) k20_0 m0 un23 sz3) rfl ?_
                    refine wl_det rfl rfl (det_loadP (off := 0) rfl m0 (by rfl) (by rfl) (loaded_1 na3 us3)) rfl ?_
                    refine wl_det rfl rfl (det_assign rfl) rfl ?_
                    refine wl_nil ?_
                    refine pn_then ?_
                    refine wc_seq ?_
                    refine wc_region ?_   -- region 21
                    refine wl_det rfl rfl (det_move rfl) rfl ?_
                    obtain ⟨r21_1, hr21_1, h⟩ := bind_some h
                    refine wl_act (act_callS (cap := []) (W_contract_within (ix a0.Reinstatements s54) 0 2000000 r21_1 hr21_1) rfl rfl rfl bd46 rfl trivial) rfl rfl rfl ?_
                    rintro _ _ _ ⟨_, _, ⟨rfl, rfl, rfl⟩, rfl, rfl⟩
                    dsimp only [List.nil_append, List.cons_append]
                    refine wl_det rfl rfl (det_not rfl) rfl ?_
                    refine wl_nil ?_
                    refine pn_then ?_
                    refine wc_cond rfl (fun cd66 => ?_) (fun cd66 => ?_)
                    · have h := ifT h cd66
                      refine wc_seq ?_
                      refine wc_region ?_   -- region 22
                      refine wl_det rfl rfl (det_assign rfl) rfl ?_
                      refine wl_nil ?_
                      refine pn_then ?_
                      refine wc_ret ?_
                      refine pr_block ?_
                      refine pr_then ?_
                      refine pr_then ?_
                      refine pr_block ?_
                      refine pr_then ?_
                      replace h := Option.some.inj h
                      subst h
                      replace g54 := nextR g54
                      subst g54
                      have h := (elimL ho54)
                      replace h := Option.some.inj h
                      subst h
                      have h := (elimR ho50)
                      replace h := Option.some.inj h
                      subst h
                      refine pn_ret (vs := [_]) rfl ⟨rfl, trivial⟩ ⟨rfl, rfl, rfl⟩ (fun _ h => h.to trivial trivial)
                    · have h := ifF h cd66
                      refine wc_skip ?_
                      refine pn_block ?_
                      refine pn_then ?_
                      refine wc_region ?_   -- region 23
                      refine wl_det rfl rfl (det_add rfl rfl) rfl ?_
                      refine wl_det rfl rfl (det_move rfl) rfl ?_
                      refine wl_nil ?_
                      replace h := Option.some.inj h
                      subst h
                      exact pn_some (k54, (w64 (s54 + 1)), ()) ⟨nextL g54, Nat.lt_succ_self _⟩ ⟨rfl, rfl, rfl, rfl, trivial⟩ (fun _ h => h.to ⟨_, r0, trivial⟩ ⟨(ms m0), ⟨(ms (ms m0)), ⟨(ms (ms (ms m0))), ⟨(ms (ms (ms (ms m0)))), ⟨(ms (ms (ms (ms (ms m0))))), trivial⟩⟩⟩⟩⟩)
                  · have h := ifF h cd58
                    refine wc_exit ?_
                    refine px_then ?_
                    refine px_then ?_
                    refine px_block ?_
                    replace h := Option.some.inj h
                    subst h
                    replace g54 := nextR g54
                    subst g54
                    have h := (elimR ho54)
                    replace h := Option.some.inj h
                    subst h
                    exact pn_meetG ((), ()) rfl ⟨rfl, trivial⟩ (fun _ h => h.to ⟨_, r0, trivial⟩ ⟨m0, ⟨(ms m0), ⟨(ms (ms m0)), ⟨(ms (ms (ms m0))), ⟨(ms (ms (ms (ms m0)))), trivial⟩⟩⟩⟩⟩)
                rintro ⟨s50, _⟩ e50
                dsimp only at e50 ⊢
                subst e50
                have h := (elimL ho50)
                refine wc_seq ?_
                refine wc_seq ?_
                refine wc_region ?_   -- region 24
                refine wl_det rfl rfl (det_field rfl fd49_18 rfl) rfl ?_
                refine wl_det rfl rfl (det_load rfl m0 (by rfl) na23 us23) rfl ?_
                refine wl_det rfl rfl (det_len rfl un23) rfl ?_
                refine wl_det rfl rfl (det_gtr rfl rfl) rfl ?_
                refine wl_nil ?_
                refine pn_then ?_
                refine wc_cond rfl (fun cd73 => ?_) (fun cd73 => ?_)
                · have h := ifT h cd73
                  refine wc_seq ?_
                  refine wc_region ?_   -- region 25
                  refine wl_det rfl rfl (det_assign rfl) rfl ?_
                  refine wl_nil ?_
                  refine pn_then ?_
                  refine wc_ret ?_
                  refine pr_then ?_
                  replace h := Option.some.inj h
                  subst h
                  refine pn_ret (vs := [_]) rfl ⟨rfl, trivial⟩ ⟨rfl, rfl, rfl⟩ (fun _ h => h.to trivial trivial)
                · have h := ifF h cd73
                  refine wc_skip ?_
                  refine pn_then ?_
                  refine wc_seq ?_
                  refine wc_seq ?_
                  refine wc_region ?_   -- region 26
                  refine wl_det rfl rfl (det_field rfl fd49_18 rfl) rfl ?_
                  refine wl_det rfl rfl (det_load rfl m0 (by rfl) na23 us23) rfl ?_
                  obtain ⟨r26_2, hr26_2, h⟩ := bind_some h
                  refine wl_act (act_callS (cap := []) (W_contract_ascending a0.Inures 1 1048576 A9 a0.Inures.length c9 r26_2 hr26_2) rfl rfl rfl bd73 rfl ⟨(ms (ms (ms m0))), trivial⟩) rfl rfl rfl ?_
                  rintro _ _ _ ⟨_, _, ⟨rfl, rfl, rfl⟩, rfl, rfl⟩
                  dsimp only [List.nil_append, List.cons_append]
                  refine wl_det rfl rfl (det_assign rfl) rfl ?_
                  refine wl_nil ?_
                  refine pn_then ?_
                  refine wc_seq ?_
                  refine wc_region ?_   -- region 27
                  refine wl_det rfl rfl (det_move rfl) rfl ?_
                  refine wl_det rfl rfl (det_neq rfl rfl) rfl ?_
                  refine wl_nil ?_
                  refine pn_then ?_
                  refine wc_cond rfl (fun cd81 => ?_) (fun cd81 => ?_)
                  · have h := ifT h cd81
                    refine wc_seq ?_
                    refine wc_region ?_   -- region 28
                    refine wl_det rfl rfl (det_move rfl) rfl ?_
                    refine wl_det rfl rfl (det_assign rfl) rfl ?_
                    refine wl_nil ?_
                    refine pn_then ?_
                    refine wc_ret ?_
                    refine pr_then ?_
                    replace h := Option.some.inj h
                    subst h
                    refine pn_ret (vs := [_]) rfl ⟨rfl, trivial⟩ ⟨rfl, rfl, rfl⟩ (fun _ h => h.to trivial trivial)
                  · have h := ifF h cd81
                    refine wc_skip ?_
                    refine pn_then ?_
                    refine wc_seq ?_
                    refine wc_seq ?_
                    refine wc_region ?_   -- region 29
                    refine wl_det rfl rfl (det_field rfl fd49_18 rfl) rfl ?_
                    refine wl_det rfl rfl (det_load rfl m0 (by rfl) na23 us23) rfl ?_
                    refine wl_det rfl rfl (det_field rfl fd49_0 rfl) rfl ?_
                    refine wl_det rfl rfl (det_load rfl m0 (by rfl) na3 us3) rfl ?_
                    obtain ⟨r29_4, hr29_4, h⟩ := bind_some h
                    refine wl_act (act_callS (cap := []) (W_slices_Contains_s_int_int a0.Inures a0.ID A9 a0.Inures.length c9 r29_4 hr29_4) rfl rfl rfl bd64 rfl ⟨(ms (ms (ms m0))), trivial⟩) rfl rfl rfl ?_
                    rintro _ _ _ ⟨_, _, ⟨rfl, rfl, rfl⟩, rfl, rfl⟩
                    dsimp only [List.nil_append, List.cons_append]
                    refine wl_nil ?_
                    refine pn_then ?_
                    refine wc_cond rfl (fun cd87 => ?_) (fun cd87 => ?_)
                    · have h := ifT h cd87
                      refine wc_seq ?_
                      refine wc_region ?_   -- region 30
                      refine wl_det rfl rfl (det_assign rfl) rfl ?_
                      refine wl_nil ?_
                      refine pn_then ?_
                      refine wc_ret ?_
                      refine pr_then ?_
                      replace h := Option.some.inj h
                      subst h
                      refine pn_ret (vs := [_]) rfl ⟨rfl, trivial⟩ ⟨rfl, rfl, rfl⟩ (fun _ h => h.to trivial trivial)
                    · have h := ifF h cd87
                      refine wc_skip ?_
                      refine pn_then ?_
                      refine wc_seq ?_
                      refine wc_region ?_   -- region 31
                      refine wl_det rfl rfl (det_field rfl fd49_19 rfl) rfl ?_
                      refine wl_det rfl rfl (det_load rfl m0 (by rfl) na22 us22) rfl ?_
                      obtain ⟨r31_2, hr31_2, h⟩ := bind_some h
                      refine wl_act (act_callS (cap := []) (W_contract_Parts a0.Parts A12 a0.Parts.length c12 r31_2 hr31_2) rfl rfl rfl bd19 rfl ⟨(ms (ms (ms (ms m0)))), trivial⟩) rfl rfl rfl ?_
                      rintro _ _ _ ⟨_, _, ⟨rfl, rfl, rfl⟩, rfl, rfl⟩
                      dsimp only [List.nil_append, List.cons_append]
                      refine wl_det rfl rfl (det_assign rfl) rfl ?_
                      refine wl_nil ?_
                      refine pn_then ?_
                      refine wc_ret ?_
                      replace h := Option.some.inj h
                      subst h
                      refine pn_ret (vs := [_]) rfl ⟨rfl, trivial⟩ ⟨rfl, rfl, rfl⟩ (fun _ h => h.to trivial trivial)
end Go.Proofs.Ytlmhmpngjfjfhaa
