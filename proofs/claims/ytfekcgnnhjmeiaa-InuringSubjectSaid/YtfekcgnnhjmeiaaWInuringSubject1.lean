/- That functions of the program compute the plain programs of P. Written by a small program. -/
import Derived.Test.YtfekcgnnhjmeiaaKTab
import Derived.Test.YtfekcgnnhjmeiaaP
import Derived.Test.YtfekcgnnhjmeiaaKArr2
import Derived.Test.YtfekcgnnhjmeiaaKMap
import Derived.Test.YtfekcgnnhjmeiaaKMs
import Derived.Test.YtfekcgnnhjmeiaaKShort
namespace Go.Proofs.Ytfekcgnnhjmeiaa
open Go.RowKit
def lGDeck : Lay GDeck := lMap (fun x => (x.L, x.At)) (lPair (lSlice (lInt .i64)) (lInt .i64))
theorem viewGDeck {w : World} {S : Nat → Prop} {cs : List Value} {x : GDeck} (h : lGDeck.R w S cs x) : ∃ A0 c0, cs = [.slice A0 x.L.length c0, .int .i64 x.At] ∧ AllR w S [fV (lSlice (lInt .i64)) (.slice A0 x.L.length c0) x.L] := by
  obtain ⟨_, _, rfl, ⟨A0, _, c0, rfl, rfl, l0, e0⟩, rfl⟩ := h
  exact ⟨A0, c0, rfl, ⟨⟨_, _, _, rfl, rfl, l0, e0⟩, trivial⟩⟩
theorem mkGDeck {w : World} {S : Nat → Prop} {x : GDeck} {A0 : Option Addr} {n0 c0 : Nat}  (h : AllR w S [fV (lSlice (lInt .i64)) (.slice A0 n0 c0) x.L]) : lGDeck.R w S [.slice A0 n0 c0, .int .i64 x.At] x := by
  obtain ⟨k0, _⟩ := h
  exact ⟨_, _, rfl, k0, rfl⟩
def encGPeriod (x : GPeriod) : List Value := [.int .i64 x.From, .int .i64 x.To]
def lGPeriod : Lay GPeriod := lFlat encGPeriod 2 (fun _ => rfl) (fun _ u hu => by simp only [encGPeriod, List.mem_cons, List.not_mem_nil, or_false] at hu; rcases hu with rfl | rfl <;> rfl)
def encGPart (x : GPart) : List Value := [.int .i64 x.Party, .int .i64 x.Share]
def lGPart : Lay GPart := lFlat encGPart 2 (fun _ => rfl) (fun _ u hu => by simp only [encGPart, List.mem_cons, List.not_mem_nil, or_false] at hu; rcases hu with rfl | rfl <;> rfl)
def lGTreaty : Lay GTreaty := lMap (fun x => (x.ID, (x.Kind, (x.Period, (x.Perils, (x.Areas, (x.Risk, (x.Cession, (x.Line, (x.Lines, (x.Retention, (x.Limit, (x.Window, (x.Deductible, (x.Aggregate, (x.Premium, (x.Reinstatements, (x.Timed, (x.Base, (x.Inures, x.Parts)))))))))))))))))))) (lPair (lInt .i64) (lPair (lInt .i64) (lPair lGPeriod (lPair (lSlice (lInt .i64)) (lPair (lSlice (lInt .i64)) (lPair (lInt .i64) (lPair (lInt .i64) (lPair (lInt .i64) (lPair (lInt .i64) (lPair (lInt .i64) (lPair (lInt .i64) (lPair (lInt .i64) (lPair (lInt .i64) (lPair (lInt .i64) (lPair (lInt .i64) (lPair (lSlice (lInt .i64)) (lPair lBool (lPair (lInt .i64) (lPair (lSlice (lInt .i64)) (lSlice lGPart))))))))))))))))))))
theorem viewGTreaty {w : World} {S : Nat → Prop} {cs : List Value} {x : GTreaty} (h : lGTreaty.R w S cs x) : ∃ A0 c0 A1 c1 A2 c2 A3 c3 A4 c4, cs = [.int .i64 x.ID, .int .i64 x.Kind, .int .i64 x.Period.From, .int .i64 x.Period.To, .slice A0 x.Perils.length c0, .slice A1 x.Areas.length c1, .int .i64 x.Risk, .int .i64 x.Cession, .int .i64 x.Line, .int .i64 x.Lines, .int .i64 x.Retention, .int .i64 x.Limit, .int .i64 x.Window, .int .i64 x.Deductible, .int .i64 x.Aggregate, .int .i64 x.Premium, .slice A2 x.Reinstatements.length c2, .bool x.Timed, .int .i64 x.Base, .slice A3 x.Inures.length c3, .slice A4 x.Parts.length c4] ∧ AllR w S [fV (lSlice (lInt .i64)) (.slice A0 x.Perils.length c0) x.Perils, fV (lSlice (lInt .i64)) (.slice A1 x.Areas.length c1) x.Areas, fV (lSlice (lInt .i64)) (.slice A2 x.Reinstatements.length c2) x.Reinstatements, fV (lSlice (lInt .i64)) (.slice A3 x.Inures.length c3) x.Inures, fV (lSlice lGPart) (.slice A4 x.Parts.length c4) x.Parts] := by
  obtain ⟨_, _, rfl, rfl, ⟨_, _, rfl, rfl, ⟨_, _, rfl, rfl, ⟨_, _, rfl, ⟨A0, _, c0, rfl, rfl, l0, e0⟩, ⟨_, _, rfl, ⟨A1, _, c1, rfl, rfl, l1, e1⟩, ⟨_, _, rfl, rfl, ⟨_, _, rfl, rfl, ⟨_, _, rfl, rfl, ⟨_, _, rfl, rfl, ⟨_, _, rfl, rfl, ⟨_, _, rfl, rfl, ⟨_, _, rfl, rfl, ⟨_, _, rfl, rfl, ⟨_, _, rfl, rfl, ⟨_, _, rfl, rfl, ⟨_, _, rfl, ⟨A2, _, c2, rfl, rfl, l2, e2⟩, ⟨_, _, rfl, rfl, ⟨_, _, rfl, rfl, ⟨_, _, rfl, ⟨A3, _, c3, rfl, rfl, l3, e3⟩, ⟨A4, _, c4, rfl, rfl, l4, e4⟩⟩⟩⟩⟩⟩⟩⟩⟩⟩⟩⟩⟩⟩⟩⟩⟩⟩⟩⟩ := h
  exact ⟨A0, c0, A1, c1, A2, c2, A3, c3, A4, c4, rfl, ⟨⟨_, _, _, rfl, rfl, l0, e0⟩, ⟨_, _, _, rfl, rfl, l1, e1⟩, ⟨_, _, _, rfl, rfl, l2, e2⟩, ⟨_, _, _, rfl, rfl, l3, e3⟩, ⟨_, _, _, rfl, rfl, l4, e4⟩, trivial⟩⟩
theorem mkGTreaty {w : World} {S : Nat → Prop} {x : GTreaty} {A0 A1 A2 A3 A4 : Option Addr} {n0 n1 n2 n3 n4 c0 c1 c2 c3 c4 : Nat}  (h : AllR w S [fV (lSlice (lInt .i64)) (.slice A0 n0 c0) x.Perils, fV (lSlice (lInt .i64)) (.slice A1 n1 c1) x.Areas, fV (lSlice (lInt .i64)) (.slice A2 n2 c2) x.Reinstatements, fV (lSlice (lInt .i64)) (.slice A3 n3 c3) x.Inures, fV (lSlice lGPart) (.slice A4 n4 c4) x.Parts]) : lGTreaty.R w S [.int .i64 x.ID, .int .i64 x.Kind, .int .i64 x.Period.From, .int .i64 x.Period.To, .slice A0 n0 c0, .slice A1 n1 c1, .int .i64 x.Risk, .int .i64 x.Cession, .int .i64 x.Line, .int .i64 x.Lines, .int .i64 x.Retention, .int .i64 x.Limit, .int .i64 x.Window, .int .i64 x.Deductible, .int .i64 x.Aggregate, .int .i64 x.Premium, .slice A2 n2 c2, .bool x.Timed, .int .i64 x.Base, .slice A3 n3 c3, .slice A4 n4 c4] x := by
  obtain ⟨k0, k1, k2, k3, k4, _⟩ := h
  exact ⟨_, _, rfl, rfl, ⟨_, _, rfl, rfl, ⟨_, _, rfl, rfl, ⟨_, _, rfl, k0, ⟨_, _, rfl, k1, ⟨_, _, rfl, rfl, ⟨_, _, rfl, rfl, ⟨_, _, rfl, rfl, ⟨_, _, rfl, rfl, ⟨_, _, rfl, rfl, ⟨_, _, rfl, rfl, ⟨_, _, rfl, rfl, ⟨_, _, rfl, rfl, ⟨_, _, rfl, rfl, ⟨_, _, rfl, rfl, ⟨_, _, rfl, k2, ⟨_, _, rfl, rfl, ⟨_, _, rfl, rfl, ⟨_, _, rfl, k3, k4⟩⟩⟩⟩⟩⟩⟩⟩⟩⟩⟩⟩⟩⟩⟩⟩⟩⟩⟩
def encGspan (x : Gspan) : List Value := [.int .i64 x.low, .int .i64 x.high]
def lGspan : Lay Gspan := lFlat encGspan 2 (fun _ => rfl) (fun _ u hu => by simp only [encGspan, List.mem_cons, List.not_mem_nil, or_false] at hu; rcases hu with rfl | rfl <;> rfl)
def lGqueue : Lay Gqueue := lMap (fun x => (x.ts, x.come)) (lPair (lSlice lGTreaty) (lSlice lBool))
theorem viewGqueue {w : World} {S : Nat → Prop} {cs : List Value} {x : Gqueue} (h : lGqueue.R w S cs x) : ∃ A0 c0 A1 c1, cs = [.slice A0 x.ts.length c0, .slice A1 x.come.length c1] ∧ AllR w S [fV (lSlice lGTreaty) (.slice A0 x.ts.length c0) x.ts, fV (lSlice lBool) (.slice A1 x.come.length c1) x.come] := by
  obtain ⟨_, _, rfl, ⟨A0, _, c0, rfl, rfl, l0, e0⟩, ⟨A1, _, c1, rfl, rfl, l1, e1⟩⟩ := h
  exact ⟨A0, c0, A1, c1, rfl, ⟨⟨_, _, _, rfl, rfl, l0, e0⟩, ⟨_, _, _, rfl, rfl, l1, e1⟩, trivial⟩⟩
theorem mkGqueue {w : World} {S : Nat → Prop} {x : Gqueue} {A0 A1 : Option Addr} {n0 n1 c0 c1 : Nat}  (h : AllR w S [fV (lSlice lGTreaty) (.slice A0 n0 c0) x.ts, fV (lSlice lBool) (.slice A1 n1 c1) x.come]) : lGqueue.R w S [.slice A0 n0 c0, .slice A1 n1 c1] x := by
  obtain ⟨k0, k1, _⟩ := h
  exact ⟨_, _, rfl, k0, k1⟩
def encKGPeriod (x : GPeriod) : Value := .agg (encGPeriod x).toArray
def encKGPart (x : GPart) : Value := .agg (encGPart x).toArray
def encKGspan (x : Gspan) : Value := .agg (encGspan x).toArray
theorem openGDeck {C : Cx} {η : List Ent} {ι : List Fact} {w : World} {A : Option Addr} {m c : Nat} {xs : List GDeck} (h : St C η ι w) (hf : fV (lSlice lGDeck) (.slice A m c) xs ∈ ι) {i : Int} (hi : inb xs i = true) : ∃ g : Option Addr × Nat, True ∧ St C η (fPt A (i.toNat * 2) [.slice g.1 (ix xs i).L.length g.2, .int .i64 (ix xs i).At] :: fV (lSlice (lInt .i64)) (.slice g.1 (ix xs i).L.length g.2) (ix xs i).L :: ι) w := by
  obtain ⟨cs, hs⟩ := h.openE hf hi
  obtain ⟨A0, c0, rfl, hr⟩ := viewGDeck (hs.facts _ (ms m0))
  exact ⟨(A0, c0), trivial, (hs.addR hr).subFacts (sub_mid (κ := [_]))⟩
theorem openGTreaty {C : Cx} {η : List Ent} {ι : List Fact} {w : World} {A : Option Addr} {m c : Nat} {xs : List GTreaty} (h : St C η ι w) (hf : fV (lSlice lGTreaty) (.slice A m c) xs ∈ ι) {i : Int} (hi : inb xs i = true) : ∃ g : Option Addr × Nat × Option Addr × Nat × Option Addr × Nat × Option Addr × Nat × Option Addr × Nat, True ∧ St C η (fPt A (i.toNat * 21) [.int .i64 (ix xs i).ID, .int .i64 (ix xs i).Kind, .int .i64 (ix xs i).Period.From, .int .i64 (ix xs i).Period.To, .slice g.1 (ix xs i).Perils.length g.2.1, .slice g.2.2.1 (ix xs i).Areas.length g.2.2.2.1, .int .i64 (ix xs i).Risk, .int .i64 (ix xs i).Cession, .int .i64 (ix xs i).Line, .int .i64 (ix xs i).Lines, .int .i64 (ix xs i).Retention, .int .i64 (ix xs i).Limit, .int .i64 (ix xs i).Window, .int .i64 (ix xs i).Deductible, .int .i64 (ix xs i).Aggregate, .int .i64 (ix xs i).Premium, .slice g.2.2.2.2.1 (ix xs i).Reinstatements.length g.2.2.2.2.2.1, .bool (ix xs i).Timed, .int .i64 (ix xs i).Base, .slice g.2.2.2.2.2.2.1 (ix xs i).Inures.length g.2.2.2.2.2.2.2.1, .slice g.2.2.2.2.2.2.2.2.1 (ix xs i).Parts.length g.2.2.2.2.2.2.2.2.2] :: fV (lSlice (lInt .i64)) (.slice g.1 (ix xs i).Perils.length g.2.1) (ix xs i).Perils :: fV (lSlice (lInt .i64)) (.slice g.2.2.1 (ix xs i).Areas.length g.2.2.2.1) (ix xs i).Areas :: fV (lSlice (lInt .i64)) (.slice g.2.2.2.2.1 (ix xs i).Reinstatements.length g.2.2.2.2.2.1) (ix xs i).Reinstatements :: fV (lSlice (lInt .i64)) (.slice g.2.2.2.2.2.2.1 (ix xs i).Inures.length g.2.2.2.2.2.2.2.1) (ix xs i).Inures :: fV (lSlice lGPart) (.slice g.2.2.2.2.2.2.2.2.1 (ix xs i).Parts.length g.2.2.2.2.2.2.2.2.2) (ix xs i).Parts :: ι) w := by
  obtain ⟨cs, hs⟩ := h.openE hf hi
  obtain ⟨A0, c0, A1, c1, A2, c2, A3, c3, A4, c4, rfl, hr⟩ := viewGTreaty (hs.facts _ (ms m0))
  exact ⟨(A0, c0, A1, c1, A2, c2, A3, c3, A4, c4), trivial, (hs.addR hr).subFacts (sub_mid (κ := [_, _, _, _, _]))⟩
theorem openGqueue {C : Cx} {η : List Ent} {ι : List Fact} {w : World} {A : Option Addr} {m c : Nat} {xs : List Gqueue} (h : St C η ι w) (hf : fV (lSlice lGqueue) (.slice A m c) xs ∈ ι) {i : Int} (hi : inb xs i = true) : ∃ g : Option Addr × Nat × Option Addr × Nat, True ∧ St C η (fPt A (i.toNat * 2) [.slice g.1 (ix xs i).ts.length g.2.1, .slice g.2.2.1 (ix xs i).come.length g.2.2.2] :: fV (lSlice lGTreaty) (.slice g.1 (ix xs i).ts.length g.2.1) (ix xs i).ts :: fV (lSlice lBool) (.slice g.2.2.1 (ix xs i).come.length g.2.2.2) (ix xs i).come :: ι) w := by
  obtain ⟨cs, hs⟩ := h.openE hf hi
  obtain ⟨A0, c0, A1, c1, rfl, hr⟩ := viewGqueue (hs.facts _ (ms m0))
  exact ⟨(A0, c0, A1, c1), trivial, (hs.addR hr).subFacts (sub_mid (κ := [_, _]))⟩
theorem bd6 : bodyB Try.prog 6 = true := by kernel_rfl
theorem bd7 : bodyB Try.prog 7 = true := by kernel_rfl
theorem bd8 : bodyB Try.prog 8 = true := by kernel_rfl
theorem bd10 : bodyB Try.prog 10 = true := by kernel_rfl
theorem bd12 : bodyB Try.prog 12 = true := by kernel_rfl
theorem bd13 : bodyB Try.prog 13 = true := by kernel_rfl
theorem bd14 : bodyB Try.prog 14 = true := by kernel_rfl
theorem bd15 : bodyB Try.prog 15 = true := by kernel_rfl
theorem bd16 : bodyB Try.prog 16 = true := by kernel_rfl
theorem bd17 : bodyB Try.prog 17 = true := by kernel_rfl
theorem bd18 : bodyB Try.prog 18 = true := by kernel_rfl
theorem bd19 : bodyB Try.prog 19 = true := by kernel_rfl
theorem bd20 : bodyB Try.prog 20 = true := by kernel_rfl
theorem bd21 : bodyB Try.prog 21 = true := by kernel_rfl
theorem bd22 : bodyB Try.prog 22 = true := by kernel_rfl
theorem bd23 : bodyB Try.prog 23 = true := by kernel_rfl
theorem bd24 : bodyB Try.prog 24 = true := by kernel_rfl
theorem bd25 : bodyB Try.prog 25 = true := by kernel_rfl
theorem bd26 : bodyB Try.prog 26 = true := by kernel_rfl
theorem bd27 : bodyB Try.prog 27 = true := by kernel_rfl
theorem bd28 : bodyB Try.prog 28 = true := by kernel_rfl
theorem bd29 : bodyB Try.prog 29 = true := by kernel_rfl
theorem bd30 : bodyB Try.prog 30 = true := by kernel_rfl
theorem bd31 : bodyB Try.prog 31 = true := by kernel_rfl
theorem bd33 : bodyB Try.prog 33 = true := by kernel_rfl
theorem bd35 : bodyB Try.prog 35 = true := by kernel_rfl
theorem bd36 : bodyB Try.prog 36 = true := by kernel_rfl
theorem bd37 : bodyB Try.prog 37 = true := by kernel_rfl
theorem bd38 : bodyB Try.prog 38 = true := by kernel_rfl
theorem bd39 : bodyB Try.prog 39 = true := by kernel_rfl
theorem bd40 : bodyB Try.prog 40 = true := by kernel_rfl
theorem bd41 : bodyB Try.prog 41 = true := by kernel_rfl
theorem bd42 : bodyB Try.prog 42 = true := by kernel_rfl
theorem bd43 : bodyB Try.prog 43 = true := by kernel_rfl
theorem bd44 : bodyB Try.prog 44 = true := by kernel_rfl
theorem bd45 : bodyB Try.prog 45 = true := by kernel_rfl
theorem bd46 : bodyB Try.prog 46 = true := by kernel_rfl
theorem bd47 : bodyB Try.prog 47 = true := by kernel_rfl
theorem bd48 : bodyB Try.prog 48 = true := by kernel_rfl
theorem bd49 : bodyB Try.prog 49 = true := by kernel_rfl
theorem bd50 : bodyB Try.prog 50 = true := by kernel_rfl
theorem bd51 : bodyB Try.prog 51 = true := by kernel_rfl
theorem bd52 : bodyB Try.prog 52 = true := by kernel_rfl
theorem bd53 : bodyB Try.prog 53 = true := by kernel_rfl
theorem bd54 : bodyB Try.prog 54 = true := by kernel_rfl
theorem bd58 : bodyB Try.prog 58 = true := by kernel_rfl
theorem bd59 : bodyB Try.prog 59 = true := by kernel_rfl
theorem bd60 : bodyB Try.prog 60 = true := by kernel_rfl
theorem bd61 : bodyB Try.prog 61 = true := by kernel_rfl
theorem bd62 : bodyB Try.prog 62 = true := by kernel_rfl
theorem bd63 : bodyB Try.prog 63 = true := by kernel_rfl
theorem bd64 : bodyB Try.prog 64 = true := by kernel_rfl
theorem bd65 : bodyB Try.prog 65 = true := by kernel_rfl
theorem bd66 : bodyB Try.prog 66 = true := by kernel_rfl
theorem bd67 : bodyB Try.prog 67 = true := by kernel_rfl
theorem bd68 : bodyB Try.prog 68 = true := by kernel_rfl
theorem bd69 : bodyB Try.prog 69 = true := by kernel_rfl
theorem bd76 : bodyB Try.prog 76 = true := by kernel_rfl
theorem bd77 : bodyB Try.prog 77 = true := by kernel_rfl
def Q_treatymade_New (r : GDeck) : Value → List Ent → List Fact → Prop := fun v θ κ => ∃ (pb0 : Nat), ∃ (pA1 : Option Addr), ∃ (pn1 : Nat), ∃ (pc1 : Nat), v = .pointer (some ⟨pb0, 0, none⟩) ∧ θ = [eBlk pb0 68 [.slice pA1 pn1 pc1, .int .i64 r.At]] ∧ κ = [fV (lSlice (lInt .i64)) (.slice pA1 pn1 pc1) r.L]
set_option maxHeartbeats 4000000 in
set_option maxRecDepth 100000 in
theorem W_treatymade_New (a0 : (List Int)) (A0 : Option Addr) (n0 : Nat) (c0 : Nat) (r : GDeck) (h : treatymade_New a0 = some r) : Spec Try.prog 27 [.slice A0 n0 c0] [] [fV (lSlice (lInt .i64)) (.slice A0 n0 c0) a0] (Q_treatymade_New r) := by
 unfold treatymade_New at h
 refine spec_of (σ := [(0, _)]) Try.func27 rfl rfl rfl rfl ?_
 intro C
 refine wc_know (fun _ h => h.lenF m0) (fun e => ?_)
 subst e
 refine Wq (Wr (D rfl (ag rfl) (Wn (Pt (Wq (Wr (D rfl (mv rfl) (D rfl (det_build (cs := [_, _]) pl68 zr68 rfl rfl (by rfl)) (Ac rfl (act_box (cs := [_, _]) rfl rfl) ?_)))))))))
 rintro _ _ _ ⟨b1_2, rfl, rfl, rfl⟩
 refine D rfl (ag rfl) (Wn (Pt (Wt ?_)))
 obtain rfl := si h
 refine pn_ret (vs := [_]) rfl ⟨rfl, trivial⟩ ⟨b1_2, A0, a0.length, c0, rfl, rfl, rfl⟩ (fun _ h => h.to ⟨_, r0, trivial⟩ ⟨m0, trivial⟩)
def Q_treatymade2_New (r : GDeck) : Value → List Ent → List Fact → Prop := fun v θ κ => ∃ (pb0 : Nat), ∃ (pA1 : Option Addr), ∃ (pn1 : Nat), ∃ (pc1 : Nat), v = .pointer (some ⟨pb0, 0, none⟩) ∧ θ = [eBlk pb0 68 [.slice pA1 pn1 pc1, .int .i64 r.At]] ∧ κ = [fV (lSlice (lInt .i64)) (.slice pA1 pn1 pc1) r.L]
set_option maxHeartbeats 4000000 in
set_option maxRecDepth 100000 in
theorem W_treatymade2_New (a0 : (List Int)) (A0 : Option Addr) (n0 : Nat) (c0 : Nat) (r : GDeck) (h : treatymade2_New a0 = some r) : Spec Try.prog 8 [.slice A0 n0 c0] [] [fV (lSlice (lInt .i64)) (.slice A0 n0 c0) a0] (Q_treatymade2_New r) := by
 unfold treatymade2_New at h
 refine spec_of (σ := [(0, _)]) Try.func8 rfl rfl rfl rfl ?_
 intro C
 refine wc_know (fun _ h => h.lenF m0) (fun e => ?_)
 subst e
 refine Wq (Wr (D rfl (ag rfl) (Wn (Pt (Wq (Wr (D rfl (mv rfl) ?_)))))))
 obtain ⟨r1_1, hr1_1, h⟩ := bs h
 refine Ac rfl (act_callS (cap := []) (W_treatymade_New a0 A0 a0.length c0 r1_1 hr1_1) rfl rfl rfl bd27 rfl ⟨m0, trivial⟩) ?_
 rintro _ _ _ ⟨_, _, ⟨y1_1b0, y1_1A1, y1_1n1, y1_1c1, rfl, rfl, rfl⟩, rfl, rfl⟩
 dsimp only [na, ca]
 refine wl_know (fun _ h => h.lenF m0) (fun e => ?_)
 subst e
 refine D rfl (ag rfl) (Wn (Pt (Wt ?_)))
 obtain rfl := si h
 refine pn_ret (vs := [_]) rfl ⟨rfl, trivial⟩ ⟨y1_1b0, y1_1A1, r1_1.L.length, y1_1c1, rfl, rfl, rfl⟩ (fun _ h => h.to ⟨_, r0, trivial⟩ ⟨m0, trivial⟩)
def Q_treatymade_Deck_Next (Ba0 : Nat) (r : Int × GDeck) : Value → List Ent → List Fact → Prop := fun v θ κ => ∃ (pA0 : Option Addr), ∃ (pn0 : Nat), ∃ (pc0 : Nat), v = .int .i64 r.1 ∧ θ = [eBlk Ba0 68 [.slice pA0 pn0 pc0, .int .i64 r.2.At]] ∧ κ = [fV (lSlice (lInt .i64)) (.slice pA0 pn0 pc0) r.2.L]
set_option maxHeartbeats 4000000 in
set_option maxRecDepth 100000 in
theorem W_treatymade_Deck_Next (a0 : GDeck) (a1 : Int) (Ba0 : Nat) (A1 : Option Addr) (n1 : Nat) (c1 : Nat) (r : Int × GDeck) (h : treatymade_Deck_Next a0 a1 = some r) : Spec Try.prog 19 [.pointer (some ⟨Ba0, 0, none⟩), .int .i64 a1] [eBlk Ba0 68 [.slice A1 n1 c1, .int .i64 a0.At]] [fV (lSlice (lInt .i64)) (.slice A1 n1 c1) a0.L] (Q_treatymade_Deck_Next Ba0 r) := by
 unfold treatymade_Deck_Next at h
 refine spec_of (σ := [(0, _), (1, _)]) Try.func19 rfl rfl rfl rfl ?_
 intro C
 refine wc_know (fun _ h => h.lenF m0) (fun e => ?_)
 subst e
 refine Wq (Wr (D rfl (ag rfl) (Wn (Pt (Wq (Wq ?_))))))
 refine dx_region 10 [[], [0], [0, 1], [0, 1, 2], [], [4], [4, 5], [4, 5, 6], [4, 5, 6, 7], [0, 1, 2, 3, 4, 5, 6, 7, 8]] mixed (ord := (.det 0 (.det 1 (.det 2 (.det 3 (.det 4 (.det 5 (.det 6 (.det 7 (.det 8 (.det 9 .done))))))))))) (by kernel_rfl) ?_
 refine Hd rfl rfl rfl (mv rfl) ?_
 refine Hd rfl rfl rfl (det_nilCheckB rfl) (Hd rfl rfl rfl (fd rfl fd68_1 rfl) (Hd rfl rfl rfl (ld rfl m0 (by rfl) na3 us3) (Hd rfl rfl rfl (mv rfl) (Hd rfl rfl rfl (det_nilCheckB rfl) (Hd rfl rfl rfl (fd rfl fd68_0 rfl) (Hd rfl rfl rfl (ld rfl m0 (by rfl) na22 us22) (Hd rfl rfl rfl (det_len rfl un22) (Hd rfl rfl rfl (det_geq rfl rfl) (hx_end (Wn (Pt ?_)))))))))))
 refine wc_cond rfl (fun cd5 => ?_) (fun cd5 => ?_)
 ·have h := ifT h cd5
  refine Wq (Wr (D rfl (ag rfl) (Wn (Pt (Wt (Rt ?_))))))
  obtain rfl := si h
  refine pn_ret (vs := [_]) rfl ⟨rfl, trivial⟩ ⟨A1, a0.L.length, c1, rfl, rfl, rfl⟩ (fun _ h => h.to ⟨_, r0, trivial⟩ ⟨m0, trivial⟩)
 ·have h := ifF h cd5
  refine Wk (Pt (Wq (Wr (D rfl (mv rfl) (D rfl (det_nilCheckB rfl) (D rfl (fd rfl fd68_1 rfl) (D rfl (ld rfl m0 (by rfl) na3 us3) (D rfl (det_add rfl rfl) (D rfl (det_nilCheckB rfl) (D rfl (fd rfl fd68_1 rfl) (Az rfl (act_store (cells := [_]) (cs' := [_, _]) rfl rfl rfl s0 (by rfl) (of_decide_eq_true rfl) sz3 (On1 rfl)) ?_)))))))))))
  rintro _ _ _ ⟨rfl, rfl⟩
  refine Wn (Pt (Wq ?_))
  obtain ⟨k4_p1, h⟩ := chk_some h
  refine wc_st (fun _ h => h.openF m0 k4_p1) ?_
  obtain ⟨k4_p3, h⟩ := chk_some h
  refine dx_region 17 [[], [0], [0, 1], [0, 1, 2], [], [4], [4, 5], [4, 5, 6], [4, 5, 6, 7], [0, 1, 2, 3, 4, 5, 6, 7, 8], [0, 1, 2, 3, 4, 5, 6, 7, 8, 9], [], [0, 1, 2, 3, 4, 5, 6, 7, 8, 9, 10, 11], [], [0, 1, 2, 3, 4, 5, 6, 7, 8, 9, 10, 11, 12, 13], [], [0, 1, 2, 3, 4, 5, 6, 7, 8, 9, 10, 11, 12, 13, 14, 15], [0, 1, 2, 3, 4, 5, 6, 7, 8, 9, 10, 11, 12, 13, 14, 15, 16]] mixed (ord := (.det 0 (.det 1 (.det 2 (.det 3 (.det 4 (.det 5 (.det 6 (.det 7 (.det 8 (.det 9 (.det 10 (.det 11 (.det 12 (.det 13 (.det 14 (.det 15 (.det 16 .done)))))))))))))))))) (by kernel_rfl) ?_
  refine Hd rfl rfl rfl (mv rfl) (Hd rfl rfl rfl (det_nilCheckB rfl) (Hd rfl rfl rfl (fd rfl fd68_0 rfl) (Hd rfl rfl rfl (ld rfl m0 (by rfl) na22 us22) (Hd rfl rfl rfl (mv rfl) (Hd rfl rfl rfl (det_nilCheckB rfl) (Hd rfl rfl rfl (fd rfl fd68_1 rfl) (Hd rfl rfl rfl (ld rfl m0 (by rfl) na3 us3) (Hd rfl rfl rfl (det_sub rfl rfl) (Hd rfl rfl rfl (det_indexP rfl rfl (ms m0) k4_p1 m0 un22 sz3) ?_)))))))))
  refine Hd rfl rfl rfl (det_loadP (off := 0) rfl m0 (by rfl) (by rfl) (loaded_1 na3 us3)) (Hd rfl rfl rfl (mv rfl) (Hd rfl rfl rfl (det_remB rfl rfl k4_p3) (Hd rfl rfl rfl (mv rfl) (Hd rfl rfl rfl (det_add rfl rfl) (Hd rfl rfl rfl (mv rfl) (Hd rfl rfl rfl (det_remB rfl rfl k4_p3) (hx_end (D rfl (ag rfl) (Wn (Pt (Wt ?_)))))))))))
  obtain rfl := si h
  refine pn_ret (vs := [_]) rfl ⟨rfl, trivial⟩ ⟨A1, a0.L.length, c1, rfl, rfl, rfl⟩ (fun _ h => h.to ⟨_, r0, trivial⟩ ⟨(ms m0), trivial⟩)
def Q_treatymade2_Small (Ba0 : Nat) (r : Int × GDeck) : Value → List Ent → List Fact → Prop := fun v θ κ => ∃ (pA0 : Option Addr), ∃ (pn0 : Nat), ∃ (pc0 : Nat), v = .int .i64 r.1 ∧ θ = [eBlk Ba0 68 [.slice pA0 pn0 pc0, .int .i64 r.2.At]] ∧ κ = [fV (lSlice (lInt .i64)) (.slice pA0 pn0 pc0) r.2.L]
set_option maxHeartbeats 4000000 in
set_option maxRecDepth 100000 in
theorem W_treatymade2_Small (a0 : GDeck) (Ba0 : Nat) (A1 : Option Addr) (n1 : Nat) (c1 : Nat) (r : Int × GDeck) (h : treatymade2_Small a0 = some r) : Spec Try.prog 23 [.pointer (some ⟨Ba0, 0, none⟩)] [eBlk Ba0 68 [.slice A1 n1 c1, .int .i64 a0.At]] [fV (lSlice (lInt .i64)) (.slice A1 n1 c1) a0.L] (Q_treatymade2_Small Ba0 r) := by
 unfold treatymade2_Small at h
 refine spec_of (σ := [(0, _)]) Try.func23 rfl rfl rfl rfl ?_
 intro C
 refine wc_know (fun _ h => h.lenF m0) (fun e => ?_)
 subst e
 refine Wq (Wr (D rfl (ag rfl) (Wn (Pt (Wq (Wq (Wr (D rfl (mv rfl) ?_))))))))
 obtain ⟨r1_1, hr1_1, h⟩ := bs h
 refine Ac rfl (act_callS (cap := []) (W_treatymade_Deck_Next a0 4 Ba0 A1 a0.L.length c1 r1_1 hr1_1) rfl rfl rfl bd19 ⟨_, r0, rfl⟩ ⟨m0, trivial⟩) ?_
 rintro _ _ _ ⟨_, _, ⟨y1_1A0, y1_1n0, y1_1c0, rfl, rfl, rfl⟩, rfl, rfl⟩
 dsimp only [na, ca]
 refine wl_know (fun _ h => h.lenF m0) (fun e => ?_)
 subst e
 refine Wn (Pt (Wb (Wq (Wr (D rfl (det_eql rfl rfl) (D rfl (ag rfl) (Wn (Pt ?_))))))))
 refine wc_cond rfl (fun cd8 => ?_) (fun cd8 => ?_)
 ·have h := ifT h cd8
  refine Wq (Wr (D rfl (mv rfl) ?_))
  obtain ⟨r3_1, hr3_1, h⟩ := bs h
  refine Ac rfl (act_callS (cap := []) (W_treatymade_Deck_Next r1_1.2 4 Ba0 y1_1A0 r1_1.2.L.length y1_1c0 r3_1 hr3_1) rfl rfl rfl bd19 ⟨_, r0, rfl⟩ ⟨m0, trivial⟩) ?_
  rintro _ _ _ ⟨_, _, ⟨y3_1A0, y3_1n0, y3_1c0, rfl, rfl, rfl⟩, rfl, rfl⟩
  dsimp only [na, ca]
  refine wl_know (fun _ h => h.lenF m0) (fun e => ?_)
  subst e
  refine D rfl (ag rfl) (Wn (Pt (Wt (Rb (Rt ?_)))))
  obtain rfl := si h
  refine pn_ret (vs := [_]) rfl ⟨rfl, trivial⟩ ⟨y3_1A0, r3_1.2.L.length, y3_1c0, rfl, rfl, rfl⟩ (fun _ h => h.to ⟨_, r0, trivial⟩ ⟨m0, trivial⟩)
 ·have h := ifF h cd8
  obtain ⟨q11, h, ho11⟩ := bs h
  refine wc_meetG (G := Bool × Unit) (fun (s11, _) => s11 = q11) (fun (s11, _) => [(0, .pointer (some ⟨Ba0, 0, none⟩)), (9, .bool s11)]) (fun (_, _) => [eBlk Ba0 68 [.slice y1_1A0 r1_1.2.L.length y1_1c0, .int .i64 r1_1.2.At]]) (fun (_, _) => [fV (lSlice (lInt .i64)) (.slice y1_1A0 r1_1.2.L.length y1_1c0) r1_1.2.L]) ?_ ?_
  ·refine Wq (Wr (D rfl (det_eql rfl rfl) (D rfl (ag rfl) (Wn (Pt ?_)))))
   refine wc_cond rfl (fun cd14 => ?_) (fun cd14 => ?_)
   ·have h := ifT h cd14
    refine Wk ?_
    obtain rfl := si h
    exact pn_meetG ((decide (r1_1.1 = 1)), ()) rfl (Sb rfl) (fun _ h => h.to ⟨_, r0, trivial⟩ ⟨m0, trivial⟩)
   ·have h := ifF h cd14
    refine Wr (D rfl (det_eql rfl rfl) (D rfl (ag rfl) (Wn ?_)))
    obtain rfl := si h
    exact pn_meetG ((decide (r1_1.1 = 2)), ()) rfl (Sb rfl) (fun _ h => h.to ⟨_, r0, trivial⟩ ⟨m0, trivial⟩)
  rintro ⟨s11, _⟩ e11
  dsimp only at e11 ⊢
  subst e11
  have h := ho11
  refine wc_cond rfl (fun cd16 => ?_) (fun cd16 => ?_)
  ·have h := ifT h cd16
   refine Wq (Wr (D rfl (mv rfl) ?_))
   obtain ⟨r6_1, hr6_1, h⟩ := bs h
   refine Ac rfl (act_callS (cap := []) (W_treatymade_Deck_Next r1_1.2 1000 Ba0 y1_1A0 r1_1.2.L.length y1_1c0 r6_1 hr6_1) rfl rfl rfl bd19 ⟨_, r0, rfl⟩ ⟨m0, trivial⟩) ?_
   rintro _ _ _ ⟨_, _, ⟨y6_1A0, y6_1n0, y6_1c0, rfl, rfl, rfl⟩, rfl, rfl⟩
   dsimp only [na, ca]
   refine wl_know (fun _ h => h.lenF m0) (fun e => ?_)
   subst e
   refine D rfl (ag rfl) (Wn (Pt (Wt (Rb (Rt ?_)))))
   obtain rfl := si h
   refine pn_ret (vs := [_]) rfl ⟨rfl, trivial⟩ ⟨y6_1A0, r6_1.2.L.length, y6_1c0, rfl, rfl, rfl⟩ (fun _ h => h.to ⟨_, r0, trivial⟩ ⟨m0, trivial⟩)
  ·have h := ifF h cd16
   refine Wk (Pb (Pt (Wq (Wr (D rfl (mv rfl) ?_)))))
   obtain ⟨r7_1, hr7_1, h⟩ := bs h
   refine Ac rfl (act_callS (cap := []) (W_treatymade_Deck_Next r1_1.2 268435456 Ba0 y1_1A0 r1_1.2.L.length y1_1c0 r7_1 hr7_1) rfl rfl rfl bd19 ⟨_, r0, rfl⟩ ⟨m0, trivial⟩) ?_
   rintro _ _ _ ⟨_, _, ⟨y7_1A0, y7_1n0, y7_1c0, rfl, rfl, rfl⟩, rfl, rfl⟩
   dsimp only [na, ca]
   refine wl_know (fun _ h => h.lenF m0) (fun e => ?_)
   subst e
   refine D rfl (ag rfl) (Wn (Pt (Wt ?_)))
   obtain rfl := si h
   refine pn_ret (vs := [_]) rfl ⟨rfl, trivial⟩ ⟨y7_1A0, r7_1.2.L.length, y7_1c0, rfl, rfl, rfl⟩ (fun _ h => h.to ⟨_, r0, trivial⟩ ⟨m0, trivial⟩)
def Q_treatymade_Deck_Upto (Ba0 : Nat) (r : Int × GDeck) : Value → List Ent → List Fact → Prop := fun v θ κ => ∃ (pA0 : Option Addr), ∃ (pn0 : Nat), ∃ (pc0 : Nat), v = .int .i64 r.1 ∧ θ = [eBlk Ba0 68 [.slice pA0 pn0 pc0, .int .i64 r.2.At]] ∧ κ = [fV (lSlice (lInt .i64)) (.slice pA0 pn0 pc0) r.2.L]
set_option maxHeartbeats 4000000 in
set_option maxRecDepth 100000 in
theorem W_treatymade_Deck_Upto (a0 : GDeck) (a1 : Int) (Ba0 : Nat) (A1 : Option Addr) (n1 : Nat) (c1 : Nat) (r : Int × GDeck) (h : treatymade_Deck_Upto a0 a1 = some r) : Spec Try.prog 20 [.pointer (some ⟨Ba0, 0, none⟩), .int .i64 a1] [eBlk Ba0 68 [.slice A1 n1 c1, .int .i64 a0.At]] [fV (lSlice (lInt .i64)) (.slice A1 n1 c1) a0.L] (Q_treatymade_Deck_Upto Ba0 r) := by
 unfold treatymade_Deck_Upto at h
 refine spec_of (σ := [(0, _), (1, _)]) Try.func20 rfl rfl rfl rfl ?_
 intro C
 refine wc_know (fun _ h => h.lenF m0) (fun e => ?_)
 subst e
 refine Wq (Wr (D rfl (ag rfl) (Wn (Pt (Wq (Wq (Wr (D rfl (mv rfl) ?_))))))))
 obtain ⟨r1_1, hr1_1, h⟩ := bs h
 refine Ac rfl (act_callS (cap := []) (W_treatymade_Deck_Next a0 6 Ba0 A1 a0.L.length c1 r1_1 hr1_1) rfl rfl rfl bd19 ⟨_, r0, rfl⟩ ⟨m0, trivial⟩) ?_
 rintro _ _ _ ⟨_, _, ⟨y1_1A0, y1_1n0, y1_1c0, rfl, rfl, rfl⟩, rfl, rfl⟩
 dsimp only [na, ca]
 refine wl_know (fun _ h => h.lenF m0) (fun e => ?_)
 subst e
 refine Wn (Pt (Wb (Wq (Wr (D rfl (det_eql rfl rfl) (D rfl (ag rfl) (Wn (Pt ?_))))))))
 refine wc_cond rfl (fun cd8 => ?_) (fun cd8 => ?_)
 ·have h := ifT h cd8
  refine Wq (Wr (D rfl (mv rfl) ?_))
  obtain ⟨r3_1, hr3_1, h⟩ := bs h
  refine Ac rfl (act_callS (cap := []) (W_treatymade_Deck_Next r1_1.2 4 Ba0 y1_1A0 r1_1.2.L.length y1_1c0 r3_1 hr3_1) rfl rfl rfl bd19 ⟨_, r0, rfl⟩ ⟨m0, trivial⟩) ?_
  rintro _ _ _ ⟨_, _, ⟨y3_1A0, y3_1n0, y3_1c0, rfl, rfl, rfl⟩, rfl, rfl⟩
  dsimp only [na, ca]
  refine wl_know (fun _ h => h.lenF m0) (fun e => ?_)
  subst e
  refine D rfl (mv rfl) (D rfl (det_minI rfl rfl) (D rfl (ag rfl) (Wn (Pt (Wt (Rb (Rt ?_)))))))
  obtain rfl := si h
  refine pn_ret (vs := [_]) rfl ⟨rfl, trivial⟩ ⟨y3_1A0, r3_1.2.L.length, y3_1c0, rfl, rfl, rfl⟩ (fun _ h => h.to ⟨_, r0, trivial⟩ ⟨m0, trivial⟩)
 ·have h := ifF h cd8
  refine Wq (Wr (D rfl (det_eql rfl rfl) (D rfl (ag rfl) (Wn (Pt ?_)))))
  refine wc_cond rfl (fun cd13 => ?_) (fun cd13 => ?_)
  ·have h := ifT h cd13
   refine Wq (Wr (D rfl (mv rfl) ?_))
   obtain ⟨r5_1, hr5_1, h⟩ := bs h
   refine Ac rfl (act_callS (cap := []) (W_treatymade_Deck_Next r1_1.2 100 Ba0 y1_1A0 r1_1.2.L.length y1_1c0 r5_1 hr5_1) rfl rfl rfl bd19 ⟨_, r0, rfl⟩ ⟨m0, trivial⟩) ?_
   rintro _ _ _ ⟨_, _, ⟨y5_1A0, y5_1n0, y5_1c0, rfl, rfl, rfl⟩, rfl, rfl⟩
   dsimp only [na, ca]
   refine wl_know (fun _ h => h.lenF m0) (fun e => ?_)
   subst e
   refine D rfl (mv rfl) (D rfl (det_minI rfl rfl) (D rfl (ag rfl) (Wn (Pt (Wt (Rb (Rt ?_)))))))
   obtain rfl := si h
   refine pn_ret (vs := [_]) rfl ⟨rfl, trivial⟩ ⟨y5_1A0, r5_1.2.L.length, y5_1c0, rfl, rfl, rfl⟩ (fun _ h => h.to ⟨_, r0, trivial⟩ ⟨m0, trivial⟩)
  ·have h := ifF h cd13
   refine Wq (Wr (D rfl (det_eql rfl rfl) (D rfl (ag rfl) (Wn (Pt ?_)))))
   refine wc_cond rfl (fun cd18 => ?_) (fun cd18 => ?_)
   ·have h := ifT h cd18
    refine Wq (Wr (D rfl (mv rfl) ?_))
    obtain ⟨r7_1, hr7_1, h⟩ := bs h
    refine Ac rfl (act_callS (cap := []) (W_treatymade_Deck_Next r1_1.2 1048576 Ba0 y1_1A0 r1_1.2.L.length y1_1c0 r7_1 hr7_1) rfl rfl rfl bd19 ⟨_, r0, rfl⟩ ⟨m0, trivial⟩) ?_
    rintro _ _ _ ⟨_, _, ⟨y7_1A0, y7_1n0, y7_1c0, rfl, rfl, rfl⟩, rfl, rfl⟩
    dsimp only [na, ca]
    refine wl_know (fun _ h => h.lenF m0) (fun e => ?_)
    subst e
    refine D rfl (mv rfl) (D rfl (det_minI rfl rfl) (D rfl (ag rfl) (Wn (Pt (Wt (Rb (Rt ?_)))))))
    obtain rfl := si h
    refine pn_ret (vs := [_]) rfl ⟨rfl, trivial⟩ ⟨y7_1A0, r7_1.2.L.length, y7_1c0, rfl, rfl, rfl⟩ (fun _ h => h.to ⟨_, r0, trivial⟩ ⟨m0, trivial⟩)
   ·have h := ifF h cd18
    refine Wq (Wr (D rfl (det_eql rfl rfl) (D rfl (ag rfl) (Wn (Pt ?_)))))
    refine wc_cond rfl (fun cd23 => ?_) (fun cd23 => ?_)
    ·have h := ifT h cd23
     refine Wq (Wr (D rfl (mv rfl) (D rfl (mv rfl) (D rfl (mv rfl) (D rfl (det_add rfl rfl) (D rfl (det_minI rfl rfl) ?_))))))
     obtain ⟨r9_5, hr9_5, h⟩ := bs h
     refine Ac rfl (act_callS (cap := []) (W_treatymade_Deck_Next r1_1.2 (minI 3 (w64 (a1 + 1))) Ba0 y1_1A0 r1_1.2.L.length y1_1c0 r9_5 hr9_5) rfl rfl rfl bd19 ⟨_, r0, rfl⟩ ⟨m0, trivial⟩) ?_
     rintro _ _ _ ⟨_, _, ⟨y9_5A0, y9_5n0, y9_5c0, rfl, rfl, rfl⟩, rfl, rfl⟩
     dsimp only [na, ca]
     refine wl_know (fun _ h => h.lenF m0) (fun e => ?_)
     subst e
     refine D rfl (det_sub rfl rfl) (D rfl (ag rfl) (Wn (Pt (Wt (Rb (Rt ?_))))))
     obtain rfl := si h
     refine pn_ret (vs := [_]) rfl ⟨rfl, trivial⟩ ⟨y9_5A0, r9_5.2.L.length, y9_5c0, rfl, rfl, rfl⟩ (fun _ h => h.to ⟨_, r0, trivial⟩ ⟨m0, trivial⟩)
    ·have h := ifF h cd23
     refine Wk (Pb (Pt (Wq (Wr (D rfl (mv rfl) (D rfl (mv rfl) (D rfl (det_add rfl rfl) ?_)))))))
     obtain ⟨r10_3, hr10_3, h⟩ := bs h
     refine Ac rfl (act_callS (cap := []) (W_treatymade_Deck_Next r1_1.2 (w64 (a1 + 1)) Ba0 y1_1A0 r1_1.2.L.length y1_1c0 r10_3 hr10_3) rfl rfl rfl bd19 ⟨_, r0, rfl⟩ ⟨m0, trivial⟩) ?_
     rintro _ _ _ ⟨_, _, ⟨y10_3A0, y10_3n0, y10_3c0, rfl, rfl, rfl⟩, rfl, rfl⟩
     dsimp only [na, ca]
     refine wl_know (fun _ h => h.lenF m0) (fun e => ?_)
     subst e
     refine D rfl (ag rfl) (Wn (Pt (Wt ?_)))
     obtain rfl := si h
     refine pn_ret (vs := [_]) rfl ⟨rfl, trivial⟩ ⟨y10_3A0, r10_3.2.L.length, y10_3c0, rfl, rfl, rfl⟩ (fun _ h => h.to ⟨_, r0, trivial⟩ ⟨m0, trivial⟩)
def Q_treatymade_Deck_Parts (Ba0 : Nat) (r : (List GPart) × GDeck) : Value → List Ent → List Fact → Prop := fun v θ κ => ∃ (pA0 : Option Addr), ∃ (pn0 : Nat), ∃ (pc0 : Nat), ∃ (pA1 : Option Addr), ∃ (pn1 : Nat), ∃ (pc1 : Nat), v = .slice pA0 pn0 pc0 ∧ θ = [eS lGPart 72 pA0 pn0 pc0 r.1, eBlk Ba0 68 [.slice pA1 pn1 pc1, .int .i64 r.2.At]] ∧ κ = [fV (lSlice (lInt .i64)) (.slice pA1 pn1 pc1) r.2.L]
set_option maxHeartbeats 4000000 in
set_option maxRecDepth 100000 in
theorem W_treatymade_Deck_Parts (a0 : GDeck) (Ba0 : Nat) (A1 : Option Addr) (n1 : Nat) (c1 : Nat) (r : (List GPart) × GDeck) (h : treatymade_Deck_Parts a0 = some r) : Spec Try.prog 24 [.pointer (some ⟨Ba0, 0, none⟩)] [eBlk Ba0 68 [.slice A1 n1 c1, .int .i64 a0.At]] [fV (lSlice (lInt .i64)) (.slice A1 n1 c1) a0.L] (Q_treatymade_Deck_Parts Ba0 r) := by
 unfold treatymade_Deck_Parts at h
 refine spec_of (σ := [(0, _)]) Try.func24 rfl rfl rfl rfl ?_
 intro C
 refine wc_know (fun _ h => h.lenF m0) (fun e => ?_)
 subst e
 refine Wq (Wr (D rfl (ag rfl) (Wn ?_)))
 refine Pt (Wq (Wr (D rfl (ag rfl) (Wn (Pt (Wq (Wr (D rfl (ag rfl) (D rfl (ag rfl) (Wn (Pt ?_)))))))))))
 obtain ⟨q6, h, ho6⟩ := bs h
 refine wc_meetG (G := ((List Int) × Int × (List GPart)) × Option Addr × Nat × Nat × Option Addr × Nat × Nat × Unit) (fun (s6, _, _, _, _, _, _, _) => s6 = q6) (fun (_, _, _, _, A6_3, n6_3, c6_3, _) => [(3, .slice A6_3 n6_3 c6_3)]) (fun (s6, A6_0, n6_0, c6_0, A6_3, n6_3, c6_3, _) => [eBlk Ba0 68 [.slice A6_0 n6_0 c6_0, .int .i64 s6.2.1], eS lGPart 72 A6_3 n6_3 c6_3 s6.2.2]) (fun (s6, A6_0, n6_0, c6_0, _, _, _, _) => [fV (lSlice (lInt .i64)) (.slice A6_0 n6_0 c6_0) s6.1]) ?_ ?_
 ·refine Wq (Wr (D rfl (mv rfl) ?_))
  obtain ⟨r3_1, hr3_1, h⟩ := bs h
  refine Ac rfl (act_callS (cap := []) (W_treatymade_Deck_Next a0 5 Ba0 A1 a0.L.length c1 r3_1 hr3_1) rfl rfl rfl bd19 ⟨_, r0, rfl⟩ ⟨m0, trivial⟩) ?_
  rintro _ _ _ ⟨_, _, ⟨y3_1A0, y3_1n0, y3_1c0, rfl, rfl, rfl⟩, rfl, rfl⟩
  dsimp only [na, ca]
  refine wl_know (fun _ h => h.lenF m0) (fun e => ?_)
  subst e
  refine D rfl (ag rfl) (Wn (Pt (Wb ?_)))
  refine wc_st (fun _ h => h.zeroS lGPart 72 none) ?_
  obtain ⟨k10, hk10⟩ := loopV_some.1 h
  refine wc_loop (G := Nat × ((List Int) × Int × (List GPart) × Int × Int × Int) × Option Addr × Nat × Nat × Option Addr × Nat × Nat × Unit) (fun g => IterN treatymade_Deck_Parts_l10 g.1 g.2.1 q6) (fun g => g.1) (fun (_, s10, _, _, _, A10_3, n10_3, c10_3, _) => [(0, .pointer (some ⟨Ba0, 0, none⟩)), (3, .slice A10_3 n10_3 c10_3), (4, .int .i64 s10.2.2.2.1), (5, .int .i64 s10.2.2.2.2.1), (6, .int .i64 s10.2.2.2.2.2)]) (fun (_, s10, A10_0, n10_0, c10_0, A10_3, n10_3, c10_3, _) => [eBlk Ba0 68 [.slice A10_0 n10_0 c10_0, .int .i64 s10.2.1], eS lGPart 72 A10_3 n10_3 c10_3 s10.2.2.1]) (fun (_, s10, A10_0, n10_0, c10_0, _, _, _, _) => [fV (lSlice (lInt .i64)) (.slice A10_0 n10_0 c10_0) s10.1]) (k10, (r3_1.2.L, r3_1.2.At, [], 1000000, 0, r3_1.1), y3_1A0, r3_1.2.L.length, y3_1c0, none, 0, 0, ()) hk10 (Sb rfl) (fun _ h => h.to ⟨_, (rs r0), ⟨_, r0, trivial⟩⟩ ⟨m0, trivial⟩) ?_
  rintro ⟨k10, s10, A10_0, n10_0, c10_0, A10_3, n10_3, c10_3, _⟩ hI
  obtain ⟨k10, rfl, q10, h, g10⟩ := IterN.pos hI
  dsimp only at h ⊢
  unfold treatymade_Deck_Parts_l10 at h
  refine wc_know (fun _ h => h.lenF m0) (fun e => ?_)
  subst e
  refine wc_know (fun _ h => h.lenO (ms m0)) (fun e => ?_)
  subst e
  refine Wq (Wq (Wr (D rfl (mv rfl) (D rfl (det_gtr rfl rfl) (D rfl (mv rfl) ?_)))))
  refine wl_way (decide (0 < s10.2.2.2.2.2)) ((decide (0 < s10.2.2.2.2.2)) && (decide (0 < s10.2.2.2.1))) 3 15 (fun hg => ?_) (fun hg => ?_) ?_
  ·have hg4_5 := hg
   refine Gn rfl rfl hg4_5 (D rfl (mv rfl) (Gn rfl rfl hg4_5 (D rfl (det_gtr rfl rfl) (D rfl (det_and_on rfl rfl rfl hg4_5) ?_))))
   exact wl_nil (pn_qnE (ext_cons rfl (Ex 3 rfl rfl)) (fun _ h => h))
  ·have hg4_5a := hg
   refine Gf rfl rfl rfl hg4_5a (Gf rfl rfl rfl hg4_5a (D rfl (det_and_off (q := (decide (0 < s10.2.2.2.1))) rfl rfl rfl hg4_5a) ?_))
   exact wl_nil (pn_qnE (ext_cons rfl (Ex 3 rfl rfl)) (fun _ h => h))
  refine Wn (Pt ?_)
  refine wc_cond rfl (fun cd14 => ?_) (fun cd14 => ?_)
  ·have h := ifT h cd14
   refine Wk (Pt (Wq (Wb (Wq (Wr (D rfl (mv rfl) (D rfl (det_add rfl rfl) (D rfl (mv rfl) ?_))))))))
   obtain ⟨r6_3, hr6_3, h⟩ := bs h
   refine Ac rfl (act_callS (cap := []) (W_treatymade_Deck_Next (GDeck.mk s10.1 s10.2.1) 3 Ba0 A10_0 s10.1.length c10_0 r6_3 hr6_3) rfl rfl rfl bd19 ⟨_, r0, rfl⟩ ⟨m0, trivial⟩) ?_
   rintro _ _ _ ⟨_, _, ⟨y6_3A0, y6_3n0, y6_3c0, rfl, rfl, rfl⟩, rfl, rfl⟩
   dsimp only [na, ca]
   refine wl_know (fun _ h => h.lenF m0) (fun e => ?_)
   subst e
   refine D rfl (det_add rfl rfl) (D rfl (ag rfl) (Wn (Pt (Wq (Wr (D rfl (mv rfl) (D rfl (mv rfl) (D rfl (det_sub rfl rfl) ?_))))))))
   obtain ⟨r7_3, hr7_3, h⟩ := bs h
   refine Ac rfl (act_callS (cap := []) (W_treatymade_Deck_Upto r6_3.2 (w64 (s10.2.2.2.1 - 1)) Ba0 y6_3A0 r6_3.2.L.length y6_3c0 r7_3 hr7_3) rfl rfl rfl bd20 ⟨_, r0, rfl⟩ ⟨m0, trivial⟩) ?_
   rintro _ _ _ ⟨_, _, ⟨y7_3A0, y7_3n0, y7_3c0, rfl, rfl, rfl⟩, rfl, rfl⟩
   dsimp only [na, ca]
   refine wl_know (fun _ h => h.lenF m0) (fun e => ?_)
   subst e
   refine D rfl (det_add rfl rfl) (D rfl (ag rfl) (Wn (Pt (Wr (D rfl (mv rfl) (D rfl (mv rfl) (D rfl (mv rfl) (D rfl (det_build (cs := [_, _]) pl72 zr72 rfl rfl (by rfl)) (Ac rfl (act_litS lGPart (vs := [_]) (cs := [_, _]) [(GPart.mk (w64 ((w64 (s10.2.2.2.2.1 + 1)) + r6_3.1)) (w64 (1 + r7_3.1)))] un39 in72 rfl rfl rfl rfl rfl ⟨rfl, trivial⟩ (by rfl) rfl (litR_flat rfl)) ?_)))))))))
   rintro _ _ _ ⟨A8_4, rfl, rfl, rfl⟩
   obtain ⟨k8_5, h⟩ := chk_some h
   refine Ac rfl (act_appendS (L := lGPart) rfl rfl (ss (ss s0)) (src_O m0) un39 in72 rfl rfl rfl k8_5) ?_
   rintro _ _ _ ⟨A8_5, c8_5, rfl, rfl, rfl⟩
   refine D rfl (mv rfl) ?_
   refine D rfl (mv rfl) (D rfl (det_sub rfl rfl) (D rfl (ag rfl) (D rfl (ag rfl) (Wn (Pb (Pt (Wr (D rfl (mv rfl) (D rfl (det_sub rfl rfl) (D rfl (ag rfl) (Wn ?_)))))))))))
   obtain rfl := si h
   exact pn_some (k10, (r7_3.2.L, r7_3.2.At, (s10.2.2.1 ++ [(GPart.mk (w64 ((w64 (s10.2.2.2.2.1 + 1)) + r6_3.1)) (w64 (1 + r7_3.1)))]), (w64 (s10.2.2.2.1 - (w64 (1 + r7_3.1)))), (w64 ((w64 (s10.2.2.2.2.1 + 1)) + r6_3.1)), (w64 (s10.2.2.2.2.2 - 1))), y7_3A0, r7_3.2.L.length, y7_3c0, A8_5, (s10.2.2.1 ++ [(GPart.mk (w64 ((w64 (s10.2.2.2.2.1 + 1)) + r6_3.1)) (w64 (1 + r7_3.1)))]).length, c8_5, ()) ⟨nextL g10, Nat.lt_succ_self _⟩ (Sb rfl) (fun _ h => h.to ⟨_, (rs r0), ⟨_, (rs r0), trivial⟩⟩ ⟨m0, trivial⟩)
  ·have h := ifF h cd14
   refine We (Xt (Xt (Xb ?_)))
   obtain rfl := si h
   replace g10 := nextR g10
   subst g10
   exact pn_meetG ((s10.1, s10.2.1, s10.2.2.1), A10_0, s10.1.length, c10_0, A10_3, s10.2.2.1.length, c10_3, ()) rfl (Sb rfl) (fun _ h => h.to ⟨_, r0, ⟨_, r0, trivial⟩⟩ ⟨m0, trivial⟩)
 rintro ⟨s6, A6_0, n6_0, c6_0, A6_3, n6_3, c6_3, _⟩ e6
 dsimp only at e6 ⊢
 subst e6
 have h := ho6
 refine wc_know (fun _ h => h.lenF m0) (fun e => ?_)
 subst e
 refine wc_know (fun _ h => h.lenO (ms m0)) (fun e => ?_)
 subst e
 refine Wq (Wr (D rfl (mv rfl) (D rfl (ag rfl) (Wn (Pt (Wt ?_))))))
 obtain rfl := si h
 refine pn_ret (vs := [_]) rfl ⟨rfl, trivial⟩ ⟨A6_3, s6.2.2.length, c6_3, A6_0, s6.1.length, c6_0, rfl, rfl, rfl⟩ (fun _ h => h.to ⟨_, (rs r0), ⟨_, r0, trivial⟩⟩ ⟨m0, trivial⟩)
def Q_treatymade_Deck_subset (Ba0 : Nat) (r : (List Int) × GDeck) : Value → List Ent → List Fact → Prop := fun v θ κ => ∃ (pA0 : Option Addr), ∃ (pn0 : Nat), ∃ (pc0 : Nat), ∃ (pA1 : Option Addr), ∃ (pn1 : Nat), ∃ (pc1 : Nat), v = .slice pA0 pn0 pc0 ∧ θ = [eS (lInt .i64) 3 pA0 pn0 pc0 r.1, eBlk Ba0 68 [.slice pA1 pn1 pc1, .int .i64 r.2.At]] ∧ κ = [fV (lSlice (lInt .i64)) (.slice pA1 pn1 pc1) r.2.L]
set_option maxHeartbeats 4000000 in
set_option maxRecDepth 100000 in
theorem W_treatymade_Deck_subset (a0 : GDeck) (a1 : Int) (a2 : Int) (Ba0 : Nat) (A1 : Option Addr) (n1 : Nat) (c1 : Nat) (r : (List Int) × GDeck) (h : treatymade_Deck_subset a0 a1 a2 = some r) : Spec Try.prog 46 [.pointer (some ⟨Ba0, 0, none⟩), .int .i64 a1, .int .i64 a2] [eBlk Ba0 68 [.slice A1 n1 c1, .int .i64 a0.At]] [fV (lSlice (lInt .i64)) (.slice A1 n1 c1) a0.L] (Q_treatymade_Deck_subset Ba0 r) := by
 unfold treatymade_Deck_subset at h
 refine spec_of (σ := [(0, _), (1, _), (2, _)]) Try.func46 rfl rfl rfl rfl ?_
 intro C
 refine wc_know (fun _ h => h.lenF m0) (fun e => ?_)
 subst e
 refine Wq (Wr ?_)
 refine D rfl (ag rfl) (Wn (Pt (Wq (Wr (D rfl (ag rfl) (Wn (Pt (Wq (Wq (Wr (D rfl (mv rfl) ?_)))))))))))
 obtain ⟨r2_1, hr2_1, h⟩ := bs h
 refine Ac rfl (act_callS (cap := []) (W_treatymade_Deck_Next a0 2 Ba0 A1 a0.L.length c1 r2_1 hr2_1) rfl rfl rfl bd19 ⟨_, r0, rfl⟩ ⟨m0, trivial⟩) ?_
 rintro _ _ _ ⟨_, _, ⟨y2_1A0, y2_1n0, y2_1c0, rfl, rfl, rfl⟩, rfl, rfl⟩
 dsimp only [na, ca]
 refine wl_know (fun _ h => h.lenF m0) (fun e => ?_)
 subst e
 refine D rfl (det_eql rfl rfl) (Wn (Pt ?_))
 refine wc_cond rfl (fun cd7 => ?_) (fun cd7 => ?_)
 ·have h := ifT h cd7
  refine Wq (Wr (D rfl (ag rfl) (Wn (Pt (Wt (Rt ?_))))))
  refine pn_st (fun _ h => h.zeroS (lInt .i64) 3 none) ?_
  obtain rfl := si h
  refine pn_ret (vs := [_]) rfl ⟨rfl, trivial⟩ ⟨none, 0, 0, y2_1A0, r2_1.2.L.length, y2_1c0, rfl, rfl, rfl⟩ (fun _ h => h.to ⟨_, r0, ⟨_, r0, trivial⟩⟩ ⟨m0, trivial⟩)
 ·have h := ifF h cd7
  refine Wk (Pt ?_)
  obtain ⟨q10, h, ho10⟩ := bs h
  refine wc_meetG (G := ((List Int) × Int × (List Int)) × Option Addr × Nat × Nat × Option Addr × Nat × Nat × Unit) (fun (s10, _, _, _, _, _, _, _) => s10 = q10) (fun (_, _, _, _, A10_3, n10_3, c10_3, _) => [(7, .slice A10_3 n10_3 c10_3)]) (fun (s10, A10_0, n10_0, c10_0, A10_3, n10_3, c10_3, _) => [eBlk Ba0 68 [.slice A10_0 n10_0 c10_0, .int .i64 s10.2.1], eS (lInt .i64) 3 A10_3 n10_3 c10_3 s10.2.2]) (fun (s10, A10_0, n10_0, c10_0, _, _, _, _) => [fV (lSlice (lInt .i64)) (.slice A10_0 n10_0 c10_0) s10.1]) ?_ ?_
  ·refine Wq (Wr (D rfl (mv rfl) (D rfl (ag rfl) (Wn (Pt (Wb ?_))))))
   refine wc_st (fun _ h => h.zeroS (lInt .i64) 3 none) ?_
   obtain ⟨k14, hk14⟩ := loopV_some.1 h
   refine wc_loop (G := Nat × ((List Int) × Int × (List Int) × Int) × Option Addr × Nat × Nat × Option Addr × Nat × Nat × Unit) (fun g => IterN (treatymade_Deck_subset_l14 a2) g.1 g.2.1 q10) (fun g => g.1) (fun (_, s14, _, _, _, A14_3, n14_3, c14_3, _) => [(0, .pointer (some ⟨Ba0, 0, none⟩)), (2, .int .i64 a2), (7, .slice A14_3 n14_3 c14_3), (8, .int .i64 s14.2.2.2)]) (fun (_, s14, A14_0, n14_0, c14_0, A14_3, n14_3, c14_3, _) => [eBlk Ba0 68 [.slice A14_0 n14_0 c14_0, .int .i64 s14.2.1], eS (lInt .i64) 3 A14_3 n14_3 c14_3 s14.2.2.1]) (fun (_, s14, A14_0, n14_0, c14_0, _, _, _, _) => [fV (lSlice (lInt .i64)) (.slice A14_0 n14_0 c14_0) s14.1]) (k14, (r2_1.2.L, r2_1.2.At, [], a1), y2_1A0, r2_1.2.L.length, y2_1c0, none, 0, 0, ()) hk14 (Sb rfl) (fun _ h => h.to ⟨_, (rs r0), ⟨_, r0, trivial⟩⟩ ⟨m0, trivial⟩) ?_
   rintro ⟨k14, s14, A14_0, n14_0, c14_0, A14_3, n14_3, c14_3, _⟩ hI
   obtain ⟨k14, rfl, q14, h, g14⟩ := IterN.pos hI
   dsimp only at h ⊢
   unfold treatymade_Deck_subset_l14 at h
   refine wc_know (fun _ h => h.lenF m0) (fun e => ?_)
   subst e
   refine wc_know (fun _ h => h.lenO (ms m0)) (fun e => ?_)
   subst e
   refine Wq (Wq (Wr (D rfl (mv rfl) (D rfl (mv rfl) (D rfl (det_leq rfl rfl) (Wn (Pt ?_)))))))
   refine wc_cond rfl (fun cd18 => ?_) (fun cd18 => ?_)
   ·have h := ifT h cd18
    refine Wk (Pt ?_)
    obtain ⟨q20, h, ho20⟩ := bs h
    refine wc_meetG (G := ((List Int) × Int × (List Int)) × Option Addr × Nat × Nat × Option Addr × Nat × Nat × Unit) (fun (s20, _, _, _, _, _, _, _) => s20 = q20) (fun (_, _, _, _, A20_3, n20_3, c20_3, _) => [(0, .pointer (some ⟨Ba0, 0, none⟩)), (2, .int .i64 a2), (7, .slice A20_3 n20_3 c20_3), (8, .int .i64 s14.2.2.2)]) (fun (s20, A20_0, n20_0, c20_0, A20_3, n20_3, c20_3, _) => [eBlk Ba0 68 [.slice A20_0 n20_0 c20_0, .int .i64 s20.2.1], eS (lInt .i64) 3 A20_3 n20_3 c20_3 s20.2.2]) (fun (s20, A20_0, n20_0, c20_0, _, _, _, _) => [fV (lSlice (lInt .i64)) (.slice A20_0 n20_0 c20_0) s20.1]) ?_ ?_
    ·refine Wb (Wq (Wr (D rfl (mv rfl) ?_)))
     obtain ⟨r7_1, hr7_1, h⟩ := bs h
     refine Ac rfl (act_callS (cap := []) (W_treatymade_Deck_Next (GDeck.mk s14.1 s14.2.1) 3 Ba0 A14_0 s14.1.length c14_0 r7_1 hr7_1) rfl rfl rfl bd19 ⟨_, r0, rfl⟩ ⟨m0, trivial⟩) ?_
     rintro _ _ _ ⟨_, _, ⟨y7_1A0, y7_1n0, y7_1c0, rfl, rfl, rfl⟩, rfl, rfl⟩
     dsimp only [na, ca]
     refine wl_know (fun _ h => h.lenF m0) (fun e => ?_)
     subst e
     refine D rfl (det_gtr rfl rfl) (Wn (Pt ?_))
     refine wc_cond rfl (fun cd24 => ?_) (fun cd24 => ?_)
     ·have h := ifT h cd24
      refine Wr (D rfl (mv rfl) (D rfl (mv rfl) (Ac rfl (act_litS (lInt .i64) (vs := [_]) (cs := [_]) [s14.2.2.2] un22 in3 rfl rfl rfl rfl rfl ⟨rfl, trivial⟩ (by rfl) rfl (litR_flat rfl)) ?_)))
      rintro _ _ _ ⟨A8_2, rfl, rfl, rfl⟩
      obtain ⟨k8_3, h⟩ := chk_some h
      refine Ac rfl (act_appendS (L := (lInt .i64)) rfl rfl (ss (ss s0)) (src_O m0) un22 in3 rfl rfl rfl k8_3) ?_
      rintro _ _ _ ⟨A8_3, c8_3, rfl, rfl, rfl⟩
      refine D rfl (ag rfl) (Wn (Pb ?_))
      obtain rfl := si h
      exact pn_meetG ((r7_1.2.L, r7_1.2.At, (s14.2.2.1 ++ [s14.2.2.2])), y7_1A0, r7_1.2.L.length, y7_1c0, A8_3, (s14.2.2.1 ++ [s14.2.2.2]).length, c8_3, ()) rfl (Sb rfl) (fun _ h => h.to ⟨_, (rs r0), ⟨_, (rs r0), trivial⟩⟩ ⟨m0, trivial⟩)
     ·have h := ifF h cd24
      refine Wk (Pb ?_)
      obtain rfl := si h
      exact pn_meetG ((r7_1.2.L, r7_1.2.At, s14.2.2.1), y7_1A0, r7_1.2.L.length, y7_1c0, A14_3, s14.2.2.1.length, c14_3, ()) rfl (Sb rfl) (fun _ h => h.to ⟨_, r0, ⟨_, r0, trivial⟩⟩ ⟨m0, trivial⟩)
    rintro ⟨s20, A20_0, n20_0, c20_0, A20_3, n20_3, c20_3, _⟩ e20
    dsimp only at e20 ⊢
    subst e20
    have h := ho20
    refine wc_know (fun _ h => h.lenF m0) (fun e => ?_)
    subst e
    refine wc_know (fun _ h => h.lenO (ms m0)) (fun e => ?_)
    subst e
    refine Wr (D rfl (mv rfl) (D rfl (det_add rfl rfl) (D rfl (ag rfl) (Wn ?_))))
    obtain rfl := si h
    exact pn_some (k14, (s20.1, s20.2.1, s20.2.2, (w64 (s14.2.2.2 + 1))), A20_0, s20.1.length, c20_0, A20_3, s20.2.2.length, c20_3, ()) ⟨nextL g14, Nat.lt_succ_self _⟩ (Sb rfl) (fun _ h => h.to ⟨_, r0, ⟨_, r0, trivial⟩⟩ ⟨m0, trivial⟩)
   ·have h := ifF h cd18
    refine We (Xt (Xt (Xb ?_)))
    obtain rfl := si h
    replace g14 := nextR g14
    subst g14
    exact pn_meetG ((s14.1, s14.2.1, s14.2.2.1), A14_0, s14.1.length, c14_0, A14_3, s14.2.2.1.length, c14_3, ()) rfl (Sb rfl) (fun _ h => h.to ⟨_, r0, ⟨_, r0, trivial⟩⟩ ⟨m0, trivial⟩)
  rintro ⟨s10, A10_0, n10_0, c10_0, A10_3, n10_3, c10_3, _⟩ e10
  dsimp only at e10 ⊢
  subst e10
  have h := ho10
  refine wc_know (fun _ h => h.lenF m0) (fun e => ?_)
  subst e
  refine wc_know (fun _ h => h.lenO (ms m0)) (fun e => ?_)
  subst e
  refine Wq (Wr (D rfl (mv rfl) (D rfl (ag rfl) (Wn (Pt (Wt ?_))))))
  obtain rfl := si h
  refine pn_ret (vs := [_]) rfl ⟨rfl, trivial⟩ ⟨A10_3, s10.2.2.length, c10_3, A10_0, s10.1.length, c10_0, rfl, rfl, rfl⟩ (fun _ h => h.to ⟨_, (rs r0), ⟨_, r0, trivial⟩⟩ ⟨m0, trivial⟩)
def Q_treatymade_Deck_Money (Ba0 : Nat) (r : Int × GDeck) : Value → List Ent → List Fact → Prop := fun v θ κ => ∃ (pA0 : Option Addr), ∃ (pn0 : Nat), ∃ (pc0 : Nat), v = .int .i64 r.1 ∧ θ = [eBlk Ba0 68 [.slice pA0 pn0 pc0, .int .i64 r.2.At]] ∧ κ = [fV (lSlice (lInt .i64)) (.slice pA0 pn0 pc0) r.2.L]
set_option maxHeartbeats 4000000 in
set_option maxRecDepth 100000 in
theorem W_treatymade_Deck_Money (a0 : GDeck) (Ba0 : Nat) (A1 : Option Addr) (n1 : Nat) (c1 : Nat) (r : Int × GDeck) (h : treatymade_Deck_Money a0 = some r) : Spec Try.prog 47 [.pointer (some ⟨Ba0, 0, none⟩)] [eBlk Ba0 68 [.slice A1 n1 c1, .int .i64 a0.At]] [fV (lSlice (lInt .i64)) (.slice A1 n1 c1) a0.L] (Q_treatymade_Deck_Money Ba0 r) := by
 unfold treatymade_Deck_Money at h
 refine spec_of (σ := [(0, _)]) Try.func47 rfl rfl rfl rfl ?_
 intro C
 refine wc_know (fun _ h => h.lenF m0) (fun e => ?_)
 subst e
 refine Wq (Wr (D rfl (ag rfl) (Wn (Pt (Wq (Wr (D rfl (mv rfl) ?_)))))))
 obtain ⟨r1_1, hr1_1, h⟩ := bs h
 refine Ac rfl (act_callS (cap := []) (W_treatymade_Deck_Upto a0 1073741824 Ba0 A1 a0.L.length c1 r1_1 hr1_1) rfl rfl rfl bd20 ⟨_, r0, rfl⟩ ⟨m0, trivial⟩) ?_
 rintro _ _ _ ⟨_, _, ⟨y1_1A0, y1_1n0, y1_1c0, rfl, rfl, rfl⟩, rfl, rfl⟩
 dsimp only [na, ca]
 refine wl_know (fun _ h => h.lenF m0) (fun e => ?_)
 subst e
 refine D rfl (ag rfl) (Wn (Pt (Wt ?_)))
 obtain rfl := si h
 refine pn_ret (vs := [_]) rfl ⟨rfl, trivial⟩ ⟨y1_1A0, r1_1.2.L.length, y1_1c0, rfl, rfl, rfl⟩ (fun _ h => h.to ⟨_, r0, trivial⟩ ⟨m0, trivial⟩)
def Q_treatymade_Deck_Range (Ba0 : Nat) (r : Int × GDeck) : Value → List Ent → List Fact → Prop := fun v θ κ => ∃ (pA0 : Option Addr), ∃ (pn0 : Nat), ∃ (pc0 : Nat), v = .int .i64 r.1 ∧ θ = [eBlk Ba0 68 [.slice pA0 pn0 pc0, .int .i64 r.2.At]] ∧ κ = [fV (lSlice (lInt .i64)) (.slice pA0 pn0 pc0) r.2.L]
set_option maxHeartbeats 4000000 in
set_option maxRecDepth 100000 in
theorem W_treatymade_Deck_Range (a0 : GDeck) (a1 : Int) (a2 : Int) (Ba0 : Nat) (A1 : Option Addr) (n1 : Nat) (c1 : Nat) (r : Int × GDeck) (h : treatymade_Deck_Range a0 a1 a2 = some r) : Spec Try.prog 48 [.pointer (some ⟨Ba0, 0, none⟩), .int .i64 a1, .int .i64 a2] [eBlk Ba0 68 [.slice A1 n1 c1, .int .i64 a0.At]] [fV (lSlice (lInt .i64)) (.slice A1 n1 c1) a0.L] (Q_treatymade_Deck_Range Ba0 r) := by
 unfold treatymade_Deck_Range at h
 refine spec_of (σ := [(0, _), (1, _), (2, _)]) Try.func48 rfl rfl rfl rfl ?_
 intro C
 refine wc_know (fun _ h => h.lenF m0) (fun e => ?_)
 subst e
 refine Wq ?_
 refine Wr (D rfl (ag rfl) (Wn (Pt (Wq (Wr (D rfl (mv rfl) (D rfl (mv rfl) (D rfl (mv rfl) (D rfl (mv rfl) (D rfl (det_sub rfl rfl) (D rfl (det_add rfl rfl) ?_)))))))))))
 obtain ⟨r1_6, hr1_6, h⟩ := bs h
 refine Ac rfl (act_callS (cap := []) (W_treatymade_Deck_Next a0 (w64 ((w64 (a2 - a1)) + 1)) Ba0 A1 a0.L.length c1 r1_6 hr1_6) rfl rfl rfl bd19 ⟨_, r0, rfl⟩ ⟨m0, trivial⟩) ?_
 rintro _ _ _ ⟨_, _, ⟨y1_6A0, y1_6n0, y1_6c0, rfl, rfl, rfl⟩, rfl, rfl⟩
 dsimp only [na, ca]
 refine wl_know (fun _ h => h.lenF m0) (fun e => ?_)
 subst e
 refine D rfl (det_add rfl rfl) (D rfl (ag rfl) (Wn (Pt (Wt ?_))))
 obtain rfl := si h
 refine pn_ret (vs := [_]) rfl ⟨rfl, trivial⟩ ⟨y1_6A0, r1_6.2.L.length, y1_6c0, rfl, rfl, rfl⟩ (fun _ h => h.to ⟨_, r0, trivial⟩ ⟨m0, trivial⟩)
def Q_treatymade_Deck_Treaty (Ba0 : Nat) (r : GTreaty × GDeck) : Value → List Ent → List Fact → Prop := fun v θ κ => ∃ (pA0 : Option Addr), ∃ (pn0 : Nat), ∃ (pc0 : Nat), ∃ (pA1 : Option Addr), ∃ (pn1 : Nat), ∃ (pc1 : Nat), ∃ (pA2 : Option Addr), ∃ (pn2 : Nat), ∃ (pc2 : Nat), ∃ (pA3 : Option Addr), ∃ (pn3 : Nat), ∃ (pc3 : Nat), ∃ (pA4 : Option Addr), ∃ (pn4 : Nat), ∃ (pc4 : Nat), ∃ (pA5 : Option Addr), ∃ (pn5 : Nat), ∃ (pc5 : Nat), v = .agg #[.int .i64 r.1.ID, .int .i64 r.1.Kind, .int .i64 r.1.Period.From, .int .i64 r.1.Period.To, .slice pA0 pn0 pc0, .slice pA1 pn1 pc1, .int .i64 r.1.Risk, .int .i64 r.1.Cession, .int .i64 r.1.Line, .int .i64 r.1.Lines, .int .i64 r.1.Retention, .int .i64 r.1.Limit, .int .i64 r.1.Window, .int .i64 r.1.Deductible, .int .i64 r.1.Aggregate, .int .i64 r.1.Premium, .slice pA2 pn2 pc2, .bool r.1.Timed, .int .i64 r.1.Base, .slice pA3 pn3 pc3, .slice pA4 pn4 pc4] ∧ θ = [eS (lInt .i64) 3 pA0 pn0 pc0 r.1.Perils, eS (lInt .i64) 3 pA1 pn1 pc1 r.1.Areas, eS (lInt .i64) 3 pA2 pn2 pc2 r.1.Reinstatements, eS (lInt .i64) 3 pA3 pn3 pc3 r.1.Inures, eS lGPart 72 pA4 pn4 pc4 r.1.Parts, eBlk Ba0 68 [.slice pA5 pn5 pc5, .int .i64 r.2.At]] ∧ κ = [fV (lSlice (lInt .i64)) (.slice pA5 pn5 pc5) r.2.L]
set_option maxHeartbeats 4000000 in
set_option maxRecDepth 100000 in
theorem W_treatymade_Deck_Treaty (a0 : GDeck) (a1 : Int) (a2 : Int) (Ba0 : Nat) (A1 : Option Addr) (n1 : Nat) (c1 : Nat) (r : GTreaty × GDeck) (h : treatymade_Deck_Treaty a0 a1 a2 = some r) : Spec Try.prog 25 [.pointer (some ⟨Ba0, 0, none⟩), .int .i64 a1, .int .i64 a2] [eBlk Ba0 68 [.slice A1 n1 c1, .int .i64 a0.At]] [fV (lSlice (lInt .i64)) (.slice A1 n1 c1) a0.L] (Q_treatymade_Deck_Treaty Ba0 r) := by
 unfold treatymade_Deck_Treaty at h
 refine spec_of (σ := [(0, _), (1, _), (2, _)]) Try.func25 rfl rfl rfl rfl ?_
 intro C
 refine wc_know (fun _ h => h.lenF m0) (fun e => ?_)
 subst e
 refine Wq (Wr (Ac rfl (act_alloc (cs := [_, _, _, _, _, _, _, _, _, _, _, _, _, _, _, _, _, _, _, _, _]) zr41 rfl) ?_))
 rintro _ _ _ ⟨b0_0, rfl, rfl, rfl⟩
 refine Wn (Pt (Wq (Wr (D rfl (mv rfl) (D rfl (mv rfl) (D rfl (mv rfl) ?_))))))
 obtain ⟨r1_3, hr1_3, h⟩ := bs h
 refine Ac rfl (act_callS (cap := []) (W_treatymade_Deck_Next a0 10 Ba0 A1 a0.L.length c1 r1_3 hr1_3) rfl rfl rfl bd19 ⟨_, (rs r0), rfl⟩ ⟨m0, trivial⟩) ?_
 rintro _ _ _ ⟨_, _, ⟨y1_3A0, y1_3n0, y1_3c0, rfl, rfl, rfl⟩, rfl, rfl⟩
 dsimp only [na, ca]
 refine wl_know (fun _ h => h.lenF m0) (fun e => ?_)
 subst e
 refine D rfl (mv rfl) ?_
 obtain ⟨r1_5, hr1_5, h⟩ := bs h
 refine Ac rfl (act_callS (cap := []) (W_treatymade_Deck_Next r1_3.2 60 Ba0 y1_3A0 r1_3.2.L.length y1_3c0 r1_5 hr1_5) rfl rfl rfl bd19 ⟨_, r0, rfl⟩ ⟨m0, trivial⟩) ?_
 rintro _ _ _ ⟨_, _, ⟨y1_5A0, y1_5n0, y1_5c0, rfl, rfl, rfl⟩, rfl, rfl⟩
 dsimp only [na, ca]
 refine wl_know (fun _ h => h.lenF m0) (fun e => ?_)
 subst e
 refine D rfl (det_add rfl rfl) (D rfl (det_build (cs := [_, _]) pl38 zr38 rfl rfl (by rfl)) (D rfl (mv rfl) ?_))
 obtain ⟨r1_9, hr1_9, h⟩ := bs h
 refine Ac rfl (act_callS (cap := []) (W_treatymade_Deck_subset r1_5.2 0 2 Ba0 y1_5A0 r1_5.2.L.length y1_5c0 r1_9 hr1_9) rfl rfl rfl bd46 ⟨_, r0, rfl⟩ ⟨m0, trivial⟩) ?_
 rintro _ _ _ ⟨_, _, ⟨y1_9A0, y1_9n0, y1_9c0, y1_9A1, y1_9n1, y1_9c1, rfl, rfl, rfl⟩, rfl, rfl⟩
 dsimp only [na, ca]
 refine wl_know (fun _ h => h.lenO m0) (fun e => ?_)
 subst e
 refine wl_know (fun _ h => h.lenF m0) (fun e => ?_)
 subst e
 refine D rfl (mv rfl) ?_
 obtain ⟨r1_11, hr1_11, h⟩ := bs h
 refine Ac rfl (act_callS (cap := []) (W_treatymade_Deck_subset r1_9.2 0 2 Ba0 y1_9A1 r1_9.2.L.length y1_9c1 r1_11 hr1_11) rfl rfl rfl bd46 ⟨_, (rs r0), rfl⟩ ⟨m0, trivial⟩) ?_
 rintro _ _ _ ⟨_, _, ⟨y1_11A0, y1_11n0, y1_11c0, y1_11A1, y1_11n1, y1_11c1, rfl, rfl, rfl⟩, rfl, rfl⟩
 dsimp only [na, ca]
 refine wl_know (fun _ h => h.lenO m0) (fun e => ?_)
 subst e
 refine wl_know (fun _ h => h.lenF m0) (fun e => ?_)
 subst e
 refine D rfl (mv rfl) ?_
 obtain ⟨r1_13, hr1_13, h⟩ := bs h
 refine Ac rfl (act_callS (cap := []) (W_treatymade_Deck_Money r1_11.2 Ba0 y1_11A1 r1_11.2.L.length y1_11c1 r1_13 hr1_13) rfl rfl rfl bd47 ⟨_, (rs r0), rfl⟩ ⟨m0, trivial⟩) ?_
 rintro _ _ _ ⟨_, _, ⟨y1_13A0, y1_13n0, y1_13c0, rfl, rfl, rfl⟩, rfl, rfl⟩
 dsimp only [na, ca]
 refine wl_know (fun _ h => h.lenF m0) (fun e => ?_)
 subst e
 refine D rfl (mv rfl) ?_
 obtain ⟨r1_15, hr1_15, h⟩ := bs h
 refine Ac rfl (act_callS (cap := []) (W_treatymade_Deck_Parts r1_13.2 Ba0 y1_13A0 r1_13.2.L.length y1_13c0 r1_15 hr1_15) rfl rfl rfl bd24 ⟨_, r0, rfl⟩ ⟨m0, trivial⟩) ?_
 rintro _ _ _ ⟨_, _, ⟨y1_15A0, y1_15n0, y1_15c0, y1_15A1, y1_15n1, y1_15c1, rfl, rfl, rfl⟩, rfl, rfl⟩
 dsimp only [na, ca]
 refine wl_know (fun _ h => h.lenO m0) (fun e => ?_)
 subst e
 refine wl_know (fun _ h => h.lenF m0) (fun e => ?_)
 subst e
 refine D rfl (det_build (cs := [_, _, _, _, _, _, _, _, _, _, _, _, _, _, _, _, _, _, _, _, _]) pl41 zr41 rfl rfl (by rfl)) (Ac rfl (act_alloc (cs := [_, _, _, _, _, _, _, _, _, _, _, _, _, _, _, _, _, _, _, _, _]) zr41 rfl) ?_)
 rintro _ _ _ ⟨b1_17, rfl, rfl, rfl⟩
 refine Az rfl (act_store (cells := [_, _, _, _, _, _, _, _, _, _, _, _, _, _, _, _, _, _, _, _, _]) (cs' := [_, _, _, _, _, _, _, _, _, _, _, _, _, _, _, _, _, _, _, _, _]) rfl rfl rfl s0 (by rfl) (of_decide_eq_true rfl) sz41 (On1 rfl)) ?_
 rintro _ _ _ ⟨rfl, rfl⟩
 refine Wn (Pt ?_)
 obtain ⟨q4, h, ho4⟩ := bs h
 refine wc_meetG (G := ((List Int) × Int × Int × Int × Int × Int × Int × Int) × Option Addr × Nat × Nat × Unit) (fun (s4, _, _, _, _) => s4 = q4) (fun (_, _, _, _, _) => [(0, .pointer (some ⟨Ba0, 0, none⟩)), (2, .int .i64 a2), (6, .pointer (some ⟨b0_0, 0, none⟩)), (7, .pointer (some ⟨b1_17, 0, none⟩))]) (fun (s4, A4_0, n4_0, c4_0, _) => [eBlk Ba0 68 [.slice A4_0 n4_0 c4_0, .int .i64 s4.2.1], eBlk b0_0 41 [.int .i64 0, .int .i64 0, .int .i64 0, .int .i64 0, .slice none 0 0, .slice none 0 0, .int .i64 0, .int .i64 0, .int .i64 0, .int .i64 0, .int .i64 0, .int .i64 0, .int .i64 0, .int .i64 0, .int .i64 0, .int .i64 0, .slice none 0 0, .bool false, .int .i64 0, .slice none 0 0, .slice none 0 0], eBlk b1_17 41 [.int .i64 a1, .int .i64 a2, .int .i64 r1_3.1, .int .i64 (w64 (60 + r1_5.1)), .slice y1_9A0 r1_9.1.length y1_9c0, .slice y1_11A0 r1_11.1.length y1_11c0, .int .i64 s4.2.2.1, .int .i64 s4.2.2.2.1, .int .i64 s4.2.2.2.2.1, .int .i64 s4.2.2.2.2.2.1, .int .i64 s4.2.2.2.2.2.2.1, .int .i64 s4.2.2.2.2.2.2.2, .int .i64 0, .int .i64 0, .int .i64 0, .int .i64 r1_13.1, .slice none 0 0, .bool false, .int .i64 0, .slice none 0 0, .slice y1_15A0 r1_15.1.length y1_15c0], eS (lInt .i64) 3 y1_9A0 r1_9.1.length y1_9c0 r1_9.1, eS (lInt .i64) 3 y1_11A0 r1_11.1.length y1_11c0 r1_11.1, eS lGPart 72 y1_15A0 r1_15.1.length y1_15c0 r1_15.1]) (fun (s4, A4_0, n4_0, c4_0, _) => [fV (lSlice (lInt .i64)) (.slice A4_0 n4_0 c4_0) s4.1]) ?_ ?_
 ·refine Wq (Wr (D rfl (mv rfl) (Wn (Pt (Wb (Wq (Wr (D rfl (det_eql rfl rfl) (D rfl (ag rfl) (Wn (Pt ?_)))))))))))
  refine wc_cond rfl (fun cd10 => ?_) (fun cd10 => ?_)
  ·have h := ifT h cd10
   refine Wq (Wr (D rfl (mv rfl) ?_))
   obtain ⟨r5_1, hr5_1, h⟩ := bs h
   refine Ac rfl (act_callS (cap := []) (W_treatymade_Deck_Upto r1_15.2 999999 Ba0 y1_15A1 r1_15.2.L.length y1_15c1 r5_1 hr5_1) rfl rfl rfl bd20 ⟨_, (rs (rs r0)), rfl⟩ ⟨m0, trivial⟩) ?_
   rintro _ _ _ ⟨_, _, ⟨y5_1A0, y5_1n0, y5_1c0, rfl, rfl, rfl⟩, rfl, rfl⟩
   dsimp only [na, ca]
   refine wl_know (fun _ h => h.lenF m0) (fun e => ?_)
   subst e
   refine D rfl (det_add rfl rfl) (D rfl (fd rfl fd41_6 rfl) (Az rfl (act_store (cells := [_]) (cs' := [_, _, _, _, _, _, _, _, _, _, _, _, _, _, _, _, _, _, _, _, _]) rfl rfl rfl (ss s0) (by rfl) (of_decide_eq_true rfl) sz3 (On1 rfl)) ?_))
   rintro _ _ _ ⟨rfl, rfl⟩
   refine Wn (Pt (Wq (Wr (D rfl (mv rfl) ?_))))
   obtain ⟨r6_1, hr6_1, h⟩ := bs h
   refine Ac rfl (act_callS (cap := []) (W_treatymade_Deck_Next r5_1.2 2 Ba0 y5_1A0 r5_1.2.L.length y5_1c0 r6_1 hr6_1) rfl rfl rfl bd19 ⟨_, r0, rfl⟩ ⟨m0, trivial⟩) ?_
   rintro _ _ _ ⟨_, _, ⟨y6_1A0, y6_1n0, y6_1c0, rfl, rfl, rfl⟩, rfl, rfl⟩
   dsimp only [na, ca]
   refine wl_know (fun _ h => h.lenF m0) (fun e => ?_)
   subst e
   refine D rfl (det_eql rfl rfl) (Wn (Pt ?_))
   refine wc_cond rfl (fun cd15 => ?_) (fun cd15 => ?_)
   ·have h := ifT h cd15
    refine Wr (D rfl (mv rfl) ?_)
    obtain ⟨r7_1, hr7_1, h⟩ := bs h
    refine Ac rfl (act_callS (cap := []) (W_treatymade_Deck_Money r6_1.2 Ba0 y6_1A0 r6_1.2.L.length y6_1c0 r7_1 hr7_1) rfl rfl rfl bd47 ⟨_, r0, rfl⟩ ⟨m0, trivial⟩) ?_
    rintro _ _ _ ⟨_, _, ⟨y7_1A0, y7_1n0, y7_1c0, rfl, rfl, rfl⟩, rfl, rfl⟩
    dsimp only [na, ca]
    refine wl_know (fun _ h => h.lenF m0) (fun e => ?_)
    subst e
    refine D rfl (fd rfl fd41_10 rfl) (Az rfl (act_store (cells := [_]) (cs' := [_, _, _, _, _, _, _, _, _, _, _, _, _, _, _, _, _, _, _, _, _]) rfl rfl rfl (ss s0) (by rfl) (of_decide_eq_true rfl) sz3 (On1 rfl)) ?_)
    rintro _ _ _ ⟨rfl, rfl⟩
    refine Wn (Pb ?_)
    obtain rfl := si h
    exact pn_meetG ((r7_1.2.L, r7_1.2.At, 0, (w64 (1 + r5_1.1)), 0, 0, 0, r7_1.1), y7_1A0, r7_1.2.L.length, y7_1c0, ()) rfl (Sb rfl) (fun _ h => h.to ⟨_, r0, ⟨_, (rs (rs (rs (rs r0)))), ⟨_, r0, ⟨_, (rs (rs r0)), ⟨_, (rs r0), ⟨_, r0, trivial⟩⟩⟩⟩⟩⟩ ⟨m0, trivial⟩)
   ·have h := ifF h cd15
    refine Wk (Pb ?_)
    obtain rfl := si h
    exact pn_meetG ((r6_1.2.L, r6_1.2.At, 0, (w64 (1 + r5_1.1)), 0, 0, 0, 0), y6_1A0, r6_1.2.L.length, y6_1c0, ()) rfl (Sb rfl) (fun _ h => h.to ⟨_, r0, ⟨_, (rs (rs (rs (rs r0)))), ⟨_, r0, ⟨_, (rs (rs r0)), ⟨_, (rs r0), ⟨_, r0, trivial⟩⟩⟩⟩⟩⟩ ⟨m0, trivial⟩)
  ·have h := ifF h cd10
   refine Wq (Wr (D rfl (det_eql rfl rfl) (D rfl (ag rfl) (Wn (Pt ?_)))))
   refine wc_cond rfl (fun cd19 => ?_) (fun cd19 => ?_)
   ·have h := ifT h cd19
    refine Wr (D rfl (mv rfl) ?_)
    obtain ⟨r9_1, hr9_1, h⟩ := bs h
    refine Ac rfl (act_callS (cap := []) (W_treatymade_Deck_Upto r1_15.2 1073741823 Ba0 y1_15A1 r1_15.2.L.length y1_15c1 r9_1 hr9_1) rfl rfl rfl bd20 ⟨_, (rs (rs r0)), rfl⟩ ⟨m0, trivial⟩) ?_
    rintro _ _ _ ⟨_, _, ⟨y9_1A0, y9_1n0, y9_1c0, rfl, rfl, rfl⟩, rfl, rfl⟩
    dsimp only [na, ca]
    refine wl_know (fun _ h => h.lenF m0) (fun e => ?_)
    subst e
    refine D rfl (det_add rfl rfl) (D rfl (mv rfl) ?_)
    obtain ⟨r9_4, hr9_4, h⟩ := bs h
    refine Ac rfl (act_callS (cap := []) (W_treatymade_Deck_Range r9_1.2 1 9 Ba0 y9_1A0 r9_1.2.L.length y9_1c0 r9_4 hr9_4) rfl rfl rfl bd48 ⟨_, r0, rfl⟩ ⟨m0, trivial⟩) ?_
    rintro _ _ _ ⟨_, _, ⟨y9_4A0, y9_4n0, y9_4c0, rfl, rfl, rfl⟩, rfl, rfl⟩
    dsimp only [na, ca]
    refine wl_know (fun _ h => h.lenF m0) (fun e => ?_)
    subst e
    refine D rfl (fd rfl fd41_7 rfl) (Az rfl (act_store (cells := [_]) (cs' := [_, _, _, _, _, _, _, _, _, _, _, _, _, _, _, _, _, _, _, _, _]) rfl rfl rfl (ss s0) (by rfl) (of_decide_eq_true rfl) sz3 (On1 rfl)) ?_)
    rintro _ _ _ ⟨rfl, rfl⟩
    refine D rfl (fd rfl fd41_8 rfl) (Az rfl (act_store (cells := [_]) (cs' := [_, _, _, _, _, _, _, _, _, _, _, _, _, _, _, _, _, _, _, _, _]) rfl rfl rfl (ss s0) (by rfl) (of_decide_eq_true rfl) sz3 (On1 rfl)) ?_)
    rintro _ _ _ ⟨rfl, rfl⟩
    refine Wn (Pb ?_)
    obtain rfl := si h
    exact pn_meetG ((r9_4.2.L, r9_4.2.At, 0, 0, (w64 (1 + r9_1.1)), r9_4.1, 0, 0), y9_4A0, r9_4.2.L.length, y9_4c0, ()) rfl (Sb rfl) (fun _ h => h.to ⟨_, r0, ⟨_, (rs (rs (rs (rs r0)))), ⟨_, r0, ⟨_, (rs (rs r0)), ⟨_, (rs r0), ⟨_, r0, trivial⟩⟩⟩⟩⟩⟩ ⟨m0, trivial⟩)
   ·have h := ifF h cd19
    refine Wq (Wr (D rfl (det_eql rfl rfl) (D rfl (ag rfl) (Wn (Pt ?_)))))
    refine wc_cond rfl (fun cd23 => ?_) (fun cd23 => ?_)
    ·have h := ifT h cd23
     refine Wr (D rfl (mv rfl) ?_)
     obtain ⟨r11_1, hr11_1, h⟩ := bs h
     refine Ac rfl (act_callS (cap := []) (W_treatymade_Deck_Range r1_15.2 1 4 Ba0 y1_15A1 r1_15.2.L.length y1_15c1 r11_1 hr11_1) rfl rfl rfl bd48 ⟨_, (rs (rs r0)), rfl⟩ ⟨m0, trivial⟩) ?_
     rintro _ _ _ ⟨_, _, ⟨y11_1A0, y11_1n0, y11_1c0, rfl, rfl, rfl⟩, rfl, rfl⟩
     dsimp only [na, ca]
     refine wl_know (fun _ h => h.lenF m0) (fun e => ?_)
     subst e
     refine D rfl (mv rfl) ?_
     obtain ⟨r11_3, hr11_3, h⟩ := bs h
     refine Ac rfl (act_callS (cap := []) (W_treatymade_Deck_Upto r11_1.2 999999 Ba0 y11_1A0 r11_1.2.L.length y11_1c0 r11_3 hr11_3) rfl rfl rfl bd20 ⟨_, r0, rfl⟩ ⟨m0, trivial⟩) ?_
     rintro _ _ _ ⟨_, _, ⟨y11_3A0, y11_3n0, y11_3c0, rfl, rfl, rfl⟩, rfl, rfl⟩
     dsimp only [na, ca]
     refine wl_know (fun _ h => h.lenF m0) (fun e => ?_)
     subst e
     refine D rfl (det_add rfl rfl) (D rfl (fd rfl fd41_5 rfl) (Az rfl (act_store (cells := [_]) (cs' := [_, _, _, _, _, _, _, _, _, _, _, _, _, _, _, _, _, _, _, _, _]) rfl rfl rfl (ss s0) (by rfl) (of_decide_eq_true rfl) sz3 (On1 rfl)) ?_))
     rintro _ _ _ ⟨rfl, rfl⟩
     refine D rfl (fd rfl fd41_6 rfl) (Az rfl (act_store (cells := [_]) (cs' := [_, _, _, _, _, _, _, _, _, _, _, _, _, _, _, _, _, _, _, _, _]) rfl rfl rfl (ss s0) (by rfl) (of_decide_eq_true rfl) sz3 (On1 rfl)) ?_)
     rintro _ _ _ ⟨rfl, rfl⟩
     refine Wn (Pb ?_)
     obtain rfl := si h
     exact pn_meetG ((r11_3.2.L, r11_3.2.At, r11_1.1, (w64 (1 + r11_3.1)), 0, 0, 0, 0), y11_3A0, r11_3.2.L.length, y11_3c0, ()) rfl (Sb rfl) (fun _ h => h.to ⟨_, r0, ⟨_, (rs (rs (rs (rs r0)))), ⟨_, r0, ⟨_, (rs (rs r0)), ⟨_, (rs r0), ⟨_, r0, trivial⟩⟩⟩⟩⟩⟩ ⟨m0, trivial⟩)
    ·have h := ifF h cd23
     refine Wr (D rfl (mv rfl) ?_)
     obtain ⟨r3_1, hr3_1, h⟩ := bs h
     refine Ac rfl (act_callS (cap := []) (W_treatymade_Deck_Upto r1_15.2 1073741824 Ba0 y1_15A1 r1_15.2.L.length y1_15c1 r3_1 hr3_1) rfl rfl rfl bd20 ⟨_, (rs (rs r0)), rfl⟩ ⟨m0, trivial⟩) ?_
     rintro _ _ _ ⟨_, _, ⟨y3_1A0, y3_1n0, y3_1c0, rfl, rfl, rfl⟩, rfl, rfl⟩
     dsimp only [na, ca]
     refine wl_know (fun _ h => h.lenF m0) (fun e => ?_)
     subst e
     refine D rfl (mv rfl) ?_
     obtain ⟨r3_3, hr3_3, h⟩ := bs h
     refine Ac rfl (act_callS (cap := []) (W_treatymade_Deck_Upto r3_1.2 1073741823 Ba0 y3_1A0 r3_1.2.L.length y3_1c0 r3_3 hr3_3) rfl rfl rfl bd20 ⟨_, r0, rfl⟩ ⟨m0, trivial⟩) ?_
     rintro _ _ _ ⟨_, _, ⟨y3_3A0, y3_3n0, y3_3c0, rfl, rfl, rfl⟩, rfl, rfl⟩
     dsimp only [na, ca]
     refine wl_know (fun _ h => h.lenF m0) (fun e => ?_)
     subst e
     refine D rfl (det_add rfl rfl) (D rfl (fd rfl fd41_9 rfl) (Az rfl (act_store (cells := [_]) (cs' := [_, _, _, _, _, _, _, _, _, _, _, _, _, _, _, _, _, _, _, _, _]) rfl rfl rfl (ss s0) (by rfl) (of_decide_eq_true rfl) sz3 (On1 rfl)) ?_))
     rintro _ _ _ ⟨rfl, rfl⟩
     refine D rfl (fd rfl fd41_10 rfl) (Az rfl (act_store (cells := [_]) (cs' := [_, _, _, _, _, _, _, _, _, _, _, _, _, _, _, _, _, _, _, _, _]) rfl rfl rfl (ss s0) (by rfl) (of_decide_eq_true rfl) sz3 (On1 rfl)) ?_)
     rintro _ _ _ ⟨rfl, rfl⟩
     refine Wn (Pb ?_)
     obtain rfl := si h
     exact pn_meetG ((r3_3.2.L, r3_3.2.At, 0, 0, 0, 0, r3_1.1, (w64 (1 + r3_3.1))), y3_3A0, r3_3.2.L.length, y3_3c0, ()) rfl (Sb rfl) (fun _ h => h.to ⟨_, r0, ⟨_, (rs (rs (rs (rs r0)))), ⟨_, r0, ⟨_, (rs (rs r0)), ⟨_, (rs r0), ⟨_, r0, trivial⟩⟩⟩⟩⟩⟩ ⟨m0, trivial⟩)
 rintro ⟨s4, A4_0, n4_0, c4_0, _⟩ e4
 dsimp only at e4 ⊢
 subst e4
 have h := ho4
 refine wc_know (fun _ h => h.lenF m0) (fun e => ?_)
 subst e
 obtain ⟨q26, h, ho26⟩ := bs h
 refine wc_meetG (G := ((List Int) × Int × Int × Int × (List Int) × Bool) × Option Addr × Nat × Nat × Option Addr × Nat × Nat × Unit) (fun (s26, _, _, _, _, _, _, _) => s26 = q26) (fun (_, _, _, _, _, _, _, _) => [(0, .pointer (some ⟨Ba0, 0, none⟩)), (2, .int .i64 a2), (6, .pointer (some ⟨b0_0, 0, none⟩)), (7, .pointer (some ⟨b1_17, 0, none⟩))]) (fun (s26, A26_0, n26_0, c26_0, A26_3, n26_3, c26_3, _) => [eBlk Ba0 68 [.slice A26_0 n26_0 c26_0, .int .i64 s26.2.1], eBlk b0_0 41 [.int .i64 0, .int .i64 0, .int .i64 0, .int .i64 0, .slice none 0 0, .slice none 0 0, .int .i64 0, .int .i64 0, .int .i64 0, .int .i64 0, .int .i64 0, .int .i64 0, .int .i64 0, .int .i64 0, .int .i64 0, .int .i64 0, .slice none 0 0, .bool false, .int .i64 0, .slice none 0 0, .slice none 0 0], eBlk b1_17 41 [.int .i64 a1, .int .i64 a2, .int .i64 r1_3.1, .int .i64 (w64 (60 + r1_5.1)), .slice y1_9A0 r1_9.1.length y1_9c0, .slice y1_11A0 r1_11.1.length y1_11c0, .int .i64 s4.2.2.1, .int .i64 s4.2.2.2.1, .int .i64 s4.2.2.2.2.1, .int .i64 s4.2.2.2.2.2.1, .int .i64 s4.2.2.2.2.2.2.1, .int .i64 s4.2.2.2.2.2.2.2, .int .i64 0, .int .i64 s26.2.2.1, .int .i64 s26.2.2.2.1, .int .i64 r1_13.1, .slice A26_3 n26_3 c26_3, .bool s26.2.2.2.2.2, .int .i64 0, .slice none 0 0, .slice y1_15A0 r1_15.1.length y1_15c0], eS (lInt .i64) 3 y1_9A0 r1_9.1.length y1_9c0 r1_9.1, eS (lInt .i64) 3 y1_11A0 r1_11.1.length y1_11c0 r1_11.1, eS (lInt .i64) 3 A26_3 n26_3 c26_3 s26.2.2.2.2.1, eS lGPart 72 y1_15A0 r1_15.1.length y1_15c0 r1_15.1]) (fun (s26, A26_0, n26_0, c26_0, _, _, _, _) => [fV (lSlice (lInt .i64)) (.slice A26_0 n26_0 c26_0) s26.1]) ?_ ?_
 ·refine Wq (Wr (D rfl (mv rfl) (D rfl (det_eql rfl rfl) (D rfl (mv rfl) ?_))))
  refine wl_way (decide (a2 = 4)) ((decide (a2 = 4)) || (decide (a2 = 5))) 3 69 (fun hg => ?_) (fun hg => ?_) ?_
  ·have hg12_5 := hg
   refine Gf rfl rfl rfl hg12_5 (Gf rfl rfl rfl hg12_5 (D rfl (det_or_on (r := (decide (a2 = 5))) rfl rfl rfl hg12_5) ?_))
   exact wl_nil (pn_qnE (ext_cons rfl (Ex 3 rfl rfl)) (fun _ h => h))
  ·have hg12_5a := hg
   refine Gn rfl rfl hg12_5a (D rfl (mv rfl) (Gn rfl rfl hg12_5a (D rfl (det_eql rfl rfl) (D rfl (det_or_off rfl rfl rfl hg12_5a) ?_))))
   exact wl_nil (pn_qnE (ext_cons rfl (Ex 3 rfl rfl)) (fun _ h => h))
  refine Wn (Pt ?_)
  refine wc_cond rfl (fun cd29 => ?_) (fun cd29 => ?_)
  ·have h := ifT h cd29
   obtain ⟨q30, h, ho30⟩ := bs h
   refine wc_meetG (G := ((List Int) × Int × Int) × Option Addr × Nat × Nat × Unit) (fun (s30, _, _, _, _) => s30 = q30) (fun (_, _, _, _, _) => [(0, .pointer (some ⟨Ba0, 0, none⟩)), (2, .int .i64 a2), (6, .pointer (some ⟨b0_0, 0, none⟩)), (7, .pointer (some ⟨b1_17, 0, none⟩))]) (fun (s30, A30_0, n30_0, c30_0, _) => [eBlk Ba0 68 [.slice A30_0 n30_0 c30_0, .int .i64 s30.2.1], eBlk b0_0 41 [.int .i64 0, .int .i64 0, .int .i64 0, .int .i64 0, .slice none 0 0, .slice none 0 0, .int .i64 0, .int .i64 0, .int .i64 0, .int .i64 0, .int .i64 0, .int .i64 0, .int .i64 0, .int .i64 0, .int .i64 0, .int .i64 0, .slice none 0 0, .bool false, .int .i64 0, .slice none 0 0, .slice none 0 0], eBlk b1_17 41 [.int .i64 a1, .int .i64 a2, .int .i64 r1_3.1, .int .i64 (w64 (60 + r1_5.1)), .slice y1_9A0 r1_9.1.length y1_9c0, .slice y1_11A0 r1_11.1.length y1_11c0, .int .i64 s4.2.2.1, .int .i64 s4.2.2.2.1, .int .i64 s4.2.2.2.2.1, .int .i64 s4.2.2.2.2.2.1, .int .i64 s4.2.2.2.2.2.2.1, .int .i64 s4.2.2.2.2.2.2.2, .int .i64 0, .int .i64 s30.2.2, .int .i64 0, .int .i64 r1_13.1, .slice none 0 0, .bool false, .int .i64 0, .slice none 0 0, .slice y1_15A0 r1_15.1.length y1_15c0], eS (lInt .i64) 3 y1_9A0 r1_9.1.length y1_9c0 r1_9.1, eS (lInt .i64) 3 y1_11A0 r1_11.1.length y1_11c0 r1_11.1, eS lGPart 72 y1_15A0 r1_15.1.length y1_15c0 r1_15.1]) (fun (s30, A30_0, n30_0, c30_0, _) => [fV (lSlice (lInt .i64)) (.slice A30_0 n30_0 c30_0) s30.1]) ?_ ?_
   ·refine Wq (Wr (D rfl (mv rfl) ?_))
    obtain ⟨r13_1, hr13_1, h⟩ := bs h
    refine Ac rfl (act_callS (cap := []) (W_treatymade_Deck_Next (GDeck.mk s4.1 s4.2.1) 2 Ba0 A4_0 s4.1.length c4_0 r13_1 hr13_1) rfl rfl rfl bd19 ⟨_, r0, rfl⟩ ⟨m0, trivial⟩) ?_
    rintro _ _ _ ⟨_, _, ⟨y13_1A0, y13_1n0, y13_1c0, rfl, rfl, rfl⟩, rfl, rfl⟩
    dsimp only [na, ca]
    refine wl_know (fun _ h => h.lenF m0) (fun e => ?_)
    subst e
    refine D rfl (det_eql rfl rfl) (Wn (Pt ?_))
    refine wc_cond rfl (fun cd33 => ?_) (fun cd33 => ?_)
    ·have h := ifT h cd33
     refine Wr (D rfl (mv rfl) ?_)
     obtain ⟨r14_1, hr14_1, h⟩ := bs h
     refine Ac rfl (act_callS (cap := []) (W_treatymade_Deck_Money r13_1.2 Ba0 y13_1A0 r13_1.2.L.length y13_1c0 r14_1 hr14_1) rfl rfl rfl bd47 ⟨_, r0, rfl⟩ ⟨m0, trivial⟩) ?_
     rintro _ _ _ ⟨_, _, ⟨y14_1A0, y14_1n0, y14_1c0, rfl, rfl, rfl⟩, rfl, rfl⟩
     dsimp only [na, ca]
     refine wl_know (fun _ h => h.lenF m0) (fun e => ?_)
     subst e
     refine D rfl (fd rfl fd41_12 rfl) (Az rfl (act_store (cells := [_]) (cs' := [_, _, _, _, _, _, _, _, _, _, _, _, _, _, _, _, _, _, _, _, _]) rfl rfl rfl (ss (ss s0)) (by rfl) (of_decide_eq_true rfl) sz3 (On1 rfl)) ?_)
     rintro _ _ _ ⟨rfl, rfl⟩
     refine Wn ?_
     obtain rfl := si h
     exact pn_meetG ((r14_1.2.L, r14_1.2.At, r14_1.1), y14_1A0, r14_1.2.L.length, y14_1c0, ()) rfl (Sb rfl) (fun _ h => h.to ⟨_, r0, ⟨_, r0, ⟨_, r0, ⟨_, r0, ⟨_, r0, ⟨_, r0, trivial⟩⟩⟩⟩⟩⟩ ⟨m0, trivial⟩)
    ·have h := ifF h cd33
     refine Wk ?_
     obtain rfl := si h
     exact pn_meetG ((r13_1.2.L, r13_1.2.At, 0), y13_1A0, r13_1.2.L.length, y13_1c0, ()) rfl (Sb rfl) (fun _ h => h.to ⟨_, r0, ⟨_, r0, ⟨_, r0, ⟨_, r0, ⟨_, r0, ⟨_, r0, trivial⟩⟩⟩⟩⟩⟩ ⟨m0, trivial⟩)
   rintro ⟨s30, A30_0, n30_0, c30_0, _⟩ e30
   dsimp only at e30 ⊢
   subst e30
   have h := ho30
   refine wc_know (fun _ h => h.lenF m0) (fun e => ?_)
   subst e
   obtain ⟨q35, h, ho35⟩ := bs h
   refine wc_meetG (G := ((List Int) × Int × Int) × Option Addr × Nat × Nat × Unit) (fun (s35, _, _, _, _) => s35 = q35) (fun (_, _, _, _, _) => [(0, .pointer (some ⟨Ba0, 0, none⟩)), (2, .int .i64 a2), (6, .pointer (some ⟨b0_0, 0, none⟩)), (7, .pointer (some ⟨b1_17, 0, none⟩))]) (fun (s35, A35_0, n35_0, c35_0, _) => [eBlk Ba0 68 [.slice A35_0 n35_0 c35_0, .int .i64 s35.2.1], eBlk b0_0 41 [.int .i64 0, .int .i64 0, .int .i64 0, .int .i64 0, .slice none 0 0, .slice none 0 0, .int .i64 0, .int .i64 0, .int .i64 0, .int .i64 0, .int .i64 0, .int .i64 0, .int .i64 0, .int .i64 0, .int .i64 0, .int .i64 0, .slice none 0 0, .bool false, .int .i64 0, .slice none 0 0, .slice none 0 0], eBlk b1_17 41 [.int .i64 a1, .int .i64 a2, .int .i64 r1_3.1, .int .i64 (w64 (60 + r1_5.1)), .slice y1_9A0 r1_9.1.length y1_9c0, .slice y1_11A0 r1_11.1.length y1_11c0, .int .i64 s4.2.2.1, .int .i64 s4.2.2.2.1, .int .i64 s4.2.2.2.2.1, .int .i64 s4.2.2.2.2.2.1, .int .i64 s4.2.2.2.2.2.2.1, .int .i64 s4.2.2.2.2.2.2.2, .int .i64 0, .int .i64 s30.2.2, .int .i64 s35.2.2, .int .i64 r1_13.1, .slice none 0 0, .bool false, .int .i64 0, .slice none 0 0, .slice y1_15A0 r1_15.1.length y1_15c0], eS (lInt .i64) 3 y1_9A0 r1_9.1.length y1_9c0 r1_9.1, eS (lInt .i64) 3 y1_11A0 r1_11.1.length y1_11c0 r1_11.1, eS lGPart 72 y1_15A0 r1_15.1.length y1_15c0 r1_15.1]) (fun (s35, A35_0, n35_0, c35_0, _) => [fV (lSlice (lInt .i64)) (.slice A35_0 n35_0 c35_0) s35.1]) ?_ ?_
   ·refine Wq (Wr (D rfl (mv rfl) ?_))
    obtain ⟨r15_1, hr15_1, h⟩ := bs h
    refine Ac rfl (act_callS (cap := []) (W_treatymade_Deck_Next (GDeck.mk s30.1 s30.2.1) 2 Ba0 A30_0 s30.1.length c30_0 r15_1 hr15_1) rfl rfl rfl bd19 ⟨_, r0, rfl⟩ ⟨m0, trivial⟩) ?_
    rintro _ _ _ ⟨_, _, ⟨y15_1A0, y15_1n0, y15_1c0, rfl, rfl, rfl⟩, rfl, rfl⟩
    dsimp only [na, ca]
    refine wl_know (fun _ h => h.lenF m0) (fun e => ?_)
    subst e
    refine D rfl (det_eql rfl rfl) (Wn (Pt ?_))
    refine wc_cond rfl (fun cd38 => ?_) (fun cd38 => ?_)
    ·have h := ifT h cd38
     refine Wr (D rfl (mv rfl) ?_)
     obtain ⟨r16_1, hr16_1, h⟩ := bs h
     refine Ac rfl (act_callS (cap := []) (W_treatymade_Deck_Money r15_1.2 Ba0 y15_1A0 r15_1.2.L.length y15_1c0 r16_1 hr16_1) rfl rfl rfl bd47 ⟨_, r0, rfl⟩ ⟨m0, trivial⟩) ?_
     rintro _ _ _ ⟨_, _, ⟨y16_1A0, y16_1n0, y16_1c0, rfl, rfl, rfl⟩, rfl, rfl⟩
     dsimp only [na, ca]
     refine wl_know (fun _ h => h.lenF m0) (fun e => ?_)
     subst e
     refine D rfl (fd rfl fd41_13 rfl) (Az rfl (act_store (cells := [_]) (cs' := [_, _, _, _, _, _, _, _, _, _, _, _, _, _, _, _, _, _, _, _, _]) rfl rfl rfl (ss (ss s0)) (by rfl) (of_decide_eq_true rfl) sz3 (On1 rfl)) ?_)
     rintro _ _ _ ⟨rfl, rfl⟩
     refine Wn ?_
     obtain rfl := si h
     exact pn_meetG ((r16_1.2.L, r16_1.2.At, r16_1.1), y16_1A0, r16_1.2.L.length, y16_1c0, ()) rfl (Sb rfl) (fun _ h => h.to ⟨_, r0, ⟨_, r0, ⟨_, r0, ⟨_, r0, ⟨_, r0, ⟨_, r0, trivial⟩⟩⟩⟩⟩⟩ ⟨m0, trivial⟩)
    ·have h := ifF h cd38
     refine Wk ?_
     obtain rfl := si h
     exact pn_meetG ((r15_1.2.L, r15_1.2.At, 0), y15_1A0, r15_1.2.L.length, y15_1c0, ()) rfl (Sb rfl) (fun _ h => h.to ⟨_, r0, ⟨_, r0, ⟨_, r0, ⟨_, r0, ⟨_, r0, ⟨_, r0, trivial⟩⟩⟩⟩⟩⟩ ⟨m0, trivial⟩)
   rintro ⟨s35, A35_0, n35_0, c35_0, _⟩ e35
   dsimp only at e35 ⊢
   subst e35
   have h := ho35
   refine wc_know (fun _ h => h.lenF m0) (fun e => ?_)
   subst e
   obtain ⟨q40, h, ho40⟩ := bs h
   refine wc_meetG (G := ((List Int) × Int × (List Int)) × Option Addr × Nat × Nat × Option Addr × Nat × Nat × Unit) (fun (s40, _, _, _, _, _, _, _) => s40 = q40) (fun (_, _, _, _, _, _, _, _) => [(0, .pointer (some ⟨Ba0, 0, none⟩)), (2, .int .i64 a2), (6, .pointer (some ⟨b0_0, 0, none⟩)), (7, .pointer (some ⟨b1_17, 0, none⟩))]) (fun (s40, A40_0, n40_0, c40_0, A40_3, n40_3, c40_3, _) => [eBlk Ba0 68 [.slice A40_0 n40_0 c40_0, .int .i64 s40.2.1], eBlk b0_0 41 [.int .i64 0, .int .i64 0, .int .i64 0, .int .i64 0, .slice none 0 0, .slice none 0 0, .int .i64 0, .int .i64 0, .int .i64 0, .int .i64 0, .int .i64 0, .int .i64 0, .int .i64 0, .int .i64 0, .int .i64 0, .int .i64 0, .slice none 0 0, .bool false, .int .i64 0, .slice none 0 0, .slice none 0 0], eBlk b1_17 41 [.int .i64 a1, .int .i64 a2, .int .i64 r1_3.1, .int .i64 (w64 (60 + r1_5.1)), .slice y1_9A0 r1_9.1.length y1_9c0, .slice y1_11A0 r1_11.1.length y1_11c0, .int .i64 s4.2.2.1, .int .i64 s4.2.2.2.1, .int .i64 s4.2.2.2.2.1, .int .i64 s4.2.2.2.2.2.1, .int .i64 s4.2.2.2.2.2.2.1, .int .i64 s4.2.2.2.2.2.2.2, .int .i64 0, .int .i64 s30.2.2, .int .i64 s35.2.2, .int .i64 r1_13.1, .slice A40_3 n40_3 c40_3, .bool false, .int .i64 0, .slice none 0 0, .slice y1_15A0 r1_15.1.length y1_15c0], eS (lInt .i64) 3 y1_9A0 r1_9.1.length y1_9c0 r1_9.1, eS (lInt .i64) 3 y1_11A0 r1_11.1.length y1_11c0 r1_11.1, eS (lInt .i64) 3 A40_3 n40_3 c40_3 s40.2.2, eS lGPart 72 y1_15A0 r1_15.1.length y1_15c0 r1_15.1]) (fun (s40, A40_0, n40_0, c40_0, _, _, _, _) => [fV (lSlice (lInt .i64)) (.slice A40_0 n40_0 c40_0) s40.1]) ?_ ?_
   ·refine Wq (Wr (D rfl (mv rfl) ?_))
    obtain ⟨r17_1, hr17_1, h⟩ := bs h
    refine Ac rfl (act_callS (cap := []) (W_treatymade_Deck_Next (GDeck.mk s35.1 s35.2.1) 4 Ba0 A35_0 s35.1.length c35_0 r17_1 hr17_1) rfl rfl rfl bd19 ⟨_, r0, rfl⟩ ⟨m0, trivial⟩) ?_
    rintro _ _ _ ⟨_, _, ⟨y17_1A0, y17_1n0, y17_1c0, rfl, rfl, rfl⟩, rfl, rfl⟩
    dsimp only [na, ca]
    refine wl_know (fun _ h => h.lenF m0) (fun e => ?_)
    subst e
    refine D rfl (ag rfl) (Wn (Pt (Wb ?_)))
    refine wc_st (fun _ h => h.zeroS (lInt .i64) 3 none) ?_
    obtain ⟨k44, hk44⟩ := loopV_some.1 h
    refine wc_loop (G := Nat × ((List Int) × Int × (List Int) × Int) × Option Addr × Nat × Nat × Option Addr × Nat × Nat × Unit) (fun g => IterN treatymade_Deck_Treaty_l44 g.1 g.2.1 q40) (fun g => g.1) (fun (_, s44, _, _, _, _, _, _, _) => [(0, .pointer (some ⟨Ba0, 0, none⟩)), (2, .int .i64 a2), (6, .pointer (some ⟨b0_0, 0, none⟩)), (7, .pointer (some ⟨b1_17, 0, none⟩)), (8, .int .i64 s44.2.2.2)]) (fun (_, s44, A44_0, n44_0, c44_0, A44_3, n44_3, c44_3, _) => [eBlk Ba0 68 [.slice A44_0 n44_0 c44_0, .int .i64 s44.2.1], eBlk b0_0 41 [.int .i64 0, .int .i64 0, .int .i64 0, .int .i64 0, .slice none 0 0, .slice none 0 0, .int .i64 0, .int .i64 0, .int .i64 0, .int .i64 0, .int .i64 0, .int .i64 0, .int .i64 0, .int .i64 0, .int .i64 0, .int .i64 0, .slice none 0 0, .bool false, .int .i64 0, .slice none 0 0, .slice none 0 0], eBlk b1_17 41 [.int .i64 a1, .int .i64 a2, .int .i64 r1_3.1, .int .i64 (w64 (60 + r1_5.1)), .slice y1_9A0 r1_9.1.length y1_9c0, .slice y1_11A0 r1_11.1.length y1_11c0, .int .i64 s4.2.2.1, .int .i64 s4.2.2.2.1, .int .i64 s4.2.2.2.2.1, .int .i64 s4.2.2.2.2.2.1, .int .i64 s4.2.2.2.2.2.2.1, .int .i64 s4.2.2.2.2.2.2.2, .int .i64 0, .int .i64 s30.2.2, .int .i64 s35.2.2, .int .i64 r1_13.1, .slice A44_3 n44_3 c44_3, .bool false, .int .i64 0, .slice none 0 0, .slice y1_15A0 r1_15.1.length y1_15c0], eS (lInt .i64) 3 y1_9A0 r1_9.1.length y1_9c0 r1_9.1, eS (lInt .i64) 3 y1_11A0 r1_11.1.length y1_11c0 r1_11.1, eS (lInt .i64) 3 A44_3 n44_3 c44_3 s44.2.2.1, eS lGPart 72 y1_15A0 r1_15.1.length y1_15c0 r1_15.1]) (fun (_, s44, A44_0, n44_0, c44_0, _, _, _, _) => [fV (lSlice (lInt .i64)) (.slice A44_0 n44_0 c44_0) s44.1]) (k44, (r17_1.2.L, r17_1.2.At, [], r17_1.1), y17_1A0, r17_1.2.L.length, y17_1c0, none, 0, 0, ()) hk44 (Sb rfl) (fun _ h => h.to ⟨_, (rs r0), ⟨_, (rs r0), ⟨_, (rs r0), ⟨_, (rs r0), ⟨_, (rs r0), ⟨_, r0, ⟨_, r0, trivial⟩⟩⟩⟩⟩⟩⟩ ⟨m0, trivial⟩) ?_
    rintro ⟨k44, s44, A44_0, n44_0, c44_0, A44_3, n44_3, c44_3, _⟩ hI
    obtain ⟨k44, rfl, q44, h, g44⟩ := IterN.pos hI
    dsimp only at h ⊢
    unfold treatymade_Deck_Treaty_l44 at h
    refine wc_know (fun _ h => h.lenF m0) (fun e => ?_)
    subst e
    refine wc_know (fun _ h => h.lenO (ms (ms (ms (ms (ms m0)))))) (fun e => ?_)
    subst e
    refine Wq (Wq (Wr (D rfl (mv rfl) (D rfl (det_gtr rfl rfl) (Wn (Pt ?_))))))
    refine wc_cond rfl (fun cd48 => ?_) (fun cd48 => ?_)
    ·have h := ifT h cd48
     refine Wk (Pt (Wq (Wb ?_)))
     refine dx_regionZ (Z := St C [_, _, _, _, _, _] [_]) 5 [[], [0], [], [2], [2, 3], [0, 1, 2, 3, 4], [0, 1, 2, 3, 4, 5], [0, 1, 2, 3, 4, 5, 6]] mixed (ord := (.det 0 (.det 1 (.det 2 (.alt 3 (.alt 4 .done .dead) .dead))))) (by kernel_rfl) (fun _ h => h.to ⟨_, (rs r0), ⟨_, (rs r0), ⟨_, (rs r0), ⟨_, (rs r0), ⟨_, (rs r0), ⟨_, (rs r0), trivial⟩⟩⟩⟩⟩⟩ ⟨m0, trivial⟩) ?_
     refine Hd rfl rfl rfl (fd rfl fd41_15 rfl) (Hd rfl rfl rfl (ld rfl (ms m0) (by rfl) na22 us22) (Hd rfl rfl rfl (mv rfl) ?_))
     obtain ⟨r20_3, hr20_3, h⟩ := bs h
     refine hx_mut rfl rfl rfl (act_callS (cap := []) (W_treatymade_Deck_Upto (GDeck.mk s44.1 s44.2.1) 2000000 Ba0 A44_0 s44.1.length c44_0 r20_3 hr20_3) rfl rfl rfl bd20 ⟨_, r0, rfl⟩ ⟨m0, trivial⟩) rfl (by rintro _ _ _ ⟨_, _, ⟨y20_3A0, y20_3n0, y20_3c0, rfl, rfl, rfl⟩, rfl, rfl⟩ w hs; exact hs.to ⟨_, (rs r0), ⟨_, (rs r0), ⟨_, (rs r0), ⟨_, (rs r0), ⟨_, (rs r0), ⟨_, (rs r0), trivial⟩⟩⟩⟩⟩⟩ ⟨(ms m0), trivial⟩) ?_
     rintro _ _ _ ⟨_, _, ⟨y20_3A0, y20_3n0, y20_3c0, rfl, rfl, rfl⟩, rfl, rfl⟩
     dsimp only [na, ca]
     refine hx_mut rfl rfl rfl (act_litS (lInt .i64) (vs := [_]) (cs := [_]) [r20_3.1] un22 in3 rfl rfl rfl rfl rfl ⟨rfl, trivial⟩ (by rfl) rfl (litR_flat rfl)) rfl (by rintro _ _ _ ⟨A20_4, rfl, rfl, rfl⟩ w hs; exact hs.to ⟨_, (rs (rs r0)), ⟨_, (rs (rs r0)), ⟨_, (rs (rs r0)), ⟨_, (rs (rs r0)), ⟨_, (rs (rs r0)), ⟨_, (rs (rs r0)), trivial⟩⟩⟩⟩⟩⟩ ⟨(ms m0), trivial⟩) ?_
     rintro _ _ _ ⟨A20_4, rfl, rfl, rfl⟩
     refine hx_end ?_
     refine wl_know (fun _ h => h.lenF m0) (fun e => ?_)
     subst e
     obtain ⟨k20_5, h⟩ := chk_some h
     refine Ac rfl (act_appendS (L := (lInt .i64)) rfl rfl (ss (ss (ss (ss (ss (ss s0)))))) (src_O m0) un22 in3 rfl rfl rfl k20_5) ?_
     rintro _ _ _ ⟨A20_5, c20_5, rfl, rfl, rfl⟩
     refine D rfl (fd rfl fd41_15 rfl) (Az rfl (act_store (cells := [_]) (cs' := [_, _, _, _, _, _, _, _, _, _, _, _, _, _, _, _, _, _, _, _, _]) rfl rfl rfl (ss (ss (ss s0))) (by rfl) (of_decide_eq_true rfl) sz22 (On1 rfl)) ?_)
     rintro _ _ _ ⟨rfl, rfl⟩
     refine Wn (Pb (Pt (Wr (D rfl (mv rfl) (D rfl (det_sub rfl rfl) (D rfl (ag rfl) (Wn ?_)))))))
     obtain rfl := si h
     exact pn_some (k44, (r20_3.2.L, r20_3.2.At, (s44.2.2.1 ++ [r20_3.1]), (w64 (s44.2.2.2 - 1))), y20_3A0, r20_3.2.L.length, y20_3c0, A20_5, (s44.2.2.1 ++ [r20_3.1]).length, c20_5, ()) ⟨nextL g44, Nat.lt_succ_self _⟩ (Sb rfl) (fun _ h => h.to ⟨_, (rs r0), ⟨_, (rs r0), ⟨_, (rs r0), ⟨_, (rs r0), ⟨_, (rs r0), ⟨_, (rs r0), ⟨_, (rs r0), trivial⟩⟩⟩⟩⟩⟩⟩ ⟨m0, trivial⟩)
    ·have h := ifF h cd48
     refine We (Xt (Xt (Xb ?_)))
     obtain rfl := si h
     replace g44 := nextR g44
     subst g44
     exact pn_meetG ((s44.1, s44.2.1, s44.2.2.1), A44_0, s44.1.length, c44_0, A44_3, s44.2.2.1.length, c44_3, ()) rfl (Sb rfl) (fun _ h => h.to ⟨_, r0, ⟨_, r0, ⟨_, r0, ⟨_, r0, ⟨_, r0, ⟨_, r0, ⟨_, r0, trivial⟩⟩⟩⟩⟩⟩⟩ ⟨m0, trivial⟩)
   rintro ⟨s40, A40_0, n40_0, c40_0, A40_3, n40_3, c40_3, _⟩ e40
   dsimp only at e40 ⊢
   subst e40
   have h := ho40
   refine wc_know (fun _ h => h.lenF m0) (fun e => ?_)
   subst e
   refine wc_know (fun _ h => h.lenO (ms (ms (ms (ms (ms m0)))))) (fun e => ?_)
   subst e
   refine Wr (D rfl (fd rfl fd41_15 rfl) (D rfl (ld rfl (ms (ms m0)) (by rfl) na22 us22) (D rfl (det_len rfl un22) (D rfl (det_gtr rfl rfl) (D rfl (mv rfl) ?_)))))
   rcases Bool.eq_false_or_eq_true (decide (0 < (s40.2.2.length : Int))) with hg21_f5 | hg21_f5
   ·have h := ifT h hg21_f5
    refine Gn rfl rfl hg21_f5 (D rfl (mv rfl) (Gn rfl rfl hg21_f5 ?_))
    obtain ⟨r21_6, hr21_6, h⟩ := bs h
    refine Ac rfl (act_callS (cap := []) (W_treatymade_Deck_Next (GDeck.mk s40.1 s40.2.1) 2 Ba0 A40_0 s40.1.length c40_0 r21_6 hr21_6) rfl rfl rfl bd19 ⟨_, r0, rfl⟩ ⟨m0, trivial⟩) ?_
    rintro _ _ _ ⟨_, _, ⟨y21_6A0, y21_6n0, y21_6c0, rfl, rfl, rfl⟩, rfl, rfl⟩
    dsimp only [na, ca]
    refine wl_know (fun _ h => h.lenF m0) (fun e => ?_)
    subst e
    refine Gn rfl rfl hg21_f5 (D rfl (det_eql rfl rfl) (D rfl (det_pick_on rfl hg21_f5 rfl rfl) (D rfl (fd rfl fd41_16 rfl) (Az rfl (act_store (cells := [_]) (cs' := [_, _, _, _, _, _, _, _, _, _, _, _, _, _, _, _, _, _, _, _, _]) rfl rfl rfl (ss (ss s0)) (by rfl) (of_decide_eq_true rfl) sz4 (On1 rfl)) ?_))))
    rintro _ _ _ ⟨rfl, rfl⟩
    refine Wn ?_
    obtain rfl := si h
    exact pn_meetG ((r21_6.2.L, r21_6.2.At, s30.2.2, s35.2.2, s40.2.2, (decide (r21_6.1 = 1))), y21_6A0, r21_6.2.L.length, y21_6c0, A40_3, s40.2.2.length, c40_3, ()) rfl (Sb rfl) (fun _ h => h.to ⟨_, r0, ⟨_, r0, ⟨_, r0, ⟨_, r0, ⟨_, r0, ⟨_, r0, ⟨_, r0, trivial⟩⟩⟩⟩⟩⟩⟩ ⟨m0, trivial⟩)
   ·have h := ifF h hg21_f5
    refine Gf rfl rfl rfl hg21_f5 (Gf rfl rfl rfl hg21_f5 (Gf rfl rfl rfl hg21_f5 (D rfl (det_pick_off rfl hg21_f5 rfl rfl) (D rfl (fd rfl fd41_16 rfl) (Az rfl (act_store (cells := [_]) (cs' := [_, _, _, _, _, _, _, _, _, _, _, _, _, _, _, _, _, _, _, _, _]) rfl rfl rfl (ss (ss s0)) (by rfl) (of_decide_eq_true rfl) sz4 (On1 rfl)) ?_)))))
    rintro _ _ _ ⟨rfl, rfl⟩
    refine Wn ?_
    obtain rfl := si h
    exact pn_meetG ((s40.1, s40.2.1, s30.2.2, s35.2.2, s40.2.2, false), A40_0, s40.1.length, c40_0, A40_3, s40.2.2.length, c40_3, ()) rfl (Sb rfl) (fun _ h => h.to ⟨_, r0, ⟨_, r0, ⟨_, r0, ⟨_, r0, ⟨_, r0, ⟨_, r0, ⟨_, r0, trivial⟩⟩⟩⟩⟩⟩⟩ ⟨m0, trivial⟩)
  ·have h := ifF h cd29
   refine Wk ?_
   refine pn_st (fun _ h => h.zeroS (lInt .i64) 3 none) ?_
   obtain rfl := si h
   exact pn_meetG ((s4.1, s4.2.1, 0, 0, [], false), A4_0, s4.1.length, c4_0, none, 0, 0, ()) rfl (Sb rfl) (fun _ h => h.to ⟨_, (rs r0), ⟨_, (rs r0), ⟨_, (rs r0), ⟨_, (rs r0), ⟨_, (rs r0), ⟨_, r0, ⟨_, r0, trivial⟩⟩⟩⟩⟩⟩⟩ ⟨m0, trivial⟩)
 rintro ⟨s26, A26_0, n26_0, c26_0, A26_3, n26_3, c26_3, _⟩ e26
 dsimp only at e26 ⊢
 subst e26
 have h := ho26
 refine wc_know (fun _ h => h.lenF m0) (fun e => ?_)
 subst e
 refine wc_know (fun _ h => h.lenO (ms (ms (ms (ms (ms m0)))))) (fun e => ?_)
 subst e
 obtain ⟨q55, h, ho55⟩ := bs h
 refine wc_meetG (G := ((List Int) × Int × Int) × Option Addr × Nat × Nat × Unit) (fun (s55, _, _, _, _) => s55 = q55) (fun (_, _, _, _, _) => [(0, .pointer (some ⟨Ba0, 0, none⟩)), (2, .int .i64 a2), (6, .pointer (some ⟨b0_0, 0, none⟩)), (7, .pointer (some ⟨b1_17, 0, none⟩))]) (fun (s55, A55_0, n55_0, c55_0, _) => [eBlk Ba0 68 [.slice A55_0 n55_0 c55_0, .int .i64 s55.2.1], eBlk b0_0 41 [.int .i64 0, .int .i64 0, .int .i64 0, .int .i64 0, .slice none 0 0, .slice none 0 0, .int .i64 0, .int .i64 0, .int .i64 0, .int .i64 0, .int .i64 0, .int .i64 0, .int .i64 0, .int .i64 0, .int .i64 0, .int .i64 0, .slice none 0 0, .bool false, .int .i64 0, .slice none 0 0, .slice none 0 0], eBlk b1_17 41 [.int .i64 a1, .int .i64 a2, .int .i64 r1_3.1, .int .i64 (w64 (60 + r1_5.1)), .slice y1_9A0 r1_9.1.length y1_9c0, .slice y1_11A0 r1_11.1.length y1_11c0, .int .i64 s4.2.2.1, .int .i64 s4.2.2.2.1, .int .i64 s4.2.2.2.2.1, .int .i64 s4.2.2.2.2.2.1, .int .i64 s4.2.2.2.2.2.2.1, .int .i64 s4.2.2.2.2.2.2.2, .int .i64 0, .int .i64 s26.2.2.1, .int .i64 s26.2.2.2.1, .int .i64 r1_13.1, .slice A26_3 s26.2.2.2.2.1.length c26_3, .bool s26.2.2.2.2.2, .int .i64 s55.2.2, .slice none 0 0, .slice y1_15A0 r1_15.1.length y1_15c0], eS (lInt .i64) 3 y1_9A0 r1_9.1.length y1_9c0 r1_9.1, eS (lInt .i64) 3 y1_11A0 r1_11.1.length y1_11c0 r1_11.1, eS (lInt .i64) 3 A26_3 s26.2.2.2.2.1.length c26_3 s26.2.2.2.2.1, eS lGPart 72 y1_15A0 r1_15.1.length y1_15c0 r1_15.1]) (fun (s55, A55_0, n55_0, c55_0, _) => [fV (lSlice (lInt .i64)) (.slice A55_0 n55_0 c55_0) s55.1]) ?_ ?_
 ·obtain ⟨q56, h, ho56⟩ := bs h
  refine wc_meetG (G := ((List Int) × Int × Bool) × Option Addr × Nat × Nat × Unit) (fun (s56, _, _, _, _) => s56 = q56) (fun (s56, _, _, _, _) => [(0, .pointer (some ⟨Ba0, 0, none⟩)), (2, .int .i64 a2), (6, .pointer (some ⟨b0_0, 0, none⟩)), (7, .pointer (some ⟨b1_17, 0, none⟩)), (111, .bool s56.2.2)]) (fun (s56, A56_0, n56_0, c56_0, _) => [eBlk Ba0 68 [.slice A56_0 n56_0 c56_0, .int .i64 s56.2.1], eBlk b0_0 41 [.int .i64 0, .int .i64 0, .int .i64 0, .int .i64 0, .slice none 0 0, .slice none 0 0, .int .i64 0, .int .i64 0, .int .i64 0, .int .i64 0, .int .i64 0, .int .i64 0, .int .i64 0, .int .i64 0, .int .i64 0, .int .i64 0, .slice none 0 0, .bool false, .int .i64 0, .slice none 0 0, .slice none 0 0], eBlk b1_17 41 [.int .i64 a1, .int .i64 a2, .int .i64 r1_3.1, .int .i64 (w64 (60 + r1_5.1)), .slice y1_9A0 r1_9.1.length y1_9c0, .slice y1_11A0 r1_11.1.length y1_11c0, .int .i64 s4.2.2.1, .int .i64 s4.2.2.2.1, .int .i64 s4.2.2.2.2.1, .int .i64 s4.2.2.2.2.2.1, .int .i64 s4.2.2.2.2.2.2.1, .int .i64 s4.2.2.2.2.2.2.2, .int .i64 0, .int .i64 s26.2.2.1, .int .i64 s26.2.2.2.1, .int .i64 r1_13.1, .slice A26_3 s26.2.2.2.2.1.length c26_3, .bool s26.2.2.2.2.2, .int .i64 0, .slice none 0 0, .slice y1_15A0 r1_15.1.length y1_15c0], eS (lInt .i64) 3 y1_9A0 r1_9.1.length y1_9c0 r1_9.1, eS (lInt .i64) 3 y1_11A0 r1_11.1.length y1_11c0 r1_11.1, eS (lInt .i64) 3 A26_3 s26.2.2.2.2.1.length c26_3 s26.2.2.2.2.1, eS lGPart 72 y1_15A0 r1_15.1.length y1_15c0 r1_15.1]) (fun (s56, A56_0, n56_0, c56_0, _) => [fV (lSlice (lInt .i64)) (.slice A56_0 n56_0 c56_0) s56.1]) ?_ ?_
  ·refine Wr (D rfl (mv rfl) (D rfl (det_eql rfl rfl) (D rfl (mv rfl) ?_)))
   rcases Bool.eq_false_or_eq_true (decide (a2 = 4)) with hg22_f3 | hg22_f3
   ·have h := ifT h hg22_f3
    refine Gn rfl rfl hg22_f3 (D rfl (mv rfl) (Gn rfl rfl hg22_f3 ?_))
    obtain ⟨r22_4, hr22_4, h⟩ := bs h
    refine Ac rfl (act_callS (cap := []) (W_treatymade_Deck_Next (GDeck.mk s26.1 s26.2.1) 2 Ba0 A26_0 s26.1.length c26_0 r22_4 hr22_4) rfl rfl rfl bd19 ⟨_, r0, rfl⟩ ⟨m0, trivial⟩) ?_
    rintro _ _ _ ⟨_, _, ⟨y22_4A0, y22_4n0, y22_4c0, rfl, rfl, rfl⟩, rfl, rfl⟩
    dsimp only [na, ca]
    refine wl_know (fun _ h => h.lenF m0) (fun e => ?_)
    subst e
    refine Gn rfl rfl hg22_f3 (D rfl (det_eql rfl rfl) (D rfl (det_pick_on rfl hg22_f3 rfl rfl) (Wn ?_)))
    obtain rfl := si h
    exact pn_meetG ((r22_4.2.L, r22_4.2.At, (decide (r22_4.1 = 1))), y22_4A0, r22_4.2.L.length, y22_4c0, ()) rfl (Sb rfl) (fun _ h => h.to ⟨_, r0, ⟨_, r0, ⟨_, r0, ⟨_, r0, ⟨_, r0, ⟨_, r0, ⟨_, r0, trivial⟩⟩⟩⟩⟩⟩⟩ ⟨m0, trivial⟩)
   ·have h := ifF h hg22_f3
    refine Gf rfl rfl rfl hg22_f3 (Gf rfl rfl rfl hg22_f3 (Gf rfl rfl rfl hg22_f3 (D rfl (det_pick_off rfl hg22_f3 rfl rfl) (Wn ?_))))
    obtain rfl := si h
    exact pn_meetG ((s26.1, s26.2.1, false), A26_0, s26.1.length, c26_0, ()) rfl (Sb rfl) (fun _ h => h.to ⟨_, r0, ⟨_, r0, ⟨_, r0, ⟨_, r0, ⟨_, r0, ⟨_, r0, ⟨_, r0, trivial⟩⟩⟩⟩⟩⟩⟩ ⟨m0, trivial⟩)
  rintro ⟨s56, A56_0, n56_0, c56_0, _⟩ e56
  dsimp only at e56 ⊢
  subst e56
  have h := ho56
  refine wc_know (fun _ h => h.lenF m0) (fun e => ?_)
  subst e
  refine wc_cond rfl (fun cd58 => ?_) (fun cd58 => ?_)
  ·have h := ifT h cd58
   refine Wr (D rfl (mv rfl) ?_)
   obtain ⟨r23_1, hr23_1, h⟩ := bs h
   refine Ac rfl (act_callS (cap := []) (W_treatymade_Deck_Upto (GDeck.mk s56.1 s56.2.1) 1000 Ba0 A56_0 s56.1.length c56_0 r23_1 hr23_1) rfl rfl rfl bd20 ⟨_, r0, rfl⟩ ⟨m0, trivial⟩) ?_
   rintro _ _ _ ⟨_, _, ⟨y23_1A0, y23_1n0, y23_1c0, rfl, rfl, rfl⟩, rfl, rfl⟩
   dsimp only [na, ca]
   refine wl_know (fun _ h => h.lenF m0) (fun e => ?_)
   subst e
   refine D rfl (det_add rfl rfl) (D rfl (fd rfl fd41_17 rfl) (Az rfl (act_store (cells := [_]) (cs' := [_, _, _, _, _, _, _, _, _, _, _, _, _, _, _, _, _, _, _, _, _]) rfl rfl rfl (ss (ss s0)) (by rfl) (of_decide_eq_true rfl) sz3 (On1 rfl)) ?_))
   rintro _ _ _ ⟨rfl, rfl⟩
   refine Wn ?_
   obtain rfl := si h
   exact pn_meetG ((r23_1.2.L, r23_1.2.At, (w64 (1 + r23_1.1))), y23_1A0, r23_1.2.L.length, y23_1c0, ()) rfl (Sb rfl) (fun _ h => h.to ⟨_, r0, ⟨_, r0, ⟨_, r0, ⟨_, r0, ⟨_, r0, ⟨_, r0, ⟨_, r0, trivial⟩⟩⟩⟩⟩⟩⟩ ⟨m0, trivial⟩)
  ·have h := ifF h cd58
   refine Wk ?_
   obtain rfl := si h
   exact pn_meetG ((s56.1, s56.2.1, 0), A56_0, s56.1.length, c56_0, ()) rfl (Sb rfl) (fun _ h => h.to ⟨_, r0, ⟨_, r0, ⟨_, r0, ⟨_, r0, ⟨_, r0, ⟨_, r0, ⟨_, r0, trivial⟩⟩⟩⟩⟩⟩⟩ ⟨m0, trivial⟩)
 rintro ⟨s55, A55_0, n55_0, c55_0, _⟩ e55
 dsimp only at e55 ⊢
 subst e55
 have h := ho55
 refine wc_know (fun _ h => h.lenF m0) (fun e => ?_)
 subst e
 obtain ⟨q60, h, ho60⟩ := bs h
 refine wc_meetG (G := ((List Int) × Int × Int) × Option Addr × Nat × Nat × Unit) (fun (s60, _, _, _, _) => s60 = q60) (fun (_, _, _, _, _) => [(6, .pointer (some ⟨b0_0, 0, none⟩)), (7, .pointer (some ⟨b1_17, 0, none⟩))]) (fun (s60, A60_0, n60_0, c60_0, _) => [eBlk Ba0 68 [.slice A60_0 n60_0 c60_0, .int .i64 s60.2.1], eBlk b0_0 41 [.int .i64 0, .int .i64 0, .int .i64 0, .int .i64 0, .slice none 0 0, .slice none 0 0, .int .i64 0, .int .i64 0, .int .i64 0, .int .i64 0, .int .i64 0, .int .i64 0, .int .i64 0, .int .i64 0, .int .i64 0, .int .i64 0, .slice none 0 0, .bool false, .int .i64 0, .slice none 0 0, .slice none 0 0], eBlk b1_17 41 [.int .i64 a1, .int .i64 a2, .int .i64 r1_3.1, .int .i64 (w64 (60 + r1_5.1)), .slice y1_9A0 r1_9.1.length y1_9c0, .slice y1_11A0 r1_11.1.length y1_11c0, .int .i64 s4.2.2.1, .int .i64 s4.2.2.2.1, .int .i64 s4.2.2.2.2.1, .int .i64 s4.2.2.2.2.2.1, .int .i64 s4.2.2.2.2.2.2.1, .int .i64 s4.2.2.2.2.2.2.2, .int .i64 s60.2.2, .int .i64 s26.2.2.1, .int .i64 s26.2.2.2.1, .int .i64 r1_13.1, .slice A26_3 s26.2.2.2.2.1.length c26_3, .bool s26.2.2.2.2.2, .int .i64 s55.2.2, .slice none 0 0, .slice y1_15A0 r1_15.1.length y1_15c0], eS (lInt .i64) 3 y1_9A0 r1_9.1.length y1_9c0 r1_9.1, eS (lInt .i64) 3 y1_11A0 r1_11.1.length y1_11c0 r1_11.1, eS (lInt .i64) 3 A26_3 s26.2.2.2.2.1.length c26_3 s26.2.2.2.2.1, eS lGPart 72 y1_15A0 r1_15.1.length y1_15c0 r1_15.1]) (fun (s60, A60_0, n60_0, c60_0, _) => [fV (lSlice (lInt .i64)) (.slice A60_0 n60_0 c60_0) s60.1]) ?_ ?_
 ·refine Wq (Wr (D rfl (mv rfl) (D rfl (det_eql rfl rfl) (Wn (Pt ?_)))))
  refine wc_cond rfl (fun cd63 => ?_) (fun cd63 => ?_)
  ·have h := ifT h cd63
   refine Wr (D rfl (mv rfl) ?_)
   obtain ⟨r25_1, hr25_1, h⟩ := bs h
   refine Ac rfl (act_callS (cap := []) (W_treatymade_Deck_Range (GDeck.mk s55.1 s55.2.1) 1 30 Ba0 A55_0 s55.1.length c55_0 r25_1 hr25_1) rfl rfl rfl bd48 ⟨_, r0, rfl⟩ ⟨m0, trivial⟩) ?_
   rintro _ _ _ ⟨_, _, ⟨y25_1A0, y25_1n0, y25_1c0, rfl, rfl, rfl⟩, rfl, rfl⟩
   dsimp only [na, ca]
   refine wl_know (fun _ h => h.lenF m0) (fun e => ?_)
   subst e
   refine D rfl (fd rfl fd41_11 rfl) (Az rfl (act_store (cells := [_]) (cs' := [_, _, _, _, _, _, _, _, _, _, _, _, _, _, _, _, _, _, _, _, _]) rfl rfl rfl (ss (ss s0)) (by rfl) (of_decide_eq_true rfl) sz3 (On1 rfl)) ?_)
   rintro _ _ _ ⟨rfl, rfl⟩
   refine Wn ?_
   obtain rfl := si h
   exact pn_meetG ((r25_1.2.L, r25_1.2.At, r25_1.1), y25_1A0, r25_1.2.L.length, y25_1c0, ()) rfl (Sb rfl) (fun _ h => h.to ⟨_, r0, ⟨_, r0, ⟨_, r0, ⟨_, r0, ⟨_, r0, ⟨_, r0, ⟨_, r0, trivial⟩⟩⟩⟩⟩⟩⟩ ⟨m0, trivial⟩)
  ·have h := ifF h cd63
   refine Wk ?_
   obtain rfl := si h
   exact pn_meetG ((s55.1, s55.2.1, 0), A55_0, s55.1.length, c55_0, ()) rfl (Sb rfl) (fun _ h => h.to ⟨_, r0, ⟨_, r0, ⟨_, r0, ⟨_, r0, ⟨_, r0, ⟨_, r0, ⟨_, r0, trivial⟩⟩⟩⟩⟩⟩⟩ ⟨m0, trivial⟩)
 rintro ⟨s60, A60_0, n60_0, c60_0, _⟩ e60
 dsimp only at e60 ⊢
 subst e60
 have h := ho60
 refine wc_know (fun _ h => h.lenF m0) (fun e => ?_)
 subst e
 refine Wq (Wr (D rfl (det_loadN (cells := [_, _, _, _, _, _, _, _, _, _, _, _, _, _, _, _, _, _, _, _, _]) rfl (ms (ms m0)) (by rfl) ag41 sz41) (Az rfl (act_store (cells := [_, _, _, _, _, _, _, _, _, _, _, _, _, _, _, _, _, _, _, _, _]) (cs' := [_, _, _, _, _, _, _, _, _, _, _, _, _, _, _, _, _, _, _, _, _]) rfl rfl rfl (ss s0) (by rfl) (of_decide_eq_true rfl) sz41 (On1 rfl)) ?_)))
 rintro _ _ _ ⟨rfl, rfl⟩
 refine Wn (Pt (Wt ?_))
 refine pn_st (fun _ h => h.zeroS (lInt .i64) 3 none) ?_
 obtain rfl := si h
 refine pn_ret (vs := [_]) rfl ⟨⟨_, _, [_, _, _, _, _, _, _, _, _, _, _, _, _, _, _, _, _, _, _, _, _], rfl, (ms (ms m0)), .inl ⟨ag41, sz41, rfl⟩⟩, trivial⟩ ⟨y1_9A0, r1_9.1.length, y1_9c0, y1_11A0, r1_11.1.length, y1_11c0, A26_3, s26.2.2.2.2.1.length, c26_3, none, 0, 0, y1_15A0, r1_15.1.length, y1_15c0, A60_0, s60.1.length, c60_0, rfl, rfl, rfl⟩ (fun _ h => h.to ⟨_, (rs (rs (rs (rs r0)))), ⟨_, (rs (rs (rs (rs r0)))), ⟨_, (rs (rs (rs (rs r0)))), ⟨_, r0, ⟨_, (rs (rs (rs r0))), ⟨_, r0, trivial⟩⟩⟩⟩⟩⟩ ⟨m0, trivial⟩)
def Q_treatyref01_PeriodValid (r : Bool) : Value → List Ent → List Fact → Prop := fun v θ κ => v = .bool r ∧ θ = [] ∧ κ = []
theorem plains_treatyref01_PeriodValid {r : Bool} : ∀ v θ κ, Q_treatyref01_PeriodValid r v θ κ → Plains θ := by
 rintro _ _ _ ⟨rfl, rfl, rfl⟩
 exact trivial
set_option maxHeartbeats 4000000 in
set_option maxRecDepth 100000 in
theorem W_treatyref01_PeriodValid (a0 : GPeriod) (r : Bool) (h : treatyref01_PeriodValid a0 = some r) : Spec Try.prog 68 [.agg #[.int .i64 a0.From, .int .i64 a0.To]] [] [] (Q_treatyref01_PeriodValid r) := by
 unfold treatyref01_PeriodValid at h
 refine spec_of (σ := [(0, _)]) Try.func68 rfl rfl rfl rfl ?_
 intro C
 refine Wq (Wr (Ac rfl (act_box (cs := [_, _]) rfl rfl) ?_))
 rintro _ _ _ ⟨b0_0, rfl, rfl, rfl⟩
 refine D rfl (ag rfl) (Wn (Pt (Wq (Wr (D rfl (fd rfl fd38_0 rfl) (D rfl (ld rfl m0 (by rfl) na3 us3) (D rfl (det_geq rfl rfl) (D rfl (mv rfl) ?_))))))))
 refine wl_way (decide (0 ≤ a0.From)) ((decide (0 ≤ a0.From)) && (decide (a0.From < a0.To))) 6 12 (fun hg => ?_) (fun hg => ?_) ?_
 ·have hg1_9 := hg
  refine Gn rfl rfl hg1_9 (D rfl (fd rfl fd38_0 rfl) (Gn rfl rfl hg1_9 (D rfl (ld rfl m0 (by rfl) na3 us3) (Gn rfl rfl hg1_9 (D rfl (fd rfl fd38_1 rfl) (Gn rfl rfl hg1_9 (D rfl (ld rfl m0 (by rfl) na3 us3) (Gn rfl rfl hg1_9 (D rfl (det_lss rfl rfl) (D rfl (det_and_on rfl rfl rfl hg1_9) ?_))))))))))
  exact wl_nil (pn_qnE (ext_cons rfl (Ex 6 rfl rfl)) (fun _ h => h))
 ·have hg1_9a := hg
  refine Gf rfl rfl rfl hg1_9a (Gf rfl rfl rfl hg1_9a (Gf rfl rfl rfl hg1_9a (Gf rfl rfl rfl hg1_9a (Gf rfl rfl rfl hg1_9a (D rfl (det_and_off (q := (decide (a0.From < a0.To))) rfl rfl rfl hg1_9a) ?_)))))
  exact wl_nil (pn_qnE (ext_cons rfl (Ex 6 rfl rfl)) (fun _ h => h))
 refine D rfl (mv rfl) ?_
 refine wl_way ((decide (0 ≤ a0.From)) && (decide (a0.From < a0.To))) (((decide (0 ≤ a0.From)) && (decide (a0.From < a0.To))) && (decide (a0.To ≤ 876600))) 4 17 (fun hg => ?_) (fun hg => ?_) ?_
 ·have hg1_14 := hg
  refine Gn rfl rfl hg1_14 (D rfl (fd rfl fd38_1 rfl) (Gn rfl rfl hg1_14 (D rfl (ld rfl m0 (by rfl) na3 us3) (Gn rfl rfl hg1_14 (D rfl (det_leq rfl rfl) (D rfl (det_and_on rfl rfl rfl hg1_14) ?_))))))
  exact wl_nil (pn_qnE (ext_cons rfl (Ex 4 rfl rfl)) (fun _ h => h))
 ·have hg1_14a := hg
  refine Gf rfl rfl rfl hg1_14a (Gf rfl rfl rfl hg1_14a (Gf rfl rfl rfl hg1_14a (D rfl (det_and_off (q := (decide (a0.To ≤ 876600))) rfl rfl rfl hg1_14a) ?_)))
  exact wl_nil (pn_qnE (ext_cons rfl (Ex 4 rfl rfl)) (fun _ h => h))
 refine D rfl (ag rfl) (Wn (Pt (Wt ?_)))
 obtain rfl := si h
 refine pn_ret (vs := [_]) rfl ⟨rfl, trivial⟩ ⟨rfl, rfl, rfl⟩ (fun _ h => h.to trivial trivial)
def Q_treatyref01_Overlap (r : GPeriod × Bool) : Value → List Ent → List Fact → Prop := fun v θ κ => v = .tuple #[.agg #[.int .i64 r.1.From, .int .i64 r.1.To], .bool r.2] ∧ θ = [] ∧ κ = []
theorem plains_treatyref01_Overlap {r : GPeriod × Bool} : ∀ v θ κ, Q_treatyref01_Overlap r v θ κ → Plains θ := by
 rintro _ _ _ ⟨rfl, rfl, rfl⟩
 exact trivial
set_option maxHeartbeats 4000000 in
set_option maxRecDepth 100000 in
theorem W_treatyref01_Overlap (a0 : GPeriod) (a1 : GPeriod) (r : GPeriod × Bool) (h : treatyref01_Overlap a0 a1 = some r) : Spec Try.prog 49 [.agg #[.int .i64 a0.From, .int .i64 a0.To], .agg #[.int .i64 a1.From, .int .i64 a1.To]] [] [] (Q_treatyref01_Overlap r) := by
 unfold treatyref01_Overlap at h
 refine spec_of (σ := [(0, _), (1, _)]) Try.func49 rfl rfl rfl rfl ?_
 intro C
 refine Wq (Wr (Ac rfl (act_box (cs := [_, _]) rfl rfl) ?_))
 rintro _ _ _ ⟨b0_0, rfl, rfl, rfl⟩
 refine Ac rfl (act_box (cs := [_, _]) rfl rfl) ?_
 rintro _ _ _ ⟨b0_1, rfl, rfl, rfl⟩
 refine Ac rfl (act_alloc (cs := [_, _]) zr38 rfl) ?_
 rintro _ _ _ ⟨b0_2, rfl, rfl, rfl⟩
 refine D rfl (ag rfl) (Wn (Pt (Wq (Wr ?_))))
 refine D rfl (fd rfl fd38_0 rfl) (D rfl (ld rfl (ms (ms m0)) (by rfl) na3 us3) (D rfl (fd rfl fd38_0 rfl) (D rfl (ld rfl (ms m0) (by rfl) na3 us3) (D rfl (det_maxI rfl rfl) (D rfl (fd rfl fd38_1 rfl) (D rfl (ld rfl (ms (ms m0)) (by rfl) na3 us3) (D rfl (fd rfl fd38_1 rfl) (D rfl (ld rfl (ms m0) (by rfl) na3 us3) (D rfl (det_minI rfl rfl) (D rfl (det_build (cs := [_, _]) pl38 zr38 rfl rfl (by rfl)) (Ac rfl (act_alloc (cs := [_, _]) zr38 rfl) ?_)))))))))))
 rintro _ _ _ ⟨b1_11, rfl, rfl, rfl⟩
 refine Az rfl (act_store (cells := [_, _]) (cs' := [_, _]) rfl rfl rfl s0 (by rfl) (of_decide_eq_true rfl) sz38 (On1 rfl)) ?_
 rintro _ _ _ ⟨rfl, rfl⟩
 refine Wn (Pt (Wq (Wq (Wr (D rfl (det_loadN (cells := [_, _]) rfl (ms (ms (ms m0))) (by rfl) ag38 sz38) ?_)))))
 obtain ⟨r2_1, hr2_1, h⟩ := bs h
 refine Ac rfl (act_callS (cap := []) (W_treatyref01_PeriodValid a0 r2_1 hr2_1) rfl rfl rfl bd68 rfl trivial) ?_
 rintro _ _ _ ⟨_, _, ⟨rfl, rfl, rfl⟩, rfl, rfl⟩
 dsimp only [na, ca]
 refine D rfl (det_not rfl) (D rfl (mv rfl) ?_)
 obtain ⟨q2_7, hq2_7, h⟩ := bs h
 have ho2_7 := h
 refine wl_way (!r2_1) q2_7 4 25 (fun hg => ?_) (fun hg => ?_) ?_
 ·have hg2_7 := hg
  have h := ifT hq2_7 hg
  refine Gf rfl rfl rfl hg2_7 (Gf rfl rfl rfl hg2_7 (Gf rfl rfl rfl hg2_7 ?_))
  obtain rfl := si h
  refine D rfl (det_pick_on rfl hg2_7 rfl rfl) ?_
  exact wl_nil (pn_qnE (ext_cons rfl (Ex 4 rfl rfl)) (fun _ h => h))
 ·have hg2_7a := hg
  have h := ifF hq2_7 hg
  refine Gn rfl rfl hg2_7a (D rfl (det_loadN (cells := [_, _]) rfl (ms (ms m0)) (by rfl) ag38 sz38) (Gn rfl rfl hg2_7a ?_))
  obtain ⟨r2_5, hr2_5, h⟩ := bs h
  refine Ac rfl (act_callS (cap := []) (W_treatyref01_PeriodValid a1 r2_5 hr2_5) rfl rfl rfl bd68 rfl trivial) ?_
  rintro _ _ _ ⟨_, _, ⟨rfl, rfl, rfl⟩, rfl, rfl⟩
  dsimp only [na, ca]
  refine Gn rfl rfl hg2_7a (D rfl (det_not rfl) ?_)
  obtain rfl := si h
  refine D rfl (det_pick_off rfl hg2_7a rfl rfl) ?_
  exact wl_nil (pn_qnE (ext_cons rfl (Ex 4 rfl rfl)) (fun _ h => h))
 have h := ho2_7
 refine D rfl (mv rfl) ?_
 refine wl_way q2_7 (q2_7 || (decide ((minI a0.To a1.To) ≤ (maxI a0.From a1.From)))) 6 32 (fun hg => ?_) (fun hg => ?_) ?_
 ·have hg2_14 := hg
  refine Gf rfl rfl rfl hg2_14 (Gf rfl rfl rfl hg2_14 (Gf rfl rfl rfl hg2_14 (Gf rfl rfl rfl hg2_14 (Gf rfl rfl rfl hg2_14 (D rfl (det_or_on (r := (decide ((minI a0.To a1.To) ≤ (maxI a0.From a1.From)))) rfl rfl rfl hg2_14) ?_)))))
  exact wl_nil (pn_qnE (ext_cons rfl (Ex 6 rfl rfl)) (fun _ h => h))
 ·have hg2_14a := hg
  refine Gn rfl rfl hg2_14a (D rfl (fd rfl fd38_0 rfl) (Gn rfl rfl hg2_14a (D rfl (ld rfl m0 (by rfl) na3 us3) (Gn rfl rfl hg2_14a (D rfl (fd rfl fd38_1 rfl) (Gn rfl rfl hg2_14a (D rfl (ld rfl m0 (by rfl) na3 us3) (Gn rfl rfl hg2_14a (D rfl (det_geq rfl rfl) (D rfl (det_or_off rfl rfl rfl hg2_14a) ?_))))))))))
  exact wl_nil (pn_qnE (ext_cons rfl (Ex 6 rfl rfl)) (fun _ h => h))
 refine Wn (Pt ?_)
 refine wc_cond rfl (fun cd7 => ?_) (fun cd7 => ?_)
 ·have h := ifT h cd7
  refine Wq (Wr (D rfl (det_build (cs := [_, _]) pl38 zr38 rfl rfl (by rfl)) (Az rfl (act_store (cells := [_, _]) (cs' := [_, _]) rfl rfl rfl (ss s0) (by rfl) (of_decide_eq_true rfl) sz38 (On1 rfl)) ?_)))
  rintro _ _ _ ⟨rfl, rfl⟩
  refine D rfl (ag rfl) (Wn (Pt (Wt (Rt ?_))))
  obtain rfl := si h
  refine pn_ret (vs := [_, _]) rfl ⟨⟨_, _, [_, _], rfl, (ms m0), .inl ⟨ag38, sz38, rfl⟩⟩, rfl, trivial⟩ ⟨rfl, rfl, rfl⟩ (fun _ h => h.to trivial trivial)
 ·have h := ifF h cd7
  refine Wk (Pt (Wq (Wr (D rfl (det_loadN (cells := [_, _]) rfl m0 (by rfl) ag38 sz38) (Az rfl (act_store (cells := [_, _]) (cs' := [_, _]) rfl rfl rfl (ss s0) (by rfl) (of_decide_eq_true rfl) sz38 (On1 rfl)) ?_)))))
  rintro _ _ _ ⟨rfl, rfl⟩
  refine D rfl (ag rfl) (Wn (Pt (Wt ?_)))
  obtain rfl := si h
  refine pn_ret (vs := [_, _]) rfl ⟨⟨_, _, [_, _], rfl, (ms m0), .inl ⟨ag38, sz38, rfl⟩⟩, rfl, trivial⟩ ⟨rfl, rfl, rfl⟩ (fun _ h => h.to trivial trivial)
def Q_treatyref25_Has (r : Bool) : Value → List Ent → List Fact → Prop := fun v θ κ => v = .bool r ∧ θ = [] ∧ κ = []
theorem plains_treatyref25_Has {r : Bool} : ∀ v θ κ, Q_treatyref25_Has r v θ κ → Plains θ := by
 rintro _ _ _ ⟨rfl, rfl, rfl⟩
 exact trivial
set_option maxHeartbeats 4000000 in
set_option maxRecDepth 100000 in
theorem W_treatyref25_Has (a0 : (List Int)) (a1 : Int) (A0 : Option Addr) (n0 : Nat) (c0 : Nat) (r : Bool) (h : treatyref25_Has a0 a1 = some r) : Spec Try.prog 33 [.slice A0 n0 c0, .int .i64 a1] [] [fV (lSlice (lInt .i64)) (.slice A0 n0 c0) a0] (Q_treatyref25_Has r) := by
 unfold treatyref25_Has at h
 refine spec_of (σ := [(0, _), (1, _)]) Try.func33 rfl rfl rfl rfl ?_
 intro C
 refine wc_know (fun _ h => h.lenF m0) (fun e => ?_)
 subst e
 refine Wq (Wr (D rfl (ag rfl) (Wn (Pt ?_))))
 obtain ⟨q2, h, ho2⟩ := bs h
 refine wc_meetG (G := Unit × Unit) (fun (s2, _) => (.inl s2) = q2) (fun (_, _) => []) (fun (_, _) => []) (fun (_, _) => []) ?_ ?_
 ·refine Wq (Wr (D rfl (mv rfl) (D rfl (det_len rfl un22) (D rfl (mv rfl) (Wn (Pt (Wb ?_)))))))
  obtain ⟨o6, h, ho6⟩ := bs h
  obtain ⟨k6, hk6⟩ := loopV_some.1 h
  refine wc_loop (G := Nat × Int × Unit) (fun g => IterN (treatyref25_Has_l6 a0 a1) g.1 g.2.1 o6) (fun g => g.1) (fun (_, s6, _) => [(1, .int .i64 a1), (7, .slice A0 a0.length c0), (8, .int .i64 (a0.length : Int)), (9, .int .i64 s6)]) (fun (_, _, _) => []) (fun (_, _, _) => [fV (lSlice (lInt .i64)) (.slice A0 a0.length c0) a0]) (k6, 0, ()) hk6 (Sb rfl) (fun _ h => h.to trivial ⟨m0, trivial⟩) ?_
  rintro ⟨k6, s6, _⟩ hI
  obtain ⟨k6, rfl, q6, h, g6⟩ := IterN.pos hI
  dsimp only at h ⊢
  unfold treatyref25_Has_l6 at h
  refine Wq (Wr (D rfl (det_lss rfl rfl) (Wn (Pt (Wq ?_)))))
  refine wc_cond rfl (fun cd10 => ?_) (fun cd10 => ?_)
  ·have h := ifT h cd10
   refine Wk (Pt (Wq (Wb (Wq (Wr ?_)))))
   obtain ⟨k3_0, h⟩ := chk_some h
   refine wl_st (fun _ h => h.openF m0 k3_0) ?_
   refine D rfl (det_indexP rfl rfl (ms m0) k3_0 m0 un22 sz3) (D rfl (det_loadP (off := 0) rfl m0 (by rfl) (by rfl) (loaded_1 na3 us3)) (D rfl (ag rfl) (Wn (Pt (Wq (Wr (D rfl (mv rfl) (D rfl (mv rfl) (D rfl (det_eql rfl rfl) (Wn (Pt ?_)))))))))))
   refine wc_cond rfl (fun cd18 => ?_) (fun cd18 => ?_)
   ·have h := ifT h cd18
    refine Wq (Wr (D rfl (ag rfl) (Wn (Pt (Wt (Rb (Rt (Rt (Rb (Rt ?_))))))))))
    obtain rfl := si h
    replace g6 := nextR g6
    subst g6
    have h := (elimL ho6)
    obtain rfl := si h
    have h := (elimR ho2)
    obtain rfl := si h
    refine pn_ret (vs := [_]) rfl ⟨rfl, trivial⟩ ⟨rfl, rfl, rfl⟩ (fun _ h => h.to trivial trivial)
   ·have h := ifF h cd18
    refine Wk (Pb (Pt (Wr (D rfl (det_add rfl rfl) (D rfl (mv rfl) (Wn ?_))))))
    obtain rfl := si h
    exact pn_some (k6, (w64 (s6 + 1)), ()) ⟨nextL g6, Nat.lt_succ_self _⟩ (Sb rfl) (fun _ h => h.to trivial ⟨(ms m0), trivial⟩)
  ·have h := ifF h cd10
   refine We (Xt (Xt (Xb ?_)))
   obtain rfl := si h
   replace g6 := nextR g6
   subst g6
   have h := (elimR ho6)
   obtain rfl := si h
   exact pn_meetG ((), ()) rfl trivial (fun _ h => h.to trivial trivial)
 rintro ⟨s2, _⟩ e2
 dsimp only at e2 ⊢
 subst e2
 have h := (elimL ho2)
 refine Wq (Wr (D rfl (ag rfl) (Wn (Pt (Wt ?_)))))
 obtain rfl := si h
 refine pn_ret (vs := [_]) rfl ⟨rfl, trivial⟩ ⟨rfl, rfl, rfl⟩ (fun _ h => h.to trivial trivial)
def Q_treatyref25_common (r : Bool) : Value → List Ent → List Fact → Prop := fun v θ κ => v = .bool r ∧ θ = [] ∧ κ = []
theorem plains_treatyref25_common {r : Bool} : ∀ v θ κ, Q_treatyref25_common r v θ κ → Plains θ := by
 rintro _ _ _ ⟨rfl, rfl, rfl⟩
 exact trivial
set_option maxHeartbeats 4000000 in
set_option maxRecDepth 100000 in
theorem W_treatyref25_common (a0 : (List Int)) (a1 : (List Int)) (A0 : Option Addr) (n0 : Nat) (c0 : Nat) (A3 : Option Addr) (n3 : Nat) (c3 : Nat) (r : Bool) (h : treatyref25_common a0 a1 = some r) : Spec Try.prog 50 [.slice A0 n0 c0, .slice A3 n3 c3] [] [fV (lSlice (lInt .i64)) (.slice A0 n0 c0) a0, fV (lSlice (lInt .i64)) (.slice A3 n3 c3) a1] (Q_treatyref25_common r) := by
 unfold treatyref25_common at h
 refine spec_of (σ := [(0, _), (1, _)]) Try.func50 rfl rfl rfl rfl ?_
 intro C
 refine wc_know (fun _ h => h.lenF m0) (fun e => ?_)
 subst e
 refine wc_know (fun _ h => h.lenF (ms m0)) (fun e => ?_)
 subst e
 refine Wq (Wr (D rfl (ag rfl) (Wn (Pt ?_))))
 obtain ⟨q2, h, ho2⟩ := bs h
 refine wc_meetG (G := Unit × Unit) (fun (s2, _) => (.inl s2) = q2) (fun (_, _) => [(0, .slice A0 a0.length c0), (1, .slice A3 a1.length c3)]) (fun (_, _) => []) (fun (_, _) => [fV (lSlice (lInt .i64)) (.slice A0 a0.length c0) a0, fV (lSlice (lInt .i64)) (.slice A3 a1.length c3) a1]) ?_ ?_
 ·refine Wq (Wr (D rfl (mv rfl) (D rfl (det_len rfl un22) (D rfl (mv rfl) (Wn (Pt (Wb ?_)))))))
  obtain ⟨o6, h, ho6⟩ := bs h
  obtain ⟨k6, hk6⟩ := loopV_some.1 h
  refine wc_loop (G := Nat × Int × Unit) (fun g => IterN (treatyref25_common_l6 a0 a1) g.1 g.2.1 o6) (fun g => g.1) (fun (_, s6, _) => [(0, .slice A0 a0.length c0), (1, .slice A3 a1.length c3), (7, .slice A0 a0.length c0), (8, .int .i64 (a0.length : Int)), (9, .int .i64 s6)]) (fun (_, _, _) => []) (fun (_, _, _) => [fV (lSlice (lInt .i64)) (.slice A0 a0.length c0) a0, fV (lSlice (lInt .i64)) (.slice A3 a1.length c3) a1]) (k6, 0, ()) hk6 (Sb rfl) (fun _ h => h.to trivial ⟨m0, ⟨(ms m0), trivial⟩⟩) ?_
  rintro ⟨k6, s6, _⟩ hI
  obtain ⟨k6, rfl, q6, h, g6⟩ := IterN.pos hI
  dsimp only at h ⊢
  unfold treatyref25_common_l6 at h
  refine Wq (Wr (D rfl (det_lss rfl rfl) (Wn (Pt (Wq ?_)))))
  refine wc_cond rfl (fun cd10 => ?_) (fun cd10 => ?_)
  ·have h := ifT h cd10
   refine Wk (Pt (Wq (Wb (Wq (Wr ?_)))))
   obtain ⟨k3_0, h⟩ := chk_some h
   refine wl_st (fun _ h => h.openF m0 k3_0) ?_
   refine D rfl (det_indexP rfl rfl (ms m0) k3_0 m0 un22 sz3) (D rfl (det_loadP (off := 0) rfl m0 (by rfl) (by rfl) (loaded_1 na3 us3)) (D rfl (ag rfl) (Wn (Pt (Wq (Wr (D rfl (mv rfl) (D rfl (mv rfl) ?_))))))))
   obtain ⟨r4_2, hr4_2, h⟩ := bs h
   refine Ac rfl (act_callS (cap := []) (W_treatyref25_Has a1 (ix a0 s6) A3 a1.length c3 r4_2 hr4_2) rfl rfl rfl bd33 rfl ⟨(ms (ms m0)), trivial⟩) ?_
   rintro _ _ _ ⟨_, _, ⟨rfl, rfl, rfl⟩, rfl, rfl⟩
   dsimp only [na, ca]
   refine Wn (Pt ?_)
   refine wc_cond rfl (fun cd18 => ?_) (fun cd18 => ?_)
   ·have h := ifT h cd18
    refine Wq (Wr (D rfl (ag rfl) (Wn (Pt (Wt (Rb (Rt (Rt (Rb (Rt ?_))))))))))
    obtain rfl := si h
    replace g6 := nextR g6
    subst g6
    have h := (elimL ho6)
    obtain rfl := si h
    have h := (elimR ho2)
    obtain rfl := si h
    refine pn_ret (vs := [_]) rfl ⟨rfl, trivial⟩ ⟨rfl, rfl, rfl⟩ (fun _ h => h.to trivial trivial)
   ·have h := ifF h cd18
    refine Wk (Pb (Pt (Wr (D rfl (det_add rfl rfl) (D rfl (mv rfl) (Wn ?_))))))
    obtain rfl := si h
    exact pn_some (k6, (w64 (s6 + 1)), ()) ⟨nextL g6, Nat.lt_succ_self _⟩ (Sb rfl) (fun _ h => h.to trivial ⟨(ms m0), ⟨(ms (ms m0)), trivial⟩⟩)
  ·have h := ifF h cd10
   refine We (Xt (Xt (Xb ?_)))
   obtain rfl := si h
   replace g6 := nextR g6
   subst g6
   have h := (elimR ho6)
   obtain rfl := si h
   exact pn_meetG ((), ()) rfl (Sb rfl) (fun _ h => h.to trivial ⟨m0, ⟨(ms m0), trivial⟩⟩)
 rintro ⟨s2, _⟩ e2
 dsimp only at e2 ⊢
 subst e2
 have h := (elimL ho2)
 refine Wq (Wr (D rfl (mv rfl) (D rfl (det_len rfl un22) (D rfl (det_eql rfl rfl) (D rfl (mv rfl) ?_)))))
 refine wl_way (decide ((a0.length : Int) = 0)) ((decide ((a0.length : Int) = 0)) || (decide ((a1.length : Int) = 0))) 4 24 (fun hg => ?_) (fun hg => ?_) ?_
 ·have hg7_7 := hg
  refine Gf rfl rfl rfl hg7_7 (Gf rfl rfl rfl hg7_7 (Gf rfl rfl rfl hg7_7 (D rfl (det_or_on (r := (decide ((a1.length : Int) = 0))) rfl rfl rfl hg7_7) ?_)))
  exact wl_nil (pn_qnE (ext_cons rfl (Ex 4 rfl rfl)) (fun _ h => h))
 ·have hg7_7a := hg
  refine Gn rfl rfl hg7_7a (D rfl (mv rfl) (Gn rfl rfl hg7_7a (D rfl (det_len rfl un22) (Gn rfl rfl hg7_7a (D rfl (det_eql rfl rfl) (D rfl (det_or_off rfl rfl rfl hg7_7a) ?_))))))
  exact wl_nil (pn_qnE (ext_cons rfl (Ex 4 rfl rfl)) (fun _ h => h))
 refine D rfl (ag rfl) (Wn (Pt (Wt ?_)))
 obtain rfl := si h
 refine pn_ret (vs := [_]) rfl ⟨rfl, trivial⟩ ⟨rfl, rfl, rfl⟩ (fun _ h => h.to trivial trivial)
def Q_treatyref25_Meet (r : Bool) : Value → List Ent → List Fact → Prop := fun v θ κ => v = .bool r ∧ θ = [] ∧ κ = []
theorem plains_treatyref25_Meet {r : Bool} : ∀ v θ κ, Q_treatyref25_Meet r v θ κ → Plains θ := by
 rintro _ _ _ ⟨rfl, rfl, rfl⟩
 exact trivial
set_option maxHeartbeats 4000000 in
set_option maxRecDepth 100000 in
theorem W_treatyref25_Meet (a0 : GTreaty) (a1 : GTreaty) (A0 : Option Addr) (n0 : Nat) (c0 : Nat) (A3 : Option Addr) (n3 : Nat) (c3 : Nat) (A6 : Option Addr) (n6 : Nat) (c6 : Nat) (A9 : Option Addr) (n9 : Nat) (c9 : Nat) (A12 : Option Addr) (n12 : Nat) (c12 : Nat) (A15 : Option Addr) (n15 : Nat) (c15 : Nat) (A18 : Option Addr) (n18 : Nat) (c18 : Nat) (A21 : Option Addr) (n21 : Nat) (c21 : Nat) (A24 : Option Addr) (n24 : Nat) (c24 : Nat) (A27 : Option Addr) (n27 : Nat) (c27 : Nat) (r : Bool) (h : treatyref25_Meet a0 a1 = some r) : Spec Try.prog 26 [.agg #[.int .i64 a0.ID, .int .i64 a0.Kind, .int .i64 a0.Period.From, .int .i64 a0.Period.To, .slice A0 n0 c0, .slice A3 n3 c3, .int .i64 a0.Risk, .int .i64 a0.Cession, .int .i64 a0.Line, .int .i64 a0.Lines, .int .i64 a0.Retention, .int .i64 a0.Limit, .int .i64 a0.Window, .int .i64 a0.Deductible, .int .i64 a0.Aggregate, .int .i64 a0.Premium, .slice A6 n6 c6, .bool a0.Timed, .int .i64 a0.Base, .slice A9 n9 c9, .slice A12 n12 c12], .agg #[.int .i64 a1.ID, .int .i64 a1.Kind, .int .i64 a1.Period.From, .int .i64 a1.Period.To, .slice A15 n15 c15, .slice A18 n18 c18, .int .i64 a1.Risk, .int .i64 a1.Cession, .int .i64 a1.Line, .int .i64 a1.Lines, .int .i64 a1.Retention, .int .i64 a1.Limit, .int .i64 a1.Window, .int .i64 a1.Deductible, .int .i64 a1.Aggregate, .int .i64 a1.Premium, .slice A21 n21 c21, .bool a1.Timed, .int .i64 a1.Base, .slice A24 n24 c24, .slice A27 n27 c27]] [] [fV (lSlice (lInt .i64)) (.slice A0 n0 c0) a0.Perils, fV (lSlice (lInt .i64)) (.slice A3 n3 c3) a0.Areas, fV (lSlice (lInt .i64)) (.slice A6 n6 c6) a0.Reinstatements, fV (lSlice (lInt .i64)) (.slice A9 n9 c9) a0.Inures, fV (lSlice lGPart) (.slice A12 n12 c12) a0.Parts, fV (lSlice (lInt .i64)) (.slice A15 n15 c15) a1.Perils, fV (lSlice (lInt .i64)) (.slice A18 n18 c18) a1.Areas, fV (lSlice (lInt .i64)) (.slice A21 n21 c21) a1.Reinstatements, fV (lSlice (lInt .i64)) (.slice A24 n24 c24) a1.Inures, fV (lSlice lGPart) (.slice A27 n27 c27) a1.Parts] (Q_treatyref25_Meet r) := by
 unfold treatyref25_Meet at h
 refine spec_of (σ := [(0, _), (1, _)]) Try.func26 rfl rfl rfl rfl ?_
 intro C
 refine wc_know (fun _ h => h.lenF m0) (fun e => ?_)
 subst e
 refine wc_know (fun _ h => h.lenF (ms m0)) (fun e => ?_)
 subst e
 refine wc_know (fun _ h => h.lenF (ms (ms m0))) (fun e => ?_)
 subst e
 refine wc_know (fun _ h => h.lenF (ms (ms (ms m0)))) (fun e => ?_)
 subst e
 refine wc_know (fun _ h => h.lenF (ms (ms (ms (ms m0))))) (fun e => ?_)
 subst e
 refine wc_know (fun _ h => h.lenF (ms (ms (ms (ms (ms m0)))))) (fun e => ?_)
 subst e
 refine wc_know (fun _ h => h.lenF (ms (ms (ms (ms (ms (ms m0))))))) (fun e => ?_)
 subst e
 refine wc_know (fun _ h => h.lenF (ms (ms (ms (ms (ms (ms (ms m0)))))))) (fun e => ?_)
 subst e
 refine wc_know (fun _ h => h.lenF (ms (ms (ms (ms (ms (ms (ms (ms m0))))))))) (fun e => ?_)
 subst e
 refine wc_know (fun _ h => h.lenF (ms (ms (ms (ms (ms (ms (ms (ms (ms m0)))))))))) (fun e => ?_)
 subst e
 refine Wq (Wr (Ac rfl (act_box (cs := [_, _, _, _, _, _, _, _, _, _, _, _, _, _, _, _, _, _, _, _, _]) rfl rfl) ?_))
 rintro _ _ _ ⟨b0_0, rfl, rfl, rfl⟩
 refine Ac rfl (act_box (cs := [_, _, _, _, _, _, _, _, _, _, _, _, _, _, _, _, _, _, _, _, _]) rfl rfl) ?_
 rintro _ _ _ ⟨b0_1, rfl, rfl, rfl⟩
 refine D rfl (ag rfl) (Wn (Pt (Wq (Wr (D rfl (fd rfl fd41_2 rfl) (D rfl (det_loadN (cells := [_, _]) rfl (ms m0) (by rfl) ag38 sz38) (D rfl (fd rfl fd41_2 rfl) (D rfl (det_loadN (cells := [_, _]) rfl m0 (by rfl) ag38 sz38) ?_))))))))
 obtain ⟨r1_4, hr1_4, h⟩ := bs h
 refine Ac rfl (act_callS (cap := []) (W_treatyref01_Overlap a0.Period a1.Period r1_4 hr1_4) rfl rfl rfl bd49 rfl trivial) ?_
 rintro _ _ _ ⟨_, _, ⟨rfl, rfl, rfl⟩, rfl, rfl⟩
 dsimp only [na, ca]
 refine D rfl (mv rfl) (D rfl (det_extract rfl rfl) (D rfl (det_extract rfl rfl) (Ac rfl (act_alloc (cs := [_, _]) zr38 rfl) ?_)))
 rintro _ _ _ ⟨b1_8, rfl, rfl, rfl⟩
 refine Az rfl (act_store (cells := [_, _]) (cs' := [_, _]) rfl rfl rfl s0 (by rfl) (of_decide_eq_true rfl) sz38 (On1 rfl)) ?_
 rintro _ _ _ ⟨rfl, rfl⟩
 refine D rfl (ag rfl) (Wn (Pt (Wq (Wr (D rfl (mv rfl) (D rfl (mv rfl) ?_))))))
 obtain ⟨q2_7, hq2_7, h⟩ := bs h
 have ho2_7 := h
 refine wl_way r1_4.2 q2_7 6 22 (fun hg => ?_) (fun hg => ?_) ?_
 ·have hg2_7 := hg
  have h := ifT hq2_7 hg
  refine Gn rfl rfl hg2_7 (D rfl (fd rfl fd41_3 rfl) (Gn rfl rfl hg2_7 (D rfl (ld rfl (ms (ms m0)) (by rfl) na22 us22) (Gn rfl rfl hg2_7 (D rfl (fd rfl fd41_3 rfl) (Gn rfl rfl hg2_7 (D rfl (ld rfl (ms m0) (by rfl) na22 us22) (Gn rfl rfl hg2_7 ?_))))))))
  obtain ⟨r2_6, hr2_6, h⟩ := bs h
  refine Ac rfl (act_callS (cap := []) (W_treatyref25_common a0.Perils a1.Perils A0 a0.Perils.length c0 A15 a1.Perils.length c15 r2_6 hr2_6) rfl rfl rfl bd50 rfl ⟨m0, ⟨(ms (ms (ms (ms (ms m0))))), trivial⟩⟩) ?_
  rintro _ _ _ ⟨_, _, ⟨rfl, rfl, rfl⟩, rfl, rfl⟩
  dsimp only [na, ca]
  obtain rfl := si h
  refine D rfl (det_pick_on rfl hg2_7 rfl rfl) ?_
  exact wl_nil (pn_qnE (ext_cons rfl (Ex 6 rfl rfl)) (fun _ h => h))
 ·have hg2_7a := hg
  have h := ifF hq2_7 hg
  refine Gf rfl rfl rfl hg2_7a (Gf rfl rfl rfl hg2_7a (Gf rfl rfl rfl hg2_7a (Gf rfl rfl rfl hg2_7a (Gf rfl rfl rfl hg2_7a ?_))))
  obtain rfl := si h
  refine D rfl (det_pick_off rfl hg2_7a rfl rfl) ?_
  exact wl_nil (pn_qnE (ext_cons rfl (Ex 6 rfl rfl)) (fun _ h => h))
 have h := ho2_7
 refine D rfl (mv rfl) ?_
 obtain ⟨q2_14, hq2_14, h⟩ := bs h
 have ho2_14 := h
 refine wl_way q2_7 q2_14 6 29 (fun hg => ?_) (fun hg => ?_) ?_
 ·have hg2_14 := hg
  have h := ifT hq2_14 hg
  refine Gn rfl rfl hg2_14 (D rfl (fd rfl fd41_4 rfl) (Gn rfl rfl hg2_14 (D rfl (ld rfl (ms (ms m0)) (by rfl) na22 us22) (Gn rfl rfl hg2_14 (D rfl (fd rfl fd41_4 rfl) (Gn rfl rfl hg2_14 (D rfl (ld rfl (ms m0) (by rfl) na22 us22) (Gn rfl rfl hg2_14 ?_))))))))
  obtain ⟨r2_13, hr2_13, h⟩ := bs h
  refine Ac rfl (act_callS (cap := []) (W_treatyref25_common a0.Areas a1.Areas A3 a0.Areas.length c3 A18 a1.Areas.length c18 r2_13 hr2_13) rfl rfl rfl bd50 rfl ⟨(ms m0), ⟨(ms (ms (ms (ms (ms (ms m0)))))), trivial⟩⟩) ?_
  rintro _ _ _ ⟨_, _, ⟨rfl, rfl, rfl⟩, rfl, rfl⟩
  dsimp only [na, ca]
  obtain rfl := si h
  refine D rfl (det_pick_on rfl hg2_14 rfl rfl) ?_
  exact wl_nil (pn_qnE (ext_cons rfl (Ex 6 rfl rfl)) (fun _ h => h))
 ·have hg2_14a := hg
  have h := ifF hq2_14 hg
  refine Gf rfl rfl rfl hg2_14a (Gf rfl rfl rfl hg2_14a (Gf rfl rfl rfl hg2_14a (Gf rfl rfl rfl hg2_14a (Gf rfl rfl rfl hg2_14a ?_))))
  obtain rfl := si h
  refine D rfl (det_pick_off rfl hg2_14a rfl rfl) ?_
  exact wl_nil (pn_qnE (ext_cons rfl (Ex 6 rfl rfl)) (fun _ h => h))
 have h := ho2_14
 refine D rfl (mv rfl) ?_
 refine wl_way q2_14 (q2_14 && (!(((decide (a0.Kind = 3)) && (decide (a1.Kind = 3))) && (!decide (a0.Risk = a1.Risk))))) 17 47 (fun hg => ?_) (fun hg => ?_) ?_
 ·have hg2_32 := hg
  refine Gn rfl rfl hg2_32 (D rfl (fd rfl fd41_1 rfl) (Gn rfl rfl hg2_32 (D rfl (ld rfl (ms (ms m0)) (by rfl) na3 us3) (Gn rfl rfl hg2_32 (D rfl (det_eql rfl rfl) (Gn rfl rfl hg2_32 (D rfl (mv rfl) ?_)))))))
  refine wl_way (decide (a0.Kind = 3)) ((decide (a0.Kind = 3)) && (decide (a1.Kind = 3))) 4 38 (fun hg => ?_) (fun hg => ?_) ?_
  ·have hg2_23 := hg
   refine Gn rfl rfl hg2_23 (D rfl (fd rfl fd41_1 rfl) (Gn rfl rfl hg2_23 (D rfl (ld rfl (ms m0) (by rfl) na3 us3) (Gn rfl rfl hg2_23 (D rfl (det_eql rfl rfl) (Gn rfl rfl hg2_32 (D rfl (det_and_on rfl rfl rfl hg2_23) ?_)))))))
   exact wl_nil (pn_qnE (ext_cons rfl (Ex 4 rfl rfl)) (fun _ h => h))
  ·have hg2_23a := hg
   refine Gf rfl rfl rfl hg2_23a (Gf rfl rfl rfl hg2_23a (Gf rfl rfl rfl hg2_23a (Gn rfl rfl hg2_32 (D rfl (det_and_off (q := (decide (a1.Kind = 3))) rfl rfl rfl hg2_23a) ?_))))
   exact wl_nil (pn_qnE (ext_cons rfl (Ex 4 rfl rfl)) (fun _ h => h))
  refine Gn rfl rfl hg2_32 (D rfl (mv rfl) ?_)
  refine wl_way ((decide (a0.Kind = 3)) && (decide (a1.Kind = 3))) (((decide (a0.Kind = 3)) && (decide (a1.Kind = 3))) && (!decide (a0.Risk = a1.Risk))) 6 45 (fun hg => ?_) (fun hg => ?_) ?_
  ·have hg2_30 := hg
   refine Gn rfl rfl hg2_30 (D rfl (fd rfl fd41_5 rfl) (Gn rfl rfl hg2_30 (D rfl (ld rfl (ms (ms m0)) (by rfl) na3 us3) (Gn rfl rfl hg2_30 (D rfl (fd rfl fd41_5 rfl) (Gn rfl rfl hg2_30 (D rfl (ld rfl (ms m0) (by rfl) na3 us3) (Gn rfl rfl hg2_30 (D rfl (det_neq rfl rfl) (Gn rfl rfl hg2_32 (D rfl (det_and_on rfl rfl rfl hg2_30) ?_)))))))))))
   exact wl_nil (pn_qnE (ext_cons rfl (Ex 6 rfl rfl)) (fun _ h => h))
  ·have hg2_30a := hg
   refine Gf rfl rfl rfl hg2_30a (Gf rfl rfl rfl hg2_30a (Gf rfl rfl rfl hg2_30a (Gf rfl rfl rfl hg2_30a (Gf rfl rfl rfl hg2_30a (Gn rfl rfl hg2_32 (D rfl (det_and_off (q := (!decide (a0.Risk = a1.Risk))) rfl rfl rfl hg2_30a) ?_))))))
   exact wl_nil (pn_qnE (ext_cons rfl (Ex 6 rfl rfl)) (fun _ h => h))
  refine Gn rfl rfl hg2_32 (D rfl (det_not rfl) (D rfl (det_and_on rfl rfl rfl hg2_32) ?_))
  exact wl_nil (pn_qnE (ext_cons rfl (Ex 9 rfl rfl)) (fun _ h => h))
 ·have hg2_32a := hg
  refine Gf rfl rfl rfl hg2_32a (Gf rfl rfl rfl hg2_32a (Gf rfl rfl rfl hg2_32a (Gf rfl rfl rfl hg2_32a ?_)))
  refine wl_none rfl rfl rfl rfl rfl rfl ?_
  refine wl_none rfl rfl rfl rfl rfl rfl ?_
  refine wl_none rfl rfl rfl rfl rfl rfl ?_
  refine Gf rfl rfl rfl hg2_32a (Gf rfl rfl rfl hg2_32a ?_)
  refine wl_none rfl rfl rfl rfl rfl rfl ?_
  refine wl_none rfl rfl rfl rfl rfl rfl ?_
  refine wl_none rfl rfl rfl rfl rfl rfl ?_
  refine wl_none rfl rfl rfl rfl rfl rfl ?_
  refine wl_none rfl rfl rfl rfl rfl rfl ?_
  refine Gf rfl rfl rfl hg2_32a (Gf rfl rfl rfl hg2_32a (D rfl (det_and_off (q := (!(((decide (a0.Kind = 3)) && (decide (a1.Kind = 3))) && (!decide (a0.Risk = a1.Risk))))) rfl rfl rfl hg2_32a) ?_))
  exact wl_nil (pn_qnE (ext_cons rfl (Ex 17 rfl rfl)) (fun _ h => h))
 refine D rfl (ag rfl) (Wn (Pt (Wt ?_)))
 obtain rfl := si h
 refine pn_ret (vs := [_]) rfl ⟨rfl, trivial⟩ ⟨rfl, rfl, rfl⟩ (fun _ h => h.to trivial trivial)
def Q_treatymade2_Treaties (Ba0 : Nat) (r : (List GTreaty) × GDeck) : Value → List Ent → List Fact → Prop := fun v θ κ => ∃ (pA0 : Option Addr), ∃ (pn0 : Nat), ∃ (pc0 : Nat), ∃ (pA1 : Option Addr), ∃ (pn1 : Nat), ∃ (pc1 : Nat), v = .slice pA0 pn0 pc0 ∧ θ = [eS lGTreaty 41 pA0 pn0 pc0 r.1, eBlk Ba0 68 [.slice pA1 pn1 pc1, .int .i64 r.2.At]] ∧ κ = [fV (lSlice (lInt .i64)) (.slice pA1 pn1 pc1) r.2.L]
set_option maxHeartbeats 4000000 in
set_option maxRecDepth 100000 in
theorem W_treatymade2_Treaties (a0 : GDeck) (a1 : Int) (Ba0 : Nat) (A1 : Option Addr) (n1 : Nat) (c1 : Nat) (r : (List GTreaty) × GDeck) (h : treatymade2_Treaties a0 a1 = some r) : Spec Try.prog 7 [.pointer (some ⟨Ba0, 0, none⟩), .int .i64 a1] [eBlk Ba0 68 [.slice A1 n1 c1, .int .i64 a0.At]] [fV (lSlice (lInt .i64)) (.slice A1 n1 c1) a0.L] (Q_treatymade2_Treaties Ba0 r) := by
 unfold treatymade2_Treaties at h
 refine spec_of (σ := [(0, _), (1, _)]) Try.func7 rfl rfl rfl rfl ?_
 intro C
 refine wc_know (fun _ h => h.lenF m0) (fun e => ?_)
 subst e
 refine Wq (Wr (D rfl (ag rfl) ?_))
 refine Wn (Pt (Wq (Wr (D rfl (ag rfl) (Wn (Pt (Wq (Wr (D rfl (ag rfl) (Wn (Pt ?_)))))))))))
 obtain ⟨q6, h, ho6⟩ := bs h
 refine wc_meetG (G := ((List Int) × Int × (List GTreaty)) × Option Addr × Nat × Nat × Option Addr × Nat × Nat × Unit) (fun (s6, _, _, _, _, _, _, _) => s6 = q6) (fun (_, _, _, _, A6_3, n6_3, c6_3, _) => [(5, .slice A6_3 n6_3 c6_3)]) (fun (s6, A6_0, n6_0, c6_0, A6_3, n6_3, c6_3, _) => [eBlk Ba0 68 [.slice A6_0 n6_0 c6_0, .int .i64 s6.2.1], eS lGTreaty 41 A6_3 n6_3 c6_3 s6.2.2]) (fun (s6, A6_0, n6_0, c6_0, _, _, _, _) => [fV (lSlice (lInt .i64)) (.slice A6_0 n6_0 c6_0) s6.1]) ?_ ?_
 ·refine Wq (Wr (D rfl (mv rfl) (D rfl (mv rfl) ?_)))
  obtain ⟨r3_2, hr3_2, h⟩ := bs h
  refine Ac rfl (act_callS (cap := []) (W_treatymade_Deck_Next a0 a1 Ba0 A1 a0.L.length c1 r3_2 hr3_2) rfl rfl rfl bd19 ⟨_, r0, rfl⟩ ⟨m0, trivial⟩) ?_
  rintro _ _ _ ⟨_, _, ⟨y3_2A0, y3_2n0, y3_2c0, rfl, rfl, rfl⟩, rfl, rfl⟩
  dsimp only [na, ca]
  refine wl_know (fun _ h => h.lenF m0) (fun e => ?_)
  subst e
  refine D rfl (det_add rfl rfl) (D rfl (ag rfl) (Wn (Pt (Wb ?_))))
  refine wc_st (fun _ h => h.zeroS lGTreaty 41 none) ?_
  obtain ⟨k10, hk10⟩ := loopV_some.1 h
  refine wc_loop (G := Nat × ((List Int) × Int × (List GTreaty) × Int × Int) × Option Addr × Nat × Nat × Option Addr × Nat × Nat × Unit) (fun g => IterN treatymade2_Treaties_l10 g.1 g.2.1 q6) (fun g => g.1) (fun (_, s10, _, _, _, A10_3, n10_3, c10_3, _) => [(0, .pointer (some ⟨Ba0, 0, none⟩)), (5, .slice A10_3 n10_3 c10_3), (6, .int .i64 s10.2.2.2.1), (7, .int .i64 s10.2.2.2.2)]) (fun (_, s10, A10_0, n10_0, c10_0, A10_3, n10_3, c10_3, _) => [eBlk Ba0 68 [.slice A10_0 n10_0 c10_0, .int .i64 s10.2.1], eS lGTreaty 41 A10_3 n10_3 c10_3 s10.2.2.1]) (fun (_, s10, A10_0, n10_0, c10_0, _, _, _, _) => [fV (lSlice (lInt .i64)) (.slice A10_0 n10_0 c10_0) s10.1]) (k10, (r3_2.2.L, r3_2.2.At, [], 0, (w64 (1 + r3_2.1))), y3_2A0, r3_2.2.L.length, y3_2c0, none, 0, 0, ()) hk10 (Sb rfl) (fun _ h => h.to ⟨_, (rs r0), ⟨_, r0, trivial⟩⟩ ⟨m0, trivial⟩) ?_
  rintro ⟨k10, s10, A10_0, n10_0, c10_0, A10_3, n10_3, c10_3, _⟩ hI
  obtain ⟨k10, rfl, q10, h, g10⟩ := IterN.pos hI
  dsimp only at h ⊢
  unfold treatymade2_Treaties_l10 at h
  refine wc_know (fun _ h => h.lenF m0) (fun e => ?_)
  subst e
  refine wc_know (fun _ h => h.lenO (ms m0)) (fun e => ?_)
  subst e
  refine Wq (Wq (Wr (D rfl (mv rfl) (D rfl (det_gtr rfl rfl) (Wn (Pt ?_))))))
  refine wc_cond rfl (fun cd14 => ?_) (fun cd14 => ?_)
  ·have h := ifT h cd14
   refine Wk (Pt ?_)
   obtain ⟨q16, h, ho16⟩ := bs h
   refine wc_meetG (G := ((List Int) × Int × (List GTreaty) × Int) × Option Addr × Nat × Nat × Option Addr × Nat × Nat × Unit) (fun (s16, _, _, _, _, _, _, _) => s16 = q16) (fun (s16, _, _, _, A16_3, n16_3, c16_3, _) => [(0, .pointer (some ⟨Ba0, 0, none⟩)), (5, .slice A16_3 n16_3 c16_3), (6, .int .i64 s16.2.2.2), (7, .int .i64 s10.2.2.2.2)]) (fun (s16, A16_0, n16_0, c16_0, A16_3, n16_3, c16_3, _) => [eBlk Ba0 68 [.slice A16_0 n16_0 c16_0, .int .i64 s16.2.1], eS lGTreaty 41 A16_3 n16_3 c16_3 s16.2.2.1]) (fun (s16, A16_0, n16_0, c16_0, _, _, _, _) => [fV (lSlice (lInt .i64)) (.slice A16_0 n16_0 c16_0) s16.1]) ?_ ?_
   ·refine Wb (Wq (Wr (D rfl (mv rfl) (D rfl (mv rfl) ?_))))
    obtain ⟨r6_2, hr6_2, h⟩ := bs h
    refine Ac rfl (act_callS (cap := []) (W_treatymade_Deck_Next (GDeck.mk s10.1 s10.2.1) 3 Ba0 A10_0 s10.1.length c10_0 r6_2 hr6_2) rfl rfl rfl bd19 ⟨_, r0, rfl⟩ ⟨m0, trivial⟩) ?_
    rintro _ _ _ ⟨_, _, ⟨y6_2A0, y6_2n0, y6_2c0, rfl, rfl, rfl⟩, rfl, rfl⟩
    dsimp only [na, ca]
    refine wl_know (fun _ h => h.lenF m0) (fun e => ?_)
    subst e
    refine D rfl (det_add rfl rfl) (D rfl (det_add rfl rfl) ?_)
    refine D rfl (ag rfl) (Wn (Pt (Wq (Wr (D rfl (mv rfl) (D rfl (det_len rfl un23) (D rfl (det_sub rfl rfl) (D rfl (ag rfl) (Wn (Pt (Wq ?_)))))))))))
    obtain ⟨q23, h, ho23⟩ := bs h
    refine wc_meetG (G := ((List Int) × Int × Bool) × Option Addr × Nat × Nat × Unit) (fun (s23, _, _, _, _) => s23 = q23) (fun (s23, _, _, _, _) => [(0, .pointer (some ⟨Ba0, 0, none⟩)), (5, .slice A10_3 s10.2.2.1.length c10_3), (6, .int .i64 (w64 (s10.2.2.2.1 + (w64 (1 + r6_2.1))))), (7, .int .i64 s10.2.2.2.2), (8, .int .i64 (w64 ((s10.2.2.1.length : Int) - 1))), (66, .bool s23.2.2)]) (fun (s23, A23_0, n23_0, c23_0, _) => [eBlk Ba0 68 [.slice A23_0 n23_0 c23_0, .int .i64 s23.2.1], eS lGTreaty 41 A10_3 s10.2.2.1.length c10_3 s10.2.2.1]) (fun (s23, A23_0, n23_0, c23_0, _) => [fV (lSlice (lInt .i64)) (.slice A23_0 n23_0 c23_0) s23.1]) ?_ ?_
    ·rcases Bool.eq_false_or_eq_true (decide (0 ≤ (w64 ((s10.2.2.1.length : Int) - 1)))) with hg8_g32 | hg8_g32
     ·have h := ifT h hg8_g32
      rcases Bool.eq_false_or_eq_true (!decide ((ix s10.2.2.1 (w64 ((s10.2.2.1.length : Int) - 1))).Kind = 6)) with hg8_g40 | hg8_g40
      ·have h := ifT h hg8_g40
       rcases Bool.eq_false_or_eq_true (decide (4 ≤ (ix s10.2.2.1 (w64 ((s10.2.2.1.length : Int) - 1))).Kind)) with hg8_g48 | hg8_g48
       ·have h := ifT h hg8_g48
        obtain ⟨r8_20, hr8_20, h⟩ := bs h
        rcases Bool.eq_false_or_eq_true (decide (r8_20.1 = 0)) with hg8_g53 | hg8_g53
        ·have h := ifT h hg8_g53
         obtain ⟨k8_p1, h⟩ := chk_some h
         refine dx_regionZ (Z := St C [_] [_, _]) 37 [[], [0], [0, 1], [0, 1, 2], [0, 1, 2], [0, 1, 2, 3, 4], [0, 1, 2, 3, 4, 5], [0, 1, 2, 3, 4, 5, 6], [0, 1, 2, 3, 4, 5, 6, 7], [0, 1, 2, 3, 4, 5, 6, 7, 8], [0, 1, 2, 3, 4, 5, 6, 7, 8, 9], [0, 1, 2, 3, 4, 5, 6, 7, 8, 9, 10], [0, 1, 2, 3, 4, 5, 6, 7, 8, 9, 10], [0, 1, 2, 3, 4, 5, 6, 7, 8, 9, 10, 11, 12], [0, 1, 2, 3, 4, 5, 6, 7, 8, 9, 10, 11, 12, 13], [0, 1, 2, 3, 4, 5, 6, 7, 8, 9, 10, 11, 12, 13, 14], [0, 1, 2, 3, 4, 5, 6, 7, 8, 9, 10, 11, 12, 13, 14, 15], [0, 1, 2, 3, 4, 5, 6, 7, 8, 9, 10, 11, 12, 13, 14, 15, 16], [0, 1, 2, 3, 4, 5, 6, 7, 8, 9, 10, 11, 12, 13, 14, 15, 16, 17], [0, 1, 2, 3, 4, 5, 6, 7, 8, 9, 10, 11, 12, 13, 14, 15, 16, 17, 18], [0, 1, 2, 3, 4, 5, 6, 7, 8, 9, 10, 11, 12, 13, 14, 15, 16, 17, 18, 19], [0, 1, 2, 3, 4, 5, 6, 7, 8, 9, 10, 11, 12, 13, 14, 15, 16, 17, 18, 19, 20], [0, 1, 2, 3, 4, 5, 6, 7, 8, 9, 10, 11, 12, 13, 14, 15, 16, 17, 18, 19, 20, 21], [0, 1, 2, 3, 4, 5, 6, 7, 8, 9, 10, 11, 12, 13, 14, 15, 16, 17, 18, 19, 20, 21, 22], [0, 1, 2, 3, 4, 5, 6, 7, 8, 9, 10, 11, 12, 13, 14, 15, 16, 17, 18, 19, 20, 21, 22, 23], [0, 1, 2, 3, 4, 5, 6, 7, 8, 9, 10, 11, 12, 13, 14, 15, 16, 17, 18, 19, 20, 21, 22, 23], [0, 1, 2, 3, 4, 5, 6, 7, 8, 9, 10, 11, 12, 13, 14, 15, 16, 17, 18, 19, 20, 21, 22, 23, 24, 25], [0, 1, 2, 3, 4, 5, 6, 7, 8, 9, 10, 11, 12, 13, 14, 15, 16, 17, 18, 19, 20, 21, 22, 23, 24, 25, 26], [0, 1, 2, 3, 4, 5, 6, 7, 8, 9, 10, 11, 12, 13, 14, 15, 16, 17, 18, 19, 20, 21, 22, 23, 24, 25, 26, 27], [0, 1, 2, 3, 4, 5, 6, 7, 8, 9, 10, 11, 12, 13, 14, 15, 16, 17, 18, 19, 20, 21, 22, 23], [0, 1, 2, 3, 4, 5, 6, 7, 8, 9, 10, 11, 12, 13, 14, 15, 16, 17, 18, 19, 20, 21, 22, 23], [0, 1, 2, 3, 4, 5, 6, 7, 8, 9, 10, 11, 12, 13, 14, 15, 16, 17, 18, 19, 20, 21, 22, 23, 29, 30], [0, 1, 2, 3, 4, 5, 6, 7, 8, 9, 10, 11, 12, 13, 14, 15, 16, 17, 18, 19, 20, 21, 22, 23, 29, 30, 31], [0, 1, 2, 3, 4, 5, 6, 7, 8, 9, 10, 11, 12, 13, 14, 15, 16, 17, 18, 19, 20, 21, 22, 23, 29, 30, 31, 32], [0, 1, 2, 3, 4, 5, 6, 7, 8, 9, 10, 11, 12, 13, 14, 15, 16, 17, 18, 19, 20, 21, 22, 23, 24, 25, 26, 27, 28, 29, 30, 31, 32, 33], [0, 1, 2, 3, 4, 5, 6, 7, 8, 9, 10, 11, 12, 13, 14, 15, 16, 17, 18, 19, 20, 21, 22, 23, 24, 25, 26, 27, 28, 29, 30, 31, 32, 33, 34], [0, 1, 2, 3, 4, 5, 6, 7, 8, 9, 10, 11, 12, 13, 14, 15, 16, 17, 18, 19, 20, 21, 22, 23, 24, 25, 26, 27, 28, 29, 30, 31, 32, 33, 34, 35]] mixed (ord := (.det 0 (.det 1 (.det 2 (.det 3 (.det 4 (.det 5 (.det 6 (.det 7 (.det 8 (.det 9 (.det 10 (.det 11 (.det 12 (.det 13 (.det 14 (.det 15 (.det 16 (.det 17 (.det 18 (.det 19 (.alt 20 (.det 21 (.det 22 (.det 23 (.det 24 (.det 25 (.det 26 (.det 27 (.det 28 (.det 29 (.det 30 (.det 31 (.det 32 (.det 33 (.det 34 (.det 35 (.det 36 .done)))))))))))))))) .dead)))))))))))))))))))))) (by kernel_rfl) (fun _ h => h.to ⟨_, (rs r0), trivial⟩ ⟨m0, ⟨(ms m0), trivial⟩⟩) ?_
         refine Hd rfl rfl rfl (mv rfl) (Hd rfl rfl rfl (det_geq rfl rfl) (Hd rfl rfl rfl (mv rfl) ?_))
         refine hx_on rfl rfl rfl rfl rfl hg8_g32 nofun (mv rfl) rfl ?_
         refine hx_on rfl rfl rfl rfl rfl hg8_g32 nofun (mv rfl) rfl ?_
         refine hx_on rfl rfl rfl rfl rfl hg8_g32 nofun (det_indexO rfl rfl m0 k8_p1 un23 sz41) rfl ?_
         refine hx_on rfl rfl rfl rfl rfl hg8_g32 nofun (det_fieldO rfl m0 k8_p1 fd41_1 rfl) rfl ?_
         refine hx_on rfl rfl rfl rfl rfl hg8_g32 nofun (det_loadOX (off := 1) (cells := [.int .i64 (ix s10.2.2.1 (w64 ((s10.2.2.1.length : Int) - 1))).Kind]) rfl m0 k8_p1 rfl (by rfl) (fun _ _ _ h => by obtain ⟨A0, c0, A1, c1, A2, c2, A3, c3, A4, c4, e, _⟩ := viewGTreaty h; subst e; rfl) (loaded_1 na3 us3)) rfl ?_
         refine hx_on rfl rfl rfl rfl rfl hg8_g32 nofun (det_neq rfl rfl) rfl ?_
         refine Hd rfl rfl rfl (det_pick_on rfl hg8_g32 rfl rfl) (Hd rfl rfl rfl (mv rfl) ?_)
         refine hx_on rfl rfl rfl rfl rfl hg8_g40 nofun (mv rfl) rfl ?_
         refine hx_on rfl rfl rfl rfl rfl hg8_g40 nofun (mv rfl) rfl ?_
         refine hx_on rfl rfl rfl rfl rfl hg8_g40 nofun (det_indexO rfl rfl m0 k8_p1 un23 sz41) rfl ?_
         refine hx_on rfl rfl rfl rfl rfl hg8_g40 nofun (det_fieldO rfl m0 k8_p1 fd41_1 rfl) rfl ?_
         refine hx_on rfl rfl rfl rfl rfl hg8_g40 nofun (det_loadOX (off := 1) (cells := [.int .i64 (ix s10.2.2.1 (w64 ((s10.2.2.1.length : Int) - 1))).Kind]) rfl m0 k8_p1 rfl (by rfl) (fun _ _ _ h => by obtain ⟨A0, c0, A1, c1, A2, c2, A3, c3, A4, c4, e, _⟩ := viewGTreaty h; subst e; rfl) (loaded_1 na3 us3)) rfl ?_
         refine hx_on rfl rfl rfl rfl rfl hg8_g40 nofun (det_geq rfl rfl) rfl ?_
         refine Hd rfl rfl rfl (det_pick_on rfl hg8_g40 rfl rfl) (Hd rfl rfl rfl (mv rfl) ?_)
         refine hx_on rfl rfl rfl rfl rfl hg8_g48 nofun (mv rfl) rfl ?_
         refine hx_mutG rfl rfl rfl rfl rfl hg8_g48 (act_callS (cap := []) (W_treatymade_Deck_Next r6_2.2 2 Ba0 y6_2A0 r6_2.2.L.length y6_2c0 r8_20 hr8_20) rfl rfl rfl bd19 ⟨_, r0, rfl⟩ ⟨m0, trivial⟩) rfl (by rintro _ _ _ ⟨_, _, ⟨y8_20A0, y8_20n0, y8_20c0, rfl, rfl, rfl⟩, rfl, rfl⟩ w hs; exact hs.to ⟨_, (rs r0), trivial⟩ ⟨(ms m0), ⟨(ms (ms m0)), trivial⟩⟩) ?_
         rintro _ _ _ ⟨_, _, ⟨y8_20A0, y8_20n0, y8_20c0, rfl, rfl, rfl⟩, rfl, rfl⟩
         dsimp only [na, ca]
         refine hx_on rfl rfl rfl rfl rfl hg8_g48 nofun (det_eql rfl rfl) rfl ?_
         refine Hd rfl rfl rfl (det_pick_on rfl hg8_g48 rfl rfl) (Hd rfl rfl rfl (mv rfl) ?_)
         refine hx_on rfl rfl rfl rfl rfl hg8_g53 nofun (mv rfl) rfl ?_
         refine hx_on rfl rfl rfl rfl rfl hg8_g53 nofun (mv rfl) rfl ?_
         refine hx_on rfl rfl rfl rfl rfl hg8_g53 nofun (det_indexO rfl rfl m0 k8_p1 un23 sz41) rfl ?_
         refine hx_on rfl rfl rfl rfl rfl hg8_g53 nofun (det_fieldO rfl m0 k8_p1 fd41_9 rfl) rfl ?_
         refine hx_on rfl rfl rfl rfl rfl hg8_g53 nofun (det_loadOX (off := 10) (cells := [.int .i64 (ix s10.2.2.1 (w64 ((s10.2.2.1.length : Int) - 1))).Retention]) rfl m0 k8_p1 rfl (by rfl) (fun _ _ _ h => by obtain ⟨A0, c0, A1, c1, A2, c2, A3, c3, A4, c4, e, _⟩ := viewGTreaty h; subst e; rfl) (loaded_1 na3 us3)) rfl ?_
         refine hx_on rfl rfl rfl rfl rfl hg8_g53 nofun (mv rfl) rfl ?_
         refine hx_on rfl rfl rfl rfl rfl hg8_g53 nofun (mv rfl) rfl ?_
         refine hx_on rfl rfl rfl rfl rfl hg8_g53 nofun (det_indexO rfl rfl m0 k8_p1 un23 sz41) rfl ?_
         refine hx_on rfl rfl rfl rfl rfl hg8_g53 nofun (det_fieldO rfl m0 k8_p1 fd41_10 rfl) rfl ?_
         refine hx_on rfl rfl rfl rfl rfl hg8_g53 nofun (det_loadOX (off := 11) (cells := [.int .i64 (ix s10.2.2.1 (w64 ((s10.2.2.1.length : Int) - 1))).Limit]) rfl m0 k8_p1 rfl (by rfl) (fun _ _ _ h => by obtain ⟨A0, c0, A1, c1, A2, c2, A3, c3, A4, c4, e, _⟩ := viewGTreaty h; subst e; rfl) (loaded_1 na3 us3)) rfl ?_
         refine hx_on rfl rfl rfl rfl rfl hg8_g53 nofun (det_add rfl rfl) rfl ?_
         refine hx_on rfl rfl rfl rfl rfl hg8_g53 nofun (det_lss rfl rfl) rfl ?_
         refine Hd rfl rfl rfl (det_pick_on rfl hg8_g53 rfl rfl) (hx_end ?_)
         refine wl_know (fun _ h => h.lenF m0) (fun e => ?_)
         subst e
         refine Wn ?_
         obtain rfl := si h
         exact pn_meetG ((r8_20.2.L, r8_20.2.At, (decide ((w64 ((ix s10.2.2.1 (w64 ((s10.2.2.1.length : Int) - 1))).Retention + (ix s10.2.2.1 (w64 ((s10.2.2.1.length : Int) - 1))).Limit)) < 536870912))), y8_20A0, r8_20.2.L.length, y8_20c0, ()) rfl (Sb rfl) (fun _ h => h.to ⟨_, r0, ⟨_, r0, trivial⟩⟩ ⟨m0, trivial⟩)
        ·have h := ifF h hg8_g53
         obtain ⟨k8_p2, h⟩ := chk_some h
         refine dx_regionZ (Z := St C [_] [_, _]) 37 [[], [0], [0, 1], [0, 1, 2], [0, 1, 2], [0, 1, 2, 3, 4], [0, 1, 2, 3, 4, 5], [0, 1, 2, 3, 4, 5, 6], [0, 1, 2, 3, 4, 5, 6, 7], [0, 1, 2, 3, 4, 5, 6, 7, 8], [0, 1, 2, 3, 4, 5, 6, 7, 8, 9], [0, 1, 2, 3, 4, 5, 6, 7, 8, 9, 10], [0, 1, 2, 3, 4, 5, 6, 7, 8, 9, 10], [0, 1, 2, 3, 4, 5, 6, 7, 8, 9, 10, 11, 12], [0, 1, 2, 3, 4, 5, 6, 7, 8, 9, 10, 11, 12, 13], [0, 1, 2, 3, 4, 5, 6, 7, 8, 9, 10, 11, 12, 13, 14], [0, 1, 2, 3, 4, 5, 6, 7, 8, 9, 10, 11, 12, 13, 14, 15], [0, 1, 2, 3, 4, 5, 6, 7, 8, 9, 10, 11, 12, 13, 14, 15, 16], [0, 1, 2, 3, 4, 5, 6, 7, 8, 9, 10, 11, 12, 13, 14, 15, 16, 17], [0, 1, 2, 3, 4, 5, 6, 7, 8, 9, 10, 11, 12, 13, 14, 15, 16, 17, 18], [0, 1, 2, 3, 4, 5, 6, 7, 8, 9, 10, 11, 12, 13, 14, 15, 16, 17, 18, 19], [0, 1, 2, 3, 4, 5, 6, 7, 8, 9, 10, 11, 12, 13, 14, 15, 16, 17, 18, 19, 20], [0, 1, 2, 3, 4, 5, 6, 7, 8, 9, 10, 11, 12, 13, 14, 15, 16, 17, 18, 19, 20, 21], [0, 1, 2, 3, 4, 5, 6, 7, 8, 9, 10, 11, 12, 13, 14, 15, 16, 17, 18, 19, 20, 21, 22], [0, 1, 2, 3, 4, 5, 6, 7, 8, 9, 10, 11, 12, 13, 14, 15, 16, 17, 18, 19, 20, 21, 22, 23], [0, 1, 2, 3, 4, 5, 6, 7, 8, 9, 10, 11, 12, 13, 14, 15, 16, 17, 18, 19, 20, 21, 22, 23], [0, 1, 2, 3, 4, 5, 6, 7, 8, 9, 10, 11, 12, 13, 14, 15, 16, 17, 18, 19, 20, 21, 22, 23, 24, 25], [0, 1, 2, 3, 4, 5, 6, 7, 8, 9, 10, 11, 12, 13, 14, 15, 16, 17, 18, 19, 20, 21, 22, 23, 24, 25, 26], [0, 1, 2, 3, 4, 5, 6, 7, 8, 9, 10, 11, 12, 13, 14, 15, 16, 17, 18, 19, 20, 21, 22, 23, 24, 25, 26, 27], [0, 1, 2, 3, 4, 5, 6, 7, 8, 9, 10, 11, 12, 13, 14, 15, 16, 17, 18, 19, 20, 21, 22, 23], [0, 1, 2, 3, 4, 5, 6, 7, 8, 9, 10, 11, 12, 13, 14, 15, 16, 17, 18, 19, 20, 21, 22, 23], [0, 1, 2, 3, 4, 5, 6, 7, 8, 9, 10, 11, 12, 13, 14, 15, 16, 17, 18, 19, 20, 21, 22, 23, 29, 30], [0, 1, 2, 3, 4, 5, 6, 7, 8, 9, 10, 11, 12, 13, 14, 15, 16, 17, 18, 19, 20, 21, 22, 23, 29, 30, 31], [0, 1, 2, 3, 4, 5, 6, 7, 8, 9, 10, 11, 12, 13, 14, 15, 16, 17, 18, 19, 20, 21, 22, 23, 29, 30, 31, 32], [0, 1, 2, 3, 4, 5, 6, 7, 8, 9, 10, 11, 12, 13, 14, 15, 16, 17, 18, 19, 20, 21, 22, 23, 24, 25, 26, 27, 28, 29, 30, 31, 32, 33], [0, 1, 2, 3, 4, 5, 6, 7, 8, 9, 10, 11, 12, 13, 14, 15, 16, 17, 18, 19, 20, 21, 22, 23, 24, 25, 26, 27, 28, 29, 30, 31, 32, 33, 34], [0, 1, 2, 3, 4, 5, 6, 7, 8, 9, 10, 11, 12, 13, 14, 15, 16, 17, 18, 19, 20, 21, 22, 23, 24, 25, 26, 27, 28, 29, 30, 31, 32, 33, 34, 35]] mixed (ord := (.det 0 (.det 1 (.det 2 (.det 3 (.det 4 (.det 5 (.det 6 (.det 7 (.det 8 (.det 9 (.det 10 (.det 11 (.det 12 (.det 13 (.det 14 (.det 15 (.det 16 (.det 17 (.det 18 (.det 19 (.alt 20 (.det 21 (.det 22 (.det 23 (.det 24 (.det 25 (.det 26 (.det 27 (.det 28 (.det 29 (.det 30 (.det 31 (.det 32 (.det 33 (.det 34 (.det 35 (.det 36 .done)))))))))))))))) .dead)))))))))))))))))))))) (by kernel_rfl) (fun _ h => h.to ⟨_, (rs r0), trivial⟩ ⟨m0, ⟨(ms m0), trivial⟩⟩) ?_
         refine Hd rfl rfl rfl (mv rfl) (Hd rfl rfl rfl (det_geq rfl rfl) (Hd rfl rfl rfl (mv rfl) ?_))
         refine hx_on rfl rfl rfl rfl rfl hg8_g32 nofun (mv rfl) rfl ?_
         refine hx_on rfl rfl rfl rfl rfl hg8_g32 nofun (mv rfl) rfl ?_
         refine hx_on rfl rfl rfl rfl rfl hg8_g32 nofun (det_indexO rfl rfl m0 k8_p2 un23 sz41) rfl ?_
         refine hx_on rfl rfl rfl rfl rfl hg8_g32 nofun (det_fieldO rfl m0 k8_p2 fd41_1 rfl) rfl ?_
         refine hx_on rfl rfl rfl rfl rfl hg8_g32 nofun (det_loadOX (off := 1) (cells := [.int .i64 (ix s10.2.2.1 (w64 ((s10.2.2.1.length : Int) - 1))).Kind]) rfl m0 k8_p2 rfl (by rfl) (fun _ _ _ h => by obtain ⟨A0, c0, A1, c1, A2, c2, A3, c3, A4, c4, e, _⟩ := viewGTreaty h; subst e; rfl) (loaded_1 na3 us3)) rfl ?_
         refine hx_on rfl rfl rfl rfl rfl hg8_g32 nofun (det_neq rfl rfl) rfl ?_
         refine Hd rfl rfl rfl (det_pick_on rfl hg8_g32 rfl rfl) (Hd rfl rfl rfl (mv rfl) ?_)
         refine hx_on rfl rfl rfl rfl rfl hg8_g40 nofun (mv rfl) rfl ?_
         refine hx_on rfl rfl rfl rfl rfl hg8_g40 nofun (mv rfl) rfl ?_
         refine hx_on rfl rfl rfl rfl rfl hg8_g40 nofun (det_indexO rfl rfl m0 k8_p2 un23 sz41) rfl ?_
         refine hx_on rfl rfl rfl rfl rfl hg8_g40 nofun (det_fieldO rfl m0 k8_p2 fd41_1 rfl) rfl ?_
         refine hx_on rfl rfl rfl rfl rfl hg8_g40 nofun (det_loadOX (off := 1) (cells := [.int .i64 (ix s10.2.2.1 (w64 ((s10.2.2.1.length : Int) - 1))).Kind]) rfl m0 k8_p2 rfl (by rfl) (fun _ _ _ h => by obtain ⟨A0, c0, A1, c1, A2, c2, A3, c3, A4, c4, e, _⟩ := viewGTreaty h; subst e; rfl) (loaded_1 na3 us3)) rfl ?_
         refine hx_on rfl rfl rfl rfl rfl hg8_g40 nofun (det_geq rfl rfl) rfl ?_
         refine Hd rfl rfl rfl (det_pick_on rfl hg8_g40 rfl rfl) (Hd rfl rfl rfl (mv rfl) ?_)
         refine hx_on rfl rfl rfl rfl rfl hg8_g48 nofun (mv rfl) rfl ?_
         refine hx_mutG rfl rfl rfl rfl rfl hg8_g48 (act_callS (cap := []) (W_treatymade_Deck_Next r6_2.2 2 Ba0 y6_2A0 r6_2.2.L.length y6_2c0 r8_20 hr8_20) rfl rfl rfl bd19 ⟨_, r0, rfl⟩ ⟨m0, trivial⟩) rfl (by rintro _ _ _ ⟨_, _, ⟨y8_20A0, y8_20n0, y8_20c0, rfl, rfl, rfl⟩, rfl, rfl⟩ w hs; exact hs.to ⟨_, (rs r0), trivial⟩ ⟨(ms m0), ⟨(ms (ms m0)), trivial⟩⟩) ?_
         rintro _ _ _ ⟨_, _, ⟨y8_20A0, y8_20n0, y8_20c0, rfl, rfl, rfl⟩, rfl, rfl⟩
         dsimp only [na, ca]
         refine hx_on rfl rfl rfl rfl rfl hg8_g48 nofun (det_eql rfl rfl) rfl ?_
         refine Hd rfl rfl rfl (det_pick_on rfl hg8_g48 rfl rfl) (Hd rfl rfl rfl (mv rfl) ?_)
         refine hx_off rfl rfl rfl rfl rfl hg8_g53 rfl ?_
         refine hx_off rfl rfl rfl rfl rfl hg8_g53 rfl ?_
         refine hx_off rfl rfl rfl rfl rfl hg8_g53 rfl ?_
         refine hx_off rfl rfl rfl rfl rfl hg8_g53 rfl ?_
         refine hx_off rfl rfl rfl rfl rfl hg8_g53 rfl ?_
         refine hx_off rfl rfl rfl rfl rfl hg8_g53 rfl ?_
         refine hx_off rfl rfl rfl rfl rfl hg8_g53 rfl ?_
         refine hx_off rfl rfl rfl rfl rfl hg8_g53 rfl ?_
         refine hx_off rfl rfl rfl rfl rfl hg8_g53 rfl ?_
         refine hx_off rfl rfl rfl rfl rfl hg8_g53 rfl ?_
         refine hx_off rfl rfl rfl rfl rfl hg8_g53 rfl ?_
         refine hx_off rfl rfl rfl rfl rfl hg8_g53 rfl ?_
         refine Hd rfl rfl rfl (det_pick_off rfl hg8_g53 rfl rfl) (hx_end ?_)
         refine wl_know (fun _ h => h.lenF m0) (fun e => ?_)
         subst e
         refine Wn ?_
         obtain rfl := si h
         exact pn_meetG ((r8_20.2.L, r8_20.2.At, false), y8_20A0, r8_20.2.L.length, y8_20c0, ()) rfl (Sb rfl) (fun _ h => h.to ⟨_, r0, ⟨_, r0, trivial⟩⟩ ⟨m0, trivial⟩)
       ·have h := ifF h hg8_g48
        obtain ⟨k8_p3, h⟩ := chk_some h
        refine dx_region 37 [[], [0], [0, 1], [0, 1, 2], [0, 1, 2], [0, 1, 2, 3, 4], [0, 1, 2, 3, 4, 5], [0, 1, 2, 3, 4, 5, 6], [0, 1, 2, 3, 4, 5, 6, 7], [0, 1, 2, 3, 4, 5, 6, 7, 8], [0, 1, 2, 3, 4, 5, 6, 7, 8, 9], [0, 1, 2, 3, 4, 5, 6, 7, 8, 9, 10], [0, 1, 2, 3, 4, 5, 6, 7, 8, 9, 10], [0, 1, 2, 3, 4, 5, 6, 7, 8, 9, 10, 11, 12], [0, 1, 2, 3, 4, 5, 6, 7, 8, 9, 10, 11, 12, 13], [0, 1, 2, 3, 4, 5, 6, 7, 8, 9, 10, 11, 12, 13, 14], [0, 1, 2, 3, 4, 5, 6, 7, 8, 9, 10, 11, 12, 13, 14, 15], [0, 1, 2, 3, 4, 5, 6, 7, 8, 9, 10, 11, 12, 13, 14, 15, 16], [0, 1, 2, 3, 4, 5, 6, 7, 8, 9, 10, 11, 12, 13, 14, 15, 16, 17], [0, 1, 2, 3, 4, 5, 6, 7, 8, 9, 10, 11, 12, 13, 14, 15, 16, 17, 18], [0, 1, 2, 3, 4, 5, 6, 7, 8, 9, 10, 11, 12, 13, 14, 15, 16, 17, 18, 19], [0, 1, 2, 3, 4, 5, 6, 7, 8, 9, 10, 11, 12, 13, 14, 15, 16, 17, 18, 19, 20], [0, 1, 2, 3, 4, 5, 6, 7, 8, 9, 10, 11, 12, 13, 14, 15, 16, 17, 18, 19, 20, 21], [0, 1, 2, 3, 4, 5, 6, 7, 8, 9, 10, 11, 12, 13, 14, 15, 16, 17, 18, 19, 20, 21, 22], [0, 1, 2, 3, 4, 5, 6, 7, 8, 9, 10, 11, 12, 13, 14, 15, 16, 17, 18, 19, 20, 21, 22, 23], [0, 1, 2, 3, 4, 5, 6, 7, 8, 9, 10, 11, 12, 13, 14, 15, 16, 17, 18, 19, 20, 21, 22, 23], [0, 1, 2, 3, 4, 5, 6, 7, 8, 9, 10, 11, 12, 13, 14, 15, 16, 17, 18, 19, 20, 21, 22, 23, 24, 25], [0, 1, 2, 3, 4, 5, 6, 7, 8, 9, 10, 11, 12, 13, 14, 15, 16, 17, 18, 19, 20, 21, 22, 23, 24, 25, 26], [0, 1, 2, 3, 4, 5, 6, 7, 8, 9, 10, 11, 12, 13, 14, 15, 16, 17, 18, 19, 20, 21, 22, 23, 24, 25, 26, 27], [0, 1, 2, 3, 4, 5, 6, 7, 8, 9, 10, 11, 12, 13, 14, 15, 16, 17, 18, 19, 20, 21, 22, 23], [0, 1, 2, 3, 4, 5, 6, 7, 8, 9, 10, 11, 12, 13, 14, 15, 16, 17, 18, 19, 20, 21, 22, 23], [0, 1, 2, 3, 4, 5, 6, 7, 8, 9, 10, 11, 12, 13, 14, 15, 16, 17, 18, 19, 20, 21, 22, 23, 29, 30], [0, 1, 2, 3, 4, 5, 6, 7, 8, 9, 10, 11, 12, 13, 14, 15, 16, 17, 18, 19, 20, 21, 22, 23, 29, 30, 31], [0, 1, 2, 3, 4, 5, 6, 7, 8, 9, 10, 11, 12, 13, 14, 15, 16, 17, 18, 19, 20, 21, 22, 23, 29, 30, 31, 32], [0, 1, 2, 3, 4, 5, 6, 7, 8, 9, 10, 11, 12, 13, 14, 15, 16, 17, 18, 19, 20, 21, 22, 23, 24, 25, 26, 27, 28, 29, 30, 31, 32, 33], [0, 1, 2, 3, 4, 5, 6, 7, 8, 9, 10, 11, 12, 13, 14, 15, 16, 17, 18, 19, 20, 21, 22, 23, 24, 25, 26, 27, 28, 29, 30, 31, 32, 33, 34], [0, 1, 2, 3, 4, 5, 6, 7, 8, 9, 10, 11, 12, 13, 14, 15, 16, 17, 18, 19, 20, 21, 22, 23, 24, 25, 26, 27, 28, 29, 30, 31, 32, 33, 34, 35]] mixed (ord := (.det 0 (.det 1 (.det 2 (.det 3 (.det 4 (.det 5 (.det 6 (.det 7 (.det 8 (.det 9 (.det 10 (.det 11 (.det 12 (.det 13 (.det 14 (.det 15 (.det 16 (.det 17 (.det 18 (.det 19 (.det 20 (.det 21 (.det 22 (.det 23 (.det 24 (.det 25 (.det 26 (.det 27 (.det 28 (.det 29 (.det 30 (.det 31 (.det 32 (.det 33 (.det 34 (.det 35 (.det 36 .done)))))))))))))))))))))))))))))))))))))) (by kernel_rfl) ?_
        refine Hd rfl rfl rfl (mv rfl) (Hd rfl rfl rfl (det_geq rfl rfl) (Hd rfl rfl rfl (mv rfl) ?_))
        refine hx_on rfl rfl rfl rfl rfl hg8_g32 nofun (mv rfl) rfl ?_
        refine hx_on rfl rfl rfl rfl rfl hg8_g32 nofun (mv rfl) rfl ?_
        refine hx_on rfl rfl rfl rfl rfl hg8_g32 nofun (det_indexO rfl rfl (ms m0) k8_p3 un23 sz41) rfl ?_
        refine hx_on rfl rfl rfl rfl rfl hg8_g32 nofun (det_fieldO rfl (ms m0) k8_p3 fd41_1 rfl) rfl ?_
        refine hx_on rfl rfl rfl rfl rfl hg8_g32 nofun (det_loadOX (off := 1) (cells := [.int .i64 (ix s10.2.2.1 (w64 ((s10.2.2.1.length : Int) - 1))).Kind]) rfl (ms m0) k8_p3 rfl (by rfl) (fun _ _ _ h => by obtain ⟨A0, c0, A1, c1, A2, c2, A3, c3, A4, c4, e, _⟩ := viewGTreaty h; subst e; rfl) (loaded_1 na3 us3)) rfl ?_
        refine hx_on rfl rfl rfl rfl rfl hg8_g32 nofun (det_neq rfl rfl) rfl ?_
        refine Hd rfl rfl rfl (det_pick_on rfl hg8_g32 rfl rfl) (Hd rfl rfl rfl (mv rfl) ?_)
        refine hx_on rfl rfl rfl rfl rfl hg8_g40 nofun (mv rfl) rfl ?_
        refine hx_on rfl rfl rfl rfl rfl hg8_g40 nofun (mv rfl) rfl ?_
        refine hx_on rfl rfl rfl rfl rfl hg8_g40 nofun (det_indexO rfl rfl (ms m0) k8_p3 un23 sz41) rfl ?_
        refine hx_on rfl rfl rfl rfl rfl hg8_g40 nofun (det_fieldO rfl (ms m0) k8_p3 fd41_1 rfl) rfl ?_
        refine hx_on rfl rfl rfl rfl rfl hg8_g40 nofun (det_loadOX (off := 1) (cells := [.int .i64 (ix s10.2.2.1 (w64 ((s10.2.2.1.length : Int) - 1))).Kind]) rfl (ms m0) k8_p3 rfl (by rfl) (fun _ _ _ h => by obtain ⟨A0, c0, A1, c1, A2, c2, A3, c3, A4, c4, e, _⟩ := viewGTreaty h; subst e; rfl) (loaded_1 na3 us3)) rfl ?_
        refine hx_on rfl rfl rfl rfl rfl hg8_g40 nofun (det_geq rfl rfl) rfl ?_
        refine Hd rfl rfl rfl (det_pick_on rfl hg8_g40 rfl rfl) (Hd rfl rfl rfl (mv rfl) ?_)
        refine hx_off rfl rfl rfl rfl rfl hg8_g48 rfl ?_
        refine hx_off rfl rfl rfl rfl rfl hg8_g48 rfl ?_
        refine hx_off rfl rfl rfl rfl rfl hg8_g48 rfl ?_
        refine Hd rfl rfl rfl (det_pick_off rfl hg8_g48 rfl rfl) (Hd rfl rfl rfl (mv rfl) ?_)
        refine hx_off rfl rfl rfl rfl rfl rfl rfl ?_
        refine hx_off rfl rfl rfl rfl rfl rfl rfl ?_
        refine hx_off rfl rfl rfl rfl rfl rfl rfl ?_
        refine hx_off rfl rfl rfl rfl rfl rfl rfl ?_
        refine hx_off rfl rfl rfl rfl rfl rfl rfl ?_
        refine hx_off rfl rfl rfl rfl rfl rfl rfl ?_
        refine hx_off rfl rfl rfl rfl rfl rfl rfl ?_
        refine hx_off rfl rfl rfl rfl rfl rfl rfl ?_
        refine hx_off rfl rfl rfl rfl rfl rfl rfl ?_
        refine hx_off rfl rfl rfl rfl rfl rfl rfl ?_
        refine hx_off rfl rfl rfl rfl rfl rfl rfl ?_
        refine hx_off rfl rfl rfl rfl rfl rfl rfl ?_
        refine Hd rfl rfl rfl (det_pick_off rfl rfl rfl rfl) (hx_end (Wn ?_))
        obtain rfl := si h
        exact pn_meetG ((r6_2.2.L, r6_2.2.At, false), y6_2A0, r6_2.2.L.length, y6_2c0, ()) rfl (Sb rfl) (fun _ h => h.to ⟨_, r0, ⟨_, r0, trivial⟩⟩ ⟨m0, trivial⟩)
      ·have h := ifF h hg8_g40
       obtain ⟨k8_p4, h⟩ := chk_some h
       refine dx_region 37 [[], [0], [0, 1], [0, 1, 2], [0, 1, 2], [0, 1, 2, 3, 4], [0, 1, 2, 3, 4, 5], [0, 1, 2, 3, 4, 5, 6], [0, 1, 2, 3, 4, 5, 6, 7], [0, 1, 2, 3, 4, 5, 6, 7, 8], [0, 1, 2, 3, 4, 5, 6, 7, 8, 9], [0, 1, 2, 3, 4, 5, 6, 7, 8, 9, 10], [0, 1, 2, 3, 4, 5, 6, 7, 8, 9, 10], [0, 1, 2, 3, 4, 5, 6, 7, 8, 9, 10, 11, 12], [0, 1, 2, 3, 4, 5, 6, 7, 8, 9, 10, 11, 12, 13], [0, 1, 2, 3, 4, 5, 6, 7, 8, 9, 10, 11, 12, 13, 14], [0, 1, 2, 3, 4, 5, 6, 7, 8, 9, 10, 11, 12, 13, 14, 15], [0, 1, 2, 3, 4, 5, 6, 7, 8, 9, 10, 11, 12, 13, 14, 15, 16], [0, 1, 2, 3, 4, 5, 6, 7, 8, 9, 10, 11, 12, 13, 14, 15, 16, 17], [0, 1, 2, 3, 4, 5, 6, 7, 8, 9, 10, 11, 12, 13, 14, 15, 16, 17, 18], [0, 1, 2, 3, 4, 5, 6, 7, 8, 9, 10, 11, 12, 13, 14, 15, 16, 17, 18, 19], [0, 1, 2, 3, 4, 5, 6, 7, 8, 9, 10, 11, 12, 13, 14, 15, 16, 17, 18, 19, 20], [0, 1, 2, 3, 4, 5, 6, 7, 8, 9, 10, 11, 12, 13, 14, 15, 16, 17, 18, 19, 20, 21], [0, 1, 2, 3, 4, 5, 6, 7, 8, 9, 10, 11, 12, 13, 14, 15, 16, 17, 18, 19, 20, 21, 22], [0, 1, 2, 3, 4, 5, 6, 7, 8, 9, 10, 11, 12, 13, 14, 15, 16, 17, 18, 19, 20, 21, 22, 23], [0, 1, 2, 3, 4, 5, 6, 7, 8, 9, 10, 11, 12, 13, 14, 15, 16, 17, 18, 19, 20, 21, 22, 23], [0, 1, 2, 3, 4, 5, 6, 7, 8, 9, 10, 11, 12, 13, 14, 15, 16, 17, 18, 19, 20, 21, 22, 23, 24, 25], [0, 1, 2, 3, 4, 5, 6, 7, 8, 9, 10, 11, 12, 13, 14, 15, 16, 17, 18, 19, 20, 21, 22, 23, 24, 25, 26], [0, 1, 2, 3, 4, 5, 6, 7, 8, 9, 10, 11, 12, 13, 14, 15, 16, 17, 18, 19, 20, 21, 22, 23, 24, 25, 26, 27], [0, 1, 2, 3, 4, 5, 6, 7, 8, 9, 10, 11, 12, 13, 14, 15, 16, 17, 18, 19, 20, 21, 22, 23], [0, 1, 2, 3, 4, 5, 6, 7, 8, 9, 10, 11, 12, 13, 14, 15, 16, 17, 18, 19, 20, 21, 22, 23], [0, 1, 2, 3, 4, 5, 6, 7, 8, 9, 10, 11, 12, 13, 14, 15, 16, 17, 18, 19, 20, 21, 22, 23, 29, 30], [0, 1, 2, 3, 4, 5, 6, 7, 8, 9, 10, 11, 12, 13, 14, 15, 16, 17, 18, 19, 20, 21, 22, 23, 29, 30, 31], [0, 1, 2, 3, 4, 5, 6, 7, 8, 9, 10, 11, 12, 13, 14, 15, 16, 17, 18, 19, 20, 21, 22, 23, 29, 30, 31, 32], [0, 1, 2, 3, 4, 5, 6, 7, 8, 9, 10, 11, 12, 13, 14, 15, 16, 17, 18, 19, 20, 21, 22, 23, 24, 25, 26, 27, 28, 29, 30, 31, 32, 33], [0, 1, 2, 3, 4, 5, 6, 7, 8, 9, 10, 11, 12, 13, 14, 15, 16, 17, 18, 19, 20, 21, 22, 23, 24, 25, 26, 27, 28, 29, 30, 31, 32, 33, 34], [0, 1, 2, 3, 4, 5, 6, 7, 8, 9, 10, 11, 12, 13, 14, 15, 16, 17, 18, 19, 20, 21, 22, 23, 24, 25, 26, 27, 28, 29, 30, 31, 32, 33, 34, 35]] mixed (ord := (.det 0 (.det 1 (.det 2 (.det 3 (.det 4 (.det 5 (.det 6 (.det 7 (.det 8 (.det 9 (.det 10 (.det 11 (.det 12 (.det 13 (.det 14 (.det 15 (.det 16 (.det 17 (.det 18 (.det 19 (.det 20 (.det 21 (.det 22 (.det 23 (.det 24 (.det 25 (.det 26 (.det 27 (.det 28 (.det 29 (.det 30 (.det 31 (.det 32 (.det 33 (.det 34 (.det 35 (.det 36 .done)))))))))))))))))))))))))))))))))))))) (by kernel_rfl) ?_
       refine Hd rfl rfl rfl (mv rfl) (Hd rfl rfl rfl (det_geq rfl rfl) (Hd rfl rfl rfl (mv rfl) ?_))
       refine hx_on rfl rfl rfl rfl rfl hg8_g32 nofun (mv rfl) rfl ?_
       refine hx_on rfl rfl rfl rfl rfl hg8_g32 nofun (mv rfl) rfl ?_
       refine hx_on rfl rfl rfl rfl rfl hg8_g32 nofun (det_indexO rfl rfl (ms m0) k8_p4 un23 sz41) rfl ?_
       refine hx_on rfl rfl rfl rfl rfl hg8_g32 nofun (det_fieldO rfl (ms m0) k8_p4 fd41_1 rfl) rfl ?_
       refine hx_on rfl rfl rfl rfl rfl hg8_g32 nofun (det_loadOX (off := 1) (cells := [.int .i64 (ix s10.2.2.1 (w64 ((s10.2.2.1.length : Int) - 1))).Kind]) rfl (ms m0) k8_p4 rfl (by rfl) (fun _ _ _ h => by obtain ⟨A0, c0, A1, c1, A2, c2, A3, c3, A4, c4, e, _⟩ := viewGTreaty h; subst e; rfl) (loaded_1 na3 us3)) rfl ?_
       refine hx_on rfl rfl rfl rfl rfl hg8_g32 nofun (det_neq rfl rfl) rfl ?_
       refine Hd rfl rfl rfl (det_pick_on rfl hg8_g32 rfl rfl) (Hd rfl rfl rfl (mv rfl) ?_)
       refine hx_off rfl rfl rfl rfl rfl hg8_g40 rfl ?_
       refine hx_off rfl rfl rfl rfl rfl hg8_g40 rfl ?_
       refine hx_off rfl rfl rfl rfl rfl hg8_g40 rfl ?_
       refine hx_off rfl rfl rfl rfl rfl hg8_g40 rfl ?_
       refine hx_off rfl rfl rfl rfl rfl hg8_g40 rfl ?_
       refine hx_off rfl rfl rfl rfl rfl hg8_g40 rfl ?_
       refine Hd rfl rfl rfl (det_pick_off rfl hg8_g40 rfl rfl) (Hd rfl rfl rfl (mv rfl) ?_)
       refine hx_off rfl rfl rfl rfl rfl rfl rfl ?_
       refine hx_off rfl rfl rfl rfl rfl rfl rfl ?_
       refine hx_off rfl rfl rfl rfl rfl rfl rfl ?_
       refine Hd rfl rfl rfl (det_pick_off rfl rfl rfl rfl) (Hd rfl rfl rfl (mv rfl) ?_)
       refine hx_off rfl rfl rfl rfl rfl rfl rfl ?_
       refine hx_off rfl rfl rfl rfl rfl rfl rfl ?_
       refine hx_off rfl rfl rfl rfl rfl rfl rfl ?_
       refine hx_off rfl rfl rfl rfl rfl rfl rfl ?_
       refine hx_off rfl rfl rfl rfl rfl rfl rfl ?_
       refine hx_off rfl rfl rfl rfl rfl rfl rfl ?_
       refine hx_off rfl rfl rfl rfl rfl rfl rfl ?_
       refine hx_off rfl rfl rfl rfl rfl rfl rfl ?_
       refine hx_off rfl rfl rfl rfl rfl rfl rfl ?_
       refine hx_off rfl rfl rfl rfl rfl rfl rfl ?_
       refine hx_off rfl rfl rfl rfl rfl rfl rfl ?_
       refine hx_off rfl rfl rfl rfl rfl rfl rfl ?_
       refine Hd rfl rfl rfl (det_pick_off rfl rfl rfl rfl) (hx_end (Wn ?_))
       obtain rfl := si h
       exact pn_meetG ((r6_2.2.L, r6_2.2.At, false), y6_2A0, r6_2.2.L.length, y6_2c0, ()) rfl (Sb rfl) (fun _ h => h.to ⟨_, r0, ⟨_, r0, trivial⟩⟩ ⟨m0, trivial⟩)
     ·have h := ifF h hg8_g32
      refine dx_region 37 [[], [0], [0, 1], [0, 1, 2], [0, 1, 2], [0, 1, 2, 3, 4], [0, 1, 2, 3, 4, 5], [0, 1, 2, 3, 4, 5, 6], [0, 1, 2, 3, 4, 5, 6, 7], [0, 1, 2, 3, 4, 5, 6, 7, 8], [0, 1, 2, 3, 4, 5, 6, 7, 8, 9], [0, 1, 2, 3, 4, 5, 6, 7, 8, 9, 10], [0, 1, 2, 3, 4, 5, 6, 7, 8, 9, 10], [0, 1, 2, 3, 4, 5, 6, 7, 8, 9, 10, 11, 12], [0, 1, 2, 3, 4, 5, 6, 7, 8, 9, 10, 11, 12, 13], [0, 1, 2, 3, 4, 5, 6, 7, 8, 9, 10, 11, 12, 13, 14], [0, 1, 2, 3, 4, 5, 6, 7, 8, 9, 10, 11, 12, 13, 14, 15], [0, 1, 2, 3, 4, 5, 6, 7, 8, 9, 10, 11, 12, 13, 14, 15, 16], [0, 1, 2, 3, 4, 5, 6, 7, 8, 9, 10, 11, 12, 13, 14, 15, 16, 17], [0, 1, 2, 3, 4, 5, 6, 7, 8, 9, 10, 11, 12, 13, 14, 15, 16, 17, 18], [0, 1, 2, 3, 4, 5, 6, 7, 8, 9, 10, 11, 12, 13, 14, 15, 16, 17, 18, 19], [0, 1, 2, 3, 4, 5, 6, 7, 8, 9, 10, 11, 12, 13, 14, 15, 16, 17, 18, 19, 20], [0, 1, 2, 3, 4, 5, 6, 7, 8, 9, 10, 11, 12, 13, 14, 15, 16, 17, 18, 19, 20, 21], [0, 1, 2, 3, 4, 5, 6, 7, 8, 9, 10, 11, 12, 13, 14, 15, 16, 17, 18, 19, 20, 21, 22], [0, 1, 2, 3, 4, 5, 6, 7, 8, 9, 10, 11, 12, 13, 14, 15, 16, 17, 18, 19, 20, 21, 22, 23], [0, 1, 2, 3, 4, 5, 6, 7, 8, 9, 10, 11, 12, 13, 14, 15, 16, 17, 18, 19, 20, 21, 22, 23], [0, 1, 2, 3, 4, 5, 6, 7, 8, 9, 10, 11, 12, 13, 14, 15, 16, 17, 18, 19, 20, 21, 22, 23, 24, 25], [0, 1, 2, 3, 4, 5, 6, 7, 8, 9, 10, 11, 12, 13, 14, 15, 16, 17, 18, 19, 20, 21, 22, 23, 24, 25, 26], [0, 1, 2, 3, 4, 5, 6, 7, 8, 9, 10, 11, 12, 13, 14, 15, 16, 17, 18, 19, 20, 21, 22, 23, 24, 25, 26, 27], [0, 1, 2, 3, 4, 5, 6, 7, 8, 9, 10, 11, 12, 13, 14, 15, 16, 17, 18, 19, 20, 21, 22, 23], [0, 1, 2, 3, 4, 5, 6, 7, 8, 9, 10, 11, 12, 13, 14, 15, 16, 17, 18, 19, 20, 21, 22, 23], [0, 1, 2, 3, 4, 5, 6, 7, 8, 9, 10, 11, 12, 13, 14, 15, 16, 17, 18, 19, 20, 21, 22, 23, 29, 30], [0, 1, 2, 3, 4, 5, 6, 7, 8, 9, 10, 11, 12, 13, 14, 15, 16, 17, 18, 19, 20, 21, 22, 23, 29, 30, 31], [0, 1, 2, 3, 4, 5, 6, 7, 8, 9, 10, 11, 12, 13, 14, 15, 16, 17, 18, 19, 20, 21, 22, 23, 29, 30, 31, 32], [0, 1, 2, 3, 4, 5, 6, 7, 8, 9, 10, 11, 12, 13, 14, 15, 16, 17, 18, 19, 20, 21, 22, 23, 24, 25, 26, 27, 28, 29, 30, 31, 32, 33], [0, 1, 2, 3, 4, 5, 6, 7, 8, 9, 10, 11, 12, 13, 14, 15, 16, 17, 18, 19, 20, 21, 22, 23, 24, 25, 26, 27, 28, 29, 30, 31, 32, 33, 34], [0, 1, 2, 3, 4, 5, 6, 7, 8, 9, 10, 11, 12, 13, 14, 15, 16, 17, 18, 19, 20, 21, 22, 23, 24, 25, 26, 27, 28, 29, 30, 31, 32, 33, 34, 35]] mixed (ord := (.det 0 (.det 1 (.det 2 (.det 3 (.det 4 (.det 5 (.det 6 (.det 7 (.det 8 (.det 9 (.det 10 (.det 11 (.det 12 (.det 13 (.det 14 (.det 15 (.det 16 (.det 17 (.det 18 (.det 19 (.det 20 (.det 21 (.det 22 (.det 23 (.det 24 (.det 25 (.det 26 (.det 27 (.det 28 (.det 29 (.det 30 (.det 31 (.det 32 (.det 33 (.det 34 (.det 35 (.det 36 .done)))))))))))))))))))))))))))))))))))))) (by kernel_rfl) ?_
      refine Hd rfl rfl rfl (mv rfl) (Hd rfl rfl rfl (det_geq rfl rfl) (Hd rfl rfl rfl (mv rfl) ?_))
      refine hx_off rfl rfl rfl rfl rfl hg8_g32 rfl ?_
      refine hx_off rfl rfl rfl rfl rfl hg8_g32 rfl ?_
      refine hx_off rfl rfl rfl rfl rfl hg8_g32 rfl ?_
      refine hx_off rfl rfl rfl rfl rfl hg8_g32 rfl ?_
      refine hx_off rfl rfl rfl rfl rfl hg8_g32 rfl ?_
      refine hx_off rfl rfl rfl rfl rfl hg8_g32 rfl ?_
      refine Hd rfl rfl rfl (det_pick_off rfl hg8_g32 rfl rfl) (Hd rfl rfl rfl (mv rfl) ?_)
      refine hx_off rfl rfl rfl rfl rfl rfl rfl ?_
      refine hx_off rfl rfl rfl rfl rfl rfl rfl ?_
      refine hx_off rfl rfl rfl rfl rfl rfl rfl ?_
      refine hx_off rfl rfl rfl rfl rfl rfl rfl ?_
      refine hx_off rfl rfl rfl rfl rfl rfl rfl ?_
      refine hx_off rfl rfl rfl rfl rfl rfl rfl ?_
      refine Hd rfl rfl rfl (det_pick_off rfl rfl rfl rfl) (Hd rfl rfl rfl (mv rfl) ?_)
      refine hx_off rfl rfl rfl rfl rfl rfl rfl ?_
      refine hx_off rfl rfl rfl rfl rfl rfl rfl ?_
      refine hx_off rfl rfl rfl rfl rfl rfl rfl ?_
      refine Hd rfl rfl rfl (det_pick_off rfl rfl rfl rfl) (Hd rfl rfl rfl (mv rfl) ?_)
      refine hx_off rfl rfl rfl rfl rfl rfl rfl ?_
      refine hx_off rfl rfl rfl rfl rfl rfl rfl ?_
      refine hx_off rfl rfl rfl rfl rfl rfl rfl ?_
      refine hx_off rfl rfl rfl rfl rfl rfl rfl ?_
      refine hx_off rfl rfl rfl rfl rfl rfl rfl ?_
      refine hx_off rfl rfl rfl rfl rfl rfl rfl ?_
      refine hx_off rfl rfl rfl rfl rfl rfl rfl ?_
      refine hx_off rfl rfl rfl rfl rfl rfl rfl ?_
      refine hx_off rfl rfl rfl rfl rfl rfl rfl ?_
      refine hx_off rfl rfl rfl rfl rfl rfl rfl ?_
      refine hx_off rfl rfl rfl rfl rfl rfl rfl ?_
      refine hx_off rfl rfl rfl rfl rfl rfl rfl ?_
      refine Hd rfl rfl rfl (det_pick_off rfl rfl rfl rfl) (hx_end (Wn ?_))
      obtain rfl := si h
      exact pn_meetG ((r6_2.2.L, r6_2.2.At, false), y6_2A0, r6_2.2.L.length, y6_2c0, ()) rfl (Sb rfl) (fun _ h => h.to ⟨_, r0, ⟨_, r0, trivial⟩⟩ ⟨m0, trivial⟩)
    rintro ⟨s23, A23_0, n23_0, c23_0, _⟩ e23
    dsimp only at e23 ⊢
    subst e23
    have h := ho23
    refine wc_know (fun _ h => h.lenF m0) (fun e => ?_)
    subst e
    refine wc_cond rfl (fun cd25 => ?_) (fun cd25 => ?_)
    ·have h := ifT h cd25
     refine Wq (Wr (D rfl (mv rfl) (D rfl (mv rfl) ?_)))
     obtain ⟨k9_2, h⟩ := chk_some h
     refine D rfl (det_indexO rfl rfl (ms m0) k9_2 un23 sz41) (Ac rfl (act_loadX (G := Option Addr × Nat × Option Addr × Nat × Option Addr × Nat × Option Addr × Nat × Option Addr × Nat) (off := 0) (cnt := 21) (cells := fun g => [.int .i64 (ix s10.2.2.1 (w64 ((s10.2.2.1.length : Int) - 1))).ID, .int .i64 (ix s10.2.2.1 (w64 ((s10.2.2.1.length : Int) - 1))).Kind, .int .i64 (ix s10.2.2.1 (w64 ((s10.2.2.1.length : Int) - 1))).Period.From, .int .i64 (ix s10.2.2.1 (w64 ((s10.2.2.1.length : Int) - 1))).Period.To, .slice g.1 (ix s10.2.2.1 (w64 ((s10.2.2.1.length : Int) - 1))).Perils.length g.2.1, .slice g.2.2.1 (ix s10.2.2.1 (w64 ((s10.2.2.1.length : Int) - 1))).Areas.length g.2.2.2.1, .int .i64 (ix s10.2.2.1 (w64 ((s10.2.2.1.length : Int) - 1))).Risk, .int .i64 (ix s10.2.2.1 (w64 ((s10.2.2.1.length : Int) - 1))).Cession, .int .i64 (ix s10.2.2.1 (w64 ((s10.2.2.1.length : Int) - 1))).Line, .int .i64 (ix s10.2.2.1 (w64 ((s10.2.2.1.length : Int) - 1))).Lines, .int .i64 (ix s10.2.2.1 (w64 ((s10.2.2.1.length : Int) - 1))).Retention, .int .i64 (ix s10.2.2.1 (w64 ((s10.2.2.1.length : Int) - 1))).Limit, .int .i64 (ix s10.2.2.1 (w64 ((s10.2.2.1.length : Int) - 1))).Window, .int .i64 (ix s10.2.2.1 (w64 ((s10.2.2.1.length : Int) - 1))).Deductible, .int .i64 (ix s10.2.2.1 (w64 ((s10.2.2.1.length : Int) - 1))).Aggregate, .int .i64 (ix s10.2.2.1 (w64 ((s10.2.2.1.length : Int) - 1))).Premium, .slice g.2.2.2.2.1 (ix s10.2.2.1 (w64 ((s10.2.2.1.length : Int) - 1))).Reinstatements.length g.2.2.2.2.2.1, .bool (ix s10.2.2.1 (w64 ((s10.2.2.1.length : Int) - 1))).Timed, .int .i64 (ix s10.2.2.1 (w64 ((s10.2.2.1.length : Int) - 1))).Base, .slice g.2.2.2.2.2.2.1 (ix s10.2.2.1 (w64 ((s10.2.2.1.length : Int) - 1))).Inures.length g.2.2.2.2.2.2.2.1, .slice g.2.2.2.2.2.2.2.2.1 (ix s10.2.2.1 (w64 ((s10.2.2.1.length : Int) - 1))).Parts.length g.2.2.2.2.2.2.2.2.2]) (fs := fun g => [fV (lSlice (lInt .i64)) (.slice g.1 (ix s10.2.2.1 (w64 ((s10.2.2.1.length : Int) - 1))).Perils.length g.2.1) (ix s10.2.2.1 (w64 ((s10.2.2.1.length : Int) - 1))).Perils, fV (lSlice (lInt .i64)) (.slice g.2.2.1 (ix s10.2.2.1 (w64 ((s10.2.2.1.length : Int) - 1))).Areas.length g.2.2.2.1) (ix s10.2.2.1 (w64 ((s10.2.2.1.length : Int) - 1))).Areas, fV (lSlice (lInt .i64)) (.slice g.2.2.2.2.1 (ix s10.2.2.1 (w64 ((s10.2.2.1.length : Int) - 1))).Reinstatements.length g.2.2.2.2.2.1) (ix s10.2.2.1 (w64 ((s10.2.2.1.length : Int) - 1))).Reinstatements, fV (lSlice (lInt .i64)) (.slice g.2.2.2.2.2.2.1 (ix s10.2.2.1 (w64 ((s10.2.2.1.length : Int) - 1))).Inures.length g.2.2.2.2.2.2.2.1) (ix s10.2.2.1 (w64 ((s10.2.2.1.length : Int) - 1))).Inures, fV (lSlice lGPart) (.slice g.2.2.2.2.2.2.2.2.1 (ix s10.2.2.1 (w64 ((s10.2.2.1.length : Int) - 1))).Parts.length g.2.2.2.2.2.2.2.2.2) (ix s10.2.2.1 (w64 ((s10.2.2.1.length : Int) - 1))).Parts]) (val := fun g => .agg #[.int .i64 (ix s10.2.2.1 (w64 ((s10.2.2.1.length : Int) - 1))).ID, .int .i64 (ix s10.2.2.1 (w64 ((s10.2.2.1.length : Int) - 1))).Kind, .int .i64 (ix s10.2.2.1 (w64 ((s10.2.2.1.length : Int) - 1))).Period.From, .int .i64 (ix s10.2.2.1 (w64 ((s10.2.2.1.length : Int) - 1))).Period.To, .slice g.1 (ix s10.2.2.1 (w64 ((s10.2.2.1.length : Int) - 1))).Perils.length g.2.1, .slice g.2.2.1 (ix s10.2.2.1 (w64 ((s10.2.2.1.length : Int) - 1))).Areas.length g.2.2.2.1, .int .i64 (ix s10.2.2.1 (w64 ((s10.2.2.1.length : Int) - 1))).Risk, .int .i64 (ix s10.2.2.1 (w64 ((s10.2.2.1.length : Int) - 1))).Cession, .int .i64 (ix s10.2.2.1 (w64 ((s10.2.2.1.length : Int) - 1))).Line, .int .i64 (ix s10.2.2.1 (w64 ((s10.2.2.1.length : Int) - 1))).Lines, .int .i64 (ix s10.2.2.1 (w64 ((s10.2.2.1.length : Int) - 1))).Retention, .int .i64 (ix s10.2.2.1 (w64 ((s10.2.2.1.length : Int) - 1))).Limit, .int .i64 (ix s10.2.2.1 (w64 ((s10.2.2.1.length : Int) - 1))).Window, .int .i64 (ix s10.2.2.1 (w64 ((s10.2.2.1.length : Int) - 1))).Deductible, .int .i64 (ix s10.2.2.1 (w64 ((s10.2.2.1.length : Int) - 1))).Aggregate, .int .i64 (ix s10.2.2.1 (w64 ((s10.2.2.1.length : Int) - 1))).Premium, .slice g.2.2.2.2.1 (ix s10.2.2.1 (w64 ((s10.2.2.1.length : Int) - 1))).Reinstatements.length g.2.2.2.2.2.1, .bool (ix s10.2.2.1 (w64 ((s10.2.2.1.length : Int) - 1))).Timed, .int .i64 (ix s10.2.2.1 (w64 ((s10.2.2.1.length : Int) - 1))).Base, .slice g.2.2.2.2.2.2.1 (ix s10.2.2.1 (w64 ((s10.2.2.1.length : Int) - 1))).Inures.length g.2.2.2.2.2.2.2.1, .slice g.2.2.2.2.2.2.2.2.1 (ix s10.2.2.1 (w64 ((s10.2.2.1.length : Int) - 1))).Parts.length g.2.2.2.2.2.2.2.2.2]) rfl (ms m0) k9_2 rfl (by rfl) (fun _ _ _ h => by obtain ⟨A0, c0, A1, c1, A2, c2, A3, c3, A4, c4, e, r⟩ := viewGTreaty h; exact ⟨(A0, c0, A1, c1, A2, c2, A3, c3, A4, c4), e, r⟩) (fun g => (loaded_n (cells := [_, _, _, _, _, _, _, _, _, _, _, _, _, _, _, _, _, _, _, _, _]) ag41 sz41))) ?_)
     rintro _ _ _ ⟨⟨A9_3, c9_3, A9_3a, c9_3a, A9_3b, c9_3b, A9_3c, c9_3c, A9_3d, c9_3d⟩, rfl, rfl, rfl⟩
     refine Ac rfl (act_alloc (cs := [_, _, _, _, _, _, _, _, _, _, _, _, _, _, _, _, _, _, _, _, _]) zr41 rfl) ?_
     rintro _ _ _ ⟨b9_4, rfl, rfl, rfl⟩
     refine Az rfl (act_store (cells := [_, _, _, _, _, _, _, _, _, _, _, _, _, _, _, _, _, _, _, _, _]) (cs' := [_, _, _, _, _, _, _, _, _, _, _, _, _, _, _, _, _, _, _, _, _]) rfl rfl rfl s0 (by rfl) (of_decide_eq_true rfl) sz41 (On1 rfl)) ?_
     rintro _ _ _ ⟨rfl, rfl⟩
     refine Wn (Pt (Wq (Wr (D rfl (mv rfl) (D rfl (fd rfl fd41_0 rfl) (Az rfl (act_store (cells := [_]) (cs' := [_, _, _, _, _, _, _, _, _, _, _, _, _, _, _, _, _, _, _, _, _]) rfl rfl rfl s0 (by rfl) (of_decide_eq_true rfl) sz3 (On1 rfl)) ?_))))))
     rintro _ _ _ ⟨rfl, rfl⟩
     refine Wn (Pt (Wq ?_))
     refine dx_regionZ (Z := St C [_, _] [_, _, _, _, _, _]) 12 [[], [0], [], [2], [], [4], [], [4, 5, 6], [4, 5, 6, 7], [2, 3, 4, 5, 6, 7, 8], [0, 1, 2, 3, 4, 5, 6, 7, 8, 9], [0, 1, 2, 3, 4, 5, 6, 7, 8, 9, 10], [0, 1, 2, 3, 4, 5, 6, 7, 8, 9, 10, 11]] mixed (ord := (.det 0 (.det 1 (.det 2 (.det 3 (.det 4 (.det 6 (.alt 5 (.alt 7 (.det 8 (.det 9 (.det 10 (.det 11 .done)))) .dead) .dead)))))))) (by kernel_rfl) (fun _ h => h.to ⟨_, r0, ⟨_, (rs r0), trivial⟩⟩ ⟨m0, ⟨(ms m0), ⟨(ms (ms m0)), ⟨(ms (ms (ms m0))), ⟨(ms (ms (ms (ms m0)))), ⟨(ms (ms (ms (ms (ms m0))))), trivial⟩⟩⟩⟩⟩⟩) ?_
     refine Hd rfl rfl rfl (fd rfl fd41_9 rfl) (Hd rfl rfl rfl (ld rfl m0 (by rfl) na3 us3) (Hd rfl rfl rfl (fd rfl fd41_10 rfl) (Hd rfl rfl rfl (ld rfl m0 (by rfl) na3 us3) (Hd rfl rfl rfl (mv rfl) (Hd rfl rfl rfl (mv rfl) ?_)))))
     obtain ⟨r11_5, hr11_5, h⟩ := bs h
     refine hx_mut rfl rfl rfl (act_callS (cap := []) (W_treatymade_Deck_Next (GDeck.mk s23.1 s23.2.1) 2 Ba0 A23_0 s23.1.length c23_0 r11_5 hr11_5) rfl rfl rfl bd19 ⟨_, (rs r0), rfl⟩ ⟨(ms (ms (ms (ms (ms m0))))), trivial⟩) rfl (by rintro _ _ _ ⟨_, _, ⟨y11_5A0, y11_5n0, y11_5c0, rfl, rfl, rfl⟩, rfl, rfl⟩ w hs; exact hs.to ⟨_, (rs r0), ⟨_, (rs r0), trivial⟩⟩ ⟨(ms m0), ⟨(ms (ms m0)), ⟨(ms (ms (ms m0))), ⟨(ms (ms (ms (ms m0)))), ⟨(ms (ms (ms (ms (ms m0))))), ⟨(ms (ms (ms (ms (ms (ms m0)))))), trivial⟩⟩⟩⟩⟩⟩) ?_
     rintro _ _ _ ⟨_, _, ⟨y11_5A0, y11_5n0, y11_5c0, rfl, rfl, rfl⟩, rfl, rfl⟩
     dsimp only [na, ca]
     obtain ⟨r11_7, hr11_7, h⟩ := bs h
     refine hx_mut rfl rfl rfl (act_callS (cap := []) (W_treatymade_Deck_Next r11_5.2 40 Ba0 y11_5A0 y11_5n0 y11_5c0 r11_7 hr11_7) rfl rfl rfl bd19 ⟨_, r0, rfl⟩ ⟨m0, trivial⟩) rfl (by rintro _ _ _ ⟨_, _, ⟨y11_7A0, y11_7n0, y11_7c0, rfl, rfl, rfl⟩, rfl, rfl⟩ w hs; exact hs.to ⟨_, (rs r0), ⟨_, (rs r0), trivial⟩⟩ ⟨(ms (ms m0)), ⟨(ms (ms (ms m0))), ⟨(ms (ms (ms (ms m0)))), ⟨(ms (ms (ms (ms (ms m0))))), ⟨(ms (ms (ms (ms (ms (ms m0)))))), ⟨(ms (ms (ms (ms (ms (ms (ms m0))))))), trivial⟩⟩⟩⟩⟩⟩) ?_
     rintro _ _ _ ⟨_, _, ⟨y11_7A0, y11_7n0, y11_7c0, rfl, rfl, rfl⟩, rfl, rfl⟩
     dsimp only [na, ca]
     refine Hd rfl rfl rfl (det_mul rfl rfl) (Hd rfl rfl rfl (det_add rfl rfl) (Hd rfl rfl rfl (det_add rfl rfl) (Hd rfl rfl rfl (fd rfl fd41_9 rfl) (hx_end ?_))))
     refine wl_know (fun _ h => h.lenF (ms m0)) (fun e => ?_)
     subst e
     refine wl_know (fun _ h => h.lenF m0) (fun e => ?_)
     subst e
     refine Az rfl (act_store (cells := [_]) (cs' := [_, _, _, _, _, _, _, _, _, _, _, _, _, _, _, _, _, _, _, _, _]) rfl rfl rfl (ss s0) (by rfl) (of_decide_eq_true rfl) sz3 (On1 rfl)) ?_
     rintro _ _ _ ⟨rfl, rfl⟩
     refine Wn (Pt (Wq (Wr (D rfl (mv rfl) ?_))))
     obtain ⟨r12_1, hr12_1, h⟩ := bs h
     refine Ac rfl (act_callS (cap := []) (W_treatymade2_Small r11_7.2 Ba0 y11_7A0 r11_7.2.L.length y11_7c0 r12_1 hr12_1) rfl rfl rfl bd23 ⟨_, r0, rfl⟩ ⟨m0, trivial⟩) ?_
     rintro _ _ _ ⟨_, _, ⟨y12_1A0, y12_1n0, y12_1c0, rfl, rfl, rfl⟩, rfl, rfl⟩
     dsimp only [na, ca]
     refine wl_know (fun _ h => h.lenF m0) (fun e => ?_)
     subst e
     refine D rfl (det_add rfl rfl) (D rfl (fd rfl fd41_10 rfl) (Az rfl (act_store (cells := [_]) (cs' := [_, _, _, _, _, _, _, _, _, _, _, _, _, _, _, _, _, _, _, _, _]) rfl rfl rfl (ss s0) (by rfl) (of_decide_eq_true rfl) sz3 (On1 rfl)) ?_))
     rintro _ _ _ ⟨rfl, rfl⟩
     refine Wn (Pt (Wq (Wr (D rfl (mv rfl) ?_))))
     obtain ⟨r13_1, hr13_1, h⟩ := bs h
     refine Ac rfl (act_callS (cap := []) (W_treatymade_Deck_Next r12_1.2 3 Ba0 y12_1A0 r12_1.2.L.length y12_1c0 r13_1 hr13_1) rfl rfl rfl bd19 ⟨_, r0, rfl⟩ ⟨m0, trivial⟩) ?_
     rintro _ _ _ ⟨_, _, ⟨y13_1A0, y13_1n0, y13_1c0, rfl, rfl, rfl⟩, rfl, rfl⟩
     dsimp only [na, ca]
     refine wl_know (fun _ h => h.lenF m0) (fun e => ?_)
     subst e
     refine D rfl (det_quoB rfl rfl rfl) (D rfl (mv rfl) ?_)
     obtain ⟨r13_4, hr13_4, h⟩ := bs h
     refine Ac rfl (act_callS (cap := []) (W_treatymade2_Small r13_1.2 Ba0 y13_1A0 r13_1.2.L.length y13_1c0 r13_4 hr13_4) rfl rfl rfl bd23 ⟨_, r0, rfl⟩ ⟨m0, trivial⟩) ?_
     rintro _ _ _ ⟨_, _, ⟨y13_4A0, y13_4n0, y13_4c0, rfl, rfl, rfl⟩, rfl, rfl⟩
     dsimp only [na, ca]
     refine wl_know (fun _ h => h.lenF m0) (fun e => ?_)
     subst e
     refine D rfl (det_mul rfl rfl) (D rfl (mv rfl) ?_)
     obtain ⟨r13_7, hr13_7, h⟩ := bs h
     refine Ac rfl (act_callS (cap := []) (W_treatymade_Deck_Next r13_4.2 3 Ba0 y13_4A0 r13_4.2.L.length y13_4c0 r13_7 hr13_7) rfl rfl rfl bd19 ⟨_, r0, rfl⟩ ⟨m0, trivial⟩) ?_
     rintro _ _ _ ⟨_, _, ⟨y13_7A0, y13_7n0, y13_7c0, rfl, rfl, rfl⟩, rfl, rfl⟩
     dsimp only [na, ca]
     refine wl_know (fun _ h => h.lenF m0) (fun e => ?_)
     subst e
     refine D rfl (det_quoB rfl rfl rfl) (D rfl (mv rfl) ?_)
     obtain ⟨r13_10, hr13_10, h⟩ := bs h
     refine Ac rfl (act_callS (cap := []) (W_treatymade2_Small r13_7.2 Ba0 y13_7A0 r13_7.2.L.length y13_7c0 r13_10 hr13_10) rfl rfl rfl bd23 ⟨_, r0, rfl⟩ ⟨m0, trivial⟩) ?_
     rintro _ _ _ ⟨_, _, ⟨y13_10A0, y13_10n0, y13_10c0, rfl, rfl, rfl⟩, rfl, rfl⟩
     dsimp only [na, ca]
     refine wl_know (fun _ h => h.lenF m0) (fun e => ?_)
     subst e
     refine D rfl (det_mul rfl rfl) (D rfl (fd rfl fd41_12 rfl) (Az rfl (act_store (cells := [_]) (cs' := [_, _, _, _, _, _, _, _, _, _, _, _, _, _, _, _, _, _, _, _, _]) rfl rfl rfl (ss s0) (by rfl) (of_decide_eq_true rfl) sz3 (On1 rfl)) ?_))
     rintro _ _ _ ⟨rfl, rfl⟩
     refine D rfl (fd rfl fd41_13 rfl) (Az rfl (act_store (cells := [_]) (cs' := [_, _, _, _, _, _, _, _, _, _, _, _, _, _, _, _, _, _, _, _, _]) rfl rfl rfl (ss s0) (by rfl) (of_decide_eq_true rfl) sz3 (On1 rfl)) ?_)
     rintro _ _ _ ⟨rfl, rfl⟩
     refine Wn (Pt (Wq (Wr (D rfl (mv rfl) ?_))))
     obtain ⟨r14_1, hr14_1, h⟩ := bs h
     refine Ac rfl (act_callS (cap := []) (W_treatymade_Deck_Parts r13_10.2 Ba0 y13_10A0 r13_10.2.L.length y13_10c0 r14_1 hr14_1) rfl rfl rfl bd24 ⟨_, r0, rfl⟩ ⟨m0, trivial⟩) ?_
     rintro _ _ _ ⟨_, _, ⟨y14_1A0, y14_1n0, y14_1c0, y14_1A1, y14_1n1, y14_1c1, rfl, rfl, rfl⟩, rfl, rfl⟩
     dsimp only [na, ca]
     refine wl_know (fun _ h => h.lenO m0) (fun e => ?_)
     subst e
     refine wl_know (fun _ h => h.lenF m0) (fun e => ?_)
     subst e
     refine D rfl (fd rfl fd41_19 rfl) (Az rfl (act_store (cells := [_]) (cs' := [_, _, _, _, _, _, _, _, _, _, _, _, _, _, _, _, _, _, _, _, _]) rfl rfl rfl (ss (ss s0)) (by rfl) (of_decide_eq_true rfl) sz39 (On1 rfl)) ?_)
     rintro _ _ _ ⟨rfl, rfl⟩
     refine Wn (Pt (Wq (Wr (D rfl (mv rfl) (D rfl (det_loadN (cells := [_, _, _, _, _, _, _, _, _, _, _, _, _, _, _, _, _, _, _, _, _]) rfl (ms (ms m0)) (by rfl) ag41 sz41) ?_)))))
     refine wl_st (fun _ h => h.shutS r0) ?_
     refine wl_st (fun _ h => h.fact (f := fC lGTreaty [.int .i64 (w64 (s10.2.2.2.1 + (w64 (1 + r6_2.1)))), .int .i64 (ix s10.2.2.1 (w64 ((s10.2.2.1.length : Int) - 1))).Kind, .int .i64 (ix s10.2.2.1 (w64 ((s10.2.2.1.length : Int) - 1))).Period.From, .int .i64 (ix s10.2.2.1 (w64 ((s10.2.2.1.length : Int) - 1))).Period.To, .slice A9_3 (ix s10.2.2.1 (w64 ((s10.2.2.1.length : Int) - 1))).Perils.length c9_3, .slice A9_3a (ix s10.2.2.1 (w64 ((s10.2.2.1.length : Int) - 1))).Areas.length c9_3a, .int .i64 (ix s10.2.2.1 (w64 ((s10.2.2.1.length : Int) - 1))).Risk, .int .i64 (ix s10.2.2.1 (w64 ((s10.2.2.1.length : Int) - 1))).Cession, .int .i64 (ix s10.2.2.1 (w64 ((s10.2.2.1.length : Int) - 1))).Line, .int .i64 (ix s10.2.2.1 (w64 ((s10.2.2.1.length : Int) - 1))).Lines, .int .i64 (w64 ((ix s10.2.2.1 (w64 ((s10.2.2.1.length : Int) - 1))).Retention + (w64 ((ix s10.2.2.1 (w64 ((s10.2.2.1.length : Int) - 1))).Limit + (w64 (r11_5.1 * r11_7.1)))))), .int .i64 (w64 (1 + r12_1.1)), .int .i64 (ix s10.2.2.1 (w64 ((s10.2.2.1.length : Int) - 1))).Window, .int .i64 (w64 ((w64 (r13_1.1.tdiv 2)) * r13_4.1)), .int .i64 (w64 ((w64 (r13_7.1.tdiv 2)) * r13_10.1)), .int .i64 (ix s10.2.2.1 (w64 ((s10.2.2.1.length : Int) - 1))).Premium, .slice A9_3b (ix s10.2.2.1 (w64 ((s10.2.2.1.length : Int) - 1))).Reinstatements.length c9_3b, .bool (ix s10.2.2.1 (w64 ((s10.2.2.1.length : Int) - 1))).Timed, .int .i64 (ix s10.2.2.1 (w64 ((s10.2.2.1.length : Int) - 1))).Base, .slice A9_3c (ix s10.2.2.1 (w64 ((s10.2.2.1.length : Int) - 1))).Inures.length c9_3c, .slice y14_1A0 r14_1.1.length y14_1c0] (GTreaty.mk (w64 (s10.2.2.2.1 + (w64 (1 + r6_2.1)))) (ix s10.2.2.1 (w64 ((s10.2.2.1.length : Int) - 1))).Kind (ix s10.2.2.1 (w64 ((s10.2.2.1.length : Int) - 1))).Period (ix s10.2.2.1 (w64 ((s10.2.2.1.length : Int) - 1))).Perils (ix s10.2.2.1 (w64 ((s10.2.2.1.length : Int) - 1))).Areas (ix s10.2.2.1 (w64 ((s10.2.2.1.length : Int) - 1))).Risk (ix s10.2.2.1 (w64 ((s10.2.2.1.length : Int) - 1))).Cession (ix s10.2.2.1 (w64 ((s10.2.2.1.length : Int) - 1))).Line (ix s10.2.2.1 (w64 ((s10.2.2.1.length : Int) - 1))).Lines (w64 ((ix s10.2.2.1 (w64 ((s10.2.2.1.length : Int) - 1))).Retention + (w64 ((ix s10.2.2.1 (w64 ((s10.2.2.1.length : Int) - 1))).Limit + (w64 (r11_5.1 * r11_7.1)))))) (w64 (1 + r12_1.1)) (ix s10.2.2.1 (w64 ((s10.2.2.1.length : Int) - 1))).Window (w64 ((w64 (r13_1.1.tdiv 2)) * r13_4.1)) (w64 ((w64 (r13_7.1.tdiv 2)) * r13_10.1)) (ix s10.2.2.1 (w64 ((s10.2.2.1.length : Int) - 1))).Premium (ix s10.2.2.1 (w64 ((s10.2.2.1.length : Int) - 1))).Reinstatements (ix s10.2.2.1 (w64 ((s10.2.2.1.length : Int) - 1))).Timed (ix s10.2.2.1 (w64 ((s10.2.2.1.length : Int) - 1))).Base (ix s10.2.2.1 (w64 ((s10.2.2.1.length : Int) - 1))).Inures r14_1.1)) (mkGTreaty (x := (GTreaty.mk (w64 (s10.2.2.2.1 + (w64 (1 + r6_2.1)))) (ix s10.2.2.1 (w64 ((s10.2.2.1.length : Int) - 1))).Kind (ix s10.2.2.1 (w64 ((s10.2.2.1.length : Int) - 1))).Period (ix s10.2.2.1 (w64 ((s10.2.2.1.length : Int) - 1))).Perils (ix s10.2.2.1 (w64 ((s10.2.2.1.length : Int) - 1))).Areas (ix s10.2.2.1 (w64 ((s10.2.2.1.length : Int) - 1))).Risk (ix s10.2.2.1 (w64 ((s10.2.2.1.length : Int) - 1))).Cession (ix s10.2.2.1 (w64 ((s10.2.2.1.length : Int) - 1))).Line (ix s10.2.2.1 (w64 ((s10.2.2.1.length : Int) - 1))).Lines (w64 ((ix s10.2.2.1 (w64 ((s10.2.2.1.length : Int) - 1))).Retention + (w64 ((ix s10.2.2.1 (w64 ((s10.2.2.1.length : Int) - 1))).Limit + (w64 (r11_5.1 * r11_7.1)))))) (w64 (1 + r12_1.1)) (ix s10.2.2.1 (w64 ((s10.2.2.1.length : Int) - 1))).Window (w64 ((w64 (r13_1.1.tdiv 2)) * r13_4.1)) (w64 ((w64 (r13_7.1.tdiv 2)) * r13_10.1)) (ix s10.2.2.1 (w64 ((s10.2.2.1.length : Int) - 1))).Premium (ix s10.2.2.1 (w64 ((s10.2.2.1.length : Int) - 1))).Reinstatements (ix s10.2.2.1 (w64 ((s10.2.2.1.length : Int) - 1))).Timed (ix s10.2.2.1 (w64 ((s10.2.2.1.length : Int) - 1))).Base (ix s10.2.2.1 (w64 ((s10.2.2.1.length : Int) - 1))).Inures r14_1.1)) ⟨h.facts _ (ms (ms (ms (ms (ms (ms (ms (ms (ms m0))))))))), h.facts _ (ms (ms (ms (ms (ms (ms (ms (ms (ms (ms m0)))))))))), h.facts _ (ms (ms (ms (ms (ms (ms (ms (ms (ms (ms (ms m0))))))))))), h.facts _ (ms (ms (ms (ms (ms (ms (ms (ms (ms (ms (ms (ms m0)))))))))))), h.facts _ m0, trivial⟩)) ?_
     refine Ac rfl (act_litS lGTreaty (vs := [_]) (cs := [_, _, _, _, _, _, _, _, _, _, _, _, _, _, _, _, _, _, _, _, _]) [(GTreaty.mk (w64 (s10.2.2.2.1 + (w64 (1 + r6_2.1)))) (ix s10.2.2.1 (w64 ((s10.2.2.1.length : Int) - 1))).Kind (ix s10.2.2.1 (w64 ((s10.2.2.1.length : Int) - 1))).Period (ix s10.2.2.1 (w64 ((s10.2.2.1.length : Int) - 1))).Perils (ix s10.2.2.1 (w64 ((s10.2.2.1.length : Int) - 1))).Areas (ix s10.2.2.1 (w64 ((s10.2.2.1.length : Int) - 1))).Risk (ix s10.2.2.1 (w64 ((s10.2.2.1.length : Int) - 1))).Cession (ix s10.2.2.1 (w64 ((s10.2.2.1.length : Int) - 1))).Line (ix s10.2.2.1 (w64 ((s10.2.2.1.length : Int) - 1))).Lines (w64 ((ix s10.2.2.1 (w64 ((s10.2.2.1.length : Int) - 1))).Retention + (w64 ((ix s10.2.2.1 (w64 ((s10.2.2.1.length : Int) - 1))).Limit + (w64 (r11_5.1 * r11_7.1)))))) (w64 (1 + r12_1.1)) (ix s10.2.2.1 (w64 ((s10.2.2.1.length : Int) - 1))).Window (w64 ((w64 (r13_1.1.tdiv 2)) * r13_4.1)) (w64 ((w64 (r13_7.1.tdiv 2)) * r13_10.1)) (ix s10.2.2.1 (w64 ((s10.2.2.1.length : Int) - 1))).Premium (ix s10.2.2.1 (w64 ((s10.2.2.1.length : Int) - 1))).Reinstatements (ix s10.2.2.1 (w64 ((s10.2.2.1.length : Int) - 1))).Timed (ix s10.2.2.1 (w64 ((s10.2.2.1.length : Int) - 1))).Base (ix s10.2.2.1 (w64 ((s10.2.2.1.length : Int) - 1))).Inures r14_1.1)] un23 in41 rfl rfl rfl rfl rfl ⟨rfl, trivial⟩ (by rfl) rfl (fun _ h => by have q := oneF h m0; exact q)) ?_
     rintro _ _ _ ⟨A15_2, rfl, rfl, rfl⟩
     obtain ⟨k15_3, h⟩ := chk_some h
     refine Ac rfl (act_appendS (L := lGTreaty) rfl rfl (ss (ss (ss s0))) (src_O m0) un23 in41 rfl rfl rfl k15_3) ?_
     rintro _ _ _ ⟨A15_3, c15_3, rfl, rfl, rfl⟩
     refine D rfl (ag rfl) (Wn (Pt (We (Xt (Xb ?_)))))
     obtain rfl := si h
     exact pn_meetG ((r14_1.2.L, r14_1.2.At, (s10.2.2.1 ++ [(GTreaty.mk (w64 (s10.2.2.2.1 + (w64 (1 + r6_2.1)))) (ix s10.2.2.1 (w64 ((s10.2.2.1.length : Int) - 1))).Kind (ix s10.2.2.1 (w64 ((s10.2.2.1.length : Int) - 1))).Period (ix s10.2.2.1 (w64 ((s10.2.2.1.length : Int) - 1))).Perils (ix s10.2.2.1 (w64 ((s10.2.2.1.length : Int) - 1))).Areas (ix s10.2.2.1 (w64 ((s10.2.2.1.length : Int) - 1))).Risk (ix s10.2.2.1 (w64 ((s10.2.2.1.length : Int) - 1))).Cession (ix s10.2.2.1 (w64 ((s10.2.2.1.length : Int) - 1))).Line (ix s10.2.2.1 (w64 ((s10.2.2.1.length : Int) - 1))).Lines (w64 ((ix s10.2.2.1 (w64 ((s10.2.2.1.length : Int) - 1))).Retention + (w64 ((ix s10.2.2.1 (w64 ((s10.2.2.1.length : Int) - 1))).Limit + (w64 (r11_5.1 * r11_7.1)))))) (w64 (1 + r12_1.1)) (ix s10.2.2.1 (w64 ((s10.2.2.1.length : Int) - 1))).Window (w64 ((w64 (r13_1.1.tdiv 2)) * r13_4.1)) (w64 ((w64 (r13_7.1.tdiv 2)) * r13_10.1)) (ix s10.2.2.1 (w64 ((s10.2.2.1.length : Int) - 1))).Premium (ix s10.2.2.1 (w64 ((s10.2.2.1.length : Int) - 1))).Reinstatements (ix s10.2.2.1 (w64 ((s10.2.2.1.length : Int) - 1))).Timed (ix s10.2.2.1 (w64 ((s10.2.2.1.length : Int) - 1))).Base (ix s10.2.2.1 (w64 ((s10.2.2.1.length : Int) - 1))).Inures r14_1.1)]), (w64 (s10.2.2.2.1 + (w64 (1 + r6_2.1))))), y14_1A1, r14_1.2.L.length, y14_1c1, A15_3, (s10.2.2.1 ++ [(GTreaty.mk (w64 (s10.2.2.2.1 + (w64 (1 + r6_2.1)))) (ix s10.2.2.1 (w64 ((s10.2.2.1.length : Int) - 1))).Kind (ix s10.2.2.1 (w64 ((s10.2.2.1.length : Int) - 1))).Period (ix s10.2.2.1 (w64 ((s10.2.2.1.length : Int) - 1))).Perils (ix s10.2.2.1 (w64 ((s10.2.2.1.length : Int) - 1))).Areas (ix s10.2.2.1 (w64 ((s10.2.2.1.length : Int) - 1))).Risk (ix s10.2.2.1 (w64 ((s10.2.2.1.length : Int) - 1))).Cession (ix s10.2.2.1 (w64 ((s10.2.2.1.length : Int) - 1))).Line (ix s10.2.2.1 (w64 ((s10.2.2.1.length : Int) - 1))).Lines (w64 ((ix s10.2.2.1 (w64 ((s10.2.2.1.length : Int) - 1))).Retention + (w64 ((ix s10.2.2.1 (w64 ((s10.2.2.1.length : Int) - 1))).Limit + (w64 (r11_5.1 * r11_7.1)))))) (w64 (1 + r12_1.1)) (ix s10.2.2.1 (w64 ((s10.2.2.1.length : Int) - 1))).Window (w64 ((w64 (r13_1.1.tdiv 2)) * r13_4.1)) (w64 ((w64 (r13_7.1.tdiv 2)) * r13_10.1)) (ix s10.2.2.1 (w64 ((s10.2.2.1.length : Int) - 1))).Premium (ix s10.2.2.1 (w64 ((s10.2.2.1.length : Int) - 1))).Reinstatements (ix s10.2.2.1 (w64 ((s10.2.2.1.length : Int) - 1))).Timed (ix s10.2.2.1 (w64 ((s10.2.2.1.length : Int) - 1))).Base (ix s10.2.2.1 (w64 ((s10.2.2.1.length : Int) - 1))).Inures r14_1.1)]).length, c15_3, ()) rfl (Sb rfl) (fun _ h => h.to ⟨_, (rs r0), ⟨_, (rs (rs r0)), trivial⟩⟩ ⟨(ms (ms m0)), trivial⟩)
    ·have h := ifF h cd25
     refine Wk (Pt (Wq (Wr (D rfl (mv rfl) ?_))))
     obtain ⟨r16_1, hr16_1, h⟩ := bs h
     refine Ac rfl (act_callS (cap := []) (W_treatymade_Deck_Next (GDeck.mk s23.1 s23.2.1) 6 Ba0 A23_0 s23.1.length c23_0 r16_1 hr16_1) rfl rfl rfl bd19 ⟨_, r0, rfl⟩ ⟨m0, trivial⟩) ?_
     rintro _ _ _ ⟨_, _, ⟨y16_1A0, y16_1n0, y16_1c0, rfl, rfl, rfl⟩, rfl, rfl⟩
     dsimp only [na, ca]
     refine wl_know (fun _ h => h.lenF m0) (fun e => ?_)
     subst e
     refine D rfl (det_add rfl rfl) (D rfl (ag rfl) (Wn (Pt (Wq (Wr (D rfl (mv rfl) (D rfl (mv rfl) (D rfl (mv rfl) ?_))))))))
     obtain ⟨r17_3, hr17_3, h⟩ := bs h
     refine Ac rfl (act_callS (cap := []) (W_treatymade_Deck_Treaty r16_1.2 (w64 (s10.2.2.2.1 + (w64 (1 + r6_2.1)))) (w64 (1 + r16_1.1)) Ba0 y16_1A0 r16_1.2.L.length y16_1c0 r17_3 hr17_3) rfl rfl rfl bd25 ⟨_, r0, rfl⟩ ⟨m0, trivial⟩) ?_
     rintro _ _ _ ⟨_, _, ⟨y17_3A0, y17_3n0, y17_3c0, y17_3A1, y17_3n1, y17_3c1, y17_3A2, y17_3n2, y17_3c2, y17_3A3, y17_3n3, y17_3c3, y17_3A4, y17_3n4, y17_3c4, y17_3A5, y17_3n5, y17_3c5, rfl, rfl, rfl⟩, rfl, rfl⟩
     dsimp only [na, ca]
     refine wl_know (fun _ h => h.lenO m0) (fun e => ?_)
     subst e
     refine wl_know (fun _ h => h.lenO (ms m0)) (fun e => ?_)
     subst e
     refine wl_know (fun _ h => h.lenO (ms (ms m0))) (fun e => ?_)
     subst e
     refine wl_know (fun _ h => h.lenO (ms (ms (ms m0)))) (fun e => ?_)
     subst e
     refine wl_know (fun _ h => h.lenO (ms (ms (ms (ms m0))))) (fun e => ?_)
     subst e
     refine wl_know (fun _ h => h.lenF m0) (fun e => ?_)
     subst e
     refine Ac rfl (act_alloc (cs := [_, _, _, _, _, _, _, _, _, _, _, _, _, _, _, _, _, _, _, _, _]) zr41 rfl) ?_
     rintro _ _ _ ⟨b17_4, rfl, rfl, rfl⟩
     refine Az rfl (act_store (cells := [_, _, _, _, _, _, _, _, _, _, _, _, _, _, _, _, _, _, _, _, _]) (cs' := [_, _, _, _, _, _, _, _, _, _, _, _, _, _, _, _, _, _, _, _, _]) rfl rfl rfl s0 (by rfl) (of_decide_eq_true rfl) sz41 (On1 rfl)) ?_
     rintro _ _ _ ⟨rfl, rfl⟩
     refine Wn (Pt ?_)
     obtain ⟨q45, h, ho45⟩ := bs h
     refine wc_meetG (G := ((List Int) × Int × Int × Int) × Option Addr × Nat × Nat × Unit) (fun (s45, _, _, _, _) => s45 = q45) (fun (_, _, _, _, _) => [(0, .pointer (some ⟨Ba0, 0, none⟩)), (5, .slice A10_3 s10.2.2.1.length c10_3), (6, .int .i64 (w64 (s10.2.2.2.1 + (w64 (1 + r6_2.1))))), (7, .int .i64 s10.2.2.2.2), (11, .pointer (some ⟨b17_4, 0, none⟩))]) (fun (s45, A45_0, n45_0, c45_0, _) => [eBlk Ba0 68 [.slice A45_0 n45_0 c45_0, .int .i64 s45.2.1], eS lGTreaty 41 A10_3 s10.2.2.1.length c10_3 s10.2.2.1, eBlk b17_4 41 [.int .i64 r17_3.1.ID, .int .i64 r17_3.1.Kind, .int .i64 r17_3.1.Period.From, .int .i64 r17_3.1.Period.To, .slice y17_3A0 r17_3.1.Perils.length y17_3c0, .slice y17_3A1 r17_3.1.Areas.length y17_3c1, .int .i64 r17_3.1.Risk, .int .i64 r17_3.1.Cession, .int .i64 r17_3.1.Line, .int .i64 r17_3.1.Lines, .int .i64 s45.2.2.1, .int .i64 s45.2.2.2, .int .i64 r17_3.1.Window, .int .i64 r17_3.1.Deductible, .int .i64 r17_3.1.Aggregate, .int .i64 r17_3.1.Premium, .slice y17_3A2 r17_3.1.Reinstatements.length y17_3c2, .bool r17_3.1.Timed, .int .i64 r17_3.1.Base, .slice y17_3A3 r17_3.1.Inures.length y17_3c3, .slice y17_3A4 r17_3.1.Parts.length y17_3c4], eS (lInt .i64) 3 y17_3A0 r17_3.1.Perils.length y17_3c0 r17_3.1.Perils, eS (lInt .i64) 3 y17_3A1 r17_3.1.Areas.length y17_3c1 r17_3.1.Areas, eS (lInt .i64) 3 y17_3A2 r17_3.1.Reinstatements.length y17_3c2 r17_3.1.Reinstatements, eS (lInt .i64) 3 y17_3A3 r17_3.1.Inures.length y17_3c3 r17_3.1.Inures, eS lGPart 72 y17_3A4 r17_3.1.Parts.length y17_3c4 r17_3.1.Parts]) (fun (s45, A45_0, n45_0, c45_0, _) => [fV (lSlice (lInt .i64)) (.slice A45_0 n45_0 c45_0) s45.1]) ?_ ?_
     ·refine Wq (Wr (D rfl (mv rfl) (D rfl (det_geq rfl rfl) (Wn (Pt ?_)))))
      refine wc_cond rfl (fun cd48 => ?_) (fun cd48 => ?_)
      ·have h := ifT h cd48
       refine Wr (D rfl (mv rfl) ?_)
       obtain ⟨r19_1, hr19_1, h⟩ := bs h
       refine Ac rfl (act_callS (cap := []) (W_treatymade2_Small r17_3.2 Ba0 y17_3A5 r17_3.2.L.length y17_3c5 r19_1 hr19_1) rfl rfl rfl bd23 ⟨_, (rs (rs (rs (rs (rs (rs r0)))))), rfl⟩ ⟨m0, trivial⟩) ?_
       rintro _ _ _ ⟨_, _, ⟨y19_1A0, y19_1n0, y19_1c0, rfl, rfl, rfl⟩, rfl, rfl⟩
       dsimp only [na, ca]
       refine wl_know (fun _ h => h.lenF m0) (fun e => ?_)
       subst e
       refine D rfl (mv rfl) ?_
       obtain ⟨r19_3, hr19_3, h⟩ := bs h
       refine Ac rfl (act_callS (cap := []) (W_treatymade2_Small r19_1.2 Ba0 y19_1A0 r19_1.2.L.length y19_1c0 r19_3 hr19_3) rfl rfl rfl bd23 ⟨_, r0, rfl⟩ ⟨m0, trivial⟩) ?_
       rintro _ _ _ ⟨_, _, ⟨y19_3A0, y19_3n0, y19_3c0, rfl, rfl, rfl⟩, rfl, rfl⟩
       dsimp only [na, ca]
       refine wl_know (fun _ h => h.lenF m0) (fun e => ?_)
       subst e
       refine D rfl (det_add rfl rfl) (D rfl (fd rfl fd41_9 rfl) (Az rfl (act_store (cells := [_]) (cs' := [_, _, _, _, _, _, _, _, _, _, _, _, _, _, _, _, _, _, _, _, _]) rfl rfl rfl (ss s0) (by rfl) (of_decide_eq_true rfl) sz3 (On1 rfl)) ?_))
       rintro _ _ _ ⟨rfl, rfl⟩
       refine D rfl (fd rfl fd41_10 rfl) (Az rfl (act_store (cells := [_]) (cs' := [_, _, _, _, _, _, _, _, _, _, _, _, _, _, _, _, _, _, _, _, _]) rfl rfl rfl (ss s0) (by rfl) (of_decide_eq_true rfl) sz3 (On1 rfl)) ?_)
       rintro _ _ _ ⟨rfl, rfl⟩
       refine Wn ?_
       obtain rfl := si h
       exact pn_meetG ((r19_3.2.L, r19_3.2.At, r19_1.1, (w64 (1 + r19_3.1))), y19_3A0, r19_3.2.L.length, y19_3c0, ()) rfl (Sb rfl) (fun _ h => h.to ⟨_, r0, ⟨_, (rs (rs (rs (rs (rs (rs r0)))))), ⟨_, r0, ⟨_, r0, ⟨_, r0, ⟨_, r0, ⟨_, r0, ⟨_, r0, trivial⟩⟩⟩⟩⟩⟩⟩⟩ ⟨m0, trivial⟩)
      ·have h := ifF h cd48
       refine Wk ?_
       obtain rfl := si h
       exact pn_meetG ((r17_3.2.L, r17_3.2.At, r17_3.1.Retention, r17_3.1.Limit), y17_3A5, r17_3.2.L.length, y17_3c5, ()) rfl (Sb rfl) (fun _ h => h.to ⟨_, (rs (rs (rs (rs (rs (rs r0)))))), ⟨_, (rs (rs (rs (rs (rs (rs r0)))))), ⟨_, r0, ⟨_, r0, ⟨_, r0, ⟨_, r0, ⟨_, r0, ⟨_, r0, trivial⟩⟩⟩⟩⟩⟩⟩⟩ ⟨m0, trivial⟩)
     rintro ⟨s45, A45_0, n45_0, c45_0, _⟩ e45
     dsimp only at e45 ⊢
     subst e45
     have h := ho45
     refine wc_know (fun _ h => h.lenF m0) (fun e => ?_)
     subst e
     obtain ⟨q50, h, ho50⟩ := bs h
     refine wc_meetG (G := ((List Int) × Int × (List Int) × (List Int)) × Option Addr × Nat × Nat × Option Addr × Nat × Nat × Option Addr × Nat × Nat × Unit) (fun (s50, _, _, _, _, _, _, _, _, _, _) => s50 = q50) (fun (_, _, _, _, _, _, _, _, _, _, _) => [(0, .pointer (some ⟨Ba0, 0, none⟩)), (5, .slice A10_3 s10.2.2.1.length c10_3), (6, .int .i64 (w64 (s10.2.2.2.1 + (w64 (1 + r6_2.1))))), (7, .int .i64 s10.2.2.2.2), (11, .pointer (some ⟨b17_4, 0, none⟩))]) (fun (s50, A50_0, n50_0, c50_0, A50_3, n50_3, c50_3, A50_6, n50_6, c50_6, _) => [eBlk Ba0 68 [.slice A50_0 n50_0 c50_0, .int .i64 s50.2.1], eS lGTreaty 41 A10_3 s10.2.2.1.length c10_3 s10.2.2.1, eBlk b17_4 41 [.int .i64 r17_3.1.ID, .int .i64 r17_3.1.Kind, .int .i64 r17_3.1.Period.From, .int .i64 r17_3.1.Period.To, .slice A50_3 n50_3 c50_3, .slice A50_6 n50_6 c50_6, .int .i64 r17_3.1.Risk, .int .i64 r17_3.1.Cession, .int .i64 r17_3.1.Line, .int .i64 r17_3.1.Lines, .int .i64 s45.2.2.1, .int .i64 s45.2.2.2, .int .i64 r17_3.1.Window, .int .i64 r17_3.1.Deductible, .int .i64 r17_3.1.Aggregate, .int .i64 r17_3.1.Premium, .slice y17_3A2 r17_3.1.Reinstatements.length y17_3c2, .bool r17_3.1.Timed, .int .i64 r17_3.1.Base, .slice y17_3A3 r17_3.1.Inures.length y17_3c3, .slice y17_3A4 r17_3.1.Parts.length y17_3c4], eS (lInt .i64) 3 A50_3 n50_3 c50_3 s50.2.2.1, eS (lInt .i64) 3 A50_6 n50_6 c50_6 s50.2.2.2, eS (lInt .i64) 3 y17_3A2 r17_3.1.Reinstatements.length y17_3c2 r17_3.1.Reinstatements, eS (lInt .i64) 3 y17_3A3 r17_3.1.Inures.length y17_3c3 r17_3.1.Inures, eS lGPart 72 y17_3A4 r17_3.1.Parts.length y17_3c4 r17_3.1.Parts]) (fun (s50, A50_0, n50_0, c50_0, _, _, _, _, _, _, _) => [fV (lSlice (lInt .i64)) (.slice A50_0 n50_0 c50_0) s50.1]) ?_ ?_
     ·refine Wq (Wr (D rfl (mv rfl) ?_))
      obtain ⟨r20_1, hr20_1, h⟩ := bs h
      refine Ac rfl (act_callS (cap := []) (W_treatymade_Deck_Next (GDeck.mk s45.1 s45.2.1) 3 Ba0 A45_0 s45.1.length c45_0 r20_1 hr20_1) rfl rfl rfl bd19 ⟨_, r0, rfl⟩ ⟨m0, trivial⟩) ?_
      rintro _ _ _ ⟨_, _, ⟨y20_1A0, y20_1n0, y20_1c0, rfl, rfl, rfl⟩, rfl, rfl⟩
      dsimp only [na, ca]
      refine wl_know (fun _ h => h.lenF m0) (fun e => ?_)
      subst e
      refine D rfl (det_gtr rfl rfl) (Wn (Pt ?_))
      refine wc_cond rfl (fun cd53 => ?_) (fun cd53 => ?_)
      ·have h := ifT h cd53
       refine Wr (D rfl (fd rfl fd41_3 rfl) (Az rfl (act_store (cells := [_]) (cs' := [_, _, _, _, _, _, _, _, _, _, _, _, _, _, _, _, _, _, _, _, _]) rfl rfl rfl (ss (ss s0)) (by rfl) (of_decide_eq_true rfl) sz22 (On1 rfl)) ?_))
       rintro _ _ _ ⟨rfl, rfl⟩
       refine D rfl (fd rfl fd41_4 rfl) (Az rfl (act_store (cells := [_]) (cs' := [_, _, _, _, _, _, _, _, _, _, _, _, _, _, _, _, _, _, _, _, _]) rfl rfl rfl (ss (ss s0)) (by rfl) (of_decide_eq_true rfl) sz22 (On1 rfl)) ?_)
       rintro _ _ _ ⟨rfl, rfl⟩
       refine Wn ?_
       refine pn_st (fun _ h => h.zeroS (lInt .i64) 3 none) ?_
       refine pn_st (fun _ h => h.zeroS (lInt .i64) 3 none) ?_
       obtain rfl := si h
       exact pn_meetG ((r20_1.2.L, r20_1.2.At, [], []), y20_1A0, r20_1.2.L.length, y20_1c0, none, 0, 0, none, 0, 0, ()) rfl (Sb rfl) (fun _ h => h.to ⟨_, (rs (rs r0)), ⟨_, (rs (rs r0)), ⟨_, (rs (rs r0)), ⟨_, r0, ⟨_, r0, ⟨_, (rs (rs r0)), ⟨_, (rs (rs r0)), ⟨_, (rs (rs r0)), trivial⟩⟩⟩⟩⟩⟩⟩⟩ ⟨m0, trivial⟩)
      ·have h := ifF h cd53
       refine Wk ?_
       obtain rfl := si h
       exact pn_meetG ((r20_1.2.L, r20_1.2.At, r17_3.1.Perils, r17_3.1.Areas), y20_1A0, r20_1.2.L.length, y20_1c0, y17_3A0, r17_3.1.Perils.length, y17_3c0, y17_3A1, r17_3.1.Areas.length, y17_3c1, ()) rfl (Sb rfl) (fun _ h => h.to ⟨_, r0, ⟨_, r0, ⟨_, r0, ⟨_, r0, ⟨_, r0, ⟨_, r0, ⟨_, r0, ⟨_, r0, trivial⟩⟩⟩⟩⟩⟩⟩⟩ ⟨m0, trivial⟩)
     rintro ⟨s50, A50_0, n50_0, c50_0, A50_3, n50_3, c50_3, A50_6, n50_6, c50_6, _⟩ e50
     dsimp only at e50 ⊢
     subst e50
     have h := ho50
     refine wc_know (fun _ h => h.lenF m0) (fun e => ?_)
     subst e
     refine wc_know (fun _ h => h.lenO (ms (ms (ms m0)))) (fun e => ?_)
     subst e
     refine wc_know (fun _ h => h.lenO (ms (ms (ms (ms m0))))) (fun e => ?_)
     subst e
     obtain ⟨q55, h, ho55⟩ := bs h
     refine wc_meetG (G := ((List Int) × Int × (List Int)) × Option Addr × Nat × Nat × Option Addr × Nat × Nat × Unit) (fun (s55, _, _, _, _, _, _, _) => s55 = q55) (fun (_, _, _, _, _, _, _, _) => [(0, .pointer (some ⟨Ba0, 0, none⟩)), (5, .slice A10_3 s10.2.2.1.length c10_3), (6, .int .i64 (w64 (s10.2.2.2.1 + (w64 (1 + r6_2.1))))), (7, .int .i64 s10.2.2.2.2), (11, .pointer (some ⟨b17_4, 0, none⟩))]) (fun (s55, A55_0, n55_0, c55_0, A55_3, n55_3, c55_3, _) => [eBlk Ba0 68 [.slice A55_0 n55_0 c55_0, .int .i64 s55.2.1], eS lGTreaty 41 A10_3 s10.2.2.1.length c10_3 s10.2.2.1, eBlk b17_4 41 [.int .i64 r17_3.1.ID, .int .i64 r17_3.1.Kind, .int .i64 r17_3.1.Period.From, .int .i64 r17_3.1.Period.To, .slice A50_3 s50.2.2.1.length c50_3, .slice A50_6 s50.2.2.2.length c50_6, .int .i64 r17_3.1.Risk, .int .i64 r17_3.1.Cession, .int .i64 r17_3.1.Line, .int .i64 r17_3.1.Lines, .int .i64 s45.2.2.1, .int .i64 s45.2.2.2, .int .i64 r17_3.1.Window, .int .i64 r17_3.1.Deductible, .int .i64 r17_3.1.Aggregate, .int .i64 r17_3.1.Premium, .slice y17_3A2 r17_3.1.Reinstatements.length y17_3c2, .bool r17_3.1.Timed, .int .i64 r17_3.1.Base, .slice A55_3 n55_3 c55_3, .slice y17_3A4 r17_3.1.Parts.length y17_3c4], eS (lInt .i64) 3 A50_3 s50.2.2.1.length c50_3 s50.2.2.1, eS (lInt .i64) 3 A50_6 s50.2.2.2.length c50_6 s50.2.2.2, eS (lInt .i64) 3 y17_3A2 r17_3.1.Reinstatements.length y17_3c2 r17_3.1.Reinstatements, eS (lInt .i64) 3 A55_3 n55_3 c55_3 s55.2.2, eS lGPart 72 y17_3A4 r17_3.1.Parts.length y17_3c4 r17_3.1.Parts]) (fun (s55, A55_0, n55_0, c55_0, _, _, _, _) => [fV (lSlice (lInt .i64)) (.slice A55_0 n55_0 c55_0) s55.1]) ?_ ?_
     ·refine Wq (Wr (D rfl (mv rfl) (D rfl (det_len rfl un23) (D rfl (mv rfl) (Wn (Pt (Wb ?_)))))))
      obtain ⟨k59, hk59⟩ := loopV_some.1 h
      refine wc_loop (G := Nat × ((List Int) × Int × (List Int) × Int) × Option Addr × Nat × Nat × Option Addr × Nat × Nat × Unit) (fun g => IterN (treatymade2_Treaties_l59 s10 r17_3 s45 s50) g.1 g.2.1 q55) (fun g => g.1) (fun (_, s59, _, _, _, _, _, _, _) => [(0, .pointer (some ⟨Ba0, 0, none⟩)), (5, .slice A10_3 s10.2.2.1.length c10_3), (6, .int .i64 (w64 (s10.2.2.2.1 + (w64 (1 + r6_2.1))))), (7, .int .i64 s10.2.2.2.2), (11, .pointer (some ⟨b17_4, 0, none⟩)), (131, .slice A10_3 s10.2.2.1.length c10_3), (132, .int .i64 (s10.2.2.1.length : Int)), (133, .int .i64 s59.2.2.2)]) (fun (_, s59, A59_0, n59_0, c59_0, A59_3, n59_3, c59_3, _) => [eBlk Ba0 68 [.slice A59_0 n59_0 c59_0, .int .i64 s59.2.1], eS lGTreaty 41 A10_3 s10.2.2.1.length c10_3 s10.2.2.1, eBlk b17_4 41 [.int .i64 r17_3.1.ID, .int .i64 r17_3.1.Kind, .int .i64 r17_3.1.Period.From, .int .i64 r17_3.1.Period.To, .slice A50_3 s50.2.2.1.length c50_3, .slice A50_6 s50.2.2.2.length c50_6, .int .i64 r17_3.1.Risk, .int .i64 r17_3.1.Cession, .int .i64 r17_3.1.Line, .int .i64 r17_3.1.Lines, .int .i64 s45.2.2.1, .int .i64 s45.2.2.2, .int .i64 r17_3.1.Window, .int .i64 r17_3.1.Deductible, .int .i64 r17_3.1.Aggregate, .int .i64 r17_3.1.Premium, .slice y17_3A2 r17_3.1.Reinstatements.length y17_3c2, .bool r17_3.1.Timed, .int .i64 r17_3.1.Base, .slice A59_3 n59_3 c59_3, .slice y17_3A4 r17_3.1.Parts.length y17_3c4], eS (lInt .i64) 3 A50_3 s50.2.2.1.length c50_3 s50.2.2.1, eS (lInt .i64) 3 A50_6 s50.2.2.2.length c50_6 s50.2.2.2, eS (lInt .i64) 3 y17_3A2 r17_3.1.Reinstatements.length y17_3c2 r17_3.1.Reinstatements, eS (lInt .i64) 3 A59_3 n59_3 c59_3 s59.2.2.1, eS lGPart 72 y17_3A4 r17_3.1.Parts.length y17_3c4 r17_3.1.Parts]) (fun (_, s59, A59_0, n59_0, c59_0, _, _, _, _) => [fV (lSlice (lInt .i64)) (.slice A59_0 n59_0 c59_0) s59.1]) (k59, (s50.1, s50.2.1, r17_3.1.Inures, 0), A50_0, s50.1.length, c50_0, y17_3A3, r17_3.1.Inures.length, y17_3c3, ()) hk59 (Sb rfl) (fun _ h => h.to ⟨_, r0, ⟨_, r0, ⟨_, r0, ⟨_, r0, ⟨_, r0, ⟨_, r0, ⟨_, r0, ⟨_, r0, trivial⟩⟩⟩⟩⟩⟩⟩⟩ ⟨m0, trivial⟩) ?_
      rintro ⟨k59, s59, A59_0, n59_0, c59_0, A59_3, n59_3, c59_3, _⟩ hI
      obtain ⟨k59, rfl, q59, h, g59⟩ := IterN.pos hI
      dsimp only at h ⊢
      unfold treatymade2_Treaties_l59 at h
      refine wc_know (fun _ h => h.lenF m0) (fun e => ?_)
      subst e
      refine wc_know (fun _ h => h.lenO (ms (ms (ms (ms (ms (ms m0))))))) (fun e => ?_)
      subst e
      refine Wq (Wr (D rfl (det_lss rfl rfl) (Wn (Pt (Wq ?_)))))
      refine wc_cond rfl (fun cd63 => ?_) (fun cd63 => ?_)
      ·have h := ifT h cd63
       refine Wk (Pt ?_)
       obtain ⟨q65, h, ho65⟩ := bs h
       refine wc_meetG (G := ((List Int) × Int × (List Int)) × Option Addr × Nat × Nat × Option Addr × Nat × Nat × Unit) (fun (s65, _, _, _, _, _, _, _) => s65 = q65) (fun (_, _, _, _, _, _, _, _) => [(0, .pointer (some ⟨Ba0, 0, none⟩)), (5, .slice A10_3 s10.2.2.1.length c10_3), (6, .int .i64 (w64 (s10.2.2.2.1 + (w64 (1 + r6_2.1))))), (7, .int .i64 s10.2.2.2.2), (11, .pointer (some ⟨b17_4, 0, none⟩)), (131, .slice A10_3 s10.2.2.1.length c10_3), (132, .int .i64 (s10.2.2.1.length : Int)), (133, .int .i64 s59.2.2.2)]) (fun (s65, A65_0, n65_0, c65_0, A65_3, n65_3, c65_3, _) => [eBlk Ba0 68 [.slice A65_0 n65_0 c65_0, .int .i64 s65.2.1], eS lGTreaty 41 A10_3 s10.2.2.1.length c10_3 s10.2.2.1, eBlk b17_4 41 [.int .i64 r17_3.1.ID, .int .i64 r17_3.1.Kind, .int .i64 r17_3.1.Period.From, .int .i64 r17_3.1.Period.To, .slice A50_3 s50.2.2.1.length c50_3, .slice A50_6 s50.2.2.2.length c50_6, .int .i64 r17_3.1.Risk, .int .i64 r17_3.1.Cession, .int .i64 r17_3.1.Line, .int .i64 r17_3.1.Lines, .int .i64 s45.2.2.1, .int .i64 s45.2.2.2, .int .i64 r17_3.1.Window, .int .i64 r17_3.1.Deductible, .int .i64 r17_3.1.Aggregate, .int .i64 r17_3.1.Premium, .slice y17_3A2 r17_3.1.Reinstatements.length y17_3c2, .bool r17_3.1.Timed, .int .i64 r17_3.1.Base, .slice A65_3 n65_3 c65_3, .slice y17_3A4 r17_3.1.Parts.length y17_3c4], eS (lInt .i64) 3 A50_3 s50.2.2.1.length c50_3 s50.2.2.1, eS (lInt .i64) 3 A50_6 s50.2.2.2.length c50_6 s50.2.2.2, eS (lInt .i64) 3 y17_3A2 r17_3.1.Reinstatements.length y17_3c2 r17_3.1.Reinstatements, eS (lInt .i64) 3 A65_3 n65_3 c65_3 s65.2.2, eS lGPart 72 y17_3A4 r17_3.1.Parts.length y17_3c4 r17_3.1.Parts]) (fun (s65, A65_0, n65_0, c65_0, _, _, _, _) => [fV (lSlice (lInt .i64)) (.slice A65_0 n65_0 c65_0) s65.1]) ?_ ?_
       ·refine Wb (Wq (Wr ?_))
        obtain ⟨k24_0, h⟩ := chk_some h
        refine D rfl (det_indexO rfl rfl (ms m0) k24_0 un23 sz41) (Ac rfl (act_loadX (G := Option Addr × Nat × Option Addr × Nat × Option Addr × Nat × Option Addr × Nat × Option Addr × Nat) (off := 0) (cnt := 21) (cells := fun g => [.int .i64 (ix s10.2.2.1 s59.2.2.2).ID, .int .i64 (ix s10.2.2.1 s59.2.2.2).Kind, .int .i64 (ix s10.2.2.1 s59.2.2.2).Period.From, .int .i64 (ix s10.2.2.1 s59.2.2.2).Period.To, .slice g.1 (ix s10.2.2.1 s59.2.2.2).Perils.length g.2.1, .slice g.2.2.1 (ix s10.2.2.1 s59.2.2.2).Areas.length g.2.2.2.1, .int .i64 (ix s10.2.2.1 s59.2.2.2).Risk, .int .i64 (ix s10.2.2.1 s59.2.2.2).Cession, .int .i64 (ix s10.2.2.1 s59.2.2.2).Line, .int .i64 (ix s10.2.2.1 s59.2.2.2).Lines, .int .i64 (ix s10.2.2.1 s59.2.2.2).Retention, .int .i64 (ix s10.2.2.1 s59.2.2.2).Limit, .int .i64 (ix s10.2.2.1 s59.2.2.2).Window, .int .i64 (ix s10.2.2.1 s59.2.2.2).Deductible, .int .i64 (ix s10.2.2.1 s59.2.2.2).Aggregate, .int .i64 (ix s10.2.2.1 s59.2.2.2).Premium, .slice g.2.2.2.2.1 (ix s10.2.2.1 s59.2.2.2).Reinstatements.length g.2.2.2.2.2.1, .bool (ix s10.2.2.1 s59.2.2.2).Timed, .int .i64 (ix s10.2.2.1 s59.2.2.2).Base, .slice g.2.2.2.2.2.2.1 (ix s10.2.2.1 s59.2.2.2).Inures.length g.2.2.2.2.2.2.2.1, .slice g.2.2.2.2.2.2.2.2.1 (ix s10.2.2.1 s59.2.2.2).Parts.length g.2.2.2.2.2.2.2.2.2]) (fs := fun g => [fV (lSlice (lInt .i64)) (.slice g.1 (ix s10.2.2.1 s59.2.2.2).Perils.length g.2.1) (ix s10.2.2.1 s59.2.2.2).Perils, fV (lSlice (lInt .i64)) (.slice g.2.2.1 (ix s10.2.2.1 s59.2.2.2).Areas.length g.2.2.2.1) (ix s10.2.2.1 s59.2.2.2).Areas, fV (lSlice (lInt .i64)) (.slice g.2.2.2.2.1 (ix s10.2.2.1 s59.2.2.2).Reinstatements.length g.2.2.2.2.2.1) (ix s10.2.2.1 s59.2.2.2).Reinstatements, fV (lSlice (lInt .i64)) (.slice g.2.2.2.2.2.2.1 (ix s10.2.2.1 s59.2.2.2).Inures.length g.2.2.2.2.2.2.2.1) (ix s10.2.2.1 s59.2.2.2).Inures, fV (lSlice lGPart) (.slice g.2.2.2.2.2.2.2.2.1 (ix s10.2.2.1 s59.2.2.2).Parts.length g.2.2.2.2.2.2.2.2.2) (ix s10.2.2.1 s59.2.2.2).Parts]) (val := fun g => .agg #[.int .i64 (ix s10.2.2.1 s59.2.2.2).ID, .int .i64 (ix s10.2.2.1 s59.2.2.2).Kind, .int .i64 (ix s10.2.2.1 s59.2.2.2).Period.From, .int .i64 (ix s10.2.2.1 s59.2.2.2).Period.To, .slice g.1 (ix s10.2.2.1 s59.2.2.2).Perils.length g.2.1, .slice g.2.2.1 (ix s10.2.2.1 s59.2.2.2).Areas.length g.2.2.2.1, .int .i64 (ix s10.2.2.1 s59.2.2.2).Risk, .int .i64 (ix s10.2.2.1 s59.2.2.2).Cession, .int .i64 (ix s10.2.2.1 s59.2.2.2).Line, .int .i64 (ix s10.2.2.1 s59.2.2.2).Lines, .int .i64 (ix s10.2.2.1 s59.2.2.2).Retention, .int .i64 (ix s10.2.2.1 s59.2.2.2).Limit, .int .i64 (ix s10.2.2.1 s59.2.2.2).Window, .int .i64 (ix s10.2.2.1 s59.2.2.2).Deductible, .int .i64 (ix s10.2.2.1 s59.2.2.2).Aggregate, .int .i64 (ix s10.2.2.1 s59.2.2.2).Premium, .slice g.2.2.2.2.1 (ix s10.2.2.1 s59.2.2.2).Reinstatements.length g.2.2.2.2.2.1, .bool (ix s10.2.2.1 s59.2.2.2).Timed, .int .i64 (ix s10.2.2.1 s59.2.2.2).Base, .slice g.2.2.2.2.2.2.1 (ix s10.2.2.1 s59.2.2.2).Inures.length g.2.2.2.2.2.2.2.1, .slice g.2.2.2.2.2.2.2.2.1 (ix s10.2.2.1 s59.2.2.2).Parts.length g.2.2.2.2.2.2.2.2.2]) rfl (ms m0) k24_0 rfl (by rfl) (fun _ _ _ h => by obtain ⟨A0, c0, A1, c1, A2, c2, A3, c3, A4, c4, e, r⟩ := viewGTreaty h; exact ⟨(A0, c0, A1, c1, A2, c2, A3, c3, A4, c4), e, r⟩) (fun g => (loaded_n (cells := [_, _, _, _, _, _, _, _, _, _, _, _, _, _, _, _, _, _, _, _, _]) ag41 sz41))) ?_)
        rintro _ _ _ ⟨⟨A24_1, c24_1, A24_1a, c24_1a, A24_1b, c24_1b, A24_1c, c24_1c, A24_1d, c24_1d⟩, rfl, rfl, rfl⟩
        refine Ac rfl (act_alloc (cs := [_, _, _, _, _, _, _, _, _, _, _, _, _, _, _, _, _, _, _, _, _]) zr41 rfl) ?_
        rintro _ _ _ ⟨b24_2, rfl, rfl, rfl⟩
        refine Az rfl (act_store (cells := [_, _, _, _, _, _, _, _, _, _, _, _, _, _, _, _, _, _, _, _, _]) (cs' := [_, _, _, _, _, _, _, _, _, _, _, _, _, _, _, _, _, _, _, _, _]) rfl rfl rfl s0 (by rfl) (of_decide_eq_true rfl) sz41 (On1 rfl)) ?_
        rintro _ _ _ ⟨rfl, rfl⟩
        refine Wn (Pt ?_)
        obtain ⟨q69, h, ho69⟩ := bs h
        refine wc_meetG (G := ((List Int) × Int × Bool) × Option Addr × Nat × Nat × Unit) (fun (s69, _, _, _, _) => s69 = q69) (fun (s69, _, _, _, _) => [(0, .pointer (some ⟨Ba0, 0, none⟩)), (5, .slice A10_3 s10.2.2.1.length c10_3), (6, .int .i64 (w64 (s10.2.2.2.1 + (w64 (1 + r6_2.1))))), (7, .int .i64 s10.2.2.2.2), (11, .pointer (some ⟨b17_4, 0, none⟩)), (13, .pointer (some ⟨b24_2, 0, none⟩)), (131, .slice A10_3 s10.2.2.1.length c10_3), (132, .int .i64 (s10.2.2.1.length : Int)), (133, .int .i64 s59.2.2.2), (144, .bool s69.2.2)]) (fun (s69, A69_0, n69_0, c69_0, _) => [eBlk Ba0 68 [.slice A69_0 n69_0 c69_0, .int .i64 s69.2.1], eS lGTreaty 41 A10_3 s10.2.2.1.length c10_3 s10.2.2.1, eBlk b17_4 41 [.int .i64 r17_3.1.ID, .int .i64 r17_3.1.Kind, .int .i64 r17_3.1.Period.From, .int .i64 r17_3.1.Period.To, .slice A50_3 s50.2.2.1.length c50_3, .slice A50_6 s50.2.2.2.length c50_6, .int .i64 r17_3.1.Risk, .int .i64 r17_3.1.Cession, .int .i64 r17_3.1.Line, .int .i64 r17_3.1.Lines, .int .i64 s45.2.2.1, .int .i64 s45.2.2.2, .int .i64 r17_3.1.Window, .int .i64 r17_3.1.Deductible, .int .i64 r17_3.1.Aggregate, .int .i64 r17_3.1.Premium, .slice y17_3A2 r17_3.1.Reinstatements.length y17_3c2, .bool r17_3.1.Timed, .int .i64 r17_3.1.Base, .slice A59_3 s59.2.2.1.length c59_3, .slice y17_3A4 r17_3.1.Parts.length y17_3c4], eS (lInt .i64) 3 A50_3 s50.2.2.1.length c50_3 s50.2.2.1, eS (lInt .i64) 3 A50_6 s50.2.2.2.length c50_6 s50.2.2.2, eS (lInt .i64) 3 y17_3A2 r17_3.1.Reinstatements.length y17_3c2 r17_3.1.Reinstatements, eS (lInt .i64) 3 A59_3 s59.2.2.1.length c59_3 s59.2.2.1, eS lGPart 72 y17_3A4 r17_3.1.Parts.length y17_3c4 r17_3.1.Parts, eBlk b24_2 41 [.int .i64 (ix s10.2.2.1 s59.2.2.2).ID, .int .i64 (ix s10.2.2.1 s59.2.2.2).Kind, .int .i64 (ix s10.2.2.1 s59.2.2.2).Period.From, .int .i64 (ix s10.2.2.1 s59.2.2.2).Period.To, .slice A24_1 (ix s10.2.2.1 s59.2.2.2).Perils.length c24_1, .slice A24_1a (ix s10.2.2.1 s59.2.2.2).Areas.length c24_1a, .int .i64 (ix s10.2.2.1 s59.2.2.2).Risk, .int .i64 (ix s10.2.2.1 s59.2.2.2).Cession, .int .i64 (ix s10.2.2.1 s59.2.2.2).Line, .int .i64 (ix s10.2.2.1 s59.2.2.2).Lines, .int .i64 (ix s10.2.2.1 s59.2.2.2).Retention, .int .i64 (ix s10.2.2.1 s59.2.2.2).Limit, .int .i64 (ix s10.2.2.1 s59.2.2.2).Window, .int .i64 (ix s10.2.2.1 s59.2.2.2).Deductible, .int .i64 (ix s10.2.2.1 s59.2.2.2).Aggregate, .int .i64 (ix s10.2.2.1 s59.2.2.2).Premium, .slice A24_1b (ix s10.2.2.1 s59.2.2.2).Reinstatements.length c24_1b, .bool (ix s10.2.2.1 s59.2.2.2).Timed, .int .i64 (ix s10.2.2.1 s59.2.2.2).Base, .slice A24_1c (ix s10.2.2.1 s59.2.2.2).Inures.length c24_1c, .slice A24_1d (ix s10.2.2.1 s59.2.2.2).Parts.length c24_1d]]) (fun (s69, A69_0, n69_0, c69_0, _) => [fV (lSlice (lInt .i64)) (.slice A69_0 n69_0 c69_0) s69.1, fV (lSlice (lInt .i64)) (.slice A24_1 (ix s10.2.2.1 s59.2.2.2).Perils.length c24_1) (ix s10.2.2.1 s59.2.2.2).Perils, fV (lSlice (lInt .i64)) (.slice A24_1a (ix s10.2.2.1 s59.2.2.2).Areas.length c24_1a) (ix s10.2.2.1 s59.2.2.2).Areas, fV (lSlice (lInt .i64)) (.slice A24_1b (ix s10.2.2.1 s59.2.2.2).Reinstatements.length c24_1b) (ix s10.2.2.1 s59.2.2.2).Reinstatements, fV (lSlice (lInt .i64)) (.slice A24_1c (ix s10.2.2.1 s59.2.2.2).Inures.length c24_1c) (ix s10.2.2.1 s59.2.2.2).Inures, fV (lSlice lGPart) (.slice A24_1d (ix s10.2.2.1 s59.2.2.2).Parts.length c24_1d) (ix s10.2.2.1 s59.2.2.2).Parts]) ?_ ?_
        ·refine Wr (D rfl (det_loadN (cells := [_, _, _, _, _, _, _, _, _, _, _, _, _, _, _, _, _, _, _, _, _]) rfl (ms (ms (ms m0))) (by rfl) ag41 sz41) (D rfl (det_loadN (cells := [_, _, _, _, _, _, _, _, _, _, _, _, _, _, _, _, _, _, _, _, _]) rfl m0 (by rfl) ag41 sz41) ?_))
         obtain ⟨r25_2, hr25_2, h⟩ := bs h
         refine Ac rfl (act_callL (cap := []) [eS (lInt .i64) 3 A50_3 s50.2.2.1.length c50_3 s50.2.2.1, eS (lInt .i64) 3 A50_6 s50.2.2.2.length c50_6 s50.2.2.2, eS (lInt .i64) 3 y17_3A2 r17_3.1.Reinstatements.length y17_3c2 r17_3.1.Reinstatements, eS (lInt .i64) 3 A59_3 s59.2.2.1.length c59_3 s59.2.2.1, eS lGPart 72 y17_3A4 r17_3.1.Parts.length y17_3c4 r17_3.1.Parts] (W_treatyref25_Meet (GTreaty.mk r17_3.1.ID r17_3.1.Kind r17_3.1.Period s50.2.2.1 s50.2.2.2 r17_3.1.Risk r17_3.1.Cession r17_3.1.Line r17_3.1.Lines s45.2.2.1 s45.2.2.2 r17_3.1.Window r17_3.1.Deductible r17_3.1.Aggregate r17_3.1.Premium r17_3.1.Reinstatements r17_3.1.Timed r17_3.1.Base s59.2.2.1 r17_3.1.Parts) (ix s10.2.2.1 s59.2.2.2) A50_3 s50.2.2.1.length c50_3 A50_6 s50.2.2.2.length c50_6 y17_3A2 r17_3.1.Reinstatements.length y17_3c2 A59_3 s59.2.2.1.length c59_3 y17_3A4 r17_3.1.Parts.length y17_3c4 A24_1 (ix s10.2.2.1 s59.2.2.2).Perils.length c24_1 A24_1a (ix s10.2.2.1 s59.2.2.2).Areas.length c24_1a A24_1b (ix s10.2.2.1 s59.2.2.2).Reinstatements.length c24_1b A24_1c (ix s10.2.2.1 s59.2.2.2).Inures.length c24_1c A24_1d (ix s10.2.2.1 s59.2.2.2).Parts.length c24_1d r25_2 hr25_2) plains_treatyref25_Meet rfl rfl rfl bd26 rfl ⟨(ms (ms (ms (ms m0)))), ⟨(ms (ms (ms (ms (ms m0))))), ⟨(ms (ms (ms (ms (ms (ms m0)))))), ⟨(ms (ms (ms (ms (ms (ms (ms m0))))))), ⟨(ms (ms (ms (ms (ms (ms (ms (ms m0)))))))), trivial⟩⟩⟩⟩⟩ ⟨.inr ⟨_, m0, lent_eS⟩, ⟨.inr ⟨_, (ms m0), lent_eS⟩, ⟨.inr ⟨_, (ms (ms m0)), lent_eS⟩, ⟨.inr ⟨_, (ms (ms (ms m0))), lent_eS⟩, ⟨.inr ⟨_, (ms (ms (ms (ms m0)))), lent_eS⟩, ⟨.inl m0, ⟨.inl (ms m0), ⟨.inl (ms (ms m0)), ⟨.inl (ms (ms (ms m0))), ⟨.inl (ms (ms (ms (ms m0)))), trivial⟩⟩⟩⟩⟩⟩⟩⟩⟩⟩) ?_
         rintro _ _ _ ⟨_, _, ⟨rfl, rfl, rfl⟩, rfl, rfl⟩
         dsimp only [na, ca]
         refine D rfl (mv rfl) ?_
         rcases Bool.eq_false_or_eq_true r25_2 with hg25_f4 | hg25_f4
         ·have h := ifT h hg25_f4
          refine Gf rfl rfl rfl hg25_f4 (Gf rfl rfl rfl hg25_f4 (Gf rfl rfl rfl hg25_f4 (D rfl (det_pick_on rfl hg25_f4 rfl rfl) (Wn ?_))))
          obtain rfl := si h
          exact pn_meetG ((s59.1, s59.2.1, true), A59_0, s59.1.length, c59_0, ()) rfl (Sb rfl) (fun _ h => h.to ⟨_, (rs r0), ⟨_, (rs r0), ⟨_, (rs r0), ⟨_, (rs r0), ⟨_, (rs r0), ⟨_, (rs r0), ⟨_, (rs r0), ⟨_, (rs r0), ⟨_, r0, trivial⟩⟩⟩⟩⟩⟩⟩⟩⟩ ⟨(ms (ms (ms (ms (ms m0))))), ⟨m0, ⟨(ms m0), ⟨(ms (ms m0)), ⟨(ms (ms (ms m0))), ⟨(ms (ms (ms (ms m0)))), trivial⟩⟩⟩⟩⟩⟩)
         ·have h := ifF h hg25_f4
          refine Gn rfl rfl hg25_f4 (D rfl (mv rfl) (Gn rfl rfl hg25_f4 ?_))
          obtain ⟨r25_5, hr25_5, h⟩ := bs h
          refine Ac rfl (act_callS (cap := []) (W_treatymade_Deck_Next (GDeck.mk s59.1 s59.2.1) 4 Ba0 A59_0 s59.1.length c59_0 r25_5 hr25_5) rfl rfl rfl bd19 ⟨_, (rs r0), rfl⟩ ⟨(ms (ms (ms (ms (ms m0))))), trivial⟩) ?_
          rintro _ _ _ ⟨_, _, ⟨y25_5A0, y25_5n0, y25_5c0, rfl, rfl, rfl⟩, rfl, rfl⟩
          dsimp only [na, ca]
          refine wl_know (fun _ h => h.lenF m0) (fun e => ?_)
          subst e
          refine Gn rfl rfl hg25_f4 (D rfl (det_eql rfl rfl) (D rfl (det_pick_off rfl hg25_f4 rfl rfl) (Wn ?_)))
          obtain rfl := si h
          exact pn_meetG ((r25_5.2.L, r25_5.2.At, (decide (r25_5.1 = 0))), y25_5A0, r25_5.2.L.length, y25_5c0, ()) rfl (Sb rfl) (fun _ h => h.to ⟨_, r0, ⟨_, (rs r0), ⟨_, (rs r0), ⟨_, (rs r0), ⟨_, (rs r0), ⟨_, (rs r0), ⟨_, (rs r0), ⟨_, (rs r0), ⟨_, r0, trivial⟩⟩⟩⟩⟩⟩⟩⟩⟩ ⟨m0, ⟨(ms m0), ⟨(ms (ms m0)), ⟨(ms (ms (ms m0))), ⟨(ms (ms (ms (ms m0)))), ⟨(ms (ms (ms (ms (ms m0))))), trivial⟩⟩⟩⟩⟩⟩)
        rintro ⟨s69, A69_0, n69_0, c69_0, _⟩ e69
        dsimp only at e69 ⊢
        subst e69
        have h := ho69
        refine wc_know (fun _ h => h.lenF m0) (fun e => ?_)
        subst e
        refine wc_cond rfl (fun cd71 => ?_) (fun cd71 => ?_)
        ·have h := ifT h cd71
         refine Wr (D rfl (fd rfl fd41_18 rfl) (D rfl (ld rfl (ms (ms m0)) (by rfl) na22 us22) (D rfl (fd rfl fd41_0 rfl) (D rfl (ld rfl (ms (ms (ms (ms (ms (ms (ms (ms m0)))))))) (by rfl) na3 us3) (Ac rfl (act_litS (lInt .i64) (vs := [_]) (cs := [_]) [(ix s10.2.2.1 s59.2.2.2).ID] un22 in3 rfl rfl rfl rfl rfl ⟨rfl, trivial⟩ (by rfl) rfl (litR_flat rfl)) ?_)))))
         rintro _ _ _ ⟨A26_4, rfl, rfl, rfl⟩
         obtain ⟨k26_5, h⟩ := chk_some h
         refine Ac rfl (act_appendS (L := (lInt .i64)) rfl rfl (ss (ss (ss (ss (ss (ss (ss s0))))))) (src_O m0) un22 in3 rfl rfl rfl k26_5) ?_
         rintro _ _ _ ⟨A26_5, c26_5, rfl, rfl, rfl⟩
         refine D rfl (fd rfl fd41_18 rfl) (Az rfl (act_store (cells := [_]) (cs' := [_, _, _, _, _, _, _, _, _, _, _, _, _, _, _, _, _, _, _, _, _]) rfl rfl rfl (ss (ss (ss s0))) (by rfl) (of_decide_eq_true rfl) sz22 (On1 rfl)) ?_)
         rintro _ _ _ ⟨rfl, rfl⟩
         refine Wn (Pb ?_)
         obtain rfl := si h
         exact pn_meetG ((s69.1, s69.2.1, (s59.2.2.1 ++ [(ix s10.2.2.1 s59.2.2.2).ID])), A69_0, s69.1.length, c69_0, A26_5, (s59.2.2.1 ++ [(ix s10.2.2.1 s59.2.2.2).ID]).length, c26_5, ()) rfl (Sb rfl) (fun _ h => h.to ⟨_, (rs r0), ⟨_, (rs r0), ⟨_, (rs r0), ⟨_, (rs r0), ⟨_, (rs r0), ⟨_, (rs r0), ⟨_, (rs r0), ⟨_, (rs r0), trivial⟩⟩⟩⟩⟩⟩⟩⟩ ⟨m0, trivial⟩)
        ·have h := ifF h cd71
         refine Wk (Pb ?_)
         obtain rfl := si h
         exact pn_meetG ((s69.1, s69.2.1, s59.2.2.1), A69_0, s69.1.length, c69_0, A59_3, s59.2.2.1.length, c59_3, ()) rfl (Sb rfl) (fun _ h => h.to ⟨_, r0, ⟨_, r0, ⟨_, r0, ⟨_, r0, ⟨_, r0, ⟨_, r0, ⟨_, r0, ⟨_, r0, trivial⟩⟩⟩⟩⟩⟩⟩⟩ ⟨m0, trivial⟩)
       rintro ⟨s65, A65_0, n65_0, c65_0, A65_3, n65_3, c65_3, _⟩ e65
       dsimp only at e65 ⊢
       subst e65
       have h := ho65
       refine wc_know (fun _ h => h.lenF m0) (fun e => ?_)
       subst e
       refine wc_know (fun _ h => h.lenO (ms (ms (ms (ms (ms (ms m0))))))) (fun e => ?_)
       subst e
       refine Wr (D rfl (det_add rfl rfl) (D rfl (mv rfl) (Wn ?_)))
       obtain rfl := si h
       exact pn_some (k59, (s65.1, s65.2.1, s65.2.2, (w64 (s59.2.2.2 + 1))), A65_0, s65.1.length, c65_0, A65_3, s65.2.2.length, c65_3, ()) ⟨nextL g59, Nat.lt_succ_self _⟩ (Sb rfl) (fun _ h => h.to ⟨_, r0, ⟨_, r0, ⟨_, r0, ⟨_, r0, ⟨_, r0, ⟨_, r0, ⟨_, r0, ⟨_, r0, trivial⟩⟩⟩⟩⟩⟩⟩⟩ ⟨m0, trivial⟩)
      ·have h := ifF h cd63
       refine We (Xt (Xt (Xb ?_)))
       obtain rfl := si h
       replace g59 := nextR g59
       subst g59
       exact pn_meetG ((s59.1, s59.2.1, s59.2.2.1), A59_0, s59.1.length, c59_0, A59_3, s59.2.2.1.length, c59_3, ()) rfl (Sb rfl) (fun _ h => h.to ⟨_, r0, ⟨_, r0, ⟨_, r0, ⟨_, r0, ⟨_, r0, ⟨_, r0, ⟨_, r0, ⟨_, r0, trivial⟩⟩⟩⟩⟩⟩⟩⟩ ⟨m0, trivial⟩)
     rintro ⟨s55, A55_0, n55_0, c55_0, A55_3, n55_3, c55_3, _⟩ e55
     dsimp only at e55 ⊢
     subst e55
     have h := ho55
     refine wc_know (fun _ h => h.lenF m0) (fun e => ?_)
     subst e
     refine wc_know (fun _ h => h.lenO (ms (ms (ms (ms (ms (ms m0))))))) (fun e => ?_)
     subst e
     refine Wr (D rfl (mv rfl) (D rfl (det_loadN (cells := [_, _, _, _, _, _, _, _, _, _, _, _, _, _, _, _, _, _, _, _, _]) rfl (ms (ms m0)) (by rfl) ag41 sz41) ?_))
     refine wl_st (fun _ h => h.shutS (rs (rs (rs r0)))) ?_
     refine wl_st (fun _ h => h.shutS (rs (rs (rs r0)))) ?_
     refine wl_st (fun _ h => h.shutS (rs (rs (rs r0)))) ?_
     refine wl_st (fun _ h => h.shutS (rs (rs (rs r0)))) ?_
     refine wl_st (fun _ h => h.shutS (rs (rs (rs r0)))) ?_
     refine wl_st (fun _ h => h.fact (f := fC lGTreaty [.int .i64 r17_3.1.ID, .int .i64 r17_3.1.Kind, .int .i64 r17_3.1.Period.From, .int .i64 r17_3.1.Period.To, .slice A50_3 s50.2.2.1.length c50_3, .slice A50_6 s50.2.2.2.length c50_6, .int .i64 r17_3.1.Risk, .int .i64 r17_3.1.Cession, .int .i64 r17_3.1.Line, .int .i64 r17_3.1.Lines, .int .i64 s45.2.2.1, .int .i64 s45.2.2.2, .int .i64 r17_3.1.Window, .int .i64 r17_3.1.Deductible, .int .i64 r17_3.1.Aggregate, .int .i64 r17_3.1.Premium, .slice y17_3A2 r17_3.1.Reinstatements.length y17_3c2, .bool r17_3.1.Timed, .int .i64 r17_3.1.Base, .slice A55_3 s55.2.2.length c55_3, .slice y17_3A4 r17_3.1.Parts.length y17_3c4] (GTreaty.mk r17_3.1.ID r17_3.1.Kind r17_3.1.Period s50.2.2.1 s50.2.2.2 r17_3.1.Risk r17_3.1.Cession r17_3.1.Line r17_3.1.Lines s45.2.2.1 s45.2.2.2 r17_3.1.Window r17_3.1.Deductible r17_3.1.Aggregate r17_3.1.Premium r17_3.1.Reinstatements r17_3.1.Timed r17_3.1.Base s55.2.2 r17_3.1.Parts)) (mkGTreaty (x := (GTreaty.mk r17_3.1.ID r17_3.1.Kind r17_3.1.Period s50.2.2.1 s50.2.2.2 r17_3.1.Risk r17_3.1.Cession r17_3.1.Line r17_3.1.Lines s45.2.2.1 s45.2.2.2 r17_3.1.Window r17_3.1.Deductible r17_3.1.Aggregate r17_3.1.Premium r17_3.1.Reinstatements r17_3.1.Timed r17_3.1.Base s55.2.2 r17_3.1.Parts)) ⟨h.facts _ (ms (ms (ms (ms m0)))), h.facts _ (ms (ms (ms m0))), h.facts _ (ms (ms m0)), h.facts _ (ms m0), h.facts _ m0, trivial⟩)) ?_
     refine Ac rfl (act_litS lGTreaty (vs := [_]) (cs := [_, _, _, _, _, _, _, _, _, _, _, _, _, _, _, _, _, _, _, _, _]) [(GTreaty.mk r17_3.1.ID r17_3.1.Kind r17_3.1.Period s50.2.2.1 s50.2.2.2 r17_3.1.Risk r17_3.1.Cession r17_3.1.Line r17_3.1.Lines s45.2.2.1 s45.2.2.2 r17_3.1.Window r17_3.1.Deductible r17_3.1.Aggregate r17_3.1.Premium r17_3.1.Reinstatements r17_3.1.Timed r17_3.1.Base s55.2.2 r17_3.1.Parts)] un23 in41 rfl rfl rfl rfl rfl ⟨rfl, trivial⟩ (by rfl) rfl (fun _ h => by have q := oneF h m0; exact q)) ?_
     rintro _ _ _ ⟨A28_2, rfl, rfl, rfl⟩
     obtain ⟨k28_3, h⟩ := chk_some h
     refine Ac rfl (act_appendS (L := lGTreaty) rfl rfl (ss (ss s0)) (src_O m0) un23 in41 rfl rfl rfl k28_3) ?_
     rintro _ _ _ ⟨A28_3, c28_3, rfl, rfl, rfl⟩
     refine D rfl (ag rfl) (Wn (Pb ?_))
     obtain rfl := si h
     exact pn_meetG ((s55.1, s55.2.1, (s10.2.2.1 ++ [(GTreaty.mk r17_3.1.ID r17_3.1.Kind r17_3.1.Period s50.2.2.1 s50.2.2.2 r17_3.1.Risk r17_3.1.Cession r17_3.1.Line r17_3.1.Lines s45.2.2.1 s45.2.2.2 r17_3.1.Window r17_3.1.Deductible r17_3.1.Aggregate r17_3.1.Premium r17_3.1.Reinstatements r17_3.1.Timed r17_3.1.Base s55.2.2 r17_3.1.Parts)]), (w64 (s10.2.2.2.1 + (w64 (1 + r6_2.1))))), A55_0, s55.1.length, c55_0, A28_3, (s10.2.2.1 ++ [(GTreaty.mk r17_3.1.ID r17_3.1.Kind r17_3.1.Period s50.2.2.1 s50.2.2.2 r17_3.1.Risk r17_3.1.Cession r17_3.1.Line r17_3.1.Lines s45.2.2.1 s45.2.2.2 r17_3.1.Window r17_3.1.Deductible r17_3.1.Aggregate r17_3.1.Premium r17_3.1.Reinstatements r17_3.1.Timed r17_3.1.Base s55.2.2 r17_3.1.Parts)]).length, c28_3, ()) rfl (Sb rfl) (fun _ h => h.to ⟨_, (rs r0), ⟨_, (rs r0), trivial⟩⟩ ⟨(ms (ms (ms (ms (ms (ms m0)))))), trivial⟩)
   rintro ⟨s16, A16_0, n16_0, c16_0, A16_3, n16_3, c16_3, _⟩ e16
   dsimp only at e16 ⊢
   subst e16
   have h := ho16
   refine wc_know (fun _ h => h.lenF m0) (fun e => ?_)
   subst e
   refine wc_know (fun _ h => h.lenO (ms m0)) (fun e => ?_)
   subst e
   refine Wr (D rfl (mv rfl) (D rfl (det_sub rfl rfl) (D rfl (ag rfl) (Wn ?_))))
   obtain rfl := si h
   exact pn_some (k10, (s16.1, s16.2.1, s16.2.2.1, s16.2.2.2, (w64 (s10.2.2.2.2 - 1))), A16_0, s16.1.length, c16_0, A16_3, s16.2.2.1.length, c16_3, ()) ⟨nextL g10, Nat.lt_succ_self _⟩ (Sb rfl) (fun _ h => h.to ⟨_, r0, ⟨_, r0, trivial⟩⟩ ⟨m0, trivial⟩)
  ·have h := ifF h cd14
   refine We (Xt (Xt (Xb ?_)))
   obtain rfl := si h
   replace g10 := nextR g10
   subst g10
   exact pn_meetG ((s10.1, s10.2.1, s10.2.2.1), A10_0, s10.1.length, c10_0, A10_3, s10.2.2.1.length, c10_3, ()) rfl (Sb rfl) (fun _ h => h.to ⟨_, r0, ⟨_, r0, trivial⟩⟩ ⟨m0, trivial⟩)
 rintro ⟨s6, A6_0, n6_0, c6_0, A6_3, n6_3, c6_3, _⟩ e6
 dsimp only at e6 ⊢
 subst e6
 have h := ho6
 refine wc_know (fun _ h => h.lenF m0) (fun e => ?_)
 subst e
 refine wc_know (fun _ h => h.lenO (ms m0)) (fun e => ?_)
 subst e
 refine Wq (Wr (D rfl (mv rfl) (D rfl (ag rfl) (Wn (Pt (Wt ?_))))))
 obtain rfl := si h
 refine pn_ret (vs := [_]) rfl ⟨rfl, trivial⟩ ⟨A6_3, s6.2.2.length, c6_3, A6_0, s6.1.length, c6_0, rfl, rfl, rfl⟩ (fun _ h => h.to ⟨_, (rs r0), ⟨_, r0, trivial⟩⟩ ⟨m0, trivial⟩)
def Q_treatymade2_Amounts (Ba0 : Nat) (r : (List Int) × GDeck) : Value → List Ent → List Fact → Prop := fun v θ κ => ∃ (pA0 : Option Addr), ∃ (pn0 : Nat), ∃ (pc0 : Nat), ∃ (pA1 : Option Addr), ∃ (pn1 : Nat), ∃ (pc1 : Nat), v = .slice pA0 pn0 pc0 ∧ θ = [eS (lInt .i64) 3 pA0 pn0 pc0 r.1, eBlk Ba0 68 [.slice pA1 pn1 pc1, .int .i64 r.2.At]] ∧ κ = [fV (lSlice (lInt .i64)) (.slice pA1 pn1 pc1) r.2.L]
set_option maxHeartbeats 4000000 in
set_option maxRecDepth 100000 in
theorem W_treatymade2_Amounts (a0 : GDeck) (a1 : Int) (Ba0 : Nat) (A1 : Option Addr) (n1 : Nat) (c1 : Nat) (r : (List Int) × GDeck) (h : treatymade2_Amounts a0 a1 = some r) : Spec Try.prog 18 [.pointer (some ⟨Ba0, 0, none⟩), .int .i64 a1] [eBlk Ba0 68 [.slice A1 n1 c1, .int .i64 a0.At]] [fV (lSlice (lInt .i64)) (.slice A1 n1 c1) a0.L] (Q_treatymade2_Amounts Ba0 r) := by
 unfold treatymade2_Amounts at h
 refine spec_of (σ := [(0, _), (1, _)]) Try.func18 rfl rfl rfl rfl ?_
 intro C
 refine wc_know (fun _ h => h.lenF m0) (fun e => ?_)
 subst e
 refine Wq (Wr (D rfl (ag rfl) (Wn (Pt (Wq (Wr (D rfl (mv rfl) ?_)))))))
 obtain ⟨k1_1, h⟩ := chk_some h
 obtain ⟨k1_1a, h⟩ := chk_some h
 refine wl_act (act_makeS (L := (lInt .i64)) (x0 := (0 : Int)) rfl rfl un22 in3 (by refine ⟨rfl, fun _ _ => ?_⟩; first | exact rfl | exact ⟨_, _, _, rfl, rfl, Nat.zero_le _, .inl rfl⟩) rfl rfl k1_1 (decide_eq_true (Int.le_refl _)) k1_1a) rfl rfl rfl ?_
 rintro _ _ _ ⟨A1_1, c1_1, rfl, rfl, rfl⟩
 refine D rfl (ag rfl) (Wn (Pt ?_))
 obtain ⟨q4, h, ho4⟩ := bs h
 refine wc_meetG (G := ((List Int) × Int × (List Int)) × Option Addr × Nat × Nat × Unit) (fun (s4, _, _, _, _) => s4 = q4) (fun (_, _, _, _, _) => [(5, .slice A1_1 (List.replicate a1.toNat (0 : Int)).length c1_1)]) (fun (s4, A4_0, n4_0, c4_0, _) => [eBlk Ba0 68 [.slice A4_0 n4_0 c4_0, .int .i64 s4.2.1], eS (lInt .i64) 3 A1_1 (List.replicate a1.toNat (0 : Int)).length c1_1 s4.2.2]) (fun (s4, A4_0, n4_0, c4_0, _) => [fV (lSlice (lInt .i64)) (.slice A4_0 n4_0 c4_0) s4.1]) ?_ ?_
 ·refine Wq (Wr (D rfl (mv rfl) (D rfl (det_len rfl un22) (D rfl (mv rfl) (Wn (Pt (Wb ?_)))))))
  obtain ⟨k8, hk8⟩ := loopV_some.1 h
  refine wc_loop (G := Nat × ((List Int) × Int × (List Int) × Int) × Option Addr × Nat × Nat × Unit) (fun g => IterN (treatymade2_Amounts_l8 a1) g.1 g.2.1 q4) (fun g => g.1) (fun (_, s8, _, _, _, _) => [(0, .pointer (some ⟨Ba0, 0, none⟩)), (5, .slice A1_1 (List.replicate a1.toNat (0 : Int)).length c1_1), (10, .int .i64 ((List.replicate a1.toNat (0 : Int)).length : Int)), (11, .int .i64 s8.2.2.2)]) (fun (_, s8, A8_0, n8_0, c8_0, _) => [eBlk Ba0 68 [.slice A8_0 n8_0 c8_0, .int .i64 s8.2.1], eS (lInt .i64) 3 A1_1 (List.replicate a1.toNat (0 : Int)).length c1_1 s8.2.2.1]) (fun (_, s8, A8_0, n8_0, c8_0, _) => [fV (lSlice (lInt .i64)) (.slice A8_0 n8_0 c8_0) s8.1]) (k8, (a0.L, a0.At, (List.replicate a1.toNat (0 : Int)), 0), A1, a0.L.length, c1, ()) hk8 (Sb rfl) (fun _ h => h.to ⟨_, (rs r0), ⟨_, r0, trivial⟩⟩ ⟨m0, trivial⟩) ?_
  rintro ⟨k8, s8, A8_0, n8_0, c8_0, _⟩ hI
  obtain ⟨k8, rfl, q8, h, g8⟩ := IterN.pos hI
  dsimp only at h ⊢
  unfold treatymade2_Amounts_l8 at h
  refine wc_know (fun _ h => h.lenF m0) (fun e => ?_)
  subst e
  refine Wq (Wr (D rfl (det_lss rfl rfl) (Wn (Pt (Wq ?_)))))
  refine wc_cond rfl (fun cd12 => ?_) (fun cd12 => ?_)
  ·have h := ifT h cd12
   refine Wk (Pt ?_)
   refine Wq (Wb (Wq (Wr (D rfl (mv rfl) (D rfl (ag rfl) (Wn (Pt (Wr (D rfl (mv rfl) (D rfl (mv rfl) (D rfl (mv rfl) ?_)))))))))))
   obtain ⟨r5_3, hr5_3, h⟩ := bs h
   refine Ac rfl (act_callS (cap := []) (W_treatymade2_Small (GDeck.mk s8.1 s8.2.1) Ba0 A8_0 s8.1.length c8_0 r5_3 hr5_3) rfl rfl rfl bd23 ⟨_, r0, rfl⟩ ⟨m0, trivial⟩) ?_
   rintro _ _ _ ⟨_, _, ⟨y5_3A0, y5_3n0, y5_3c0, rfl, rfl, rfl⟩, rfl, rfl⟩
   dsimp only [na, ca]
   refine wl_know (fun _ h => h.lenF m0) (fun e => ?_)
   subst e
   obtain ⟨k5_4, h⟩ := chk_some h
   refine D rfl (det_indexO rfl rfl (ms m0) k5_4 un22 sz3) (Az rfl (act_storeO (cells := [_]) (off := 0) r5_3.1 rfl rfl rfl (ss s0) k5_4 (by rfl) sz3 (by intro u hu; simp at hu; rcases hu with rfl <;> rfl) (stR_flat rfl rfl)) ?_)
   rintro _ _ _ ⟨rfl, rfl⟩
   refine Wn (Pb (Pt (Wr (D rfl (det_add rfl rfl) (D rfl (mv rfl) (Wn ?_))))))
   obtain rfl := si h
   exact pn_some (k8, (r5_3.2.L, r5_3.2.At, (upd s8.2.2.1 s8.2.2.2 r5_3.1), (w64 (s8.2.2.2 + 1))), y5_3A0, r5_3.2.L.length, y5_3c0, ()) ⟨nextL g8, Nat.lt_succ_self _⟩ (Sb rfl) (fun _ h => h.to ⟨_, r0, ⟨_, r0, trivial⟩⟩ ⟨m0, trivial⟩)
  ·have h := ifF h cd12
   refine We (Xt (Xt (Xb ?_)))
   obtain rfl := si h
   replace g8 := nextR g8
   subst g8
   exact pn_meetG ((s8.1, s8.2.1, s8.2.2.1), A8_0, s8.1.length, c8_0, ()) rfl (Sb rfl) (fun _ h => h.to ⟨_, r0, ⟨_, r0, trivial⟩⟩ ⟨m0, trivial⟩)
 rintro ⟨s4, A4_0, n4_0, c4_0, _⟩ e4
 dsimp only at e4 ⊢
 subst e4
 have h := ho4
 refine wc_know (fun _ h => h.lenF m0) (fun e => ?_)
 subst e
 refine Wq (Wr (D rfl (mv rfl) (D rfl (ag rfl) (Wn (Pt (Wt ?_))))))
 obtain rfl := si h
 refine pn_ret (vs := [_]) rfl ⟨rfl, trivial⟩ ⟨A1_1, (List.replicate a1.toNat (0 : Int)).length, c1_1, A4_0, s4.1.length, c4_0, rfl, rfl, rfl⟩ (fun _ h => h.to ⟨_, (rs r0), ⟨_, r0, trivial⟩⟩ ⟨m0, trivial⟩)
def Q_amount_Valid (r : Bool) : Value → List Ent → List Fact → Prop := fun v θ κ => v = .bool r ∧ θ = [] ∧ κ = []
theorem plains_amount_Valid {r : Bool} : ∀ v θ κ, Q_amount_Valid r v θ κ → Plains θ := by
 rintro _ _ _ ⟨rfl, rfl, rfl⟩
 exact trivial
set_option maxHeartbeats 4000000 in
set_option maxRecDepth 100000 in
theorem W_amount_Valid (a0 : Int) (r : Bool) (h : amount_Valid a0 = some r) : Spec Try.prog 43 [.int .i64 a0] [] [] (Q_amount_Valid r) := by
 unfold amount_Valid at h
 refine spec_of (σ := [(0, _)]) Try.func43 rfl rfl rfl rfl ?_
 intro C
 refine Wq (Wr (D rfl (ag rfl) (Wn (Pt (Wq (Wr (D rfl (mv rfl) (D rfl (det_leq rfl rfl) (D rfl (mv rfl) ?_)))))))))
 refine wl_way (decide ((-17592186044416) ≤ a0)) ((decide ((-17592186044416) ≤ a0)) && (decide (a0 ≤ 17592186044416))) 3 8 (fun hg => ?_) (fun hg => ?_) ?_
 ·have hg1_5 := hg
  refine Gn rfl rfl hg1_5 (D rfl (mv rfl) (Gn rfl rfl hg1_5 (D rfl (det_leq rfl rfl) (D rfl (det_and_on rfl rfl rfl hg1_5) ?_))))
  exact wl_nil (pn_qnE (ext_cons rfl (Ex 3 rfl rfl)) (fun _ h => h))
 ·have hg1_5a := hg
  refine Gf rfl rfl rfl hg1_5a (Gf rfl rfl rfl hg1_5a (D rfl (det_and_off (q := (decide (a0 ≤ 17592186044416))) rfl rfl rfl hg1_5a) ?_))
  exact wl_nil (pn_qnE (ext_cons rfl (Ex 3 rfl rfl)) (fun _ h => h))
 refine D rfl (ag rfl) (Wn (Pt (Wt ?_)))
 obtain rfl := si h
 refine pn_ret (vs := [_]) rfl ⟨rfl, trivial⟩ ⟨rfl, rfl, rfl⟩ (fun _ h => h.to trivial trivial)
def Q_inuring_set (r : (List (Int × Bool))) : Value → List Ent → List Fact → Prop := fun v θ κ => ∃ (pm0 : Nat), v = .map (some pm0) ∧ θ = [eM encKI encVB pm0 r] ∧ κ = []
theorem plains_inuring_set {r : (List (Int × Bool))} : ∀ v θ κ, Q_inuring_set r v θ κ → Plains θ := by
 rintro _ _ _ ⟨_, rfl, rfl, rfl⟩
 exact ⟨plain_eM, trivial⟩
set_option maxHeartbeats 4000000 in
set_option maxRecDepth 100000 in
theorem W_inuring_set (a0 : (List Int)) (A0 : Option Addr) (n0 : Nat) (c0 : Nat) (r : (List (Int × Bool))) (h : inuring_set a0 = some r) : Spec Try.prog 44 [.slice A0 n0 c0] [] [fV (lSlice (lInt .i64)) (.slice A0 n0 c0) a0] (Q_inuring_set r) := by
 unfold inuring_set at h
 refine spec_of (σ := [(0, _)]) Try.func44 rfl rfl rfl rfl ?_
 intro C
 refine wc_know (fun _ h => h.lenF m0) (fun e => ?_)
 subst e
 refine Wq (Wr (D rfl (ag rfl) (Wn (Pt (Wq (Wr (D rfl (mv rfl) (D rfl (det_len rfl un22) (Ac rfl (act_makeMapN encKI encVB rfl um69) ?_)))))))))
 rintro _ _ _ ⟨b1_2, rfl, rfl, rfl⟩
 refine D rfl (ag rfl) (Wn (Pt ?_))
 obtain ⟨q4, h, ho4⟩ := bs h
 refine wc_meetG (G := (List (Int × Bool)) × Unit) (fun (s4, _) => s4 = q4) (fun (_, _) => [(3, .map (some b1_2))]) (fun (s4, _) => [eM encKI encVB b1_2 s4]) (fun (_, _) => []) ?_ ?_
 ·refine Wq (Wr (D rfl (mv rfl) (D rfl (det_len rfl un22) (D rfl (mv rfl) (Wn (Pt (Wb ?_)))))))
  obtain ⟨k8, hk8⟩ := loopV_some.1 h
  refine wc_loop (G := Nat × ((List (Int × Bool)) × Int) × Unit) (fun g => IterN (inuring_set_l8 a0) g.1 g.2.1 q4) (fun g => g.1) (fun (_, s8, _) => [(3, .map (some b1_2)), (9, .slice A0 a0.length c0), (10, .int .i64 (a0.length : Int)), (11, .int .i64 s8.2)]) (fun (_, s8, _) => [eM encKI encVB b1_2 s8.1]) (fun (_, _, _) => [fV (lSlice (lInt .i64)) (.slice A0 a0.length c0) a0]) (k8, ([], 0), ()) hk8 (Sb rfl) (fun _ h => h.to ⟨_, r0, trivial⟩ ⟨m0, trivial⟩) ?_
  rintro ⟨k8, s8, _⟩ hI
  obtain ⟨k8, rfl, q8, h, g8⟩ := IterN.pos hI
  dsimp only at h ⊢
  unfold inuring_set_l8 at h
  refine Wq (Wr (D rfl (det_lss rfl rfl) (Wn (Pt (Wq ?_)))))
  refine wc_cond rfl (fun cd12 => ?_) (fun cd12 => ?_)
  ·have h := ifT h cd12
   refine Wk (Pt (Wq (Wb (Wq (Wr ?_)))))
   obtain ⟨k4_0, h⟩ := chk_some h
   refine wl_st (fun _ h => h.openF m0 k4_0) ?_
   refine D rfl (det_indexP rfl rfl (ms m0) k4_0 m0 un22 sz3) (D rfl (det_loadP (off := 0) rfl m0 (by rfl) (by rfl) (loaded_1 na3 us3)) (D rfl (ag rfl) (Wn (Pt (Wr (D rfl (mv rfl) (D rfl (mv rfl) (Az rfl (act_mapUpdate (k := (ix a0 s8.2)) (v := true) rfl rfl rfl rfl rfl s0 (keyOk_int un3) um69) ?_))))))))
   rintro _ _ _ ⟨rfl, rfl⟩
   refine Wn (Pb (Pt (Wr (D rfl (det_add rfl rfl) (D rfl (mv rfl) (Wn ?_))))))
   obtain rfl := si h
   exact pn_some (k8, ((mset s8.1 (ix a0 s8.2) true), (w64 (s8.2 + 1))), ()) ⟨nextL g8, Nat.lt_succ_self _⟩ (Sb rfl) (fun _ h => h.to ⟨_, r0, trivial⟩ ⟨(ms m0), trivial⟩)
  ·have h := ifF h cd12
   refine We (Xt (Xt (Xb ?_)))
   obtain rfl := si h
   replace g8 := nextR g8
   subst g8
   exact pn_meetG (s8.1, ()) rfl (Sb rfl) (fun _ h => h.to ⟨_, r0, trivial⟩ trivial)
 rintro ⟨s4, _⟩ e4
 dsimp only at e4 ⊢
 subst e4
 have h := ho4
 refine Wq (Wr (D rfl (mv rfl) (D rfl (ag rfl) (Wn (Pt (Wt ?_))))))
 obtain rfl := si h
 refine pn_ret (vs := [_]) rfl ⟨rfl, trivial⟩ ⟨b1_2, rfl, rfl, rfl⟩ (fun _ h => h.to ⟨_, r0, trivial⟩ trivial)
end Go.Proofs.Ytfekcgnnhjmeiaa
