/- That functions of the program compute the plain programs of P. Written by a small program. -/
import Derived.Test.YtlmhmpngjfjfhaaKTab
import Derived.Test.YtlmhmpngjfjfhaaP
import Derived.Test.YtlmhmpngjfjfhaaKArr2
import Derived.Test.YtlmhmpngjfjfhaaKSort
import Derived.Test.YtlmhmpngjfjfhaaSort86
import Derived.Test.YtlmhmpngjfjfhaaKBits
import Derived.Test.YtlmhmpngjfjfhaaBits
namespace Go.Proofs.Ytlmhmpngjfjfhaa
open Go.RowKit
def encGPeriod (x : GPeriod) : List Value := [.int .i64 x.From, .int .i64 x.To]
def lGPeriod : Lay GPeriod := lFlat encGPeriod 2 (fun _ => rfl) (fun _ u hu => by simp only [encGPeriod, List.mem_cons, List.not_mem_nil, or_false] at hu; rcases hu with rfl | rfl <;> rfl)
def encGPart (x : GPart) : List Value := [.int .i64 x.Party, .int .i64 x.Share]
def lGPart : Lay GPart := lFlat encGPart 2 (fun _ => rfl) (fun _ u hu => by simp only [encGPart, List.mem_cons, List.not_mem_nil, or_false] at hu; rcases hu with rfl | rfl <;> rfl)
def lGTreaty : Lay GTreaty := lMap (fun x => (x.ID, (x.Kind, (x.Period, (x.Perils, (x.Areas, (x.Risk, (x.Cession, (x.Line, (x.Lines, (x.Retention, (x.Limit, (x.Window, (x.Deductible, (x.Aggregate, (x.Premium, (x.Reinstatements, (x.Timed, (x.Base, (x.Inures, x.Parts)))))))))))))))))))) (lPair (lInt .i64) (lPair (lInt .i64) (lPair lGPeriod (lPair (lSlice (lInt .i64)) (lPair (lSlice (lInt .i64)) (lPair (lInt .i64) (lPair (lInt .i64) (lPair (lInt .i64) (lPair (lInt .i64) (lPair (lInt .i64) (lPair (lInt .i64) (lPair (lInt .i64) (lPair (lInt .i64) (lPair (lInt .i64) (lPair (lInt .i64) (lPair (lSlice (lInt .i64)) (lPair lBool (lPair (lInt .i64) (lPair (lSlice (lInt .i64)) (lSlice lGPart))))))))))))))))))))
theorem viewGTreaty {w : World} {S : Nat → Prop} {cs : List Value} {x : GTreaty} (h : lGTreaty.R w S cs x) : ∃ A0 c0 A1 c1 A2 c2 A3 c3 A4 c4, cs = [.int .i64 x.ID, .int .i64 x.Kind, .int .i64 x.Period.From, .int .i64 x.Period.To, .slice A0 x.Perils.length c0, .slice A1 x.Areas.length c1, .int .i64 x.Risk, .int .i64 x.Cession, .int .i64 x.Line, .int .i64 x.Lines, .int .i64 x.Retention, .int .i64 x.Limit, .int .i64 x.Window, .int .i64 x.Deductible, .int .i64 x.Aggregate, .int .i64 x.Premium, .slice A2 x.Reinstatements.length c2, .bool x.Timed, .int .i64 x.Base, .slice A3 x.Inures.length c3, .slice A4 x.Parts.length c4] ∧ AllR w S [fV (lSlice (lInt .i64)) (.slice A0 x.Perils.length c0) x.Perils, fV (lSlice (lInt .i64)) (.slice A1 x.Areas.length c1) x.Areas, fV (lSlice (lInt .i64)) (.slice A2 x.Reinstatements.length c2) x.Reinstatements, fV (lSlice (lInt .i64)) (.slice A3 x.Inures.length c3) x.Inures, fV (lSlice lGPart) (.slice A4 x.Parts.length c4) x.Parts] := by
  obtain ⟨_, _, rfl, rfl, ⟨_, _, rfl, rfl, ⟨_, _, rfl, rfl, ⟨_, _, rfl, ⟨A0, _, c0, rfl, rfl, l0, e0⟩, ⟨_, _, rfl, ⟨A1, _, c1, rfl, rfl, l1, e1⟩, ⟨_, _, rfl, rfl, ⟨_, _, rfl, rfl, ⟨_, _, rfl, rfl, ⟨_, _, rfl, rfl, ⟨_, _, rfl, rfl, ⟨_, _, rfl, rfl, ⟨_, _, rfl, rfl, ⟨_, _, rfl, rfl, ⟨_, _, rfl, rfl, ⟨_, _, rfl, rfl, ⟨_, _, rfl, ⟨A2, _, c2, rfl, rfl, l2, e2⟩, ⟨_, _, rfl, rfl, ⟨_, _, rfl, rfl, ⟨_, _, rfl, ⟨A3, _, c3, rfl, rfl, l3, e3⟩, ⟨A4, _, c4, rfl, rfl, l4, e4⟩⟩⟩⟩⟩⟩⟩⟩⟩⟩⟩⟩⟩⟩⟩⟩⟩⟩⟩⟩ := h
  exact ⟨A0, c0, A1, c1, A2, c2, A3, c3, A4, c4, rfl, ⟨⟨_, _, _, rfl, rfl, l0, e0⟩, ⟨_, _, _, rfl, rfl, l1, e1⟩, ⟨_, _, _, rfl, rfl, l2, e2⟩, ⟨_, _, _, rfl, rfl, l3, e3⟩, ⟨_, _, _, rfl, rfl, l4, e4⟩, trivial⟩⟩
theorem mkGTreaty {w : World} {S : Nat → Prop} {x : GTreaty} {A0 A1 A2 A3 A4 : Option Addr} {n0 n1 n2 n3 n4 c0 c1 c2 c3 c4 : Nat}  (h : AllR w S [fV (lSlice (lInt .i64)) (.slice A0 n0 c0) x.Perils, fV (lSlice (lInt .i64)) (.slice A1 n1 c1) x.Areas, fV (lSlice (lInt .i64)) (.slice A2 n2 c2) x.Reinstatements, fV (lSlice (lInt .i64)) (.slice A3 n3 c3) x.Inures, fV (lSlice lGPart) (.slice A4 n4 c4) x.Parts]) : lGTreaty.R w S [.int .i64 x.ID, .int .i64 x.Kind, .int .i64 x.Period.From, .int .i64 x.Period.To, .slice A0 n0 c0, .slice A1 n1 c1, .int .i64 x.Risk, .int .i64 x.Cession, .int .i64 x.Line, .int .i64 x.Lines, .int .i64 x.Retention, .int .i64 x.Limit, .int .i64 x.Window, .int .i64 x.Deductible, .int .i64 x.Aggregate, .int .i64 x.Premium, .slice A2 n2 c2, .bool x.Timed, .int .i64 x.Base, .slice A3 n3 c3, .slice A4 n4 c4] x := by
  obtain ⟨k0, k1, k2, k3, k4, _⟩ := h
  exact ⟨_, _, rfl, rfl, ⟨_, _, rfl, rfl, ⟨_, _, rfl, rfl, ⟨_, _, rfl, k0, ⟨_, _, rfl, k1, ⟨_, _, rfl, rfl, ⟨_, _, rfl, rfl, ⟨_, _, rfl, rfl, ⟨_, _, rfl, rfl, ⟨_, _, rfl, rfl, ⟨_, _, rfl, rfl, ⟨_, _, rfl, rfl, ⟨_, _, rfl, rfl, ⟨_, _, rfl, rfl, ⟨_, _, rfl, rfl, ⟨_, _, rfl, k2, ⟨_, _, rfl, rfl, ⟨_, _, rfl, rfl, ⟨_, _, rfl, k3, k4⟩⟩⟩⟩⟩⟩⟩⟩⟩⟩⟩⟩⟩⟩⟩⟩⟩⟩⟩
def encGLoss (x : GLoss) : List Value := [.int .i64 x.ID, .int .i64 x.Policy, .int .i64 x.Risk, .int .i64 x.Hour, .int .i64 x.Peril, .int .i64 x.Area, .int .i64 x.Currency, .int .i64 x.Sum, .int .i64 x.Amount, .int .i64 x.Paid]
def lGLoss : Lay GLoss := lFlat encGLoss 10 (fun _ => rfl) (fun _ u hu => by simp only [encGLoss, List.mem_cons, List.not_mem_nil, or_false] at hu; rcases hu with rfl | rfl | rfl | rfl | rfl | rfl | rfl | rfl | rfl | rfl <;> rfl)
def lGDeck : Lay GDeck := lMap (fun x => (x.L, x.At)) (lPair (lSlice (lInt .i64)) (lInt .i64))
theorem viewGDeck {w : World} {S : Nat → Prop} {cs : List Value} {x : GDeck} (h : lGDeck.R w S cs x) : ∃ A0 c0, cs = [.slice A0 x.L.length c0, .int .i64 x.At] ∧ AllR w S [fV (lSlice (lInt .i64)) (.slice A0 x.L.length c0) x.L] := by
  obtain ⟨_, _, rfl, ⟨A0, _, c0, rfl, rfl, l0, e0⟩, rfl⟩ := h
  exact ⟨A0, c0, rfl, ⟨⟨_, _, _, rfl, rfl, l0, e0⟩, trivial⟩⟩
theorem mkGDeck {w : World} {S : Nat → Prop} {x : GDeck} {A0 : Option Addr} {n0 c0 : Nat}  (h : AllR w S [fV (lSlice (lInt .i64)) (.slice A0 n0 c0) x.L]) : lGDeck.R w S [.slice A0 n0 c0, .int .i64 x.At] x := by
  obtain ⟨k0, _⟩ := h
  exact ⟨_, _, rfl, k0, rfl⟩
def encGspan (x : Gspan) : List Value := [.int .i64 x.low, .int .i64 x.high]
def lGspan : Lay Gspan := lFlat encGspan 2 (fun _ => rfl) (fun _ u hu => by simp only [encGspan, List.mem_cons, List.not_mem_nil, or_false] at hu; rcases hu with rfl | rfl <;> rfl)
theorem openGTreaty {C : Cx} {η : List Ent} {ι : List Fact} {w : World} {A : Option Addr} {m c : Nat} {xs : List GTreaty} (h : St C η ι w) (hf : fV (lSlice lGTreaty) (.slice A m c) xs ∈ ι) {i : Int} (hi : inb xs i = true) : ∃ g : Option Addr × Nat × Option Addr × Nat × Option Addr × Nat × Option Addr × Nat × Option Addr × Nat, True ∧ St C η (fPt A (i.toNat * 21) [.int .i64 (ix xs i).ID, .int .i64 (ix xs i).Kind, .int .i64 (ix xs i).Period.From, .int .i64 (ix xs i).Period.To, .slice g.1 (ix xs i).Perils.length g.2.1, .slice g.2.2.1 (ix xs i).Areas.length g.2.2.2.1, .int .i64 (ix xs i).Risk, .int .i64 (ix xs i).Cession, .int .i64 (ix xs i).Line, .int .i64 (ix xs i).Lines, .int .i64 (ix xs i).Retention, .int .i64 (ix xs i).Limit, .int .i64 (ix xs i).Window, .int .i64 (ix xs i).Deductible, .int .i64 (ix xs i).Aggregate, .int .i64 (ix xs i).Premium, .slice g.2.2.2.2.1 (ix xs i).Reinstatements.length g.2.2.2.2.2.1, .bool (ix xs i).Timed, .int .i64 (ix xs i).Base, .slice g.2.2.2.2.2.2.1 (ix xs i).Inures.length g.2.2.2.2.2.2.2.1, .slice g.2.2.2.2.2.2.2.2.1 (ix xs i).Parts.length g.2.2.2.2.2.2.2.2.2] :: fV (lSlice (lInt .i64)) (.slice g.1 (ix xs i).Perils.length g.2.1) (ix xs i).Perils :: fV (lSlice (lInt .i64)) (.slice g.2.2.1 (ix xs i).Areas.length g.2.2.2.1) (ix xs i).Areas :: fV (lSlice (lInt .i64)) (.slice g.2.2.2.2.1 (ix xs i).Reinstatements.length g.2.2.2.2.2.1) (ix xs i).Reinstatements :: fV (lSlice (lInt .i64)) (.slice g.2.2.2.2.2.2.1 (ix xs i).Inures.length g.2.2.2.2.2.2.2.1) (ix xs i).Inures :: fV (lSlice lGPart) (.slice g.2.2.2.2.2.2.2.2.1 (ix xs i).Parts.length g.2.2.2.2.2.2.2.2.2) (ix xs i).Parts :: ι) w := by
  obtain ⟨cs, hs⟩ := h.openE hf hi
  obtain ⟨A0, c0, A1, c1, A2, c2, A3, c3, A4, c4, rfl, hr⟩ := viewGTreaty (hs.facts _ (ms m0))
  exact ⟨(A0, c0, A1, c1, A2, c2, A3, c3, A4, c4), trivial, (hs.addR hr).subFacts (sub_mid (κ := [_, _, _, _, _]))⟩
theorem openGDeck {C : Cx} {η : List Ent} {ι : List Fact} {w : World} {A : Option Addr} {m c : Nat} {xs : List GDeck} (h : St C η ι w) (hf : fV (lSlice lGDeck) (.slice A m c) xs ∈ ι) {i : Int} (hi : inb xs i = true) : ∃ g : Option Addr × Nat, True ∧ St C η (fPt A (i.toNat * 2) [.slice g.1 (ix xs i).L.length g.2, .int .i64 (ix xs i).At] :: fV (lSlice (lInt .i64)) (.slice g.1 (ix xs i).L.length g.2) (ix xs i).L :: ι) w := by
  obtain ⟨cs, hs⟩ := h.openE hf hi
  obtain ⟨A0, c0, rfl, hr⟩ := viewGDeck (hs.facts _ (ms m0))
  exact ⟨(A0, c0), trivial, (hs.addR hr).subFacts (sub_mid (κ := [_]))⟩
theorem bd14 : bodyB Try.prog 14 = true := by kernel_rfl
theorem bd15 : bodyB Try.prog 15 = true := by kernel_rfl
theorem bd16 : bodyB Try.prog 16 = true := by kernel_rfl
theorem bd17 : bodyB Try.prog 17 = true := by kernel_rfl
theorem bd19 : bodyB Try.prog 19 = true := by kernel_rfl
theorem bd20 : bodyB Try.prog 20 = true := by kernel_rfl
theorem bd21 : bodyB Try.prog 21 = true := by kernel_rfl
theorem bd24 : bodyB Try.prog 24 = true := by kernel_rfl
theorem bd25 : bodyB Try.prog 25 = true := by kernel_rfl
theorem bd28 : bodyB Try.prog 28 = true := by kernel_rfl
theorem bd37 : bodyB Try.prog 37 = true := by kernel_rfl
theorem bd40 : bodyB Try.prog 40 = true := by kernel_rfl
theorem bd41 : bodyB Try.prog 41 = true := by kernel_rfl
theorem bd42 : bodyB Try.prog 42 = true := by kernel_rfl
theorem bd43 : bodyB Try.prog 43 = true := by kernel_rfl
theorem bd44 : bodyB Try.prog 44 = true := by kernel_rfl
theorem bd45 : bodyB Try.prog 45 = true := by kernel_rfl
theorem bd46 : bodyB Try.prog 46 = true := by kernel_rfl
theorem bd47 : bodyB Try.prog 47 = true := by kernel_rfl
theorem bd48 : bodyB Try.prog 48 = true := by kernel_rfl
theorem bd49 : bodyB Try.prog 49 = true := by kernel_rfl
theorem bd50 : bodyB Try.prog 50 = true := by kernel_rfl
theorem bd53 : bodyB Try.prog 53 = true := by kernel_rfl
theorem bd55 : bodyB Try.prog 55 = true := by kernel_rfl
theorem bd56 : bodyB Try.prog 56 = true := by kernel_rfl
theorem bd59 : bodyB Try.prog 59 = true := by kernel_rfl
theorem bd61 : bodyB Try.prog 61 = true := by kernel_rfl
theorem bd62 : bodyB Try.prog 62 = true := by kernel_rfl
theorem bd63 : bodyB Try.prog 63 = true := by kernel_rfl
theorem bd64 : bodyB Try.prog 64 = true := by kernel_rfl
theorem bd65 : bodyB Try.prog 65 = true := by kernel_rfl
theorem bd66 : bodyB Try.prog 66 = true := by kernel_rfl
theorem bd67 : bodyB Try.prog 67 = true := by kernel_rfl
theorem bd68 : bodyB Try.prog 68 = true := by kernel_rfl
theorem bd71 : bodyB Try.prog 71 = true := by kernel_rfl
theorem bd72 : bodyB Try.prog 72 = true := by kernel_rfl
theorem bd73 : bodyB Try.prog 73 = true := by kernel_rfl
theorem bd74 : bodyB Try.prog 74 = true := by kernel_rfl
theorem bd75 : bodyB Try.prog 75 = true := by kernel_rfl
theorem bd76 : bodyB Try.prog 76 = true := by kernel_rfl
theorem bd77 : bodyB Try.prog 77 = true := by kernel_rfl
theorem bd78 : bodyB Try.prog 78 = true := by kernel_rfl
theorem bd79 : bodyB Try.prog 79 = true := by kernel_rfl
theorem bd80 : bodyB Try.prog 80 = true := by kernel_rfl
theorem bd81 : bodyB Try.prog 81 = true := by kernel_rfl
theorem bd82 : bodyB Try.prog 82 = true := by kernel_rfl
theorem bd83 : bodyB Try.prog 83 = true := by kernel_rfl
theorem bd84 : bodyB Try.prog 84 = true := by kernel_rfl
theorem bd85 : bodyB Try.prog 85 = true := by kernel_rfl
theorem bd86 : bodyB Try.prog 86 = true := by kernel_rfl
theorem bd87 : bodyB Try.prog 87 = true := by kernel_rfl
theorem bd88 : bodyB Try.prog 88 = true := by kernel_rfl
theorem bd89 : bodyB Try.prog 89 = true := by kernel_rfl
theorem bd90 : bodyB Try.prog 90 = true := by kernel_rfl
def Q_contract_within (r : Bool) : Value → List Ent → List Fact → Prop := fun v θ κ => v = .bool r ∧ θ = [] ∧ κ = []
theorem plains_contract_within {r : Bool} : ∀ v θ κ, Q_contract_within r v θ κ → Plains θ := by
  rintro _ _ _ ⟨rfl, rfl, rfl⟩
  exact trivial
set_option maxHeartbeats 4000000 in
set_option maxRecDepth 100000 in
theorem W_contract_within (a0 : Int) (a1 : Int) (a2 : Int) (r : Bool) (h : contract_within a0 a1 a2 = some r) : Spec Try.prog 46 [.int .i64 a0, .int .i64 a1, .int .i64 a2] [] [] (Q_contract_within r) := by
  unfold contract_within at h
  refine spec_of (σ := [(0, _), (1, _), (2, _)]) Try.func46 rfl rfl rfl rfl ?_
  intro C
  refine wc_seq ?_
  refine wc_region ?_   -- region 0
  refine wl_det rfl rfl (det_assign rfl) rfl ?_
  refine wl_nil ?_
  refine pn_then ?_
  refine wc_seq ?_
  refine wc_region ?_   -- region 1
  refine wl_det rfl rfl (det_move rfl) rfl ?_
  refine wl_det rfl rfl (det_move rfl) rfl ?_
  refine wl_det rfl rfl (det_geq rfl rfl) rfl ?_
  refine wl_det rfl rfl (det_move rfl) rfl ?_
  refine wl_way (decide (a1 ≤ a0)) ((decide (a1 ≤ a0)) && (decide (a0 ≤ a2))) 4 14 (fun hg => ?_) (fun hg => ?_) ?_
  · have hg1_7 := hg
    refine wl_on rfl rfl rfl rfl hg1_7 ?_
    refine wl_det rfl rfl (det_move rfl) rfl ?_
    refine wl_on rfl rfl rfl rfl hg1_7 ?_
    refine wl_det rfl rfl (det_move rfl) rfl ?_
    refine wl_on rfl rfl rfl rfl hg1_7 ?_
    refine wl_det rfl rfl (det_leq rfl rfl) rfl ?_
    refine wl_det rfl rfl (det_and_on rfl rfl rfl hg1_7) rfl ?_
    exact wl_nil (pn_qnE (ext_cons rfl (ext_skip rfl (ext_skip rfl (ext_skip rfl (ext_skip rfl ext_refl))))) (fun _ h => h))
  · have hg1_7a := hg
    refine wl_off rfl rfl rfl rfl rfl hg1_7a rfl ?_
    refine wl_off rfl rfl rfl rfl rfl hg1_7a rfl ?_
    refine wl_off rfl rfl rfl rfl rfl hg1_7a rfl ?_
    refine wl_det rfl rfl (det_and_off (q := (decide (a0 ≤ a2))) rfl rfl rfl hg1_7a) rfl ?_
    exact wl_nil (pn_qnE (ext_cons rfl (ext_skip rfl (ext_skip rfl (ext_skip rfl (ext_skip rfl ext_refl))))) (fun _ h => h))
  refine wl_det rfl rfl (det_assign rfl) rfl ?_
  refine wl_nil ?_
  refine pn_then ?_
  refine wc_ret ?_
  replace h := Option.some.inj h
  subst h
  refine pn_ret (vs := [_]) rfl ⟨rfl, trivial⟩ ⟨rfl, rfl, rfl⟩ (fun _ h => h.to trivial trivial)
def Q_contract_Parts (r : Int) : Value → List Ent → List Fact → Prop := fun v θ κ => v = .int .i64 r ∧ θ = [] ∧ κ = []
theorem plains_contract_Parts {r : Int} : ∀ v θ κ, Q_contract_Parts r v θ κ → Plains θ := by
  rintro _ _ _ ⟨rfl, rfl, rfl⟩
  exact trivial
set_option maxHeartbeats 4000000 in
set_option maxRecDepth 100000 in
theorem W_contract_Parts (a0 : (List GPart)) (A0 : Option Addr) (n0 : Nat) (c0 : Nat) (r : Int) (h : contract_Parts a0 = some r) : Spec Try.prog 19 [.slice A0 n0 c0] [] [fV (lSlice lGPart) (.slice A0 n0 c0) a0] (Q_contract_Parts r) := by
  unfold contract_Parts at h
  refine spec_of (σ := [(0, _)]) Try.func19 rfl rfl rfl rfl ?_
  intro C
  refine wc_know (fun _ h => h.lenF m0) (fun e => ?_)
  subst e
  refine wc_seq ?_
  refine wc_region ?_   -- region 0
  refine wl_det rfl rfl (det_assign rfl) rfl ?_
  refine wl_nil ?_
  refine pn_then ?_
  refine wc_seq ?_
  refine wc_seq ?_
  refine wc_region ?_   -- region 1
  refine wl_det rfl rfl (det_move rfl) rfl ?_
  refine wl_det rfl rfl (det_len rfl un22) rfl ?_
  refine wl_det rfl rfl (det_gtr rfl rfl) rfl ?_
  refine wl_nil ?_
  refine pn_then ?_
  refine wc_cond rfl (fun cd5 => ?_) (fun cd5 => ?_)
  · have h := ifT h cd5
    refine wc_seq ?_
    refine wc_region ?_   -- region 2
    refine wl_det rfl rfl (det_assign rfl) rfl ?_
    refine wl_nil ?_
    refine pn_then ?_
    refine wc_ret ?_
    refine pr_then ?_
    replace h := Option.some.inj h
    subst h
    refine pn_ret (vs := [_]) rfl ⟨rfl, trivial⟩ ⟨rfl, rfl, rfl⟩ (fun _ h => h.to trivial trivial)
  · have h := ifF h cd5
    refine wc_skip ?_
    refine pn_then ?_
    refine wc_seq ?_
    refine wc_region ?_   -- region 3
    refine wl_det rfl rfl (det_assign rfl) rfl ?_
    refine wl_nil ?_
    refine pn_then ?_
    obtain ⟨q10, h, ho10⟩ := bind_some h
    refine wc_meetG (G := Int × Unit) (fun (s10, _) => (.inl s10) = q10) (fun (s10, _) => [(3, .int .i64 s10)]) (fun (_, _) => []) (fun (_, _) => []) ?_ ?_
    · refine wc_seq ?_
      refine wc_region ?_   -- region 4
      refine wl_det rfl rfl (det_move rfl) rfl ?_
      refine wl_det rfl rfl (det_len rfl un22) rfl ?_
      refine wl_det rfl rfl (det_move rfl) rfl ?_
      refine wl_nil ?_
      refine pn_then ?_
      refine wc_block ?_
      obtain ⟨o14, h, ho14⟩ := bind_some h
      obtain ⟨k14, hk14⟩ := loopV_some.1 h
      refine wc_loop (G := Nat × (Int × Int) × Unit) (fun g => IterN (contract_Parts_l14 a0) g.1 g.2.1 o14) (fun g => g.1) (fun (_, s14, _) => [(0, .slice A0 a0.length c0), (3, .int .i64 s14.1), (9, .slice A0 a0.length c0), (10, .int .i64 (a0.length : Int)), (11, .int .i64 s14.2)]) (fun (_, _, _) => []) (fun (_, _, _) => [fV (lSlice lGPart) (.slice A0 a0.length c0) a0]) (k14, (0, 0), ()) hk14 ⟨rfl, rfl, rfl, rfl, rfl, trivial⟩ (fun _ h => h.to trivial ⟨m0, trivial⟩) ?_
      rintro ⟨k14, s14, _⟩ hI
      obtain ⟨k14, rfl, q14, h, g14⟩ := IterN.pos hI
      dsimp only at h ⊢
      unfold contract_Parts_l14 at h
      refine wc_seq ?_
      refine wc_region ?_   -- region 5
      refine wl_det rfl rfl (det_lss rfl rfl) rfl ?_
      refine wl_nil ?_
      refine pn_then ?_
      refine wc_seq ?_
      refine wc_cond rfl (fun cd18 => ?_) (fun cd18 => ?_)
      · have h := ifT h cd18
        refine wc_skip ?_
        refine pn_then ?_
        refine wc_seq ?_
        refine wc_block ?_
        refine wc_seq ?_
        refine wc_region ?_   -- region 6
        refine wl_det rfl rfl (det_move rfl) rfl ?_
        obtain ⟨k6_1, h⟩ := chk_some h
        refine wl_st (fun _ h => h.openF m0 k6_1) ?_
        refine wl_det rfl rfl (det_indexP rfl rfl (ms m0) k6_1 m0 un22 sz25) rfl ?_
        refine wl_det rfl rfl (det_loadP (off := 0) rfl m0 (by rfl) (by rfl) (loaded_n (cells := [_, _]) ag25 sz25)) rfl ?_
        refine wl_act (act_alloc (cs := [_, _]) zr25 rfl) rfl rfl rfl ?_
        rintro _ _ _ ⟨b6_3, rfl, rfl, rfl⟩
        refine wl_det rfl rfl (det_assign rfl) rfl ?_
        refine wl_act0 (act_store (cells := [_, _]) (cs' := [_, _]) rfl rfl rfl s0 (by rfl) (of_decide_eq_true rfl) sz25 ⟨rfl, rfl, trivial⟩) rfl rfl ?_
        rintro _ _ _ ⟨rfl, rfl⟩
        refine wl_nil ?_
        refine pn_then ?_
        refine wc_seq ?_
        refine wc_seq ?_
        refine wc_region ?_   -- region 7
        refine wl_det rfl rfl (det_field rfl fd25_0 rfl) rfl ?_
        refine wl_det rfl rfl (det_load rfl m0 (by rfl) na3 us3) rfl ?_
        obtain ⟨r7_2, hr7_2, h⟩ := bind_some h
        refine wl_act (act_callS (cap := []) (W_contract_within (ix a0 s14.2).Party 1 15 r7_2 hr7_2) rfl rfl rfl bd46 rfl trivial) rfl rfl rfl ?_
        rintro _ _ _ ⟨_, _, ⟨rfl, rfl, rfl⟩, rfl, rfl⟩
        dsimp only [List.nil_append, List.cons_append]
        refine wl_det rfl rfl (det_not rfl) rfl ?_
        refine wl_det rfl rfl (det_move rfl) rfl ?_
        obtain ⟨q7_9, hq7_9, h⟩ := bind_some h
        have ho7_9 := h
        refine wl_way (!r7_2) q7_9 5 25 (fun hg => ?_) (fun hg => ?_) ?_
        · have hg7_9 := hg
          have h := ifT hq7_9 hg
          refine wl_off rfl rfl rfl rfl rfl hg7_9 rfl ?_
          refine wl_off rfl rfl rfl rfl rfl hg7_9 rfl ?_
          refine wl_off rfl rfl rfl rfl rfl hg7_9 rfl ?_
          refine wl_off rfl rfl rfl rfl rfl hg7_9 rfl ?_
          replace h := Option.some.inj h
          subst h
          refine wl_det rfl rfl (det_pick_on rfl hg7_9 rfl rfl) rfl ?_
          exact wl_nil (pn_qnE (ext_cons rfl (ext_skip rfl (ext_skip rfl (ext_skip rfl (ext_skip rfl (ext_skip rfl ext_refl)))))) (fun _ h => h))
        · have hg7_9a := hg
          have h := ifF hq7_9 hg
          refine wl_on rfl rfl rfl rfl hg7_9a ?_
          refine wl_det rfl rfl (det_field rfl fd25_1 rfl) rfl ?_
          refine wl_on rfl rfl rfl rfl hg7_9a ?_
          refine wl_det rfl rfl (det_load rfl m0 (by rfl) na3 us3) rfl ?_
          refine wl_on rfl rfl rfl rfl hg7_9a ?_
          obtain ⟨r7_7, hr7_7, h⟩ := bind_some h
          refine wl_act (act_callS (cap := []) (W_contract_within (ix a0 s14.2).Share 1 1000000 r7_7 hr7_7) rfl rfl rfl bd46 rfl trivial) rfl rfl rfl ?_
          rintro _ _ _ ⟨_, _, ⟨rfl, rfl, rfl⟩, rfl, rfl⟩
          dsimp only [List.nil_append, List.cons_append]
          refine wl_on rfl rfl rfl rfl hg7_9a ?_
          refine wl_det rfl rfl (det_not rfl) rfl ?_
          replace h := Option.some.inj h
          subst h
          refine wl_det rfl rfl (det_pick_off rfl hg7_9a rfl rfl) rfl ?_
          exact wl_nil (pn_qnE (ext_cons rfl (ext_skip rfl (ext_skip rfl (ext_skip rfl (ext_skip rfl (ext_skip rfl ext_refl)))))) (fun _ h => h))
        have h := ho7_9
        refine wl_nil ?_
        refine pn_then ?_
        refine wc_cond rfl (fun cd27 => ?_) (fun cd27 => ?_)
        · have h := ifT h cd27
          refine wc_seq ?_
          refine wc_region ?_   -- region 8
          refine wl_det rfl rfl (det_assign rfl) rfl ?_
          refine wl_nil ?_
          refine pn_then ?_
          refine wc_ret ?_
          refine pr_then ?_
          refine pr_block ?_
          refine pr_then ?_
          refine pr_then ?_
          refine pr_block ?_
          refine pr_then ?_
          replace h := Option.some.inj h
          subst h
          replace g14 := nextR g14
          subst g14
          have h := (elimL ho14)
          replace h := Option.some.inj h
          subst h
          have h := (elimR ho10)
          replace h := Option.some.inj h
          subst h
          refine pn_ret (vs := [_]) rfl ⟨rfl, trivial⟩ ⟨rfl, rfl, rfl⟩ (fun _ h => h.to trivial trivial)
        · have h := ifF h cd27
          refine wc_skip ?_
          refine pn_then ?_
          refine wc_seq ?_
          obtain ⟨q31, h, ho31⟩ := bind_some h
          refine wc_meetG (G := Bool × Unit) (fun (s31, _) => s31 = q31) (fun (s31, _) => [(0, .slice A0 a0.length c0), (3, .int .i64 s14.1), (5, .pointer (some ⟨b6_3, 0, none⟩)), (9, .slice A0 a0.length c0), (10, .int .i64 (a0.length : Int)), (11, .int .i64 s14.2), (38, .bool s31)]) (fun (_, _) => [eBlk b6_3 25 [.int .i64 (ix a0 s14.2).Party, .int .i64 (ix a0 s14.2).Share]]) (fun (_, _) => [fV (lSlice lGPart) (.slice A0 a0.length c0) a0]) ?_ ?_
          · rcases Bool.eq_false_or_eq_true (decide (0 < s14.2)) with hg9_g28 | hg9_g28
            · have h := ifT h hg9_g28
              obtain ⟨k9_p1, h⟩ := chk_some h
              refine wc_st (fun _ h => h.openF (ms m0) k9_p1) ?_
              refine dx_region 13 [[], [0], [0, 1], [0, 1, 2], [0, 1, 2, 3], [0, 1, 2], [0, 1, 2], [0, 1, 2, 6], [0, 1, 2, 5, 6, 7], [0, 1, 2, 5, 6, 7, 8], [0, 1, 2, 5, 6, 7, 8, 9], [0, 1, 2, 3, 4, 5, 6, 7, 8, 9, 10], [0, 1, 2, 3, 4, 5, 6, 7, 8, 9, 10, 11]] mixed (ord := (.det 0 (.det 1 (.det 2 (.det 3 (.det 4 (.det 5 (.det 6 (.det 7 (.det 8 (.det 9 (.det 10 (.det 11 (.det 12 .done)))))))))))))) (by kernel_rfl) ?_   -- region 9
              refine hx_det rfl rfl rfl nofun (det_move rfl) rfl ?_
              refine hx_det rfl rfl rfl nofun (det_gtr rfl rfl) rfl ?_
              refine hx_det rfl rfl rfl nofun (det_move rfl) rfl ?_
              refine hx_on rfl rfl rfl rfl rfl hg9_g28 nofun (det_field rfl fd25_0 rfl) rfl ?_
              refine hx_on rfl rfl rfl rfl rfl hg9_g28 nofun (det_load rfl m0 (by rfl) na3 us3) rfl ?_
              refine hx_on rfl rfl rfl rfl rfl hg9_g28 nofun (det_move rfl) rfl ?_
              refine hx_on rfl rfl rfl rfl rfl hg9_g28 nofun (det_move rfl) rfl ?_
              refine hx_on rfl rfl rfl rfl rfl hg9_g28 nofun (det_sub rfl rfl) rfl ?_
              refine hx_on rfl rfl rfl rfl rfl hg9_g28 nofun (det_indexP rfl rfl (ms (ms m0)) k9_p1 m0 un22 sz25) rfl ?_
              refine hx_on rfl rfl rfl rfl rfl hg9_g28 nofun (det_fieldP rfl m0 fd25_0 rfl) rfl ?_
              refine hx_on rfl rfl rfl rfl rfl hg9_g28 nofun (det_loadP (off := 0) rfl m0 (by rfl) (by rfl) (loaded_1 na3 us3)) rfl ?_
              refine hx_on rfl rfl rfl rfl rfl hg9_g28 nofun (det_leq rfl rfl) rfl ?_
              refine hx_det rfl rfl rfl nofun (det_pick_on rfl hg9_g28 rfl rfl) rfl ?_
              refine hx_end ?_
              refine wl_nil ?_
              replace h := Option.some.inj h
              subst h
              exact pn_meetG ((decide ((ix a0 s14.2).Party ≤ (ix a0 (w64 (s14.2 - 1))).Party)), ()) rfl ⟨rfl, rfl, rfl, rfl, rfl, rfl, rfl, trivial⟩ (fun _ h => h.to ⟨_, r0, trivial⟩ ⟨(ms (ms m0)), trivial⟩)
            · have h := ifF h hg9_g28
              refine dx_region 13 [[], [0], [0, 1], [0, 1, 2], [0, 1, 2, 3], [0, 1, 2], [0, 1, 2], [0, 1, 2, 6], [0, 1, 2, 5, 6, 7], [0, 1, 2, 5, 6, 7, 8], [0, 1, 2, 5, 6, 7, 8, 9], [0, 1, 2, 3, 4, 5, 6, 7, 8, 9, 10], [0, 1, 2, 3, 4, 5, 6, 7, 8, 9, 10, 11]] mixed (ord := (.det 0 (.det 1 (.det 2 (.det 3 (.det 4 (.det 5 (.det 6 (.det 7 (.det 8 (.det 9 (.det 10 (.det 11 (.det 12 .done)))))))))))))) (by kernel_rfl) ?_   -- region 9
              refine hx_det rfl rfl rfl nofun (det_move rfl) rfl ?_
              refine hx_det rfl rfl rfl nofun (det_gtr rfl rfl) rfl ?_
              refine hx_det rfl rfl rfl nofun (det_move rfl) rfl ?_
              refine hx_off rfl rfl rfl rfl rfl hg9_g28 rfl ?_
              refine hx_off rfl rfl rfl rfl rfl hg9_g28 rfl ?_
              refine hx_off rfl rfl rfl rfl rfl hg9_g28 rfl ?_
              refine hx_off rfl rfl rfl rfl rfl hg9_g28 rfl ?_
              refine hx_off rfl rfl rfl rfl rfl hg9_g28 rfl ?_
              refine hx_off rfl rfl rfl rfl rfl hg9_g28 rfl ?_
              refine hx_off rfl rfl rfl rfl rfl hg9_g28 rfl ?_
              refine hx_off rfl rfl rfl rfl rfl hg9_g28 rfl ?_
              refine hx_off rfl rfl rfl rfl rfl hg9_g28 rfl ?_
              refine hx_det rfl rfl rfl nofun (det_pick_off rfl hg9_g28 rfl rfl) rfl ?_
              refine hx_end ?_
              refine wl_nil ?_
              replace h := Option.some.inj h
              subst h
              exact pn_meetG (false, ()) rfl ⟨rfl, rfl, rfl, rfl, rfl, rfl, rfl, trivial⟩ (fun _ h => h.to ⟨_, r0, trivial⟩ ⟨(ms m0), trivial⟩)
          rintro ⟨s31, _⟩ e31
          dsimp only at e31 ⊢
          subst e31
          have h := ho31
          refine wc_cond rfl (fun cd33 => ?_) (fun cd33 => ?_)
          · have h := ifT h cd33
            refine wc_seq ?_
            refine wc_region ?_   -- region 10
            refine wl_det rfl rfl (det_assign rfl) rfl ?_
            refine wl_nil ?_
            refine pn_then ?_
            refine wc_ret ?_
            refine pr_then ?_
            refine pr_block ?_
            refine pr_then ?_
            refine pr_then ?_
            refine pr_block ?_
            refine pr_then ?_
            replace h := Option.some.inj h
            subst h
            replace g14 := nextR g14
            subst g14
            have h := (elimL ho14)
            replace h := Option.some.inj h
            subst h
            have h := (elimR ho10)
            replace h := Option.some.inj h
            subst h
            refine pn_ret (vs := [_]) rfl ⟨rfl, trivial⟩ ⟨rfl, rfl, rfl⟩ (fun _ h => h.to trivial trivial)
          · have h := ifF h cd33
            refine wc_skip ?_
            refine pn_then ?_
            refine wc_region ?_   -- region 11
            refine wl_det rfl rfl (det_move rfl) rfl ?_
            refine wl_det rfl rfl (det_field rfl fd25_1 rfl) rfl ?_
            refine wl_det rfl rfl (det_load rfl m0 (by rfl) na3 us3) rfl ?_
            refine wl_det rfl rfl (det_add rfl rfl) rfl ?_
            refine wl_det rfl rfl (det_assign rfl) rfl ?_
            refine wl_nil ?_
            refine pn_block ?_
            refine pn_then ?_
            refine wc_region ?_   -- region 12
            refine wl_det rfl rfl (det_add rfl rfl) rfl ?_
            refine wl_det rfl rfl (det_move rfl) rfl ?_
            refine wl_nil ?_
            replace h := Option.some.inj h
            subst h
            exact pn_some (k14, ((w64 (s14.1 + (ix a0 s14.2).Share)), (w64 (s14.2 + 1))), ()) ⟨nextL g14, Nat.lt_succ_self _⟩ ⟨rfl, rfl, rfl, rfl, rfl, trivial⟩ (fun _ h => h.to trivial ⟨m0, trivial⟩)
      · have h := ifF h cd18
        refine wc_exit ?_
        refine px_then ?_
        refine px_then ?_
        refine px_block ?_
        replace h := Option.some.inj h
        subst h
        replace g14 := nextR g14
        subst g14
        have h := (elimR ho14)
        replace h := Option.some.inj h
        subst h
        exact pn_meetG (s14.1, ()) rfl ⟨rfl, trivial⟩ (fun _ h => h.to trivial trivial)
    rintro ⟨s10, _⟩ e10
    dsimp only at e10 ⊢
    subst e10
    have h := (elimL ho10)
    refine wc_seq ?_
    refine wc_seq ?_
    refine wc_region ?_   -- region 13
    refine wl_det rfl rfl (det_move rfl) rfl ?_
    refine wl_det rfl rfl (det_gtr rfl rfl) rfl ?_
    refine wl_nil ?_
    refine pn_then ?_
    refine wc_cond rfl (fun cd41 => ?_) (fun cd41 => ?_)
    · have h := ifT h cd41
      refine wc_seq ?_
      refine wc_region ?_   -- region 14
      refine wl_det rfl rfl (det_assign rfl) rfl ?_
      refine wl_nil ?_
      refine pn_then ?_
      refine wc_ret ?_
      refine pr_then ?_
      replace h := Option.some.inj h
      subst h
      refine pn_ret (vs := [_]) rfl ⟨rfl, trivial⟩ ⟨rfl, rfl, rfl⟩ (fun _ h => h.to trivial trivial)
    · have h := ifF h cd41
      refine wc_skip ?_
      refine pn_then ?_
      refine wc_seq ?_
      refine wc_region ?_   -- region 15
      refine wl_det rfl rfl (det_assign rfl) rfl ?_
      refine wl_nil ?_
      refine pn_then ?_
      refine wc_ret ?_
      replace h := Option.some.inj h
      subst h
      refine pn_ret (vs := [_]) rfl ⟨rfl, trivial⟩ ⟨rfl, rfl, rfl⟩ (fun _ h => h.to trivial trivial)
def Q_amount_Valid (r : Bool) : Value → List Ent → List Fact → Prop := fun v θ κ => v = .bool r ∧ θ = [] ∧ κ = []
theorem plains_amount_Valid {r : Bool} : ∀ v θ κ, Q_amount_Valid r v θ κ → Plains θ := by
  rintro _ _ _ ⟨rfl, rfl, rfl⟩
  exact trivial
set_option maxHeartbeats 4000000 in
set_option maxRecDepth 100000 in
theorem W_amount_Valid (a0 : Int) (r : Bool) (h : amount_Valid a0 = some r) : Spec Try.prog 48 [.int .i64 a0] [] [] (Q_amount_Valid r) := by
  unfold amount_Valid at h
  refine spec_of (σ := [(0, _)]) Try.func48 rfl rfl rfl rfl ?_
  intro C
  refine wc_seq ?_
  refine wc_region ?_   -- region 0
  refine wl_det rfl rfl (det_assign rfl) rfl ?_
  refine wl_nil ?_
  refine pn_then ?_
  refine wc_seq ?_
  refine wc_region ?_   -- region 1
  refine wl_det rfl rfl (det_move rfl) rfl ?_
  refine wl_det rfl rfl (det_leq rfl rfl) rfl ?_
  refine wl_det rfl rfl (det_move rfl) rfl ?_
  refine wl_way (decide ((-17592186044416) ≤ a0)) ((decide ((-17592186044416) ≤ a0)) && (decide (a0 ≤ 17592186044416))) 3 8 (fun hg => ?_) (fun hg => ?_) ?_
  · have hg1_5 := hg
    refine wl_on rfl rfl rfl rfl hg1_5 ?_
    refine wl_det rfl rfl (det_move rfl) rfl ?_
    refine wl_on rfl rfl rfl rfl hg1_5 ?_
    refine wl_det rfl rfl (det_leq rfl rfl) rfl ?_
    refine wl_det rfl rfl (det_and_on rfl rfl rfl hg1_5) rfl ?_
    exact wl_nil (pn_qnE (ext_cons rfl (ext_skip rfl (ext_skip rfl (ext_skip rfl ext_refl)))) (fun _ h => h))
  · have hg1_5a := hg
    refine wl_off rfl rfl rfl rfl rfl hg1_5a rfl ?_
    refine wl_off rfl rfl rfl rfl rfl hg1_5a rfl ?_
    refine wl_det rfl rfl (det_and_off (q := (decide (a0 ≤ 17592186044416))) rfl rfl rfl hg1_5a) rfl ?_
    exact wl_nil (pn_qnE (ext_cons rfl (ext_skip rfl (ext_skip rfl (ext_skip rfl ext_refl)))) (fun _ h => h))
  refine wl_det rfl rfl (det_assign rfl) rfl ?_
  refine wl_nil ?_
  refine pn_then ?_
  refine wc_ret ?_
  replace h := Option.some.inj h
  subst h
  refine pn_ret (vs := [_]) rfl ⟨rfl, trivial⟩ ⟨rfl, rfl, rfl⟩ (fun _ h => h.to trivial trivial)
def Q_contract_shares (r : (List Int)) : Value → List Ent → List Fact → Prop := fun v θ κ => ∃ (pA0 : Option Addr), ∃ (pn0 : Nat), ∃ (pc0 : Nat), v = .slice pA0 pn0 pc0 ∧ θ = [eS (lInt .i64) 3 pA0 pn0 pc0 r] ∧ κ = []
theorem plains_contract_shares {r : (List Int)} : ∀ v θ κ, Q_contract_shares r v θ κ → Plains θ := by
  rintro _ _ _ ⟨_, _, _, rfl, rfl, rfl⟩
  exact ⟨plain_eS, trivial⟩
set_option maxHeartbeats 4000000 in
set_option maxRecDepth 100000 in
theorem W_contract_shares (a0 : (List GPart)) (A0 : Option Addr) (n0 : Nat) (c0 : Nat) (r : (List Int)) (h : contract_shares a0 = some r) : Spec Try.prog 49 [.slice A0 n0 c0] [] [fV (lSlice lGPart) (.slice A0 n0 c0) a0] (Q_contract_shares r) := by
  unfold contract_shares at h
  refine spec_of (σ := [(0, _)]) Try.func49 rfl rfl rfl rfl ?_
  intro C
  refine wc_know (fun _ h => h.lenF m0) (fun e => ?_)
  subst e
  refine wc_seq ?_
  refine wc_region ?_   -- region 0
  refine wl_det rfl rfl (det_assign rfl) rfl ?_
  refine wl_nil ?_
  refine pn_then ?_
  refine wc_seq ?_
  refine wc_region ?_   -- region 1
  refine wl_det rfl rfl (det_move rfl) rfl ?_
  refine wl_det rfl rfl (det_len rfl un22) rfl ?_
  obtain ⟨k1_2, h⟩ := chk_some h
  obtain ⟨k1_2a, h⟩ := chk_some h
  refine wl_act (act_makeS (L := (lInt .i64)) (x0 := (0 : Int)) rfl rfl un23 in3 (by refine ⟨rfl, fun _ _ => ?_⟩; first | exact rfl | exact ⟨_, _, _, rfl, rfl, Nat.zero_le _, .inl rfl⟩) rfl rfl k1_2 (decide_eq_true (Int.le_refl _)) k1_2a) rfl rfl rfl ?_
  rintro _ _ _ ⟨A1_2, c1_2, rfl, rfl, rfl⟩
  refine wl_det rfl rfl (det_assign rfl) rfl ?_
  refine wl_nil ?_
  refine pn_then ?_
  obtain ⟨q4, h, ho4⟩ := bind_some h
  refine wc_meetG (G := (List Int) × Unit) (fun (s4, _) => s4 = q4) (fun (_, _) => [(3, .slice A1_2 (List.replicate (a0.length : Int).toNat (0 : Int)).length c1_2)]) (fun (s4, _) => [eS (lInt .i64) 3 A1_2 (List.replicate (a0.length : Int).toNat (0 : Int)).length c1_2 s4]) (fun (_, _) => []) ?_ ?_
  · refine wc_seq ?_
    refine wc_region ?_   -- region 2
    refine wl_det rfl rfl (det_move rfl) rfl ?_
    refine wl_det rfl rfl (det_len rfl un22) rfl ?_
    refine wl_det rfl rfl (det_move rfl) rfl ?_
    refine wl_nil ?_
    refine pn_then ?_
    refine wc_block ?_
    obtain ⟨k8, hk8⟩ := loopV_some.1 h
    refine wc_loop (G := Nat × ((List Int) × Int) × Unit) (fun g => IterN (contract_shares_l8 a0) g.1 g.2.1 q4) (fun g => g.1) (fun (_, s8, _) => [(3, .slice A1_2 (List.replicate (a0.length : Int).toNat (0 : Int)).length c1_2), (9, .slice A0 a0.length c0), (10, .int .i64 (a0.length : Int)), (11, .int .i64 s8.2)]) (fun (_, s8, _) => [eS (lInt .i64) 3 A1_2 (List.replicate (a0.length : Int).toNat (0 : Int)).length c1_2 s8.1]) (fun (_, _, _) => [fV (lSlice lGPart) (.slice A0 a0.length c0) a0]) (k8, ((List.replicate (a0.length : Int).toNat (0 : Int)), 0), ()) hk8 ⟨rfl, rfl, rfl, rfl, trivial⟩ (fun _ h => h.to ⟨_, r0, trivial⟩ ⟨m0, trivial⟩) ?_
    rintro ⟨k8, s8, _⟩ hI
    obtain ⟨k8, rfl, q8, h, g8⟩ := IterN.pos hI
    dsimp only at h ⊢
    unfold contract_shares_l8 at h
    refine wc_seq ?_
    refine wc_region ?_   -- region 3
    refine wl_det rfl rfl (det_lss rfl rfl) rfl ?_
    refine wl_nil ?_
    refine pn_then ?_
    refine wc_seq ?_
    refine wc_cond rfl (fun cd12 => ?_) (fun cd12 => ?_)
    · have h := ifT h cd12
      refine wc_skip ?_
      refine pn_then ?_
      refine wc_seq ?_
      refine wc_block ?_
      refine wc_seq ?_
      refine wc_region ?_   -- region 4
      refine wl_det rfl rfl (det_move rfl) rfl ?_
      obtain ⟨k4_1, h⟩ := chk_some h
      refine wl_st (fun _ h => h.openF m0 k4_1) ?_
      refine wl_det rfl rfl (det_indexP rfl rfl (ms m0) k4_1 m0 un22 sz25) rfl ?_
      refine wl_det rfl rfl (det_loadP (off := 0) rfl m0 (by rfl) (by rfl) (loaded_n (cells := [_, _]) ag25 sz25)) rfl ?_
      refine wl_act (act_alloc (cs := [_, _]) zr25 rfl) rfl rfl rfl ?_
      rintro _ _ _ ⟨b4_3, rfl, rfl, rfl⟩
      refine wl_det rfl rfl (det_assign rfl) rfl ?_
      refine wl_act0 (act_store (cells := [_, _]) (cs' := [_, _]) rfl rfl rfl s0 (by rfl) (of_decide_eq_true rfl) sz25 ⟨rfl, rfl, trivial⟩) rfl rfl ?_
      rintro _ _ _ ⟨rfl, rfl⟩
      refine wl_nil ?_
      refine pn_then ?_
      refine wc_region ?_   -- region 5
      refine wl_det rfl rfl (det_move rfl) rfl ?_
      refine wl_det rfl rfl (det_move rfl) rfl ?_
      refine wl_det rfl rfl (det_field rfl fd25_1 rfl) rfl ?_
      refine wl_det rfl rfl (det_load rfl m0 (by rfl) na3 us3) rfl ?_
      obtain ⟨k5_4, h⟩ := chk_some h
      refine wl_det rfl rfl (det_indexO rfl rfl (ms m0) k5_4 un23 sz3) rfl ?_
      refine wl_act0 (act_storeO (cells := [_]) (off := 0) (ix a0 s8.2).Share rfl rfl rfl (ss s0) k5_4 (by rfl) sz3 (by intro u hu; simp at hu; rcases hu with rfl <;> rfl) (stR_flat rfl rfl)) rfl rfl ?_
      rintro _ _ _ ⟨rfl, rfl⟩
      refine wl_nil ?_
      refine pn_block ?_
      refine pn_then ?_
      refine wc_region ?_   -- region 6
      refine wl_det rfl rfl (det_add rfl rfl) rfl ?_
      refine wl_det rfl rfl (det_move rfl) rfl ?_
      refine wl_nil ?_
      replace h := Option.some.inj h
      subst h
      exact pn_some (k8, ((upd s8.1 s8.2 (ix a0 s8.2).Share), (w64 (s8.2 + 1))), ()) ⟨nextL g8, Nat.lt_succ_self _⟩ ⟨rfl, rfl, rfl, rfl, trivial⟩ (fun _ h => h.to ⟨_, (rs r0), trivial⟩ ⟨(ms m0), trivial⟩)
    · have h := ifF h cd12
      refine wc_exit ?_
      refine px_then ?_
      refine px_then ?_
      refine px_block ?_
      replace h := Option.some.inj h
      subst h
      replace g8 := nextR g8
      subst g8
      exact pn_meetG (s8.1, ()) rfl ⟨rfl, trivial⟩ (fun _ h => h.to ⟨_, r0, trivial⟩ trivial)
  rintro ⟨s4, _⟩ e4
  dsimp only at e4 ⊢
  subst e4
  have h := ho4
  refine wc_seq ?_
  refine wc_region ?_   -- region 7
  refine wl_det rfl rfl (det_move rfl) rfl ?_
  refine wl_det rfl rfl (det_assign rfl) rfl ?_
  refine wl_nil ?_
  refine pn_then ?_
  refine wc_ret ?_
  replace h := Option.some.inj h
  subst h
  refine pn_ret (vs := [_]) rfl ⟨rfl, trivial⟩ ⟨A1_2, (List.replicate (a0.length : Int).toNat (0 : Int)).length, c1_2, rfl, rfl, rfl⟩ (fun _ h => h.to ⟨_, r0, trivial⟩ trivial)
def Q_split_inRange (r : Bool) : Value → List Ent → List Fact → Prop := fun v θ κ => v = .bool r ∧ θ = [] ∧ κ = []
theorem plains_split_inRange {r : Bool} : ∀ v θ κ, Q_split_inRange r v θ κ → Plains θ := by
  rintro _ _ _ ⟨rfl, rfl, rfl⟩
  exact trivial
set_option maxHeartbeats 4000000 in
set_option maxRecDepth 100000 in
theorem W_split_inRange (a0 : (List Int)) (A0 : Option Addr) (n0 : Nat) (c0 : Nat) (r : Bool) (h : split_inRange a0 = some r) : Spec Try.prog 66 [.slice A0 n0 c0] [] [fV (lSlice (lInt .i64)) (.slice A0 n0 c0) a0] (Q_split_inRange r) := by
  unfold split_inRange at h
  refine spec_of (σ := [(0, _)]) Try.func66 rfl rfl rfl rfl ?_
  intro C
  refine wc_know (fun _ h => h.lenF m0) (fun e => ?_)
  subst e
  refine wc_seq ?_
  refine wc_region ?_   -- region 0
  refine wl_det rfl rfl (det_assign rfl) rfl ?_
  refine wl_nil ?_
  refine pn_then ?_
  obtain ⟨q2, h, ho2⟩ := bind_some h
  refine wc_meetG (G := Unit × Unit) (fun (s2, _) => (.inl s2) = q2) (fun (_, _) => []) (fun (_, _) => []) (fun (_, _) => []) ?_ ?_
  · refine wc_seq ?_
    refine wc_region ?_   -- region 1
    refine wl_det rfl rfl (det_move rfl) rfl ?_
    refine wl_det rfl rfl (det_len rfl un23) rfl ?_
    refine wl_det rfl rfl (det_move rfl) rfl ?_
    refine wl_nil ?_
    refine pn_then ?_
    refine wc_block ?_
    obtain ⟨o6, h, ho6⟩ := bind_some h
    obtain ⟨k6, hk6⟩ := loopV_some.1 h
    refine wc_loop (G := Nat × Int × Unit) (fun g => IterN (split_inRange_l6 a0) g.1 g.2.1 o6) (fun g => g.1) (fun (_, s6, _) => [(5, .slice A0 a0.length c0), (6, .int .i64 (a0.length : Int)), (7, .int .i64 s6)]) (fun (_, _, _) => []) (fun (_, _, _) => [fV (lSlice (lInt .i64)) (.slice A0 a0.length c0) a0]) (k6, 0, ()) hk6 ⟨rfl, rfl, rfl, trivial⟩ (fun _ h => h.to trivial ⟨m0, trivial⟩) ?_
    rintro ⟨k6, s6, _⟩ hI
    obtain ⟨k6, rfl, q6, h, g6⟩ := IterN.pos hI
    dsimp only at h ⊢
    unfold split_inRange_l6 at h
    refine wc_seq ?_
    refine wc_region ?_   -- region 2
    refine wl_det rfl rfl (det_lss rfl rfl) rfl ?_
    refine wl_nil ?_
    refine pn_then ?_
    refine wc_seq ?_
    refine wc_cond rfl (fun cd10 => ?_) (fun cd10 => ?_)
    · have h := ifT h cd10
      refine wc_skip ?_
      refine pn_then ?_
      refine wc_seq ?_
      refine wc_block ?_
      refine wc_seq ?_
      refine wc_region ?_   -- region 3
      obtain ⟨k3_0, h⟩ := chk_some h
      refine wl_st (fun _ h => h.openF m0 k3_0) ?_
      refine wl_det rfl rfl (det_indexP rfl rfl (ms m0) k3_0 m0 un23 sz3) rfl ?_
      refine wl_det rfl rfl (det_loadP (off := 0) rfl m0 (by rfl) (by rfl) (loaded_1 na3 us3)) rfl ?_
      refine wl_det rfl rfl (det_assign rfl) rfl ?_
      refine wl_nil ?_
      refine pn_then ?_
      refine wc_seq ?_
      refine wc_region ?_   -- region 4
      refine wl_det rfl rfl (det_move rfl) rfl ?_
      refine wl_det rfl rfl (det_lss rfl rfl) rfl ?_
      refine wl_det rfl rfl (det_move rfl) rfl ?_
      refine wl_way (decide ((ix a0 s6) < 0)) ((decide ((ix a0 s6) < 0)) || (decide (17592186044416 < (ix a0 s6)))) 3 16 (fun hg => ?_) (fun hg => ?_) ?_
      · have hg4_5 := hg
        refine wl_off rfl rfl rfl rfl rfl hg4_5 rfl ?_
        refine wl_off rfl rfl rfl rfl rfl hg4_5 rfl ?_
        refine wl_det rfl rfl (det_or_on (r := (decide (17592186044416 < (ix a0 s6)))) rfl rfl rfl hg4_5) rfl ?_
        exact wl_nil (pn_qnE (ext_cons rfl (ext_skip rfl (ext_skip rfl (ext_skip rfl ext_refl)))) (fun _ h => h))
      · have hg4_5a := hg
        refine wl_on rfl rfl rfl rfl hg4_5a ?_
        refine wl_det rfl rfl (det_move rfl) rfl ?_
        refine wl_on rfl rfl rfl rfl hg4_5a ?_
        refine wl_det rfl rfl (det_gtr rfl rfl) rfl ?_
        refine wl_det rfl rfl (det_or_off rfl rfl rfl hg4_5a) rfl ?_
        exact wl_nil (pn_qnE (ext_cons rfl (ext_skip rfl (ext_skip rfl (ext_skip rfl ext_refl)))) (fun _ h => h))
      refine wl_nil ?_
      refine pn_then ?_
      refine wc_cond rfl (fun cd18 => ?_) (fun cd18 => ?_)
      · have h := ifT h cd18
        refine wc_seq ?_
        refine wc_region ?_   -- region 5
        refine wl_det rfl rfl (det_assign rfl) rfl ?_
        refine wl_nil ?_
        refine pn_then ?_
        refine wc_ret ?_
        refine pr_block ?_
        refine pr_then ?_
        refine pr_then ?_
        refine pr_block ?_
        refine pr_then ?_
        replace h := Option.some.inj h
        subst h
        replace g6 := nextR g6
        subst g6
        have h := (elimL ho6)
        replace h := Option.some.inj h
        subst h
        have h := (elimR ho2)
        replace h := Option.some.inj h
        subst h
        refine pn_ret (vs := [_]) rfl ⟨rfl, trivial⟩ ⟨rfl, rfl, rfl⟩ (fun _ h => h.to trivial trivial)
      · have h := ifF h cd18
        refine wc_skip ?_
        refine pn_block ?_
        refine pn_then ?_
        refine wc_region ?_   -- region 6
        refine wl_det rfl rfl (det_add rfl rfl) rfl ?_
        refine wl_det rfl rfl (det_move rfl) rfl ?_
        refine wl_nil ?_
        replace h := Option.some.inj h
        subst h
        exact pn_some (k6, (w64 (s6 + 1)), ()) ⟨nextL g6, Nat.lt_succ_self _⟩ ⟨rfl, rfl, rfl, trivial⟩ (fun _ h => h.to trivial ⟨(ms m0), trivial⟩)
    · have h := ifF h cd10
      refine wc_exit ?_
      refine px_then ?_
      refine px_then ?_
      refine px_block ?_
      replace h := Option.some.inj h
      subst h
      replace g6 := nextR g6
      subst g6
      have h := (elimR ho6)
      replace h := Option.some.inj h
      subst h
      exact pn_meetG ((), ()) rfl trivial (fun _ h => h.to trivial trivial)
  rintro ⟨s2, _⟩ e2
  dsimp only at e2 ⊢
  subst e2
  have h := (elimL ho2)
  refine wc_seq ?_
  refine wc_region ?_   -- region 7
  refine wl_det rfl rfl (det_assign rfl) rfl ?_
  refine wl_nil ?_
  refine pn_then ?_
  refine wc_ret ?_
  replace h := Option.some.inj h
  subst h
  refine pn_ret (vs := [_]) rfl ⟨rfl, trivial⟩ ⟨rfl, rfl, rfl⟩ (fun _ h => h.to trivial trivial)
def Q_split_total (r : Int) : Value → List Ent → List Fact → Prop := fun v θ κ => v = .int .i64 r ∧ θ = [] ∧ κ = []
theorem plains_split_total {r : Int} : ∀ v θ κ, Q_split_total r v θ κ → Plains θ := by
  rintro _ _ _ ⟨rfl, rfl, rfl⟩
  exact trivial
set_option maxHeartbeats 4000000 in
set_option maxRecDepth 100000 in
theorem W_split_total (a0 : (List Int)) (A0 : Option Addr) (n0 : Nat) (c0 : Nat) (r : Int) (h : split_total a0 = some r) : Spec Try.prog 67 [.slice A0 n0 c0] [] [fV (lSlice (lInt .i64)) (.slice A0 n0 c0) a0] (Q_split_total r) := by
  unfold split_total at h
  refine spec_of (σ := [(0, _)]) Try.func67 rfl rfl rfl rfl ?_
  intro C
  refine wc_know (fun _ h => h.lenF m0) (fun e => ?_)
  subst e
  refine wc_seq ?_
  refine wc_region ?_   -- region 0
  refine wl_det rfl rfl (det_assign rfl) rfl ?_
  refine wl_nil ?_
  refine pn_then ?_
  refine wc_seq ?_
  refine wc_region ?_   -- region 1
  refine wl_det rfl rfl (det_assign rfl) rfl ?_
  refine wl_nil ?_
  refine pn_then ?_
  obtain ⟨q4, h, ho4⟩ := bind_some h
  refine wc_meetG (G := Int × Unit) (fun (s4, _) => s4 = q4) (fun (s4, _) => [(3, .int .i64 s4)]) (fun (_, _) => []) (fun (_, _) => []) ?_ ?_
  · refine wc_seq ?_
    refine wc_region ?_   -- region 2
    refine wl_det rfl rfl (det_move rfl) rfl ?_
    refine wl_det rfl rfl (det_len rfl un23) rfl ?_
    refine wl_det rfl rfl (det_move rfl) rfl ?_
    refine wl_nil ?_
    refine pn_then ?_
    refine wc_block ?_
    obtain ⟨k8, hk8⟩ := loopV_some.1 h
    refine wc_loop (G := Nat × (Int × Int) × Unit) (fun g => IterN (split_total_l8 a0) g.1 g.2.1 q4) (fun g => g.1) (fun (_, s8, _) => [(3, .int .i64 s8.1), (6, .slice A0 a0.length c0), (7, .int .i64 (a0.length : Int)), (8, .int .i64 s8.2)]) (fun (_, _, _) => []) (fun (_, _, _) => [fV (lSlice (lInt .i64)) (.slice A0 a0.length c0) a0]) (k8, (0, 0), ()) hk8 ⟨rfl, rfl, rfl, rfl, trivial⟩ (fun _ h => h.to trivial ⟨m0, trivial⟩) ?_
    rintro ⟨k8, s8, _⟩ hI
    obtain ⟨k8, rfl, q8, h, g8⟩ := IterN.pos hI
    dsimp only at h ⊢
    unfold split_total_l8 at h
    refine wc_seq ?_
    refine wc_region ?_   -- region 3
    refine wl_det rfl rfl (det_lss rfl rfl) rfl ?_
    refine wl_nil ?_
    refine pn_then ?_
    refine wc_seq ?_
    refine wc_cond rfl (fun cd12 => ?_) (fun cd12 => ?_)
    · have h := ifT h cd12
      refine wc_skip ?_
      refine pn_then ?_
      refine wc_seq ?_
      refine wc_block ?_
      refine wc_seq ?_
      refine wc_region ?_   -- region 4
      obtain ⟨k4_0, h⟩ := chk_some h
      refine wl_st (fun _ h => h.openF m0 k4_0) ?_
      refine wl_det rfl rfl (det_indexP rfl rfl (ms m0) k4_0 m0 un23 sz3) rfl ?_
      refine wl_det rfl rfl (det_loadP (off := 0) rfl m0 (by rfl) (by rfl) (loaded_1 na3 us3)) rfl ?_
      refine wl_det rfl rfl (det_assign rfl) rfl ?_
      refine wl_nil ?_
      refine pn_then ?_
      refine wc_region ?_   -- region 5
      refine wl_det rfl rfl (det_move rfl) rfl ?_
      refine wl_det rfl rfl (det_move rfl) rfl ?_
      refine wl_det rfl rfl (det_add rfl rfl) rfl ?_
      refine wl_det rfl rfl (det_assign rfl) rfl ?_
      refine wl_nil ?_
      refine pn_block ?_
      refine pn_then ?_
      refine wc_region ?_   -- region 6
      refine wl_det rfl rfl (det_add rfl rfl) rfl ?_
      refine wl_det rfl rfl (det_move rfl) rfl ?_
      refine wl_nil ?_
      replace h := Option.some.inj h
      subst h
      exact pn_some (k8, ((w64 (s8.1 + (ix a0 s8.2))), (w64 (s8.2 + 1))), ()) ⟨nextL g8, Nat.lt_succ_self _⟩ ⟨rfl, rfl, rfl, rfl, trivial⟩ (fun _ h => h.to trivial ⟨(ms m0), trivial⟩)
    · have h := ifF h cd12
      refine wc_exit ?_
      refine px_then ?_
      refine px_then ?_
      refine px_block ?_
      replace h := Option.some.inj h
      subst h
      replace g8 := nextR g8
      subst g8
      exact pn_meetG (s8.1, ()) rfl ⟨rfl, trivial⟩ (fun _ h => h.to trivial trivial)
  rintro ⟨s4, _⟩ e4
  dsimp only at e4 ⊢
  subst e4
  have h := ho4
  refine wc_seq ?_
  refine wc_region ?_   -- region 7
  refine wl_det rfl rfl (det_move rfl) rfl ?_
  refine wl_det rfl rfl (det_assign rfl) rfl ?_
  refine wl_nil ?_
  refine pn_then ?_
  refine wc_ret ?_
  replace h := Option.some.inj h
  subst h
  refine pn_ret (vs := [_]) rfl ⟨rfl, trivial⟩ ⟨rfl, rfl, rfl⟩ (fun _ h => h.to trivial trivial)
def Q_bits_Mul64 (r : Int × Int) : Value → List Ent → List Fact → Prop := fun v θ κ => v = .tuple #[.int .u64 r.1, .int .u64 r.2] ∧ θ = [] ∧ κ = []
theorem plains_bits_Mul64 {r : Int × Int} : ∀ v θ κ, Q_bits_Mul64 r v θ κ → Plains θ := by
  rintro _ _ _ ⟨rfl, rfl, rfl⟩
  exact trivial
theorem W_bits_Mul64 (a0 : Int) (a1 : Int) (r : Int × Int) (h : bits_Mul64 a0 a1 = some r) : Spec Try.prog 80 [.int .u64 a0, .int .u64 a1] [] [] (Q_bits_Mul64 r) :=
  spec_mul64 (ρ := Try.lay264_ren) Try.lay264 a0 a1 r h
def Q_bits_LeadingZeros64 (r : Int) : Value → List Ent → List Fact → Prop := fun v θ κ => v = .int .i64 r ∧ θ = [] ∧ κ = []
theorem plains_bits_LeadingZeros64 {r : Int} : ∀ v θ κ, Q_bits_LeadingZeros64 r v θ κ → Plains θ := by
  rintro _ _ _ ⟨rfl, rfl, rfl⟩
  exact trivial
theorem W_bits_LeadingZeros64 (a0 : Int) (r : Int) (h : bits_LeadingZeros64 a0 = some r) : Spec Try.prog 88 [.int .u64 a0] [] [] (Q_bits_LeadingZeros64 r) :=
  spec_lz64 (ρ := Try.lay134_ren) Try.lay134 a0 r h
def Q_bits_Div64 (r : Int × Int) : Value → List Ent → List Fact → Prop := fun v θ κ => v = .tuple #[.int .u64 r.1, .int .u64 r.2] ∧ θ = [] ∧ κ = []
theorem plains_bits_Div64 {r : Int × Int} : ∀ v θ κ, Q_bits_Div64 r v θ κ → Plains θ := by
  rintro _ _ _ ⟨rfl, rfl, rfl⟩
  exact trivial
set_option maxHeartbeats 4000000 in
set_option maxRecDepth 100000 in
theorem W_bits_Div64 (a0 : Int) (a1 : Int) (a2 : Int) (r : Int × Int) (h : bits_Div64 a0 a1 a2 = some r) : Spec Try.prog 81 [.int .u64 a0, .int .u64 a1, .int .u64 a2] [] [] (Q_bits_Div64 r) := by
  unfold bits_Div64 at h
  refine spec_of (σ := [(0, _), (1, _), (2, _)]) Try.func81 rfl rfl rfl rfl ?_
  intro C
  refine wc_seq ?_
  refine wc_region ?_   -- region 0
  refine wl_det rfl rfl (det_assign rfl) rfl ?_
  refine wl_det rfl rfl (det_assign rfl) rfl ?_
  refine wl_nil ?_
  refine pn_then ?_
  obtain ⟨q2, h, ho2⟩ := bind_some h
  refine wc_meetG (G := Unit × Unit) (fun (s2, _) => s2 = q2) (fun (_, _) => [(0, .int .u64 a0), (1, .int .u64 a1), (2, .int .u64 a2)]) (fun (_, _) => []) (fun (_, _) => []) ?_ ?_
  · refine wc_seq ?_
    refine wc_region ?_   -- region 1
    refine wl_det rfl rfl (det_move rfl) rfl ?_
    refine wl_det rfl rfl (det_eql rfl rfl) rfl ?_
    refine wl_nil ?_
    refine pn_then ?_
    refine wc_cond rfl (fun cd5 => ?_) (fun cd5 => ?_)
    · have h := ifT h cd5
      cases h
    · have h := ifF h cd5
      refine wc_skip ?_
      replace h := Option.some.inj h
      subst h
      exact pn_meetG ((), ()) rfl ⟨rfl, rfl, rfl, trivial⟩ (fun _ h => h.to trivial trivial)
  rintro ⟨s2, _⟩ e2
  dsimp only at e2 ⊢
  subst e2
  have h := ho2
  obtain ⟨q7, h, ho7⟩ := bind_some h
  refine wc_meetG (G := Unit × Unit) (fun (s7, _) => s7 = q7) (fun (_, _) => [(0, .int .u64 a0), (1, .int .u64 a1), (2, .int .u64 a2)]) (fun (_, _) => []) (fun (_, _) => []) ?_ ?_
  · refine wc_seq ?_
    refine wc_region ?_   -- region 3
    refine wl_det rfl rfl (det_move rfl) rfl ?_
    refine wl_det rfl rfl (det_move rfl) rfl ?_
    refine wl_det rfl rfl (det_leq rfl rfl) rfl ?_
    refine wl_nil ?_
    refine pn_then ?_
    refine wc_cond rfl (fun cd10 => ?_) (fun cd10 => ?_)
    · have h := ifT h cd10
      cases h
    · have h := ifF h cd10
      refine wc_skip ?_
      replace h := Option.some.inj h
      subst h
      exact pn_meetG ((), ()) rfl ⟨rfl, rfl, rfl, trivial⟩ (fun _ h => h.to trivial trivial)
  rintro ⟨s7, _⟩ e7
  dsimp only at e7 ⊢
  subst e7
  have h := ho7
  refine wc_seq ?_
  refine wc_seq ?_
  refine wc_region ?_   -- region 5
  refine wl_det rfl rfl (det_move rfl) rfl ?_
  refine wl_det rfl rfl (det_eql rfl rfl) rfl ?_
  refine wl_nil ?_
  refine pn_then ?_
  refine wc_cond rfl (fun cd15 => ?_) (fun cd15 => ?_)
  · have h := ifT h cd15
    refine wc_seq ?_
    obtain ⟨k6_p1, h⟩ := chk_some h
    refine dx_region 7 [[], [], [0, 1], [], [], [3, 4], [0, 1, 2], [0, 1, 2, 3, 4, 5, 6]] mixed (ord := (.det 0 (.det 1 (.det 2 (.det 3 (.det 4 (.det 5 (.det 6 .done)))))))) (by kernel_rfl) ?_   -- region 6
    refine hx_det rfl rfl rfl nofun (det_move rfl) rfl ?_
    refine hx_det rfl rfl rfl nofun (det_move rfl) rfl ?_
    refine hx_det rfl rfl rfl nofun (det_quoB rfl rfl k6_p1) rfl ?_
    refine hx_det rfl rfl rfl nofun (det_move rfl) rfl ?_
    refine hx_det rfl rfl rfl nofun (det_move rfl) rfl ?_
    refine hx_det rfl rfl rfl nofun (det_remB rfl rfl k6_p1) rfl ?_
    refine hx_det rfl rfl rfl nofun (det_assign rfl) rfl ?_
    refine hx_end ?_
    refine wl_det rfl rfl (det_assign rfl) rfl ?_
    refine wl_nil ?_
    refine pn_then ?_
    refine wc_ret ?_
    refine pr_then ?_
    replace h := Option.some.inj h
    subst h
    refine pn_ret (vs := [_, _]) rfl ⟨rfl, rfl, trivial⟩ ⟨rfl, rfl, rfl⟩ (fun _ h => h.to trivial trivial)
  · have h := ifF h cd15
    refine wc_skip ?_
    refine pn_then ?_
    refine wc_seq ?_
    refine wc_region ?_   -- region 7
    refine wl_det rfl rfl (det_move rfl) rfl ?_
    obtain ⟨r7_1, hr7_1, h⟩ := bind_some h
    refine wl_act (act_callS (cap := []) (W_bits_LeadingZeros64 a2 r7_1 hr7_1) rfl rfl rfl bd88 rfl trivial) rfl rfl rfl ?_
    rintro _ _ _ ⟨_, _, ⟨rfl, rfl, rfl⟩, rfl, rfl⟩
    dsimp only [List.nil_append, List.cons_append]
    refine wl_det rfl rfl (det_conv rfl us3 un107) rfl ?_
    refine wl_det rfl rfl (det_assign rfl) rfl ?_
    refine wl_nil ?_
    refine pn_then ?_
    refine wc_seq ?_
    refine wc_region ?_   -- region 8
    refine wl_det rfl rfl (det_move rfl) rfl ?_
    refine wl_det rfl rfl (det_move rfl) rfl ?_
    obtain ⟨k8_2, h⟩ := chk_some h
    refine wl_det rfl rfl (det_shl rfl rfl k8_2) rfl ?_
    refine wl_det rfl rfl (det_assign rfl) rfl ?_
    refine wl_nil ?_
    refine pn_then ?_
    refine wc_seq ?_
    refine wc_region ?_   -- region 9
    refine wl_det rfl rfl (det_move rfl) rfl ?_
    refine wl_det rfl rfl (det_shr rfl rfl rfl) rfl ?_
    refine wl_det rfl rfl (det_assign rfl) rfl ?_
    refine wl_nil ?_
    refine pn_then ?_
    refine wc_seq ?_
    refine wc_region ?_   -- region 10
    refine wl_det rfl rfl (det_move rfl) rfl ?_
    refine wl_det rfl rfl (det_band rfl rfl) rfl ?_
    refine wl_det rfl rfl (det_assign rfl) rfl ?_
    refine wl_nil ?_
    refine pn_then ?_
    refine wc_seq ?_
    refine wc_region ?_   -- region 11
    refine wl_det rfl rfl (det_move rfl) rfl ?_
    refine wl_det rfl rfl (det_move rfl) rfl ?_
    refine wl_det rfl rfl (det_shl rfl rfl k8_2) rfl ?_
    refine wl_det rfl rfl (det_move rfl) rfl ?_
    refine wl_det rfl rfl (det_move rfl) rfl ?_
    refine wl_det rfl rfl (det_sub rfl rfl) rfl ?_
    obtain ⟨k11_6, h⟩ := chk_some h
    refine wl_det rfl rfl (det_shr rfl rfl k11_6) rfl ?_
    refine wl_det rfl rfl (det_bor rfl rfl) rfl ?_
    refine wl_det rfl rfl (det_assign rfl) rfl ?_
    refine wl_nil ?_
    refine pn_then ?_
    refine wc_seq ?_
    refine wc_region ?_   -- region 12
    refine wl_det rfl rfl (det_move rfl) rfl ?_
    refine wl_det rfl rfl (det_move rfl) rfl ?_
    refine wl_det rfl rfl (det_shl rfl rfl k8_2) rfl ?_
    refine wl_det rfl rfl (det_assign rfl) rfl ?_
    refine wl_nil ?_
    refine pn_then ?_
    refine wc_seq ?_
    refine wc_region ?_   -- region 13
    refine wl_det rfl rfl (det_move rfl) rfl ?_
    refine wl_det rfl rfl (det_shr rfl rfl rfl) rfl ?_
    refine wl_det rfl rfl (det_assign rfl) rfl ?_
    refine wl_nil ?_
    refine pn_then ?_
    refine wc_seq ?_
    refine wc_region ?_   -- region 14
    refine wl_det rfl rfl (det_move rfl) rfl ?_
    refine wl_det rfl rfl (det_band rfl rfl) rfl ?_
    refine wl_det rfl rfl (det_assign rfl) rfl ?_
    refine wl_nil ?_
    refine pn_then ?_
    refine wc_seq ?_
    refine wc_region ?_   -- region 15
    refine wl_det rfl rfl (det_move rfl) rfl ?_
    refine wl_det rfl rfl (det_move rfl) rfl ?_
    obtain ⟨k15_2, h⟩ := chk_some h
    refine wl_det rfl rfl (det_quoB rfl rfl k15_2) rfl ?_
    refine wl_det rfl rfl (det_assign rfl) rfl ?_
    refine wl_nil ?_
    refine pn_then ?_
    refine wc_seq ?_
    refine wc_region ?_   -- region 16
    refine wl_det rfl rfl (det_move rfl) rfl ?_
    refine wl_det rfl rfl (det_move rfl) rfl ?_
    refine wl_det rfl rfl (det_move rfl) rfl ?_
    refine wl_det rfl rfl (det_mul rfl rfl) rfl ?_
    refine wl_det rfl rfl (det_sub rfl rfl) rfl ?_
    refine wl_det rfl rfl (det_assign rfl) rfl ?_
    refine wl_nil ?_
    refine pn_then ?_
    obtain ⟨q38, h, ho38⟩ := bind_some h
    refine wc_meetG (G := Int × Unit) (fun (s38, _) => s38 = q38) (fun (s38, _) => [(2, .int .u64 (bShl .u64 a2 (u64 r7_1))), (8, .int .u64 (u64 r7_1)), (9, .int .u64 (bShr .u64 (bShl .u64 a2 (u64 r7_1)) 32)), (10, .int .u64 (bAnd .u64 (bShl .u64 a2 (u64 r7_1)) 4294967295)), (11, .int .u64 (bOr .u64 (bShl .u64 a0 (u64 r7_1)) (bShr .u64 a1 (u64 (64 - (u64 r7_1)))))), (13, .int .u64 (bShr .u64 (bShl .u64 a1 (u64 r7_1)) 32)), (14, .int .u64 (bAnd .u64 (bShl .u64 a1 (u64 r7_1)) 4294967295)), (15, .int .u64 s38)]) (fun (_, _) => []) (fun (_, _) => []) ?_ ?_
    · refine wc_block ?_
      obtain ⟨k40, hk40⟩ := loopV_some.1 h
      refine wc_loop (G := Nat × (Int × Int) × Unit) (fun g => IterN (bits_Div64_l40 a1 a2 r7_1) g.1 g.2.1 q38) (fun g => g.1) (fun (_, s40, _) => [(2, .int .u64 (bShl .u64 a2 (u64 r7_1))), (8, .int .u64 (u64 r7_1)), (9, .int .u64 (bShr .u64 (bShl .u64 a2 (u64 r7_1)) 32)), (10, .int .u64 (bAnd .u64 (bShl .u64 a2 (u64 r7_1)) 4294967295)), (11, .int .u64 (bOr .u64 (bShl .u64 a0 (u64 r7_1)) (bShr .u64 a1 (u64 (64 - (u64 r7_1)))))), (13, .int .u64 (bShr .u64 (bShl .u64 a1 (u64 r7_1)) 32)), (14, .int .u64 (bAnd .u64 (bShl .u64 a1 (u64 r7_1)) 4294967295)), (15, .int .u64 s40.1), (16, .int .u64 s40.2)]) (fun (_, _, _) => []) (fun (_, _, _) => []) (k40, ((u64 ((bOr .u64 (bShl .u64 a0 (u64 r7_1)) (bShr .u64 a1 (u64 (64 - (u64 r7_1))))).tdiv (bShr .u64 (bShl .u64 a2 (u64 r7_1)) 32))), (u64 ((bOr .u64 (bShl .u64 a0 (u64 r7_1)) (bShr .u64 a1 (u64 (64 - (u64 r7_1))))) - (u64 ((u64 ((bOr .u64 (bShl .u64 a0 (u64 r7_1)) (bShr .u64 a1 (u64 (64 - (u64 r7_1))))).tdiv (bShr .u64 (bShl .u64 a2 (u64 r7_1)) 32))) * (bShr .u64 (bShl .u64 a2 (u64 r7_1)) 32)))))), ()) hk40 ⟨rfl, rfl, rfl, rfl, rfl, rfl, rfl, rfl, rfl, trivial⟩ (fun _ h => h.to trivial trivial) ?_
      rintro ⟨k40, s40, _⟩ hI
      obtain ⟨k40, rfl, q40, h, g40⟩ := IterN.pos hI
      dsimp only at h ⊢
      unfold bits_Div64_l40 at h
      refine wc_seq ?_
      refine wc_seq ?_
      refine wc_region ?_   -- region 17
      refine wl_det rfl rfl (det_move rfl) rfl ?_
      refine wl_det rfl rfl (det_geq rfl rfl) rfl ?_
      refine wl_det rfl rfl (det_move rfl) rfl ?_
      refine wl_way (decide (4294967296 ≤ s40.1)) ((decide (4294967296 ≤ s40.1)) || (decide ((u64 ((u64 (4294967296 * s40.2)) + (bShr .u64 (bShl .u64 a1 (u64 r7_1)) 32))) < (u64 (s40.1 * (bAnd .u64 (bShl .u64 a2 (u64 r7_1)) 4294967295)))))) 9 78 (fun hg => ?_) (fun hg => ?_) ?_
      · have hg17_11 := hg
        refine wl_off rfl rfl rfl rfl rfl hg17_11 rfl ?_
        refine wl_off rfl rfl rfl rfl rfl hg17_11 rfl ?_
        refine wl_off rfl rfl rfl rfl rfl hg17_11 rfl ?_
        refine wl_off rfl rfl rfl rfl rfl hg17_11 rfl ?_
        refine wl_off rfl rfl rfl rfl rfl hg17_11 rfl ?_
        refine wl_off rfl rfl rfl rfl rfl hg17_11 rfl ?_
        refine wl_off rfl rfl rfl rfl rfl hg17_11 rfl ?_
        refine wl_off rfl rfl rfl rfl rfl hg17_11 rfl ?_
        refine wl_det rfl rfl (det_or_on (r := (decide ((u64 ((u64 (4294967296 * s40.2)) + (bShr .u64 (bShl .u64 a1 (u64 r7_1)) 32))) < (u64 (s40.1 * (bAnd .u64 (bShl .u64 a2 (u64 r7_1)) 4294967295)))))) rfl rfl rfl hg17_11) rfl ?_
        exact wl_nil (pn_qnE (ext_cons rfl (ext_skip rfl (ext_skip rfl (ext_skip rfl (ext_skip rfl (ext_skip rfl (ext_skip rfl (ext_skip rfl (ext_skip rfl (ext_skip rfl ext_refl)))))))))) (fun _ h => h))
      · have hg17_11a := hg
        refine wl_on rfl rfl rfl rfl hg17_11a ?_
        refine wl_det rfl rfl (det_move rfl) rfl ?_
        refine wl_on rfl rfl rfl rfl hg17_11a ?_
        refine wl_det rfl rfl (det_move rfl) rfl ?_
        refine wl_on rfl rfl rfl rfl hg17_11a ?_
        refine wl_det rfl rfl (det_mul rfl rfl) rfl ?_
        refine wl_on rfl rfl rfl rfl hg17_11a ?_
        refine wl_det rfl rfl (det_move rfl) rfl ?_
        refine wl_on rfl rfl rfl rfl hg17_11a ?_
        refine wl_det rfl rfl (det_mul rfl rfl) rfl ?_
        refine wl_on rfl rfl rfl rfl hg17_11a ?_
        refine wl_det rfl rfl (det_move rfl) rfl ?_
        refine wl_on rfl rfl rfl rfl hg17_11a ?_
        refine wl_det rfl rfl (det_add rfl rfl) rfl ?_
        refine wl_on rfl rfl rfl rfl hg17_11a ?_
        refine wl_det rfl rfl (det_gtr rfl rfl) rfl ?_
        refine wl_det rfl rfl (det_or_off rfl rfl rfl hg17_11a) rfl ?_
        exact wl_nil (pn_qnE (ext_cons rfl (ext_skip rfl (ext_skip rfl (ext_skip rfl (ext_skip rfl (ext_skip rfl (ext_skip rfl (ext_skip rfl (ext_skip rfl (ext_skip rfl ext_refl)))))))))) (fun _ h => h))
      refine wl_nil ?_
      refine pn_then ?_
      refine wc_cond rfl (fun cd44 => ?_) (fun cd44 => ?_)
      · have h := ifT h cd44
        refine wc_skip ?_
        refine pn_then ?_
        refine wc_block ?_
        refine wc_seq ?_
        refine wc_region ?_   -- region 18
        refine wl_det rfl rfl (det_move rfl) rfl ?_
        refine wl_det rfl rfl (det_sub rfl rfl) rfl ?_
        refine wl_det rfl rfl (det_assign rfl) rfl ?_
        refine wl_nil ?_
        refine pn_then ?_
        refine wc_seq ?_
        refine wc_region ?_   -- region 19
        refine wl_det rfl rfl (det_move rfl) rfl ?_
        refine wl_det rfl rfl (det_move rfl) rfl ?_
        refine wl_det rfl rfl (det_add rfl rfl) rfl ?_
        refine wl_det rfl rfl (det_assign rfl) rfl ?_
        refine wl_nil ?_
        refine pn_then ?_
        refine wc_seq ?_
        refine wc_region ?_   -- region 20
        refine wl_det rfl rfl (det_move rfl) rfl ?_
        refine wl_det rfl rfl (det_geq rfl rfl) rfl ?_
        refine wl_nil ?_
        refine pn_then ?_
        refine wc_cond rfl (fun cd53 => ?_) (fun cd53 => ?_)
        · have h := ifT h cd53
          refine wc_exit ?_
          refine px_block_ne rfl ?_
          refine px_then ?_
          refine px_block ?_
          replace h := Option.some.inj h
          subst h
          replace g40 := nextR g40
          subst g40
          exact pn_meetG ((u64 (s40.1 - 1)), ()) rfl ⟨rfl, rfl, rfl, rfl, rfl, rfl, rfl, rfl, trivial⟩ (fun _ h => h.to trivial trivial)
        · have h := ifF h cd53
          refine wc_skip ?_
          refine pn_block ?_
          replace h := Option.some.inj h
          subst h
          exact pn_some (k40, ((u64 (s40.1 - 1)), (u64 (s40.2 + (bShr .u64 (bShl .u64 a2 (u64 r7_1)) 32)))), ()) ⟨nextL g40, Nat.lt_succ_self _⟩ ⟨rfl, rfl, rfl, rfl, rfl, rfl, rfl, rfl, rfl, trivial⟩ (fun _ h => h.to trivial trivial)
      · have h := ifF h cd44
        refine wc_exit ?_
        refine px_then ?_
        refine px_then ?_
        refine px_block ?_
        replace h := Option.some.inj h
        subst h
        replace g40 := nextR g40
        subst g40
        exact pn_meetG (s40.1, ()) rfl ⟨rfl, rfl, rfl, rfl, rfl, rfl, rfl, rfl, trivial⟩ (fun _ h => h.to trivial trivial)
    rintro ⟨s38, _⟩ e38
    dsimp only at e38 ⊢
    subst e38
    have h := ho38
    refine wc_seq ?_
    refine wc_region ?_   -- region 21
    refine wl_det rfl rfl (det_move rfl) rfl ?_
    refine wl_det rfl rfl (det_mul rfl rfl) rfl ?_
    refine wl_det rfl rfl (det_move rfl) rfl ?_
    refine wl_det rfl rfl (det_add rfl rfl) rfl ?_
    refine wl_det rfl rfl (det_move rfl) rfl ?_
    refine wl_det rfl rfl (det_move rfl) rfl ?_
    refine wl_det rfl rfl (det_mul rfl rfl) rfl ?_
    refine wl_det rfl rfl (det_sub rfl rfl) rfl ?_
    refine wl_det rfl rfl (det_assign rfl) rfl ?_
    refine wl_nil ?_
    refine pn_then ?_
    refine wc_seq ?_
    refine wc_region ?_   -- region 22
    refine wl_det rfl rfl (det_move rfl) rfl ?_
    refine wl_det rfl rfl (det_move rfl) rfl ?_
    refine wl_det rfl rfl (det_quoB rfl rfl k15_2) rfl ?_
    refine wl_det rfl rfl (det_assign rfl) rfl ?_
    refine wl_nil ?_
    refine pn_then ?_
    refine wc_seq ?_
    refine wc_region ?_   -- region 23
    refine wl_det rfl rfl (det_move rfl) rfl ?_
    refine wl_det rfl rfl (det_move rfl) rfl ?_
    refine wl_det rfl rfl (det_move rfl) rfl ?_
    refine wl_det rfl rfl (det_mul rfl rfl) rfl ?_
    refine wl_det rfl rfl (det_sub rfl rfl) rfl ?_
    refine wl_det rfl rfl (det_assign rfl) rfl ?_
    refine wl_nil ?_
    refine pn_then ?_
    obtain ⟨q61, h, ho61⟩ := bind_some h
    refine wc_meetG (G := Int × Unit) (fun (s61, _) => s61 = q61) (fun (s61, _) => [(2, .int .u64 (bShl .u64 a2 (u64 r7_1))), (8, .int .u64 (u64 r7_1)), (14, .int .u64 (bAnd .u64 (bShl .u64 a1 (u64 r7_1)) 4294967295)), (15, .int .u64 s38), (17, .int .u64 (u64 ((u64 ((u64 ((bOr .u64 (bShl .u64 a0 (u64 r7_1)) (bShr .u64 a1 (u64 (64 - (u64 r7_1))))) * 4294967296)) + (bShr .u64 (bShl .u64 a1 (u64 r7_1)) 32))) - (u64 (s38 * (bShl .u64 a2 (u64 r7_1))))))), (18, .int .u64 s61)]) (fun (_, _) => []) (fun (_, _) => []) ?_ ?_
    · refine wc_block ?_
      obtain ⟨k63, hk63⟩ := loopV_some.1 h
      refine wc_loop (G := Nat × (Int × Int) × Unit) (fun g => IterN (bits_Div64_l63 a1 a2 r7_1) g.1 g.2.1 q61) (fun g => g.1) (fun (_, s63, _) => [(2, .int .u64 (bShl .u64 a2 (u64 r7_1))), (8, .int .u64 (u64 r7_1)), (9, .int .u64 (bShr .u64 (bShl .u64 a2 (u64 r7_1)) 32)), (10, .int .u64 (bAnd .u64 (bShl .u64 a2 (u64 r7_1)) 4294967295)), (14, .int .u64 (bAnd .u64 (bShl .u64 a1 (u64 r7_1)) 4294967295)), (15, .int .u64 s38), (16, .int .u64 s63.1), (17, .int .u64 (u64 ((u64 ((u64 ((bOr .u64 (bShl .u64 a0 (u64 r7_1)) (bShr .u64 a1 (u64 (64 - (u64 r7_1))))) * 4294967296)) + (bShr .u64 (bShl .u64 a1 (u64 r7_1)) 32))) - (u64 (s38 * (bShl .u64 a2 (u64 r7_1))))))), (18, .int .u64 s63.2)]) (fun (_, _, _) => []) (fun (_, _, _) => []) (k63, ((u64 ((u64 ((u64 ((u64 ((bOr .u64 (bShl .u64 a0 (u64 r7_1)) (bShr .u64 a1 (u64 (64 - (u64 r7_1))))) * 4294967296)) + (bShr .u64 (bShl .u64 a1 (u64 r7_1)) 32))) - (u64 (s38 * (bShl .u64 a2 (u64 r7_1)))))) - (u64 ((u64 ((u64 ((u64 ((u64 ((bOr .u64 (bShl .u64 a0 (u64 r7_1)) (bShr .u64 a1 (u64 (64 - (u64 r7_1))))) * 4294967296)) + (bShr .u64 (bShl .u64 a1 (u64 r7_1)) 32))) - (u64 (s38 * (bShl .u64 a2 (u64 r7_1)))))).tdiv (bShr .u64 (bShl .u64 a2 (u64 r7_1)) 32))) * (bShr .u64 (bShl .u64 a2 (u64 r7_1)) 32))))), (u64 ((u64 ((u64 ((u64 ((bOr .u64 (bShl .u64 a0 (u64 r7_1)) (bShr .u64 a1 (u64 (64 - (u64 r7_1))))) * 4294967296)) + (bShr .u64 (bShl .u64 a1 (u64 r7_1)) 32))) - (u64 (s38 * (bShl .u64 a2 (u64 r7_1)))))).tdiv (bShr .u64 (bShl .u64 a2 (u64 r7_1)) 32)))), ()) hk63 ⟨rfl, rfl, rfl, rfl, rfl, rfl, rfl, rfl, rfl, trivial⟩ (fun _ h => h.to trivial trivial) ?_
      rintro ⟨k63, s63, _⟩ hI
      obtain ⟨k63, rfl, q63, h, g63⟩ := IterN.pos hI
      dsimp only at h ⊢
      unfold bits_Div64_l63 at h
      refine wc_seq ?_
      refine wc_seq ?_
      refine wc_region ?_   -- region 24
      refine wl_det rfl rfl (det_move rfl) rfl ?_
      refine wl_det rfl rfl (det_geq rfl rfl) rfl ?_
      refine wl_det rfl rfl (det_move rfl) rfl ?_
      refine wl_way (decide (4294967296 ≤ s63.2)) ((decide (4294967296 ≤ s63.2)) || (decide ((u64 ((u64 (4294967296 * s63.1)) + (bAnd .u64 (bShl .u64 a1 (u64 r7_1)) 4294967295))) < (u64 (s63.2 * (bAnd .u64 (bShl .u64 a2 (u64 r7_1)) 4294967295)))))) 9 113 (fun hg => ?_) (fun hg => ?_) ?_
      · have hg24_11 := hg
        refine wl_off rfl rfl rfl rfl rfl hg24_11 rfl ?_
        refine wl_off rfl rfl rfl rfl rfl hg24_11 rfl ?_
        refine wl_off rfl rfl rfl rfl rfl hg24_11 rfl ?_
        refine wl_off rfl rfl rfl rfl rfl hg24_11 rfl ?_
        refine wl_off rfl rfl rfl rfl rfl hg24_11 rfl ?_
        refine wl_off rfl rfl rfl rfl rfl hg24_11 rfl ?_
        refine wl_off rfl rfl rfl rfl rfl hg24_11 rfl ?_
        refine wl_off rfl rfl rfl rfl rfl hg24_11 rfl ?_
        refine wl_det rfl rfl (det_or_on (r := (decide ((u64 ((u64 (4294967296 * s63.1)) + (bAnd .u64 (bShl .u64 a1 (u64 r7_1)) 4294967295))) < (u64 (s63.2 * (bAnd .u64 (bShl .u64 a2 (u64 r7_1)) 4294967295)))))) rfl rfl rfl hg24_11) rfl ?_
        exact wl_nil (pn_qnE (ext_cons rfl (ext_skip rfl (ext_skip rfl (ext_skip rfl (ext_skip rfl (ext_skip rfl (ext_skip rfl (ext_skip rfl (ext_skip rfl (ext_skip rfl ext_refl)))))))))) (fun _ h => h))
      · have hg24_11a := hg
        refine wl_on rfl rfl rfl rfl hg24_11a ?_
        refine wl_det rfl rfl (det_move rfl) rfl ?_
        refine wl_on rfl rfl rfl rfl hg24_11a ?_
        refine wl_det rfl rfl (det_move rfl) rfl ?_
        refine wl_on rfl rfl rfl rfl hg24_11a ?_
        refine wl_det rfl rfl (det_mul rfl rfl) rfl ?_
        refine wl_on rfl rfl rfl rfl hg24_11a ?_
        refine wl_det rfl rfl (det_move rfl) rfl ?_
        refine wl_on rfl rfl rfl rfl hg24_11a ?_
        refine wl_det rfl rfl (det_mul rfl rfl) rfl ?_
        refine wl_on rfl rfl rfl rfl hg24_11a ?_
        refine wl_det rfl rfl (det_move rfl) rfl ?_
        refine wl_on rfl rfl rfl rfl hg24_11a ?_
        refine wl_det rfl rfl (det_add rfl rfl) rfl ?_
        refine wl_on rfl rfl rfl rfl hg24_11a ?_
        refine wl_det rfl rfl (det_gtr rfl rfl) rfl ?_
        refine wl_det rfl rfl (det_or_off rfl rfl rfl hg24_11a) rfl ?_
        exact wl_nil (pn_qnE (ext_cons rfl (ext_skip rfl (ext_skip rfl (ext_skip rfl (ext_skip rfl (ext_skip rfl (ext_skip rfl (ext_skip rfl (ext_skip rfl (ext_skip rfl ext_refl)))))))))) (fun _ h => h))
      refine wl_nil ?_
      refine pn_then ?_
      refine wc_cond rfl (fun cd67 => ?_) (fun cd67 => ?_)
      · have h := ifT h cd67
        refine wc_skip ?_
        refine pn_then ?_
        refine wc_block ?_
        refine wc_seq ?_
        refine wc_region ?_   -- region 25
        refine wl_det rfl rfl (det_move rfl) rfl ?_
        refine wl_det rfl rfl (det_sub rfl rfl) rfl ?_
        refine wl_det rfl rfl (det_assign rfl) rfl ?_
        refine wl_nil ?_
        refine pn_then ?_
        refine wc_seq ?_
        refine wc_region ?_   -- region 26
        refine wl_det rfl rfl (det_move rfl) rfl ?_
        refine wl_det rfl rfl (det_move rfl) rfl ?_
        refine wl_det rfl rfl (det_add rfl rfl) rfl ?_
        refine wl_det rfl rfl (det_assign rfl) rfl ?_
        refine wl_nil ?_
        refine pn_then ?_
        refine wc_seq ?_
        refine wc_region ?_   -- region 27
        refine wl_det rfl rfl (det_move rfl) rfl ?_
        refine wl_det rfl rfl (det_geq rfl rfl) rfl ?_
        refine wl_nil ?_
        refine pn_then ?_
        refine wc_cond rfl (fun cd76 => ?_) (fun cd76 => ?_)
        · have h := ifT h cd76
          refine wc_exit ?_
          refine px_block_ne rfl ?_
          refine px_then ?_
          refine px_block ?_
          replace h := Option.some.inj h
          subst h
          replace g63 := nextR g63
          subst g63
          exact pn_meetG ((u64 (s63.2 - 1)), ()) rfl ⟨rfl, rfl, rfl, rfl, rfl, rfl, trivial⟩ (fun _ h => h.to trivial trivial)
        · have h := ifF h cd76
          refine wc_skip ?_
          refine pn_block ?_
          replace h := Option.some.inj h
          subst h
          exact pn_some (k63, ((u64 (s63.1 + (bShr .u64 (bShl .u64 a2 (u64 r7_1)) 32))), (u64 (s63.2 - 1))), ()) ⟨nextL g63, Nat.lt_succ_self _⟩ ⟨rfl, rfl, rfl, rfl, rfl, rfl, rfl, rfl, rfl, trivial⟩ (fun _ h => h.to trivial trivial)
      · have h := ifF h cd67
        refine wc_exit ?_
        refine px_then ?_
        refine px_then ?_
        refine px_block ?_
        replace h := Option.some.inj h
        subst h
        replace g63 := nextR g63
        subst g63
        exact pn_meetG (s63.2, ()) rfl ⟨rfl, rfl, rfl, rfl, rfl, rfl, trivial⟩ (fun _ h => h.to trivial trivial)
    rintro ⟨s61, _⟩ e61
    dsimp only at e61 ⊢
    subst e61
    have h := ho61
    refine wc_seq ?_
    refine wc_region ?_   -- region 28
    refine wl_det rfl rfl (det_move rfl) rfl ?_
    refine wl_det rfl rfl (det_mul rfl rfl) rfl ?_
    refine wl_det rfl rfl (det_move rfl) rfl ?_
    refine wl_det rfl rfl (det_add rfl rfl) rfl ?_
    refine wl_det rfl rfl (det_move rfl) rfl ?_
    refine wl_det rfl rfl (det_mul rfl rfl) rfl ?_
    refine wl_det rfl rfl (det_move rfl) rfl ?_
    refine wl_det rfl rfl (det_add rfl rfl) rfl ?_
    refine wl_det rfl rfl (det_move rfl) rfl ?_
    refine wl_det rfl rfl (det_move rfl) rfl ?_
    refine wl_det rfl rfl (det_mul rfl rfl) rfl ?_
    refine wl_det rfl rfl (det_sub rfl rfl) rfl ?_
    refine wl_det rfl rfl (det_move rfl) rfl ?_
    refine wl_det rfl rfl (det_shr rfl rfl k8_2) rfl ?_
    refine wl_det rfl rfl (det_assign rfl) rfl ?_
    refine wl_det rfl rfl (det_assign rfl) rfl ?_
    refine wl_nil ?_
    refine pn_then ?_
    refine wc_ret ?_
    replace h := Option.some.inj h
    subst h
    refine pn_ret (vs := [_, _]) rfl ⟨rfl, rfl, trivial⟩ ⟨rfl, rfl, rfl⟩ (fun _ h => h.to trivial trivial)
def Q_cmp_isNaN_uint64 (r : Bool) : Value → List Ent → List Fact → Prop := fun v θ κ => v = .bool r ∧ θ = [] ∧ κ = []
theorem plains_cmp_isNaN_uint64 {r : Bool} : ∀ v θ κ, Q_cmp_isNaN_uint64 r v θ κ → Plains θ := by
  rintro _ _ _ ⟨rfl, rfl, rfl⟩
  exact trivial
set_option maxHeartbeats 4000000 in
set_option maxRecDepth 100000 in
theorem W_cmp_isNaN_uint64 (a0 : Int) (r : Bool) (h : cmp_isNaN_uint64 a0 = some r) : Spec Try.prog 89 [.int .u64 a0] [] [] (Q_cmp_isNaN_uint64 r) := by
  unfold cmp_isNaN_uint64 at h
  refine spec_of (σ := [(0, _)]) Try.func89 rfl rfl rfl rfl ?_
  intro C
  refine wc_seq ?_
  refine wc_region ?_   -- region 0
  refine wl_det rfl rfl (det_assign rfl) rfl ?_
  refine wl_nil ?_
  refine pn_then ?_
  refine wc_seq ?_
  refine wc_region ?_   -- region 1
  refine wl_det rfl rfl (det_move rfl) rfl ?_
  refine wl_det rfl rfl (det_move rfl) rfl ?_
  refine wl_det rfl rfl (det_neq rfl rfl) rfl ?_
  refine wl_det rfl rfl (det_assign rfl) rfl ?_
  refine wl_nil ?_
  refine pn_then ?_
  refine wc_ret ?_
  replace h := Option.some.inj h
  subst h
  refine pn_ret (vs := [_]) rfl ⟨rfl, trivial⟩ ⟨rfl, rfl, rfl⟩ (fun _ h => h.to trivial trivial)
def Q_cmp_Compare_uint64 (r : Int) : Value → List Ent → List Fact → Prop := fun v θ κ => v = .int .i64 r ∧ θ = [] ∧ κ = []
theorem plains_cmp_Compare_uint64 {r : Int} : ∀ v θ κ, Q_cmp_Compare_uint64 r v θ κ → Plains θ := by
  rintro _ _ _ ⟨rfl, rfl, rfl⟩
  exact trivial
set_option maxHeartbeats 4000000 in
set_option maxRecDepth 100000 in
theorem W_cmp_Compare_uint64 (a0 : Int) (a1 : Int) (r : Int) (h : cmp_Compare_uint64 a0 a1 = some r) : Spec Try.prog 84 [.int .u64 a0, .int .u64 a1] [] [] (Q_cmp_Compare_uint64 r) := by
  unfold cmp_Compare_uint64 at h
  refine spec_of (σ := [(0, _), (1, _)]) Try.func84 rfl rfl rfl rfl ?_
  intro C
  refine wc_seq ?_
  refine wc_region ?_   -- region 0
  refine wl_det rfl rfl (det_assign rfl) rfl ?_
  refine wl_nil ?_
  refine pn_then ?_
  refine wc_seq ?_
  refine wc_region ?_   -- region 1
  refine wl_det rfl rfl (det_move rfl) rfl ?_
  obtain ⟨r1_1, hr1_1, h⟩ := bind_some h
  refine wl_act (act_callS (cap := []) (W_cmp_isNaN_uint64 a0 r1_1 hr1_1) rfl rfl rfl bd89 rfl trivial) rfl rfl rfl ?_
  rintro _ _ _ ⟨_, _, ⟨rfl, rfl, rfl⟩, rfl, rfl⟩
  dsimp only [List.nil_append, List.cons_append]
  refine wl_det rfl rfl (det_assign rfl) rfl ?_
  refine wl_nil ?_
  refine pn_then ?_
  refine wc_seq ?_
  refine wc_region ?_   -- region 2
  refine wl_det rfl rfl (det_move rfl) rfl ?_
  obtain ⟨r2_1, hr2_1, h⟩ := bind_some h
  refine wl_act (act_callS (cap := []) (W_cmp_isNaN_uint64 a1 r2_1 hr2_1) rfl rfl rfl bd89 rfl trivial) rfl rfl rfl ?_
  rintro _ _ _ ⟨_, _, ⟨rfl, rfl, rfl⟩, rfl, rfl⟩
  dsimp only [List.nil_append, List.cons_append]
  refine wl_det rfl rfl (det_assign rfl) rfl ?_
  refine wl_nil ?_
  refine pn_then ?_
  refine wc_seq ?_
  refine wc_seq ?_
  refine wc_region ?_   -- region 3
  refine wl_det rfl rfl (det_move rfl) rfl ?_
  refine wl_nil ?_
  refine pn_then ?_
  refine wc_cond rfl (fun cd9 => ?_) (fun cd9 => ?_)
  · have h := ifT h cd9
    refine wc_seq ?_
    refine wc_seq ?_
    refine wc_region ?_   -- region 4
    refine wl_det rfl rfl (det_move rfl) rfl ?_
    refine wl_nil ?_
    refine pn_then ?_
    refine wc_cond rfl (fun cd13 => ?_) (fun cd13 => ?_)
    · have h := ifT h cd13
      refine wc_seq ?_
      refine wc_region ?_   -- region 5
      refine wl_det rfl rfl (det_assign rfl) rfl ?_
      refine wl_nil ?_
      refine pn_then ?_
      refine wc_ret ?_
      refine pr_then ?_
      refine pr_then ?_
      replace h := Option.some.inj h
      subst h
      refine pn_ret (vs := [_]) rfl ⟨rfl, trivial⟩ ⟨rfl, rfl, rfl⟩ (fun _ h => h.to trivial trivial)
    · have h := ifF h cd13
      refine wc_skip ?_
      refine pn_then ?_
      refine wc_seq ?_
      refine wc_region ?_   -- region 6
      refine wl_det rfl rfl (det_assign rfl) rfl ?_
      refine wl_nil ?_
      refine pn_then ?_
      refine wc_ret ?_
      refine pr_then ?_
      replace h := Option.some.inj h
      subst h
      refine pn_ret (vs := [_]) rfl ⟨rfl, trivial⟩ ⟨rfl, rfl, rfl⟩ (fun _ h => h.to trivial trivial)
  · have h := ifF h cd9
    refine wc_skip ?_
    refine pn_then ?_
    refine wc_seq ?_
    refine wc_seq ?_
    refine wc_region ?_   -- region 7
    refine wl_det rfl rfl (det_move rfl) rfl ?_
    refine wl_nil ?_
    refine pn_then ?_
    refine wc_cond rfl (fun cd21 => ?_) (fun cd21 => ?_)
    · have h := ifT h cd21
      refine wc_seq ?_
      refine wc_region ?_   -- region 8
      refine wl_det rfl rfl (det_assign rfl) rfl ?_
      refine wl_nil ?_
      refine pn_then ?_
      refine wc_ret ?_
      refine pr_then ?_
      replace h := Option.some.inj h
      subst h
      refine pn_ret (vs := [_]) rfl ⟨rfl, trivial⟩ ⟨rfl, rfl, rfl⟩ (fun _ h => h.to trivial trivial)
    · have h := ifF h cd21
      refine wc_skip ?_
      refine pn_then ?_
      refine wc_seq ?_
      refine wc_seq ?_
      refine wc_region ?_   -- region 9
      refine wl_det rfl rfl (det_move rfl) rfl ?_
      refine wl_det rfl rfl (det_move rfl) rfl ?_
      refine wl_det rfl rfl (det_lss rfl rfl) rfl ?_
      refine wl_nil ?_
      refine pn_then ?_
      refine wc_cond rfl (fun cd27 => ?_) (fun cd27 => ?_)
      · have h := ifT h cd27
        refine wc_seq ?_
        refine wc_region ?_   -- region 10
        refine wl_det rfl rfl (det_assign rfl) rfl ?_
        refine wl_nil ?_
        refine pn_then ?_
        refine wc_ret ?_
        refine pr_then ?_
        replace h := Option.some.inj h
        subst h
        refine pn_ret (vs := [_]) rfl ⟨rfl, trivial⟩ ⟨rfl, rfl, rfl⟩ (fun _ h => h.to trivial trivial)
      · have h := ifF h cd27
        refine wc_skip ?_
        refine pn_then ?_
        refine wc_seq ?_
        refine wc_seq ?_
        refine wc_region ?_   -- region 11
        refine wl_det rfl rfl (det_move rfl) rfl ?_
        refine wl_det rfl rfl (det_move rfl) rfl ?_
        refine wl_det rfl rfl (det_gtr rfl rfl) rfl ?_
        refine wl_nil ?_
        refine pn_then ?_
        refine wc_cond rfl (fun cd33 => ?_) (fun cd33 => ?_)
        · have h := ifT h cd33
          refine wc_seq ?_
          refine wc_region ?_   -- region 12
          refine wl_det rfl rfl (det_assign rfl) rfl ?_
          refine wl_nil ?_
          refine pn_then ?_
          refine wc_ret ?_
          refine pr_then ?_
          replace h := Option.some.inj h
          subst h
          refine pn_ret (vs := [_]) rfl ⟨rfl, trivial⟩ ⟨rfl, rfl, rfl⟩ (fun _ h => h.to trivial trivial)
        · have h := ifF h cd33
          refine wc_skip ?_
          refine pn_then ?_
          refine wc_seq ?_
          refine wc_region ?_   -- region 13
          refine wl_det rfl rfl (det_assign rfl) rfl ?_
          refine wl_nil ?_
          refine pn_then ?_
          refine wc_ret ?_
          replace h := Option.some.inj h
          subst h
          refine pn_ret (vs := [_]) rfl ⟨rfl, trivial⟩ ⟨rfl, rfl, rfl⟩ (fun _ h => h.to trivial trivial)
def Q_cmp_isNaN_int (r : Bool) : Value → List Ent → List Fact → Prop := fun v θ κ => v = .bool r ∧ θ = [] ∧ κ = []
theorem plains_cmp_isNaN_int {r : Bool} : ∀ v θ κ, Q_cmp_isNaN_int r v θ κ → Plains θ := by
  rintro _ _ _ ⟨rfl, rfl, rfl⟩
  exact trivial
set_option maxHeartbeats 4000000 in
set_option maxRecDepth 100000 in
theorem W_cmp_isNaN_int (a0 : Int) (r : Bool) (h : cmp_isNaN_int a0 = some r) : Spec Try.prog 90 [.int .i64 a0] [] [] (Q_cmp_isNaN_int r) := by
  unfold cmp_isNaN_int at h
  refine spec_of (σ := [(0, _)]) Try.func90 rfl rfl rfl rfl ?_
  intro C
  refine wc_seq ?_
  refine wc_region ?_   -- region 0
  refine wl_det rfl rfl (det_assign rfl) rfl ?_
  refine wl_nil ?_
  refine pn_then ?_
  refine wc_seq ?_
  refine wc_region ?_   -- region 1
  refine wl_det rfl rfl (det_move rfl) rfl ?_
  refine wl_det rfl rfl (det_move rfl) rfl ?_
  refine wl_det rfl rfl (det_neq rfl rfl) rfl ?_
  refine wl_det rfl rfl (det_assign rfl) rfl ?_
  refine wl_nil ?_
  refine pn_then ?_
  refine wc_ret ?_
  replace h := Option.some.inj h
  subst h
  refine pn_ret (vs := [_]) rfl ⟨rfl, trivial⟩ ⟨rfl, rfl, rfl⟩ (fun _ h => h.to trivial trivial)
def Q_cmp_Compare_int (r : Int) : Value → List Ent → List Fact → Prop := fun v θ κ => v = .int .i64 r ∧ θ = [] ∧ κ = []
theorem plains_cmp_Compare_int {r : Int} : ∀ v θ κ, Q_cmp_Compare_int r v θ κ → Plains θ := by
  rintro _ _ _ ⟨rfl, rfl, rfl⟩
  exact trivial
set_option maxHeartbeats 4000000 in
set_option maxRecDepth 100000 in
theorem W_cmp_Compare_int (a0 : Int) (a1 : Int) (r : Int) (h : cmp_Compare_int a0 a1 = some r) : Spec Try.prog 85 [.int .i64 a0, .int .i64 a1] [] [] (Q_cmp_Compare_int r) := by
  unfold cmp_Compare_int at h
  refine spec_of (σ := [(0, _), (1, _)]) Try.func85 rfl rfl rfl rfl ?_
  intro C
  refine wc_seq ?_
  refine wc_region ?_   -- region 0
  refine wl_det rfl rfl (det_assign rfl) rfl ?_
  refine wl_nil ?_
  refine pn_then ?_
  refine wc_seq ?_
  refine wc_region ?_   -- region 1
  refine wl_det rfl rfl (det_move rfl) rfl ?_
  obtain ⟨r1_1, hr1_1, h⟩ := bind_some h
  refine wl_act (act_callS (cap := []) (W_cmp_isNaN_int a0 r1_1 hr1_1) rfl rfl rfl bd90 rfl trivial) rfl rfl rfl ?_
  rintro _ _ _ ⟨_, _, ⟨rfl, rfl, rfl⟩, rfl, rfl⟩
  dsimp only [List.nil_append, List.cons_append]
  refine wl_det rfl rfl (det_assign rfl) rfl ?_
  refine wl_nil ?_
  refine pn_then ?_
  refine wc_seq ?_
  refine wc_region ?_   -- region 2
  refine wl_det rfl rfl (det_move rfl) rfl ?_
  obtain ⟨r2_1, hr2_1, h⟩ := bind_some h
  refine wl_act (act_callS (cap := []) (W_cmp_isNaN_int a1 r2_1 hr2_1) rfl rfl rfl bd90 rfl trivial) rfl rfl rfl ?_
  rintro _ _ _ ⟨_, _, ⟨rfl, rfl, rfl⟩, rfl, rfl⟩
  dsimp only [List.nil_append, List.cons_append]
  refine wl_det rfl rfl (det_assign rfl) rfl ?_
  refine wl_nil ?_
  refine pn_then ?_
  refine wc_seq ?_
  refine wc_seq ?_
  refine wc_region ?_   -- region 3
  refine wl_det rfl rfl (det_move rfl) rfl ?_
  refine wl_nil ?_
  refine pn_then ?_
  refine wc_cond rfl (fun cd9 => ?_) (fun cd9 => ?_)
  · have h := ifT h cd9
    refine wc_seq ?_
    refine wc_seq ?_
    refine wc_region ?_   -- region 4
    refine wl_det rfl rfl (det_move rfl) rfl ?_
    refine wl_nil ?_
    refine pn_then ?_
    refine wc_cond rfl (fun cd13 => ?_) (fun cd13 => ?_)
    · have h := ifT h cd13
      refine wc_seq ?_
      refine wc_region ?_   -- region 5
      refine wl_det rfl rfl (det_assign rfl) rfl ?_
      refine wl_nil ?_
      refine pn_then ?_
      refine wc_ret ?_
      refine pr_then ?_
      refine pr_then ?_
      replace h := Option.some.inj h
      subst h
      refine pn_ret (vs := [_]) rfl ⟨rfl, trivial⟩ ⟨rfl, rfl, rfl⟩ (fun _ h => h.to trivial trivial)
    · have h := ifF h cd13
      refine wc_skip ?_
      refine pn_then ?_
      refine wc_seq ?_
      refine wc_region ?_   -- region 6
      refine wl_det rfl rfl (det_assign rfl) rfl ?_
      refine wl_nil ?_
      refine pn_then ?_
      refine wc_ret ?_
      refine pr_then ?_
      replace h := Option.some.inj h
      subst h
      refine pn_ret (vs := [_]) rfl ⟨rfl, trivial⟩ ⟨rfl, rfl, rfl⟩ (fun _ h => h.to trivial trivial)
  · have h := ifF h cd9
    refine wc_skip ?_
    refine pn_then ?_
    refine wc_seq ?_
    refine wc_seq ?_
    refine wc_region ?_   -- region 7
    refine wl_det rfl rfl (det_move rfl) rfl ?_
    refine wl_nil ?_
    refine pn_then ?_
    refine wc_cond rfl (fun cd21 => ?_) (fun cd21 => ?_)
    · have h := ifT h cd21
      refine wc_seq ?_
      refine wc_region ?_   -- region 8
      refine wl_det rfl rfl (det_assign rfl) rfl ?_
      refine wl_nil ?_
      refine pn_then ?_
      refine wc_ret ?_
      refine pr_then ?_
      replace h := Option.some.inj h
      subst h
      refine pn_ret (vs := [_]) rfl ⟨rfl, trivial⟩ ⟨rfl, rfl, rfl⟩ (fun _ h => h.to trivial trivial)
    · have h := ifF h cd21
      refine wc_skip ?_
      refine pn_then ?_
      refine wc_seq ?_
      refine wc_seq ?_
      refine wc_region ?_   -- region 9
      refine wl_det rfl rfl (det_move rfl) rfl ?_
      refine wl_det rfl rfl (det_move rfl) rfl ?_
      refine wl_det rfl rfl (det_lss rfl rfl) rfl ?_
      refine wl_nil ?_
      refine pn_then ?_
      refine wc_cond rfl (fun cd27 => ?_) (fun cd27 => ?_)
      · have h := ifT h cd27
        refine wc_seq ?_
        refine wc_region ?_   -- region 10
        refine wl_det rfl rfl (det_assign rfl) rfl ?_
        refine wl_nil ?_
        refine pn_then ?_
        refine wc_ret ?_
        refine pr_then ?_
        replace h := Option.some.inj h
        subst h
        refine pn_ret (vs := [_]) rfl ⟨rfl, trivial⟩ ⟨rfl, rfl, rfl⟩ (fun _ h => h.to trivial trivial)
      · have h := ifF h cd27
        refine wc_skip ?_
        refine pn_then ?_
        refine wc_seq ?_
        refine wc_seq ?_
        refine wc_region ?_   -- region 11
        refine wl_det rfl rfl (det_move rfl) rfl ?_
        refine wl_det rfl rfl (det_move rfl) rfl ?_
        refine wl_det rfl rfl (det_gtr rfl rfl) rfl ?_
        refine wl_nil ?_
        refine pn_then ?_
        refine wc_cond rfl (fun cd33 => ?_) (fun cd33 => ?_)
        · have h := ifT h cd33
          refine wc_seq ?_
          refine wc_region ?_   -- region 12
          refine wl_det rfl rfl (det_assign rfl) rfl ?_
          refine wl_nil ?_
          refine pn_then ?_
          refine wc_ret ?_
          refine pr_then ?_
          replace h := Option.some.inj h
          subst h
          refine pn_ret (vs := [_]) rfl ⟨rfl, trivial⟩ ⟨rfl, rfl, rfl⟩ (fun _ h => h.to trivial trivial)
        · have h := ifF h cd33
          refine wc_skip ?_
          refine pn_then ?_
          refine wc_seq ?_
          refine wc_region ?_   -- region 13
          refine wl_det rfl rfl (det_assign rfl) rfl ?_
          refine wl_nil ?_
          refine pn_then ?_
          refine wc_ret ?_
          replace h := Option.some.inj h
          subst h
          refine pn_ret (vs := [_]) rfl ⟨rfl, trivial⟩ ⟨rfl, rfl, rfl⟩ (fun _ h => h.to trivial trivial)
def Q_cmp_Or_int (r : Int) : Value → List Ent → List Fact → Prop := fun v θ κ => v = .int .i64 r ∧ θ = [] ∧ κ = []
theorem plains_cmp_Or_int {r : Int} : ∀ v θ κ, Q_cmp_Or_int r v θ κ → Plains θ := by
  rintro _ _ _ ⟨rfl, rfl, rfl⟩
  exact trivial
set_option maxHeartbeats 4000000 in
set_option maxRecDepth 100000 in
theorem W_cmp_Or_int (a0 : (List Int)) (A0 : Option Addr) (n0 : Nat) (c0 : Nat) (r : Int) (h : cmp_Or_int a0 = some r) : Spec Try.prog 83 [.slice A0 n0 c0] [] [fV (lSlice (lInt .i64)) (.slice A0 n0 c0) a0] (Q_cmp_Or_int r) := by
  unfold cmp_Or_int at h
  refine spec_of (σ := [(0, _)]) Try.func83 rfl rfl rfl rfl ?_
  intro C
  refine wc_know (fun _ h => h.lenF m0) (fun e => ?_)
  subst e
  refine wc_seq ?_
  refine wc_region ?_   -- region 0
  refine wl_det rfl rfl (det_assign rfl) rfl ?_
  refine wl_nil ?_
  refine pn_then ?_
  refine wc_seq ?_
  refine wc_region ?_   -- region 1
  refine wl_det rfl rfl (det_assign rfl) rfl ?_
  refine wl_nil ?_
  refine pn_then ?_
  obtain ⟨q4, h, ho4⟩ := bind_some h
  refine wc_meetG (G := Unit × Unit) (fun (s4, _) => (.inl s4) = q4) (fun (_, _) => [(3, .int .i64 0)]) (fun (_, _) => []) (fun (_, _) => []) ?_ ?_
  · refine wc_seq ?_
    refine wc_region ?_   -- region 2
    refine wl_det rfl rfl (det_move rfl) rfl ?_
    refine wl_det rfl rfl (det_len rfl un23) rfl ?_
    refine wl_det rfl rfl (det_move rfl) rfl ?_
    refine wl_nil ?_
    refine pn_then ?_
    refine wc_block ?_
    obtain ⟨o8, h, ho8⟩ := bind_some h
    obtain ⟨k8, hk8⟩ := loopV_some.1 h
    refine wc_loop (G := Nat × Int × Unit) (fun g => IterN (cmp_Or_int_l8 a0) g.1 g.2.1 o8) (fun g => g.1) (fun (_, s8, _) => [(3, .int .i64 0), (6, .slice A0 a0.length c0), (7, .int .i64 (a0.length : Int)), (8, .int .i64 s8)]) (fun (_, _, _) => []) (fun (_, _, _) => [fV (lSlice (lInt .i64)) (.slice A0 a0.length c0) a0]) (k8, 0, ()) hk8 ⟨rfl, rfl, rfl, rfl, trivial⟩ (fun _ h => h.to trivial ⟨m0, trivial⟩) ?_
    rintro ⟨k8, s8, _⟩ hI
    obtain ⟨k8, rfl, q8, h, g8⟩ := IterN.pos hI
    dsimp only at h ⊢
    unfold cmp_Or_int_l8 at h
    refine wc_seq ?_
    refine wc_region ?_   -- region 3
    refine wl_det rfl rfl (det_lss rfl rfl) rfl ?_
    refine wl_nil ?_
    refine pn_then ?_
    refine wc_seq ?_
    refine wc_cond rfl (fun cd12 => ?_) (fun cd12 => ?_)
    · have h := ifT h cd12
      refine wc_skip ?_
      refine pn_then ?_
      refine wc_seq ?_
      refine wc_block ?_
      refine wc_seq ?_
      refine wc_region ?_   -- region 4
      obtain ⟨k4_0, h⟩ := chk_some h
      refine wl_st (fun _ h => h.openF m0 k4_0) ?_
      refine wl_det rfl rfl (det_indexP rfl rfl (ms m0) k4_0 m0 un23 sz3) rfl ?_
      refine wl_det rfl rfl (det_loadP (off := 0) rfl m0 (by rfl) (by rfl) (loaded_1 na3 us3)) rfl ?_
      refine wl_det rfl rfl (det_assign rfl) rfl ?_
      refine wl_nil ?_
      refine pn_then ?_
      refine wc_seq ?_
      refine wc_region ?_   -- region 5
      refine wl_det rfl rfl (det_move rfl) rfl ?_
      refine wl_det rfl rfl (det_move rfl) rfl ?_
      refine wl_det rfl rfl (det_neq rfl rfl) rfl ?_
      refine wl_nil ?_
      refine pn_then ?_
      refine wc_cond rfl (fun cd20 => ?_) (fun cd20 => ?_)
      · have h := ifT h cd20
        refine wc_seq ?_
        refine wc_region ?_   -- region 6
        refine wl_det rfl rfl (det_move rfl) rfl ?_
        refine wl_det rfl rfl (det_assign rfl) rfl ?_
        refine wl_nil ?_
        refine pn_then ?_
        refine wc_ret ?_
        refine pr_block ?_
        refine pr_then ?_
        refine pr_then ?_
        refine pr_block ?_
        refine pr_then ?_
        replace h := Option.some.inj h
        subst h
        replace g8 := nextR g8
        subst g8
        have h := (elimL ho8)
        replace h := Option.some.inj h
        subst h
        have h := (elimR ho4)
        replace h := Option.some.inj h
        subst h
        refine pn_ret (vs := [_]) rfl ⟨rfl, trivial⟩ ⟨rfl, rfl, rfl⟩ (fun _ h => h.to trivial trivial)
      · have h := ifF h cd20
        refine wc_skip ?_
        refine pn_block ?_
        refine pn_then ?_
        refine wc_region ?_   -- region 7
        refine wl_det rfl rfl (det_add rfl rfl) rfl ?_
        refine wl_det rfl rfl (det_move rfl) rfl ?_
        refine wl_nil ?_
        replace h := Option.some.inj h
        subst h
        exact pn_some (k8, (w64 (s8 + 1)), ()) ⟨nextL g8, Nat.lt_succ_self _⟩ ⟨rfl, rfl, rfl, rfl, trivial⟩ (fun _ h => h.to trivial ⟨(ms m0), trivial⟩)
    · have h := ifF h cd12
      refine wc_exit ?_
      refine px_then ?_
      refine px_then ?_
      refine px_block ?_
      replace h := Option.some.inj h
      subst h
      replace g8 := nextR g8
      subst g8
      have h := (elimR ho8)
      replace h := Option.some.inj h
      subst h
      exact pn_meetG ((), ()) rfl ⟨rfl, trivial⟩ (fun _ h => h.to trivial trivial)
  rintro ⟨s4, _⟩ e4
  dsimp only at e4 ⊢
  subst e4
  have h := (elimL ho4)
  refine wc_seq ?_
  refine wc_region ?_   -- region 8
  refine wl_det rfl rfl (det_move rfl) rfl ?_
  refine wl_det rfl rfl (det_assign rfl) rfl ?_
  refine wl_nil ?_
  refine pn_then ?_
  refine wc_ret ?_
  replace h := Option.some.inj h
  subst h
  refine pn_ret (vs := [_]) rfl ⟨rfl, trivial⟩ ⟨rfl, rfl, rfl⟩ (fun _ h => h.to trivial trivial)
def Q_split_divide_c1 (Ba2 : Nat) (A1 : Option Addr) (n1 : Nat) (c1 : Nat) (r : Int) : Value → List Ent → List Fact → Prop := fun v θ κ => v = .int .i64 r ∧ θ = [eBlk Ba2 99 [.slice A1 n1 c1]] ∧ κ = []
theorem plains_split_divide_c1 {Ba2 : Nat} {A1 : Option Addr} {n1 : Nat} {c1 : Nat} {r : Int} : ∀ v θ κ, Q_split_divide_c1 Ba2 A1 n1 c1 r v θ κ → Plains θ := by
  rintro _ _ _ ⟨rfl, rfl, rfl⟩
  exact ⟨plain_eBlk, trivial⟩
set_option maxHeartbeats 4000000 in
set_option maxRecDepth 100000 in
theorem W_split_divide_c1 (a0 : Int) (a1 : Int) (a2 : (List Int)) (Ba2 : Nat) (A1 : Option Addr) (n1 : Nat) (c1 : Nat) (r : Int) (h : split_divide_c1 a0 a1 a2 = some r) : Spec Try.prog 82 [.int .i64 a0, .int .i64 a1, .pointer (some ⟨Ba2, 0, none⟩)] [eBlk Ba2 99 [.slice A1 n1 c1]] [fV (lSlice (lInt .u64)) (.slice A1 n1 c1) a2] (Q_split_divide_c1 Ba2 A1 n1 c1 r) := by
  unfold split_divide_c1 at h
  refine spec_of (σ := [(0, _), (1, _), (2, _)]) Try.func82 rfl rfl rfl rfl ?_
  intro C
  refine wc_know (fun _ h => h.lenF m0) (fun e => ?_)
  subst e
  refine wc_seq ?_
  refine wc_region ?_   -- region 0
  refine wl_det rfl rfl (det_assign rfl) rfl ?_
  refine wl_nil ?_
  refine pn_then ?_
  refine wc_seq ?_
  obtain ⟨k1_p1, h⟩ := chk_some h
  refine wc_st (fun _ h => h.openF m0 k1_p1) ?_
  obtain ⟨k1_p3, h⟩ := chk_some h
  refine wc_st (fun _ h => h.openF (ms m0) k1_p3) ?_
  refine dx_region 14 [[], [], [0, 1], [0, 1, 2], [], [], [4, 5], [4, 5, 6], [0, 1, 2, 3, 4, 5, 6, 7], [], [], [0, 1, 2, 3, 4, 5, 6, 7, 8, 9, 10], [0, 1, 2, 3, 4, 5, 6, 7, 8, 9, 10, 11], [0, 1, 2, 3, 4, 5, 6, 7, 8, 9, 10, 11, 12], [0, 1, 2, 3, 4, 5, 6, 7, 8, 9, 10, 11, 12, 13]] mixed (ord := (.det 0 (.det 1 (.det 2 (.det 3 (.det 4 (.det 5 (.det 6 (.det 7 (.det 9 (.det 10 (.alt 8 (.alt 11 (.alt 12 (.alt 13 .done .dead) .dead) .dead) .dead)))))))))))) (by kernel_rfl) ?_   -- region 1
  refine hx_det rfl rfl rfl nofun (det_load rfl m0 (by rfl) na99 us99) rfl ?_
  refine hx_det rfl rfl rfl nofun (det_move rfl) rfl ?_
  refine hx_det rfl rfl rfl nofun (det_indexP rfl rfl (ms (ms m0)) k1_p1 (ms m0) un99 sz100) rfl ?_
  refine hx_det rfl rfl rfl nofun (det_loadP (off := 0) rfl (ms m0) (by rfl) (by rfl) (loaded_1 na100 us100)) rfl ?_
  refine hx_det rfl rfl rfl nofun (det_load rfl m0 (by rfl) na99 us99) rfl ?_
  refine hx_det rfl rfl rfl nofun (det_move rfl) rfl ?_
  refine hx_det rfl rfl rfl nofun (det_indexP rfl rfl (ms (ms m0)) k1_p3 m0 un99 sz100) rfl ?_
  refine hx_det rfl rfl rfl nofun (det_loadP (off := 0) rfl m0 (by rfl) (by rfl) (loaded_1 na100 us100)) rfl ?_
  refine hx_det rfl rfl rfl nofun (det_move rfl) rfl ?_
  refine hx_det rfl rfl rfl nofun (det_move rfl) rfl ?_
  obtain ⟨r1_8, hr1_8, h⟩ := bind_some h
  refine hx_act rfl rfl rfl (act_callS (cap := []) (W_cmp_Compare_uint64 (ix a2 a1) (ix a2 a0) r1_8 hr1_8) rfl rfl rfl bd84 rfl trivial) rfl (by rintro _ _ _ ⟨_, _, _, rfl, rfl⟩; first | exact ⟨_, _, rfl, rfl⟩ | exact ⟨_, [], rfl, rfl⟩) ?_
  rintro _ _ _ ⟨_, _, ⟨rfl, rfl, rfl⟩, rfl, rfl⟩
  dsimp only [List.nil_append, List.cons_append]
  obtain ⟨r1_11, hr1_11, h⟩ := bind_some h
  refine hx_act rfl rfl rfl (act_callS (cap := []) (W_cmp_Compare_int a0 a1 r1_11 hr1_11) rfl rfl rfl bd85 rfl trivial) rfl (by rintro _ _ _ ⟨_, _, _, rfl, rfl⟩; first | exact ⟨_, _, rfl, rfl⟩ | exact ⟨_, [], rfl, rfl⟩) ?_
  rintro _ _ _ ⟨_, _, ⟨rfl, rfl, rfl⟩, rfl, rfl⟩
  dsimp only [List.nil_append, List.cons_append]
  refine hx_act rfl rfl rfl (act_litS (lInt .i64) (vs := [_, _]) (cs := [_, _]) [r1_8, r1_11] un23 in3 rfl rfl rfl rfl rfl ⟨rfl, rfl, trivial⟩ (by rfl) rfl (litR_flat rfl)) rfl (by rintro _ _ _ ⟨A1_12, rfl, rfl, rfl⟩; first | exact ⟨_ :: [], [], rfl, rfl⟩ | exact ⟨[], [_], rfl, rfl⟩ | exact ⟨[], [], rfl, rfl⟩) ?_
  rintro _ _ _ ⟨A1_12, rfl, rfl, rfl⟩
  obtain ⟨r1_13, hr1_13, h⟩ := bind_some h
  refine hx_act rfl rfl rfl (act_callL (cap := []) [eS (lInt .i64) 3 A1_12 2 2 [r1_8, r1_11]] (W_cmp_Or_int [r1_8, r1_11] A1_12 2 2 r1_13 hr1_13) plains_cmp_Or_int rfl rfl rfl bd83 rfl ⟨m0, trivial⟩ ⟨.inr ⟨_, m0, lent_eS⟩, trivial⟩) rfl (by rintro _ _ _ ⟨_, _, _, rfl, rfl⟩; first | exact ⟨_, _, rfl, rfl⟩ | exact ⟨_, [], rfl, rfl⟩) ?_
  rintro _ _ _ ⟨_, _, ⟨rfl, rfl, rfl⟩, rfl, rfl⟩
  dsimp only [List.nil_append, List.cons_append]
  refine hx_end ?_
  refine wl_det rfl rfl (det_assign rfl) rfl ?_
  refine wl_nil ?_
  refine pn_then ?_
  refine wc_ret ?_
  replace h := Option.some.inj h
  subst h
  refine pn_ret (vs := [_]) rfl ⟨rfl, trivial⟩ ⟨rfl, rfl, rfl⟩ (fun _ h => h.to ⟨_, (rs r0), trivial⟩ trivial)
def Q_slices_SortFunc_s_int_int_o_split_divide_c1 (A0 : Option Addr) (n0 : Nat) (c0 : Nat) (Ba1_0 : Nat) (A4 : Option Addr) (n4 : Nat) (c4 : Nat) (r : (List Int)) : Value → List Ent → List Fact → Prop := fun v θ κ => v = .tuple #[] ∧ θ = [eS (lInt .i64) 3 A0 n0 c0 r, eBlk Ba1_0 99 [.slice A4 n4 c4]] ∧ κ = []
theorem plains_slices_SortFunc_s_int_int_o_split_divide_c1 {A0 : Option Addr} {n0 : Nat} {c0 : Nat} {Ba1_0 : Nat} {A4 : Option Addr} {n4 : Nat} {c4 : Nat} {r : (List Int)} : ∀ v θ κ, Q_slices_SortFunc_s_int_int_o_split_divide_c1 A0 n0 c0 Ba1_0 A4 n4 c4 r v θ κ → Plains θ := by
  rintro _ _ _ ⟨rfl, rfl, rfl⟩
  exact ⟨plain_eS, plain_eBlk, trivial⟩
theorem W_slices_SortFunc_s_int_int_o_split_divide_c1 (a0 : (List Int)) (a1_0 : (List Int)) (A0 : Option Addr) (n0 : Nat) (c0 : Nat) (Ba1_0 : Nat) (A4 : Option Addr) (n4 : Nat) (c4 : Nat) (r : (List Int)) (h : slices_SortFunc_s_int_int_o_split_divide_c1 a0 a1_0 = some r) : Spec Try.prog 86 [.slice A0 n0 c0, .func (.func 82) #[] #[.pointer (some ⟨Ba1_0, 0, none⟩)]] [eS (lInt .i64) 3 A0 n0 c0 a0, eBlk Ba1_0 99 [.slice A4 n4 c4]] [fV (lSlice (lInt .u64)) (.slice A4 n4 c4) a1_0] (Q_slices_SortFunc_s_int_int_o_split_divide_c1 A0 n0 c0 Ba1_0 A4 n4 c4 r) :=
  spec_sort1 (ρ := Try.sort86_ren) Try.sort86 rfl (fun _ => rfl) (cap := [.pointer (some ⟨Ba1_0, 0, none⟩)]) (θ₀ := [eBlk Ba1_0 99 [.slice A4 n4 c4]]) bd82 ⟨⟨_, _, _, rfl⟩, trivial⟩ (fun x y r h => W_split_divide_c1 x y a1_0 Ba1_0 A4 n4 c4 r h) h A0 n0 c0
def Q_split_divide (r : (List Int)) : Value → List Ent → List Fact → Prop := fun v θ κ => ∃ (pA0 : Option Addr), ∃ (pn0 : Nat), ∃ (pc0 : Nat), v = .slice pA0 pn0 pc0 ∧ θ = [eS (lInt .i64) 3 pA0 pn0 pc0 r] ∧ κ = []
theorem plains_split_divide {r : (List Int)} : ∀ v θ κ, Q_split_divide r v θ κ → Plains θ := by
  rintro _ _ _ ⟨_, _, _, rfl, rfl, rfl⟩
  exact ⟨plain_eS, trivial⟩
set_option maxHeartbeats 4000000 in
set_option maxRecDepth 100000 in
theorem W_split_divide (a0 : Int) (a1 : (List Int)) (a2 : Int) (A0 : Option Addr) (n0 : Nat) (c0 : Nat) (r : (List Int)) (h : split_divide a0 a1 a2 = some r) : Spec Try.prog 68 [.int .i64 a0, .slice A0 n0 c0, .int .i64 a2] [] [fV (lSlice (lInt .i64)) (.slice A0 n0 c0) a1] (Q_split_divide r) := by
  unfold split_divide at h
  refine spec_of (σ := [(0, _), (1, _), (2, _)]) Try.func68 rfl rfl rfl rfl ?_
  intro C
  refine wc_know (fun _ h => h.lenF m0) (fun e => ?_)
  subst e
  refine wc_seq ?_
  refine wc_region ?_   -- region 0
  refine wl_det rfl rfl (det_assign rfl) rfl ?_
  refine wl_nil ?_
  refine pn_then ?_
  refine wc_seq ?_
  refine wc_region ?_   -- region 1
  refine wl_det rfl rfl (det_move rfl) rfl ?_
  refine wl_det rfl rfl (det_len rfl un23) rfl ?_
  obtain ⟨k1_2, h⟩ := chk_some h
  obtain ⟨k1_2a, h⟩ := chk_some h
  refine wl_act (act_makeS (L := (lInt .i64)) (x0 := (0 : Int)) rfl rfl un23 in3 (by refine ⟨rfl, fun _ _ => ?_⟩; first | exact rfl | exact ⟨_, _, _, rfl, rfl, Nat.zero_le _, .inl rfl⟩) rfl rfl k1_2 (decide_eq_true (Int.le_refl _)) k1_2a) rfl rfl rfl ?_
  rintro _ _ _ ⟨A1_2, c1_2, rfl, rfl, rfl⟩
  refine wl_det rfl rfl (det_assign rfl) rfl ?_
  refine wl_nil ?_
  refine pn_then ?_
  refine wc_seq ?_
  refine wc_region ?_   -- region 2
  refine wl_det rfl rfl (det_move rfl) rfl ?_
  refine wl_det rfl rfl (det_len rfl un23) rfl ?_
  refine wl_act (act_makeS (L := (lInt .u64)) (x0 := (0 : Int)) rfl rfl un99 in100 (by refine ⟨rfl, fun _ _ => ?_⟩; first | exact rfl | exact ⟨_, _, _, rfl, rfl, Nat.zero_le _, .inl rfl⟩) rfl rfl k1_2 (decide_eq_true (Int.le_refl _)) k1_2a) rfl rfl rfl ?_
  rintro _ _ _ ⟨A2_2, c2_2, rfl, rfl, rfl⟩
  refine wl_act (act_alloc (cs := [_]) zr99 rfl) rfl rfl rfl ?_
  rintro _ _ _ ⟨b2_3, rfl, rfl, rfl⟩
  refine wl_act0 (act_store (cells := [_]) (cs' := [_]) rfl rfl rfl s0 (by rfl) (of_decide_eq_true rfl) sz99 ⟨rfl, trivial⟩) rfl rfl ?_
  rintro _ _ _ ⟨rfl, rfl⟩
  refine wl_nil ?_
  refine pn_then ?_
  refine wc_seq ?_
  refine wc_region ?_   -- region 3
  refine wl_det rfl rfl (det_move rfl) rfl ?_
  refine wl_det rfl rfl (det_len rfl un23) rfl ?_
  refine wl_act (act_makeS (L := (lInt .i64)) (x0 := (0 : Int)) rfl rfl un23 in3 (by refine ⟨rfl, fun _ _ => ?_⟩; first | exact rfl | exact ⟨_, _, _, rfl, rfl, Nat.zero_le _, .inl rfl⟩) rfl rfl k1_2 (decide_eq_true (Int.le_refl _)) k1_2a) rfl rfl rfl ?_
  rintro _ _ _ ⟨A3_2, c3_2, rfl, rfl, rfl⟩
  refine wl_det rfl rfl (det_assign rfl) rfl ?_
  refine wl_nil ?_
  refine pn_then ?_
  refine wc_seq ?_
  refine wc_region ?_   -- region 4
  refine wl_det rfl rfl (det_move rfl) rfl ?_
  refine wl_det rfl rfl (det_assign rfl) rfl ?_
  refine wl_nil ?_
  refine pn_then ?_
  obtain ⟨q10, h, ho10⟩ := bind_some h
  refine wc_meetG (G := ((List Int) × (List Int) × (List Int) × Int) × Unit) (fun (s10, _) => s10 = q10) (fun (s10, _) => [(7, .slice A1_2 (List.replicate (a1.length : Int).toNat (0 : Int)).length c1_2), (8, .pointer (some ⟨b2_3, 0, none⟩)), (9, .slice A3_2 (List.replicate (a1.length : Int).toNat (0 : Int)).length c3_2), (10, .int .i64 s10.2.2.2)]) (fun (s10, _) => [eS (lInt .i64) 3 A1_2 (List.replicate (a1.length : Int).toNat (0 : Int)).length c1_2 s10.1, eBlk b2_3 99 [.slice A2_2 (List.replicate (a1.length : Int).toNat (0 : Int)).length c2_2], eS (lInt .u64) 100 A2_2 (List.replicate (a1.length : Int).toNat (0 : Int)).length c2_2 s10.2.1, eS (lInt .i64) 3 A3_2 (List.replicate (a1.length : Int).toNat (0 : Int)).length c3_2 s10.2.2.1]) (fun (_, _) => []) ?_ ?_
  · refine wc_seq ?_
    refine wc_region ?_   -- region 5
    refine wl_det rfl rfl (det_move rfl) rfl ?_
    refine wl_det rfl rfl (det_len rfl un23) rfl ?_
    refine wl_det rfl rfl (det_move rfl) rfl ?_
    refine wl_nil ?_
    refine pn_then ?_
    refine wc_block ?_
    obtain ⟨k14, hk14⟩ := loopV_some.1 h
    refine wc_loop (G := Nat × ((List Int) × (List Int) × (List Int) × Int × Int) × Unit) (fun g => IterN (split_divide_l14 a0 a1 a2) g.1 g.2.1 q10) (fun g => g.1) (fun (_, s14, _) => [(0, .int .i64 a0), (2, .int .i64 a2), (7, .slice A1_2 (List.replicate (a1.length : Int).toNat (0 : Int)).length c1_2), (8, .pointer (some ⟨b2_3, 0, none⟩)), (9, .slice A3_2 (List.replicate (a1.length : Int).toNat (0 : Int)).length c3_2), (10, .int .i64 s14.2.2.2.1), (30, .slice A0 a1.length c0), (31, .int .i64 (a1.length : Int)), (32, .int .i64 s14.2.2.2.2)]) (fun (_, s14, _) => [eS (lInt .i64) 3 A1_2 (List.replicate (a1.length : Int).toNat (0 : Int)).length c1_2 s14.1, eBlk b2_3 99 [.slice A2_2 (List.replicate (a1.length : Int).toNat (0 : Int)).length c2_2], eS (lInt .u64) 100 A2_2 (List.replicate (a1.length : Int).toNat (0 : Int)).length c2_2 s14.2.1, eS (lInt .i64) 3 A3_2 (List.replicate (a1.length : Int).toNat (0 : Int)).length c3_2 s14.2.2.1]) (fun (_, _, _) => [fV (lSlice (lInt .i64)) (.slice A0 a1.length c0) a1]) (k14, ((List.replicate (a1.length : Int).toNat (0 : Int)), (List.replicate (a1.length : Int).toNat (0 : Int)), (List.replicate (a1.length : Int).toNat (0 : Int)), a0, 0), ()) hk14 ⟨rfl, rfl, rfl, rfl, rfl, rfl, rfl, rfl, rfl, trivial⟩ (fun _ h => h.to ⟨_, (rs (rs (rs r0))), ⟨_, (rs r0), ⟨_, (rs r0), ⟨_, r0, trivial⟩⟩⟩⟩ ⟨m0, trivial⟩) ?_
    rintro ⟨k14, s14, _⟩ hI
    obtain ⟨k14, rfl, q14, h, g14⟩ := IterN.pos hI
    dsimp only at h ⊢
    unfold split_divide_l14 at h
    refine wc_seq ?_
    refine wc_region ?_   -- region 6
    refine wl_det rfl rfl (det_lss rfl rfl) rfl ?_
    refine wl_nil ?_
    refine pn_then ?_
    refine wc_seq ?_
    refine wc_cond rfl (fun cd18 => ?_) (fun cd18 => ?_)
    · have h := ifT h cd18
      refine wc_skip ?_
      refine pn_then ?_
      refine wc_seq ?_
      refine wc_block ?_
      refine wc_seq ?_
      refine wc_region ?_   -- region 7
      refine wl_det rfl rfl (det_move rfl) rfl ?_
      obtain ⟨k7_1, h⟩ := chk_some h
      refine wl_st (fun _ h => h.openF m0 k7_1) ?_
      refine wl_det rfl rfl (det_indexP rfl rfl (ms m0) k7_1 m0 un23 sz3) rfl ?_
      refine wl_det rfl rfl (det_loadP (off := 0) rfl m0 (by rfl) (by rfl) (loaded_1 na3 us3)) rfl ?_
      refine wl_det rfl rfl (det_assign rfl) rfl ?_
      refine wl_det rfl rfl (det_assign rfl) rfl ?_
      refine wl_nil ?_
      refine pn_then ?_
      refine wc_seq ?_
      refine wc_region ?_   -- region 8
      refine wl_det rfl rfl (det_move rfl) rfl ?_
      refine wl_det rfl rfl (det_conv rfl us3 un100) rfl ?_
      refine wl_det rfl rfl (det_move rfl) rfl ?_
      refine wl_det rfl rfl (det_conv rfl us3 un100) rfl ?_
      obtain ⟨r8_4, hr8_4, h⟩ := bind_some h
      refine wl_act (act_callS (cap := []) (W_bits_Mul64 (u64 a0) (u64 (ix a1 s14.2.2.2.2)) r8_4 hr8_4) rfl rfl rfl bd80 rfl trivial) rfl rfl rfl ?_
      rintro _ _ _ ⟨_, _, ⟨rfl, rfl, rfl⟩, rfl, rfl⟩
      dsimp only [List.nil_append, List.cons_append]
      refine wl_det rfl rfl (det_move rfl) rfl ?_
      refine wl_det rfl rfl (det_extract rfl rfl) rfl ?_
      refine wl_det rfl rfl (det_extract rfl rfl) rfl ?_
      refine wl_det rfl rfl (det_assign rfl) rfl ?_
      refine wl_det rfl rfl (det_assign rfl) rfl ?_
      refine wl_nil ?_
      refine pn_then ?_
      refine wc_seq ?_
      refine wc_region ?_   -- region 9
      refine wl_det rfl rfl (det_move rfl) rfl ?_
      refine wl_det rfl rfl (det_move rfl) rfl ?_
      refine wl_det rfl rfl (det_move rfl) rfl ?_
      refine wl_det rfl rfl (det_conv rfl us3 un100) rfl ?_
      obtain ⟨r9_4, hr9_4, h⟩ := bind_some h
      refine wl_act (act_callS (cap := []) (W_bits_Div64 r8_4.1 r8_4.2 (u64 a2) r9_4 hr9_4) rfl rfl rfl bd81 rfl trivial) rfl rfl rfl ?_
      rintro _ _ _ ⟨_, _, ⟨rfl, rfl, rfl⟩, rfl, rfl⟩
      dsimp only [List.nil_append, List.cons_append]
      refine wl_det rfl rfl (det_move rfl) rfl ?_
      refine wl_det rfl rfl (det_extract rfl rfl) rfl ?_
      refine wl_det rfl rfl (det_extract rfl rfl) rfl ?_
      refine wl_det rfl rfl (det_assign rfl) rfl ?_
      refine wl_det rfl rfl (det_assign rfl) rfl ?_
      refine wl_nil ?_
      refine pn_then ?_
      refine wc_seq ?_
      obtain ⟨k10_p1, h⟩ := chk_some h
      obtain ⟨k10_p2, h⟩ := chk_some h
      obtain ⟨k10_p3, h⟩ := chk_some h
      refine wc_know (fun _ h => h.ixA m0 k10_p1) (fun kx10_x4 => ?_)
      refine wc_know (fun _ h => h.ixA (ms (ms m0)) k10_p2) (fun kx10_x5 => ?_)
      refine dx_regionZ (Z := St C [_, _] [_, _]) 14 [[], [], [], [], [], [], [], [6], [], [], [0, 1, 6, 7], [0, 1, 6, 7, 10], [0, 1, 2, 3, 6, 7, 8, 10, 11], [0, 1, 2, 3, 6, 7, 8, 10, 11, 12], [0, 1, 2, 3, 4, 5, 6, 7, 8, 9, 10, 11, 12, 13], [0, 1, 2, 3, 4, 5, 6, 7, 8, 9, 10, 11, 12, 13, 14]] mixed (ord := (.det 0 (.det 1 (.det 2 (.det 3 (.det 4 (.det 5 (.det 6 (.det 7 (.det 8 (.det 9 (.det 10 (.alt 11 (.det 12 (.alt 13 .done .dead)) .dead))))))))))))) (by kernel_rfl) (fun _ h => h.to ⟨_, (rs r0), ⟨_, (rs (rs r0)), trivial⟩⟩ ⟨m0, ⟨(ms m0), trivial⟩⟩) ?_   -- region 10
      refine hx_det rfl rfl rfl nofun (det_move rfl) rfl ?_
      refine hx_det rfl rfl rfl nofun (det_move rfl) rfl ?_
      refine hx_det rfl rfl rfl nofun (det_load rfl m0 (by rfl) na99 us99) rfl ?_
      refine hx_det rfl rfl rfl nofun (det_move rfl) rfl ?_
      refine hx_det rfl rfl rfl nofun (det_move rfl) rfl ?_
      refine hx_det rfl rfl rfl nofun (det_move rfl) rfl ?_
      refine hx_det rfl rfl rfl nofun (det_move rfl) rfl ?_
      refine hx_det rfl rfl rfl nofun (det_conv rfl us100 un3) rfl ?_
      refine hx_det rfl rfl rfl nofun (det_move rfl) rfl ?_
      refine hx_det rfl rfl rfl nofun (det_move rfl) rfl ?_
      refine hx_det rfl rfl rfl nofun (det_indexV rfl rfl kx10_x4 un23 sz3) rfl ?_
      refine hx_mut0 rfl rfl rfl (act_storeO (cells := [_]) (off := 0) (w64 r9_4.1) rfl rfl rfl s0 k10_p1 (by rfl) sz3 (by intro u hu; simp at hu; rcases hu with rfl <;> rfl) (stR_flat rfl rfl)) (by rintro _ _ _ ⟨rfl, rfl⟩ w hs; exact hs.to ⟨_, (rs r0), ⟨_, (rs (rs r0)), trivial⟩⟩ ⟨m0, ⟨(ms m0), trivial⟩⟩) ?_
      rintro _ _ _ ⟨rfl, rfl⟩
      refine hx_det rfl rfl rfl nofun (det_indexV rfl rfl kx10_x5 un99 sz100) rfl ?_
      refine hx_mut0 rfl rfl rfl (act_storeO (cells := [_]) (off := 0) r9_4.2 rfl rfl rfl (ss (ss s0)) k10_p2 (by rfl) sz100 (by intro u hu; simp at hu; rcases hu with rfl <;> rfl) (stR_flat rfl rfl)) (by rintro _ _ _ ⟨rfl, rfl⟩ w hs; exact hs.to ⟨_, (rs r0), ⟨_, (rs (rs r0)), trivial⟩⟩ ⟨m0, ⟨(ms m0), trivial⟩⟩) ?_
      rintro _ _ _ ⟨rfl, rfl⟩
      refine hx_end ?_
      refine wl_det rfl rfl (det_indexO rfl rfl (ms (ms (ms m0))) k10_p3 un23 sz3) rfl ?_
      refine wl_act0 (act_storeO (cells := [_]) (off := 0) s14.2.2.2.2 rfl rfl rfl (ss (ss (ss s0))) k10_p3 (by rfl) sz3 (by intro u hu; simp at hu; rcases hu with rfl <;> rfl) (stR_flat rfl rfl)) rfl rfl ?_
      rintro _ _ _ ⟨rfl, rfl⟩
      refine wl_nil ?_
      refine pn_then ?_
      refine wc_region ?_   -- region 11
      refine wl_det rfl rfl (det_move rfl) rfl ?_
      refine wl_det rfl rfl (det_move rfl) rfl ?_
      refine wl_det rfl rfl (det_move rfl) rfl ?_
      refine wl_det rfl rfl (det_indexV rfl rfl kx10_x4 un23 sz3) rfl ?_
      obtain ⟨k11_4, h⟩ := chk_some h
      refine wl_det rfl rfl (det_loadO (off := 0) rfl m0 k11_4 (by rfl) (by rfl) (loaded_1 na3 us3)) rfl ?_
      refine wl_det rfl rfl (det_sub rfl rfl) rfl ?_
      refine wl_det rfl rfl (det_assign rfl) rfl ?_
      refine wl_nil ?_
      refine pn_block ?_
      refine pn_then ?_
      refine wc_region ?_   -- region 12
      refine wl_det rfl rfl (det_add rfl rfl) rfl ?_
      refine wl_det rfl rfl (det_move rfl) rfl ?_
      refine wl_nil ?_
      replace h := Option.some.inj h
      subst h
      exact pn_some (k14, ((upd s14.1 s14.2.2.2.2 (w64 r9_4.1)), (upd s14.2.1 s14.2.2.2.2 r9_4.2), (upd s14.2.2.1 s14.2.2.2.2 s14.2.2.2.2), (w64 (s14.2.2.2.1 - (ix (upd s14.1 s14.2.2.2.2 (w64 r9_4.1)) s14.2.2.2.2))), (w64 (s14.2.2.2.2 + 1))), ()) ⟨nextL g14, Nat.lt_succ_self _⟩ ⟨rfl, rfl, rfl, rfl, rfl, rfl, rfl, rfl, rfl, trivial⟩ (fun _ h => h.to ⟨_, r0, ⟨_, r0, ⟨_, r0, ⟨_, r0, trivial⟩⟩⟩⟩ ⟨(ms m0), trivial⟩)
    · have h := ifF h cd18
      refine wc_exit ?_
      refine px_then ?_
      refine px_then ?_
      refine px_block ?_
      replace h := Option.some.inj h
      subst h
      replace g14 := nextR g14
      subst g14
      exact pn_meetG ((s14.1, s14.2.1, s14.2.2.1, s14.2.2.2.1), ()) rfl ⟨rfl, rfl, rfl, rfl, trivial⟩ (fun _ h => h.to ⟨_, r0, ⟨_, r0, ⟨_, r0, ⟨_, r0, trivial⟩⟩⟩⟩ trivial)
  rintro ⟨s10, _⟩ e10
  dsimp only at e10 ⊢
  subst e10
  have h := ho10
  refine wc_seq ?_
  refine wc_region ?_   -- region 13
  refine wl_det rfl rfl (det_makeFunc rfl) rfl ?_
  refine wl_det rfl rfl (det_assign rfl) rfl ?_
  refine wl_nil ?_
  refine pn_then ?_
  refine wc_seq ?_
  refine wc_region ?_   -- region 14
  refine wl_det rfl rfl (det_move rfl) rfl ?_
  refine wl_det rfl rfl (det_move rfl) rfl ?_
  obtain ⟨r14_2, hr14_2, h⟩ := bind_some h
  refine wl_act (act_callL (cap := []) [eS (lInt .u64) 100 A2_2 (List.replicate (a1.length : Int).toNat (0 : Int)).length c2_2 s10.2.1] (W_slices_SortFunc_s_int_int_o_split_divide_c1 s10.2.2.1 s10.2.1 A3_2 (List.replicate (a1.length : Int).toNat (0 : Int)).length c3_2 b2_3 A2_2 (List.replicate (a1.length : Int).toNat (0 : Int)).length c2_2 r14_2 hr14_2) plains_slices_SortFunc_s_int_int_o_split_divide_c1 rfl rfl rfl bd86 ⟨_, (rs (rs (rs r0))), ⟨_, (rs r0), rfl⟩⟩ ⟨(ms m0), trivial⟩ ⟨.inr ⟨_, m0, lent_eS⟩, trivial⟩) rfl rfl rfl ?_
  rintro _ _ _ ⟨_, _, ⟨rfl, rfl, rfl⟩, rfl, rfl⟩
  dsimp only [List.nil_append, List.cons_append]
  refine wl_nil ?_
  refine pn_then ?_
  obtain ⟨q36, h, ho36⟩ := bind_some h
  refine wc_meetG (G := (List Int) × Unit) (fun (s36, _) => s36 = q36) (fun (_, _) => [(7, .slice A1_2 (List.replicate (a1.length : Int).toNat (0 : Int)).length c1_2)]) (fun (s36, _) => [eS (lInt .i64) 3 A1_2 (List.replicate (a1.length : Int).toNat (0 : Int)).length c1_2 s36]) (fun (_, _) => []) ?_ ?_
  · refine wc_seq ?_
    refine wc_region ?_   -- region 15
    refine wl_det rfl rfl (det_move rfl) rfl ?_
    refine wl_det rfl rfl (det_move rfl) rfl ?_
    refine wl_st (fun _ h => h.shutS r0) ?_
    obtain ⟨k15_2, h⟩ := chk_some h
    obtain ⟨k15_2a, h⟩ := chk_some h
    refine wl_act (act_sliceH rfl rfl m0 un23 sz3 rfl k15_2 k15_2a) rfl rfl rfl ?_
    rintro _ _ _ ⟨A15_2, c15_2, rfl, rfl, rfl⟩
    refine wl_det rfl rfl (det_len rfl un23) rfl ?_
    refine wl_det rfl rfl (det_move rfl) rfl ?_
    refine wl_nil ?_
    refine pn_then ?_
    refine wc_block ?_
    obtain ⟨k40, hk40⟩ := loopV_some.1 h
    refine wc_loop (G := Nat × ((List Int) × Int) × Unit) (fun g => IterN (split_divide_l40 s10 r14_2) g.1 g.2.1 q36) (fun g => g.1) (fun (_, s40, _) => [(7, .slice A1_2 (List.replicate (a1.length : Int).toNat (0 : Int)).length c1_2), (79, .slice A15_2 (r14_2.take s10.2.2.2.toNat).length c15_2), (80, .int .i64 ((r14_2.take s10.2.2.2.toNat).length : Int)), (81, .int .i64 s40.2)]) (fun (_, s40, _) => [eS (lInt .i64) 3 A1_2 (List.replicate (a1.length : Int).toNat (0 : Int)).length c1_2 s40.1]) (fun (_, _, _) => [fV (lSlice (lInt .i64)) (.slice A15_2 (r14_2.take s10.2.2.2.toNat).length c15_2) (r14_2.take s10.2.2.2.toNat)]) (k40, (s10.1, 0), ()) hk40 ⟨rfl, rfl, rfl, rfl, trivial⟩ (fun _ h => h.to ⟨_, (rs r0), trivial⟩ ⟨m0, trivial⟩) ?_
    rintro ⟨k40, s40, _⟩ hI
    obtain ⟨k40, rfl, q40, h, g40⟩ := IterN.pos hI
    dsimp only at h ⊢
    unfold split_divide_l40 at h
    refine wc_seq ?_
    refine wc_region ?_   -- region 16
    refine wl_det rfl rfl (det_lss rfl rfl) rfl ?_
    refine wl_nil ?_
    refine pn_then ?_
    refine wc_seq ?_
    refine wc_cond rfl (fun cd44 => ?_) (fun cd44 => ?_)
    · have h := ifT h cd44
      refine wc_skip ?_
      refine pn_then ?_
      refine wc_seq ?_
      refine wc_block ?_
      refine wc_seq ?_
      refine wc_region ?_   -- region 17
      obtain ⟨k17_0, h⟩ := chk_some h
      refine wl_st (fun _ h => h.openF m0 k17_0) ?_
      refine wl_det rfl rfl (det_indexP rfl rfl (ms m0) k17_0 m0 un23 sz3) rfl ?_
      refine wl_det rfl rfl (det_loadP (off := 0) rfl m0 (by rfl) (by rfl) (loaded_1 na3 us3)) rfl ?_
      refine wl_det rfl rfl (det_assign rfl) rfl ?_
      refine wl_nil ?_
      refine pn_then ?_
      refine wc_region ?_   -- region 18
      refine wl_det rfl rfl (det_move rfl) rfl ?_
      refine wl_det rfl rfl (det_move rfl) rfl ?_
      obtain ⟨k18_2, h⟩ := chk_some h
      refine wl_det rfl rfl (det_indexO rfl rfl m0 k18_2 un23 sz3) rfl ?_
      refine wl_det rfl rfl (det_loadO (off := 0) rfl m0 k18_2 (by rfl) (by rfl) (loaded_1 na3 us3)) rfl ?_
      refine wl_det rfl rfl (det_add rfl rfl) rfl ?_
      refine wl_det rfl rfl (det_indexO rfl rfl m0 k18_2 un23 sz3) rfl ?_
      refine wl_act0 (act_storeO (cells := [_]) (off := 0) (w64 ((ix s40.1 (ix (r14_2.take s10.2.2.2.toNat) s40.2)) + 1)) rfl rfl rfl s0 k18_2 (by rfl) sz3 (by intro u hu; simp at hu; rcases hu with rfl <;> rfl) (stR_flat rfl rfl)) rfl rfl ?_
      rintro _ _ _ ⟨rfl, rfl⟩
      refine wl_nil ?_
      refine pn_block ?_
      refine pn_then ?_
      refine wc_region ?_   -- region 19
      refine wl_det rfl rfl (det_add rfl rfl) rfl ?_
      refine wl_det rfl rfl (det_move rfl) rfl ?_
      refine wl_nil ?_
      replace h := Option.some.inj h
      subst h
      exact pn_some (k40, ((upd s40.1 (ix (r14_2.take s10.2.2.2.toNat) s40.2) (w64 ((ix s40.1 (ix (r14_2.take s10.2.2.2.toNat) s40.2)) + 1))), (w64 (s40.2 + 1))), ()) ⟨nextL g40, Nat.lt_succ_self _⟩ ⟨rfl, rfl, rfl, rfl, trivial⟩ (fun _ h => h.to ⟨_, r0, trivial⟩ ⟨(ms m0), trivial⟩)
    · have h := ifF h cd44
      refine wc_exit ?_
      refine px_then ?_
      refine px_then ?_
      refine px_block ?_
      replace h := Option.some.inj h
      subst h
      replace g40 := nextR g40
      subst g40
      exact pn_meetG (s40.1, ()) rfl ⟨rfl, trivial⟩ (fun _ h => h.to ⟨_, r0, trivial⟩ trivial)
  rintro ⟨s36, _⟩ e36
  dsimp only at e36 ⊢
  subst e36
  have h := ho36
  refine wc_seq ?_
  refine wc_region ?_   -- region 20
  refine wl_det rfl rfl (det_move rfl) rfl ?_
  refine wl_det rfl rfl (det_assign rfl) rfl ?_
  refine wl_nil ?_
  refine pn_then ?_
  refine wc_ret ?_
  replace h := Option.some.inj h
  subst h
  refine pn_ret (vs := [_]) rfl ⟨rfl, trivial⟩ ⟨A1_2, (List.replicate (a1.length : Int).toNat (0 : Int)).length, c1_2, rfl, rfl, rfl⟩ (fun _ h => h.to ⟨_, r0, trivial⟩ trivial)
def Q_split_Split (r : (List Int) × Int) : Value → List Ent → List Fact → Prop := fun v θ κ => ∃ (pA0 : Option Addr), ∃ (pn0 : Nat), ∃ (pc0 : Nat), v = .tuple #[.slice pA0 pn0 pc0, .int .i64 r.2] ∧ θ = [eS (lInt .i64) 3 pA0 pn0 pc0 r.1] ∧ κ = []
theorem plains_split_Split {r : (List Int) × Int} : ∀ v θ κ, Q_split_Split r v θ κ → Plains θ := by
  rintro _ _ _ ⟨_, _, _, rfl, rfl, rfl⟩
  exact ⟨plain_eS, trivial⟩
set_option maxHeartbeats 4000000 in
set_option maxRecDepth 100000 in
theorem W_split_Split (a0 : Int) (a1 : (List Int)) (A0 : Option Addr) (n0 : Nat) (c0 : Nat) (r : (List Int) × Int) (h : split_Split a0 a1 = some r) : Spec Try.prog 50 [.int .i64 a0, .slice A0 n0 c0] [] [fV (lSlice (lInt .i64)) (.slice A0 n0 c0) a1] (Q_split_Split r) := by
  unfold split_Split at h
  refine spec_of (σ := [(0, _), (1, _)]) Try.func50 rfl rfl rfl rfl ?_
  intro C
  refine wc_know (fun _ h => h.lenF m0) (fun e => ?_)
  subst e
  refine wc_seq ?_
  refine wc_region ?_   -- region 0
  refine wl_det rfl rfl (det_assign rfl) rfl ?_
  refine wl_det rfl rfl (det_assign rfl) rfl ?_
  refine wl_nil ?_
  refine pn_then ?_
  refine wc_seq ?_
  refine wc_seq ?_
  refine wc_region ?_   -- region 1
  refine wl_det rfl rfl (det_move rfl) rfl ?_
  refine wl_det rfl rfl (det_len rfl un23) rfl ?_
  refine wl_det rfl rfl (det_eql rfl rfl) rfl ?_
  refine wl_nil ?_
  refine pn_then ?_
  refine wc_cond rfl (fun cd5 => ?_) (fun cd5 => ?_)
  · have h := ifT h cd5
    refine wc_seq ?_
    refine wc_region ?_   -- region 2
    refine wl_det rfl rfl (det_assign rfl) rfl ?_
    refine wl_det rfl rfl (det_assign rfl) rfl ?_
    refine wl_nil ?_
    refine pn_then ?_
    refine wc_ret ?_
    refine pr_then ?_
    refine pn_st (fun _ h => h.zeroS (lInt .i64) 3 none) ?_
    replace h := Option.some.inj h
    subst h
    refine pn_ret (vs := [_, _]) rfl ⟨rfl, rfl, trivial⟩ ⟨none, 0, 0, rfl, rfl, rfl⟩ (fun _ h => h.to ⟨_, r0, trivial⟩ trivial)
  · have h := ifF h cd5
    refine wc_skip ?_
    refine pn_then ?_
    refine wc_seq ?_
    refine wc_seq ?_
    refine wc_region ?_   -- region 3
    refine wl_det rfl rfl (det_move rfl) rfl ?_
    refine wl_det rfl rfl (det_len rfl un23) rfl ?_
    refine wl_det rfl rfl (det_gtr rfl rfl) rfl ?_
    refine wl_nil ?_
    refine pn_then ?_
    refine wc_cond rfl (fun cd11 => ?_) (fun cd11 => ?_)
    · have h := ifT h cd11
      refine wc_seq ?_
      refine wc_region ?_   -- region 4
      refine wl_det rfl rfl (det_assign rfl) rfl ?_
      refine wl_det rfl rfl (det_assign rfl) rfl ?_
      refine wl_nil ?_
      refine pn_then ?_
      refine wc_ret ?_
      refine pr_then ?_
      refine pn_st (fun _ h => h.zeroS (lInt .i64) 3 none) ?_
      replace h := Option.some.inj h
      subst h
      refine pn_ret (vs := [_, _]) rfl ⟨rfl, rfl, trivial⟩ ⟨none, 0, 0, rfl, rfl, rfl⟩ (fun _ h => h.to ⟨_, r0, trivial⟩ trivial)
    · have h := ifF h cd11
      refine wc_skip ?_
      refine pn_then ?_
      refine wc_seq ?_
      refine wc_seq ?_
      refine wc_region ?_   -- region 5
      refine wl_det rfl rfl (det_move rfl) rfl ?_
      obtain ⟨r5_1, hr5_1, h⟩ := bind_some h
      refine wl_act (act_callS (cap := []) (W_amount_Valid a0 r5_1 hr5_1) rfl rfl rfl bd48 rfl trivial) rfl rfl rfl ?_
      rintro _ _ _ ⟨_, _, ⟨rfl, rfl, rfl⟩, rfl, rfl⟩
      dsimp only [List.nil_append, List.cons_append]
      refine wl_det rfl rfl (det_not rfl) rfl ?_
      refine wl_det rfl rfl (det_move rfl) rfl ?_
      obtain ⟨q5_7, hq5_7, h⟩ := bind_some h
      have ho5_7 := h
      refine wl_way (!r5_1) q5_7 4 22 (fun hg => ?_) (fun hg => ?_) ?_
      · have hg5_7 := hg
        have h := ifT hq5_7 hg
        refine wl_off rfl rfl rfl rfl rfl hg5_7 rfl ?_
        refine wl_off rfl rfl rfl rfl rfl hg5_7 rfl ?_
        refine wl_off rfl rfl rfl rfl rfl hg5_7 rfl ?_
        replace h := Option.some.inj h
        subst h
        refine wl_det rfl rfl (det_pick_on rfl hg5_7 rfl rfl) rfl ?_
        exact wl_nil (pn_qnE (ext_cons rfl (ext_skip rfl (ext_skip rfl (ext_skip rfl (ext_skip rfl ext_refl))))) (fun _ h => h))
      · have hg5_7a := hg
        have h := ifF hq5_7 hg
        refine wl_on rfl rfl rfl rfl hg5_7a ?_
        refine wl_det rfl rfl (det_move rfl) rfl ?_
        refine wl_on rfl rfl rfl rfl hg5_7a ?_
        obtain ⟨r5_5, hr5_5, h⟩ := bind_some h
        refine wl_act (act_callS (cap := []) (W_split_inRange a1 A0 a1.length c0 r5_5 hr5_5) rfl rfl rfl bd66 rfl ⟨m0, trivial⟩) rfl rfl rfl ?_
        rintro _ _ _ ⟨_, _, ⟨rfl, rfl, rfl⟩, rfl, rfl⟩
        dsimp only [List.nil_append, List.cons_append]
        refine wl_on rfl rfl rfl rfl hg5_7a ?_
        refine wl_det rfl rfl (det_not rfl) rfl ?_
        replace h := Option.some.inj h
        subst h
        refine wl_det rfl rfl (det_pick_off rfl hg5_7a rfl rfl) rfl ?_
        exact wl_nil (pn_qnE (ext_cons rfl (ext_skip rfl (ext_skip rfl (ext_skip rfl (ext_skip rfl ext_refl))))) (fun _ h => h))
      have h := ho5_7
      refine wl_nil ?_
      refine pn_then ?_
      refine wc_cond rfl (fun cd17 => ?_) (fun cd17 => ?_)
      · have h := ifT h cd17
        refine wc_seq ?_
        refine wc_region ?_   -- region 6
        refine wl_det rfl rfl (det_assign rfl) rfl ?_
        refine wl_det rfl rfl (det_assign rfl) rfl ?_
        refine wl_nil ?_
        refine pn_then ?_
        refine wc_ret ?_
        refine pr_then ?_
        refine pn_st (fun _ h => h.zeroS (lInt .i64) 3 none) ?_
        replace h := Option.some.inj h
        subst h
        refine pn_ret (vs := [_, _]) rfl ⟨rfl, rfl, trivial⟩ ⟨none, 0, 0, rfl, rfl, rfl⟩ (fun _ h => h.to ⟨_, r0, trivial⟩ trivial)
      · have h := ifF h cd17
        refine wc_skip ?_
        refine pn_then ?_
        refine wc_seq ?_
        refine wc_region ?_   -- region 7
        refine wl_det rfl rfl (det_move rfl) rfl ?_
        obtain ⟨r7_1, hr7_1, h⟩ := bind_some h
        refine wl_act (act_callS (cap := []) (W_split_total a1 A0 a1.length c0 r7_1 hr7_1) rfl rfl rfl bd67 rfl ⟨m0, trivial⟩) rfl rfl rfl ?_
        rintro _ _ _ ⟨_, _, ⟨rfl, rfl, rfl⟩, rfl, rfl⟩
        dsimp only [List.nil_append, List.cons_append]
        refine wl_det rfl rfl (det_assign rfl) rfl ?_
        refine wl_nil ?_
        refine pn_then ?_
        refine wc_seq ?_
        refine wc_seq ?_
        refine wc_region ?_   -- region 8
        refine wl_det rfl rfl (det_move rfl) rfl ?_
        refine wl_det rfl rfl (det_eql rfl rfl) rfl ?_
        refine wl_nil ?_
        refine pn_then ?_
        refine wc_cond rfl (fun cd25 => ?_) (fun cd25 => ?_)
        · have h := ifT h cd25
          refine wc_seq ?_
          refine wc_region ?_   -- region 9
          refine wl_det rfl rfl (det_assign rfl) rfl ?_
          refine wl_det rfl rfl (det_assign rfl) rfl ?_
          refine wl_nil ?_
          refine pn_then ?_
          refine wc_ret ?_
          refine pr_then ?_
          refine pn_st (fun _ h => h.zeroS (lInt .i64) 3 none) ?_
          replace h := Option.some.inj h
          subst h
          refine pn_ret (vs := [_, _]) rfl ⟨rfl, rfl, trivial⟩ ⟨none, 0, 0, rfl, rfl, rfl⟩ (fun _ h => h.to ⟨_, r0, trivial⟩ trivial)
        · have h := ifF h cd25
          refine wc_skip ?_
          refine pn_then ?_
          refine wc_seq ?_
          refine wc_seq ?_
          refine wc_region ?_   -- region 10
          refine wl_det rfl rfl (det_move rfl) rfl ?_
          refine wl_det rfl rfl (det_geq rfl rfl) rfl ?_
          refine wl_nil ?_
          refine pn_then ?_
          refine wc_cond rfl (fun cd31 => ?_) (fun cd31 => ?_)
          · have h := ifT h cd31
            refine wc_seq ?_
            refine wc_region ?_   -- region 11
            refine wl_det rfl rfl (det_move rfl) rfl ?_
            refine wl_det rfl rfl (det_move rfl) rfl ?_
            refine wl_det rfl rfl (det_move rfl) rfl ?_
            obtain ⟨r11_3, hr11_3, h⟩ := bind_some h
            refine wl_act (act_callS (cap := []) (W_split_divide a0 a1 r7_1 A0 a1.length c0 r11_3 hr11_3) rfl rfl rfl bd68 rfl ⟨m0, trivial⟩) rfl rfl rfl ?_
            rintro _ _ _ ⟨_, _, ⟨y11_3A0, y11_3n0, y11_3c0, rfl, rfl, rfl⟩, rfl, rfl⟩
            dsimp only [List.nil_append, List.cons_append]
            refine wl_know (fun _ h => h.lenO m0) (fun e => ?_)
            subst e
            refine wl_det rfl rfl (det_assign rfl) rfl ?_
            refine wl_det rfl rfl (det_assign rfl) rfl ?_
            refine wl_nil ?_
            refine pn_then ?_
            refine wc_ret ?_
            refine pr_then ?_
            replace h := Option.some.inj h
            subst h
            refine pn_ret (vs := [_, _]) rfl ⟨rfl, rfl, trivial⟩ ⟨y11_3A0, r11_3.length, y11_3c0, rfl, rfl, rfl⟩ (fun _ h => h.to ⟨_, r0, trivial⟩ trivial)
          · have h := ifF h cd31
            refine wc_skip ?_
            refine pn_then ?_
            refine wc_seq ?_
            refine wc_region ?_   -- region 12
            refine wl_det rfl rfl (det_move rfl) rfl ?_
            refine wl_det rfl rfl (det_neg rfl) rfl ?_
            refine wl_det rfl rfl (det_move rfl) rfl ?_
            refine wl_det rfl rfl (det_move rfl) rfl ?_
            obtain ⟨r12_4, hr12_4, h⟩ := bind_some h
            refine wl_act (act_callS (cap := []) (W_split_divide (w64 (0 - a0)) a1 r7_1 A0 a1.length c0 r12_4 hr12_4) rfl rfl rfl bd68 rfl ⟨m0, trivial⟩) rfl rfl rfl ?_
            rintro _ _ _ ⟨_, _, ⟨y12_4A0, y12_4n0, y12_4c0, rfl, rfl, rfl⟩, rfl, rfl⟩
            dsimp only [List.nil_append, List.cons_append]
            refine wl_know (fun _ h => h.lenO m0) (fun e => ?_)
            subst e
            refine wl_det rfl rfl (det_assign rfl) rfl ?_
            refine wl_nil ?_
            refine pn_then ?_
            obtain ⟨q36, h, ho36⟩ := bind_some h
            refine wc_meetG (G := (List Int) × Unit) (fun (s36, _) => s36 = q36) (fun (_, _) => [(7, .slice y12_4A0 r12_4.length y12_4c0)]) (fun (s36, _) => [eS (lInt .i64) 3 y12_4A0 r12_4.length y12_4c0 s36]) (fun (_, _) => []) ?_ ?_
            · refine wc_seq ?_
              refine wc_region ?_   -- region 13
              refine wl_det rfl rfl (det_move rfl) rfl ?_
              refine wl_det rfl rfl (det_len rfl un23) rfl ?_
              refine wl_det rfl rfl (det_move rfl) rfl ?_
              refine wl_nil ?_
              refine pn_then ?_
              refine wc_block ?_
              obtain ⟨k40, hk40⟩ := loopV_some.1 h
              refine wc_loop (G := Nat × ((List Int) × Int) × Unit) (fun g => IterN (split_Split_l40 r12_4) g.1 g.2.1 q36) (fun g => g.1) (fun (_, s40, _) => [(7, .slice y12_4A0 r12_4.length y12_4c0), (39, .int .i64 (r12_4.length : Int)), (40, .int .i64 s40.2)]) (fun (_, s40, _) => [eS (lInt .i64) 3 y12_4A0 r12_4.length y12_4c0 s40.1]) (fun (_, _, _) => []) (k40, (r12_4, 0), ()) hk40 ⟨rfl, rfl, rfl, trivial⟩ (fun _ h => h.to ⟨_, r0, trivial⟩ trivial) ?_
              rintro ⟨k40, s40, _⟩ hI
              obtain ⟨k40, rfl, q40, h, g40⟩ := IterN.pos hI
              dsimp only at h ⊢
              unfold split_Split_l40 at h
              refine wc_seq ?_
              refine wc_region ?_   -- region 14
              refine wl_det rfl rfl (det_lss rfl rfl) rfl ?_
              refine wl_nil ?_
              refine pn_then ?_
              refine wc_seq ?_
              refine wc_cond rfl (fun cd44 => ?_) (fun cd44 => ?_)
              · have h := ifT h cd44
                refine wc_skip ?_
                refine pn_then ?_
                refine wc_seq ?_
                refine wc_block ?_
                refine wc_seq ?_
                refine wc_region ?_   -- region 15
                refine wl_det rfl rfl (det_move rfl) rfl ?_
                refine wl_det rfl rfl (det_assign rfl) rfl ?_
                refine wl_nil ?_
                refine pn_then ?_
                refine wc_region ?_   -- region 16
                refine wl_det rfl rfl (det_move rfl) rfl ?_
                refine wl_det rfl rfl (det_move rfl) rfl ?_
                refine wl_det rfl rfl (det_move rfl) rfl ?_
                refine wl_det rfl rfl (det_move rfl) rfl ?_
                obtain ⟨k16_4, h⟩ := chk_some h
                refine wl_det rfl rfl (det_indexO rfl rfl m0 k16_4 un23 sz3) rfl ?_
                refine wl_det rfl rfl (det_loadO (off := 0) rfl m0 k16_4 (by rfl) (by rfl) (loaded_1 na3 us3)) rfl ?_
                refine wl_det rfl rfl (det_neg rfl) rfl ?_
                refine wl_det rfl rfl (det_indexO rfl rfl m0 k16_4 un23 sz3) rfl ?_
                refine wl_act0 (act_storeO (cells := [_]) (off := 0) (w64 (0 - (ix s40.1 s40.2))) rfl rfl rfl s0 k16_4 (by rfl) sz3 (by intro u hu; simp at hu; rcases hu with rfl <;> rfl) (stR_flat rfl rfl)) rfl rfl ?_
                rintro _ _ _ ⟨rfl, rfl⟩
                refine wl_nil ?_
                refine pn_block ?_
                refine pn_then ?_
                refine wc_region ?_   -- region 17
                refine wl_det rfl rfl (det_add rfl rfl) rfl ?_
                refine wl_det rfl rfl (det_move rfl) rfl ?_
                refine wl_nil ?_
                replace h := Option.some.inj h
                subst h
                exact pn_some (k40, ((upd s40.1 s40.2 (w64 (0 - (ix s40.1 s40.2)))), (w64 (s40.2 + 1))), ()) ⟨nextL g40, Nat.lt_succ_self _⟩ ⟨rfl, rfl, rfl, trivial⟩ (fun _ h => h.to ⟨_, r0, trivial⟩ trivial)
              · have h := ifF h cd44
                refine wc_exit ?_
                refine px_then ?_
                refine px_then ?_
                refine px_block ?_
                replace h := Option.some.inj h
                subst h
                replace g40 := nextR g40
                subst g40
                exact pn_meetG (s40.1, ()) rfl ⟨rfl, trivial⟩ (fun _ h => h.to ⟨_, r0, trivial⟩ trivial)
            rintro ⟨s36, _⟩ e36
            dsimp only at e36 ⊢
            subst e36
            have h := ho36
            refine wc_seq ?_
            refine wc_region ?_   -- region 18
            refine wl_det rfl rfl (det_move rfl) rfl ?_
            refine wl_det rfl rfl (det_assign rfl) rfl ?_
            refine wl_det rfl rfl (det_assign rfl) rfl ?_
            refine wl_nil ?_
            refine pn_then ?_
            refine wc_ret ?_
            replace h := Option.some.inj h
            subst h
            refine pn_ret (vs := [_, _]) rfl ⟨rfl, rfl, trivial⟩ ⟨y12_4A0, r12_4.length, y12_4c0, rfl, rfl, rfl⟩ (fun _ h => h.to ⟨_, r0, trivial⟩ trivial)
def Q_contract_Divide (r : (List Int) × Int) : Value → List Ent → List Fact → Prop := fun v θ κ => ∃ (pA0 : Option Addr), ∃ (pn0 : Nat), ∃ (pc0 : Nat), v = .tuple #[.slice pA0 pn0 pc0, .int .i64 r.2] ∧ θ = [eS (lInt .i64) 3 pA0 pn0 pc0 r.1] ∧ κ = []
theorem plains_contract_Divide {r : (List Int) × Int} : ∀ v θ κ, Q_contract_Divide r v θ κ → Plains θ := by
  rintro _ _ _ ⟨_, _, _, rfl, rfl, rfl⟩
  exact ⟨plain_eS, trivial⟩
set_option maxHeartbeats 4000000 in
set_option maxRecDepth 100000 in
theorem W_contract_Divide (a0 : Int) (a1 : (List GPart)) (A0 : Option Addr) (n0 : Nat) (c0 : Nat) (r : (List Int) × Int) (h : contract_Divide a0 a1 = some r) : Spec Try.prog 21 [.int .i64 a0, .slice A0 n0 c0] [] [fV (lSlice lGPart) (.slice A0 n0 c0) a1] (Q_contract_Divide r) := by
  unfold contract_Divide at h
  refine spec_of (σ := [(0, _), (1, _)]) Try.func21 rfl rfl rfl rfl ?_
  intro C
  refine wc_know (fun _ h => h.lenF m0) (fun e => ?_)
  subst e
  refine wc_seq ?_
  refine wc_region ?_   -- region 0
  refine wl_det rfl rfl (det_assign rfl) rfl ?_
  refine wl_det rfl rfl (det_assign rfl) rfl ?_
  refine wl_nil ?_
  refine pn_then ?_
  refine wc_seq ?_
  refine wc_seq ?_
  refine wc_region ?_   -- region 1
  refine wl_det rfl rfl (det_move rfl) rfl ?_
  obtain ⟨r1_1, hr1_1, h⟩ := bind_some h
  refine wl_act (act_callS (cap := []) (W_contract_Parts a1 A0 a1.length c0 r1_1 hr1_1) rfl rfl rfl bd19 rfl ⟨m0, trivial⟩) rfl rfl rfl ?_
  rintro _ _ _ ⟨_, _, ⟨rfl, rfl, rfl⟩, rfl, rfl⟩
  dsimp only [List.nil_append, List.cons_append]
  refine wl_det rfl rfl (det_assign rfl) rfl ?_
  refine wl_nil ?_
  refine pn_then ?_
  refine wc_seq ?_
  refine wc_region ?_   -- region 2
  refine wl_det rfl rfl (det_move rfl) rfl ?_
  refine wl_det rfl rfl (det_neq rfl rfl) rfl ?_
  refine wl_nil ?_
  refine pn_then ?_
  refine wc_cond rfl (fun cd7 => ?_) (fun cd7 => ?_)
  · have h := ifT h cd7
    refine wc_seq ?_
    refine wc_region ?_   -- region 3
    refine wl_det rfl rfl (det_move rfl) rfl ?_
    refine wl_det rfl rfl (det_assign rfl) rfl ?_
    refine wl_det rfl rfl (det_assign rfl) rfl ?_
    refine wl_nil ?_
    refine pn_then ?_
    refine wc_ret ?_
    refine pr_then ?_
    refine pn_st (fun _ h => h.zeroS (lInt .i64) 3 none) ?_
    replace h := Option.some.inj h
    subst h
    refine pn_ret (vs := [_, _]) rfl ⟨rfl, rfl, trivial⟩ ⟨none, 0, 0, rfl, rfl, rfl⟩ (fun _ h => h.to ⟨_, r0, trivial⟩ trivial)
  · have h := ifF h cd7
    refine wc_skip ?_
    refine pn_then ?_
    refine wc_seq ?_
    refine wc_seq ?_
    refine wc_region ?_   -- region 4
    refine wl_det rfl rfl (det_move rfl) rfl ?_
    obtain ⟨r4_1, hr4_1, h⟩ := bind_some h
    refine wl_act (act_callS (cap := []) (W_amount_Valid a0 r4_1 hr4_1) rfl rfl rfl bd48 rfl trivial) rfl rfl rfl ?_
    rintro _ _ _ ⟨_, _, ⟨rfl, rfl, rfl⟩, rfl, rfl⟩
    dsimp only [List.nil_append, List.cons_append]
    refine wl_det rfl rfl (det_not rfl) rfl ?_
    refine wl_nil ?_
    refine pn_then ?_
    refine wc_cond rfl (fun cd13 => ?_) (fun cd13 => ?_)
    · have h := ifT h cd13
      refine wc_seq ?_
      refine wc_region ?_   -- region 5
      refine wl_det rfl rfl (det_assign rfl) rfl ?_
      refine wl_det rfl rfl (det_assign rfl) rfl ?_
      refine wl_nil ?_
      refine pn_then ?_
      refine wc_ret ?_
      refine pr_then ?_
      refine pn_st (fun _ h => h.zeroS (lInt .i64) 3 none) ?_
      replace h := Option.some.inj h
      subst h
      refine pn_ret (vs := [_, _]) rfl ⟨rfl, rfl, trivial⟩ ⟨none, 0, 0, rfl, rfl, rfl⟩ (fun _ h => h.to ⟨_, r0, trivial⟩ trivial)
    · have h := ifF h cd13
      refine wc_skip ?_
      refine pn_then ?_
      refine wc_seq ?_
      refine wc_region ?_   -- region 6
      refine wl_act (act_litS (lInt .i64) (vs := [_]) (cs := [_]) [1000000] un23 in3 rfl rfl rfl rfl rfl ⟨rfl, trivial⟩ (by rfl) rfl (litR_flat rfl)) rfl rfl rfl ?_
      rintro _ _ _ ⟨A6_0, rfl, rfl, rfl⟩
      refine wl_det rfl rfl (det_move rfl) rfl ?_
      obtain ⟨r6_2, hr6_2, h⟩ := bind_some h
      refine wl_act (act_callS (cap := []) (W_contract_shares a1 A0 a1.length c0 r6_2 hr6_2) rfl rfl rfl bd49 rfl ⟨m0, trivial⟩) rfl rfl rfl ?_
      rintro _ _ _ ⟨_, _, ⟨y6_2A0, y6_2n0, y6_2c0, rfl, rfl, rfl⟩, rfl, rfl⟩
      dsimp only [List.nil_append, List.cons_append]
      refine wl_know (fun _ h => h.lenO m0) (fun e => ?_)
      subst e
      obtain ⟨k6_3, h⟩ := chk_some h
      refine wl_act (act_appendS (L := (lInt .i64)) rfl rfl (ss s0) (src_O m0) un23 in3 rfl rfl rfl k6_3) rfl rfl rfl ?_
      rintro _ _ _ ⟨A6_3, c6_3, rfl, rfl, rfl⟩
      refine wl_det rfl rfl (det_assign rfl) rfl ?_
      refine wl_nil ?_
      refine pn_then ?_
      obtain ⟨q18, h, ho18⟩ := bind_some h
      refine wc_meetG (G := (List Int) × Unit) (fun (s18, _) => s18 = q18) (fun (_, _) => [(0, .int .i64 a0), (7, .slice A6_3 ([1000000] ++ r6_2).length c6_3)]) (fun (s18, _) => [eS (lInt .i64) 3 A6_3 ([1000000] ++ r6_2).length c6_3 s18]) (fun (_, _) => []) ?_ ?_
      · refine wc_seq ?_
        refine wc_region ?_   -- region 7
        refine wl_det rfl rfl (det_move rfl) rfl ?_
        obtain ⟨k7_1, h⟩ := chk_some h
        refine wl_act (act_sliceOL rfl rfl (ms m0) un23 sz3 rfl k7_1) rfl rfl rfl ?_
        rintro _ _ _ ⟨rfl, rfl, rfl⟩
        refine wl_det rfl rfl (det_len rfl un23) rfl ?_
        refine wl_det rfl rfl (det_move rfl) rfl ?_
        refine wl_nil ?_
        refine pn_then ?_
        refine wc_block ?_
        obtain ⟨k22, hk22⟩ := loopV_some.1 h
        refine wc_loop (G := Nat × ((List Int) × Int) × Unit) (fun g => IterN (contract_Divide_l22 r6_2) g.1 g.2.1 q18) (fun g => g.1) (fun (_, s22, _) => [(0, .int .i64 a0), (7, .slice A6_3 ([1000000] ++ r6_2).length c6_3), (23, .slice (slA A6_3 c6_3 1 1) (([1000000] ++ r6_2).length - 1) (c6_3 - 1)), (24, .int .i64 ((([1000000] ++ r6_2).length - 1 : Nat) : Int)), (25, .int .i64 s22.2)]) (fun (_, s22, _) => [eS (lInt .i64) 3 A6_3 ([1000000] ++ r6_2).length c6_3 s22.1]) (fun (_, _, _) => []) (k22, (([1000000] ++ r6_2), 0), ()) hk22 ⟨rfl, rfl, rfl, rfl, rfl, trivial⟩ (fun _ h => h.to ⟨_, (rs r0), trivial⟩ trivial) ?_
        rintro ⟨k22, s22, _⟩ hI
        obtain ⟨k22, rfl, q22, h, g22⟩ := IterN.pos hI
        dsimp only at h ⊢
        unfold contract_Divide_l22 at h
        refine wc_seq ?_
        refine wc_region ?_   -- region 8
        refine wl_det rfl rfl (det_lss rfl rfl) rfl ?_
        refine wl_nil ?_
        refine pn_then ?_
        refine wc_seq ?_
        refine wc_cond rfl (fun cd26 => ?_) (fun cd26 => ?_)
        · have h := ifT h cd26
          refine wc_skip ?_
          refine pn_then ?_
          refine wc_seq ?_
          refine wc_block ?_
          refine wc_seq ?_
          refine wc_region ?_   -- region 9
          obtain ⟨k9_0, h⟩ := chk_some h
          obtain ⟨k9_0a, h⟩ := chk_some h
          refine wl_det rfl rfl (det_indexVw (l := 1) rfl rfl m0 k9_0 k9_0a un23 sz3) rfl ?_
          refine wl_det rfl rfl (det_loadO (off := 0) rfl m0 k9_0a (by rfl) (by rfl) (loaded_1 na3 us3)) rfl ?_
          refine wl_det rfl rfl (det_assign rfl) rfl ?_
          refine wl_nil ?_
          refine pn_then ?_
          refine wc_region ?_   -- region 10
          refine wl_det rfl rfl (det_move rfl) rfl ?_
          obtain ⟨k10_1, h⟩ := chk_some h
          refine wl_det rfl rfl (det_indexO rfl rfl m0 k10_1 un23 sz3) rfl ?_
          refine wl_det rfl rfl (det_loadO (off := 0) rfl m0 k10_1 (by rfl) (by rfl) (loaded_1 na3 us3)) rfl ?_
          refine wl_det rfl rfl (det_move rfl) rfl ?_
          refine wl_det rfl rfl (det_sub rfl rfl) rfl ?_
          refine wl_det rfl rfl (det_indexO rfl rfl m0 k10_1 un23 sz3) rfl ?_
          refine wl_act0 (act_storeO (cells := [_]) (off := 0) (w64 ((ix s22.1 0) - (ix s22.1 (1 + s22.2)))) rfl rfl rfl s0 k10_1 (by rfl) sz3 (by intro u hu; simp at hu; rcases hu with rfl <;> rfl) (stR_flat rfl rfl)) rfl rfl ?_
          rintro _ _ _ ⟨rfl, rfl⟩
          refine wl_nil ?_
          refine pn_block ?_
          refine pn_then ?_
          refine wc_region ?_   -- region 11
          refine wl_det rfl rfl (det_add rfl rfl) rfl ?_
          refine wl_det rfl rfl (det_move rfl) rfl ?_
          refine wl_nil ?_
          replace h := Option.some.inj h
          subst h
          exact pn_some (k22, ((upd s22.1 0 (w64 ((ix s22.1 0) - (ix s22.1 (1 + s22.2))))), (w64 (s22.2 + 1))), ()) ⟨nextL g22, Nat.lt_succ_self _⟩ ⟨rfl, rfl, rfl, rfl, rfl, trivial⟩ (fun _ h => h.to ⟨_, r0, trivial⟩ trivial)
        · have h := ifF h cd26
          refine wc_exit ?_
          refine px_then ?_
          refine px_then ?_
          refine px_block ?_
          replace h := Option.some.inj h
          subst h
          replace g22 := nextR g22
          subst g22
          exact pn_meetG (s22.1, ()) rfl ⟨rfl, rfl, trivial⟩ (fun _ h => h.to ⟨_, r0, trivial⟩ trivial)
      rintro ⟨s18, _⟩ e18
      dsimp only at e18 ⊢
      subst e18
      have h := ho18
      refine wc_seq ?_
      refine wc_region ?_   -- region 12
      refine wl_det rfl rfl (det_move rfl) rfl ?_
      refine wl_det rfl rfl (det_move rfl) rfl ?_
      obtain ⟨r12_2, hr12_2, h⟩ := bind_some h
      refine wl_act (act_callL (cap := []) [eS (lInt .i64) 3 A6_3 ([1000000] ++ r6_2).length c6_3 s18] (W_split_Split a0 s18 A6_3 ([1000000] ++ r6_2).length c6_3 r12_2 hr12_2) plains_split_Split rfl rfl rfl bd50 rfl ⟨m0, trivial⟩ ⟨.inr ⟨_, m0, lent_eS⟩, trivial⟩) rfl rfl rfl ?_
      rintro _ _ _ ⟨_, _, ⟨y12_2A0, y12_2n0, y12_2c0, rfl, rfl, rfl⟩, rfl, rfl⟩
      dsimp only [List.nil_append, List.cons_append]
      refine wl_know (fun _ h => h.lenO m0) (fun e => ?_)
      subst e
      refine wl_det rfl rfl (det_extract rfl rfl) rfl ?_
      refine wl_det rfl rfl (det_extract rfl rfl) rfl ?_
      refine wl_det rfl rfl (det_assign rfl) rfl ?_
      refine wl_det rfl rfl (det_assign rfl) rfl ?_
      refine wl_nil ?_
      refine pn_then ?_
      refine wc_ret ?_
      replace h := Option.some.inj h
      subst h
      refine pn_ret (vs := [_, _]) rfl ⟨rfl, rfl, trivial⟩ ⟨y12_2A0, r12_2.1.length, y12_2c0, rfl, rfl, rfl⟩ (fun _ h => h.to ⟨_, r0, trivial⟩ trivial)
def Q_slices_Clone_s_int_int (r : (List Int)) : Value → List Ent → List Fact → Prop := fun v θ κ => ∃ (pA0 : Option Addr), ∃ (pn0 : Nat), ∃ (pc0 : Nat), v = .slice pA0 pn0 pc0 ∧ θ = [eS (lInt .i64) 3 pA0 pn0 pc0 r] ∧ κ = []
theorem plains_slices_Clone_s_int_int {r : (List Int)} : ∀ v θ κ, Q_slices_Clone_s_int_int r v θ κ → Plains θ := by
  rintro _ _ _ ⟨_, _, _, rfl, rfl, rfl⟩
  exact ⟨plain_eS, trivial⟩
set_option maxHeartbeats 4000000 in
set_option maxRecDepth 100000 in
theorem W_slices_Clone_s_int_int (a0 : (List Int)) (A0 : Option Addr) (n0 : Nat) (c0 : Nat) (r : (List Int)) (h : slices_Clone_s_int_int a0 = some r) : Spec Try.prog 71 [.slice A0 n0 c0] [] [fV (lSlice (lInt .i64)) (.slice A0 n0 c0) a0] (Q_slices_Clone_s_int_int r) := by
  unfold slices_Clone_s_int_int at h
  refine spec_of (σ := [(0, _)]) Try.func71 rfl rfl rfl rfl ?_
  intro C
  refine wc_know (fun _ h => h.lenF m0) (fun e => ?_)
  subst e
  refine wc_seq ?_
  refine wc_region ?_   -- region 0
  refine wl_det rfl rfl (det_assign rfl) rfl ?_
  refine wl_nil ?_
  refine pn_then ?_
  refine wc_seq ?_
  refine wc_seq ?_
  refine wc_region ?_   -- region 1
  refine wl_det rfl rfl (det_move rfl) rfl ?_
  refine wl_det rfl rfl (det_eqlNil rfl rfl un23) rfl ?_
  refine wl_nil ?_
  refine pn_then ?_
  refine wc_cond rfl (fun cd5 => ?_) (fun cd5 => ?_)
  · refine wc_know (fun _ h => h.nilF m0 cd5) (fun e => ?_)
    subst e
    have h := clone_nil h
    refine wc_seq ?_
    refine wc_region ?_   -- region 2
    refine wl_det rfl rfl (det_assign rfl) rfl ?_
    refine wl_nil ?_
    refine pn_then ?_
    refine wc_ret ?_
    refine pr_then ?_
    refine pn_st (fun _ h => h.zeroS (lInt .i64) 3 none) ?_
    replace h := Option.some.inj h
    subst h
    refine pn_ret (vs := [_]) rfl ⟨rfl, trivial⟩ ⟨none, 0, 0, rfl, rfl, rfl⟩ (fun _ h => h.to ⟨_, r0, trivial⟩ trivial)
  · refine wc_skip ?_
    refine pn_then ?_
    refine wc_seq ?_
    refine wc_region ?_   -- region 3
    refine wl_act (act_lit0S (lInt .i64) un23 (by kernel_rfl)) rfl rfl rfl ?_
    rintro _ _ _ ⟨A3_0, rfl, rfl, rfl⟩
    refine wl_det rfl rfl (det_move rfl) rfl ?_
    obtain ⟨k3_2, h⟩ := chk_some h
    refine wl_act (act_appendS0 (L := (lInt .i64)) rfl rfl s0 (src_F m0) un23 in3 rfl rfl rfl k3_2) rfl rfl rfl ?_
    rintro _ _ _ ⟨A3_2, c3_2, rfl, rfl, rfl⟩
    refine wl_det rfl rfl (det_assign rfl) rfl ?_
    refine wl_nil ?_
    refine pn_then ?_
    refine wc_ret ?_
    replace h := Option.some.inj h
    subst h
    refine pn_ret (vs := [_]) rfl ⟨rfl, trivial⟩ ⟨A3_2, a0.length, c3_2, rfl, rfl, rfl⟩ (fun _ h => h.to ⟨_, r0, trivial⟩ trivial)
def Q_split_Reduce (r : (List Int) × Int) : Value → List Ent → List Fact → Prop := fun v θ κ => ∃ (pA0 : Option Addr), ∃ (pn0 : Nat), ∃ (pc0 : Nat), v = .tuple #[.slice pA0 pn0 pc0, .int .i64 r.2] ∧ θ = [eS (lInt .i64) 3 pA0 pn0 pc0 r.1] ∧ κ = []
theorem plains_split_Reduce {r : (List Int) × Int} : ∀ v θ κ, Q_split_Reduce r v θ κ → Plains θ := by
  rintro _ _ _ ⟨_, _, _, rfl, rfl, rfl⟩
  exact ⟨plain_eS, trivial⟩
set_option maxHeartbeats 4000000 in
set_option maxRecDepth 100000 in
theorem W_split_Reduce (a0 : (List Int)) (a1 : Int) (A0 : Option Addr) (n0 : Nat) (c0 : Nat) (r : (List Int) × Int) (h : split_Reduce a0 a1 = some r) : Spec Try.prog 53 [.slice A0 n0 c0, .int .i64 a1] [] [fV (lSlice (lInt .i64)) (.slice A0 n0 c0) a0] (Q_split_Reduce r) := by
  unfold split_Reduce at h
  refine spec_of (σ := [(0, _), (1, _)]) Try.func53 rfl rfl rfl rfl ?_
  intro C
  refine wc_know (fun _ h => h.lenF m0) (fun e => ?_)
  subst e
  refine wc_seq ?_
  refine wc_region ?_   -- region 0
  refine wl_det rfl rfl (det_assign rfl) rfl ?_
  refine wl_det rfl rfl (det_assign rfl) rfl ?_
  refine wl_nil ?_
  refine pn_then ?_
  refine wc_seq ?_
  refine wc_seq ?_
  refine wc_region ?_   -- region 1
  refine wl_det rfl rfl (det_move rfl) rfl ?_
  refine wl_det rfl rfl (det_len rfl un23) rfl ?_
  refine wl_det rfl rfl (det_gtr rfl rfl) rfl ?_
  refine wl_nil ?_
  refine pn_then ?_
  refine wc_cond rfl (fun cd5 => ?_) (fun cd5 => ?_)
  · have h := ifT h cd5
    refine wc_seq ?_
    refine wc_region ?_   -- region 2
    refine wl_det rfl rfl (det_assign rfl) rfl ?_
    refine wl_det rfl rfl (det_assign rfl) rfl ?_
    refine wl_nil ?_
    refine pn_then ?_
    refine wc_ret ?_
    refine pr_then ?_
    refine pn_st (fun _ h => h.zeroS (lInt .i64) 3 none) ?_
    replace h := Option.some.inj h
    subst h
    refine pn_ret (vs := [_, _]) rfl ⟨rfl, rfl, trivial⟩ ⟨none, 0, 0, rfl, rfl, rfl⟩ (fun _ h => h.to ⟨_, r0, trivial⟩ trivial)
  · have h := ifF h cd5
    refine wc_skip ?_
    refine pn_then ?_
    refine wc_seq ?_
    refine wc_seq ?_
    refine wc_region ?_   -- region 3
    refine wl_det rfl rfl (det_move rfl) rfl ?_
    refine wl_det rfl rfl (det_lss rfl rfl) rfl ?_
    refine wl_det rfl rfl (det_move rfl) rfl ?_
    refine wl_way (decide (a1 < 0)) ((decide (a1 < 0)) || (decide (17592186044416 < a1))) 3 14 (fun hg => ?_) (fun hg => ?_) ?_
    · have hg3_5 := hg
      refine wl_off rfl rfl rfl rfl rfl hg3_5 rfl ?_
      refine wl_off rfl rfl rfl rfl rfl hg3_5 rfl ?_
      refine wl_det rfl rfl (det_or_on (r := (decide (17592186044416 < a1))) rfl rfl rfl hg3_5) rfl ?_
      exact wl_nil (pn_qnE (ext_cons rfl (ext_skip rfl (ext_skip rfl (ext_skip rfl ext_refl)))) (fun _ h => h))
    · have hg3_5a := hg
      refine wl_on rfl rfl rfl rfl hg3_5a ?_
      refine wl_det rfl rfl (det_move rfl) rfl ?_
      refine wl_on rfl rfl rfl rfl hg3_5a ?_
      refine wl_det rfl rfl (det_gtr rfl rfl) rfl ?_
      refine wl_det rfl rfl (det_or_off rfl rfl rfl hg3_5a) rfl ?_
      exact wl_nil (pn_qnE (ext_cons rfl (ext_skip rfl (ext_skip rfl (ext_skip rfl ext_refl)))) (fun _ h => h))
    refine wl_det rfl rfl (det_move rfl) rfl ?_
    obtain ⟨q3_10, hq3_10, h⟩ := bind_some h
    have ho3_10 := h
    refine wl_way ((decide (a1 < 0)) || (decide (17592186044416 < a1))) q3_10 4 19 (fun hg => ?_) (fun hg => ?_) ?_
    · have hg3_10 := hg
      have h := ifT hq3_10 hg
      refine wl_off rfl rfl rfl rfl rfl hg3_10 rfl ?_
      refine wl_off rfl rfl rfl rfl rfl hg3_10 rfl ?_
      refine wl_off rfl rfl rfl rfl rfl hg3_10 rfl ?_
      replace h := Option.some.inj h
      subst h
      refine wl_det rfl rfl (det_pick_on rfl hg3_10 rfl rfl) rfl ?_
      exact wl_nil (pn_qnE (ext_cons rfl (ext_skip rfl (ext_skip rfl (ext_skip rfl (ext_skip rfl ext_refl))))) (fun _ h => h))
    · have hg3_10a := hg
      have h := ifF hq3_10 hg
      refine wl_on rfl rfl rfl rfl hg3_10a ?_
      refine wl_det rfl rfl (det_move rfl) rfl ?_
      refine wl_on rfl rfl rfl rfl hg3_10a ?_
      obtain ⟨r3_8, hr3_8, h⟩ := bind_some h
      refine wl_act (act_callS (cap := []) (W_split_inRange a0 A0 a0.length c0 r3_8 hr3_8) rfl rfl rfl bd66 rfl ⟨m0, trivial⟩) rfl rfl rfl ?_
      rintro _ _ _ ⟨_, _, ⟨rfl, rfl, rfl⟩, rfl, rfl⟩
      dsimp only [List.nil_append, List.cons_append]
      refine wl_on rfl rfl rfl rfl hg3_10a ?_
      refine wl_det rfl rfl (det_not rfl) rfl ?_
      replace h := Option.some.inj h
      subst h
      refine wl_det rfl rfl (det_pick_off rfl hg3_10a rfl rfl) rfl ?_
      exact wl_nil (pn_qnE (ext_cons rfl (ext_skip rfl (ext_skip rfl (ext_skip rfl (ext_skip rfl ext_refl))))) (fun _ h => h))
    have h := ho3_10
    refine wl_nil ?_
    refine pn_then ?_
    refine wc_cond rfl (fun cd11 => ?_) (fun cd11 => ?_)
    · have h := ifT h cd11
      refine wc_seq ?_
      refine wc_region ?_   -- region 4
      refine wl_det rfl rfl (det_assign rfl) rfl ?_
      refine wl_det rfl rfl (det_assign rfl) rfl ?_
      refine wl_nil ?_
      refine pn_then ?_
      refine wc_ret ?_
      refine pr_then ?_
      refine pn_st (fun _ h => h.zeroS (lInt .i64) 3 none) ?_
      replace h := Option.some.inj h
      subst h
      refine pn_ret (vs := [_, _]) rfl ⟨rfl, rfl, trivial⟩ ⟨none, 0, 0, rfl, rfl, rfl⟩ (fun _ h => h.to ⟨_, r0, trivial⟩ trivial)
    · have h := ifF h cd11
      refine wc_skip ?_
      refine pn_then ?_
      refine wc_seq ?_
      refine wc_seq ?_
      refine wc_region ?_   -- region 5
      refine wl_det rfl rfl (det_move rfl) rfl ?_
      obtain ⟨r5_1, hr5_1, h⟩ := bind_some h
      refine wl_act (act_callS (cap := []) (W_split_total a0 A0 a0.length c0 r5_1 hr5_1) rfl rfl rfl bd67 rfl ⟨m0, trivial⟩) rfl rfl rfl ?_
      rintro _ _ _ ⟨_, _, ⟨rfl, rfl, rfl⟩, rfl, rfl⟩
      dsimp only [List.nil_append, List.cons_append]
      refine wl_det rfl rfl (det_move rfl) rfl ?_
      refine wl_det rfl rfl (det_leq rfl rfl) rfl ?_
      refine wl_nil ?_
      refine pn_then ?_
      refine wc_cond rfl (fun cd17 => ?_) (fun cd17 => ?_)
      · have h := ifT h cd17
        refine wc_seq ?_
        refine wc_region ?_   -- region 6
        refine wl_det rfl rfl (det_move rfl) rfl ?_
        obtain ⟨r6_1, hr6_1, h⟩ := bind_some h
        refine wl_act (act_callS (cap := []) (W_slices_Clone_s_int_int a0 A0 a0.length c0 r6_1 hr6_1) rfl rfl rfl bd71 rfl ⟨m0, trivial⟩) rfl rfl rfl ?_
        rintro _ _ _ ⟨_, _, ⟨y6_1A0, y6_1n0, y6_1c0, rfl, rfl, rfl⟩, rfl, rfl⟩
        dsimp only [List.nil_append, List.cons_append]
        refine wl_know (fun _ h => h.lenO m0) (fun e => ?_)
        subst e
        refine wl_det rfl rfl (det_assign rfl) rfl ?_
        refine wl_det rfl rfl (det_assign rfl) rfl ?_
        refine wl_nil ?_
        refine pn_then ?_
        refine wc_ret ?_
        refine pr_then ?_
        replace h := Option.some.inj h
        subst h
        refine pn_ret (vs := [_, _]) rfl ⟨rfl, rfl, trivial⟩ ⟨y6_1A0, r6_1.length, y6_1c0, rfl, rfl, rfl⟩ (fun _ h => h.to ⟨_, r0, trivial⟩ trivial)
      · have h := ifF h cd17
        refine wc_skip ?_
        refine pn_then ?_
        refine wc_seq ?_
        refine wc_region ?_   -- region 7
        refine wl_det rfl rfl (det_move rfl) rfl ?_
        refine wl_det rfl rfl (det_move rfl) rfl ?_
        obtain ⟨r7_2, hr7_2, h⟩ := bind_some h
        refine wl_act (act_callS (cap := []) (W_split_Split a1 a0 A0 a0.length c0 r7_2 hr7_2) rfl rfl rfl bd50 rfl ⟨m0, trivial⟩) rfl rfl rfl ?_
        rintro _ _ _ ⟨_, _, ⟨y7_2A0, y7_2n0, y7_2c0, rfl, rfl, rfl⟩, rfl, rfl⟩
        dsimp only [List.nil_append, List.cons_append]
        refine wl_know (fun _ h => h.lenO m0) (fun e => ?_)
        subst e
        refine wl_det rfl rfl (det_extract rfl rfl) rfl ?_
        refine wl_det rfl rfl (det_extract rfl rfl) rfl ?_
        refine wl_det rfl rfl (det_assign rfl) rfl ?_
        refine wl_det rfl rfl (det_assign rfl) rfl ?_
        refine wl_nil ?_
        refine pn_then ?_
        refine wc_ret ?_
        replace h := Option.some.inj h
        subst h
        refine pn_ret (vs := [_, _]) rfl ⟨rfl, rfl, trivial⟩ ⟨y7_2A0, r7_2.1.length, y7_2c0, rfl, rfl, rfl⟩ (fun _ h => h.to ⟨_, r0, trivial⟩ trivial)
def Q_contract_Sign (r : (List GPart) × Int) : Value → List Ent → List Fact → Prop := fun v θ κ => ∃ (pA0 : Option Addr), ∃ (pn0 : Nat), ∃ (pc0 : Nat), v = .tuple #[.slice pA0 pn0 pc0, .int .i64 r.2] ∧ θ = [eS lGPart 25 pA0 pn0 pc0 r.1] ∧ κ = []
theorem plains_contract_Sign {r : (List GPart) × Int} : ∀ v θ κ, Q_contract_Sign r v θ κ → Plains θ := by
  rintro _ _ _ ⟨_, _, _, rfl, rfl, rfl⟩
  exact ⟨plain_eS, trivial⟩
set_option maxHeartbeats 4000000 in
set_option maxRecDepth 100000 in
theorem W_contract_Sign (a0 : (List GPart)) (a1 : Int) (A0 : Option Addr) (n0 : Nat) (c0 : Nat) (r : (List GPart) × Int) (h : contract_Sign a0 a1 = some r) : Spec Try.prog 25 [.slice A0 n0 c0, .int .i64 a1] [] [fV (lSlice lGPart) (.slice A0 n0 c0) a0] (Q_contract_Sign r) := by
  unfold contract_Sign at h
  refine spec_of (σ := [(0, _), (1, _)]) Try.func25 rfl rfl rfl rfl ?_
  intro C
  refine wc_know (fun _ h => h.lenF m0) (fun e => ?_)
  subst e
  refine wc_seq ?_
  refine wc_region ?_   -- region 0
  refine wl_det rfl rfl (det_assign rfl) rfl ?_
  refine wl_det rfl rfl (det_assign rfl) rfl ?_
  refine wl_nil ?_
  refine pn_then ?_
  refine wc_seq ?_
  refine wc_seq ?_
  refine wc_region ?_   -- region 1
  refine wl_det rfl rfl (det_move rfl) rfl ?_
  obtain ⟨r1_1, hr1_1, h⟩ := bind_some h
  refine wl_act (act_callS (cap := []) (W_contract_Parts a0 A0 a0.length c0 r1_1 hr1_1) rfl rfl rfl bd19 rfl ⟨m0, trivial⟩) rfl rfl rfl ?_
  rintro _ _ _ ⟨_, _, ⟨rfl, rfl, rfl⟩, rfl, rfl⟩
  dsimp only [List.nil_append, List.cons_append]
  refine wl_det rfl rfl (det_assign rfl) rfl ?_
  refine wl_nil ?_
  refine pn_then ?_
  refine wc_seq ?_
  refine wc_region ?_   -- region 2
  refine wl_det rfl rfl (det_move rfl) rfl ?_
  refine wl_det rfl rfl (det_neq rfl rfl) rfl ?_
  refine wl_det rfl rfl (det_move rfl) rfl ?_
  refine wl_way (!decide (r1_1 = 0)) ((!decide (r1_1 = 0)) && (!decide (r1_1 = 14))) 3 19 (fun hg => ?_) (fun hg => ?_) ?_
  · have hg2_5 := hg
    refine wl_on rfl rfl rfl rfl hg2_5 ?_
    refine wl_det rfl rfl (det_move rfl) rfl ?_
    refine wl_on rfl rfl rfl rfl hg2_5 ?_
    refine wl_det rfl rfl (det_neq rfl rfl) rfl ?_
    refine wl_det rfl rfl (det_and_on rfl rfl rfl hg2_5) rfl ?_
    exact wl_nil (pn_qnE (ext_cons rfl (ext_skip rfl (ext_skip rfl (ext_skip rfl ext_refl)))) (fun _ h => h))
  · have hg2_5a := hg
    refine wl_off rfl rfl rfl rfl rfl hg2_5a rfl ?_
    refine wl_off rfl rfl rfl rfl rfl hg2_5a rfl ?_
    refine wl_det rfl rfl (det_and_off (q := (!decide (r1_1 = 14))) rfl rfl rfl hg2_5a) rfl ?_
    exact wl_nil (pn_qnE (ext_cons rfl (ext_skip rfl (ext_skip rfl (ext_skip rfl ext_refl)))) (fun _ h => h))
  refine wl_nil ?_
  refine pn_then ?_
  refine wc_cond rfl (fun cd7 => ?_) (fun cd7 => ?_)
  · have h := ifT h cd7
    refine wc_seq ?_
    refine wc_region ?_   -- region 3
    refine wl_det rfl rfl (det_move rfl) rfl ?_
    refine wl_det rfl rfl (det_assign rfl) rfl ?_
    refine wl_det rfl rfl (det_assign rfl) rfl ?_
    refine wl_nil ?_
    refine pn_then ?_
    refine wc_ret ?_
    refine pr_then ?_
    refine pn_st (fun _ h => h.zeroS lGPart 25 none) ?_
    replace h := Option.some.inj h
    subst h
    refine pn_ret (vs := [_, _]) rfl ⟨rfl, rfl, trivial⟩ ⟨none, 0, 0, rfl, rfl, rfl⟩ (fun _ h => h.to ⟨_, r0, trivial⟩ trivial)
  · have h := ifF h cd7
    refine wc_skip ?_
    refine pn_then ?_
    refine wc_seq ?_
    refine wc_seq ?_
    refine wc_region ?_   -- region 4
    refine wl_det rfl rfl (det_move rfl) rfl ?_
    obtain ⟨r4_1, hr4_1, h⟩ := bind_some h
    refine wl_act (act_callS (cap := []) (W_contract_within a1 0 1000000 r4_1 hr4_1) rfl rfl rfl bd46 rfl trivial) rfl rfl rfl ?_
    rintro _ _ _ ⟨_, _, ⟨rfl, rfl, rfl⟩, rfl, rfl⟩
    dsimp only [List.nil_append, List.cons_append]
    refine wl_det rfl rfl (det_not rfl) rfl ?_
    refine wl_nil ?_
    refine pn_then ?_
    refine wc_cond rfl (fun cd13 => ?_) (fun cd13 => ?_)
    · have h := ifT h cd13
      refine wc_seq ?_
      refine wc_region ?_   -- region 5
      refine wl_det rfl rfl (det_assign rfl) rfl ?_
      refine wl_det rfl rfl (det_assign rfl) rfl ?_
      refine wl_nil ?_
      refine pn_then ?_
      refine wc_ret ?_
      refine pr_then ?_
      refine pn_st (fun _ h => h.zeroS lGPart 25 none) ?_
      replace h := Option.some.inj h
      subst h
      refine pn_ret (vs := [_, _]) rfl ⟨rfl, rfl, trivial⟩ ⟨none, 0, 0, rfl, rfl, rfl⟩ (fun _ h => h.to ⟨_, r0, trivial⟩ trivial)
    · have h := ifF h cd13
      refine wc_skip ?_
      refine pn_then ?_
      refine wc_seq ?_
      refine wc_region ?_   -- region 6
      refine wl_det rfl rfl (det_move rfl) rfl ?_
      obtain ⟨r6_1, hr6_1, h⟩ := bind_some h
      refine wl_act (act_callS (cap := []) (W_contract_shares a0 A0 a0.length c0 r6_1 hr6_1) rfl rfl rfl bd49 rfl ⟨m0, trivial⟩) rfl rfl rfl ?_
      rintro _ _ _ ⟨_, _, ⟨y6_1A0, y6_1n0, y6_1c0, rfl, rfl, rfl⟩, rfl, rfl⟩
      dsimp only [List.nil_append, List.cons_append]
      refine wl_know (fun _ h => h.lenO m0) (fun e => ?_)
      subst e
      refine wl_det rfl rfl (det_move rfl) rfl ?_
      obtain ⟨r6_3, hr6_3, h⟩ := bind_some h
      refine wl_act (act_callL (cap := []) [eS (lInt .i64) 3 y6_1A0 r6_1.length y6_1c0 r6_1] (W_split_Reduce r6_1 a1 y6_1A0 r6_1.length y6_1c0 r6_3 hr6_3) plains_split_Reduce rfl rfl rfl bd53 rfl ⟨m0, trivial⟩ ⟨.inr ⟨_, m0, lent_eS⟩, trivial⟩) rfl rfl rfl ?_
      rintro _ _ _ ⟨_, _, ⟨y6_3A0, y6_3n0, y6_3c0, rfl, rfl, rfl⟩, rfl, rfl⟩
      dsimp only [List.nil_append, List.cons_append]
      refine wl_know (fun _ h => h.lenO m0) (fun e => ?_)
      subst e
      refine wl_det rfl rfl (det_move rfl) rfl ?_
      refine wl_det rfl rfl (det_extract rfl rfl) rfl ?_
      refine wl_det rfl rfl (det_extract rfl rfl) rfl ?_
      refine wl_det rfl rfl (det_assign rfl) rfl ?_
      refine wl_det rfl rfl (det_assign rfl) rfl ?_
      refine wl_nil ?_
      refine pn_then ?_
      refine wc_seq ?_
      refine wc_seq ?_
      refine wc_region ?_   -- region 7
      refine wl_det rfl rfl (det_move rfl) rfl ?_
      refine wl_det rfl rfl (det_neq rfl rfl) rfl ?_
      refine wl_nil ?_
      refine pn_then ?_
      refine wc_cond rfl (fun cd21 => ?_) (fun cd21 => ?_)
      · have h := ifT h cd21
        refine wc_seq ?_
        refine wc_region ?_   -- region 8
        refine wl_det rfl rfl (det_move rfl) rfl ?_
        refine wl_det rfl rfl (det_assign rfl) rfl ?_
        refine wl_det rfl rfl (det_assign rfl) rfl ?_
        refine wl_nil ?_
        refine pn_then ?_
        refine wc_ret ?_
        refine pr_then ?_
        refine pn_st (fun _ h => h.zeroS lGPart 25 none) ?_
        replace h := Option.some.inj h
        subst h
        refine pn_ret (vs := [_, _]) rfl ⟨rfl, rfl, trivial⟩ ⟨none, 0, 0, rfl, rfl, rfl⟩ (fun _ h => h.to ⟨_, r0, trivial⟩ trivial)
      · have h := ifF h cd21
        refine wc_skip ?_
        refine pn_then ?_
        refine wc_seq ?_
        refine wc_region ?_   -- region 9
        refine wl_det rfl rfl (det_assign rfl) rfl ?_
        refine wl_nil ?_
        refine pn_then ?_
        obtain ⟨q26, h, ho26⟩ := bind_some h
        refine wc_meetG (G := (List GPart) × Option Addr × Nat × Nat × Unit) (fun (s26, _, _, _, _) => s26 = q26) (fun (_, A26_0, n26_0, c26_0, _) => [(9, .slice A26_0 n26_0 c26_0)]) (fun (s26, A26_0, n26_0, c26_0, _) => [eS lGPart 25 A26_0 n26_0 c26_0 s26]) (fun (_, _, _, _, _) => []) ?_ ?_
        · refine wc_seq ?_
          refine wc_region ?_   -- region 10
          refine wl_det rfl rfl (det_move rfl) rfl ?_
          refine wl_det rfl rfl (det_len rfl un23) rfl ?_
          refine wl_det rfl rfl (det_move rfl) rfl ?_
          refine wl_nil ?_
          refine pn_then ?_
          refine wc_block ?_
          refine wc_st (fun _ h => h.zeroS lGPart 25 none) ?_
          obtain ⟨k30, hk30⟩ := loopV_some.1 h
          refine wc_loop (G := Nat × ((List GPart) × Int) × Option Addr × Nat × Nat × Unit) (fun g => IterN (contract_Sign_l30 a0 r6_3) g.1 g.2.1 q26) (fun g => g.1) (fun (_, s30, A30_0, n30_0, c30_0, _) => [(0, .slice A0 a0.length c0), (9, .slice A30_0 n30_0 c30_0), (34, .slice y6_3A0 r6_3.1.length y6_3c0), (35, .int .i64 (r6_3.1.length : Int)), (36, .int .i64 s30.2)]) (fun (_, s30, A30_0, n30_0, c30_0, _) => [eS lGPart 25 A30_0 n30_0 c30_0 s30.1, eS (lInt .i64) 3 y6_3A0 r6_3.1.length y6_3c0 r6_3.1]) (fun (_, _, _, _, _, _) => [fV (lSlice lGPart) (.slice A0 a0.length c0) a0]) (k30, ([], 0), none, 0, 0, ()) hk30 ⟨rfl, rfl, rfl, rfl, rfl, trivial⟩ (fun _ h => h.to ⟨_, r0, ⟨_, r0, trivial⟩⟩ ⟨m0, trivial⟩) ?_
          rintro ⟨k30, s30, A30_0, n30_0, c30_0, _⟩ hI
          obtain ⟨k30, rfl, q30, h, g30⟩ := IterN.pos hI
          dsimp only at h ⊢
          unfold contract_Sign_l30 at h
          refine wc_know (fun _ h => h.lenO m0) (fun e => ?_)
          subst e
          refine wc_seq ?_
          refine wc_region ?_   -- region 11
          refine wl_det rfl rfl (det_lss rfl rfl) rfl ?_
          refine wl_nil ?_
          refine pn_then ?_
          refine wc_seq ?_
          refine wc_cond rfl (fun cd34 => ?_) (fun cd34 => ?_)
          · have h := ifT h cd34
            refine wc_skip ?_
            refine pn_then ?_
            obtain ⟨q36, h, ho36⟩ := bind_some h
            refine wc_meetG (G := (List GPart) × Option Addr × Nat × Nat × Unit) (fun (s36, _, _, _, _) => s36 = q36) (fun (_, A36_0, n36_0, c36_0, _) => [(0, .slice A0 a0.length c0), (9, .slice A36_0 n36_0 c36_0), (34, .slice y6_3A0 r6_3.1.length y6_3c0), (35, .int .i64 (r6_3.1.length : Int)), (36, .int .i64 s30.2)]) (fun (s36, A36_0, n36_0, c36_0, _) => [eS lGPart 25 A36_0 n36_0 c36_0 s36, eS (lInt .i64) 3 y6_3A0 r6_3.1.length y6_3c0 r6_3.1]) (fun (_, _, _, _, _) => [fV (lSlice lGPart) (.slice A0 a0.length c0) a0]) ?_ ?_
            · refine wc_block ?_
              refine wc_seq ?_
              refine wc_region ?_   -- region 12
              refine wl_det rfl rfl (det_move rfl) rfl ?_
              obtain ⟨k12_1, h⟩ := chk_some h
              refine wl_det rfl rfl (det_indexO rfl rfl (ms m0) k12_1 un23 sz3) rfl ?_
              refine wl_det rfl rfl (det_loadO (off := 0) rfl (ms m0) k12_1 (by rfl) (by rfl) (loaded_1 na3 us3)) rfl ?_
              refine wl_det rfl rfl (det_assign rfl) rfl ?_
              refine wl_det rfl rfl (det_assign rfl) rfl ?_
              refine wl_nil ?_
              refine pn_then ?_
              refine wc_seq ?_
              refine wc_region ?_   -- region 13
              refine wl_det rfl rfl (det_move rfl) rfl ?_
              refine wl_det rfl rfl (det_gtr rfl rfl) rfl ?_
              refine wl_nil ?_
              refine pn_then ?_
              refine wc_cond rfl (fun cd42 => ?_) (fun cd42 => ?_)
              · have h := ifT h cd42
                refine wc_region ?_   -- region 14
                refine wl_det rfl rfl (det_move rfl) rfl ?_
                refine wl_det rfl rfl (det_move rfl) rfl ?_
                refine wl_det rfl rfl (det_move rfl) rfl ?_
                obtain ⟨k14_3, h⟩ := chk_some h
                refine wl_st (fun _ h => h.openF m0 k14_3) ?_
                refine wl_det rfl rfl (det_indexP rfl rfl (ms m0) k14_3 m0 un22 sz25) rfl ?_
                refine wl_det rfl rfl (det_fieldP rfl m0 fd25_0 rfl) rfl ?_
                refine wl_det rfl rfl (det_loadP (off := 0) rfl m0 (by rfl) (by rfl) (loaded_1 na3 us3)) rfl ?_
                refine wl_det rfl rfl (det_move rfl) rfl ?_
                refine wl_det rfl rfl (det_build (cs := [_, _]) pl25 zr25 rfl rfl (by rfl)) rfl ?_
                refine wl_act (act_litS lGPart (vs := [_]) (cs := [_, _]) [(GPart.mk (ix a0 s30.2).Party (ix r6_3.1 s30.2))] un22 in25 rfl rfl rfl rfl rfl ⟨rfl, trivial⟩ (by rfl) rfl (litR_flat rfl)) rfl rfl rfl ?_
                rintro _ _ _ ⟨A14_8, rfl, rfl, rfl⟩
                obtain ⟨k14_9, h⟩ := chk_some h
                refine wl_act (act_appendS (L := lGPart) rfl rfl (ss s0) (src_O m0) un22 in25 rfl rfl rfl k14_9) rfl rfl rfl ?_
                rintro _ _ _ ⟨A14_9, c14_9, rfl, rfl, rfl⟩
                refine wl_det rfl rfl (det_assign rfl) rfl ?_
                refine wl_nil ?_
                refine pn_block ?_
                replace h := Option.some.inj h
                subst h
                exact pn_meetG ((s30.1 ++ [(GPart.mk (ix a0 s30.2).Party (ix r6_3.1 s30.2))]), A14_9, (s30.1 ++ [(GPart.mk (ix a0 s30.2).Party (ix r6_3.1 s30.2))]).length, c14_9, ()) rfl ⟨rfl, rfl, rfl, rfl, rfl, trivial⟩ (fun _ h => h.to ⟨_, (rs r0), ⟨_, (rs r0), trivial⟩⟩ ⟨(ms m0), trivial⟩)
              · have h := ifF h cd42
                refine wc_skip ?_
                refine pn_block ?_
                replace h := Option.some.inj h
                subst h
                exact pn_meetG (s30.1, A30_0, s30.1.length, c30_0, ()) rfl ⟨rfl, rfl, rfl, rfl, rfl, trivial⟩ (fun _ h => h.to ⟨_, r0, ⟨_, r0, trivial⟩⟩ ⟨m0, trivial⟩)
            rintro ⟨s36, A36_0, n36_0, c36_0, _⟩ e36
            dsimp only at e36 ⊢
            subst e36
            have h := ho36
            refine wc_know (fun _ h => h.lenO m0) (fun e => ?_)
            subst e
            refine wc_region ?_   -- region 15
            refine wl_det rfl rfl (det_add rfl rfl) rfl ?_
            refine wl_det rfl rfl (det_move rfl) rfl ?_
            refine wl_nil ?_
            replace h := Option.some.inj h
            subst h
            exact pn_some (k30, (s36, (w64 (s30.2 + 1))), A36_0, s36.length, c36_0, ()) ⟨nextL g30, Nat.lt_succ_self _⟩ ⟨rfl, rfl, rfl, rfl, rfl, trivial⟩ (fun _ h => h.to ⟨_, r0, ⟨_, r0, trivial⟩⟩ ⟨m0, trivial⟩)
          · have h := ifF h cd34
            refine wc_exit ?_
            refine px_then ?_
            refine px_then ?_
            refine px_block ?_
            replace h := Option.some.inj h
            subst h
            replace g30 := nextR g30
            subst g30
            exact pn_meetG (s30.1, A30_0, s30.1.length, c30_0, ()) rfl ⟨rfl, trivial⟩ (fun _ h => h.to ⟨_, r0, trivial⟩ trivial)
        rintro ⟨s26, A26_0, n26_0, c26_0, _⟩ e26
        dsimp only at e26 ⊢
        subst e26
        have h := ho26
        refine wc_know (fun _ h => h.lenO m0) (fun e => ?_)
        subst e
        refine wc_seq ?_
        refine wc_region ?_   -- region 16
        refine wl_det rfl rfl (det_move rfl) rfl ?_
        refine wl_det rfl rfl (det_assign rfl) rfl ?_
        refine wl_det rfl rfl (det_assign rfl) rfl ?_
        refine wl_nil ?_
        refine pn_then ?_
        refine wc_ret ?_
        replace h := Option.some.inj h
        subst h
        refine pn_ret (vs := [_, _]) rfl ⟨rfl, rfl, trivial⟩ ⟨A26_0, s26.length, c26_0, rfl, rfl, rfl⟩ (fun _ h => h.to ⟨_, r0, trivial⟩ trivial)
def Q_treatyref01_SameInts (r : Bool) : Value → List Ent → List Fact → Prop := fun v θ κ => v = .bool r ∧ θ = [] ∧ κ = []
theorem plains_treatyref01_SameInts {r : Bool} : ∀ v θ κ, Q_treatyref01_SameInts r v θ κ → Plains θ := by
  rintro _ _ _ ⟨rfl, rfl, rfl⟩
  exact trivial
set_option maxHeartbeats 4000000 in
set_option maxRecDepth 100000 in
theorem W_treatyref01_SameInts (a0 : (List Int)) (a1 : (List Int)) (A0 : Option Addr) (n0 : Nat) (c0 : Nat) (A3 : Option Addr) (n3 : Nat) (c3 : Nat) (r : Bool) (h : treatyref01_SameInts a0 a1 = some r) : Spec Try.prog 24 [.slice A0 n0 c0, .slice A3 n3 c3] [] [fV (lSlice (lInt .i64)) (.slice A0 n0 c0) a0, fV (lSlice (lInt .i64)) (.slice A3 n3 c3) a1] (Q_treatyref01_SameInts r) := by
  unfold treatyref01_SameInts at h
  refine spec_of (σ := [(0, _), (1, _)]) Try.func24 rfl rfl rfl rfl ?_
  intro C
  refine wc_know (fun _ h => h.lenF m0) (fun e => ?_)
  subst e
  refine wc_know (fun _ h => h.lenF (ms m0)) (fun e => ?_)
  subst e
  refine wc_seq ?_
  refine wc_region ?_   -- region 0
  refine wl_det rfl rfl (det_assign rfl) rfl ?_
  refine wl_nil ?_
  refine pn_then ?_
  refine wc_seq ?_
  refine wc_seq ?_
  refine wc_region ?_   -- region 1
  refine wl_det rfl rfl (det_move rfl) rfl ?_
  refine wl_det rfl rfl (det_len rfl un23) rfl ?_
  refine wl_det rfl rfl (det_move rfl) rfl ?_
  refine wl_det rfl rfl (det_len rfl un23) rfl ?_
  refine wl_det rfl rfl (det_neq rfl rfl) rfl ?_
  refine wl_nil ?_
  refine pn_then ?_
  refine wc_cond rfl (fun cd5 => ?_) (fun cd5 => ?_)
  · have h := ifT h cd5
    refine wc_seq ?_
    refine wc_region ?_   -- region 2
    refine wl_det rfl rfl (det_assign rfl) rfl ?_
    refine wl_nil ?_
    refine pn_then ?_
    refine wc_ret ?_
    refine pr_then ?_
    replace h := Option.some.inj h
    subst h
    refine pn_ret (vs := [_]) rfl ⟨rfl, trivial⟩ ⟨rfl, rfl, rfl⟩ (fun _ h => h.to trivial trivial)
  · have h := ifF h cd5
    refine wc_skip ?_
    refine pn_then ?_
    obtain ⟨q8, h, ho8⟩ := bind_some h
    refine wc_meetG (G := Unit × Unit) (fun (s8, _) => (.inl s8) = q8) (fun (_, _) => []) (fun (_, _) => []) (fun (_, _) => []) ?_ ?_
    · refine wc_seq ?_
      refine wc_region ?_   -- region 3
      refine wl_det rfl rfl (det_assign rfl) rfl ?_
      refine wl_nil ?_
      refine pn_then ?_
      refine wc_block ?_
      obtain ⟨o12, h, ho12⟩ := bind_some h
      obtain ⟨k12, hk12⟩ := loopV_some.1 h
      refine wc_loop (G := Nat × Int × Unit) (fun g => IterN (treatyref01_SameInts_l12 a0 a1) g.1 g.2.1 o12) (fun g => g.1) (fun (_, s12, _) => [(0, .slice A0 a0.length c0), (1, .slice A3 a1.length c3), (5, .int .i64 s12)]) (fun (_, _, _) => []) (fun (_, _, _) => [fV (lSlice (lInt .i64)) (.slice A0 a0.length c0) a0, fV (lSlice (lInt .i64)) (.slice A3 a1.length c3) a1]) (k12, 0, ()) hk12 ⟨rfl, rfl, rfl, trivial⟩ (fun _ h => h.to trivial ⟨m0, ⟨(ms m0), trivial⟩⟩) ?_
      rintro ⟨k12, s12, _⟩ hI
      obtain ⟨k12, rfl, q12, h, g12⟩ := IterN.pos hI
      dsimp only at h ⊢
      unfold treatyref01_SameInts_l12 at h
      refine wc_seq ?_
      refine wc_seq ?_
      refine wc_region ?_   -- region 4
      refine wl_det rfl rfl (det_move rfl) rfl ?_
      refine wl_det rfl rfl (det_move rfl) rfl ?_
      refine wl_det rfl rfl (det_len rfl un23) rfl ?_
      refine wl_det rfl rfl (det_lss rfl rfl) rfl ?_
      refine wl_nil ?_
      refine pn_then ?_
      refine wc_cond rfl (fun cd16 => ?_) (fun cd16 => ?_)
      · have h := ifT h cd16
        refine wc_skip ?_
        refine pn_then ?_
        refine wc_seq ?_
        refine wc_block ?_
        refine wc_seq ?_
        obtain ⟨k6_p1, h⟩ := chk_some h
        refine wc_st (fun _ h => h.openF m0 k6_p1) ?_
        obtain ⟨k6_p3, h⟩ := chk_some h
        refine wc_st (fun _ h => h.openF (ms (ms m0)) k6_p3) ?_
        refine dx_region 9 [[], [], [0, 1], [0, 1, 2], [], [], [4, 5], [4, 5, 6], [0, 1, 2, 3, 4, 5, 6, 7]] mixed (ord := (.det 0 (.det 1 (.det 2 (.det 3 (.det 4 (.det 5 (.det 6 (.det 7 (.det 8 .done)))))))))) (by kernel_rfl) ?_   -- region 6
        refine hx_det rfl rfl rfl nofun (det_move rfl) rfl ?_
        refine hx_det rfl rfl rfl nofun (det_move rfl) rfl ?_
        refine hx_det rfl rfl rfl nofun (det_indexP rfl rfl (ms (ms m0)) k6_p1 (ms m0) un23 sz3) rfl ?_
        refine hx_det rfl rfl rfl nofun (det_loadP (off := 0) rfl (ms m0) (by rfl) (by rfl) (loaded_1 na3 us3)) rfl ?_
        refine hx_det rfl rfl rfl nofun (det_move rfl) rfl ?_
        refine hx_det rfl rfl rfl nofun (det_move rfl) rfl ?_
        refine hx_det rfl rfl rfl nofun (det_indexP rfl rfl (ms (ms (ms m0))) k6_p3 m0 un23 sz3) rfl ?_
        refine hx_det rfl rfl rfl nofun (det_loadP (off := 0) rfl m0 (by rfl) (by rfl) (loaded_1 na3 us3)) rfl ?_
        refine hx_det rfl rfl rfl nofun (det_neq rfl rfl) rfl ?_
        refine hx_end ?_
        refine wl_nil ?_
        refine pn_then ?_
        refine wc_cond rfl (fun cd22 => ?_) (fun cd22 => ?_)
        · have h := ifT h cd22
          refine wc_seq ?_
          refine wc_region ?_   -- region 7
          refine wl_det rfl rfl (det_assign rfl) rfl ?_
          refine wl_nil ?_
          refine pn_then ?_
          refine wc_ret ?_
          refine pr_block ?_
          refine pr_then ?_
          refine pr_then ?_
          refine pr_block ?_
          refine pr_then ?_
          replace h := Option.some.inj h
          subst h
          replace g12 := nextR g12
          subst g12
          have h := (elimL ho12)
          replace h := Option.some.inj h
          subst h
          have h := (elimR ho8)
          replace h := Option.some.inj h
          subst h
          refine pn_ret (vs := [_]) rfl ⟨rfl, trivial⟩ ⟨rfl, rfl, rfl⟩ (fun _ h => h.to trivial trivial)
        · have h := ifF h cd22
          refine wc_skip ?_
          refine pn_block ?_
          refine pn_then ?_
          refine wc_region ?_   -- region 5
          refine wl_det rfl rfl (det_move rfl) rfl ?_
          refine wl_det rfl rfl (det_add rfl rfl) rfl ?_
          refine wl_det rfl rfl (det_assign rfl) rfl ?_
          refine wl_nil ?_
          replace h := Option.some.inj h
          subst h
          exact pn_some (k12, (w64 (s12 + 1)), ()) ⟨nextL g12, Nat.lt_succ_self _⟩ ⟨rfl, rfl, rfl, trivial⟩ (fun _ h => h.to trivial ⟨(ms (ms m0)), ⟨(ms (ms (ms m0))), trivial⟩⟩)
      · have h := ifF h cd16
        refine wc_exit ?_
        refine px_then ?_
        refine px_then ?_
        refine px_block ?_
        replace h := Option.some.inj h
        subst h
        replace g12 := nextR g12
        subst g12
        have h := (elimR ho12)
        replace h := Option.some.inj h
        subst h
        exact pn_meetG ((), ()) rfl trivial (fun _ h => h.to trivial trivial)
    rintro ⟨s8, _⟩ e8
    dsimp only at e8 ⊢
    subst e8
    have h := (elimL ho8)
    refine wc_seq ?_
    refine wc_region ?_   -- region 8
    refine wl_det rfl rfl (det_assign rfl) rfl ?_
    refine wl_nil ?_
    refine pn_then ?_
    refine wc_ret ?_
    replace h := Option.some.inj h
    subst h
    refine pn_ret (vs := [_]) rfl ⟨rfl, trivial⟩ ⟨rfl, rfl, rfl⟩ (fun _ h => h.to trivial trivial)
def Q_treatylaw20_awake (r : Bool) : Value → List Ent → List Fact → Prop := fun v θ κ => v = .bool r ∧ θ = [] ∧ κ = []
theorem plains_treatylaw20_awake {r : Bool} : ∀ v θ κ, Q_treatylaw20_awake r v θ κ → Plains θ := by
  rintro _ _ _ ⟨rfl, rfl, rfl⟩
  exact trivial
set_option maxHeartbeats 4000000 in
set_option maxRecDepth 100000 in
theorem W_treatylaw20_awake (r : Bool) (h : treatylaw20_awake = some r) : Spec Try.prog 15 [] [] [] (Q_treatylaw20_awake r) := by
  unfold treatylaw20_awake at h
  refine spec_of (σ := []) Try.func15 rfl rfl rfl rfl ?_
  intro C
  refine wc_seq ?_
  refine wc_region ?_   -- region 0
  refine wl_det rfl rfl (det_assign rfl) rfl ?_
  refine wl_nil ?_
  refine pn_then ?_
  refine wc_seq ?_
  refine wc_region ?_   -- region 1
  refine wl_det rfl rfl (det_build (cs := [_, _]) pl25 zr25 rfl rfl (by rfl)) rfl ?_
  refine wl_det rfl rfl (det_build (cs := [_, _]) pl25 zr25 rfl rfl (by rfl)) rfl ?_
  refine wl_act (act_litS lGPart (vs := [_, _]) (cs := [_, _, _, _]) [(GPart.mk 1 300000), (GPart.mk 2 300000)] un22 in25 rfl rfl rfl rfl rfl ⟨rfl, rfl, trivial⟩ (by rfl) rfl (litR_flat rfl)) rfl rfl rfl ?_
  rintro _ _ _ ⟨A1_2, rfl, rfl, rfl⟩
  obtain ⟨r1_3, hr1_3, h⟩ := bind_some h
  refine wl_act (act_callL (cap := []) [eS lGPart 25 A1_2 2 2 [(GPart.mk 1 300000), (GPart.mk 2 300000)]] (W_contract_Divide 100 [(GPart.mk 1 300000), (GPart.mk 2 300000)] A1_2 2 2 r1_3 hr1_3) plains_contract_Divide rfl rfl rfl bd21 rfl ⟨m0, trivial⟩ ⟨.inr ⟨_, m0, lent_eS⟩, trivial⟩) rfl rfl rfl ?_
  rintro _ _ _ ⟨_, _, ⟨y1_3A0, y1_3n0, y1_3c0, rfl, rfl, rfl⟩, rfl, rfl⟩
  dsimp only [List.nil_append, List.cons_append]
  refine wl_know (fun _ h => h.lenO m0) (fun e => ?_)
  subst e
  refine wl_det rfl rfl (det_move rfl) rfl ?_
  refine wl_det rfl rfl (det_extract rfl rfl) rfl ?_
  refine wl_det rfl rfl (det_extract rfl rfl) rfl ?_
  refine wl_det rfl rfl (det_assign rfl) rfl ?_
  refine wl_det rfl rfl (det_assign rfl) rfl ?_
  refine wl_nil ?_
  refine pn_then ?_
  refine wc_seq ?_
  refine wc_region ?_   -- region 2
  refine wl_det rfl rfl (det_build (cs := [_, _]) pl25 zr25 rfl rfl (by rfl)) rfl ?_
  refine wl_det rfl rfl (det_build (cs := [_, _]) pl25 zr25 rfl rfl (by rfl)) rfl ?_
  refine wl_act (act_litS lGPart (vs := [_, _]) (cs := [_, _, _, _]) [(GPart.mk 1 600000), (GPart.mk 2 600000)] un22 in25 rfl rfl rfl rfl rfl ⟨rfl, rfl, trivial⟩ (by rfl) rfl (litR_flat rfl)) rfl rfl rfl ?_
  rintro _ _ _ ⟨A2_2, rfl, rfl, rfl⟩
  obtain ⟨r2_3, hr2_3, h⟩ := bind_some h
  refine wl_act (act_callL (cap := []) [eS lGPart 25 A2_2 2 2 [(GPart.mk 1 600000), (GPart.mk 2 600000)]] (W_contract_Sign [(GPart.mk 1 600000), (GPart.mk 2 600000)] 1000000 A2_2 2 2 r2_3 hr2_3) plains_contract_Sign rfl rfl rfl bd25 rfl ⟨m0, trivial⟩ ⟨.inr ⟨_, m0, lent_eS⟩, trivial⟩) rfl rfl rfl ?_
  rintro _ _ _ ⟨_, _, ⟨y2_3A0, y2_3n0, y2_3c0, rfl, rfl, rfl⟩, rfl, rfl⟩
  dsimp only [List.nil_append, List.cons_append]
  refine wl_know (fun _ h => h.lenO m0) (fun e => ?_)
  subst e
  refine wl_det rfl rfl (det_move rfl) rfl ?_
  refine wl_det rfl rfl (det_extract rfl rfl) rfl ?_
  refine wl_det rfl rfl (det_extract rfl rfl) rfl ?_
  refine wl_det rfl rfl (det_assign rfl) rfl ?_
  refine wl_det rfl rfl (det_assign rfl) rfl ?_
  refine wl_nil ?_
  refine pn_then ?_
  refine wc_seq ?_
  refine wc_region ?_   -- region 3
  refine wl_det rfl rfl (det_move rfl) rfl ?_
  refine wl_det rfl rfl (det_eql rfl rfl) rfl ?_
  refine wl_det rfl rfl (det_move rfl) rfl ?_
  obtain ⟨q3_6, hq3_6, h⟩ := bind_some h
  have ho3_6 := h
  refine wl_way (decide (r1_3.2 = 0)) q3_6 4 25 (fun hg => ?_) (fun hg => ?_) ?_
  · have hg3_6 := hg
    have h := ifT hq3_6 hg
    refine wl_on rfl rfl rfl rfl hg3_6 ?_
    refine wl_det rfl rfl (det_move rfl) rfl ?_
    refine wl_on rfl rfl rfl rfl hg3_6 ?_
    refine wl_act (act_litS (lInt .i64) (vs := [_, _, _]) (cs := [_, _, _]) [40, 30, 30] un23 in3 rfl rfl rfl rfl rfl ⟨rfl, rfl, rfl, trivial⟩ (by rfl) rfl (litR_flat rfl)) rfl rfl rfl ?_
    rintro _ _ _ ⟨A3_4, rfl, rfl, rfl⟩
    refine wl_on rfl rfl rfl rfl hg3_6 ?_
    obtain ⟨r3_5, hr3_5, h⟩ := bind_some h
    refine wl_act (act_callL (cap := []) [eS (lInt .i64) 3 y1_3A0 r1_3.1.length y1_3c0 r1_3.1, eS (lInt .i64) 3 A3_4 3 3 [40, 30, 30]] (W_treatyref01_SameInts r1_3.1 [40, 30, 30] y1_3A0 r1_3.1.length y1_3c0 A3_4 3 3 r3_5 hr3_5) plains_treatyref01_SameInts rfl rfl rfl bd24 rfl ⟨(ms (ms (ms m0))), ⟨m0, trivial⟩⟩ ⟨.inr ⟨_, m0, lent_eS⟩, ⟨.inr ⟨_, (ms m0), lent_eS⟩, trivial⟩⟩) rfl rfl rfl ?_
    rintro _ _ _ ⟨_, _, ⟨rfl, rfl, rfl⟩, rfl, rfl⟩
    dsimp only [List.nil_append, List.cons_append]
    replace h := Option.some.inj h
    subst h
    refine wl_det rfl rfl (det_pick_on rfl hg3_6 rfl rfl) rfl ?_
    exact wl_nil (pn_qnE (ext_cons rfl (ext_skip rfl (ext_skip rfl (ext_skip rfl (ext_skip rfl ext_refl))))) (fun _ h => h.to ⟨_, (rs r0), ⟨_, (rs r0), ⟨_, (rs r0), ⟨_, (rs r0), trivial⟩⟩⟩⟩ trivial))
  · have hg3_6a := hg
    have h := ifF hq3_6 hg
    refine wl_off rfl rfl rfl rfl rfl hg3_6a rfl ?_
    refine wl_off rfl rfl rfl rfl rfl hg3_6a rfl ?_
    refine wl_off rfl rfl rfl rfl rfl hg3_6a rfl ?_
    replace h := Option.some.inj h
    subst h
    refine wl_det rfl rfl (det_pick_off rfl hg3_6a rfl rfl) rfl ?_
    exact wl_nil (pn_qnE (ext_cons rfl (ext_skip rfl (ext_skip rfl (ext_skip rfl (ext_skip rfl ext_refl))))) (fun _ h => h))
  have h := ho3_6
  refine wl_det rfl rfl (det_move rfl) rfl ?_
  refine wl_way q3_6 (q3_6 && (decide (r2_3.2 = 0))) 3 29 (fun hg => ?_) (fun hg => ?_) ?_
  · have hg3_10 := hg
    refine wl_on rfl rfl rfl rfl hg3_10 ?_
    refine wl_det rfl rfl (det_move rfl) rfl ?_
    refine wl_on rfl rfl rfl rfl hg3_10 ?_
    refine wl_det rfl rfl (det_eql rfl rfl) rfl ?_
    refine wl_det rfl rfl (det_and_on rfl rfl rfl hg3_10) rfl ?_
    exact wl_nil (pn_qnE (ext_cons rfl (ext_skip rfl (ext_skip rfl (ext_skip rfl ext_refl)))) (fun _ h => h))
  · have hg3_10a := hg
    refine wl_off rfl rfl rfl rfl rfl hg3_10a rfl ?_
    refine wl_off rfl rfl rfl rfl rfl hg3_10a rfl ?_
    refine wl_det rfl rfl (det_and_off (q := (decide (r2_3.2 = 0))) rfl rfl rfl hg3_10a) rfl ?_
    exact wl_nil (pn_qnE (ext_cons rfl (ext_skip rfl (ext_skip rfl (ext_skip rfl ext_refl)))) (fun _ h => h))
  refine wl_det rfl rfl (det_move rfl) rfl ?_
  refine wl_way (q3_6 && (decide (r2_3.2 = 0))) ((q3_6 && (decide (r2_3.2 = 0))) && (decide ((r2_3.1.length : Int) = 2))) 4 34 (fun hg => ?_) (fun hg => ?_) ?_
  · have hg3_15 := hg
    refine wl_on rfl rfl rfl rfl hg3_15 ?_
    refine wl_det rfl rfl (det_move rfl) rfl ?_
    refine wl_on rfl rfl rfl rfl hg3_15 ?_
    refine wl_det rfl rfl (det_len rfl un22) rfl ?_
    refine wl_on rfl rfl rfl rfl hg3_15 ?_
    refine wl_det rfl rfl (det_eql rfl rfl) rfl ?_
    refine wl_det rfl rfl (det_and_on rfl rfl rfl hg3_15) rfl ?_
    exact wl_nil (pn_qnE (ext_cons rfl (ext_skip rfl (ext_skip rfl (ext_skip rfl (ext_skip rfl ext_refl))))) (fun _ h => h))
  · have hg3_15a := hg
    refine wl_off rfl rfl rfl rfl rfl hg3_15a rfl ?_
    refine wl_off rfl rfl rfl rfl rfl hg3_15a rfl ?_
    refine wl_off rfl rfl rfl rfl rfl hg3_15a rfl ?_
    refine wl_det rfl rfl (det_and_off (q := (decide ((r2_3.1.length : Int) = 2))) rfl rfl rfl hg3_15a) rfl ?_
    exact wl_nil (pn_qnE (ext_cons rfl (ext_skip rfl (ext_skip rfl (ext_skip rfl (ext_skip rfl ext_refl))))) (fun _ h => h))
  refine wl_det rfl rfl (det_move rfl) rfl ?_
  obtain ⟨q3_22, hq3_22, h⟩ := bind_some h
  have ho3_22 := h
  refine wl_way ((q3_6 && (decide (r2_3.2 = 0))) && (decide ((r2_3.1.length : Int) = 2))) q3_22 6 41 (fun hg => ?_) (fun hg => ?_) ?_
  · have hg3_22 := hg
    have h := ifT hq3_22 hg
    refine wl_on rfl rfl rfl rfl hg3_22 ?_
    refine wl_det rfl rfl (det_move rfl) rfl ?_
    refine wl_on rfl rfl rfl rfl hg3_22 ?_
    obtain ⟨k3_18, h⟩ := chk_some h
    refine wl_det rfl rfl (det_indexO rfl rfl m0 k3_18 un22 sz25) rfl ?_
    refine wl_on rfl rfl rfl rfl hg3_22 ?_
    refine wl_det rfl rfl (det_fieldO rfl m0 k3_18 fd25_1 rfl) rfl ?_
    refine wl_on rfl rfl rfl rfl hg3_22 ?_
    refine wl_det rfl rfl (det_loadO (off := 1) rfl m0 k3_18 (by rfl) (by rfl) (loaded_1 na3 us3)) rfl ?_
    refine wl_on rfl rfl rfl rfl hg3_22 ?_
    refine wl_det rfl rfl (det_eql rfl rfl) rfl ?_
    replace h := Option.some.inj h
    subst h
    refine wl_det rfl rfl (det_pick_on rfl hg3_22 rfl rfl) rfl ?_
    exact wl_nil (pn_qnE (ext_cons rfl (ext_skip rfl (ext_skip rfl (ext_skip rfl (ext_skip rfl (ext_skip rfl (ext_skip rfl ext_refl))))))) (fun _ h => h))
  · have hg3_22a := hg
    have h := ifF hq3_22 hg
    refine wl_off rfl rfl rfl rfl rfl hg3_22a rfl ?_
    refine wl_off rfl rfl rfl rfl rfl hg3_22a rfl ?_
    refine wl_off rfl rfl rfl rfl rfl hg3_22a rfl ?_
    refine wl_off rfl rfl rfl rfl rfl hg3_22a rfl ?_
    refine wl_off rfl rfl rfl rfl rfl hg3_22a rfl ?_
    replace h := Option.some.inj h
    subst h
    refine wl_det rfl rfl (det_pick_off rfl hg3_22a rfl rfl) rfl ?_
    exact wl_nil (pn_qnE (ext_cons rfl (ext_skip rfl (ext_skip rfl (ext_skip rfl (ext_skip rfl (ext_skip rfl (ext_skip rfl ext_refl))))))) (fun _ h => h))
  have h := ho3_22
  refine wl_det rfl rfl (det_assign rfl) rfl ?_
  refine wl_nil ?_
  refine pn_then ?_
  refine wc_ret ?_
  replace h := Option.some.inj h
  subst h
  refine pn_ret (vs := [_]) rfl ⟨rfl, trivial⟩ ⟨rfl, rfl, rfl⟩ (fun _ h => h.to trivial trivial)
def Q_treatymade_New (r : GDeck) : Value → List Ent → List Fact → Prop := fun v θ κ => ∃ (pb0 : Nat), ∃ (pA1 : Option Addr), ∃ (pn1 : Nat), ∃ (pc1 : Nat), v = .pointer (some ⟨pb0, 0, none⟩) ∧ θ = [eBlk pb0 71 [.slice pA1 pn1 pc1, .int .i64 r.At]] ∧ κ = [fV (lSlice (lInt .i64)) (.slice pA1 pn1 pc1) r.L]
set_option maxHeartbeats 4000000 in
set_option maxRecDepth 100000 in
theorem W_treatymade_New (a0 : (List Int)) (A0 : Option Addr) (n0 : Nat) (c0 : Nat) (r : GDeck) (h : treatymade_New a0 = some r) : Spec Try.prog 16 [.slice A0 n0 c0] [] [fV (lSlice (lInt .i64)) (.slice A0 n0 c0) a0] (Q_treatymade_New r) := by
  unfold treatymade_New at h
  refine spec_of (σ := [(0, _)]) Try.func16 rfl rfl rfl rfl ?_
  intro C
  refine wc_know (fun _ h => h.lenF m0) (fun e => ?_)
  subst e
  refine wc_seq ?_
  refine wc_region ?_   -- region 0
  refine wl_det rfl rfl (det_assign rfl) rfl ?_
  refine wl_nil ?_
  refine pn_then ?_
  refine wc_seq ?_
  refine wc_region ?_   -- region 1
  refine wl_det rfl rfl (det_move rfl) rfl ?_
  refine wl_det rfl rfl (det_build (cs := [_, _]) pl71 zr71 rfl rfl (by rfl)) rfl ?_
  refine wl_act (act_box (cs := [_, _]) rfl rfl) rfl rfl rfl ?_
  rintro _ _ _ ⟨b1_2, rfl, rfl, rfl⟩
  refine wl_det rfl rfl (det_assign rfl) rfl ?_
  refine wl_nil ?_
  refine pn_then ?_
  refine wc_ret ?_
  replace h := Option.some.inj h
  subst h
  refine pn_ret (vs := [_]) rfl ⟨rfl, trivial⟩ ⟨b1_2, A0, a0.length, c0, rfl, rfl, rfl⟩ (fun _ h => h.to ⟨_, r0, trivial⟩ ⟨m0, trivial⟩)
def Q_treatymade_Deck_Next (Ba0 : Nat) (r : Int × GDeck) : Value → List Ent → List Fact → Prop := fun v θ κ => ∃ (pA0 : Option Addr), ∃ (pn0 : Nat), ∃ (pc0 : Nat), v = .int .i64 r.1 ∧ θ = [eBlk Ba0 71 [.slice pA0 pn0 pc0, .int .i64 r.2.At]] ∧ κ = [fV (lSlice (lInt .i64)) (.slice pA0 pn0 pc0) r.2.L]
set_option maxHeartbeats 4000000 in
set_option maxRecDepth 100000 in
theorem W_treatymade_Deck_Next (a0 : GDeck) (a1 : Int) (Ba0 : Nat) (A1 : Option Addr) (n1 : Nat) (c1 : Nat) (r : Int × GDeck) (h : treatymade_Deck_Next a0 a1 = some r) : Spec Try.prog 45 [.pointer (some ⟨Ba0, 0, none⟩), .int .i64 a1] [eBlk Ba0 71 [.slice A1 n1 c1, .int .i64 a0.At]] [fV (lSlice (lInt .i64)) (.slice A1 n1 c1) a0.L] (Q_treatymade_Deck_Next Ba0 r) := by
  unfold treatymade_Deck_Next at h
  refine spec_of (σ := [(0, _), (1, _)]) Try.func45 rfl rfl rfl rfl ?_
  intro C
  refine wc_know (fun _ h => h.lenF m0) (fun e => ?_)
  subst e
  refine wc_seq ?_
  refine wc_region ?_   -- region 0
  refine wl_det rfl rfl (det_assign rfl) rfl ?_
  refine wl_nil ?_
  refine pn_then ?_
  refine wc_seq ?_
  refine wc_seq ?_
  refine dx_region 10 [[], [0], [0, 1], [0, 1, 2], [], [4], [4, 5], [4, 5, 6], [4, 5, 6, 7], [0, 1, 2, 3, 4, 5, 6, 7, 8]] mixed (ord := (.det 0 (.det 1 (.det 2 (.det 3 (.det 4 (.det 5 (.det 6 (.det 7 (.det 8 (.det 9 .done))))))))))) (by kernel_rfl) ?_   -- region 1
  refine hx_det rfl rfl rfl nofun (det_move rfl) rfl ?_
  refine hx_det rfl rfl rfl nofun (det_nilCheckB rfl) rfl ?_
  refine hx_det rfl rfl rfl nofun (det_field rfl fd71_1 rfl) rfl ?_
  refine hx_det rfl rfl rfl nofun (det_load rfl m0 (by rfl) na3 us3) rfl ?_
  refine hx_det rfl rfl rfl nofun (det_move rfl) rfl ?_
  refine hx_det rfl rfl rfl nofun (det_nilCheckB rfl) rfl ?_
  refine hx_det rfl rfl rfl nofun (det_field rfl fd71_0 rfl) rfl ?_
  refine hx_det rfl rfl rfl nofun (det_load rfl m0 (by rfl) na23 us23) rfl ?_
  refine hx_det rfl rfl rfl nofun (det_len rfl un23) rfl ?_
  refine hx_det rfl rfl rfl nofun (det_geq rfl rfl) rfl ?_
  refine hx_end ?_
  refine wl_nil ?_
  refine pn_then ?_
  refine wc_cond rfl (fun cd5 => ?_) (fun cd5 => ?_)
  · have h := ifT h cd5
    refine wc_seq ?_
    refine wc_region ?_   -- region 2
    refine wl_det rfl rfl (det_assign rfl) rfl ?_
    refine wl_nil ?_
    refine pn_then ?_
    refine wc_ret ?_
    refine pr_then ?_
    replace h := Option.some.inj h
    subst h
    refine pn_ret (vs := [_]) rfl ⟨rfl, trivial⟩ ⟨A1, a0.L.length, c1, rfl, rfl, rfl⟩ (fun _ h => h.to ⟨_, r0, trivial⟩ ⟨m0, trivial⟩)
  · have h := ifF h cd5
    refine wc_skip ?_
    refine pn_then ?_
    refine wc_seq ?_
    refine wc_region ?_   -- region 3
    refine wl_det rfl rfl (det_move rfl) rfl ?_
    refine wl_det rfl rfl (det_nilCheckB rfl) rfl ?_
    refine wl_det rfl rfl (det_field rfl fd71_1 rfl) rfl ?_
    refine wl_det rfl rfl (det_load rfl m0 (by rfl) na3 us3) rfl ?_
    refine wl_det rfl rfl (det_add rfl rfl) rfl ?_
    refine wl_det rfl rfl (det_nilCheckB rfl) rfl ?_
    refine wl_det rfl rfl (det_field rfl fd71_1 rfl) rfl ?_
    refine wl_act0 (act_store (cells := [_]) (cs' := [_, _]) rfl rfl rfl s0 (by rfl) (of_decide_eq_true rfl) sz3 ⟨rfl, trivial⟩) rfl rfl ?_
    rintro _ _ _ ⟨rfl, rfl⟩
    refine wl_nil ?_
    refine pn_then ?_
    refine wc_seq ?_
    obtain ⟨k4_p1, h⟩ := chk_some h
    refine wc_st (fun _ h => h.openF m0 k4_p1) ?_
    obtain ⟨k4_p3, h⟩ := chk_some h
    refine dx_region 17 [[], [0], [0, 1], [0, 1, 2], [], [4], [4, 5], [4, 5, 6], [4, 5, 6, 7], [0, 1, 2, 3, 4, 5, 6, 7, 8], [0, 1, 2, 3, 4, 5, 6, 7, 8, 9], [], [0, 1, 2, 3, 4, 5, 6, 7, 8, 9, 10, 11], [], [0, 1, 2, 3, 4, 5, 6, 7, 8, 9, 10, 11, 12, 13], [], [0, 1, 2, 3, 4, 5, 6, 7, 8, 9, 10, 11, 12, 13, 14, 15], [0, 1, 2, 3, 4, 5, 6, 7, 8, 9, 10, 11, 12, 13, 14, 15, 16]] mixed (ord := (.det 0 (.det 1 (.det 2 (.det 3 (.det 4 (.det 5 (.det 6 (.det 7 (.det 8 (.det 9 (.det 10 (.det 11 (.det 12 (.det 13 (.det 14 (.det 15 (.det 16 .done)))))))))))))))))) (by kernel_rfl) ?_   -- region 4
    refine hx_det rfl rfl rfl nofun (det_move rfl) rfl ?_
    refine hx_det rfl rfl rfl nofun (det_nilCheckB rfl) rfl ?_
    refine hx_det rfl rfl rfl nofun (det_field rfl fd71_0 rfl) rfl ?_
    refine hx_det rfl rfl rfl nofun (det_load rfl m0 (by rfl) na23 us23) rfl ?_
    refine hx_det rfl rfl rfl nofun (det_move rfl) rfl ?_
    refine hx_det rfl rfl rfl nofun (det_nilCheckB rfl) rfl ?_
    refine hx_det rfl rfl rfl nofun (det_field rfl fd71_1 rfl) rfl ?_
    refine hx_det rfl rfl rfl nofun (det_load rfl m0 (by rfl) na3 us3) rfl ?_
    refine hx_det rfl rfl rfl nofun (det_sub rfl rfl) rfl ?_
    refine hx_det rfl rfl rfl nofun (det_indexP rfl rfl (ms m0) k4_p1 m0 un23 sz3) rfl ?_
    refine hx_det rfl rfl rfl nofun (det_loadP (off := 0) rfl m0 (by rfl) (by rfl) (loaded_1 na3 us3)) rfl ?_
    refine hx_det rfl rfl rfl nofun (det_move rfl) rfl ?_
    refine hx_det rfl rfl rfl nofun (det_remB rfl rfl k4_p3) rfl ?_
    refine hx_det rfl rfl rfl nofun (det_move rfl) rfl ?_
    refine hx_det rfl rfl rfl nofun (det_add rfl rfl) rfl ?_
    refine hx_det rfl rfl rfl nofun (det_move rfl) rfl ?_
    refine hx_det rfl rfl rfl nofun (det_remB rfl rfl k4_p3) rfl ?_
    refine hx_end ?_
    refine wl_det rfl rfl (det_assign rfl) rfl ?_
    refine wl_nil ?_
    refine pn_then ?_
    refine wc_ret ?_
    replace h := Option.some.inj h
    subst h
    refine pn_ret (vs := [_]) rfl ⟨rfl, trivial⟩ ⟨A1, a0.L.length, c1, rfl, rfl, rfl⟩ (fun _ h => h.to ⟨_, r0, trivial⟩ ⟨(ms m0), trivial⟩)
def Q_treatymade_Deck_Range (Ba0 : Nat) (r : Int × GDeck) : Value → List Ent → List Fact → Prop := fun v θ κ => ∃ (pA0 : Option Addr), ∃ (pn0 : Nat), ∃ (pc0 : Nat), v = .int .i64 r.1 ∧ θ = [eBlk Ba0 71 [.slice pA0 pn0 pc0, .int .i64 r.2.At]] ∧ κ = [fV (lSlice (lInt .i64)) (.slice pA0 pn0 pc0) r.2.L]
set_option maxHeartbeats 4000000 in
set_option maxRecDepth 100000 in
theorem W_treatymade_Deck_Range (a0 : GDeck) (a1 : Int) (a2 : Int) (Ba0 : Nat) (A1 : Option Addr) (n1 : Nat) (c1 : Nat) (r : Int × GDeck) (h : treatymade_Deck_Range a0 a1 a2 = some r) : Spec Try.prog 55 [.pointer (some ⟨Ba0, 0, none⟩), .int .i64 a1, .int .i64 a2] [eBlk Ba0 71 [.slice A1 n1 c1, .int .i64 a0.At]] [fV (lSlice (lInt .i64)) (.slice A1 n1 c1) a0.L] (Q_treatymade_Deck_Range Ba0 r) := by
  unfold treatymade_Deck_Range at h
  refine spec_of (σ := [(0, _), (1, _), (2, _)]) Try.func55 rfl rfl rfl rfl ?_
  intro C
  refine wc_know (fun _ h => h.lenF m0) (fun e => ?_)
  subst e
  refine wc_seq ?_
  refine wc_region ?_   -- region 0
  refine wl_det rfl rfl (det_assign rfl) rfl ?_
  refine wl_nil ?_
  refine pn_then ?_
  refine wc_seq ?_
  refine wc_region ?_   -- region 1
  refine wl_det rfl rfl (det_move rfl) rfl ?_
  refine wl_det rfl rfl (det_move rfl) rfl ?_
  refine wl_det rfl rfl (det_move rfl) rfl ?_
  refine wl_det rfl rfl (det_move rfl) rfl ?_
  refine wl_det rfl rfl (det_sub rfl rfl) rfl ?_
  refine wl_det rfl rfl (det_add rfl rfl) rfl ?_
  obtain ⟨r1_6, hr1_6, h⟩ := bind_some h
  refine wl_act (act_callS (cap := []) (W_treatymade_Deck_Next a0 (w64 ((w64 (a2 - a1)) + 1)) Ba0 A1 a0.L.length c1 r1_6 hr1_6) rfl rfl rfl bd45 ⟨_, r0, rfl⟩ ⟨m0, trivial⟩) rfl rfl rfl ?_
  rintro _ _ _ ⟨_, _, ⟨y1_6A0, y1_6n0, y1_6c0, rfl, rfl, rfl⟩, rfl, rfl⟩
  dsimp only [List.nil_append, List.cons_append]
  refine wl_know (fun _ h => h.lenF m0) (fun e => ?_)
  subst e
  refine wl_det rfl rfl (det_add rfl rfl) rfl ?_
  refine wl_det rfl rfl (det_assign rfl) rfl ?_
  refine wl_nil ?_
  refine pn_then ?_
  refine wc_ret ?_
  replace h := Option.some.inj h
  subst h
  refine pn_ret (vs := [_]) rfl ⟨rfl, trivial⟩ ⟨y1_6A0, r1_6.2.L.length, y1_6c0, rfl, rfl, rfl⟩ (fun _ h => h.to ⟨_, r0, trivial⟩ ⟨m0, trivial⟩)
def Q_treatymade_Deck_subset (Ba0 : Nat) (r : (List Int) × GDeck) : Value → List Ent → List Fact → Prop := fun v θ κ => ∃ (pA0 : Option Addr), ∃ (pn0 : Nat), ∃ (pc0 : Nat), ∃ (pA1 : Option Addr), ∃ (pn1 : Nat), ∃ (pc1 : Nat), v = .slice pA0 pn0 pc0 ∧ θ = [eS (lInt .i64) 3 pA0 pn0 pc0 r.1, eBlk Ba0 71 [.slice pA1 pn1 pc1, .int .i64 r.2.At]] ∧ κ = [fV (lSlice (lInt .i64)) (.slice pA1 pn1 pc1) r.2.L]
set_option maxHeartbeats 4000000 in
set_option maxRecDepth 100000 in
theorem W_treatymade_Deck_subset (a0 : GDeck) (a1 : Int) (a2 : Int) (Ba0 : Nat) (A1 : Option Addr) (n1 : Nat) (c1 : Nat) (r : (List Int) × GDeck) (h : treatymade_Deck_subset a0 a1 a2 = some r) : Spec Try.prog 61 [.pointer (some ⟨Ba0, 0, none⟩), .int .i64 a1, .int .i64 a2] [eBlk Ba0 71 [.slice A1 n1 c1, .int .i64 a0.At]] [fV (lSlice (lInt .i64)) (.slice A1 n1 c1) a0.L] (Q_treatymade_Deck_subset Ba0 r) := by
  unfold treatymade_Deck_subset at h
  refine spec_of (σ := [(0, _), (1, _), (2, _)]) Try.func61 rfl rfl rfl rfl ?_
  intro C
  refine wc_know (fun _ h => h.lenF m0) (fun e => ?_)
  subst e
  refine wc_seq ?_
  refine wc_region ?_   -- region 0
  refine wl_det rfl rfl (det_assign rfl) rfl ?_
  refine wl_nil ?_
  refine pn_then ?_
  refine wc_seq ?_
  refine wc_region ?_   -- region 1
  refine wl_det rfl rfl (det_assign rfl) rfl ?_
  refine wl_nil ?_
  refine pn_then ?_
  refine wc_seq ?_
  refine wc_seq ?_
  refine wc_region ?_   -- region 2
  refine wl_det rfl rfl (det_move rfl) rfl ?_
  obtain ⟨r2_1, hr2_1, h⟩ := bind_some h
  refine wl_act (act_callS (cap := []) (W_treatymade_Deck_Next a0 2 Ba0 A1 a0.L.length c1 r2_1 hr2_1) rfl rfl rfl bd45 ⟨_, r0, rfl⟩ ⟨m0, trivial⟩) rfl rfl rfl ?_
  rintro _ _ _ ⟨_, _, ⟨y2_1A0, y2_1n0, y2_1c0, rfl, rfl, rfl⟩, rfl, rfl⟩
  dsimp only [List.nil_append, List.cons_append]
  refine wl_know (fun _ h => h.lenF m0) (fun e => ?_)
  subst e
  refine wl_det rfl rfl (det_eql rfl rfl) rfl ?_
  refine wl_nil ?_
  refine pn_then ?_
  refine wc_cond rfl (fun cd7 => ?_) (fun cd7 => ?_)
  · have h := ifT h cd7
    refine wc_seq ?_
    refine wc_region ?_   -- region 3
    refine wl_det rfl rfl (det_assign rfl) rfl ?_
    refine wl_nil ?_
    refine pn_then ?_
    refine wc_ret ?_
    refine pr_then ?_
    refine pn_st (fun _ h => h.zeroS (lInt .i64) 3 none) ?_
    replace h := Option.some.inj h
    subst h
    refine pn_ret (vs := [_]) rfl ⟨rfl, trivial⟩ ⟨none, 0, 0, y2_1A0, r2_1.2.L.length, y2_1c0, rfl, rfl, rfl⟩ (fun _ h => h.to ⟨_, r0, ⟨_, r0, trivial⟩⟩ ⟨m0, trivial⟩)
  · have h := ifF h cd7
    refine wc_skip ?_
    refine pn_then ?_
    obtain ⟨q10, h, ho10⟩ := bind_some h
    refine wc_meetG (G := ((List Int) × Int × (List Int)) × Option Addr × Nat × Nat × Option Addr × Nat × Nat × Unit) (fun (s10, _, _, _, _, _, _, _) => s10 = q10) (fun (_, _, _, _, A10_3, n10_3, c10_3, _) => [(7, .slice A10_3 n10_3 c10_3)]) (fun (s10, A10_0, n10_0, c10_0, A10_3, n10_3, c10_3, _) => [eBlk Ba0 71 [.slice A10_0 n10_0 c10_0, .int .i64 s10.2.1], eS (lInt .i64) 3 A10_3 n10_3 c10_3 s10.2.2]) (fun (s10, A10_0, n10_0, c10_0, _, _, _, _) => [fV (lSlice (lInt .i64)) (.slice A10_0 n10_0 c10_0) s10.1]) ?_ ?_
    · refine wc_seq ?_
      refine wc_region ?_   -- region 4
      refine wl_det rfl rfl (det_move rfl) rfl ?_
      refine wl_det rfl rfl (det_assign rfl) rfl ?_
      refine wl_nil ?_
      refine pn_then ?_
      refine wc_block ?_
      refine wc_st (fun _ h => h.zeroS (lInt .i64) 3 none) ?_
      obtain ⟨k14, hk14⟩ := loopV_some.1 h
      refine wc_loop (G := Nat × ((List Int) × Int × (List Int) × Int) × Option Addr × Nat × Nat × Option Addr × Nat × Nat × Unit) (fun g => IterN (treatymade_Deck_subset_l14 a2) g.1 g.2.1 q10) (fun g => g.1) (fun (_, s14, _, _, _, A14_3, n14_3, c14_3, _) => [(0, .pointer (some ⟨Ba0, 0, none⟩)), (2, .int .i64 a2), (7, .slice A14_3 n14_3 c14_3), (8, .int .i64 s14.2.2.2)]) (fun (_, s14, A14_0, n14_0, c14_0, A14_3, n14_3, c14_3, _) => [eBlk Ba0 71 [.slice A14_0 n14_0 c14_0, .int .i64 s14.2.1], eS (lInt .i64) 3 A14_3 n14_3 c14_3 s14.2.2.1]) (fun (_, s14, A14_0, n14_0, c14_0, _, _, _, _) => [fV (lSlice (lInt .i64)) (.slice A14_0 n14_0 c14_0) s14.1]) (k14, (r2_1.2.L, r2_1.2.At, [], a1), y2_1A0, r2_1.2.L.length, y2_1c0, none, 0, 0, ()) hk14 ⟨rfl, rfl, rfl, rfl, trivial⟩ (fun _ h => h.to ⟨_, (rs r0), ⟨_, r0, trivial⟩⟩ ⟨m0, trivial⟩) ?_
      rintro ⟨k14, s14, A14_0, n14_0, c14_0, A14_3, n14_3, c14_3, _⟩ hI
      obtain ⟨k14, rfl, q14, h, g14⟩ := IterN.pos hI
      dsimp only at h ⊢
      unfold treatymade_Deck_subset_l14 at h
      refine wc_know (fun _ h => h.lenF m0) (fun e => ?_)
      subst e
      refine wc_know (fun _ h => h.lenO (ms m0)) (fun e => ?_)
      subst e
      refine wc_seq ?_
      refine wc_seq ?_
      refine wc_region ?_   -- region 5
      refine wl_det rfl rfl (det_move rfl) rfl ?_
      refine wl_det rfl rfl (det_move rfl) rfl ?_
      refine wl_det rfl rfl (det_leq rfl rfl) rfl ?_
      refine wl_nil ?_
      refine pn_then ?_
      refine wc_cond rfl (fun cd18 => ?_) (fun cd18 => ?_)
      · have h := ifT h cd18
        refine wc_skip ?_
        refine pn_then ?_
        obtain ⟨q20, h, ho20⟩ := bind_some h
        refine wc_meetG (G := ((List Int) × Int × (List Int)) × Option Addr × Nat × Nat × Option Addr × Nat × Nat × Unit) (fun (s20, _, _, _, _, _, _, _) => s20 = q20) (fun (_, _, _, _, A20_3, n20_3, c20_3, _) => [(0, .pointer (some ⟨Ba0, 0, none⟩)), (2, .int .i64 a2), (7, .slice A20_3 n20_3 c20_3), (8, .int .i64 s14.2.2.2)]) (fun (s20, A20_0, n20_0, c20_0, A20_3, n20_3, c20_3, _) => [eBlk Ba0 71 [.slice A20_0 n20_0 c20_0, .int .i64 s20.2.1], eS (lInt .i64) 3 A20_3 n20_3 c20_3 s20.2.2]) (fun (s20, A20_0, n20_0, c20_0, _, _, _, _) => [fV (lSlice (lInt .i64)) (.slice A20_0 n20_0 c20_0) s20.1]) ?_ ?_
        · refine wc_block ?_
          refine wc_seq ?_
          refine wc_region ?_   -- region 7
          refine wl_det rfl rfl (det_move rfl) rfl ?_
          obtain ⟨r7_1, hr7_1, h⟩ := bind_some h
          refine wl_act (act_callS (cap := []) (W_treatymade_Deck_Next (GDeck.mk s14.1 s14.2.1) 3 Ba0 A14_0 s14.1.length c14_0 r7_1 hr7_1) rfl rfl rfl bd45 ⟨_, r0, rfl⟩ ⟨m0, trivial⟩) rfl rfl rfl ?_
          rintro _ _ _ ⟨_, _, ⟨y7_1A0, y7_1n0, y7_1c0, rfl, rfl, rfl⟩, rfl, rfl⟩
          dsimp only [List.nil_append, List.cons_append]
          refine wl_know (fun _ h => h.lenF m0) (fun e => ?_)
          subst e
          refine wl_det rfl rfl (det_gtr rfl rfl) rfl ?_
          refine wl_nil ?_
          refine pn_then ?_
          refine wc_cond rfl (fun cd24 => ?_) (fun cd24 => ?_)
          · have h := ifT h cd24
            refine wc_region ?_   -- region 8
            refine wl_det rfl rfl (det_move rfl) rfl ?_
            refine wl_det rfl rfl (det_move rfl) rfl ?_
            refine wl_act (act_litS (lInt .i64) (vs := [_]) (cs := [_]) [s14.2.2.2] un23 in3 rfl rfl rfl rfl rfl ⟨rfl, trivial⟩ (by rfl) rfl (litR_flat rfl)) rfl rfl rfl ?_
            rintro _ _ _ ⟨A8_2, rfl, rfl, rfl⟩
            obtain ⟨k8_3, h⟩ := chk_some h
            refine wl_act (act_appendS (L := (lInt .i64)) rfl rfl (ss (ss s0)) (src_O m0) un23 in3 rfl rfl rfl k8_3) rfl rfl rfl ?_
            rintro _ _ _ ⟨A8_3, c8_3, rfl, rfl, rfl⟩
            refine wl_det rfl rfl (det_assign rfl) rfl ?_
            refine wl_nil ?_
            refine pn_block ?_
            replace h := Option.some.inj h
            subst h
            exact pn_meetG ((r7_1.2.L, r7_1.2.At, (s14.2.2.1 ++ [s14.2.2.2])), y7_1A0, r7_1.2.L.length, y7_1c0, A8_3, (s14.2.2.1 ++ [s14.2.2.2]).length, c8_3, ()) rfl ⟨rfl, rfl, rfl, rfl, trivial⟩ (fun _ h => h.to ⟨_, (rs r0), ⟨_, (rs r0), trivial⟩⟩ ⟨m0, trivial⟩)
          · have h := ifF h cd24
            refine wc_skip ?_
            refine pn_block ?_
            replace h := Option.some.inj h
            subst h
            exact pn_meetG ((r7_1.2.L, r7_1.2.At, s14.2.2.1), y7_1A0, r7_1.2.L.length, y7_1c0, A14_3, s14.2.2.1.length, c14_3, ()) rfl ⟨rfl, rfl, rfl, rfl, trivial⟩ (fun _ h => h.to ⟨_, r0, ⟨_, r0, trivial⟩⟩ ⟨m0, trivial⟩)
        rintro ⟨s20, A20_0, n20_0, c20_0, A20_3, n20_3, c20_3, _⟩ e20
        dsimp only at e20 ⊢
        subst e20
        have h := ho20
        refine wc_know (fun _ h => h.lenF m0) (fun e => ?_)
        subst e
        refine wc_know (fun _ h => h.lenO (ms m0)) (fun e => ?_)
        subst e
        refine wc_region ?_   -- region 6
        refine wl_det rfl rfl (det_move rfl) rfl ?_
        refine wl_det rfl rfl (det_add rfl rfl) rfl ?_
        refine wl_det rfl rfl (det_assign rfl) rfl ?_
        refine wl_nil ?_
        replace h := Option.some.inj h
        subst h
        exact pn_some (k14, (s20.1, s20.2.1, s20.2.2, (w64 (s14.2.2.2 + 1))), A20_0, s20.1.length, c20_0, A20_3, s20.2.2.length, c20_3, ()) ⟨nextL g14, Nat.lt_succ_self _⟩ ⟨rfl, rfl, rfl, rfl, trivial⟩ (fun _ h => h.to ⟨_, r0, ⟨_, r0, trivial⟩⟩ ⟨m0, trivial⟩)
      · have h := ifF h cd18
        refine wc_exit ?_
        refine px_then ?_
        refine px_then ?_
        refine px_block ?_
        replace h := Option.some.inj h
        subst h
        replace g14 := nextR g14
        subst g14
        exact pn_meetG ((s14.1, s14.2.1, s14.2.2.1), A14_0, s14.1.length, c14_0, A14_3, s14.2.2.1.length, c14_3, ()) rfl ⟨rfl, trivial⟩ (fun _ h => h.to ⟨_, r0, ⟨_, r0, trivial⟩⟩ ⟨m0, trivial⟩)
    rintro ⟨s10, A10_0, n10_0, c10_0, A10_3, n10_3, c10_3, _⟩ e10
    dsimp only at e10 ⊢
    subst e10
    have h := ho10
    refine wc_know (fun _ h => h.lenF m0) (fun e => ?_)
    subst e
    refine wc_know (fun _ h => h.lenO (ms m0)) (fun e => ?_)
    subst e
    refine wc_seq ?_
    refine wc_region ?_   -- region 9
    refine wl_det rfl rfl (det_move rfl) rfl ?_
    refine wl_det rfl rfl (det_assign rfl) rfl ?_
    refine wl_nil ?_
    refine pn_then ?_
    refine wc_ret ?_
    replace h := Option.some.inj h
    subst h
    refine pn_ret (vs := [_]) rfl ⟨rfl, trivial⟩ ⟨A10_3, s10.2.2.length, c10_3, A10_0, s10.1.length, c10_0, rfl, rfl, rfl⟩ (fun _ h => h.to ⟨_, (rs r0), ⟨_, r0, trivial⟩⟩ ⟨m0, trivial⟩)
def Q_treatymade_Deck_Upto (Ba0 : Nat) (r : Int × GDeck) : Value → List Ent → List Fact → Prop := fun v θ κ => ∃ (pA0 : Option Addr), ∃ (pn0 : Nat), ∃ (pc0 : Nat), v = .int .i64 r.1 ∧ θ = [eBlk Ba0 71 [.slice pA0 pn0 pc0, .int .i64 r.2.At]] ∧ κ = [fV (lSlice (lInt .i64)) (.slice pA0 pn0 pc0) r.2.L]
set_option maxHeartbeats 4000000 in
set_option maxRecDepth 100000 in
theorem W_treatymade_Deck_Upto (a0 : GDeck) (a1 : Int) (Ba0 : Nat) (A1 : Option Addr) (n1 : Nat) (c1 : Nat) (r : Int × GDeck) (h : treatymade_Deck_Upto a0 a1 = some r) : Spec Try.prog 28 [.pointer (some ⟨Ba0, 0, none⟩), .int .i64 a1] [eBlk Ba0 71 [.slice A1 n1 c1, .int .i64 a0.At]] [fV (lSlice (lInt .i64)) (.slice A1 n1 c1) a0.L] (Q_treatymade_Deck_Upto Ba0 r) := by
  unfold treatymade_Deck_Upto at h
  refine spec_of (σ := [(0, _), (1, _)]) Try.func28 rfl rfl rfl rfl ?_
  intro C
  refine wc_know (fun _ h => h.lenF m0) (fun e => ?_)
  subst e
  refine wc_seq ?_
  refine wc_region ?_   -- region 0
  refine wl_det rfl rfl (det_assign rfl) rfl ?_
  refine wl_nil ?_
  refine pn_then ?_
  refine wc_seq ?_
  refine wc_seq ?_
  refine wc_region ?_   -- region 1
  refine wl_det rfl rfl (det_move rfl) rfl ?_
  obtain ⟨r1_1, hr1_1, h⟩ := bind_some h
  refine wl_act (act_callS (cap := []) (W_treatymade_Deck_Next a0 6 Ba0 A1 a0.L.length c1 r1_1 hr1_1) rfl rfl rfl bd45 ⟨_, r0, rfl⟩ ⟨m0, trivial⟩) rfl rfl rfl ?_
  rintro _ _ _ ⟨_, _, ⟨y1_1A0, y1_1n0, y1_1c0, rfl, rfl, rfl⟩, rfl, rfl⟩
  dsimp only [List.nil_append, List.cons_append]
  refine wl_know (fun _ h => h.lenF m0) (fun e => ?_)
  subst e
  refine wl_nil ?_
  refine pn_then ?_
  refine wc_block ?_
  refine wc_seq ?_
  refine wc_region ?_   -- region 2
  refine wl_det rfl rfl (det_eql rfl rfl) rfl ?_
  refine wl_det rfl rfl (det_assign rfl) rfl ?_
  refine wl_nil ?_
  refine pn_then ?_
  refine wc_cond rfl (fun cd8 => ?_) (fun cd8 => ?_)
  · have h := ifT h cd8
    refine wc_seq ?_
    refine wc_region ?_   -- region 3
    refine wl_det rfl rfl (det_move rfl) rfl ?_
    obtain ⟨r3_1, hr3_1, h⟩ := bind_some h
    refine wl_act (act_callS (cap := []) (W_treatymade_Deck_Next r1_1.2 4 Ba0 y1_1A0 r1_1.2.L.length y1_1c0 r3_1 hr3_1) rfl rfl rfl bd45 ⟨_, r0, rfl⟩ ⟨m0, trivial⟩) rfl rfl rfl ?_
    rintro _ _ _ ⟨_, _, ⟨y3_1A0, y3_1n0, y3_1c0, rfl, rfl, rfl⟩, rfl, rfl⟩
    dsimp only [List.nil_append, List.cons_append]
    refine wl_know (fun _ h => h.lenF m0) (fun e => ?_)
    subst e
    refine wl_det rfl rfl (det_move rfl) rfl ?_
    refine wl_det rfl rfl (det_minI rfl rfl) rfl ?_
    refine wl_det rfl rfl (det_assign rfl) rfl ?_
    refine wl_nil ?_
    refine pn_then ?_
    refine wc_ret ?_
    refine pr_block ?_
    refine pr_then ?_
    replace h := Option.some.inj h
    subst h
    refine pn_ret (vs := [_]) rfl ⟨rfl, trivial⟩ ⟨y3_1A0, r3_1.2.L.length, y3_1c0, rfl, rfl, rfl⟩ (fun _ h => h.to ⟨_, r0, trivial⟩ ⟨m0, trivial⟩)
  · have h := ifF h cd8
    refine wc_seq ?_
    refine wc_region ?_   -- region 4
    refine wl_det rfl rfl (det_eql rfl rfl) rfl ?_
    refine wl_det rfl rfl (det_assign rfl) rfl ?_
    refine wl_nil ?_
    refine pn_then ?_
    refine wc_cond rfl (fun cd13 => ?_) (fun cd13 => ?_)
    · have h := ifT h cd13
      refine wc_seq ?_
      refine wc_region ?_   -- region 5
      refine wl_det rfl rfl (det_move rfl) rfl ?_
      obtain ⟨r5_1, hr5_1, h⟩ := bind_some h
      refine wl_act (act_callS (cap := []) (W_treatymade_Deck_Next r1_1.2 100 Ba0 y1_1A0 r1_1.2.L.length y1_1c0 r5_1 hr5_1) rfl rfl rfl bd45 ⟨_, r0, rfl⟩ ⟨m0, trivial⟩) rfl rfl rfl ?_
      rintro _ _ _ ⟨_, _, ⟨y5_1A0, y5_1n0, y5_1c0, rfl, rfl, rfl⟩, rfl, rfl⟩
      dsimp only [List.nil_append, List.cons_append]
      refine wl_know (fun _ h => h.lenF m0) (fun e => ?_)
      subst e
      refine wl_det rfl rfl (det_move rfl) rfl ?_
      refine wl_det rfl rfl (det_minI rfl rfl) rfl ?_
      refine wl_det rfl rfl (det_assign rfl) rfl ?_
      refine wl_nil ?_
      refine pn_then ?_
      refine wc_ret ?_
      refine pr_block ?_
      refine pr_then ?_
      replace h := Option.some.inj h
      subst h
      refine pn_ret (vs := [_]) rfl ⟨rfl, trivial⟩ ⟨y5_1A0, r5_1.2.L.length, y5_1c0, rfl, rfl, rfl⟩ (fun _ h => h.to ⟨_, r0, trivial⟩ ⟨m0, trivial⟩)
    · have h := ifF h cd13
      refine wc_seq ?_
      refine wc_region ?_   -- region 6
      refine wl_det rfl rfl (det_eql rfl rfl) rfl ?_
      refine wl_det rfl rfl (det_assign rfl) rfl ?_
      refine wl_nil ?_
      refine pn_then ?_
      refine wc_cond rfl (fun cd18 => ?_) (fun cd18 => ?_)
      · have h := ifT h cd18
        refine wc_seq ?_
        refine wc_region ?_   -- region 7
        refine wl_det rfl rfl (det_move rfl) rfl ?_
        obtain ⟨r7_1, hr7_1, h⟩ := bind_some h
        refine wl_act (act_callS (cap := []) (W_treatymade_Deck_Next r1_1.2 1048576 Ba0 y1_1A0 r1_1.2.L.length y1_1c0 r7_1 hr7_1) rfl rfl rfl bd45 ⟨_, r0, rfl⟩ ⟨m0, trivial⟩) rfl rfl rfl ?_
        rintro _ _ _ ⟨_, _, ⟨y7_1A0, y7_1n0, y7_1c0, rfl, rfl, rfl⟩, rfl, rfl⟩
        dsimp only [List.nil_append, List.cons_append]
        refine wl_know (fun _ h => h.lenF m0) (fun e => ?_)
        subst e
        refine wl_det rfl rfl (det_move rfl) rfl ?_
        refine wl_det rfl rfl (det_minI rfl rfl) rfl ?_
        refine wl_det rfl rfl (det_assign rfl) rfl ?_
        refine wl_nil ?_
        refine pn_then ?_
        refine wc_ret ?_
        refine pr_block ?_
        refine pr_then ?_
        replace h := Option.some.inj h
        subst h
        refine pn_ret (vs := [_]) rfl ⟨rfl, trivial⟩ ⟨y7_1A0, r7_1.2.L.length, y7_1c0, rfl, rfl, rfl⟩ (fun _ h => h.to ⟨_, r0, trivial⟩ ⟨m0, trivial⟩)
      · have h := ifF h cd18
        refine wc_seq ?_
        refine wc_region ?_   -- region 8
        refine wl_det rfl rfl (det_eql rfl rfl) rfl ?_
        refine wl_det rfl rfl (det_assign rfl) rfl ?_
        refine wl_nil ?_
        refine pn_then ?_
        refine wc_cond rfl (fun cd23 => ?_) (fun cd23 => ?_)
        · have h := ifT h cd23
          refine wc_seq ?_
          refine wc_region ?_   -- region 9
          refine wl_det rfl rfl (det_move rfl) rfl ?_
          refine wl_det rfl rfl (det_move rfl) rfl ?_
          refine wl_det rfl rfl (det_move rfl) rfl ?_
          refine wl_det rfl rfl (det_add rfl rfl) rfl ?_
          refine wl_det rfl rfl (det_minI rfl rfl) rfl ?_
          obtain ⟨r9_5, hr9_5, h⟩ := bind_some h
          refine wl_act (act_callS (cap := []) (W_treatymade_Deck_Next r1_1.2 (minI 3 (w64 (a1 + 1))) Ba0 y1_1A0 r1_1.2.L.length y1_1c0 r9_5 hr9_5) rfl rfl rfl bd45 ⟨_, r0, rfl⟩ ⟨m0, trivial⟩) rfl rfl rfl ?_
          rintro _ _ _ ⟨_, _, ⟨y9_5A0, y9_5n0, y9_5c0, rfl, rfl, rfl⟩, rfl, rfl⟩
          dsimp only [List.nil_append, List.cons_append]
          refine wl_know (fun _ h => h.lenF m0) (fun e => ?_)
          subst e
          refine wl_det rfl rfl (det_sub rfl rfl) rfl ?_
          refine wl_det rfl rfl (det_assign rfl) rfl ?_
          refine wl_nil ?_
          refine pn_then ?_
          refine wc_ret ?_
          refine pr_block ?_
          refine pr_then ?_
          replace h := Option.some.inj h
          subst h
          refine pn_ret (vs := [_]) rfl ⟨rfl, trivial⟩ ⟨y9_5A0, r9_5.2.L.length, y9_5c0, rfl, rfl, rfl⟩ (fun _ h => h.to ⟨_, r0, trivial⟩ ⟨m0, trivial⟩)
        · have h := ifF h cd23
          refine wc_skip ?_
          refine pn_block ?_
          refine pn_then ?_
          refine wc_seq ?_
          refine wc_region ?_   -- region 10
          refine wl_det rfl rfl (det_move rfl) rfl ?_
          refine wl_det rfl rfl (det_move rfl) rfl ?_
          refine wl_det rfl rfl (det_add rfl rfl) rfl ?_
          obtain ⟨r10_3, hr10_3, h⟩ := bind_some h
          refine wl_act (act_callS (cap := []) (W_treatymade_Deck_Next r1_1.2 (w64 (a1 + 1)) Ba0 y1_1A0 r1_1.2.L.length y1_1c0 r10_3 hr10_3) rfl rfl rfl bd45 ⟨_, r0, rfl⟩ ⟨m0, trivial⟩) rfl rfl rfl ?_
          rintro _ _ _ ⟨_, _, ⟨y10_3A0, y10_3n0, y10_3c0, rfl, rfl, rfl⟩, rfl, rfl⟩
          dsimp only [List.nil_append, List.cons_append]
          refine wl_know (fun _ h => h.lenF m0) (fun e => ?_)
          subst e
          refine wl_det rfl rfl (det_assign rfl) rfl ?_
          refine wl_nil ?_
          refine pn_then ?_
          refine wc_ret ?_
          replace h := Option.some.inj h
          subst h
          refine pn_ret (vs := [_]) rfl ⟨rfl, trivial⟩ ⟨y10_3A0, r10_3.2.L.length, y10_3c0, rfl, rfl, rfl⟩ (fun _ h => h.to ⟨_, r0, trivial⟩ ⟨m0, trivial⟩)
def Q_treatymade_Deck_Money (Ba0 : Nat) (r : Int × GDeck) : Value → List Ent → List Fact → Prop := fun v θ κ => ∃ (pA0 : Option Addr), ∃ (pn0 : Nat), ∃ (pc0 : Nat), v = .int .i64 r.1 ∧ θ = [eBlk Ba0 71 [.slice pA0 pn0 pc0, .int .i64 r.2.At]] ∧ κ = [fV (lSlice (lInt .i64)) (.slice pA0 pn0 pc0) r.2.L]
set_option maxHeartbeats 4000000 in
set_option maxRecDepth 100000 in
theorem W_treatymade_Deck_Money (a0 : GDeck) (Ba0 : Nat) (A1 : Option Addr) (n1 : Nat) (c1 : Nat) (r : Int × GDeck) (h : treatymade_Deck_Money a0 = some r) : Spec Try.prog 62 [.pointer (some ⟨Ba0, 0, none⟩)] [eBlk Ba0 71 [.slice A1 n1 c1, .int .i64 a0.At]] [fV (lSlice (lInt .i64)) (.slice A1 n1 c1) a0.L] (Q_treatymade_Deck_Money Ba0 r) := by
  unfold treatymade_Deck_Money at h
  refine spec_of (σ := [(0, _)]) Try.func62 rfl rfl rfl rfl ?_
  intro C
  refine wc_know (fun _ h => h.lenF m0) (fun e => ?_)
  subst e
  refine wc_seq ?_
  refine wc_region ?_   -- region 0
  refine wl_det rfl rfl (det_assign rfl) rfl ?_
  refine wl_nil ?_
  refine pn_then ?_
  refine wc_seq ?_
  refine wc_region ?_   -- region 1
  refine wl_det rfl rfl (det_move rfl) rfl ?_
  obtain ⟨r1_1, hr1_1, h⟩ := bind_some h
  refine wl_act (act_callS (cap := []) (W_treatymade_Deck_Upto a0 1073741824 Ba0 A1 a0.L.length c1 r1_1 hr1_1) rfl rfl rfl bd28 ⟨_, r0, rfl⟩ ⟨m0, trivial⟩) rfl rfl rfl ?_
  rintro _ _ _ ⟨_, _, ⟨y1_1A0, y1_1n0, y1_1c0, rfl, rfl, rfl⟩, rfl, rfl⟩
  dsimp only [List.nil_append, List.cons_append]
  refine wl_know (fun _ h => h.lenF m0) (fun e => ?_)
  subst e
  refine wl_det rfl rfl (det_assign rfl) rfl ?_
  refine wl_nil ?_
  refine pn_then ?_
  refine wc_ret ?_
  replace h := Option.some.inj h
  subst h
  refine pn_ret (vs := [_]) rfl ⟨rfl, trivial⟩ ⟨y1_1A0, r1_1.2.L.length, y1_1c0, rfl, rfl, rfl⟩ (fun _ h => h.to ⟨_, r0, trivial⟩ ⟨m0, trivial⟩)
def Q_treatymade_Deck_Parts (Ba0 : Nat) (r : (List GPart) × GDeck) : Value → List Ent → List Fact → Prop := fun v θ κ => ∃ (pA0 : Option Addr), ∃ (pn0 : Nat), ∃ (pc0 : Nat), ∃ (pA1 : Option Addr), ∃ (pn1 : Nat), ∃ (pc1 : Nat), v = .slice pA0 pn0 pc0 ∧ θ = [eS lGPart 25 pA0 pn0 pc0 r.1, eBlk Ba0 71 [.slice pA1 pn1 pc1, .int .i64 r.2.At]] ∧ κ = [fV (lSlice (lInt .i64)) (.slice pA1 pn1 pc1) r.2.L]
set_option maxHeartbeats 4000000 in
set_option maxRecDepth 100000 in
theorem W_treatymade_Deck_Parts (a0 : GDeck) (Ba0 : Nat) (A1 : Option Addr) (n1 : Nat) (c1 : Nat) (r : (List GPart) × GDeck) (h : treatymade_Deck_Parts a0 = some r) : Spec Try.prog 17 [.pointer (some ⟨Ba0, 0, none⟩)] [eBlk Ba0 71 [.slice A1 n1 c1, .int .i64 a0.At]] [fV (lSlice (lInt .i64)) (.slice A1 n1 c1) a0.L] (Q_treatymade_Deck_Parts Ba0 r) := by
  unfold treatymade_Deck_Parts at h
  refine spec_of (σ := [(0, _)]) Try.func17 rfl rfl rfl rfl ?_
  intro C
  refine wc_know (fun _ h => h.lenF m0) (fun e => ?_)
  subst e
  refine wc_seq ?_
  refine wc_region ?_   -- region 0
  refine wl_det rfl rfl (det_assign rfl) rfl ?_
  refine wl_nil ?_
  refine pn_then ?_
  refine wc_seq ?_
  refine wc_region ?_   -- region 1
  refine wl_det rfl rfl (det_assign rfl) rfl ?_
  refine wl_nil ?_
  refine pn_then ?_
  refine wc_seq ?_
  refine wc_region ?_   -- region 2
  refine wl_det rfl rfl (det_assign rfl) rfl ?_
  refine wl_det rfl rfl (det_assign rfl) rfl ?_
  refine wl_nil ?_
  refine pn_then ?_
  obtain ⟨q6, h, ho6⟩ := bind_some h
  refine wc_meetG (G := ((List Int) × Int × (List GPart)) × Option Addr × Nat × Nat × Option Addr × Nat × Nat × Unit) (fun (s6, _, _, _, _, _, _, _) => s6 = q6) (fun (_, _, _, _, A6_3, n6_3, c6_3, _) => [(3, .slice A6_3 n6_3 c6_3)]) (fun (s6, A6_0, n6_0, c6_0, A6_3, n6_3, c6_3, _) => [eBlk Ba0 71 [.slice A6_0 n6_0 c6_0, .int .i64 s6.2.1], eS lGPart 25 A6_3 n6_3 c6_3 s6.2.2]) (fun (s6, A6_0, n6_0, c6_0, _, _, _, _) => [fV (lSlice (lInt .i64)) (.slice A6_0 n6_0 c6_0) s6.1]) ?_ ?_
  · refine wc_seq ?_
    refine wc_region ?_   -- region 3
    refine wl_det rfl rfl (det_move rfl) rfl ?_
    obtain ⟨r3_1, hr3_1, h⟩ := bind_some h
    refine wl_act (act_callS (cap := []) (W_treatymade_Deck_Next a0 5 Ba0 A1 a0.L.length c1 r3_1 hr3_1) rfl rfl rfl bd45 ⟨_, r0, rfl⟩ ⟨m0, trivial⟩) rfl rfl rfl ?_
    rintro _ _ _ ⟨_, _, ⟨y3_1A0, y3_1n0, y3_1c0, rfl, rfl, rfl⟩, rfl, rfl⟩
    dsimp only [List.nil_append, List.cons_append]
    refine wl_know (fun _ h => h.lenF m0) (fun e => ?_)
    subst e
    refine wl_det rfl rfl (det_assign rfl) rfl ?_
    refine wl_nil ?_
    refine pn_then ?_
    refine wc_block ?_
    refine wc_st (fun _ h => h.zeroS lGPart 25 none) ?_
    obtain ⟨k10, hk10⟩ := loopV_some.1 h
    refine wc_loop (G := Nat × ((List Int) × Int × (List GPart) × Int × Int × Int) × Option Addr × Nat × Nat × Option Addr × Nat × Nat × Unit) (fun g => IterN treatymade_Deck_Parts_l10 g.1 g.2.1 q6) (fun g => g.1) (fun (_, s10, _, _, _, A10_3, n10_3, c10_3, _) => [(0, .pointer (some ⟨Ba0, 0, none⟩)), (3, .slice A10_3 n10_3 c10_3), (4, .int .i64 s10.2.2.2.1), (5, .int .i64 s10.2.2.2.2.1), (6, .int .i64 s10.2.2.2.2.2)]) (fun (_, s10, A10_0, n10_0, c10_0, A10_3, n10_3, c10_3, _) => [eBlk Ba0 71 [.slice A10_0 n10_0 c10_0, .int .i64 s10.2.1], eS lGPart 25 A10_3 n10_3 c10_3 s10.2.2.1]) (fun (_, s10, A10_0, n10_0, c10_0, _, _, _, _) => [fV (lSlice (lInt .i64)) (.slice A10_0 n10_0 c10_0) s10.1]) (k10, (r3_1.2.L, r3_1.2.At, [], 1000000, 0, r3_1.1), y3_1A0, r3_1.2.L.length, y3_1c0, none, 0, 0, ()) hk10 ⟨rfl, rfl, rfl, rfl, rfl, trivial⟩ (fun _ h => h.to ⟨_, (rs r0), ⟨_, r0, trivial⟩⟩ ⟨m0, trivial⟩) ?_
    rintro ⟨k10, s10, A10_0, n10_0, c10_0, A10_3, n10_3, c10_3, _⟩ hI
    obtain ⟨k10, rfl, q10, h, g10⟩ := IterN.pos hI
    dsimp only at h ⊢
    unfold treatymade_Deck_Parts_l10 at h
    refine wc_know (fun _ h => h.lenF m0) (fun e => ?_)
    subst e
    refine wc_know (fun _ h => h.lenO (ms m0)) (fun e => ?_)
    subst e
    refine wc_seq ?_
    refine wc_seq ?_
    refine wc_region ?_   -- region 4
    refine wl_det rfl rfl (det_move rfl) rfl ?_
    refine wl_det rfl rfl (det_gtr rfl rfl) rfl ?_
    refine wl_det rfl rfl (det_move rfl) rfl ?_
    refine wl_way (decide (0 < s10.2.2.2.2.2)) ((decide (0 < s10.2.2.2.2.2)) && (decide (0 < s10.2.2.2.1))) 3 15 (fun hg => ?_) (fun hg => ?_) ?_
    · have hg4_5 := hg
      refine wl_on rfl rfl rfl rfl hg4_5 ?_
      refine wl_det rfl rfl (det_move rfl) rfl ?_
      refine wl_on rfl rfl rfl rfl hg4_5 ?_
      refine wl_det rfl rfl (det_gtr rfl rfl) rfl ?_
      refine wl_det rfl rfl (det_and_on rfl rfl rfl hg4_5) rfl ?_
      exact wl_nil (pn_qnE (ext_cons rfl (ext_skip rfl (ext_skip rfl (ext_skip rfl ext_refl)))) (fun _ h => h))
    · have hg4_5a := hg
      refine wl_off rfl rfl rfl rfl rfl hg4_5a rfl ?_
      refine wl_off rfl rfl rfl rfl rfl hg4_5a rfl ?_
      refine wl_det rfl rfl (det_and_off (q := (decide (0 < s10.2.2.2.1))) rfl rfl rfl hg4_5a) rfl ?_
      exact wl_nil (pn_qnE (ext_cons rfl (ext_skip rfl (ext_skip rfl (ext_skip rfl ext_refl)))) (fun _ h => h))
    refine wl_nil ?_
    refine pn_then ?_
    refine wc_cond rfl (fun cd14 => ?_) (fun cd14 => ?_)
    · have h := ifT h cd14
      refine wc_skip ?_
      refine pn_then ?_
      refine wc_seq ?_
      refine wc_block ?_
      refine wc_seq ?_
      refine wc_region ?_   -- region 6
      refine wl_det rfl rfl (det_move rfl) rfl ?_
      refine wl_det rfl rfl (det_add rfl rfl) rfl ?_
      refine wl_det rfl rfl (det_move rfl) rfl ?_
      obtain ⟨r6_3, hr6_3, h⟩ := bind_some h
      refine wl_act (act_callS (cap := []) (W_treatymade_Deck_Next (GDeck.mk s10.1 s10.2.1) 3 Ba0 A10_0 s10.1.length c10_0 r6_3 hr6_3) rfl rfl rfl bd45 ⟨_, r0, rfl⟩ ⟨m0, trivial⟩) rfl rfl rfl ?_
      rintro _ _ _ ⟨_, _, ⟨y6_3A0, y6_3n0, y6_3c0, rfl, rfl, rfl⟩, rfl, rfl⟩
      dsimp only [List.nil_append, List.cons_append]
      refine wl_know (fun _ h => h.lenF m0) (fun e => ?_)
      subst e
      refine wl_det rfl rfl (det_add rfl rfl) rfl ?_
      refine wl_det rfl rfl (det_assign rfl) rfl ?_
      refine wl_nil ?_
      refine pn_then ?_
      refine wc_seq ?_
      refine wc_region ?_   -- region 7
      refine wl_det rfl rfl (det_move rfl) rfl ?_
      refine wl_det rfl rfl (det_move rfl) rfl ?_
      refine wl_det rfl rfl (det_sub rfl rfl) rfl ?_
      obtain ⟨r7_3, hr7_3, h⟩ := bind_some h
      refine wl_act (act_callS (cap := []) (W_treatymade_Deck_Upto r6_3.2 (w64 (s10.2.2.2.1 - 1)) Ba0 y6_3A0 r6_3.2.L.length y6_3c0 r7_3 hr7_3) rfl rfl rfl bd28 ⟨_, r0, rfl⟩ ⟨m0, trivial⟩) rfl rfl rfl ?_
      rintro _ _ _ ⟨_, _, ⟨y7_3A0, y7_3n0, y7_3c0, rfl, rfl, rfl⟩, rfl, rfl⟩
      dsimp only [List.nil_append, List.cons_append]
      refine wl_know (fun _ h => h.lenF m0) (fun e => ?_)
      subst e
      refine wl_det rfl rfl (det_add rfl rfl) rfl ?_
      refine wl_det rfl rfl (det_assign rfl) rfl ?_
      refine wl_nil ?_
      refine pn_then ?_
      refine wc_region ?_   -- region 8
      refine wl_det rfl rfl (det_move rfl) rfl ?_
      refine wl_det rfl rfl (det_move rfl) rfl ?_
      refine wl_det rfl rfl (det_move rfl) rfl ?_
      refine wl_det rfl rfl (det_build (cs := [_, _]) pl25 zr25 rfl rfl (by rfl)) rfl ?_
      refine wl_act (act_litS lGPart (vs := [_]) (cs := [_, _]) [(GPart.mk (w64 ((w64 (s10.2.2.2.2.1 + 1)) + r6_3.1)) (w64 (1 + r7_3.1)))] un22 in25 rfl rfl rfl rfl rfl ⟨rfl, trivial⟩ (by rfl) rfl (litR_flat rfl)) rfl rfl rfl ?_
      rintro _ _ _ ⟨A8_4, rfl, rfl, rfl⟩
      obtain ⟨k8_5, h⟩ := chk_some h
      refine wl_act (act_appendS (L := lGPart) rfl rfl (ss (ss s0)) (src_O m0) un22 in25 rfl rfl rfl k8_5) rfl rfl rfl ?_
      rintro _ _ _ ⟨A8_5, c8_5, rfl, rfl, rfl⟩
      refine wl_det rfl rfl (det_move rfl) rfl ?_
      refine wl_det rfl rfl (det_move rfl) rfl ?_
      refine wl_det rfl rfl (det_sub rfl rfl) rfl ?_
      refine wl_det rfl rfl (det_assign rfl) rfl ?_
      refine wl_det rfl rfl (det_assign rfl) rfl ?_
      refine wl_nil ?_
      refine pn_block ?_
      refine pn_then ?_
      refine wc_region ?_   -- region 5
      refine wl_det rfl rfl (det_move rfl) rfl ?_
      refine wl_det rfl rfl (det_sub rfl rfl) rfl ?_
      refine wl_det rfl rfl (det_assign rfl) rfl ?_
      refine wl_nil ?_
      replace h := Option.some.inj h
      subst h
      exact pn_some (k10, (r7_3.2.L, r7_3.2.At, (s10.2.2.1 ++ [(GPart.mk (w64 ((w64 (s10.2.2.2.2.1 + 1)) + r6_3.1)) (w64 (1 + r7_3.1)))]), (w64 (s10.2.2.2.1 - (w64 (1 + r7_3.1)))), (w64 ((w64 (s10.2.2.2.2.1 + 1)) + r6_3.1)), (w64 (s10.2.2.2.2.2 - 1))), y7_3A0, r7_3.2.L.length, y7_3c0, A8_5, (s10.2.2.1 ++ [(GPart.mk (w64 ((w64 (s10.2.2.2.2.1 + 1)) + r6_3.1)) (w64 (1 + r7_3.1)))]).length, c8_5, ()) ⟨nextL g10, Nat.lt_succ_self _⟩ ⟨rfl, rfl, rfl, rfl, rfl, trivial⟩ (fun _ h => h.to ⟨_, (rs r0), ⟨_, (rs r0), trivial⟩⟩ ⟨m0, trivial⟩)
    · have h := ifF h cd14
      refine wc_exit ?_
      refine px_then ?_
      refine px_then ?_
      refine px_block ?_
      replace h := Option.some.inj h
      subst h
      replace g10 := nextR g10
      subst g10
      exact pn_meetG ((s10.1, s10.2.1, s10.2.2.1), A10_0, s10.1.length, c10_0, A10_3, s10.2.2.1.length, c10_3, ()) rfl ⟨rfl, trivial⟩ (fun _ h => h.to ⟨_, r0, ⟨_, r0, trivial⟩⟩ ⟨m0, trivial⟩)
  rintro ⟨s6, A6_0, n6_0, c6_0, A6_3, n6_3, c6_3, _⟩ e6
  dsimp only at e6 ⊢
  subst e6
  have h := ho6
  refine wc_know (fun _ h => h.lenF m0) (fun e => ?_)
  subst e
  refine wc_know (fun _ h => h.lenO (ms m0)) (fun e => ?_)
  subst e
  refine wc_seq ?_
  refine wc_region ?_   -- region 9
  refine wl_det rfl rfl (det_move rfl) rfl ?_
  refine wl_det rfl rfl (det_assign rfl) rfl ?_
  refine wl_nil ?_
  refine pn_then ?_
  refine wc_ret ?_
  replace h := Option.some.inj h
  subst h
  refine pn_ret (vs := [_]) rfl ⟨rfl, trivial⟩ ⟨A6_3, s6.2.2.length, c6_3, A6_0, s6.1.length, c6_0, rfl, rfl, rfl⟩ (fun _ h => h.to ⟨_, (rs r0), ⟨_, r0, trivial⟩⟩ ⟨m0, trivial⟩)
end Go.Proofs.Ytlmhmpngjfjfhaa
