/- That functions of the program compute the plain programs of P. Written by a small program. -/
import Derived.Test.YtadkcelipefpmaaKTab
import Derived.Test.YtadkcelipefpmaaP
import Derived.Test.YtadkcelipefpmaaKMap
import Derived.Test.YtadkcelipefpmaaKSortK
import Derived.Test.YtadkcelipefpmaaSort54
namespace Go.Proofs.Ytadkcelipefpmaa
open Go.RowKit
def encGShare (x : GShare) : List Value := [.int .i64 x.Loss, .int .i64 x.Treaty, .int .i64 x.Party, .int .i64 x.Amount, .int .i64 x.Paid]
def lGShare : Lay GShare := lFlat encGShare 5 (fun _ => rfl) (fun _ u hu => by simp only [encGShare, List.mem_cons, List.not_mem_nil, or_false] at hu; rcases hu with rfl | rfl | rfl | rfl | rfl <;> rfl)
def encGEntry (x : GEntry) : List Value := [.int .i64 x.Kind, .int .i64 x.Treaty, .int .i64 x.Party, .int .i64 x.Loss, .int .i64 x.Amount]
def lGEntry : Lay GEntry := lFlat encGEntry 5 (fun _ => rfl) (fun _ u hu => by simp only [encGEntry, List.mem_cons, List.not_mem_nil, or_false] at hu; rcases hu with rfl | rfl | rfl | rfl | rfl <;> rfl)
def encGPosting (x : GPosting) : List Value := [.int .i64 x.Number, .int .i64 x.Period, .int .i64 x.Entry.Kind, .int .i64 x.Entry.Treaty, .int .i64 x.Entry.Party, .int .i64 x.Entry.Loss, .int .i64 x.Entry.Amount]
def lGPosting : Lay GPosting := lFlat encGPosting 7 (fun _ => rfl) (fun _ u hu => by simp only [encGPosting, List.mem_cons, List.not_mem_nil, or_false] at hu; rcases hu with rfl | rfl | rfl | rfl | rfl | rfl | rfl <;> rfl)
def lGLedger : Lay GLedger := lMap (fun x => (x.Closed, x.Postings)) (lPair (lInt .i64) (lSlice lGPosting))
theorem viewGLedger {w : World} {S : Nat → Prop} {cs : List Value} {x : GLedger} (h : lGLedger.R w S cs x) : ∃ A0 c0, cs = [.int .i64 x.Closed, .slice A0 x.Postings.length c0] ∧ AllR w S [fV (lSlice lGPosting) (.slice A0 x.Postings.length c0) x.Postings] := by
  obtain ⟨_, _, rfl, rfl, ⟨A0, _, c0, rfl, rfl, l0, e0⟩⟩ := h
  exact ⟨A0, c0, rfl, ⟨⟨_, _, _, rfl, rfl, l0, e0⟩, trivial⟩⟩
theorem mkGLedger {w : World} {S : Nat → Prop} {x : GLedger} {A0 : Option Addr} {n0 c0 : Nat}  (h : AllR w S [fV (lSlice lGPosting) (.slice A0 n0 c0) x.Postings]) : lGLedger.R w S [.int .i64 x.Closed, .slice A0 n0 c0] x := by
  obtain ⟨k0, _⟩ := h
  exact ⟨_, _, rfl, rfl, k0⟩
def lGDeck : Lay GDeck := lMap (fun x => (x.L, x.At)) (lPair (lSlice (lInt .i64)) (lInt .i64))
theorem viewGDeck {w : World} {S : Nat → Prop} {cs : List Value} {x : GDeck} (h : lGDeck.R w S cs x) : ∃ A0 c0, cs = [.slice A0 x.L.length c0, .int .i64 x.At] ∧ AllR w S [fV (lSlice (lInt .i64)) (.slice A0 x.L.length c0) x.L] := by
  obtain ⟨_, _, rfl, ⟨A0, _, c0, rfl, rfl, l0, e0⟩, rfl⟩ := h
  exact ⟨A0, c0, rfl, ⟨⟨_, _, _, rfl, rfl, l0, e0⟩, trivial⟩⟩
theorem mkGDeck {w : World} {S : Nat → Prop} {x : GDeck} {A0 : Option Addr} {n0 c0 : Nat}  (h : AllR w S [fV (lSlice (lInt .i64)) (.slice A0 n0 c0) x.L]) : lGDeck.R w S [.slice A0 n0 c0, .int .i64 x.At] x := by
  obtain ⟨k0, _⟩ := h
  exact ⟨_, _, rfl, k0, rfl⟩
def encKGShare (x : GShare) : Value := .agg (encGShare x).toArray
def encKGEntry (x : GEntry) : Value := .agg (encGEntry x).toArray
def encKGPosting (x : GPosting) : Value := .agg (encGPosting x).toArray
theorem ko41 : KeyOk Try.prog 41 encKGEntry := keyOk_flat eq41 (fun x => [x.Kind, x.Treaty, x.Party, x.Loss, x.Amount]) (fun _ => rfl) (fun _ => rfl) (fun x y h => by simp only [List.cons.injEq, and_true] at h; cases x; cases y; simp_all)
theorem openGLedger {C : Cx} {η : List Ent} {ι : List Fact} {w : World} {A : Option Addr} {m c : Nat} {xs : List GLedger} (h : St C η ι w) (hf : fV (lSlice lGLedger) (.slice A m c) xs ∈ ι) {i : Int} (hi : inb xs i = true) : ∃ g : Option Addr × Nat, True ∧ St C η (fPt A (i.toNat * 2) [.int .i64 (ix xs i).Closed, .slice g.1 (ix xs i).Postings.length g.2] :: fV (lSlice lGPosting) (.slice g.1 (ix xs i).Postings.length g.2) (ix xs i).Postings :: ι) w := by
  obtain ⟨cs, hs⟩ := h.openE hf hi
  obtain ⟨A0, c0, rfl, hr⟩ := viewGLedger (hs.facts _ (ms m0))
  exact ⟨(A0, c0), trivial, (hs.addR hr).subFacts (sub_mid (κ := [_]))⟩
theorem openGDeck {C : Cx} {η : List Ent} {ι : List Fact} {w : World} {A : Option Addr} {m c : Nat} {xs : List GDeck} (h : St C η ι w) (hf : fV (lSlice lGDeck) (.slice A m c) xs ∈ ι) {i : Int} (hi : inb xs i = true) : ∃ g : Option Addr × Nat, True ∧ St C η (fPt A (i.toNat * 2) [.slice g.1 (ix xs i).L.length g.2, .int .i64 (ix xs i).At] :: fV (lSlice (lInt .i64)) (.slice g.1 (ix xs i).L.length g.2) (ix xs i).L :: ι) w := by
  obtain ⟨cs, hs⟩ := h.openE hf hi
  obtain ⟨A0, c0, rfl, hr⟩ := viewGDeck (hs.facts _ (ms m0))
  exact ⟨(A0, c0), trivial, (hs.addR hr).subFacts (sub_mid (κ := [_]))⟩
theorem bd12 : bodyB Try.prog 12 = true := by kernel_rfl
theorem bd14 : bodyB Try.prog 14 = true := by kernel_rfl
theorem bd16 : bodyB Try.prog 16 = true := by kernel_rfl
theorem bd18 : bodyB Try.prog 18 = true := by kernel_rfl
theorem bd20 : bodyB Try.prog 20 = true := by kernel_rfl
theorem bd23 : bodyB Try.prog 23 = true := by kernel_rfl
theorem bd26 : bodyB Try.prog 26 = true := by kernel_rfl
theorem bd28 : bodyB Try.prog 28 = true := by kernel_rfl
theorem bd30 : bodyB Try.prog 30 = true := by kernel_rfl
theorem bd32 : bodyB Try.prog 32 = true := by kernel_rfl
theorem bd34 : bodyB Try.prog 34 = true := by kernel_rfl
theorem bd35 : bodyB Try.prog 35 = true := by kernel_rfl
theorem bd37 : bodyB Try.prog 37 = true := by kernel_rfl
theorem bd42 : bodyB Try.prog 42 = true := by kernel_rfl
theorem bd43 : bodyB Try.prog 43 = true := by kernel_rfl
theorem bd44 : bodyB Try.prog 44 = true := by kernel_rfl
theorem bd46 : bodyB Try.prog 46 = true := by kernel_rfl
theorem bd51 : bodyB Try.prog 51 = true := by kernel_rfl
theorem bd52 : bodyB Try.prog 52 = true := by kernel_rfl
theorem bd54 : bodyB Try.prog 54 = true := by kernel_rfl
theorem bd55 : bodyB Try.prog 55 = true := by kernel_rfl
theorem bd56 : bodyB Try.prog 56 = true := by kernel_rfl
theorem bd57 : bodyB Try.prog 57 = true := by kernel_rfl
theorem bd58 : bodyB Try.prog 58 = true := by kernel_rfl
theorem bd59 : bodyB Try.prog 59 = true := by kernel_rfl
theorem bd62 : bodyB Try.prog 62 = true := by kernel_rfl
theorem bd63 : bodyB Try.prog 63 = true := by kernel_rfl
theorem bd64 : bodyB Try.prog 64 = true := by kernel_rfl
theorem bd69 : bodyB Try.prog 69 = true := by kernel_rfl
theorem bd70 : bodyB Try.prog 70 = true := by kernel_rfl
theorem bd71 : bodyB Try.prog 71 = true := by kernel_rfl
theorem bd72 : bodyB Try.prog 72 = true := by kernel_rfl
theorem bd73 : bodyB Try.prog 73 = true := by kernel_rfl
theorem bd74 : bodyB Try.prog 74 = true := by kernel_rfl
theorem bd75 : bodyB Try.prog 75 = true := by kernel_rfl
theorem bd86 : bodyB Try.prog 86 = true := by kernel_rfl
def Q_amount_Valid (r : Bool) : Value → List Ent → List Fact → Prop := fun v θ κ => v = .bool r ∧ θ = [] ∧ κ = []
theorem plains_amount_Valid {r : Bool} : ∀ v θ κ, Q_amount_Valid r v θ κ → Plains θ := by
  rintro _ _ _ ⟨rfl, rfl, rfl⟩
  exact trivial
set_option maxHeartbeats 4000000 in
set_option maxRecDepth 100000 in
theorem W_amount_Valid (a0 : Int) (r : Bool) (h : amount_Valid a0 = some r) : Spec Try.prog 51 [.int .i64 a0] [] [] (Q_amount_Valid r) := by
  unfold amount_Valid at h
  refine spec_of (σ := [(0, _)]) Try.func51 rfl rfl rfl rfl ?_
  intro C
  refine wc_seq ?_
  refine wc_region ?_   -- region 0
  refine wl_det rfl rfl (det_assign rfl) rfl ?_
  refine wl_nil ?_
  refine pn_then ?_
  refine wc_seq ?_
  refine wc_region ?_   -- region 1
  refine wl_det rfl rfl (det_move rfl) rfl ?_
  refine wl_det rfl rfl (det_leq rfl rfl) rfl ?_
  refine wl_det rfl rfl (det_move rfl) rfl ?_
  refine wl_way (decide ((-17592186044416) ≤ a0)) ((decide ((-17592186044416) ≤ a0)) && (decide (a0 ≤ 17592186044416))) 3 8 (fun hg => ?_) (fun hg => ?_) ?_
  · have hg1_5 := hg
    refine wl_on rfl rfl rfl rfl hg1_5 ?_
    refine wl_det rfl rfl (det_move rfl) rfl ?_
    refine wl_on rfl rfl rfl rfl hg1_5 ?_
    refine wl_det rfl rfl (det_leq rfl rfl) rfl ?_
    refine wl_det rfl rfl (det_and_on rfl rfl rfl hg1_5) rfl ?_
    exact wl_nil (pn_qnE (ext_cons rfl (ext_skip rfl (ext_skip rfl (ext_skip rfl ext_refl)))) (fun _ h => h))
  · have hg1_5a := hg
    refine wl_off rfl rfl rfl rfl rfl hg1_5a rfl ?_
    refine wl_off rfl rfl rfl rfl rfl hg1_5a rfl ?_
    refine wl_det rfl rfl (det_and_off (q := (decide (a0 ≤ 17592186044416))) rfl rfl rfl hg1_5a) rfl ?_
    exact wl_nil (pn_qnE (ext_cons rfl (ext_skip rfl (ext_skip rfl (ext_skip rfl ext_refl)))) (fun _ h => h))
  refine wl_det rfl rfl (det_assign rfl) rfl ?_
  refine wl_nil ?_
  refine pn_then ?_
  refine wc_ret ?_
  replace h := Option.some.inj h
  subst h
  refine pn_ret (vs := [_]) rfl ⟨rfl, trivial⟩ ⟨rfl, rfl, rfl⟩ (fun _ h => h.to trivial trivial)
def Q_ledger_Valid (r : Bool) : Value → List Ent → List Fact → Prop := fun v θ κ => v = .bool r ∧ θ = [] ∧ κ = []
theorem plains_ledger_Valid {r : Bool} : ∀ v θ κ, Q_ledger_Valid r v θ κ → Plains θ := by
  rintro _ _ _ ⟨rfl, rfl, rfl⟩
  exact trivial
set_option maxHeartbeats 4000000 in
set_option maxRecDepth 100000 in
theorem W_ledger_Valid (a0 : GEntry) (r : Bool) (h : ledger_Valid a0 = some r) : Spec Try.prog 23 [.agg #[.int .i64 a0.Kind, .int .i64 a0.Treaty, .int .i64 a0.Party, .int .i64 a0.Loss, .int .i64 a0.Amount]] [] [] (Q_ledger_Valid r) := by
  unfold ledger_Valid at h
  refine spec_of (σ := [(0, _)]) Try.func23 rfl rfl rfl rfl ?_
  intro C
  refine wc_seq ?_
  refine wc_region ?_   -- region 0
  refine wl_act (act_box (cs := [_, _, _, _, _]) rfl rfl) rfl rfl rfl ?_
  rintro _ _ _ ⟨b0_0, rfl, rfl, rfl⟩
  refine wl_det rfl rfl (det_assign rfl) rfl ?_
  refine wl_nil ?_
  refine pn_then ?_
  refine wc_seq ?_
  refine wc_seq ?_
  refine wc_region ?_   -- region 1
  refine wl_det rfl rfl (det_field rfl fd41_0 rfl) rfl ?_
  refine wl_det rfl rfl (det_load rfl m0 (by rfl) na3 us3) rfl ?_
  refine wl_det rfl rfl (det_lss rfl rfl) rfl ?_
  refine wl_det rfl rfl (det_move rfl) rfl ?_
  refine wl_way (decide (a0.Kind < 1)) ((decide (a0.Kind < 1)) || (decide (5 < a0.Kind))) 4 10 (fun hg => ?_) (fun hg => ?_) ?_
  · have hg1_7 := hg
    refine wl_off rfl rfl rfl rfl rfl hg1_7 rfl ?_
    refine wl_off rfl rfl rfl rfl rfl hg1_7 rfl ?_
    refine wl_off rfl rfl rfl rfl rfl hg1_7 rfl ?_
    refine wl_det rfl rfl (det_or_on (r := (decide (5 < a0.Kind))) rfl rfl rfl hg1_7) rfl ?_
    exact wl_nil (pn_qnE (ext_cons rfl (ext_skip rfl (ext_skip rfl (ext_skip rfl (ext_skip rfl ext_refl))))) (fun _ h => h))
  · have hg1_7a := hg
    refine wl_on rfl rfl rfl rfl hg1_7a ?_
    refine wl_det rfl rfl (det_field rfl fd41_0 rfl) rfl ?_
    refine wl_on rfl rfl rfl rfl hg1_7a ?_
    refine wl_det rfl rfl (det_load rfl m0 (by rfl) na3 us3) rfl ?_
    refine wl_on rfl rfl rfl rfl hg1_7a ?_
    refine wl_det rfl rfl (det_gtr rfl rfl) rfl ?_
    refine wl_det rfl rfl (det_or_off rfl rfl rfl hg1_7a) rfl ?_
    exact wl_nil (pn_qnE (ext_cons rfl (ext_skip rfl (ext_skip rfl (ext_skip rfl (ext_skip rfl ext_refl))))) (fun _ h => h))
  refine wl_det rfl rfl (det_move rfl) rfl ?_
  refine wl_way ((decide (a0.Kind < 1)) || (decide (5 < a0.Kind))) (((decide (a0.Kind < 1)) || (decide (5 < a0.Kind))) || (decide (a0.Treaty < 0))) 4 15 (fun hg => ?_) (fun hg => ?_) ?_
  · have hg1_12 := hg
    refine wl_off rfl rfl rfl rfl rfl hg1_12 rfl ?_
    refine wl_off rfl rfl rfl rfl rfl hg1_12 rfl ?_
    refine wl_off rfl rfl rfl rfl rfl hg1_12 rfl ?_
    refine wl_det rfl rfl (det_or_on (r := (decide (a0.Treaty < 0))) rfl rfl rfl hg1_12) rfl ?_
    exact wl_nil (pn_qnE (ext_cons rfl (ext_skip rfl (ext_skip rfl (ext_skip rfl (ext_skip rfl ext_refl))))) (fun _ h => h))
  · have hg1_12a := hg
    refine wl_on rfl rfl rfl rfl hg1_12a ?_
    refine wl_det rfl rfl (det_field rfl fd41_1 rfl) rfl ?_
    refine wl_on rfl rfl rfl rfl hg1_12a ?_
    refine wl_det rfl rfl (det_load rfl m0 (by rfl) na3 us3) rfl ?_
    refine wl_on rfl rfl rfl rfl hg1_12a ?_
    refine wl_det rfl rfl (det_lss rfl rfl) rfl ?_
    refine wl_det rfl rfl (det_or_off rfl rfl rfl hg1_12a) rfl ?_
    exact wl_nil (pn_qnE (ext_cons rfl (ext_skip rfl (ext_skip rfl (ext_skip rfl (ext_skip rfl ext_refl))))) (fun _ h => h))
  refine wl_det rfl rfl (det_move rfl) rfl ?_
  refine wl_way (((decide (a0.Kind < 1)) || (decide (5 < a0.Kind))) || (decide (a0.Treaty < 0))) ((((decide (a0.Kind < 1)) || (decide (5 < a0.Kind))) || (decide (a0.Treaty < 0))) || (decide (1048576 < a0.Treaty))) 4 20 (fun hg => ?_) (fun hg => ?_) ?_
  · have hg1_17 := hg
    refine wl_off rfl rfl rfl rfl rfl hg1_17 rfl ?_
    refine wl_off rfl rfl rfl rfl rfl hg1_17 rfl ?_
    refine wl_off rfl rfl rfl rfl rfl hg1_17 rfl ?_
    refine wl_det rfl rfl (det_or_on (r := (decide (1048576 < a0.Treaty))) rfl rfl rfl hg1_17) rfl ?_
    exact wl_nil (pn_qnE (ext_cons rfl (ext_skip rfl (ext_skip rfl (ext_skip rfl (ext_skip rfl ext_refl))))) (fun _ h => h))
  · have hg1_17a := hg
    refine wl_on rfl rfl rfl rfl hg1_17a ?_
    refine wl_det rfl rfl (det_field rfl fd41_1 rfl) rfl ?_
    refine wl_on rfl rfl rfl rfl hg1_17a ?_
    refine wl_det rfl rfl (det_load rfl m0 (by rfl) na3 us3) rfl ?_
    refine wl_on rfl rfl rfl rfl hg1_17a ?_
    refine wl_det rfl rfl (det_gtr rfl rfl) rfl ?_
    refine wl_det rfl rfl (det_or_off rfl rfl rfl hg1_17a) rfl ?_
    exact wl_nil (pn_qnE (ext_cons rfl (ext_skip rfl (ext_skip rfl (ext_skip rfl (ext_skip rfl ext_refl))))) (fun _ h => h))
  refine wl_nil ?_
  refine pn_then ?_
  refine wc_cond rfl (fun cd5 => ?_) (fun cd5 => ?_)
  · have h := ifT h cd5
    refine wc_seq ?_
    refine wc_region ?_   -- region 2
    refine wl_det rfl rfl (det_assign rfl) rfl ?_
    refine wl_nil ?_
    refine pn_then ?_
    refine wc_ret ?_
    refine pr_then ?_
    replace h := Option.some.inj h
    subst h
    refine pn_ret (vs := [_]) rfl ⟨rfl, trivial⟩ ⟨rfl, rfl, rfl⟩ (fun _ h => h.to trivial trivial)
  · have h := ifF h cd5
    refine wc_skip ?_
    refine pn_then ?_
    refine wc_seq ?_
    refine wc_seq ?_
    refine wc_region ?_   -- region 3
    refine wl_det rfl rfl (det_field rfl fd41_2 rfl) rfl ?_
    refine wl_det rfl rfl (det_load rfl m0 (by rfl) na3 us3) rfl ?_
    refine wl_det rfl rfl (det_lss rfl rfl) rfl ?_
    refine wl_det rfl rfl (det_move rfl) rfl ?_
    refine wl_way (decide (a0.Party < 0)) ((decide (a0.Party < 0)) || (decide (15 < a0.Party))) 4 28 (fun hg => ?_) (fun hg => ?_) ?_
    · have hg3_7 := hg
      refine wl_off rfl rfl rfl rfl rfl hg3_7 rfl ?_
      refine wl_off rfl rfl rfl rfl rfl hg3_7 rfl ?_
      refine wl_off rfl rfl rfl rfl rfl hg3_7 rfl ?_
      refine wl_det rfl rfl (det_or_on (r := (decide (15 < a0.Party))) rfl rfl rfl hg3_7) rfl ?_
      exact wl_nil (pn_qnE (ext_cons rfl (ext_skip rfl (ext_skip rfl (ext_skip rfl (ext_skip rfl ext_refl))))) (fun _ h => h))
    · have hg3_7a := hg
      refine wl_on rfl rfl rfl rfl hg3_7a ?_
      refine wl_det rfl rfl (det_field rfl fd41_2 rfl) rfl ?_
      refine wl_on rfl rfl rfl rfl hg3_7a ?_
      refine wl_det rfl rfl (det_load rfl m0 (by rfl) na3 us3) rfl ?_
      refine wl_on rfl rfl rfl rfl hg3_7a ?_
      refine wl_det rfl rfl (det_gtr rfl rfl) rfl ?_
      refine wl_det rfl rfl (det_or_off rfl rfl rfl hg3_7a) rfl ?_
      exact wl_nil (pn_qnE (ext_cons rfl (ext_skip rfl (ext_skip rfl (ext_skip rfl (ext_skip rfl ext_refl))))) (fun _ h => h))
    refine wl_det rfl rfl (det_move rfl) rfl ?_
    obtain ⟨q3_13, hq3_13, h⟩ := bind_some h
    have ho3_13 := h
    refine wl_way ((decide (a0.Party < 0)) || (decide (15 < a0.Party))) q3_13 5 34 (fun hg => ?_) (fun hg => ?_) ?_
    · have hg3_13 := hg
      have h := ifT hq3_13 hg
      refine wl_off rfl rfl rfl rfl rfl hg3_13 rfl ?_
      refine wl_off rfl rfl rfl rfl rfl hg3_13 rfl ?_
      refine wl_off rfl rfl rfl rfl rfl hg3_13 rfl ?_
      refine wl_off rfl rfl rfl rfl rfl hg3_13 rfl ?_
      replace h := Option.some.inj h
      subst h
      refine wl_det rfl rfl (det_pick_on rfl hg3_13 rfl rfl) rfl ?_
      exact wl_nil (pn_qnE (ext_cons rfl (ext_skip rfl (ext_skip rfl (ext_skip rfl (ext_skip rfl (ext_skip rfl ext_refl)))))) (fun _ h => h))
    · have hg3_13a := hg
      have h := ifF hq3_13 hg
      refine wl_on rfl rfl rfl rfl hg3_13a ?_
      refine wl_det rfl rfl (det_field rfl fd41_4 rfl) rfl ?_
      refine wl_on rfl rfl rfl rfl hg3_13a ?_
      refine wl_det rfl rfl (det_load rfl m0 (by rfl) na3 us3) rfl ?_
      refine wl_on rfl rfl rfl rfl hg3_13a ?_
      obtain ⟨r3_11, hr3_11, h⟩ := bind_some h
      refine wl_act (act_callS (cap := []) (W_amount_Valid a0.Amount r3_11 hr3_11) rfl rfl rfl bd51 rfl trivial) rfl rfl rfl ?_
      rintro _ _ _ ⟨_, _, ⟨rfl, rfl, rfl⟩, rfl, rfl⟩
      dsimp only [List.nil_append, List.cons_append]
      refine wl_on rfl rfl rfl rfl hg3_13a ?_
      refine wl_det rfl rfl (det_not rfl) rfl ?_
      replace h := Option.some.inj h
      subst h
      refine wl_det rfl rfl (det_pick_off rfl hg3_13a rfl rfl) rfl ?_
      exact wl_nil (pn_qnE (ext_cons rfl (ext_skip rfl (ext_skip rfl (ext_skip rfl (ext_skip rfl (ext_skip rfl ext_refl)))))) (fun _ h => h))
    have h := ho3_13
    refine wl_nil ?_
    refine pn_then ?_
    refine wc_cond rfl (fun cd11 => ?_) (fun cd11 => ?_)
    · have h := ifT h cd11
      refine wc_seq ?_
      refine wc_region ?_   -- region 4
      refine wl_det rfl rfl (det_assign rfl) rfl ?_
      refine wl_nil ?_
      refine pn_then ?_
      refine wc_ret ?_
      refine pr_then ?_
      replace h := Option.some.inj h
      subst h
      refine pn_ret (vs := [_]) rfl ⟨rfl, trivial⟩ ⟨rfl, rfl, rfl⟩ (fun _ h => h.to trivial trivial)
    · have h := ifF h cd11
      refine wc_skip ?_
      refine pn_then ?_
      refine wc_seq ?_
      refine wc_seq ?_
      refine wc_region ?_   -- region 5
      refine wl_det rfl rfl (det_field rfl fd41_0 rfl) rfl ?_
      refine wl_det rfl rfl (det_load rfl m0 (by rfl) na3 us3) rfl ?_
      refine wl_det rfl rfl (det_eql rfl rfl) rfl ?_
      refine wl_det rfl rfl (det_move rfl) rfl ?_
      refine wl_way (decide (a0.Kind = 1)) ((decide (a0.Kind = 1)) || (decide (a0.Kind = 2))) 4 42 (fun hg => ?_) (fun hg => ?_) ?_
      · have hg5_7 := hg
        refine wl_off rfl rfl rfl rfl rfl hg5_7 rfl ?_
        refine wl_off rfl rfl rfl rfl rfl hg5_7 rfl ?_
        refine wl_off rfl rfl rfl rfl rfl hg5_7 rfl ?_
        refine wl_det rfl rfl (det_or_on (r := (decide (a0.Kind = 2))) rfl rfl rfl hg5_7) rfl ?_
        exact wl_nil (pn_qnE (ext_cons rfl (ext_skip rfl (ext_skip rfl (ext_skip rfl (ext_skip rfl ext_refl))))) (fun _ h => h))
      · have hg5_7a := hg
        refine wl_on rfl rfl rfl rfl hg5_7a ?_
        refine wl_det rfl rfl (det_field rfl fd41_0 rfl) rfl ?_
        refine wl_on rfl rfl rfl rfl hg5_7a ?_
        refine wl_det rfl rfl (det_load rfl m0 (by rfl) na3 us3) rfl ?_
        refine wl_on rfl rfl rfl rfl hg5_7a ?_
        refine wl_det rfl rfl (det_eql rfl rfl) rfl ?_
        refine wl_det rfl rfl (det_or_off rfl rfl rfl hg5_7a) rfl ?_
        exact wl_nil (pn_qnE (ext_cons rfl (ext_skip rfl (ext_skip rfl (ext_skip rfl (ext_skip rfl ext_refl))))) (fun _ h => h))
      refine wl_nil ?_
      refine pn_then ?_
      refine wc_cond rfl (fun cd17 => ?_) (fun cd17 => ?_)
      · have h := ifT h cd17
        refine wc_seq ?_
        refine wc_region ?_   -- region 6
        refine wl_det rfl rfl (det_field rfl fd41_3 rfl) rfl ?_
        refine wl_det rfl rfl (det_load rfl m0 (by rfl) na3 us3) rfl ?_
        refine wl_det rfl rfl (det_leq rfl rfl) rfl ?_
        refine wl_det rfl rfl (det_move rfl) rfl ?_
        refine wl_way (decide (1 ≤ a0.Loss)) ((decide (1 ≤ a0.Loss)) && (decide (a0.Loss ≤ 1048576))) 4 50 (fun hg => ?_) (fun hg => ?_) ?_
        · have hg6_7 := hg
          refine wl_on rfl rfl rfl rfl hg6_7 ?_
          refine wl_det rfl rfl (det_field rfl fd41_3 rfl) rfl ?_
          refine wl_on rfl rfl rfl rfl hg6_7 ?_
          refine wl_det rfl rfl (det_load rfl m0 (by rfl) na3 us3) rfl ?_
          refine wl_on rfl rfl rfl rfl hg6_7 ?_
          refine wl_det rfl rfl (det_leq rfl rfl) rfl ?_
          refine wl_det rfl rfl (det_and_on rfl rfl rfl hg6_7) rfl ?_
          exact wl_nil (pn_qnE (ext_cons rfl (ext_skip rfl (ext_skip rfl (ext_skip rfl (ext_skip rfl ext_refl))))) (fun _ h => h))
        · have hg6_7a := hg
          refine wl_off rfl rfl rfl rfl rfl hg6_7a rfl ?_
          refine wl_off rfl rfl rfl rfl rfl hg6_7a rfl ?_
          refine wl_off rfl rfl rfl rfl rfl hg6_7a rfl ?_
          refine wl_det rfl rfl (det_and_off (q := (decide (a0.Loss ≤ 1048576))) rfl rfl rfl hg6_7a) rfl ?_
          exact wl_nil (pn_qnE (ext_cons rfl (ext_skip rfl (ext_skip rfl (ext_skip rfl (ext_skip rfl ext_refl))))) (fun _ h => h))
        refine wl_det rfl rfl (det_assign rfl) rfl ?_
        refine wl_nil ?_
        refine pn_then ?_
        refine wc_ret ?_
        refine pr_then ?_
        replace h := Option.some.inj h
        subst h
        refine pn_ret (vs := [_]) rfl ⟨rfl, trivial⟩ ⟨rfl, rfl, rfl⟩ (fun _ h => h.to trivial trivial)
      · have h := ifF h cd17
        refine wc_skip ?_
        refine pn_then ?_
        refine wc_seq ?_
        refine wc_region ?_   -- region 7
        refine wl_det rfl rfl (det_field rfl fd41_3 rfl) rfl ?_
        refine wl_det rfl rfl (det_load rfl m0 (by rfl) na3 us3) rfl ?_
        refine wl_det rfl rfl (det_eql rfl rfl) rfl ?_
        refine wl_det rfl rfl (det_assign rfl) rfl ?_
        refine wl_nil ?_
        refine pn_then ?_
        refine wc_ret ?_
        replace h := Option.some.inj h
        subst h
        refine pn_ret (vs := [_]) rfl ⟨rfl, trivial⟩ ⟨rfl, rfl, rfl⟩ (fun _ h => h.to trivial trivial)
def Q_ledger_Validate (r : Int) : Value → List Ent → List Fact → Prop := fun v θ κ => v = .int .i64 r ∧ θ = [] ∧ κ = []
theorem plains_ledger_Validate {r : Int} : ∀ v θ κ, Q_ledger_Validate r v θ κ → Plains θ := by
  rintro _ _ _ ⟨rfl, rfl, rfl⟩
  exact trivial
set_option maxHeartbeats 4000000 in
set_option maxRecDepth 100000 in
theorem W_ledger_Validate (a0 : GLedger) (A0 : Option Addr) (n0 : Nat) (c0 : Nat) (r : Int) (h : ledger_Validate a0 = some r) : Spec Try.prog 16 [.agg #[.int .i64 a0.Closed, .slice A0 n0 c0]] [] [fV (lSlice lGPosting) (.slice A0 n0 c0) a0.Postings] (Q_ledger_Validate r) := by
  unfold ledger_Validate at h
  refine spec_of (σ := [(0, _)]) Try.func16 rfl rfl rfl rfl ?_
  intro C
  refine wc_know (fun _ h => h.lenF m0) (fun e => ?_)
  subst e
  refine wc_seq ?_
  refine wc_region ?_   -- region 0
  refine wl_act (act_box (cs := [_, _]) rfl rfl) rfl rfl rfl ?_
  rintro _ _ _ ⟨b0_0, rfl, rfl, rfl⟩
  refine wl_det rfl rfl (det_assign rfl) rfl ?_
  refine wl_nil ?_
  refine pn_then ?_
  refine wc_seq ?_
  refine wc_seq ?_
  refine wc_region ?_   -- region 1
  refine wl_det rfl rfl (det_field rfl fd25_0 rfl) rfl ?_
  refine wl_det rfl rfl (det_load rfl m0 (by rfl) na3 us3) rfl ?_
  refine wl_det rfl rfl (det_lss rfl rfl) rfl ?_
  refine wl_det rfl rfl (det_move rfl) rfl ?_
  refine wl_way (decide (a0.Closed < 0)) ((decide (a0.Closed < 0)) || (decide (100 < a0.Closed))) 4 12 (fun hg => ?_) (fun hg => ?_) ?_
  · have hg1_7 := hg
    refine wl_off rfl rfl rfl rfl rfl hg1_7 rfl ?_
    refine wl_off rfl rfl rfl rfl rfl hg1_7 rfl ?_
    refine wl_off rfl rfl rfl rfl rfl hg1_7 rfl ?_
    refine wl_det rfl rfl (det_or_on (r := (decide (100 < a0.Closed))) rfl rfl rfl hg1_7) rfl ?_
    exact wl_nil (pn_qnE (ext_cons rfl (ext_skip rfl (ext_skip rfl (ext_skip rfl (ext_skip rfl ext_refl))))) (fun _ h => h))
  · have hg1_7a := hg
    refine wl_on rfl rfl rfl rfl hg1_7a ?_
    refine wl_det rfl rfl (det_field rfl fd25_0 rfl) rfl ?_
    refine wl_on rfl rfl rfl rfl hg1_7a ?_
    refine wl_det rfl rfl (det_load rfl m0 (by rfl) na3 us3) rfl ?_
    refine wl_on rfl rfl rfl rfl hg1_7a ?_
    refine wl_det rfl rfl (det_gtr rfl rfl) rfl ?_
    refine wl_det rfl rfl (det_or_off rfl rfl rfl hg1_7a) rfl ?_
    exact wl_nil (pn_qnE (ext_cons rfl (ext_skip rfl (ext_skip rfl (ext_skip rfl (ext_skip rfl ext_refl))))) (fun _ h => h))
  refine wl_det rfl rfl (det_move rfl) rfl ?_
  refine wl_way ((decide (a0.Closed < 0)) || (decide (100 < a0.Closed))) (((decide (a0.Closed < 0)) || (decide (100 < a0.Closed))) || (decide (65536 < (a0.Postings.length : Int)))) 5 18 (fun hg => ?_) (fun hg => ?_) ?_
  · have hg1_13 := hg
    refine wl_off rfl rfl rfl rfl rfl hg1_13 rfl ?_
    refine wl_off rfl rfl rfl rfl rfl hg1_13 rfl ?_
    refine wl_off rfl rfl rfl rfl rfl hg1_13 rfl ?_
    refine wl_off rfl rfl rfl rfl rfl hg1_13 rfl ?_
    refine wl_det rfl rfl (det_or_on (r := (decide (65536 < (a0.Postings.length : Int)))) rfl rfl rfl hg1_13) rfl ?_
    exact wl_nil (pn_qnE (ext_cons rfl (ext_skip rfl (ext_skip rfl (ext_skip rfl (ext_skip rfl (ext_skip rfl ext_refl)))))) (fun _ h => h))
  · have hg1_13a := hg
    refine wl_on rfl rfl rfl rfl hg1_13a ?_
    refine wl_det rfl rfl (det_field rfl fd25_1 rfl) rfl ?_
    refine wl_on rfl rfl rfl rfl hg1_13a ?_
    refine wl_det rfl rfl (det_load rfl m0 (by rfl) na23 us23) rfl ?_
    refine wl_on rfl rfl rfl rfl hg1_13a ?_
    refine wl_det rfl rfl (det_len rfl un23) rfl ?_
    refine wl_on rfl rfl rfl rfl hg1_13a ?_
    refine wl_det rfl rfl (det_gtr rfl rfl) rfl ?_
    refine wl_det rfl rfl (det_or_off rfl rfl rfl hg1_13a) rfl ?_
    exact wl_nil (pn_qnE (ext_cons rfl (ext_skip rfl (ext_skip rfl (ext_skip rfl (ext_skip rfl (ext_skip rfl ext_refl)))))) (fun _ h => h))
  refine wl_nil ?_
  refine pn_then ?_
  refine wc_cond rfl (fun cd5 => ?_) (fun cd5 => ?_)
  · have h := ifT h cd5
    refine wc_seq ?_
    refine wc_region ?_   -- region 2
    refine wl_det rfl rfl (det_assign rfl) rfl ?_
    refine wl_nil ?_
    refine pn_then ?_
    refine wc_ret ?_
    refine pr_then ?_
    replace h := Option.some.inj h
    subst h
    refine pn_ret (vs := [_]) rfl ⟨rfl, trivial⟩ ⟨rfl, rfl, rfl⟩ (fun _ h => h.to trivial trivial)
  · have h := ifF h cd5
    refine wc_skip ?_
    refine pn_then ?_
    obtain ⟨q8, h, ho8⟩ := bind_some h
    refine wc_meetG (G := Unit × Unit) (fun (s8, _) => (.inl s8) = q8) (fun (_, _) => []) (fun (_, _) => []) (fun (_, _) => []) ?_ ?_
    · refine wc_seq ?_
      refine wc_region ?_   -- region 3
      refine wl_det rfl rfl (det_field rfl fd25_1 rfl) rfl ?_
      refine wl_det rfl rfl (det_load rfl m0 (by rfl) na23 us23) rfl ?_
      refine wl_det rfl rfl (det_len rfl un23) rfl ?_
      refine wl_det rfl rfl (det_move rfl) rfl ?_
      refine wl_nil ?_
      refine pn_then ?_
      refine wc_block ?_
      obtain ⟨o12, h, ho12⟩ := bind_some h
      obtain ⟨k12, hk12⟩ := loopV_some.1 h
      refine wc_loop (G := Nat × Int × Unit) (fun g => IterN (ledger_Validate_l12 a0) g.1 g.2.1 o12) (fun g => g.1) (fun (_, s12, _) => [(1, .pointer (some ⟨b0_0, 0, none⟩)), (20, .slice A0 a0.Postings.length c0), (21, .int .i64 (a0.Postings.length : Int)), (22, .int .i64 s12)]) (fun (_, _, _) => [eBlk b0_0 25 [.int .i64 a0.Closed, .slice A0 a0.Postings.length c0]]) (fun (_, _, _) => [fV (lSlice lGPosting) (.slice A0 a0.Postings.length c0) a0.Postings]) (k12, 0, ()) hk12 ⟨rfl, rfl, rfl, rfl, trivial⟩ (fun _ h => h.to ⟨_, r0, trivial⟩ ⟨m0, trivial⟩) ?_
      rintro ⟨k12, s12, _⟩ hI
      obtain ⟨k12, rfl, q12, h, g12⟩ := IterN.pos hI
      dsimp only at h ⊢
      unfold ledger_Validate_l12 at h
      refine wc_seq ?_
      refine wc_region ?_   -- region 4
      refine wl_det rfl rfl (det_lss rfl rfl) rfl ?_
      refine wl_nil ?_
      refine pn_then ?_
      refine wc_seq ?_
      refine wc_cond rfl (fun cd16 => ?_) (fun cd16 => ?_)
      · have h := ifT h cd16
        refine wc_skip ?_
        refine pn_then ?_
        refine wc_seq ?_
        refine wc_block ?_
        refine wc_seq ?_
        refine wc_region ?_   -- region 5
        refine wl_det rfl rfl (det_move rfl) rfl ?_
        obtain ⟨k5_1, h⟩ := chk_some h
        refine wl_st (fun _ h => h.openF m0 k5_1) ?_
        refine wl_det rfl rfl (det_indexP rfl rfl (ms m0) k5_1 m0 un23 sz73) rfl ?_
        refine wl_det rfl rfl (det_loadP (off := 0) rfl m0 (by rfl) (by rfl) (loaded_n (cells := [_, _, _, _, _, _, _]) ag73 sz73)) rfl ?_
        refine wl_act (act_alloc (cs := [_, _, _, _, _, _, _]) zr73 rfl) rfl rfl rfl ?_
        rintro _ _ _ ⟨b5_3, rfl, rfl, rfl⟩
        refine wl_det rfl rfl (det_assign rfl) rfl ?_
        refine wl_act0 (act_store (cells := [_, _, _, _, _, _, _]) (cs' := [_, _, _, _, _, _, _]) rfl rfl rfl s0 (by rfl) (of_decide_eq_true rfl) sz73 ⟨rfl, rfl, rfl, rfl, rfl, rfl, rfl, trivial⟩) rfl rfl ?_
        rintro _ _ _ ⟨rfl, rfl⟩
        refine wl_nil ?_
        refine pn_then ?_
        refine wc_seq ?_
        refine wc_seq ?_
        refine wc_region ?_   -- region 6
        refine wl_det rfl rfl (det_field rfl fd73_2 rfl) rfl ?_
        refine wl_det rfl rfl (det_loadN (cells := [_, _, _, _, _]) rfl m0 (by rfl) ag41 sz41) rfl ?_
        obtain ⟨r6_2, hr6_2, h⟩ := bind_some h
        refine wl_act (act_callS (cap := []) (W_ledger_Valid (ix a0.Postings s12).Entry r6_2 hr6_2) rfl rfl rfl bd23 rfl trivial) rfl rfl rfl ?_
        rintro _ _ _ ⟨_, _, ⟨rfl, rfl, rfl⟩, rfl, rfl⟩
        dsimp only [List.nil_append, List.cons_append]
        refine wl_det rfl rfl (det_not rfl) rfl ?_
        refine wl_det rfl rfl (det_move rfl) rfl ?_
        refine wl_way (!r6_2) ((!r6_2) || (decide ((ix a0.Postings s12).Entry.Amount = 0))) 5 36 (fun hg => ?_) (fun hg => ?_) ?_
        · have hg6_9 := hg
          refine wl_off rfl rfl rfl rfl rfl hg6_9 rfl ?_
          refine wl_off rfl rfl rfl rfl rfl hg6_9 rfl ?_
          refine wl_off rfl rfl rfl rfl rfl hg6_9 rfl ?_
          refine wl_off rfl rfl rfl rfl rfl hg6_9 rfl ?_
          refine wl_det rfl rfl (det_or_on (r := (decide ((ix a0.Postings s12).Entry.Amount = 0))) rfl rfl rfl hg6_9) rfl ?_
          exact wl_nil (pn_qnE (ext_cons rfl (ext_skip rfl (ext_skip rfl (ext_skip rfl (ext_skip rfl (ext_skip rfl ext_refl)))))) (fun _ h => h))
        · have hg6_9a := hg
          refine wl_on rfl rfl rfl rfl hg6_9a ?_
          refine wl_det rfl rfl (det_field rfl fd73_2 rfl) rfl ?_
          refine wl_on rfl rfl rfl rfl hg6_9a ?_
          refine wl_det rfl rfl (det_field rfl fd41_4 rfl) rfl ?_
          refine wl_on rfl rfl rfl rfl hg6_9a ?_
          refine wl_det rfl rfl (det_load rfl m0 (by rfl) na3 us3) rfl ?_
          refine wl_on rfl rfl rfl rfl hg6_9a ?_
          refine wl_det rfl rfl (det_eql rfl rfl) rfl ?_
          refine wl_det rfl rfl (det_or_off rfl rfl rfl hg6_9a) rfl ?_
          exact wl_nil (pn_qnE (ext_cons rfl (ext_skip rfl (ext_skip rfl (ext_skip rfl (ext_skip rfl (ext_skip rfl ext_refl)))))) (fun _ h => h))
        refine wl_nil ?_
        refine pn_then ?_
        refine wc_cond rfl (fun cd25 => ?_) (fun cd25 => ?_)
        · have h := ifT h cd25
          refine wc_seq ?_
          refine wc_region ?_   -- region 7
          refine wl_det rfl rfl (det_assign rfl) rfl ?_
          refine wl_nil ?_
          refine pn_then ?_
          refine wc_ret ?_
          refine pr_then ?_
          refine pr_block ?_
          refine pr_then ?_
          refine pr_then ?_
          refine pr_block ?_
          refine pr_then ?_
          replace h := Option.some.inj h
          subst h
          replace g12 := nextR g12
          subst g12
          have h := (elimL ho12)
          replace h := Option.some.inj h
          subst h
          have h := (elimR ho8)
          replace h := Option.some.inj h
          subst h
          refine pn_ret (vs := [_]) rfl ⟨rfl, trivial⟩ ⟨rfl, rfl, rfl⟩ (fun _ h => h.to trivial trivial)
        · have h := ifF h cd25
          refine wc_skip ?_
          refine pn_then ?_
          refine wc_seq ?_
          refine wc_seq ?_
          refine wc_region ?_   -- region 8
          refine wl_det rfl rfl (det_field rfl fd73_0 rfl) rfl ?_
          refine wl_det rfl rfl (det_load rfl m0 (by rfl) na3 us3) rfl ?_
          refine wl_det rfl rfl (det_lss rfl rfl) rfl ?_
          refine wl_det rfl rfl (det_move rfl) rfl ?_
          refine wl_way (decide ((ix a0.Postings s12).Number < 1)) ((decide ((ix a0.Postings s12).Number < 1)) || (decide (65536 < (ix a0.Postings s12).Number))) 4 44 (fun hg => ?_) (fun hg => ?_) ?_
          · have hg8_7 := hg
            refine wl_off rfl rfl rfl rfl rfl hg8_7 rfl ?_
            refine wl_off rfl rfl rfl rfl rfl hg8_7 rfl ?_
            refine wl_off rfl rfl rfl rfl rfl hg8_7 rfl ?_
            refine wl_det rfl rfl (det_or_on (r := (decide (65536 < (ix a0.Postings s12).Number))) rfl rfl rfl hg8_7) rfl ?_
            exact wl_nil (pn_qnE (ext_cons rfl (ext_skip rfl (ext_skip rfl (ext_skip rfl (ext_skip rfl ext_refl))))) (fun _ h => h))
          · have hg8_7a := hg
            refine wl_on rfl rfl rfl rfl hg8_7a ?_
            refine wl_det rfl rfl (det_field rfl fd73_0 rfl) rfl ?_
            refine wl_on rfl rfl rfl rfl hg8_7a ?_
            refine wl_det rfl rfl (det_load rfl m0 (by rfl) na3 us3) rfl ?_
            refine wl_on rfl rfl rfl rfl hg8_7a ?_
            refine wl_det rfl rfl (det_gtr rfl rfl) rfl ?_
            refine wl_det rfl rfl (det_or_off rfl rfl rfl hg8_7a) rfl ?_
            exact wl_nil (pn_qnE (ext_cons rfl (ext_skip rfl (ext_skip rfl (ext_skip rfl (ext_skip rfl ext_refl))))) (fun _ h => h))
          refine wl_det rfl rfl (det_move rfl) rfl ?_
          refine wl_way ((decide ((ix a0.Postings s12).Number < 1)) || (decide (65536 < (ix a0.Postings s12).Number))) (((decide ((ix a0.Postings s12).Number < 1)) || (decide (65536 < (ix a0.Postings s12).Number))) || (decide ((ix a0.Postings s12).Period < 0))) 4 49 (fun hg => ?_) (fun hg => ?_) ?_
          · have hg8_12 := hg
            refine wl_off rfl rfl rfl rfl rfl hg8_12 rfl ?_
            refine wl_off rfl rfl rfl rfl rfl hg8_12 rfl ?_
            refine wl_off rfl rfl rfl rfl rfl hg8_12 rfl ?_
            refine wl_det rfl rfl (det_or_on (r := (decide ((ix a0.Postings s12).Period < 0))) rfl rfl rfl hg8_12) rfl ?_
            exact wl_nil (pn_qnE (ext_cons rfl (ext_skip rfl (ext_skip rfl (ext_skip rfl (ext_skip rfl ext_refl))))) (fun _ h => h))
          · have hg8_12a := hg
            refine wl_on rfl rfl rfl rfl hg8_12a ?_
            refine wl_det rfl rfl (det_field rfl fd73_1 rfl) rfl ?_
            refine wl_on rfl rfl rfl rfl hg8_12a ?_
            refine wl_det rfl rfl (det_load rfl m0 (by rfl) na3 us3) rfl ?_
            refine wl_on rfl rfl rfl rfl hg8_12a ?_
            refine wl_det rfl rfl (det_lss rfl rfl) rfl ?_
            refine wl_det rfl rfl (det_or_off rfl rfl rfl hg8_12a) rfl ?_
            exact wl_nil (pn_qnE (ext_cons rfl (ext_skip rfl (ext_skip rfl (ext_skip rfl (ext_skip rfl ext_refl))))) (fun _ h => h))
          refine wl_det rfl rfl (det_move rfl) rfl ?_
          refine wl_way (((decide ((ix a0.Postings s12).Number < 1)) || (decide (65536 < (ix a0.Postings s12).Number))) || (decide ((ix a0.Postings s12).Period < 0))) ((((decide ((ix a0.Postings s12).Number < 1)) || (decide (65536 < (ix a0.Postings s12).Number))) || (decide ((ix a0.Postings s12).Period < 0))) || (decide (a0.Closed < (ix a0.Postings s12).Period))) 6 56 (fun hg => ?_) (fun hg => ?_) ?_
          · have hg8_19 := hg
            refine wl_off rfl rfl rfl rfl rfl hg8_19 rfl ?_
            refine wl_off rfl rfl rfl rfl rfl hg8_19 rfl ?_
            refine wl_off rfl rfl rfl rfl rfl hg8_19 rfl ?_
            refine wl_off rfl rfl rfl rfl rfl hg8_19 rfl ?_
            refine wl_off rfl rfl rfl rfl rfl hg8_19 rfl ?_
            refine wl_det rfl rfl (det_or_on (r := (decide (a0.Closed < (ix a0.Postings s12).Period))) rfl rfl rfl hg8_19) rfl ?_
            exact wl_nil (pn_qnE (ext_cons rfl (ext_skip rfl (ext_skip rfl (ext_skip rfl (ext_skip rfl (ext_skip rfl (ext_skip rfl ext_refl))))))) (fun _ h => h))
          · have hg8_19a := hg
            refine wl_on rfl rfl rfl rfl hg8_19a ?_
            refine wl_det rfl rfl (det_field rfl fd73_1 rfl) rfl ?_
            refine wl_on rfl rfl rfl rfl hg8_19a ?_
            refine wl_det rfl rfl (det_load rfl m0 (by rfl) na3 us3) rfl ?_
            refine wl_on rfl rfl rfl rfl hg8_19a ?_
            refine wl_det rfl rfl (det_field rfl fd25_0 rfl) rfl ?_
            refine wl_on rfl rfl rfl rfl hg8_19a ?_
            refine wl_det rfl rfl (det_load rfl (ms m0) (by rfl) na3 us3) rfl ?_
            refine wl_on rfl rfl rfl rfl hg8_19a ?_
            refine wl_det rfl rfl (det_gtr rfl rfl) rfl ?_
            refine wl_det rfl rfl (det_or_off rfl rfl rfl hg8_19a) rfl ?_
            exact wl_nil (pn_qnE (ext_cons rfl (ext_skip rfl (ext_skip rfl (ext_skip rfl (ext_skip rfl (ext_skip rfl (ext_skip rfl ext_refl))))))) (fun _ h => h))
          refine wl_nil ?_
          refine pn_then ?_
          refine wc_cond rfl (fun cd31 => ?_) (fun cd31 => ?_)
          · have h := ifT h cd31
            refine wc_seq ?_
            refine wc_region ?_   -- region 9
            refine wl_det rfl rfl (det_assign rfl) rfl ?_
            refine wl_nil ?_
            refine pn_then ?_
            refine wc_ret ?_
            refine pr_then ?_
            refine pr_block ?_
            refine pr_then ?_
            refine pr_then ?_
            refine pr_block ?_
            refine pr_then ?_
            replace h := Option.some.inj h
            subst h
            replace g12 := nextR g12
            subst g12
            have h := (elimL ho12)
            replace h := Option.some.inj h
            subst h
            have h := (elimR ho8)
            replace h := Option.some.inj h
            subst h
            refine pn_ret (vs := [_]) rfl ⟨rfl, trivial⟩ ⟨rfl, rfl, rfl⟩ (fun _ h => h.to trivial trivial)
          · have h := ifF h cd31
            refine wc_skip ?_
            refine pn_then ?_
            obtain ⟨q34, h, ho34⟩ := bind_some h
            refine wc_meetG (G := Bool × Unit) (fun (s34, _) => s34 = q34) (fun (s34, _) => [(1, .pointer (some ⟨b0_0, 0, none⟩)), (20, .slice A0 a0.Postings.length c0), (21, .int .i64 (a0.Postings.length : Int)), (22, .int .i64 s12), (82, .bool s34)]) (fun (_, _) => [eBlk b0_0 25 [.int .i64 a0.Closed, .slice A0 a0.Postings.length c0]]) (fun (_, _) => [fV (lSlice lGPosting) (.slice A0 a0.Postings.length c0) a0.Postings]) ?_ ?_
            · rcases Bool.eq_false_or_eq_true (decide (0 < s12)) with hg10_g59 | hg10_g59
              · have h := ifT h hg10_g59
                rcases Bool.eq_false_or_eq_true (decide ((ix a0.Postings s12).Number ≤ (ix a0.Postings (w64 (s12 - 1))).Number)) with hg10_g70 | hg10_g70
                · have h := ifT h hg10_g70
                  obtain ⟨k10_p1, h⟩ := chk_some h
                  refine wc_st (fun _ h => h.openF (ms m0) k10_p1) ?_
                  refine dx_region 26 [[], [0], [0, 1], [0, 1, 2], [0, 1, 2, 3], [0, 1, 2], [0, 1, 2, 5], [0, 1, 2], [0, 1, 2, 7], [0, 1, 2, 5, 6, 7, 8], [0, 1, 2, 5, 6, 7, 8, 9], [0, 1, 2, 5, 6, 7, 8, 9, 10], [0, 1, 2, 3, 4, 5, 6, 7, 8, 9, 10, 11], [0, 1, 2, 3, 4, 5, 6, 7, 8, 9, 10, 11, 12], [0, 1, 2, 3, 4, 5, 6, 7, 8, 9, 10, 11, 12, 13], [0, 1, 2, 3, 4, 5, 6, 7, 8, 9, 10, 11, 12, 13, 14], [0, 1, 2, 3, 4, 5, 6, 7, 8, 9, 10, 11, 12, 13], [0, 1, 2, 3, 4, 5, 6, 7, 8, 9, 10, 11, 12, 13, 16], [0, 1, 2, 3, 4, 5, 6, 7, 8, 9, 10, 11, 12, 13], [0, 1, 2, 3, 4, 5, 6, 7, 8, 9, 10, 11, 12, 13, 18], [0, 1, 2, 3, 4, 5, 6, 7, 8, 9, 10, 11, 12, 13, 16, 17, 18, 19], [0, 1, 2, 3, 4, 5, 6, 7, 8, 9, 10, 11, 12, 13, 16, 17, 18, 19, 20], [0, 1, 2, 3, 4, 5, 6, 7, 8, 9, 10, 11, 12, 13, 16, 17, 18, 19, 20, 21], [0, 1, 2, 3, 4, 5, 6, 7, 8, 9, 10, 11, 12, 13, 14, 15, 16, 17, 18, 19, 20, 21, 22], [0, 1, 2, 3, 4, 5, 6, 7, 8, 9, 10, 11, 12, 13, 14, 15, 16, 17, 18, 19, 20, 21, 22, 23], [0, 1, 2, 3, 4, 5, 6, 7, 8, 9, 10, 11, 12, 13, 14, 15, 16, 17, 18, 19, 20, 21, 22, 23, 24]] mixed (ord := (.det 0 (.det 1 (.det 2 (.det 3 (.det 4 (.det 5 (.det 6 (.det 7 (.det 8 (.det 9 (.det 10 (.det 11 (.det 12 (.det 13 (.det 14 (.det 15 (.det 16 (.det 17 (.det 18 (.det 19 (.det 20 (.det 21 (.det 22 (.det 23 (.det 24 (.det 25 .done))))))))))))))))))))))))))) (by kernel_rfl) ?_   -- region 10
                  refine hx_det rfl rfl rfl nofun (det_move rfl) rfl ?_
                  refine hx_det rfl rfl rfl nofun (det_gtr rfl rfl) rfl ?_
                  refine hx_det rfl rfl rfl nofun (det_move rfl) rfl ?_
                  refine hx_on rfl rfl rfl rfl rfl hg10_g59 nofun (det_field rfl fd73_0 rfl) rfl ?_
                  refine hx_on rfl rfl rfl rfl rfl hg10_g59 nofun (det_load rfl m0 (by rfl) na3 us3) rfl ?_
                  refine hx_on rfl rfl rfl rfl rfl hg10_g59 nofun (det_field rfl fd25_1 rfl) rfl ?_
                  refine hx_on rfl rfl rfl rfl rfl hg10_g59 nofun (det_load rfl (ms m0) (by rfl) na23 us23) rfl ?_
                  refine hx_on rfl rfl rfl rfl rfl hg10_g59 nofun (det_move rfl) rfl ?_
                  refine hx_on rfl rfl rfl rfl rfl hg10_g59 nofun (det_sub rfl rfl) rfl ?_
                  refine hx_on rfl rfl rfl rfl rfl hg10_g59 nofun (det_indexP rfl rfl (ms (ms m0)) k10_p1 m0 un23 sz73) rfl ?_
                  refine hx_on rfl rfl rfl rfl rfl hg10_g59 nofun (det_fieldP rfl m0 fd73_0 rfl) rfl ?_
                  refine hx_on rfl rfl rfl rfl rfl hg10_g59 nofun (det_loadP (off := 0) rfl m0 (by rfl) (by rfl) (loaded_1 na3 us3)) rfl ?_
                  refine hx_on rfl rfl rfl rfl rfl hg10_g59 nofun (det_leq rfl rfl) rfl ?_
                  refine hx_on rfl rfl rfl rfl rfl hg10_g59 nofun (det_move rfl) rfl ?_
                  refine hx_off rfl rfl rfl rfl rfl hg10_g70 rfl ?_
                  refine hx_off rfl rfl rfl rfl rfl hg10_g70 rfl ?_
                  refine hx_off rfl rfl rfl rfl rfl hg10_g70 rfl ?_
                  refine hx_off rfl rfl rfl rfl rfl hg10_g70 rfl ?_
                  refine hx_off rfl rfl rfl rfl rfl hg10_g70 rfl ?_
                  refine hx_off rfl rfl rfl rfl rfl hg10_g70 rfl ?_
                  refine hx_off rfl rfl rfl rfl rfl hg10_g70 rfl ?_
                  refine hx_off rfl rfl rfl rfl rfl hg10_g70 rfl ?_
                  refine hx_off rfl rfl rfl rfl rfl hg10_g70 rfl ?_
                  refine hx_off rfl rfl rfl rfl rfl hg10_g70 rfl ?_
                  refine hx_on rfl rfl rfl rfl rfl hg10_g59 nofun (det_pick_on rfl hg10_g70 rfl rfl) rfl ?_
                  refine hx_det rfl rfl rfl nofun (det_pick_on rfl hg10_g59 rfl rfl) rfl ?_
                  refine hx_end ?_
                  refine wl_nil ?_
                  replace h := Option.some.inj h
                  subst h
                  exact pn_meetG (true, ()) rfl ⟨rfl, rfl, rfl, rfl, rfl, trivial⟩ (fun _ h => h.to ⟨_, (rs r0), trivial⟩ ⟨(ms (ms m0)), trivial⟩)
                · have h := ifF h hg10_g70
                  obtain ⟨k10_p3, h⟩ := chk_some h
                  refine wc_st (fun _ h => h.openF (ms m0) k10_p3) ?_
                  refine dx_region 26 [[], [0], [0, 1], [0, 1, 2], [0, 1, 2, 3], [0, 1, 2], [0, 1, 2, 5], [0, 1, 2], [0, 1, 2, 7], [0, 1, 2, 5, 6, 7, 8], [0, 1, 2, 5, 6, 7, 8, 9], [0, 1, 2, 5, 6, 7, 8, 9, 10], [0, 1, 2, 3, 4, 5, 6, 7, 8, 9, 10, 11], [0, 1, 2, 3, 4, 5, 6, 7, 8, 9, 10, 11, 12], [0, 1, 2, 3, 4, 5, 6, 7, 8, 9, 10, 11, 12, 13], [0, 1, 2, 3, 4, 5, 6, 7, 8, 9, 10, 11, 12, 13, 14], [0, 1, 2, 3, 4, 5, 6, 7, 8, 9, 10, 11, 12, 13], [0, 1, 2, 3, 4, 5, 6, 7, 8, 9, 10, 11, 12, 13, 16], [0, 1, 2, 3, 4, 5, 6, 7, 8, 9, 10, 11, 12, 13], [0, 1, 2, 3, 4, 5, 6, 7, 8, 9, 10, 11, 12, 13, 18], [0, 1, 2, 3, 4, 5, 6, 7, 8, 9, 10, 11, 12, 13, 16, 17, 18, 19], [0, 1, 2, 3, 4, 5, 6, 7, 8, 9, 10, 11, 12, 13, 16, 17, 18, 19, 20], [0, 1, 2, 3, 4, 5, 6, 7, 8, 9, 10, 11, 12, 13, 16, 17, 18, 19, 20, 21], [0, 1, 2, 3, 4, 5, 6, 7, 8, 9, 10, 11, 12, 13, 14, 15, 16, 17, 18, 19, 20, 21, 22], [0, 1, 2, 3, 4, 5, 6, 7, 8, 9, 10, 11, 12, 13, 14, 15, 16, 17, 18, 19, 20, 21, 22, 23], [0, 1, 2, 3, 4, 5, 6, 7, 8, 9, 10, 11, 12, 13, 14, 15, 16, 17, 18, 19, 20, 21, 22, 23, 24]] mixed (ord := (.det 0 (.det 1 (.det 2 (.det 3 (.det 4 (.det 5 (.det 6 (.det 7 (.det 8 (.det 9 (.det 10 (.det 11 (.det 12 (.det 13 (.det 14 (.det 15 (.det 16 (.det 17 (.det 18 (.det 19 (.det 20 (.det 21 (.det 22 (.det 23 (.det 24 (.det 25 .done))))))))))))))))))))))))))) (by kernel_rfl) ?_   -- region 10
                  refine hx_det rfl rfl rfl nofun (det_move rfl) rfl ?_
                  refine hx_det rfl rfl rfl nofun (det_gtr rfl rfl) rfl ?_
                  refine hx_det rfl rfl rfl nofun (det_move rfl) rfl ?_
                  refine hx_on rfl rfl rfl rfl rfl hg10_g59 nofun (det_field rfl fd73_0 rfl) rfl ?_
                  refine hx_on rfl rfl rfl rfl rfl hg10_g59 nofun (det_load rfl m0 (by rfl) na3 us3) rfl ?_
                  refine hx_on rfl rfl rfl rfl rfl hg10_g59 nofun (det_field rfl fd25_1 rfl) rfl ?_
                  refine hx_on rfl rfl rfl rfl rfl hg10_g59 nofun (det_load rfl (ms m0) (by rfl) na23 us23) rfl ?_
                  refine hx_on rfl rfl rfl rfl rfl hg10_g59 nofun (det_move rfl) rfl ?_
                  refine hx_on rfl rfl rfl rfl rfl hg10_g59 nofun (det_sub rfl rfl) rfl ?_
                  refine hx_on rfl rfl rfl rfl rfl hg10_g59 nofun (det_indexP rfl rfl (ms (ms m0)) k10_p3 m0 un23 sz73) rfl ?_
                  refine hx_on rfl rfl rfl rfl rfl hg10_g59 nofun (det_fieldP rfl m0 fd73_0 rfl) rfl ?_
                  refine hx_on rfl rfl rfl rfl rfl hg10_g59 nofun (det_loadP (off := 0) rfl m0 (by rfl) (by rfl) (loaded_1 na3 us3)) rfl ?_
                  refine hx_on rfl rfl rfl rfl rfl hg10_g59 nofun (det_leq rfl rfl) rfl ?_
                  refine hx_on rfl rfl rfl rfl rfl hg10_g59 nofun (det_move rfl) rfl ?_
                  refine hx_on rfl rfl rfl rfl rfl hg10_g70 nofun (det_field rfl fd73_1 rfl) rfl ?_
                  refine hx_on rfl rfl rfl rfl rfl hg10_g70 nofun (det_load rfl m0 (by rfl) na3 us3) rfl ?_
                  refine hx_on rfl rfl rfl rfl rfl hg10_g70 nofun (det_field rfl fd25_1 rfl) rfl ?_
                  refine hx_on rfl rfl rfl rfl rfl hg10_g70 nofun (det_load rfl (ms m0) (by rfl) na23 us23) rfl ?_
                  refine hx_on rfl rfl rfl rfl rfl hg10_g70 nofun (det_move rfl) rfl ?_
                  refine hx_on rfl rfl rfl rfl rfl hg10_g70 nofun (det_sub rfl rfl) rfl ?_
                  refine hx_on rfl rfl rfl rfl rfl hg10_g70 nofun (det_indexP rfl rfl (ms (ms m0)) k10_p3 m0 un23 sz73) rfl ?_
                  refine hx_on rfl rfl rfl rfl rfl hg10_g70 nofun (det_fieldP rfl m0 fd73_1 rfl) rfl ?_
                  refine hx_on rfl rfl rfl rfl rfl hg10_g70 nofun (det_loadP (off := 1) rfl m0 (by rfl) (by rfl) (loaded_1 na3 us3)) rfl ?_
                  refine hx_on rfl rfl rfl rfl rfl hg10_g70 nofun (det_lss rfl rfl) rfl ?_
                  refine hx_on rfl rfl rfl rfl rfl hg10_g59 nofun (det_pick_off rfl hg10_g70 rfl rfl) rfl ?_
                  refine hx_det rfl rfl rfl nofun (det_pick_on rfl hg10_g59 rfl rfl) rfl ?_
                  refine hx_end ?_
                  refine wl_nil ?_
                  replace h := Option.some.inj h
                  subst h
                  exact pn_meetG ((decide ((ix a0.Postings s12).Period < (ix a0.Postings (w64 (s12 - 1))).Period)), ()) rfl ⟨rfl, rfl, rfl, rfl, rfl, trivial⟩ (fun _ h => h.to ⟨_, (rs r0), trivial⟩ ⟨(ms (ms m0)), trivial⟩)
              · have h := ifF h hg10_g59
                refine dx_region 26 [[], [0], [0, 1], [0, 1, 2], [0, 1, 2, 3], [0, 1, 2], [0, 1, 2, 5], [0, 1, 2], [0, 1, 2, 7], [0, 1, 2, 5, 6, 7, 8], [0, 1, 2, 5, 6, 7, 8, 9], [0, 1, 2, 5, 6, 7, 8, 9, 10], [0, 1, 2, 3, 4, 5, 6, 7, 8, 9, 10, 11], [0, 1, 2, 3, 4, 5, 6, 7, 8, 9, 10, 11, 12], [0, 1, 2, 3, 4, 5, 6, 7, 8, 9, 10, 11, 12, 13], [0, 1, 2, 3, 4, 5, 6, 7, 8, 9, 10, 11, 12, 13, 14], [0, 1, 2, 3, 4, 5, 6, 7, 8, 9, 10, 11, 12, 13], [0, 1, 2, 3, 4, 5, 6, 7, 8, 9, 10, 11, 12, 13, 16], [0, 1, 2, 3, 4, 5, 6, 7, 8, 9, 10, 11, 12, 13], [0, 1, 2, 3, 4, 5, 6, 7, 8, 9, 10, 11, 12, 13, 18], [0, 1, 2, 3, 4, 5, 6, 7, 8, 9, 10, 11, 12, 13, 16, 17, 18, 19], [0, 1, 2, 3, 4, 5, 6, 7, 8, 9, 10, 11, 12, 13, 16, 17, 18, 19, 20], [0, 1, 2, 3, 4, 5, 6, 7, 8, 9, 10, 11, 12, 13, 16, 17, 18, 19, 20, 21], [0, 1, 2, 3, 4, 5, 6, 7, 8, 9, 10, 11, 12, 13, 14, 15, 16, 17, 18, 19, 20, 21, 22], [0, 1, 2, 3, 4, 5, 6, 7, 8, 9, 10, 11, 12, 13, 14, 15, 16, 17, 18, 19, 20, 21, 22, 23], [0, 1, 2, 3, 4, 5, 6, 7, 8, 9, 10, 11, 12, 13, 14, 15, 16, 17, 18, 19, 20, 21, 22, 23, 24]] mixed (ord := (.det 0 (.det 1 (.det 2 (.det 3 (.det 4 (.det 5 (.det 6 (.det 7 (.det 8 (.det 9 (.det 10 (.det 11 (.det 12 (.det 13 (.det 14 (.det 15 (.det 16 (.det 17 (.det 18 (.det 19 (.det 20 (.det 21 (.det 22 (.det 23 (.det 24 (.det 25 .done))))))))))))))))))))))))))) (by kernel_rfl) ?_   -- region 10
                refine hx_det rfl rfl rfl nofun (det_move rfl) rfl ?_
                refine hx_det rfl rfl rfl nofun (det_gtr rfl rfl) rfl ?_
                refine hx_det rfl rfl rfl nofun (det_move rfl) rfl ?_
                refine hx_off rfl rfl rfl rfl rfl hg10_g59 rfl ?_
                refine hx_off rfl rfl rfl rfl rfl hg10_g59 rfl ?_
                refine hx_off rfl rfl rfl rfl rfl hg10_g59 rfl ?_
                refine hx_off rfl rfl rfl rfl rfl hg10_g59 rfl ?_
                refine hx_off rfl rfl rfl rfl rfl hg10_g59 rfl ?_
                refine hx_off rfl rfl rfl rfl rfl hg10_g59 rfl ?_
                refine hx_off rfl rfl rfl rfl rfl hg10_g59 rfl ?_
                refine hx_off rfl rfl rfl rfl rfl hg10_g59 rfl ?_
                refine hx_off rfl rfl rfl rfl rfl hg10_g59 rfl ?_
                refine hx_off rfl rfl rfl rfl rfl hg10_g59 rfl ?_
                refine hx_off rfl rfl rfl rfl rfl hg10_g59 rfl ?_
                refine hx_none rfl rfl rfl rfl rfl rfl ?_
                refine hx_none rfl rfl rfl rfl rfl rfl ?_
                refine hx_none rfl rfl rfl rfl rfl rfl ?_
                refine hx_none rfl rfl rfl rfl rfl rfl ?_
                refine hx_none rfl rfl rfl rfl rfl rfl ?_
                refine hx_none rfl rfl rfl rfl rfl rfl ?_
                refine hx_none rfl rfl rfl rfl rfl rfl ?_
                refine hx_none rfl rfl rfl rfl rfl rfl ?_
                refine hx_none rfl rfl rfl rfl rfl rfl ?_
                refine hx_none rfl rfl rfl rfl rfl rfl ?_
                refine hx_off rfl rfl rfl rfl rfl hg10_g59 rfl ?_
                refine hx_det rfl rfl rfl nofun (det_pick_off rfl hg10_g59 rfl rfl) rfl ?_
                refine hx_end ?_
                refine wl_nil ?_
                replace h := Option.some.inj h
                subst h
                exact pn_meetG (false, ()) rfl ⟨rfl, rfl, rfl, rfl, rfl, trivial⟩ (fun _ h => h.to ⟨_, (rs r0), trivial⟩ ⟨(ms m0), trivial⟩)
            rintro ⟨s34, _⟩ e34
            dsimp only at e34 ⊢
            subst e34
            have h := ho34
            refine wc_cond rfl (fun cd36 => ?_) (fun cd36 => ?_)
            · have h := ifT h cd36
              refine wc_seq ?_
              refine wc_region ?_   -- region 11
              refine wl_det rfl rfl (det_assign rfl) rfl ?_
              refine wl_nil ?_
              refine pn_then ?_
              refine wc_ret ?_
              refine pr_block ?_
              refine pr_then ?_
              refine pr_then ?_
              refine pr_block ?_
              refine pr_then ?_
              replace h := Option.some.inj h
              subst h
              replace g12 := nextR g12
              subst g12
              have h := (elimL ho12)
              replace h := Option.some.inj h
              subst h
              have h := (elimR ho8)
              replace h := Option.some.inj h
              subst h
              refine pn_ret (vs := [_]) rfl ⟨rfl, trivial⟩ ⟨rfl, rfl, rfl⟩ (fun _ h => h.to trivial trivial)
            · have h := ifF h cd36
              refine wc_skip ?_
              refine pn_block ?_
              refine pn_then ?_
              refine wc_region ?_   -- region 12
              refine wl_det rfl rfl (det_add rfl rfl) rfl ?_
              refine wl_det rfl rfl (det_move rfl) rfl ?_
              refine wl_nil ?_
              replace h := Option.some.inj h
              subst h
              exact pn_some (k12, (w64 (s12 + 1)), ()) ⟨nextL g12, Nat.lt_succ_self _⟩ ⟨rfl, rfl, rfl, rfl, trivial⟩ (fun _ h => h.to ⟨_, r0, trivial⟩ ⟨m0, trivial⟩)
      · have h := ifF h cd16
        refine wc_exit ?_
        refine px_then ?_
        refine px_then ?_
        refine px_block ?_
        replace h := Option.some.inj h
        subst h
        replace g12 := nextR g12
        subst g12
        have h := (elimR ho12)
        replace h := Option.some.inj h
        subst h
        exact pn_meetG ((), ()) rfl trivial (fun _ h => h.to trivial trivial)
    rintro ⟨s8, _⟩ e8
    dsimp only at e8 ⊢
    subst e8
    have h := (elimL ho8)
    refine wc_seq ?_
    refine wc_region ?_   -- region 13
    refine wl_det rfl rfl (det_assign rfl) rfl ?_
    refine wl_nil ?_
    refine pn_then ?_
    refine wc_ret ?_
    replace h := Option.some.inj h
    subst h
    refine pn_ret (vs := [_]) rfl ⟨rfl, trivial⟩ ⟨rfl, rfl, rfl⟩ (fun _ h => h.to trivial trivial)
def Q_cmp_isNaN_int (r : Bool) : Value → List Ent → List Fact → Prop := fun v θ κ => v = .bool r ∧ θ = [] ∧ κ = []
theorem plains_cmp_isNaN_int {r : Bool} : ∀ v θ κ, Q_cmp_isNaN_int r v θ κ → Plains θ := by
  rintro _ _ _ ⟨rfl, rfl, rfl⟩
  exact trivial
set_option maxHeartbeats 4000000 in
set_option maxRecDepth 100000 in
theorem W_cmp_isNaN_int (a0 : Int) (r : Bool) (h : cmp_isNaN_int a0 = some r) : Spec Try.prog 86 [.int .i64 a0] [] [] (Q_cmp_isNaN_int r) := by
  unfold cmp_isNaN_int at h
  refine spec_of (σ := [(0, _)]) Try.func86 rfl rfl rfl rfl ?_
  intro C
  refine wc_seq ?_
  refine wc_region ?_   -- region 0
  refine wl_det rfl rfl (det_assign rfl) rfl ?_
  refine wl_nil ?_
  refine pn_then ?_
  refine wc_seq ?_
  refine wc_region ?_   -- region 1
  refine wl_det rfl rfl (det_move rfl) rfl ?_
  refine wl_det rfl rfl (det_move rfl) rfl ?_
  refine wl_det rfl rfl (det_neq rfl rfl) rfl ?_
  refine wl_det rfl rfl (det_assign rfl) rfl ?_
  refine wl_nil ?_
  refine pn_then ?_
  refine wc_ret ?_
  replace h := Option.some.inj h
  subst h
  refine pn_ret (vs := [_]) rfl ⟨rfl, trivial⟩ ⟨rfl, rfl, rfl⟩ (fun _ h => h.to trivial trivial)
def Q_cmp_Compare_int (r : Int) : Value → List Ent → List Fact → Prop := fun v θ κ => v = .int .i64 r ∧ θ = [] ∧ κ = []
theorem plains_cmp_Compare_int {r : Int} : ∀ v θ κ, Q_cmp_Compare_int r v θ κ → Plains θ := by
  rintro _ _ _ ⟨rfl, rfl, rfl⟩
  exact trivial
set_option maxHeartbeats 4000000 in
set_option maxRecDepth 100000 in
theorem W_cmp_Compare_int (a0 : Int) (a1 : Int) (r : Int) (h : cmp_Compare_int a0 a1 = some r) : Spec Try.prog 70 [.int .i64 a0, .int .i64 a1] [] [] (Q_cmp_Compare_int r) := by
  unfold cmp_Compare_int at h
  refine spec_of (σ := [(0, _), (1, _)]) Try.func70 rfl rfl rfl rfl ?_
  intro C
  refine wc_seq ?_
  refine wc_region ?_   -- region 0
  refine wl_det rfl rfl (det_assign rfl) rfl ?_
  refine wl_nil ?_
  refine pn_then ?_
  refine wc_seq ?_
  refine wc_region ?_   -- region 1
  refine wl_det rfl rfl (det_move rfl) rfl ?_
  obtain ⟨r1_1, hr1_1, h⟩ := bind_some h
  refine wl_act (act_callS (cap := []) (W_cmp_isNaN_int a0 r1_1 hr1_1) rfl rfl rfl bd86 rfl trivial) rfl rfl rfl ?_
  rintro _ _ _ ⟨_, _, ⟨rfl, rfl, rfl⟩, rfl, rfl⟩
  dsimp only [List.nil_append, List.cons_append]
  refine wl_det rfl rfl (det_assign rfl) rfl ?_
  refine wl_nil ?_
  refine pn_then ?_
  refine wc_seq ?_
  refine wc_region ?_   -- region 2
  refine wl_det rfl rfl (det_move rfl) rfl ?_
  obtain ⟨r2_1, hr2_1, h⟩ := bind_some h
  refine wl_act (act_callS (cap := []) (W_cmp_isNaN_int a1 r2_1 hr2_1) rfl rfl rfl bd86 rfl trivial) rfl rfl rfl ?_
  rintro _ _ _ ⟨_, _, ⟨rfl, rfl, rfl⟩, rfl, rfl⟩
  dsimp only [List.nil_append, List.cons_append]
  refine wl_det rfl rfl (det_assign rfl) rfl ?_
  refine wl_nil ?_
  refine pn_then ?_
  refine wc_seq ?_
  refine wc_seq ?_
  refine wc_region ?_   -- region 3
  refine wl_det rfl rfl (det_move rfl) rfl ?_
  refine wl_nil ?_
  refine pn_then ?_
  refine wc_cond rfl (fun cd9 => ?_) (fun cd9 => ?_)
  · have h := ifT h cd9
    refine wc_seq ?_
    refine wc_seq ?_
    refine wc_region ?_   -- region 4
    refine wl_det rfl rfl (det_move rfl) rfl ?_
    refine wl_nil ?_
    refine pn_then ?_
    refine wc_cond rfl (fun cd13 => ?_) (fun cd13 => ?_)
    · have h := ifT h cd13
      refine wc_seq ?_
      refine wc_region ?_   -- region 5
      refine wl_det rfl rfl (det_assign rfl) rfl ?_
      refine wl_nil ?_
      refine pn_then ?_
      refine wc_ret ?_
      refine pr_then ?_
      refine pr_then ?_
      replace h := Option.some.inj h
      subst h
      refine pn_ret (vs := [_]) rfl ⟨rfl, trivial⟩ ⟨rfl, rfl, rfl⟩ (fun _ h => h.to trivial trivial)
    · have h := ifF h cd13
      refine wc_skip ?_
      refine pn_then ?_
      refine wc_seq ?_
      refine wc_region ?_   -- region 6
      refine wl_det rfl rfl (det_assign rfl) rfl ?_
      refine wl_nil ?_
      refine pn_then ?_
      refine wc_ret ?_
      refine pr_then ?_
      replace h := Option.some.inj h
      subst h
      refine pn_ret (vs := [_]) rfl ⟨rfl, trivial⟩ ⟨rfl, rfl, rfl⟩ (fun _ h => h.to trivial trivial)
  · have h := ifF h cd9
    refine wc_skip ?_
    refine pn_then ?_
    refine wc_seq ?_
    refine wc_seq ?_
    refine wc_region ?_   -- region 7
    refine wl_det rfl rfl (det_move rfl) rfl ?_
    refine wl_nil ?_
    refine pn_then ?_
    refine wc_cond rfl (fun cd21 => ?_) (fun cd21 => ?_)
    · have h := ifT h cd21
      refine wc_seq ?_
      refine wc_region ?_   -- region 8
      refine wl_det rfl rfl (det_assign rfl) rfl ?_
      refine wl_nil ?_
      refine pn_then ?_
      refine wc_ret ?_
      refine pr_then ?_
      replace h := Option.some.inj h
      subst h
      refine pn_ret (vs := [_]) rfl ⟨rfl, trivial⟩ ⟨rfl, rfl, rfl⟩ (fun _ h => h.to trivial trivial)
    · have h := ifF h cd21
      refine wc_skip ?_
      refine pn_then ?_
      refine wc_seq ?_
      refine wc_seq ?_
      refine wc_region ?_   -- region 9
      refine wl_det rfl rfl (det_move rfl) rfl ?_
      refine wl_det rfl rfl (det_move rfl) rfl ?_
      refine wl_det rfl rfl (det_lss rfl rfl) rfl ?_
      refine wl_nil ?_
      refine pn_then ?_
      refine wc_cond rfl (fun cd27 => ?_) (fun cd27 => ?_)
      · have h := ifT h cd27
        refine wc_seq ?_
        refine wc_region ?_   -- region 10
        refine wl_det rfl rfl (det_assign rfl) rfl ?_
        refine wl_nil ?_
        refine pn_then ?_
        refine wc_ret ?_
        refine pr_then ?_
        replace h := Option.some.inj h
        subst h
        refine pn_ret (vs := [_]) rfl ⟨rfl, trivial⟩ ⟨rfl, rfl, rfl⟩ (fun _ h => h.to trivial trivial)
      · have h := ifF h cd27
        refine wc_skip ?_
        refine pn_then ?_
        refine wc_seq ?_
        refine wc_seq ?_
        refine wc_region ?_   -- region 11
        refine wl_det rfl rfl (det_move rfl) rfl ?_
        refine wl_det rfl rfl (det_move rfl) rfl ?_
        refine wl_det rfl rfl (det_gtr rfl rfl) rfl ?_
        refine wl_nil ?_
        refine pn_then ?_
        refine wc_cond rfl (fun cd33 => ?_) (fun cd33 => ?_)
        · have h := ifT h cd33
          refine wc_seq ?_
          refine wc_region ?_   -- region 12
          refine wl_det rfl rfl (det_assign rfl) rfl ?_
          refine wl_nil ?_
          refine pn_then ?_
          refine wc_ret ?_
          refine pr_then ?_
          replace h := Option.some.inj h
          subst h
          refine pn_ret (vs := [_]) rfl ⟨rfl, trivial⟩ ⟨rfl, rfl, rfl⟩ (fun _ h => h.to trivial trivial)
        · have h := ifF h cd33
          refine wc_skip ?_
          refine pn_then ?_
          refine wc_seq ?_
          refine wc_region ?_   -- region 13
          refine wl_det rfl rfl (det_assign rfl) rfl ?_
          refine wl_nil ?_
          refine pn_then ?_
          refine wc_ret ?_
          replace h := Option.some.inj h
          subst h
          refine pn_ret (vs := [_]) rfl ⟨rfl, trivial⟩ ⟨rfl, rfl, rfl⟩ (fun _ h => h.to trivial trivial)
def Q_cmp_Or_int (r : Int) : Value → List Ent → List Fact → Prop := fun v θ κ => v = .int .i64 r ∧ θ = [] ∧ κ = []
theorem plains_cmp_Or_int {r : Int} : ∀ v θ κ, Q_cmp_Or_int r v θ κ → Plains θ := by
  rintro _ _ _ ⟨rfl, rfl, rfl⟩
  exact trivial
set_option maxHeartbeats 4000000 in
set_option maxRecDepth 100000 in
theorem W_cmp_Or_int (a0 : (List Int)) (A0 : Option Addr) (n0 : Nat) (c0 : Nat) (r : Int) (h : cmp_Or_int a0 = some r) : Spec Try.prog 69 [.slice A0 n0 c0] [] [fV (lSlice (lInt .i64)) (.slice A0 n0 c0) a0] (Q_cmp_Or_int r) := by
  unfold cmp_Or_int at h
  refine spec_of (σ := [(0, _)]) Try.func69 rfl rfl rfl rfl ?_
  intro C
  refine wc_know (fun _ h => h.lenF m0) (fun e => ?_)
  subst e
  refine wc_seq ?_
  refine wc_region ?_   -- region 0
  refine wl_det rfl rfl (det_assign rfl) rfl ?_
  refine wl_nil ?_
  refine pn_then ?_
  refine wc_seq ?_
  refine wc_region ?_   -- region 1
  refine wl_det rfl rfl (det_assign rfl) rfl ?_
  refine wl_nil ?_
  refine pn_then ?_
  obtain ⟨q4, h, ho4⟩ := bind_some h
  refine wc_meetG (G := Unit × Unit) (fun (s4, _) => (.inl s4) = q4) (fun (_, _) => [(3, .int .i64 0)]) (fun (_, _) => []) (fun (_, _) => []) ?_ ?_
  · refine wc_seq ?_
    refine wc_region ?_   -- region 2
    refine wl_det rfl rfl (det_move rfl) rfl ?_
    refine wl_det rfl rfl (det_len rfl un22) rfl ?_
    refine wl_det rfl rfl (det_move rfl) rfl ?_
    refine wl_nil ?_
    refine pn_then ?_
    refine wc_block ?_
    obtain ⟨o8, h, ho8⟩ := bind_some h
    obtain ⟨k8, hk8⟩ := loopV_some.1 h
    refine wc_loop (G := Nat × Int × Unit) (fun g => IterN (cmp_Or_int_l8 a0) g.1 g.2.1 o8) (fun g => g.1) (fun (_, s8, _) => [(3, .int .i64 0), (6, .slice A0 a0.length c0), (7, .int .i64 (a0.length : Int)), (8, .int .i64 s8)]) (fun (_, _, _) => []) (fun (_, _, _) => [fV (lSlice (lInt .i64)) (.slice A0 a0.length c0) a0]) (k8, 0, ()) hk8 ⟨rfl, rfl, rfl, rfl, trivial⟩ (fun _ h => h.to trivial ⟨m0, trivial⟩) ?_
    rintro ⟨k8, s8, _⟩ hI
    obtain ⟨k8, rfl, q8, h, g8⟩ := IterN.pos hI
    dsimp only at h ⊢
    unfold cmp_Or_int_l8 at h
    refine wc_seq ?_
    refine wc_region ?_   -- region 3
    refine wl_det rfl rfl (det_lss rfl rfl) rfl ?_
    refine wl_nil ?_
    refine pn_then ?_
    refine wc_seq ?_
    refine wc_cond rfl (fun cd12 => ?_) (fun cd12 => ?_)
    · have h := ifT h cd12
      refine wc_skip ?_
      refine pn_then ?_
      refine wc_seq ?_
      refine wc_block ?_
      refine wc_seq ?_
      refine wc_region ?_   -- region 4
      obtain ⟨k4_0, h⟩ := chk_some h
      refine wl_st (fun _ h => h.openF m0 k4_0) ?_
      refine wl_det rfl rfl (det_indexP rfl rfl (ms m0) k4_0 m0 un22 sz3) rfl ?_
      refine wl_det rfl rfl (det_loadP (off := 0) rfl m0 (by rfl) (by rfl) (loaded_1 na3 us3)) rfl ?_
      refine wl_det rfl rfl (det_assign rfl) rfl ?_
      refine wl_nil ?_
      refine pn_then ?_
      refine wc_seq ?_
      refine wc_region ?_   -- region 5
      refine wl_det rfl rfl (det_move rfl) rfl ?_
      refine wl_det rfl rfl (det_move rfl) rfl ?_
      refine wl_det rfl rfl (det_neq rfl rfl) rfl ?_
      refine wl_nil ?_
      refine pn_then ?_
      refine wc_cond rfl (fun cd20 => ?_) (fun cd20 => ?_)
      · have h := ifT h cd20
        refine wc_seq ?_
        refine wc_region ?_   -- region 6
        refine wl_det rfl rfl (det_move rfl) rfl ?_
        refine wl_det rfl rfl (det_assign rfl) rfl ?_
        refine wl_nil ?_
        refine pn_then ?_
        refine wc_ret ?_
        refine pr_block ?_
        refine pr_then ?_
        refine pr_then ?_
        refine pr_block ?_
        refine pr_then ?_
        replace h := Option.some.inj h
        subst h
        replace g8 := nextR g8
        subst g8
        have h := (elimL ho8)
        replace h := Option.some.inj h
        subst h
        have h := (elimR ho4)
        replace h := Option.some.inj h
        subst h
        refine pn_ret (vs := [_]) rfl ⟨rfl, trivial⟩ ⟨rfl, rfl, rfl⟩ (fun _ h => h.to trivial trivial)
      · have h := ifF h cd20
        refine wc_skip ?_
        refine pn_block ?_
        refine pn_then ?_
        refine wc_region ?_   -- region 7
        refine wl_det rfl rfl (det_add rfl rfl) rfl ?_
        refine wl_det rfl rfl (det_move rfl) rfl ?_
        refine wl_nil ?_
        replace h := Option.some.inj h
        subst h
        exact pn_some (k8, (w64 (s8 + 1)), ()) ⟨nextL g8, Nat.lt_succ_self _⟩ ⟨rfl, rfl, rfl, rfl, trivial⟩ (fun _ h => h.to trivial ⟨(ms m0), trivial⟩)
    · have h := ifF h cd12
      refine wc_exit ?_
      refine px_then ?_
      refine px_then ?_
      refine px_block ?_
      replace h := Option.some.inj h
      subst h
      replace g8 := nextR g8
      subst g8
      have h := (elimR ho8)
      replace h := Option.some.inj h
      subst h
      exact pn_meetG ((), ()) rfl ⟨rfl, trivial⟩ (fun _ h => h.to trivial trivial)
  rintro ⟨s4, _⟩ e4
  dsimp only at e4 ⊢
  subst e4
  have h := (elimL ho4)
  refine wc_seq ?_
  refine wc_region ?_   -- region 8
  refine wl_det rfl rfl (det_move rfl) rfl ?_
  refine wl_det rfl rfl (det_assign rfl) rfl ?_
  refine wl_nil ?_
  refine pn_then ?_
  refine wc_ret ?_
  replace h := Option.some.inj h
  subst h
  refine pn_ret (vs := [_]) rfl ⟨rfl, trivial⟩ ⟨rfl, rfl, rfl⟩ (fun _ h => h.to trivial trivial)
def Q_ledger_compare (r : Int) : Value → List Ent → List Fact → Prop := fun v θ κ => v = .int .i64 r ∧ θ = [] ∧ κ = []
theorem plains_ledger_compare {r : Int} : ∀ v θ κ, Q_ledger_compare r v θ κ → Plains θ := by
  rintro _ _ _ ⟨rfl, rfl, rfl⟩
  exact trivial
set_option maxHeartbeats 4000000 in
set_option maxRecDepth 100000 in
theorem W_ledger_compare (a0 : GEntry) (a1 : GEntry) (r : Int) (h : ledger_compare a0 a1 = some r) : Spec Try.prog 55 [.agg #[.int .i64 a0.Kind, .int .i64 a0.Treaty, .int .i64 a0.Party, .int .i64 a0.Loss, .int .i64 a0.Amount], .agg #[.int .i64 a1.Kind, .int .i64 a1.Treaty, .int .i64 a1.Party, .int .i64 a1.Loss, .int .i64 a1.Amount]] [] [] (Q_ledger_compare r) := by
  unfold ledger_compare at h
  refine spec_of (σ := [(0, _), (1, _)]) Try.func55 rfl rfl rfl rfl ?_
  intro C
  refine wc_seq ?_
  refine wc_region ?_   -- region 0
  refine wl_act (act_box (cs := [_, _, _, _, _]) rfl rfl) rfl rfl rfl ?_
  rintro _ _ _ ⟨b0_0, rfl, rfl, rfl⟩
  refine wl_act (act_box (cs := [_, _, _, _, _]) rfl rfl) rfl rfl rfl ?_
  rintro _ _ _ ⟨b0_1, rfl, rfl, rfl⟩
  refine wl_det rfl rfl (det_assign rfl) rfl ?_
  refine wl_nil ?_
  refine pn_then ?_
  refine wc_seq ?_
  refine dx_region 22 [[], [0], [], [2], [0, 1, 2, 3], [], [5], [], [7], [0, 1, 2, 3, 4, 5, 6, 7, 8], [], [10], [], [12], [0, 1, 2, 3, 4, 5, 6, 7, 8, 9, 10, 11, 12, 13], [], [15], [], [17], [0, 1, 2, 3, 4, 5, 6, 7, 8, 9, 10, 11, 12, 13, 14, 15, 16, 17, 18], [0, 1, 2, 3, 4, 5, 6, 7, 8, 9, 10, 11, 12, 13, 14, 15, 16, 17, 18, 19], [0, 1, 2, 3, 4, 5, 6, 7, 8, 9, 10, 11, 12, 13, 14, 15, 16, 17, 18, 19, 20], [0, 1, 2, 3, 4, 5, 6, 7, 8, 9, 10, 11, 12, 13, 14, 15, 16, 17, 18, 19, 20, 21]] mixed (ord := (.det 0 (.det 1 (.det 2 (.det 3 (.det 5 (.det 6 (.det 7 (.det 8 (.det 10 (.det 11 (.det 12 (.det 13 (.det 15 (.det 16 (.det 17 (.det 18 (.alt 4 (.alt 9 (.alt 14 (.alt 19 (.alt 20 (.alt 21 .done .dead) .dead) .dead) .dead) .dead) .dead)))))))))))))))))) (by kernel_rfl) ?_   -- region 1
  refine hx_det rfl rfl rfl nofun (det_field rfl fd41_0 rfl) rfl ?_
  refine hx_det rfl rfl rfl nofun (det_load rfl (ms m0) (by rfl) na3 us3) rfl ?_
  refine hx_det rfl rfl rfl nofun (det_field rfl fd41_0 rfl) rfl ?_
  refine hx_det rfl rfl rfl nofun (det_load rfl m0 (by rfl) na3 us3) rfl ?_
  refine hx_det rfl rfl rfl nofun (det_field rfl fd41_1 rfl) rfl ?_
  refine hx_det rfl rfl rfl nofun (det_load rfl (ms m0) (by rfl) na3 us3) rfl ?_
  refine hx_det rfl rfl rfl nofun (det_field rfl fd41_1 rfl) rfl ?_
  refine hx_det rfl rfl rfl nofun (det_load rfl m0 (by rfl) na3 us3) rfl ?_
  refine hx_det rfl rfl rfl nofun (det_field rfl fd41_2 rfl) rfl ?_
  refine hx_det rfl rfl rfl nofun (det_load rfl (ms m0) (by rfl) na3 us3) rfl ?_
  refine hx_det rfl rfl rfl nofun (det_field rfl fd41_2 rfl) rfl ?_
  refine hx_det rfl rfl rfl nofun (det_load rfl m0 (by rfl) na3 us3) rfl ?_
  refine hx_det rfl rfl rfl nofun (det_field rfl fd41_3 rfl) rfl ?_
  refine hx_det rfl rfl rfl nofun (det_load rfl (ms m0) (by rfl) na3 us3) rfl ?_
  refine hx_det rfl rfl rfl nofun (det_field rfl fd41_3 rfl) rfl ?_
  refine hx_det rfl rfl rfl nofun (det_load rfl m0 (by rfl) na3 us3) rfl ?_
  obtain ⟨r1_4, hr1_4, h⟩ := bind_some h
  refine hx_act rfl rfl rfl (act_callS (cap := []) (W_cmp_Compare_int a0.Kind a1.Kind r1_4 hr1_4) rfl rfl rfl bd70 rfl trivial) rfl (by rintro _ _ _ ⟨_, _, _, rfl, rfl⟩; first | exact ⟨_, _, rfl, rfl⟩ | exact ⟨_, [], rfl, rfl⟩) ?_
  rintro _ _ _ ⟨_, _, ⟨rfl, rfl, rfl⟩, rfl, rfl⟩
  dsimp only [List.nil_append, List.cons_append]
  obtain ⟨r1_9, hr1_9, h⟩ := bind_some h
  refine hx_act rfl rfl rfl (act_callS (cap := []) (W_cmp_Compare_int a0.Treaty a1.Treaty r1_9 hr1_9) rfl rfl rfl bd70 rfl trivial) rfl (by rintro _ _ _ ⟨_, _, _, rfl, rfl⟩; first | exact ⟨_, _, rfl, rfl⟩ | exact ⟨_, [], rfl, rfl⟩) ?_
  rintro _ _ _ ⟨_, _, ⟨rfl, rfl, rfl⟩, rfl, rfl⟩
  dsimp only [List.nil_append, List.cons_append]
  obtain ⟨r1_14, hr1_14, h⟩ := bind_some h
  refine hx_act rfl rfl rfl (act_callS (cap := []) (W_cmp_Compare_int a0.Party a1.Party r1_14 hr1_14) rfl rfl rfl bd70 rfl trivial) rfl (by rintro _ _ _ ⟨_, _, _, rfl, rfl⟩; first | exact ⟨_, _, rfl, rfl⟩ | exact ⟨_, [], rfl, rfl⟩) ?_
  rintro _ _ _ ⟨_, _, ⟨rfl, rfl, rfl⟩, rfl, rfl⟩
  dsimp only [List.nil_append, List.cons_append]
  obtain ⟨r1_19, hr1_19, h⟩ := bind_some h
  refine hx_act rfl rfl rfl (act_callS (cap := []) (W_cmp_Compare_int a0.Loss a1.Loss r1_19 hr1_19) rfl rfl rfl bd70 rfl trivial) rfl (by rintro _ _ _ ⟨_, _, _, rfl, rfl⟩; first | exact ⟨_, _, rfl, rfl⟩ | exact ⟨_, [], rfl, rfl⟩) ?_
  rintro _ _ _ ⟨_, _, ⟨rfl, rfl, rfl⟩, rfl, rfl⟩
  dsimp only [List.nil_append, List.cons_append]
  refine hx_act rfl rfl rfl (act_litS (lInt .i64) (vs := [_, _, _, _]) (cs := [_, _, _, _]) [r1_4, r1_9, r1_14, r1_19] un22 in3 rfl rfl rfl rfl rfl ⟨rfl, rfl, rfl, rfl, trivial⟩ (by rfl) rfl (litR_flat rfl)) rfl (by rintro _ _ _ ⟨A1_20, rfl, rfl, rfl⟩; first | exact ⟨_ :: [], [], rfl, rfl⟩ | exact ⟨[], [_], rfl, rfl⟩ | exact ⟨[], [], rfl, rfl⟩) ?_
  rintro _ _ _ ⟨A1_20, rfl, rfl, rfl⟩
  obtain ⟨r1_21, hr1_21, h⟩ := bind_some h
  refine hx_act rfl rfl rfl (act_callL (cap := []) [eS (lInt .i64) 3 A1_20 4 4 [r1_4, r1_9, r1_14, r1_19]] (W_cmp_Or_int [r1_4, r1_9, r1_14, r1_19] A1_20 4 4 r1_21 hr1_21) plains_cmp_Or_int rfl rfl rfl bd69 rfl ⟨m0, trivial⟩ ⟨.inr ⟨_, m0, lent_eS⟩, trivial⟩) rfl (by rintro _ _ _ ⟨_, _, _, rfl, rfl⟩; first | exact ⟨_, _, rfl, rfl⟩ | exact ⟨_, [], rfl, rfl⟩) ?_
  rintro _ _ _ ⟨_, _, ⟨rfl, rfl, rfl⟩, rfl, rfl⟩
  dsimp only [List.nil_append, List.cons_append]
  refine hx_end ?_
  refine wl_det rfl rfl (det_assign rfl) rfl ?_
  refine wl_nil ?_
  refine pn_then ?_
  refine wc_ret ?_
  replace h := Option.some.inj h
  subst h
  refine pn_ret (vs := [_]) rfl ⟨rfl, trivial⟩ ⟨rfl, rfl, rfl⟩ (fun _ h => h.to trivial trivial)
def Q_slices_SortFunc_s_api_Entry_api_Entry_o_ledger_compare (A0 : Option Addr) (n0 : Nat) (c0 : Nat) (r : (List GEntry)) : Value → List Ent → List Fact → Prop := fun v θ κ => v = .tuple #[] ∧ θ = [eS lGEntry 41 A0 n0 c0 r] ∧ κ = []
theorem plains_slices_SortFunc_s_api_Entry_api_Entry_o_ledger_compare {A0 : Option Addr} {n0 : Nat} {c0 : Nat} {r : (List GEntry)} : ∀ v θ κ, Q_slices_SortFunc_s_api_Entry_api_Entry_o_ledger_compare A0 n0 c0 r v θ κ → Plains θ := by
  rintro _ _ _ ⟨rfl, rfl, rfl⟩
  exact ⟨plain_eS, trivial⟩
theorem W_slices_SortFunc_s_api_Entry_api_Entry_o_ledger_compare (a0 : (List GEntry)) (A0 : Option Addr) (n0 : Nat) (c0 : Nat) (r : (List GEntry)) (h : slices_SortFunc_s_api_Entry_api_Entry_o_ledger_compare a0 = some r) : Spec Try.prog 54 [.slice A0 n0 c0, .func (.func 55) #[] #[]] [eS lGEntry 41 A0 n0 c0 a0] [] (Q_slices_SortFunc_s_api_Entry_api_Entry_o_ledger_compare A0 n0 c0 r) :=
  spec_sortK (ρ := Try.sort54_ren) Try.sort54 rfl (by kernel_rfl) (by kernel_rfl) (cap := []) (θ₀ := []) bd55 trivial (fun x y r h => W_ledger_compare x y  r h) h A0 n0 c0
def Q_ledger_Collect (r : (List GEntry) × Int) : Value → List Ent → List Fact → Prop := fun v θ κ => ∃ (pA0 : Option Addr), ∃ (pn0 : Nat), ∃ (pc0 : Nat), v = .tuple #[.slice pA0 pn0 pc0, .int .i64 r.2] ∧ θ = [eS lGEntry 41 pA0 pn0 pc0 r.1] ∧ κ = []
theorem plains_ledger_Collect {r : (List GEntry) × Int} : ∀ v θ κ, Q_ledger_Collect r v θ κ → Plains θ := by
  rintro _ _ _ ⟨_, _, _, rfl, rfl, rfl⟩
  exact ⟨plain_eS, trivial⟩
set_option maxHeartbeats 4000000 in
set_option maxRecDepth 100000 in
theorem W_ledger_Collect (a0 : (List GEntry)) (A0 : Option Addr) (n0 : Nat) (c0 : Nat) (r : (List GEntry) × Int) (h : ledger_Collect a0 = some r) : Spec Try.prog 26 [.slice A0 n0 c0] [] [fV (lSlice lGEntry) (.slice A0 n0 c0) a0] (Q_ledger_Collect r) := by
  unfold ledger_Collect at h
  refine spec_of (σ := [(0, _)]) Try.func26 rfl rfl rfl rfl ?_
  intro C
  refine wc_know (fun _ h => h.lenF m0) (fun e => ?_)
  subst e
  refine wc_seq ?_
  refine wc_region ?_   -- region 0
  refine wl_det rfl rfl (det_assign rfl) rfl ?_
  refine wl_det rfl rfl (det_assign rfl) rfl ?_
  refine wl_nil ?_
  refine pn_then ?_
  refine wc_seq ?_
  refine wc_seq ?_
  refine wc_region ?_   -- region 1
  refine wl_det rfl rfl (det_move rfl) rfl ?_
  refine wl_det rfl rfl (det_len rfl un37) rfl ?_
  refine wl_det rfl rfl (det_gtr rfl rfl) rfl ?_
  refine wl_nil ?_
  refine pn_then ?_
  refine wc_cond rfl (fun cd5 => ?_) (fun cd5 => ?_)
  · have h := ifT h cd5
    refine wc_seq ?_
    refine wc_region ?_   -- region 2
    refine wl_det rfl rfl (det_assign rfl) rfl ?_
    refine wl_det rfl rfl (det_assign rfl) rfl ?_
    refine wl_nil ?_
    refine pn_then ?_
    refine wc_ret ?_
    refine pr_then ?_
    refine pn_st (fun _ h => h.zeroS lGEntry 41 none) ?_
    replace h := Option.some.inj h
    subst h
    refine pn_ret (vs := [_, _]) rfl ⟨rfl, rfl, trivial⟩ ⟨none, 0, 0, rfl, rfl, rfl⟩ (fun _ h => h.to ⟨_, r0, trivial⟩ trivial)
  · have h := ifF h cd5
    refine wc_skip ?_
    refine pn_then ?_
    refine wc_seq ?_
    refine wc_region ?_   -- region 3
    refine wl_act (act_makeMap encKGEntry encKI) rfl rfl rfl ?_
    rintro _ _ _ ⟨b3_0, rfl, rfl, rfl⟩
    refine wl_det rfl rfl (det_assign rfl) rfl ?_
    refine wl_nil ?_
    refine pn_then ?_
    obtain ⟨q10, h, ho10⟩ := bind_some h
    refine wc_meetG (G := (List (GEntry × Int)) × Unit) (fun (s10, _) => (.inl s10) = q10) (fun (_, _) => [(4, .map (some b3_0))]) (fun (s10, _) => [eM encKGEntry encKI b3_0 s10]) (fun (_, _) => []) ?_ ?_
    · refine wc_seq ?_
      refine wc_region ?_   -- region 4
      refine wl_det rfl rfl (det_move rfl) rfl ?_
      refine wl_det rfl rfl (det_len rfl un37) rfl ?_
      refine wl_det rfl rfl (det_move rfl) rfl ?_
      refine wl_nil ?_
      refine pn_then ?_
      refine wc_block ?_
      obtain ⟨o14, h, ho14⟩ := bind_some h
      obtain ⟨k14, hk14⟩ := loopV_some.1 h
      refine wc_loop (G := Nat × ((List (GEntry × Int)) × Int) × Unit) (fun g => IterN (ledger_Collect_l14 a0) g.1 g.2.1 o14) (fun g => g.1) (fun (_, s14, _) => [(4, .map (some b3_0)), (15, .slice A0 a0.length c0), (16, .int .i64 (a0.length : Int)), (17, .int .i64 s14.2)]) (fun (_, s14, _) => [eM encKGEntry encKI b3_0 s14.1]) (fun (_, _, _) => [fV (lSlice lGEntry) (.slice A0 a0.length c0) a0]) (k14, ([], 0), ()) hk14 ⟨rfl, rfl, rfl, rfl, trivial⟩ (fun _ h => h.to ⟨_, r0, trivial⟩ ⟨m0, trivial⟩) ?_
      rintro ⟨k14, s14, _⟩ hI
      obtain ⟨k14, rfl, q14, h, g14⟩ := IterN.pos hI
      dsimp only at h ⊢
      unfold ledger_Collect_l14 at h
      refine wc_seq ?_
      refine wc_region ?_   -- region 5
      refine wl_det rfl rfl (det_lss rfl rfl) rfl ?_
      refine wl_nil ?_
      refine pn_then ?_
      refine wc_seq ?_
      refine wc_cond rfl (fun cd18 => ?_) (fun cd18 => ?_)
      · have h := ifT h cd18
        refine wc_skip ?_
        refine pn_then ?_
        refine wc_seq ?_
        refine wc_block ?_
        refine wc_seq ?_
        refine wc_region ?_   -- region 6
        obtain ⟨k6_0, h⟩ := chk_some h
        refine wl_st (fun _ h => h.openF m0 k6_0) ?_
        refine wl_det rfl rfl (det_indexP rfl rfl (ms m0) k6_0 m0 un37 sz41) rfl ?_
        refine wl_det rfl rfl (det_loadP (off := 0) rfl m0 (by rfl) (by rfl) (loaded_n (cells := [_, _, _, _, _]) ag41 sz41)) rfl ?_
        refine wl_act (act_alloc (cs := [_, _, _, _, _]) zr41 rfl) rfl rfl rfl ?_
        rintro _ _ _ ⟨b6_2, rfl, rfl, rfl⟩
        refine wl_act0 (act_store (cells := [_, _, _, _, _]) (cs' := [_, _, _, _, _]) rfl rfl rfl s0 (by rfl) (of_decide_eq_true rfl) sz41 ⟨rfl, rfl, rfl, rfl, rfl, trivial⟩) rfl rfl ?_
        rintro _ _ _ ⟨rfl, rfl⟩
        refine wl_nil ?_
        refine pn_then ?_
        refine wc_seq ?_
        refine wc_seq ?_
        refine wc_region ?_   -- region 7
        refine wl_det rfl rfl (det_loadN (cells := [_, _, _, _, _]) rfl m0 (by rfl) ag41 sz41) rfl ?_
        obtain ⟨r7_1, hr7_1, h⟩ := bind_some h
        refine wl_act (act_callS (cap := []) (W_ledger_Valid (ix a0 s14.2) r7_1 hr7_1) rfl rfl rfl bd23 rfl trivial) rfl rfl rfl ?_
        rintro _ _ _ ⟨_, _, ⟨rfl, rfl, rfl⟩, rfl, rfl⟩
        dsimp only [List.nil_append, List.cons_append]
        refine wl_det rfl rfl (det_not rfl) rfl ?_
        refine wl_nil ?_
        refine pn_then ?_
        refine wc_cond rfl (fun cd27 => ?_) (fun cd27 => ?_)
        · have h := ifT h cd27
          refine wc_seq ?_
          refine wc_region ?_   -- region 8
          refine wl_det rfl rfl (det_assign rfl) rfl ?_
          refine wl_det rfl rfl (det_assign rfl) rfl ?_
          refine wl_nil ?_
          refine pn_then ?_
          refine wc_ret ?_
          refine pr_then ?_
          refine pr_block ?_
          refine pr_then ?_
          refine pr_then ?_
          refine pr_block ?_
          refine pr_then ?_
          refine pn_st (fun _ h => h.zeroS lGEntry 41 none) ?_
          replace h := Option.some.inj h
          subst h
          replace g14 := nextR g14
          subst g14
          have h := (elimL ho14)
          replace h := Option.some.inj h
          subst h
          have h := (elimR ho10)
          replace h := Option.some.inj h
          subst h
          refine pn_ret (vs := [_, _]) rfl ⟨rfl, rfl, trivial⟩ ⟨none, 0, 0, rfl, rfl, rfl⟩ (fun _ h => h.to ⟨_, r0, trivial⟩ trivial)
        · have h := ifF h cd27
          refine wc_skip ?_
          refine pn_then ?_
          refine wc_seq ?_
          refine wc_region ?_   -- region 9
          refine wl_det rfl rfl (det_loadN (cells := [_, _, _, _, _]) rfl m0 (by rfl) ag41 sz41) rfl ?_
          refine wl_act (act_alloc (cs := [_, _, _, _, _]) zr41 rfl) rfl rfl rfl ?_
          rintro _ _ _ ⟨b9_1, rfl, rfl, rfl⟩
          refine wl_act0 (act_store (cells := [_, _, _, _, _]) (cs' := [_, _, _, _, _]) rfl rfl rfl s0 (by rfl) (of_decide_eq_true rfl) sz41 ⟨rfl, rfl, rfl, rfl, rfl, trivial⟩) rfl rfl ?_
          rintro _ _ _ ⟨rfl, rfl⟩
          refine wl_nil ?_
          refine pn_then ?_
          refine wc_seq ?_
          refine wc_region ?_   -- region 10
          refine wl_det rfl rfl (det_field rfl fd41_4 rfl) rfl ?_
          refine wl_act0 (act_store (cells := [_]) (cs' := [_, _, _, _, _]) rfl rfl rfl s0 (by rfl) (of_decide_eq_true rfl) sz3 ⟨rfl, trivial⟩) rfl rfl ?_
          rintro _ _ _ ⟨rfl, rfl⟩
          refine wl_nil ?_
          refine pn_then ?_
          refine dx_regionZ (Z := St C [_, _, _] [_, _]) 8 [[], [], [0, 1], [], [3], [0, 1, 2, 3, 4], [0, 1, 3, 4], [0, 1, 3, 4, 6], [0, 1, 2, 3, 4, 5, 6, 7]] mixed (ord := (.det 0 (.det 1 (.det 2 (.det 3 (.det 4 (.det 5 (.alt 6 (.det 7 .done) .dead)))))))) (by kernel_rfl) (fun _ h => (h.weakM (0 : Int) (ss (ss s0))).to ⟨_, r0, ⟨_, r0, ⟨_, r0, trivial⟩⟩⟩ ⟨m0, ⟨(ms m0), trivial⟩⟩) ?_   -- region 11
          refine hx_det rfl rfl rfl nofun (det_move rfl) rfl ?_
          refine hx_det rfl rfl rfl nofun (det_loadN (cells := [_, _, _, _, _]) rfl m0 (by rfl) ag41 sz41) rfl ?_
          refine hx_det rfl rfl rfl nofun (det_lookupW (k := (GEntry.mk (ix a0 s14.2).Kind (ix a0 s14.2).Treaty (ix a0 s14.2).Party (ix a0 s14.2).Loss 0)) (z := (0 : Int)) (vr := .int .i64 (mget s14.1 (GEntry.mk (ix a0 s14.2).Kind (ix a0 s14.2).Treaty (ix a0 s14.2).Party (ix a0 s14.2).Loss 0) (0 : Int))) rfl rfl rfl (ms (ms m0)) ko41 um87 zr3 rfl) rfl ?_
          refine hx_det rfl rfl rfl nofun (det_field rfl fd41_4 rfl) rfl ?_
          refine hx_det rfl rfl rfl nofun (det_load rfl (ms m0) (by rfl) na3 us3) rfl ?_
          refine hx_det rfl rfl rfl nofun (det_add rfl rfl) rfl ?_
          refine hx_mut rfl rfl rfl (act_mapEntry (k := (GEntry.mk (ix a0 s14.2).Kind (ix a0 s14.2).Treaty (ix a0 s14.2).Party (ix a0 s14.2).Loss 0)) (z := (0 : Int)) rfl rfl rfl (ss (ss s0)) ko41 um87 zr3) rfl (by rintro _ _ _ ⟨n11_6, rfl, rfl, rfl⟩ w hs; exact (hs.weakP (ss (ss s0))).to ⟨_, r0, ⟨_, r0, ⟨_, r0, trivial⟩⟩⟩ ⟨m0, ⟨(ms m0), trivial⟩⟩) ?_
          rintro _ _ _ ⟨n11_6, rfl, rfl, rfl⟩
          refine hx_det rfl rfl rfl nofun (det_extract rfl rfl) rfl ?_
          refine hx_end ?_
          refine wl_act0 (act_entryStore (v := (w64 ((mget s14.1 (GEntry.mk (ix a0 s14.2).Kind (ix a0 s14.2).Treaty (ix a0 s14.2).Party (ix a0 s14.2).Loss 0) (0 : Int)) + (ix a0 s14.2).Amount))) rfl rfl rfl rfl (ss (ss s0))) rfl rfl ?_
          rintro _ _ _ ⟨rfl, rfl⟩
          refine wl_nil ?_
          refine pn_block ?_
          refine pn_then ?_
          refine wc_region ?_   -- region 12
          refine wl_det rfl rfl (det_add rfl rfl) rfl ?_
          refine wl_det rfl rfl (det_move rfl) rfl ?_
          refine wl_nil ?_
          replace h := Option.some.inj h
          subst h
          exact pn_some (k14, ((mset s14.1 (GEntry.mk (ix a0 s14.2).Kind (ix a0 s14.2).Treaty (ix a0 s14.2).Party (ix a0 s14.2).Loss 0) (w64 ((mget s14.1 (GEntry.mk (ix a0 s14.2).Kind (ix a0 s14.2).Treaty (ix a0 s14.2).Party (ix a0 s14.2).Loss 0) (0 : Int)) + (ix a0 s14.2).Amount))), (w64 (s14.2 + 1))), ()) ⟨nextL g14, Nat.lt_succ_self _⟩ ⟨rfl, rfl, rfl, rfl, trivial⟩ (fun _ h => h.to ⟨_, (rs (rs r0)), trivial⟩ ⟨(ms m0), trivial⟩)
      · have h := ifF h cd18
        refine wc_exit ?_
        refine px_then ?_
        refine px_then ?_
        refine px_block ?_
        replace h := Option.some.inj h
        subst h
        replace g14 := nextR g14
        subst g14
        have h := (elimR ho14)
        replace h := Option.some.inj h
        subst h
        exact pn_meetG (s14.1, ()) rfl ⟨rfl, trivial⟩ (fun _ h => h.to ⟨_, r0, trivial⟩ trivial)
    rintro ⟨s10, _⟩ e10
    dsimp only at e10 ⊢
    subst e10
    have h := (elimL ho10)
    refine wc_seq ?_
    refine wc_region ?_   -- region 13
    refine wl_det rfl rfl (det_move rfl) rfl ?_
    refine wl_det rfl rfl (det_lenM rfl m0 um87) rfl ?_
    obtain ⟨k13_2, h⟩ := chk_some h
    obtain ⟨k13_2a, h⟩ := chk_some h
    refine wl_act (act_makeS (L := lGEntry) (x0 := (GEntry.mk 0 0 0 0 0)) rfl rfl un37 in41 (by refine ⟨rfl, fun _ _ => ?_⟩; first | exact rfl | exact ⟨_, _, _, rfl, rfl, Nat.zero_le _, .inl rfl⟩) rfl rfl rfl k13_2 k13_2a) rfl rfl rfl ?_
    rintro _ _ _ ⟨A13_2, c13_2, rfl, rfl, rfl⟩
    refine wl_det rfl rfl (det_assign rfl) rfl ?_
    refine wl_nil ?_
    refine pn_then ?_
    refine wc_seq ?_
    refine wc_seq ?_
    refine wc_region ?_   -- region 14
    refine wl_det rfl rfl (det_move rfl) rfl ?_
    refine wl_st (fun _ h => h.shutM (rs r0)) ?_
    refine wl_act (act_range rfl m0 um87) rfl rfl rfl ?_
    rintro _ _ _ ⟨b14_1, rfl, rfl, rfl⟩
    refine wl_nil ?_
    refine pn_then ?_
    refine wc_block ?_
    have hR42 := rangeP_some.1 h
    refine wc_range (G := Option Addr × Nat × Nat × Option (GEntry × Int) × Unit) (fun (_, _, A42_0, n42_0, c42_0, _, _) => [(8, .slice A42_0 n42_0 c42_0), (39, .pointer (some ⟨b14_1, 0, none⟩))]) (fun (lf42, s42, A42_0, n42_0, c42_0, cu42_3, _) => [eS lGEntry 41 A42_0 n42_0 c42_0 s42, eIt encKGEntry encKI b14_1 cu42_3 lf42]) (fun (_, _, _, _, _, _, _) => []) (s10, (List.replicate (0 : Int).toNat (GEntry.mk 0 0 0 0 0)), A13_2, (List.replicate (0 : Int).toNat (GEntry.mk 0 0 0 0 0)).length, c13_2, none, ()) hR42 ⟨rfl, rfl, trivial⟩ (fun _ h => h.to ⟨_, (rs r0), ⟨_, r0, trivial⟩⟩ trivial) ?_
    rintro ⟨lf42, s42, A42_0, n42_0, c42_0, cu42_3, _⟩ hI42
    dsimp only at hI42 ⊢
    rcases Classical.em (lf42 = []) with hl42 | hl42
    · subst hl42
      have h := elimL hI42.nil
      refine wc_know (fun _ h => h.lenO m0) (fun e => ?_)
      subst e
      refine wc_seq ?_
      refine wc_region ?_   -- region 15
      refine wl_act (act_next0 rfl (ms m0)) rfl rfl rfl ?_
      rintro _ _ _ ⟨rfl, rfl, rfl⟩
      refine wl_det rfl rfl (det_extract rfl rfl) rfl ?_
      refine wl_nil ?_
      refine pn_then ?_
      refine wc_seq ?_
      refine wc_condF rfl ?_
      refine wc_exit ?_
      refine px_then ?_
      refine px_then ?_
      refine px_block ?_
      refine pn_then ?_
      refine wc_seq ?_
      refine wc_region ?_   -- region 22
      refine wl_det rfl rfl (det_move rfl) rfl ?_
      obtain ⟨r22_1, hr22_1, h⟩ := bind_some h
      refine wl_act (act_callS (cap := []) (W_slices_SortFunc_s_api_Entry_api_Entry_o_ledger_compare s42 A42_0 s42.length c42_0 r22_1 hr22_1) rfl rfl rfl bd54 ⟨_, r0, rfl⟩ trivial) rfl rfl rfl ?_
      rintro _ _ _ ⟨_, _, ⟨rfl, rfl, rfl⟩, rfl, rfl⟩
      dsimp only [List.nil_append, List.cons_append]
      refine wl_nil ?_
      refine pn_then ?_
      refine wc_seq ?_
      refine wc_region ?_   -- region 23
      refine wl_det rfl rfl (det_move rfl) rfl ?_
      refine wl_det rfl rfl (det_assign rfl) rfl ?_
      refine wl_det rfl rfl (det_assign rfl) rfl ?_
      refine wl_nil ?_
      refine pn_then ?_
      refine wc_ret ?_
      replace h := Option.some.inj h
      subst h
      refine pn_ret (vs := [_, _]) rfl ⟨rfl, rfl, trivial⟩ ⟨A42_0, s42.length, c42_0, rfl, rfl, rfl⟩ (fun _ h => h.to ⟨_, r0, trivial⟩ trivial)
    · refine wc_know (fun _ h => h.lenO m0) (fun e => ?_)
      subst e
      refine wc_seq ?_
      refine wc_region ?_   -- region 15
      refine wl_act (act_next1 rfl (ss s0) hl42) rfl rfl rfl ?_
      rintro _ _ _ ⟨p42, lg42, hp42, rfl, rfl, rfl⟩
      obtain ⟨q42, h, hN42⟩ := hI42.cons hp42
      unfold ledger_Collect_l42 at h
      refine wl_det rfl rfl (det_extract rfl rfl) rfl ?_
      refine wl_nil ?_
      refine pn_then ?_
      refine wc_seq ?_
      refine wc_condT rfl ?_
      refine wc_skip ?_
      refine pn_then ?_
      refine wc_block ?_
      refine wc_seq ?_
      refine wc_region ?_   -- region 16
      refine wl_det rfl rfl (det_entry (vk := .agg #[.int .i64 p42.1.Kind, .int .i64 p42.1.Treaty, .int .i64 p42.1.Party, .int .i64 p42.1.Loss, .int .i64 p42.1.Amount]) (vv := .int .i64 p42.2) rfl (ms m0) rfl rfl) rfl ?_
      refine wl_det rfl rfl (det_extract rfl rfl) rfl ?_
      refine wl_det rfl rfl (det_extract rfl rfl) rfl ?_
      refine wl_act (act_alloc (cs := [_, _, _, _, _]) zr41 rfl) rfl rfl rfl ?_
      rintro _ _ _ ⟨b16_3, rfl, rfl, rfl⟩
      refine wl_act0 (act_store (cells := [_, _, _, _, _]) (cs' := [_, _, _, _, _]) rfl rfl rfl s0 (by rfl) (of_decide_eq_true rfl) sz41 ⟨rfl, rfl, rfl, rfl, rfl, trivial⟩) rfl rfl ?_
      rintro _ _ _ ⟨rfl, rfl⟩
      refine wl_det rfl rfl (det_assign rfl) rfl ?_
      refine wl_nil ?_
      refine pn_then ?_
      refine wc_seq ?_
      refine wc_seq ?_
      refine wc_region ?_   -- region 17
      refine wl_det rfl rfl (det_move rfl) rfl ?_
      obtain ⟨r17_1, hr17_1, h⟩ := bind_some h
      refine wl_act (act_callS (cap := []) (W_amount_Valid p42.2 r17_1 hr17_1) rfl rfl rfl bd51 rfl trivial) rfl rfl rfl ?_
      rintro _ _ _ ⟨_, _, ⟨rfl, rfl, rfl⟩, rfl, rfl⟩
      dsimp only [List.nil_append, List.cons_append]
      refine wl_det rfl rfl (det_not rfl) rfl ?_
      refine wl_nil ?_
      refine pn_then ?_
      refine wc_cond rfl (fun cd54 => ?_) (fun cd54 => ?_)
      · have h := ifT h cd54
        refine wc_seq ?_
        refine wc_region ?_   -- region 18
        refine wl_det rfl rfl (det_assign rfl) rfl ?_
        refine wl_det rfl rfl (det_assign rfl) rfl ?_
        refine wl_nil ?_
        refine pn_then ?_
        refine wc_ret ?_
        refine pr_then ?_
        refine pr_block ?_
        refine pr_then ?_
        refine pr_block ?_
        refine pr_then ?_
        refine pn_st (fun _ h => h.zeroS lGEntry 41 none) ?_
        replace h := Option.some.inj h
        subst h
        have h := (elimR (rnextR hN42))
        replace h := Option.some.inj h
        subst h
        refine pn_ret (vs := [_, _]) rfl ⟨rfl, rfl, trivial⟩ ⟨none, 0, 0, rfl, rfl, rfl⟩ (fun _ h => h.to ⟨_, r0, trivial⟩ trivial)
      · have h := ifF h cd54
        refine wc_skip ?_
        refine pn_then ?_
        refine wc_seq ?_
        refine wc_region ?_   -- region 19
        refine wl_det rfl rfl (det_move rfl) rfl ?_
        refine wl_det rfl rfl (det_neq rfl rfl) rfl ?_
        refine wl_nil ?_
        refine pn_then ?_
        refine wc_cond rfl (fun cd59 => ?_) (fun cd59 => ?_)
        · have h := ifT h cd59
          refine wc_seq ?_
          refine wc_region ?_   -- region 20
          refine wl_det rfl rfl (det_move rfl) rfl ?_
          refine wl_det rfl rfl (det_field rfl fd41_4 rfl) rfl ?_
          refine wl_act0 (act_store (cells := [_]) (cs' := [_, _, _, _, _]) rfl rfl rfl s0 (by rfl) (of_decide_eq_true rfl) sz3 ⟨rfl, trivial⟩) rfl rfl ?_
          rintro _ _ _ ⟨rfl, rfl⟩
          refine wl_nil ?_
          refine pn_then ?_
          refine wc_region ?_   -- region 21
          refine wl_det rfl rfl (det_move rfl) rfl ?_
          refine wl_det rfl rfl (det_loadN (cells := [_, _, _, _, _]) rfl m0 (by rfl) ag41 sz41) rfl ?_
          refine wl_act (act_litS lGEntry (vs := [_]) (cs := [_, _, _, _, _]) [(GEntry.mk p42.1.Kind p42.1.Treaty p42.1.Party p42.1.Loss p42.2)] un37 in41 rfl rfl rfl rfl rfl ⟨rfl, trivial⟩ (by rfl) rfl (litR_flat rfl)) rfl rfl rfl ?_
          rintro _ _ _ ⟨A21_2, rfl, rfl, rfl⟩
          obtain ⟨k21_3, h⟩ := chk_some h
          refine wl_act (act_appendS (L := lGEntry) rfl rfl (ss (ss s0)) (src_O m0) un37 in41 rfl rfl rfl k21_3) rfl rfl rfl ?_
          rintro _ _ _ ⟨A21_3, c21_3, rfl, rfl, rfl⟩
          refine wl_det rfl rfl (det_assign rfl) rfl ?_
          refine wl_nil ?_
          refine pn_block ?_
          replace h := Option.some.inj h
          subst h
          exact pn_some (lg42, (s42 ++ [(GEntry.mk p42.1.Kind p42.1.Treaty p42.1.Party p42.1.Loss p42.2)]), A21_3, (s42 ++ [(GEntry.mk p42.1.Kind p42.1.Treaty p42.1.Party p42.1.Loss p42.2)]).length, c21_3, (some p42), ()) ⟨rnextL hN42, perm_lt hp42⟩ ⟨rfl, rfl, trivial⟩ (fun _ h => h.to ⟨_, (rs (rs r0)), ⟨_, (rs (rs r0)), trivial⟩⟩ trivial)
        · have h := ifF h cd59
          refine wc_skip ?_
          refine pn_block ?_
          replace h := Option.some.inj h
          subst h
          exact pn_some (lg42, s42, A42_0, s42.length, c42_0, (some p42), ()) ⟨rnextL hN42, perm_lt hp42⟩ ⟨rfl, rfl, trivial⟩ (fun _ h => h.to ⟨_, (rs r0), ⟨_, (rs r0), trivial⟩⟩ trivial)
def Q_ledger_clone (r : GLedger) : Value → List Ent → List Fact → Prop := fun v θ κ => ∃ (pA0 : Option Addr), ∃ (pn0 : Nat), ∃ (pc0 : Nat), v = .agg #[.int .i64 r.Closed, .slice pA0 pn0 pc0] ∧ θ = [eS lGPosting 73 pA0 pn0 pc0 r.Postings] ∧ κ = []
theorem plains_ledger_clone {r : GLedger} : ∀ v θ κ, Q_ledger_clone r v θ κ → Plains θ := by
  rintro _ _ _ ⟨_, _, _, rfl, rfl, rfl⟩
  exact ⟨plain_eS, trivial⟩
set_option maxHeartbeats 4000000 in
set_option maxRecDepth 100000 in
theorem W_ledger_clone (a0 : GLedger) (A0 : Option Addr) (n0 : Nat) (c0 : Nat) (r : GLedger) (h : ledger_clone a0 = some r) : Spec Try.prog 57 [.agg #[.int .i64 a0.Closed, .slice A0 n0 c0]] [] [fV (lSlice lGPosting) (.slice A0 n0 c0) a0.Postings] (Q_ledger_clone r) := by
  unfold ledger_clone at h
  refine spec_of (σ := [(0, _)]) Try.func57 rfl rfl rfl rfl ?_
  intro C
  refine wc_know (fun _ h => h.lenF m0) (fun e => ?_)
  subst e
  refine wc_seq ?_
  refine wc_region ?_   -- region 0
  refine wl_act (act_box (cs := [_, _]) rfl rfl) rfl rfl rfl ?_
  rintro _ _ _ ⟨b0_0, rfl, rfl, rfl⟩
  refine wl_act (act_alloc (cs := [_, _]) zr25 rfl) rfl rfl rfl ?_
  rintro _ _ _ ⟨b0_1, rfl, rfl, rfl⟩
  refine wl_nil ?_
  refine pn_then ?_
  refine wc_seq ?_
  refine wc_st (fun _ h => h.zeroS lGPosting 73 none) ?_
  obtain ⟨k1_p1, h⟩ := chk_some h
  refine dx_regionZ (Z := St C [_, _] [_]) 5 [[], [0], [], [2], [2, 3], [0, 1, 2, 3, 4], [0, 1, 2, 3, 4, 5]] mixed (ord := (.det 0 (.det 1 (.det 2 (.det 3 (.alt 4 .done .dead)))))) (by kernel_rfl) (fun _ h => h.to ⟨_, (rs r0), ⟨_, (rs r0), trivial⟩⟩ ⟨m0, trivial⟩) ?_   -- region 1
  refine hx_det rfl rfl rfl nofun (det_field rfl fd25_0 rfl) rfl ?_
  refine hx_det rfl rfl rfl nofun (det_load rfl (ms m0) (by rfl) na3 us3) rfl ?_
  refine hx_det rfl rfl rfl nofun (det_field rfl fd25_1 rfl) rfl ?_
  refine hx_det rfl rfl rfl nofun (det_load rfl (ms m0) (by rfl) na23 us23) rfl ?_
  refine hx_mut rfl rfl rfl (act_appendS0 (L := lGPosting) rfl rfl s0 (src_F m0) un23 in73 rfl rfl rfl k1_p1) rfl (by rintro _ _ _ ⟨A1_4, c1_4, rfl, rfl, rfl⟩ w hs; exact hs.to ⟨_, (rs r0), ⟨_, (rs r0), trivial⟩⟩ ⟨m0, trivial⟩) ?_
  rintro _ _ _ ⟨A1_4, c1_4, rfl, rfl, rfl⟩
  refine hx_end ?_
  refine wl_det rfl rfl (det_build (cs := [_, _]) pl25 zr25 rfl rfl (by rfl)) rfl ?_
  refine wl_act0 (act_store (cells := [_, _]) (cs' := [_, _]) rfl rfl rfl (ss s0) (by rfl) (of_decide_eq_true rfl) sz25 ⟨rfl, rfl, trivial⟩) rfl rfl ?_
  rintro _ _ _ ⟨rfl, rfl⟩
  refine wl_nil ?_
  refine pn_then ?_
  refine wc_ret ?_
  replace h := Option.some.inj h
  subst h
  refine pn_ret (vs := [_]) rfl ⟨⟨_, _, [_, _], rfl, (ms m0), ag25, sz25, rfl⟩, trivial⟩ ⟨A1_4, a0.Postings.length, c1_4, rfl, rfl, rfl⟩ (fun _ h => h.to ⟨_, r0, trivial⟩ trivial)
def Q_ledger_Post (r : GLedger × Int) : Value → List Ent → List Fact → Prop := fun v θ κ => ∃ (pA0 : Option Addr), ∃ (pn0 : Nat), ∃ (pc0 : Nat), v = .tuple #[.agg #[.int .i64 r.1.Closed, .slice pA0 pn0 pc0], .int .i64 r.2] ∧ θ = [eS lGPosting 73 pA0 pn0 pc0 r.1.Postings] ∧ κ = []
theorem plains_ledger_Post {r : GLedger × Int} : ∀ v θ κ, Q_ledger_Post r v θ κ → Plains θ := by
  rintro _ _ _ ⟨_, _, _, rfl, rfl, rfl⟩
  exact ⟨plain_eS, trivial⟩
set_option maxHeartbeats 4000000 in
set_option maxRecDepth 100000 in
theorem W_ledger_Post (a0 : GLedger) (a1 : (List GEntry)) (A0 : Option Addr) (n0 : Nat) (c0 : Nat) (A3 : Option Addr) (n3 : Nat) (c3 : Nat) (r : GLedger × Int) (h : ledger_Post a0 a1 = some r) : Spec Try.prog 32 [.agg #[.int .i64 a0.Closed, .slice A0 n0 c0], .slice A3 n3 c3] [] [fV (lSlice lGPosting) (.slice A0 n0 c0) a0.Postings, fV (lSlice lGEntry) (.slice A3 n3 c3) a1] (Q_ledger_Post r) := by
  unfold ledger_Post at h
  refine spec_of (σ := [(0, _), (1, _)]) Try.func32 rfl rfl rfl rfl ?_
  intro C
  refine wc_know (fun _ h => h.lenF m0) (fun e => ?_)
  subst e
  refine wc_know (fun _ h => h.lenF (ms m0)) (fun e => ?_)
  subst e
  refine wc_seq ?_
  refine wc_region ?_   -- region 0
  refine wl_act (act_box (cs := [_, _]) rfl rfl) rfl rfl rfl ?_
  rintro _ _ _ ⟨b0_0, rfl, rfl, rfl⟩
  refine wl_act (act_alloc (cs := [_, _]) zr25 rfl) rfl rfl rfl ?_
  rintro _ _ _ ⟨b0_1, rfl, rfl, rfl⟩
  refine wl_det rfl rfl (det_assign rfl) rfl ?_
  refine wl_nil ?_
  refine pn_then ?_
  refine wc_seq ?_
  refine wc_seq ?_
  refine wc_region ?_   -- region 1
  refine wl_det rfl rfl (det_loadN (cells := [_, _]) rfl (ms m0) (by rfl) ag25 sz25) rfl ?_
  obtain ⟨r1_1, hr1_1, h⟩ := bind_some h
  refine wl_act (act_callS (cap := []) (W_ledger_Validate a0 A0 a0.Postings.length c0 r1_1 hr1_1) rfl rfl rfl bd16 rfl ⟨m0, trivial⟩) rfl rfl rfl ?_
  rintro _ _ _ ⟨_, _, ⟨rfl, rfl, rfl⟩, rfl, rfl⟩
  dsimp only [List.nil_append, List.cons_append]
  refine wl_det rfl rfl (det_assign rfl) rfl ?_
  refine wl_nil ?_
  refine pn_then ?_
  refine wc_seq ?_
  refine wc_region ?_   -- region 2
  refine wl_det rfl rfl (det_move rfl) rfl ?_
  refine wl_det rfl rfl (det_neq rfl rfl) rfl ?_
  refine wl_nil ?_
  refine pn_then ?_
  refine wc_cond rfl (fun cd7 => ?_) (fun cd7 => ?_)
  · have h := ifT h cd7
    refine wc_seq ?_
    refine wc_region ?_   -- region 3
    refine wl_det rfl rfl (det_build (cs := [_, _]) pl25 zr25 rfl rfl (by rfl)) rfl ?_
    refine wl_det rfl rfl (det_move rfl) rfl ?_
    refine wl_act0 (act_store (cells := [_, _]) (cs' := [_, _]) rfl rfl rfl s0 (by rfl) (of_decide_eq_true rfl) sz25 ⟨rfl, rfl, trivial⟩) rfl rfl ?_
    rintro _ _ _ ⟨rfl, rfl⟩
    refine wl_det rfl rfl (det_assign rfl) rfl ?_
    refine wl_nil ?_
    refine pn_then ?_
    refine wc_ret ?_
    refine pr_then ?_
    refine pn_st (fun _ h => h.zeroS lGPosting 73 none) ?_
    replace h := Option.some.inj h
    subst h
    refine pn_ret (vs := [_, _]) rfl ⟨⟨_, _, [_, _], rfl, (ms m0), ag25, sz25, rfl⟩, rfl, trivial⟩ ⟨none, 0, 0, rfl, rfl, rfl⟩ (fun _ h => h.to ⟨_, r0, trivial⟩ trivial)
  · have h := ifF h cd7
    refine wc_skip ?_
    refine pn_then ?_
    refine wc_seq ?_
    refine wc_region ?_   -- region 4
    refine wl_det rfl rfl (det_move rfl) rfl ?_
    obtain ⟨r4_1, hr4_1, h⟩ := bind_some h
    refine wl_act (act_callS (cap := []) (W_ledger_Collect a1 A3 a1.length c3 r4_1 hr4_1) rfl rfl rfl bd26 rfl ⟨(ms m0), trivial⟩) rfl rfl rfl ?_
    rintro _ _ _ ⟨_, _, ⟨y4_1A0, y4_1n0, y4_1c0, rfl, rfl, rfl⟩, rfl, rfl⟩
    dsimp only [List.nil_append, List.cons_append]
    refine wl_know (fun _ h => h.lenO m0) (fun e => ?_)
    subst e
    refine wl_det rfl rfl (det_move rfl) rfl ?_
    refine wl_det rfl rfl (det_extract rfl rfl) rfl ?_
    refine wl_det rfl rfl (det_extract rfl rfl) rfl ?_
    refine wl_det rfl rfl (det_assign rfl) rfl ?_
    refine wl_det rfl rfl (det_assign rfl) rfl ?_
    refine wl_nil ?_
    refine pn_then ?_
    refine wc_seq ?_
    refine wc_seq ?_
    refine wc_region ?_   -- region 5
    refine wl_det rfl rfl (det_move rfl) rfl ?_
    refine wl_det rfl rfl (det_neq rfl rfl) rfl ?_
    refine wl_nil ?_
    refine pn_then ?_
    refine wc_cond rfl (fun cd15 => ?_) (fun cd15 => ?_)
    · have h := ifT h cd15
      refine wc_seq ?_
      refine wc_region ?_   -- region 6
      refine wl_det rfl rfl (det_build (cs := [_, _]) pl25 zr25 rfl rfl (by rfl)) rfl ?_
      refine wl_det rfl rfl (det_move rfl) rfl ?_
      refine wl_act0 (act_store (cells := [_, _]) (cs' := [_, _]) rfl rfl rfl (ss s0) (by rfl) (of_decide_eq_true rfl) sz25 ⟨rfl, rfl, trivial⟩) rfl rfl ?_
      rintro _ _ _ ⟨rfl, rfl⟩
      refine wl_det rfl rfl (det_assign rfl) rfl ?_
      refine wl_nil ?_
      refine pn_then ?_
      refine wc_ret ?_
      refine pr_then ?_
      refine pn_st (fun _ h => h.zeroS lGPosting 73 none) ?_
      replace h := Option.some.inj h
      subst h
      refine pn_ret (vs := [_, _]) rfl ⟨⟨_, _, [_, _], rfl, (ms (ms m0)), ag25, sz25, rfl⟩, rfl, trivial⟩ ⟨none, 0, 0, rfl, rfl, rfl⟩ (fun _ h => h.to ⟨_, r0, trivial⟩ trivial)
    · have h := ifF h cd15
      refine wc_skip ?_
      refine pn_then ?_
      refine wc_seq ?_
      refine wc_seq ?_
      refine wc_region ?_   -- region 7
      refine wl_det rfl rfl (det_field rfl fd25_0 rfl) rfl ?_
      refine wl_det rfl rfl (det_load rfl (ms (ms m0)) (by rfl) na3 us3) rfl ?_
      refine wl_det rfl rfl (det_eql rfl rfl) rfl ?_
      refine wl_nil ?_
      refine pn_then ?_
      refine wc_cond rfl (fun cd21 => ?_) (fun cd21 => ?_)
      · have h := ifT h cd21
        refine wc_seq ?_
        refine wc_region ?_   -- region 8
        refine wl_det rfl rfl (det_build (cs := [_, _]) pl25 zr25 rfl rfl (by rfl)) rfl ?_
        refine wl_act0 (act_store (cells := [_, _]) (cs' := [_, _]) rfl rfl rfl (ss s0) (by rfl) (of_decide_eq_true rfl) sz25 ⟨rfl, rfl, trivial⟩) rfl rfl ?_
        rintro _ _ _ ⟨rfl, rfl⟩
        refine wl_det rfl rfl (det_assign rfl) rfl ?_
        refine wl_nil ?_
        refine pn_then ?_
        refine wc_ret ?_
        refine pr_then ?_
        refine pn_st (fun _ h => h.zeroS lGPosting 73 none) ?_
        replace h := Option.some.inj h
        subst h
        refine pn_ret (vs := [_, _]) rfl ⟨⟨_, _, [_, _], rfl, (ms (ms m0)), ag25, sz25, rfl⟩, rfl, trivial⟩ ⟨none, 0, 0, rfl, rfl, rfl⟩ (fun _ h => h.to ⟨_, r0, trivial⟩ trivial)
      · have h := ifF h cd21
        refine wc_skip ?_
        refine pn_then ?_
        refine wc_seq ?_
        refine wc_region ?_   -- region 9
        refine wl_det rfl rfl (det_assign rfl) rfl ?_
        refine wl_nil ?_
        refine pn_then ?_
        obtain ⟨q26, h, ho26⟩ := bind_some h
        refine wc_meetG (G := Int × Unit) (fun (s26, _) => s26 = q26) (fun (s26, _) => [(2, .pointer (some ⟨b0_0, 0, none⟩)), (4, .pointer (some ⟨b0_1, 0, none⟩)), (7, .slice y4_1A0 r4_1.1.length y4_1c0), (9, .int .i64 s26)]) (fun (_, _) => [eBlk b0_0 25 [.int .i64 a0.Closed, .slice A0 a0.Postings.length c0], eBlk b0_1 25 [.int .i64 0, .slice none 0 0], eS lGEntry 41 y4_1A0 r4_1.1.length y4_1c0 r4_1.1]) (fun (_, _) => [fV (lSlice lGPosting) (.slice A0 a0.Postings.length c0) a0.Postings]) ?_ ?_
        · refine wc_seq ?_
          refine wc_region ?_   -- region 10
          refine wl_det rfl rfl (det_field rfl fd25_1 rfl) rfl ?_
          refine wl_det rfl rfl (det_load rfl (ms (ms m0)) (by rfl) na23 us23) rfl ?_
          refine wl_det rfl rfl (det_len rfl un23) rfl ?_
          refine wl_det rfl rfl (det_assign rfl) rfl ?_
          refine wl_nil ?_
          refine pn_then ?_
          refine wc_seq ?_
          refine wc_region ?_   -- region 11
          refine wl_det rfl rfl (det_move rfl) rfl ?_
          refine wl_det rfl rfl (det_gtr rfl rfl) rfl ?_
          refine wl_nil ?_
          refine pn_then ?_
          refine wc_cond rfl (fun cd31 => ?_) (fun cd31 => ?_)
          · have h := ifT h cd31
            refine wc_region ?_   -- region 12
            refine wl_det rfl rfl (det_field rfl fd25_1 rfl) rfl ?_
            refine wl_det rfl rfl (det_load rfl (ms (ms m0)) (by rfl) na23 us23) rfl ?_
            refine wl_det rfl rfl (det_move rfl) rfl ?_
            refine wl_det rfl rfl (det_sub rfl rfl) rfl ?_
            obtain ⟨k12_4, h⟩ := chk_some h
            refine wl_st (fun _ h => h.openF m0 k12_4) ?_
            refine wl_det rfl rfl (det_indexP rfl rfl (ms m0) k12_4 m0 un23 sz73) rfl ?_
            refine wl_det rfl rfl (det_fieldP rfl m0 fd73_0 rfl) rfl ?_
            refine wl_det rfl rfl (det_loadP (off := 0) rfl m0 (by rfl) (by rfl) (loaded_1 na3 us3)) rfl ?_
            refine wl_det rfl rfl (det_assign rfl) rfl ?_
            refine wl_nil ?_
            replace h := Option.some.inj h
            subst h
            exact pn_meetG ((ix a0.Postings (w64 ((a0.Postings.length : Int) - 1))).Number, ()) rfl ⟨rfl, rfl, rfl, rfl, trivial⟩ (fun _ h => h.to ⟨_, (rs (rs r0)), ⟨_, (rs r0), ⟨_, r0, trivial⟩⟩⟩ ⟨(ms m0), trivial⟩)
          · have h := ifF h cd31
            refine wc_skip ?_
            replace h := Option.some.inj h
            subst h
            exact pn_meetG (0, ()) rfl ⟨rfl, rfl, rfl, rfl, trivial⟩ (fun _ h => h.to ⟨_, (rs (rs r0)), ⟨_, (rs r0), ⟨_, r0, trivial⟩⟩⟩ ⟨m0, trivial⟩)
        rintro ⟨s26, _⟩ e26
        dsimp only at e26 ⊢
        subst e26
        have h := ho26
        refine wc_seq ?_
        refine wc_seq ?_
        refine wc_region ?_   -- region 13
        refine wl_det rfl rfl (det_field rfl fd25_1 rfl) rfl ?_
        refine wl_det rfl rfl (det_load rfl m0 (by rfl) na23 us23) rfl ?_
        refine wl_det rfl rfl (det_len rfl un23) rfl ?_
        refine wl_det rfl rfl (det_move rfl) rfl ?_
        refine wl_det rfl rfl (det_len rfl un37) rfl ?_
        refine wl_det rfl rfl (det_add rfl rfl) rfl ?_
        refine wl_det rfl rfl (det_gtr rfl rfl) rfl ?_
        refine wl_det rfl rfl (det_move rfl) rfl ?_
        refine wl_way (decide (65536 < (w64 ((a0.Postings.length : Int) + (r4_1.1.length : Int))))) ((decide (65536 < (w64 ((a0.Postings.length : Int) + (r4_1.1.length : Int))))) || (decide (65536 < (w64 (s26 + (r4_1.1.length : Int)))))) 6 59 (fun hg => ?_) (fun hg => ?_) ?_
        · have hg13_13 := hg
          refine wl_off rfl rfl rfl rfl rfl hg13_13 rfl ?_
          refine wl_off rfl rfl rfl rfl rfl hg13_13 rfl ?_
          refine wl_off rfl rfl rfl rfl rfl hg13_13 rfl ?_
          refine wl_off rfl rfl rfl rfl rfl hg13_13 rfl ?_
          refine wl_off rfl rfl rfl rfl rfl hg13_13 rfl ?_
          refine wl_det rfl rfl (det_or_on (r := (decide (65536 < (w64 (s26 + (r4_1.1.length : Int)))))) rfl rfl rfl hg13_13) rfl ?_
          exact wl_nil (pn_qnE (ext_cons rfl (ext_skip rfl (ext_skip rfl (ext_skip rfl (ext_skip rfl (ext_skip rfl (ext_skip rfl ext_refl))))))) (fun _ h => h))
        · have hg13_13a := hg
          refine wl_on rfl rfl rfl rfl hg13_13a ?_
          refine wl_det rfl rfl (det_move rfl) rfl ?_
          refine wl_on rfl rfl rfl rfl hg13_13a ?_
          refine wl_det rfl rfl (det_move rfl) rfl ?_
          refine wl_on rfl rfl rfl rfl hg13_13a ?_
          refine wl_det rfl rfl (det_len rfl un37) rfl ?_
          refine wl_on rfl rfl rfl rfl hg13_13a ?_
          refine wl_det rfl rfl (det_add rfl rfl) rfl ?_
          refine wl_on rfl rfl rfl rfl hg13_13a ?_
          refine wl_det rfl rfl (det_gtr rfl rfl) rfl ?_
          refine wl_det rfl rfl (det_or_off rfl rfl rfl hg13_13a) rfl ?_
          exact wl_nil (pn_qnE (ext_cons rfl (ext_skip rfl (ext_skip rfl (ext_skip rfl (ext_skip rfl (ext_skip rfl (ext_skip rfl ext_refl))))))) (fun _ h => h))
        refine wl_nil ?_
        refine pn_then ?_
        refine wc_cond rfl (fun cd36 => ?_) (fun cd36 => ?_)
        · have h := ifT h cd36
          refine wc_seq ?_
          refine wc_region ?_   -- region 14
          refine wl_det rfl rfl (det_build (cs := [_, _]) pl25 zr25 rfl rfl (by rfl)) rfl ?_
          refine wl_act0 (act_store (cells := [_, _]) (cs' := [_, _]) rfl rfl rfl (ss s0) (by rfl) (of_decide_eq_true rfl) sz25 ⟨rfl, rfl, trivial⟩) rfl rfl ?_
          rintro _ _ _ ⟨rfl, rfl⟩
          refine wl_det rfl rfl (det_assign rfl) rfl ?_
          refine wl_nil ?_
          refine pn_then ?_
          refine wc_ret ?_
          refine pr_then ?_
          refine pn_st (fun _ h => h.zeroS lGPosting 73 none) ?_
          replace h := Option.some.inj h
          subst h
          refine pn_ret (vs := [_, _]) rfl ⟨⟨_, _, [_, _], rfl, (ms (ms m0)), ag25, sz25, rfl⟩, rfl, trivial⟩ ⟨none, 0, 0, rfl, rfl, rfl⟩ (fun _ h => h.to ⟨_, r0, trivial⟩ trivial)
        · have h := ifF h cd36
          refine wc_skip ?_
          refine pn_then ?_
          refine wc_seq ?_
          refine wc_region ?_   -- region 15
          refine wl_det rfl rfl (det_move rfl) rfl ?_
          refine wl_det rfl rfl (det_len rfl un37) rfl ?_
          obtain ⟨k15_2, h⟩ := chk_some h
          obtain ⟨k15_2a, h⟩ := chk_some h
          refine wl_act (act_makeS (L := lGPosting) (x0 := (GPosting.mk 0 0 (GEntry.mk 0 0 0 0 0))) rfl rfl un23 in73 (by refine ⟨rfl, fun _ _ => ?_⟩; first | exact rfl | exact ⟨_, _, _, rfl, rfl, Nat.zero_le _, .inl rfl⟩) rfl rfl k15_2 (decide_eq_true (Int.le_refl _)) k15_2a) rfl rfl rfl ?_
          rintro _ _ _ ⟨A15_2, c15_2, rfl, rfl, rfl⟩
          refine wl_det rfl rfl (det_assign rfl) rfl ?_
          refine wl_nil ?_
          refine pn_then ?_
          obtain ⟨q41, h, ho41⟩ := bind_some h
          refine wc_meetG (G := (List GPosting) × Unit) (fun (s41, _) => s41 = q41) (fun (_, _) => [(2, .pointer (some ⟨b0_0, 0, none⟩)), (4, .pointer (some ⟨b0_1, 0, none⟩)), (11, .slice A15_2 (List.replicate (r4_1.1.length : Int).toNat (GPosting.mk 0 0 (GEntry.mk 0 0 0 0 0))).length c15_2)]) (fun (s41, _) => [eBlk b0_0 25 [.int .i64 a0.Closed, .slice A0 a0.Postings.length c0], eBlk b0_1 25 [.int .i64 0, .slice none 0 0], eS lGPosting 73 A15_2 (List.replicate (r4_1.1.length : Int).toNat (GPosting.mk 0 0 (GEntry.mk 0 0 0 0 0))).length c15_2 s41]) (fun (_, _) => [fV (lSlice lGPosting) (.slice A0 a0.Postings.length c0) a0.Postings]) ?_ ?_
          · refine wc_seq ?_
            refine wc_region ?_   -- region 16
            refine wl_det rfl rfl (det_move rfl) rfl ?_
            refine wl_det rfl rfl (det_len rfl un37) rfl ?_
            refine wl_det rfl rfl (det_move rfl) rfl ?_
            refine wl_nil ?_
            refine pn_then ?_
            refine wc_block ?_
            obtain ⟨k45, hk45⟩ := loopV_some.1 h
            refine wc_loop (G := Nat × ((List GPosting) × Int) × Unit) (fun g => IterN (ledger_Post_l45 a0 r4_1 s26) g.1 g.2.1 q41) (fun g => g.1) (fun (_, s45, _) => [(2, .pointer (some ⟨b0_0, 0, none⟩)), (4, .pointer (some ⟨b0_1, 0, none⟩)), (9, .int .i64 s26), (11, .slice A15_2 (List.replicate (r4_1.1.length : Int).toNat (GPosting.mk 0 0 (GEntry.mk 0 0 0 0 0))).length c15_2), (64, .slice y4_1A0 r4_1.1.length y4_1c0), (65, .int .i64 (r4_1.1.length : Int)), (66, .int .i64 s45.2)]) (fun (_, s45, _) => [eBlk b0_0 25 [.int .i64 a0.Closed, .slice A0 a0.Postings.length c0], eBlk b0_1 25 [.int .i64 0, .slice none 0 0], eS lGPosting 73 A15_2 (List.replicate (r4_1.1.length : Int).toNat (GPosting.mk 0 0 (GEntry.mk 0 0 0 0 0))).length c15_2 s45.1, eS lGEntry 41 y4_1A0 r4_1.1.length y4_1c0 r4_1.1]) (fun (_, _, _) => [fV (lSlice lGPosting) (.slice A0 a0.Postings.length c0) a0.Postings]) (k45, ((List.replicate (r4_1.1.length : Int).toNat (GPosting.mk 0 0 (GEntry.mk 0 0 0 0 0))), 0), ()) hk45 ⟨rfl, rfl, rfl, rfl, rfl, rfl, rfl, trivial⟩ (fun _ h => h.to ⟨_, (rs r0), ⟨_, (rs r0), ⟨_, r0, ⟨_, r0, trivial⟩⟩⟩⟩ ⟨m0, trivial⟩) ?_
            rintro ⟨k45, s45, _⟩ hI
            obtain ⟨k45, rfl, q45, h, g45⟩ := IterN.pos hI
            dsimp only at h ⊢
            unfold ledger_Post_l45 at h
            refine wc_seq ?_
            refine wc_region ?_   -- region 17
            refine wl_det rfl rfl (det_lss rfl rfl) rfl ?_
            refine wl_nil ?_
            refine pn_then ?_
            refine wc_seq ?_
            refine wc_cond rfl (fun cd49 => ?_) (fun cd49 => ?_)
            · have h := ifT h cd49
              refine wc_skip ?_
              refine pn_then ?_
              refine wc_seq ?_
              refine wc_block ?_
              refine wc_seq ?_
              refine wc_region ?_   -- region 18
              refine wl_det rfl rfl (det_move rfl) rfl ?_
              obtain ⟨k18_1, h⟩ := chk_some h
              refine wl_det rfl rfl (det_indexO rfl rfl (ms (ms (ms m0))) k18_1 un37 sz41) rfl ?_
              refine wl_det rfl rfl (det_loadO (off := 0) rfl (ms (ms (ms m0))) k18_1 (by rfl) (by rfl) (loaded_n (cells := [_, _, _, _, _]) ag41 sz41)) rfl ?_
              refine wl_act (act_alloc (cs := [_, _, _, _, _]) zr41 rfl) rfl rfl rfl ?_
              rintro _ _ _ ⟨b18_3, rfl, rfl, rfl⟩
              refine wl_det rfl rfl (det_assign rfl) rfl ?_
              refine wl_act0 (act_store (cells := [_, _, _, _, _]) (cs' := [_, _, _, _, _]) rfl rfl rfl s0 (by rfl) (of_decide_eq_true rfl) sz41 ⟨rfl, rfl, rfl, rfl, rfl, trivial⟩) rfl rfl ?_
              rintro _ _ _ ⟨rfl, rfl⟩
              refine wl_nil ?_
              refine pn_then ?_
              refine wc_region ?_   -- region 19
              refine wl_det rfl rfl (det_move rfl) rfl ?_
              refine wl_det rfl rfl (det_move rfl) rfl ?_
              refine wl_det rfl rfl (det_move rfl) rfl ?_
              refine wl_det rfl rfl (det_add rfl rfl) rfl ?_
              refine wl_det rfl rfl (det_move rfl) rfl ?_
              refine wl_det rfl rfl (det_add rfl rfl) rfl ?_
              refine wl_det rfl rfl (det_field rfl fd25_0 rfl) rfl ?_
              refine wl_det rfl rfl (det_load rfl (ms m0) (by rfl) na3 us3) rfl ?_
              refine wl_det rfl rfl (det_loadN (cells := [_, _, _, _, _]) rfl m0 (by rfl) ag41 sz41) rfl ?_
              refine wl_det rfl rfl (det_build (cs := [_, _, _, _, _, _, _]) pl73 zr73 rfl rfl (by rfl)) rfl ?_
              obtain ⟨k19_10, h⟩ := chk_some h
              refine wl_det rfl rfl (det_indexO rfl rfl (ms (ms (ms m0))) k19_10 un23 sz73) rfl ?_
              refine wl_act0 (act_storeO (cells := [_, _, _, _, _, _, _]) (off := 0) (GPosting.mk (w64 ((w64 (s26 + 1)) + s45.2)) a0.Closed (ix r4_1.1 s45.2)) rfl rfl rfl (ss (ss (ss s0))) k19_10 (by rfl) sz73 (by intro u hu; simp at hu; rcases hu with rfl | rfl | rfl | rfl | rfl | rfl | rfl <;> rfl) (stR_flat rfl rfl)) rfl rfl ?_
              rintro _ _ _ ⟨rfl, rfl⟩
              refine wl_nil ?_
              refine pn_block ?_
              refine pn_then ?_
              refine wc_region ?_   -- region 20
              refine wl_det rfl rfl (det_add rfl rfl) rfl ?_
              refine wl_det rfl rfl (det_move rfl) rfl ?_
              refine wl_nil ?_
              replace h := Option.some.inj h
              subst h
              exact pn_some (k45, ((upd s45.1 s45.2 (GPosting.mk (w64 ((w64 (s26 + 1)) + s45.2)) a0.Closed (ix r4_1.1 s45.2))), (w64 (s45.2 + 1))), ()) ⟨nextL g45, Nat.lt_succ_self _⟩ ⟨rfl, rfl, rfl, rfl, rfl, rfl, rfl, trivial⟩ (fun _ h => h.to ⟨_, (rs r0), ⟨_, (rs r0), ⟨_, (rs r0), ⟨_, (rs r0), trivial⟩⟩⟩⟩ ⟨m0, trivial⟩)
            · have h := ifF h cd49
              refine wc_exit ?_
              refine px_then ?_
              refine px_then ?_
              refine px_block ?_
              replace h := Option.some.inj h
              subst h
              replace g45 := nextR g45
              subst g45
              exact pn_meetG (s45.1, ()) rfl ⟨rfl, rfl, rfl, trivial⟩ (fun _ h => h.to ⟨_, r0, ⟨_, r0, ⟨_, r0, trivial⟩⟩⟩ ⟨m0, trivial⟩)
          rintro ⟨s41, _⟩ e41
          dsimp only at e41 ⊢
          subst e41
          have h := ho41
          refine wc_seq ?_
          refine wc_region ?_   -- region 21
          refine wl_det rfl rfl (det_loadN (cells := [_, _]) rfl m0 (by rfl) ag25 sz25) rfl ?_
          obtain ⟨r21_1, hr21_1, h⟩ := bind_some h
          refine wl_act (act_callS (cap := []) (W_ledger_clone a0 A0 a0.Postings.length c0 r21_1 hr21_1) rfl rfl rfl bd57 rfl ⟨m0, trivial⟩) rfl rfl rfl ?_
          rintro _ _ _ ⟨_, _, ⟨y21_1A0, y21_1n0, y21_1c0, rfl, rfl, rfl⟩, rfl, rfl⟩
          dsimp only [List.nil_append, List.cons_append]
          refine wl_know (fun _ h => h.lenO m0) (fun e => ?_)
          subst e
          refine wl_act (act_alloc (cs := [_, _]) zr25 rfl) rfl rfl rfl ?_
          rintro _ _ _ ⟨b21_2, rfl, rfl, rfl⟩
          refine wl_act0 (act_store (cells := [_, _]) (cs' := [_, _]) rfl rfl rfl s0 (by rfl) (of_decide_eq_true rfl) sz25 ⟨rfl, rfl, trivial⟩) rfl rfl ?_
          rintro _ _ _ ⟨rfl, rfl⟩
          refine wl_nil ?_
          refine pn_then ?_
          refine wc_seq ?_
          refine wc_region ?_   -- region 22
          refine wl_det rfl rfl (det_field rfl fd25_1 rfl) rfl ?_
          refine wl_det rfl rfl (det_load rfl m0 (by rfl) na23 us23) rfl ?_
          refine wl_det rfl rfl (det_move rfl) rfl ?_
          obtain ⟨k22_3, h⟩ := chk_some h
          refine wl_act (act_appendS (L := lGPosting) rfl rfl (ss s0) (src_O (ms (ms (ms (ms m0))))) un23 in73 rfl rfl rfl k22_3) rfl rfl rfl ?_
          rintro _ _ _ ⟨A22_3, c22_3, rfl, rfl, rfl⟩
          refine wl_det rfl rfl (det_field rfl fd25_1 rfl) rfl ?_
          refine wl_act0 (act_store (cells := [_]) (cs' := [_, _]) rfl rfl rfl s0 (by rfl) (of_decide_eq_true rfl) sz23 ⟨rfl, trivial⟩) rfl rfl ?_
          rintro _ _ _ ⟨rfl, rfl⟩
          refine wl_nil ?_
          refine pn_then ?_
          refine wc_seq ?_
          refine wc_region ?_   -- region 23
          refine wl_det rfl rfl (det_loadN (cells := [_, _]) rfl m0 (by rfl) ag25 sz25) rfl ?_
          refine wl_act0 (act_store (cells := [_, _]) (cs' := [_, _]) rfl rfl rfl (ss (ss (ss s0))) (by rfl) (of_decide_eq_true rfl) sz25 ⟨rfl, rfl, trivial⟩) rfl rfl ?_
          rintro _ _ _ ⟨rfl, rfl⟩
          refine wl_det rfl rfl (det_assign rfl) rfl ?_
          refine wl_nil ?_
          refine pn_then ?_
          refine wc_ret ?_
          replace h := Option.some.inj h
          subst h
          refine pn_ret (vs := [_, _]) rfl ⟨⟨_, _, [_, _], rfl, (ms (ms (ms m0))), ag25, sz25, rfl⟩, rfl, trivial⟩ ⟨A22_3, (r21_1.Postings ++ s41).length, c22_3, rfl, rfl, rfl⟩ (fun _ h => h.to ⟨_, (rs r0), trivial⟩ trivial)
def Q_ledger_Close (r : GLedger × Int) : Value → List Ent → List Fact → Prop := fun v θ κ => ∃ (pA0 : Option Addr), ∃ (pn0 : Nat), ∃ (pc0 : Nat), v = .tuple #[.agg #[.int .i64 r.1.Closed, .slice pA0 pn0 pc0], .int .i64 r.2] ∧ θ = [eS lGPosting 73 pA0 pn0 pc0 r.1.Postings] ∧ κ = []
theorem plains_ledger_Close {r : GLedger × Int} : ∀ v θ κ, Q_ledger_Close r v θ κ → Plains θ := by
  rintro _ _ _ ⟨_, _, _, rfl, rfl, rfl⟩
  exact ⟨plain_eS, trivial⟩
set_option maxHeartbeats 4000000 in
set_option maxRecDepth 100000 in
theorem W_ledger_Close (a0 : GLedger) (A0 : Option Addr) (n0 : Nat) (c0 : Nat) (r : GLedger × Int) (h : ledger_Close a0 = some r) : Spec Try.prog 30 [.agg #[.int .i64 a0.Closed, .slice A0 n0 c0]] [] [fV (lSlice lGPosting) (.slice A0 n0 c0) a0.Postings] (Q_ledger_Close r) := by
  unfold ledger_Close at h
  refine spec_of (σ := [(0, _)]) Try.func30 rfl rfl rfl rfl ?_
  intro C
  refine wc_know (fun _ h => h.lenF m0) (fun e => ?_)
  subst e
  refine wc_seq ?_
  refine wc_region ?_   -- region 0
  refine wl_act (act_box (cs := [_, _]) rfl rfl) rfl rfl rfl ?_
  rintro _ _ _ ⟨b0_0, rfl, rfl, rfl⟩
  refine wl_act (act_alloc (cs := [_, _]) zr25 rfl) rfl rfl rfl ?_
  rintro _ _ _ ⟨b0_1, rfl, rfl, rfl⟩
  refine wl_det rfl rfl (det_assign rfl) rfl ?_
  refine wl_nil ?_
  refine pn_then ?_
  refine wc_seq ?_
  refine wc_seq ?_
  refine wc_region ?_   -- region 1
  refine wl_det rfl rfl (det_loadN (cells := [_, _]) rfl (ms m0) (by rfl) ag25 sz25) rfl ?_
  obtain ⟨r1_1, hr1_1, h⟩ := bind_some h
  refine wl_act (act_callS (cap := []) (W_ledger_Validate a0 A0 a0.Postings.length c0 r1_1 hr1_1) rfl rfl rfl bd16 rfl ⟨m0, trivial⟩) rfl rfl rfl ?_
  rintro _ _ _ ⟨_, _, ⟨rfl, rfl, rfl⟩, rfl, rfl⟩
  dsimp only [List.nil_append, List.cons_append]
  refine wl_det rfl rfl (det_assign rfl) rfl ?_
  refine wl_nil ?_
  refine pn_then ?_
  refine wc_seq ?_
  refine wc_region ?_   -- region 2
  refine wl_det rfl rfl (det_move rfl) rfl ?_
  refine wl_det rfl rfl (det_neq rfl rfl) rfl ?_
  refine wl_nil ?_
  refine pn_then ?_
  refine wc_cond rfl (fun cd7 => ?_) (fun cd7 => ?_)
  · have h := ifT h cd7
    refine wc_seq ?_
    refine wc_region ?_   -- region 3
    refine wl_det rfl rfl (det_build (cs := [_, _]) pl25 zr25 rfl rfl (by rfl)) rfl ?_
    refine wl_det rfl rfl (det_move rfl) rfl ?_
    refine wl_act0 (act_store (cells := [_, _]) (cs' := [_, _]) rfl rfl rfl s0 (by rfl) (of_decide_eq_true rfl) sz25 ⟨rfl, rfl, trivial⟩) rfl rfl ?_
    rintro _ _ _ ⟨rfl, rfl⟩
    refine wl_det rfl rfl (det_assign rfl) rfl ?_
    refine wl_nil ?_
    refine pn_then ?_
    refine wc_ret ?_
    refine pr_then ?_
    refine pn_st (fun _ h => h.zeroS lGPosting 73 none) ?_
    replace h := Option.some.inj h
    subst h
    refine pn_ret (vs := [_, _]) rfl ⟨⟨_, _, [_, _], rfl, (ms m0), ag25, sz25, rfl⟩, rfl, trivial⟩ ⟨none, 0, 0, rfl, rfl, rfl⟩ (fun _ h => h.to ⟨_, r0, trivial⟩ trivial)
  · have h := ifF h cd7
    refine wc_skip ?_
    refine pn_then ?_
    refine wc_seq ?_
    refine wc_seq ?_
    refine wc_region ?_   -- region 4
    refine wl_det rfl rfl (det_field rfl fd25_0 rfl) rfl ?_
    refine wl_det rfl rfl (det_load rfl (ms m0) (by rfl) na3 us3) rfl ?_
    refine wl_det rfl rfl (det_eql rfl rfl) rfl ?_
    refine wl_nil ?_
    refine pn_then ?_
    refine wc_cond rfl (fun cd13 => ?_) (fun cd13 => ?_)
    · have h := ifT h cd13
      refine wc_seq ?_
      refine wc_region ?_   -- region 5
      refine wl_det rfl rfl (det_build (cs := [_, _]) pl25 zr25 rfl rfl (by rfl)) rfl ?_
      refine wl_act0 (act_store (cells := [_, _]) (cs' := [_, _]) rfl rfl rfl s0 (by rfl) (of_decide_eq_true rfl) sz25 ⟨rfl, rfl, trivial⟩) rfl rfl ?_
      rintro _ _ _ ⟨rfl, rfl⟩
      refine wl_det rfl rfl (det_assign rfl) rfl ?_
      refine wl_nil ?_
      refine pn_then ?_
      refine wc_ret ?_
      refine pr_then ?_
      refine pn_st (fun _ h => h.zeroS lGPosting 73 none) ?_
      replace h := Option.some.inj h
      subst h
      refine pn_ret (vs := [_, _]) rfl ⟨⟨_, _, [_, _], rfl, (ms m0), ag25, sz25, rfl⟩, rfl, trivial⟩ ⟨none, 0, 0, rfl, rfl, rfl⟩ (fun _ h => h.to ⟨_, r0, trivial⟩ trivial)
    · have h := ifF h cd13
      refine wc_skip ?_
      refine pn_then ?_
      refine wc_seq ?_
      refine wc_region ?_   -- region 6
      refine wl_det rfl rfl (det_loadN (cells := [_, _]) rfl (ms m0) (by rfl) ag25 sz25) rfl ?_
      obtain ⟨r6_1, hr6_1, h⟩ := bind_some h
      refine wl_act (act_callS (cap := []) (W_ledger_clone a0 A0 a0.Postings.length c0 r6_1 hr6_1) rfl rfl rfl bd57 rfl ⟨m0, trivial⟩) rfl rfl rfl ?_
      rintro _ _ _ ⟨_, _, ⟨y6_1A0, y6_1n0, y6_1c0, rfl, rfl, rfl⟩, rfl, rfl⟩
      dsimp only [List.nil_append, List.cons_append]
      refine wl_know (fun _ h => h.lenO m0) (fun e => ?_)
      subst e
      refine wl_act (act_alloc (cs := [_, _]) zr25 rfl) rfl rfl rfl ?_
      rintro _ _ _ ⟨b6_2, rfl, rfl, rfl⟩
      refine wl_act0 (act_store (cells := [_, _]) (cs' := [_, _]) rfl rfl rfl s0 (by rfl) (of_decide_eq_true rfl) sz25 ⟨rfl, rfl, trivial⟩) rfl rfl ?_
      rintro _ _ _ ⟨rfl, rfl⟩
      refine wl_nil ?_
      refine pn_then ?_
      refine wc_seq ?_
      refine wc_region ?_   -- region 7
      refine wl_det rfl rfl (det_field rfl fd25_0 rfl) rfl ?_
      refine wl_det rfl rfl (det_load rfl m0 (by rfl) na3 us3) rfl ?_
      refine wl_det rfl rfl (det_add rfl rfl) rfl ?_
      refine wl_det rfl rfl (det_field rfl fd25_0 rfl) rfl ?_
      refine wl_act0 (act_store (cells := [_]) (cs' := [_, _]) rfl rfl rfl s0 (by rfl) (of_decide_eq_true rfl) sz3 ⟨rfl, trivial⟩) rfl rfl ?_
      rintro _ _ _ ⟨rfl, rfl⟩
      refine wl_nil ?_
      refine pn_then ?_
      refine wc_seq ?_
      refine wc_region ?_   -- region 8
      refine wl_det rfl rfl (det_loadN (cells := [_, _]) rfl m0 (by rfl) ag25 sz25) rfl ?_
      refine wl_act0 (act_store (cells := [_, _]) (cs' := [_, _]) rfl rfl rfl (ss (ss s0)) (by rfl) (of_decide_eq_true rfl) sz25 ⟨rfl, rfl, trivial⟩) rfl rfl ?_
      rintro _ _ _ ⟨rfl, rfl⟩
      refine wl_det rfl rfl (det_assign rfl) rfl ?_
      refine wl_nil ?_
      refine pn_then ?_
      refine wc_ret ?_
      replace h := Option.some.inj h
      subst h
      refine pn_ret (vs := [_, _]) rfl ⟨⟨_, _, [_, _], rfl, (ms (ms m0)), ag25, sz25, rfl⟩, rfl, trivial⟩ ⟨y6_1A0, r6_1.Postings.length, y6_1c0, rfl, rfl, rfl⟩ (fun _ h => h.to ⟨_, (rs r0), trivial⟩ trivial)
def Q_ledger_restated (r : Bool) : Value → List Ent → List Fact → Prop := fun v θ κ => v = .bool r ∧ θ = [] ∧ κ = []
theorem plains_ledger_restated {r : Bool} : ∀ v θ κ, Q_ledger_restated r v θ κ → Plains θ := by
  rintro _ _ _ ⟨rfl, rfl, rfl⟩
  exact trivial
set_option maxHeartbeats 4000000 in
set_option maxRecDepth 100000 in
theorem W_ledger_restated (a0 : GEntry) (r : Bool) (h : ledger_restated a0 = some r) : Spec Try.prog 58 [.agg #[.int .i64 a0.Kind, .int .i64 a0.Treaty, .int .i64 a0.Party, .int .i64 a0.Loss, .int .i64 a0.Amount]] [] [] (Q_ledger_restated r) := by
  unfold ledger_restated at h
  refine spec_of (σ := [(0, _)]) Try.func58 rfl rfl rfl rfl ?_
  intro C
  refine wc_seq ?_
  refine wc_region ?_   -- region 0
  refine wl_act (act_box (cs := [_, _, _, _, _]) rfl rfl) rfl rfl rfl ?_
  rintro _ _ _ ⟨b0_0, rfl, rfl, rfl⟩
  refine wl_det rfl rfl (det_assign rfl) rfl ?_
  refine wl_nil ?_
  refine pn_then ?_
  refine wc_seq ?_
  refine wc_region ?_   -- region 1
  refine wl_det rfl rfl (det_field rfl fd41_0 rfl) rfl ?_
  refine wl_det rfl rfl (det_load rfl m0 (by rfl) na3 us3) rfl ?_
  refine wl_det rfl rfl (det_eql rfl rfl) rfl ?_
  refine wl_det rfl rfl (det_move rfl) rfl ?_
  refine wl_way (decide (a0.Kind = 1)) ((decide (a0.Kind = 1)) || (decide (a0.Kind = 2))) 4 10 (fun hg => ?_) (fun hg => ?_) ?_
  · have hg1_7 := hg
    refine wl_off rfl rfl rfl rfl rfl hg1_7 rfl ?_
    refine wl_off rfl rfl rfl rfl rfl hg1_7 rfl ?_
    refine wl_off rfl rfl rfl rfl rfl hg1_7 rfl ?_
    refine wl_det rfl rfl (det_or_on (r := (decide (a0.Kind = 2))) rfl rfl rfl hg1_7) rfl ?_
    exact wl_nil (pn_qnE (ext_cons rfl (ext_skip rfl (ext_skip rfl (ext_skip rfl (ext_skip rfl ext_refl))))) (fun _ h => h))
  · have hg1_7a := hg
    refine wl_on rfl rfl rfl rfl hg1_7a ?_
    refine wl_det rfl rfl (det_field rfl fd41_0 rfl) rfl ?_
    refine wl_on rfl rfl rfl rfl hg1_7a ?_
    refine wl_det rfl rfl (det_load rfl m0 (by rfl) na3 us3) rfl ?_
    refine wl_on rfl rfl rfl rfl hg1_7a ?_
    refine wl_det rfl rfl (det_eql rfl rfl) rfl ?_
    refine wl_det rfl rfl (det_or_off rfl rfl rfl hg1_7a) rfl ?_
    exact wl_nil (pn_qnE (ext_cons rfl (ext_skip rfl (ext_skip rfl (ext_skip rfl (ext_skip rfl ext_refl))))) (fun _ h => h))
  refine wl_det rfl rfl (det_move rfl) rfl ?_
  refine wl_way ((decide (a0.Kind = 1)) || (decide (a0.Kind = 2))) (((decide (a0.Kind = 1)) || (decide (a0.Kind = 2))) || (decide (a0.Kind = 3))) 4 15 (fun hg => ?_) (fun hg => ?_) ?_
  · have hg1_12 := hg
    refine wl_off rfl rfl rfl rfl rfl hg1_12 rfl ?_
    refine wl_off rfl rfl rfl rfl rfl hg1_12 rfl ?_
    refine wl_off rfl rfl rfl rfl rfl hg1_12 rfl ?_
    refine wl_det rfl rfl (det_or_on (r := (decide (a0.Kind = 3))) rfl rfl rfl hg1_12) rfl ?_
    exact wl_nil (pn_qnE (ext_cons rfl (ext_skip rfl (ext_skip rfl (ext_skip rfl (ext_skip rfl ext_refl))))) (fun _ h => h))
  · have hg1_12a := hg
    refine wl_on rfl rfl rfl rfl hg1_12a ?_
    refine wl_det rfl rfl (det_field rfl fd41_0 rfl) rfl ?_
    refine wl_on rfl rfl rfl rfl hg1_12a ?_
    refine wl_det rfl rfl (det_load rfl m0 (by rfl) na3 us3) rfl ?_
    refine wl_on rfl rfl rfl rfl hg1_12a ?_
    refine wl_det rfl rfl (det_eql rfl rfl) rfl ?_
    refine wl_det rfl rfl (det_or_off rfl rfl rfl hg1_12a) rfl ?_
    exact wl_nil (pn_qnE (ext_cons rfl (ext_skip rfl (ext_skip rfl (ext_skip rfl (ext_skip rfl ext_refl))))) (fun _ h => h))
  refine wl_det rfl rfl (det_assign rfl) rfl ?_
  refine wl_nil ?_
  refine pn_then ?_
  refine wc_ret ?_
  replace h := Option.some.inj h
  subst h
  refine pn_ret (vs := [_]) rfl ⟨rfl, trivial⟩ ⟨rfl, rfl, rfl⟩ (fun _ h => h.to trivial trivial)
def Q_ledger_Totals (r : (List GEntry) × Int) : Value → List Ent → List Fact → Prop := fun v θ κ => ∃ (pA0 : Option Addr), ∃ (pn0 : Nat), ∃ (pc0 : Nat), v = .tuple #[.slice pA0 pn0 pc0, .int .i64 r.2] ∧ θ = [eS lGEntry 41 pA0 pn0 pc0 r.1] ∧ κ = []
theorem plains_ledger_Totals {r : (List GEntry) × Int} : ∀ v θ κ, Q_ledger_Totals r v θ κ → Plains θ := by
  rintro _ _ _ ⟨_, _, _, rfl, rfl, rfl⟩
  exact ⟨plain_eS, trivial⟩
set_option maxHeartbeats 4000000 in
set_option maxRecDepth 100000 in
theorem W_ledger_Totals (a0 : GLedger) (a1 : Int) (A0 : Option Addr) (n0 : Nat) (c0 : Nat) (r : (List GEntry) × Int) (h : ledger_Totals a0 a1 = some r) : Spec Try.prog 18 [.agg #[.int .i64 a0.Closed, .slice A0 n0 c0], .int .i64 a1] [] [fV (lSlice lGPosting) (.slice A0 n0 c0) a0.Postings] (Q_ledger_Totals r) := by
  unfold ledger_Totals at h
  refine spec_of (σ := [(0, _), (1, _)]) Try.func18 rfl rfl rfl rfl ?_
  intro C
  refine wc_know (fun _ h => h.lenF m0) (fun e => ?_)
  subst e
  refine wc_seq ?_
  refine wc_region ?_   -- region 0
  refine wl_act (act_box (cs := [_, _]) rfl rfl) rfl rfl rfl ?_
  rintro _ _ _ ⟨b0_0, rfl, rfl, rfl⟩
  refine wl_det rfl rfl (det_assign rfl) rfl ?_
  refine wl_det rfl rfl (det_assign rfl) rfl ?_
  refine wl_nil ?_
  refine pn_then ?_
  refine wc_seq ?_
  refine wc_seq ?_
  refine wc_region ?_   -- region 1
  refine wl_det rfl rfl (det_loadN (cells := [_, _]) rfl m0 (by rfl) ag25 sz25) rfl ?_
  obtain ⟨r1_1, hr1_1, h⟩ := bind_some h
  refine wl_act (act_callS (cap := []) (W_ledger_Validate a0 A0 a0.Postings.length c0 r1_1 hr1_1) rfl rfl rfl bd16 rfl ⟨m0, trivial⟩) rfl rfl rfl ?_
  rintro _ _ _ ⟨_, _, ⟨rfl, rfl, rfl⟩, rfl, rfl⟩
  dsimp only [List.nil_append, List.cons_append]
  refine wl_det rfl rfl (det_assign rfl) rfl ?_
  refine wl_nil ?_
  refine pn_then ?_
  refine wc_seq ?_
  refine wc_region ?_   -- region 2
  refine wl_det rfl rfl (det_move rfl) rfl ?_
  refine wl_det rfl rfl (det_neq rfl rfl) rfl ?_
  refine wl_nil ?_
  refine pn_then ?_
  refine wc_cond rfl (fun cd7 => ?_) (fun cd7 => ?_)
  · have h := ifT h cd7
    refine wc_seq ?_
    refine wc_region ?_   -- region 3
    refine wl_det rfl rfl (det_move rfl) rfl ?_
    refine wl_det rfl rfl (det_assign rfl) rfl ?_
    refine wl_det rfl rfl (det_assign rfl) rfl ?_
    refine wl_nil ?_
    refine pn_then ?_
    refine wc_ret ?_
    refine pr_then ?_
    refine pn_st (fun _ h => h.zeroS lGEntry 41 none) ?_
    replace h := Option.some.inj h
    subst h
    refine pn_ret (vs := [_, _]) rfl ⟨rfl, rfl, trivial⟩ ⟨none, 0, 0, rfl, rfl, rfl⟩ (fun _ h => h.to ⟨_, r0, trivial⟩ trivial)
  · have h := ifF h cd7
    refine wc_skip ?_
    refine pn_then ?_
    refine wc_seq ?_
    refine wc_seq ?_
    refine wc_region ?_   -- region 4
    refine wl_det rfl rfl (det_move rfl) rfl ?_
    refine wl_det rfl rfl (det_lss rfl rfl) rfl ?_
    refine wl_det rfl rfl (det_move rfl) rfl ?_
    refine wl_way (decide (a1 < 0)) ((decide (a1 < 0)) || (decide ((w64 (a0.Closed + 1)) < a1))) 6 23 (fun hg => ?_) (fun hg => ?_) ?_
    · have hg4_8 := hg
      refine wl_off rfl rfl rfl rfl rfl hg4_8 rfl ?_
      refine wl_off rfl rfl rfl rfl rfl hg4_8 rfl ?_
      refine wl_off rfl rfl rfl rfl rfl hg4_8 rfl ?_
      refine wl_off rfl rfl rfl rfl rfl hg4_8 rfl ?_
      refine wl_off rfl rfl rfl rfl rfl hg4_8 rfl ?_
      refine wl_det rfl rfl (det_or_on (r := (decide ((w64 (a0.Closed + 1)) < a1))) rfl rfl rfl hg4_8) rfl ?_
      exact wl_nil (pn_qnE (ext_cons rfl (ext_skip rfl (ext_skip rfl (ext_skip rfl (ext_skip rfl (ext_skip rfl (ext_skip rfl ext_refl))))))) (fun _ h => h))
    · have hg4_8a := hg
      refine wl_on rfl rfl rfl rfl hg4_8a ?_
      refine wl_det rfl rfl (det_move rfl) rfl ?_
      refine wl_on rfl rfl rfl rfl hg4_8a ?_
      refine wl_det rfl rfl (det_field rfl fd25_0 rfl) rfl ?_
      refine wl_on rfl rfl rfl rfl hg4_8a ?_
      refine wl_det rfl rfl (det_load rfl m0 (by rfl) na3 us3) rfl ?_
      refine wl_on rfl rfl rfl rfl hg4_8a ?_
      refine wl_det rfl rfl (det_add rfl rfl) rfl ?_
      refine wl_on rfl rfl rfl rfl hg4_8a ?_
      refine wl_det rfl rfl (det_gtr rfl rfl) rfl ?_
      refine wl_det rfl rfl (det_or_off rfl rfl rfl hg4_8a) rfl ?_
      exact wl_nil (pn_qnE (ext_cons rfl (ext_skip rfl (ext_skip rfl (ext_skip rfl (ext_skip rfl (ext_skip rfl (ext_skip rfl ext_refl))))))) (fun _ h => h))
    refine wl_nil ?_
    refine pn_then ?_
    refine wc_cond rfl (fun cd13 => ?_) (fun cd13 => ?_)
    · have h := ifT h cd13
      refine wc_seq ?_
      refine wc_region ?_   -- region 5
      refine wl_det rfl rfl (det_assign rfl) rfl ?_
      refine wl_det rfl rfl (det_assign rfl) rfl ?_
      refine wl_nil ?_
      refine pn_then ?_
      refine wc_ret ?_
      refine pr_then ?_
      refine pn_st (fun _ h => h.zeroS lGEntry 41 none) ?_
      replace h := Option.some.inj h
      subst h
      refine pn_ret (vs := [_, _]) rfl ⟨rfl, rfl, trivial⟩ ⟨none, 0, 0, rfl, rfl, rfl⟩ (fun _ h => h.to ⟨_, r0, trivial⟩ trivial)
    · have h := ifF h cd13
      refine wc_skip ?_
      refine pn_then ?_
      refine wc_seq ?_
      refine wc_region ?_   -- region 6
      refine wl_det rfl rfl (det_assign rfl) rfl ?_
      refine wl_nil ?_
      refine pn_then ?_
      obtain ⟨q18, h, ho18⟩ := bind_some h
      refine wc_meetG (G := (List GEntry) × Option Addr × Nat × Nat × Unit) (fun (s18, _, _, _, _) => s18 = q18) (fun (_, A18_0, n18_0, c18_0, _) => [(7, .slice A18_0 n18_0 c18_0)]) (fun (s18, A18_0, n18_0, c18_0, _) => [eS lGEntry 41 A18_0 n18_0 c18_0 s18]) (fun (_, _, _, _, _) => []) ?_ ?_
      · refine wc_seq ?_
        refine wc_region ?_   -- region 7
        refine wl_det rfl rfl (det_field rfl fd25_1 rfl) rfl ?_
        refine wl_det rfl rfl (det_load rfl m0 (by rfl) na23 us23) rfl ?_
        refine wl_det rfl rfl (det_len rfl un23) rfl ?_
        refine wl_det rfl rfl (det_move rfl) rfl ?_
        refine wl_nil ?_
        refine pn_then ?_
        refine wc_block ?_
        refine wc_st (fun _ h => h.zeroS lGEntry 41 none) ?_
        obtain ⟨k22, hk22⟩ := loopV_some.1 h
        refine wc_loop (G := Nat × ((List GEntry) × Int) × Option Addr × Nat × Nat × Unit) (fun g => IterN (ledger_Totals_l22 a0 a1) g.1 g.2.1 q18) (fun g => g.1) (fun (_, s22, A22_0, n22_0, c22_0, _) => [(1, .int .i64 a1), (7, .slice A22_0 n22_0 c22_0), (25, .slice A0 a0.Postings.length c0), (26, .int .i64 (a0.Postings.length : Int)), (27, .int .i64 s22.2)]) (fun (_, s22, A22_0, n22_0, c22_0, _) => [eS lGEntry 41 A22_0 n22_0 c22_0 s22.1]) (fun (_, _, _, _, _, _) => [fV (lSlice lGPosting) (.slice A0 a0.Postings.length c0) a0.Postings]) (k22, ([], 0), none, 0, 0, ()) hk22 ⟨rfl, rfl, rfl, rfl, rfl, trivial⟩ (fun _ h => h.to ⟨_, r0, trivial⟩ ⟨m0, trivial⟩) ?_
        rintro ⟨k22, s22, A22_0, n22_0, c22_0, _⟩ hI
        obtain ⟨k22, rfl, q22, h, g22⟩ := IterN.pos hI
        dsimp only at h ⊢
        unfold ledger_Totals_l22 at h
        refine wc_know (fun _ h => h.lenO m0) (fun e => ?_)
        subst e
        refine wc_seq ?_
        refine wc_region ?_   -- region 8
        refine wl_det rfl rfl (det_lss rfl rfl) rfl ?_
        refine wl_nil ?_
        refine pn_then ?_
        refine wc_seq ?_
        refine wc_cond rfl (fun cd26 => ?_) (fun cd26 => ?_)
        · have h := ifT h cd26
          refine wc_skip ?_
          refine pn_then ?_
          obtain ⟨q28, h, ho28⟩ := bind_some h
          refine wc_meetG (G := (List GEntry) × Option Addr × Nat × Nat × Unit) (fun (s28, _, _, _, _) => s28 = q28) (fun (_, A28_0, n28_0, c28_0, _) => [(1, .int .i64 a1), (7, .slice A28_0 n28_0 c28_0), (25, .slice A0 a0.Postings.length c0), (26, .int .i64 (a0.Postings.length : Int)), (27, .int .i64 s22.2)]) (fun (s28, A28_0, n28_0, c28_0, _) => [eS lGEntry 41 A28_0 n28_0 c28_0 s28]) (fun (_, _, _, _, _) => [fV (lSlice lGPosting) (.slice A0 a0.Postings.length c0) a0.Postings]) ?_ ?_
          · refine wc_block ?_
            refine wc_seq ?_
            refine wc_region ?_   -- region 9
            obtain ⟨k9_0, h⟩ := chk_some h
            refine wl_st (fun _ h => h.openF m0 k9_0) ?_
            refine wl_det rfl rfl (det_indexP rfl rfl (ms m0) k9_0 m0 un23 sz73) rfl ?_
            refine wl_det rfl rfl (det_loadP (off := 0) rfl m0 (by rfl) (by rfl) (loaded_n (cells := [_, _, _, _, _, _, _]) ag73 sz73)) rfl ?_
            refine wl_act (act_alloc (cs := [_, _, _, _, _, _, _]) zr73 rfl) rfl rfl rfl ?_
            rintro _ _ _ ⟨b9_2, rfl, rfl, rfl⟩
            refine wl_act0 (act_store (cells := [_, _, _, _, _, _, _]) (cs' := [_, _, _, _, _, _, _]) rfl rfl rfl s0 (by rfl) (of_decide_eq_true rfl) sz73 ⟨rfl, rfl, rfl, rfl, rfl, rfl, rfl, trivial⟩) rfl rfl ?_
            rintro _ _ _ ⟨rfl, rfl⟩
            refine wl_nil ?_
            refine pn_then ?_
            refine wc_seq ?_
            refine wc_region ?_   -- region 10
            refine wl_det rfl rfl (det_field rfl fd73_1 rfl) rfl ?_
            refine wl_det rfl rfl (det_load rfl m0 (by rfl) na3 us3) rfl ?_
            refine wl_det rfl rfl (det_move rfl) rfl ?_
            refine wl_det rfl rfl (det_lss rfl rfl) rfl ?_
            refine wl_nil ?_
            refine pn_then ?_
            refine wc_cond rfl (fun cd34 => ?_) (fun cd34 => ?_)
            · have h := ifT h cd34
              refine wc_region ?_   -- region 11
              refine wl_det rfl rfl (det_move rfl) rfl ?_
              refine wl_det rfl rfl (det_field rfl fd73_2 rfl) rfl ?_
              refine wl_det rfl rfl (det_loadN (cells := [_, _, _, _, _]) rfl m0 (by rfl) ag41 sz41) rfl ?_
              refine wl_act (act_litS lGEntry (vs := [_]) (cs := [_, _, _, _, _]) [(ix a0.Postings s22.2).Entry] un37 in41 rfl rfl rfl rfl rfl ⟨rfl, trivial⟩ (by rfl) rfl (litR_flat rfl)) rfl rfl rfl ?_
              rintro _ _ _ ⟨A11_3, rfl, rfl, rfl⟩
              obtain ⟨k11_4, h⟩ := chk_some h
              refine wl_act (act_appendS (L := lGEntry) rfl rfl (ss (ss s0)) (src_O m0) un37 in41 rfl rfl rfl k11_4) rfl rfl rfl ?_
              rintro _ _ _ ⟨A11_4, c11_4, rfl, rfl, rfl⟩
              refine wl_det rfl rfl (det_assign rfl) rfl ?_
              refine wl_nil ?_
              refine pn_block ?_
              replace h := Option.some.inj h
              subst h
              exact pn_meetG ((s22.1 ++ [(ix a0.Postings s22.2).Entry]), A11_4, (s22.1 ++ [(ix a0.Postings s22.2).Entry]).length, c11_4, ()) rfl ⟨rfl, rfl, rfl, rfl, rfl, trivial⟩ (fun _ h => h.to ⟨_, (rs (rs r0)), trivial⟩ ⟨(ms m0), trivial⟩)
            · have h := ifF h cd34
              refine wc_skip ?_
              refine pn_block ?_
              replace h := Option.some.inj h
              subst h
              exact pn_meetG (s22.1, A22_0, s22.1.length, c22_0, ()) rfl ⟨rfl, rfl, rfl, rfl, rfl, trivial⟩ (fun _ h => h.to ⟨_, (rs r0), trivial⟩ ⟨(ms m0), trivial⟩)
          rintro ⟨s28, A28_0, n28_0, c28_0, _⟩ e28
          dsimp only at e28 ⊢
          subst e28
          have h := ho28
          refine wc_know (fun _ h => h.lenO m0) (fun e => ?_)
          subst e
          refine wc_region ?_   -- region 12
          refine wl_det rfl rfl (det_add rfl rfl) rfl ?_
          refine wl_det rfl rfl (det_move rfl) rfl ?_
          refine wl_nil ?_
          replace h := Option.some.inj h
          subst h
          exact pn_some (k22, (s28, (w64 (s22.2 + 1))), A28_0, s28.length, c28_0, ()) ⟨nextL g22, Nat.lt_succ_self _⟩ ⟨rfl, rfl, rfl, rfl, rfl, trivial⟩ (fun _ h => h.to ⟨_, r0, trivial⟩ ⟨m0, trivial⟩)
        · have h := ifF h cd26
          refine wc_exit ?_
          refine px_then ?_
          refine px_then ?_
          refine px_block ?_
          replace h := Option.some.inj h
          subst h
          replace g22 := nextR g22
          subst g22
          exact pn_meetG (s22.1, A22_0, s22.1.length, c22_0, ()) rfl ⟨rfl, trivial⟩ (fun _ h => h.to ⟨_, r0, trivial⟩ trivial)
      rintro ⟨s18, A18_0, n18_0, c18_0, _⟩ e18
      dsimp only at e18 ⊢
      subst e18
      have h := ho18
      refine wc_know (fun _ h => h.lenO m0) (fun e => ?_)
      subst e
      refine wc_seq ?_
      refine wc_region ?_   -- region 13
      refine wl_det rfl rfl (det_move rfl) rfl ?_
      obtain ⟨r13_1, hr13_1, h⟩ := bind_some h
      refine wl_act (act_callL (cap := []) [eS lGEntry 41 A18_0 s18.length c18_0 s18] (W_ledger_Collect s18 A18_0 s18.length c18_0 r13_1 hr13_1) plains_ledger_Collect rfl rfl rfl bd26 rfl ⟨m0, trivial⟩ ⟨.inr ⟨_, m0, lent_eS⟩, trivial⟩) rfl rfl rfl ?_
      rintro _ _ _ ⟨_, _, ⟨y13_1A0, y13_1n0, y13_1c0, rfl, rfl, rfl⟩, rfl, rfl⟩
      dsimp only [List.nil_append, List.cons_append]
      refine wl_know (fun _ h => h.lenO m0) (fun e => ?_)
      subst e
      refine wl_det rfl rfl (det_extract rfl rfl) rfl ?_
      refine wl_det rfl rfl (det_extract rfl rfl) rfl ?_
      refine wl_det rfl rfl (det_assign rfl) rfl ?_
      refine wl_det rfl rfl (det_assign rfl) rfl ?_
      refine wl_nil ?_
      refine pn_then ?_
      refine wc_ret ?_
      replace h := Option.some.inj h
      subst h
      refine pn_ret (vs := [_, _]) rfl ⟨rfl, rfl, trivial⟩ ⟨y13_1A0, r13_1.1.length, y13_1c0, rfl, rfl, rfl⟩ (fun _ h => h.to ⟨_, r0, trivial⟩ trivial)
def Q_slices_Clone_s_api_Posting_api_Posting (r : (List GPosting)) : Value → List Ent → List Fact → Prop := fun v θ κ => ∃ (pA0 : Option Addr), ∃ (pn0 : Nat), ∃ (pc0 : Nat), v = .slice pA0 pn0 pc0 ∧ θ = [eS lGPosting 73 pA0 pn0 pc0 r] ∧ κ = []
theorem plains_slices_Clone_s_api_Posting_api_Posting {r : (List GPosting)} : ∀ v θ κ, Q_slices_Clone_s_api_Posting_api_Posting r v θ κ → Plains θ := by
  rintro _ _ _ ⟨_, _, _, rfl, rfl, rfl⟩
  exact ⟨plain_eS, trivial⟩
set_option maxHeartbeats 4000000 in
set_option maxRecDepth 100000 in
theorem W_slices_Clone_s_api_Posting_api_Posting (a0 : (List GPosting)) (A0 : Option Addr) (n0 : Nat) (c0 : Nat) (r : (List GPosting)) (h : slices_Clone_s_api_Posting_api_Posting a0 = some r) : Spec Try.prog 59 [.slice A0 n0 c0] [] [fV (lSlice lGPosting) (.slice A0 n0 c0) a0] (Q_slices_Clone_s_api_Posting_api_Posting r) := by
  unfold slices_Clone_s_api_Posting_api_Posting at h
  refine spec_of (σ := [(0, _)]) Try.func59 rfl rfl rfl rfl ?_
  intro C
  refine wc_know (fun _ h => h.lenF m0) (fun e => ?_)
  subst e
  refine wc_seq ?_
  refine wc_region ?_   -- region 0
  refine wl_det rfl rfl (det_assign rfl) rfl ?_
  refine wl_nil ?_
  refine pn_then ?_
  refine wc_seq ?_
  refine wc_seq ?_
  refine wc_region ?_   -- region 1
  refine wl_det rfl rfl (det_move rfl) rfl ?_
  refine wl_det rfl rfl (det_eqlNil rfl rfl un23) rfl ?_
  refine wl_nil ?_
  refine pn_then ?_
  refine wc_cond rfl (fun cd5 => ?_) (fun cd5 => ?_)
  · refine wc_know (fun _ h => h.nilF m0 cd5) (fun e => ?_)
    subst e
    have h := clone_nil h
    refine wc_seq ?_
    refine wc_region ?_   -- region 2
    refine wl_det rfl rfl (det_assign rfl) rfl ?_
    refine wl_nil ?_
    refine pn_then ?_
    refine wc_ret ?_
    refine pr_then ?_
    refine pn_st (fun _ h => h.zeroS lGPosting 73 none) ?_
    replace h := Option.some.inj h
    subst h
    refine pn_ret (vs := [_]) rfl ⟨rfl, trivial⟩ ⟨none, 0, 0, rfl, rfl, rfl⟩ (fun _ h => h.to ⟨_, r0, trivial⟩ trivial)
  · refine wc_skip ?_
    refine pn_then ?_
    refine wc_seq ?_
    refine wc_region ?_   -- region 3
    refine wl_act (act_lit0S lGPosting un23 (by kernel_rfl)) rfl rfl rfl ?_
    rintro _ _ _ ⟨A3_0, rfl, rfl, rfl⟩
    refine wl_det rfl rfl (det_move rfl) rfl ?_
    obtain ⟨k3_2, h⟩ := chk_some h
    refine wl_act (act_appendS0 (L := lGPosting) rfl rfl s0 (src_F m0) un23 in73 rfl rfl rfl k3_2) rfl rfl rfl ?_
    rintro _ _ _ ⟨A3_2, c3_2, rfl, rfl, rfl⟩
    refine wl_det rfl rfl (det_assign rfl) rfl ?_
    refine wl_nil ?_
    refine pn_then ?_
    refine wc_ret ?_
    replace h := Option.some.inj h
    subst h
    refine pn_ret (vs := [_]) rfl ⟨rfl, trivial⟩ ⟨A3_2, a0.length, c3_2, rfl, rfl, rfl⟩ (fun _ h => h.to ⟨_, r0, trivial⟩ trivial)
def Q_ledger_Restate (r : GLedger × (List GPosting) × Int) : Value → List Ent → List Fact → Prop := fun v θ κ => ∃ (pA0 : Option Addr), ∃ (pn0 : Nat), ∃ (pc0 : Nat), ∃ (pA1 : Option Addr), ∃ (pn1 : Nat), ∃ (pc1 : Nat), v = .tuple #[.agg #[.int .i64 r.1.Closed, .slice pA0 pn0 pc0], .slice pA1 pn1 pc1, .int .i64 r.2.2] ∧ θ = [eS lGPosting 73 pA1 pn1 pc1 r.2.1] ∧ κ = [fV (lSlice lGPosting) (.slice pA0 pn0 pc0) r.1.Postings]
set_option maxHeartbeats 4000000 in
set_option maxRecDepth 100000 in
theorem W_ledger_Restate (a0 : GLedger) (a1 : (List GEntry)) (A0 : Option Addr) (n0 : Nat) (c0 : Nat) (A3 : Option Addr) (n3 : Nat) (c3 : Nat) (r : GLedger × (List GPosting) × Int) (h : ledger_Restate a0 a1 = some r) : Spec Try.prog 35 [.agg #[.int .i64 a0.Closed, .slice A0 n0 c0], .slice A3 n3 c3] [] [fV (lSlice lGPosting) (.slice A0 n0 c0) a0.Postings, fV (lSlice lGEntry) (.slice A3 n3 c3) a1] (Q_ledger_Restate r) := by
  unfold ledger_Restate at h
  refine spec_of (σ := [(0, _), (1, _)]) Try.func35 rfl rfl rfl rfl ?_
  intro C
  refine wc_know (fun _ h => h.lenF m0) (fun e => ?_)
  subst e
  refine wc_know (fun _ h => h.lenF (ms m0)) (fun e => ?_)
  subst e
  refine wc_seq ?_
  refine wc_region ?_   -- region 0
  refine wl_act (act_box (cs := [_, _]) rfl rfl) rfl rfl rfl ?_
  rintro _ _ _ ⟨b0_0, rfl, rfl, rfl⟩
  refine wl_act (act_alloc (cs := [_, _]) zr25 rfl) rfl rfl rfl ?_
  rintro _ _ _ ⟨b0_1, rfl, rfl, rfl⟩
  refine wl_det rfl rfl (det_assign rfl) rfl ?_
  refine wl_det rfl rfl (det_assign rfl) rfl ?_
  refine wl_nil ?_
  refine pn_then ?_
  refine wc_seq ?_
  refine wc_seq ?_
  refine wc_region ?_   -- region 1
  refine wl_det rfl rfl (det_loadN (cells := [_, _]) rfl (ms m0) (by rfl) ag25 sz25) rfl ?_
  obtain ⟨r1_1, hr1_1, h⟩ := bind_some h
  refine wl_act (act_callS (cap := []) (W_ledger_Validate a0 A0 a0.Postings.length c0 r1_1 hr1_1) rfl rfl rfl bd16 rfl ⟨m0, trivial⟩) rfl rfl rfl ?_
  rintro _ _ _ ⟨_, _, ⟨rfl, rfl, rfl⟩, rfl, rfl⟩
  dsimp only [List.nil_append, List.cons_append]
  refine wl_det rfl rfl (det_assign rfl) rfl ?_
  refine wl_nil ?_
  refine pn_then ?_
  refine wc_seq ?_
  refine wc_region ?_   -- region 2
  refine wl_det rfl rfl (det_move rfl) rfl ?_
  refine wl_det rfl rfl (det_neq rfl rfl) rfl ?_
  refine wl_nil ?_
  refine pn_then ?_
  refine wc_cond rfl (fun cd7 => ?_) (fun cd7 => ?_)
  · have h := ifT h cd7
    refine wc_seq ?_
    refine wc_region ?_   -- region 3
    refine wl_det rfl rfl (det_build (cs := [_, _]) pl25 zr25 rfl rfl (by rfl)) rfl ?_
    refine wl_det rfl rfl (det_move rfl) rfl ?_
    refine wl_act0 (act_store (cells := [_, _]) (cs' := [_, _]) rfl rfl rfl s0 (by rfl) (of_decide_eq_true rfl) sz25 ⟨rfl, rfl, trivial⟩) rfl rfl ?_
    rintro _ _ _ ⟨rfl, rfl⟩
    refine wl_det rfl rfl (det_assign rfl) rfl ?_
    refine wl_det rfl rfl (det_assign rfl) rfl ?_
    refine wl_nil ?_
    refine pn_then ?_
    refine wc_ret ?_
    refine pr_then ?_
    refine pn_st (fun _ h => h.zeroF lGPosting none 0) ?_
    refine pn_st (fun _ h => h.zeroS lGPosting 73 none) ?_
    replace h := Option.some.inj h
    subst h
    refine pn_ret (vs := [_, _, _]) rfl ⟨⟨_, _, [_, _], rfl, (ms m0), ag25, sz25, rfl⟩, rfl, rfl, trivial⟩ ⟨none, 0, 0, none, 0, 0, rfl, rfl, rfl⟩ (fun _ h => h.to ⟨_, r0, trivial⟩ ⟨m0, trivial⟩)
  · have h := ifF h cd7
    refine wc_skip ?_
    refine pn_then ?_
    refine wc_seq ?_
    refine wc_region ?_   -- region 4
    refine wl_det rfl rfl (det_move rfl) rfl ?_
    obtain ⟨r4_1, hr4_1, h⟩ := bind_some h
    refine wl_act (act_callS (cap := []) (W_ledger_Collect a1 A3 a1.length c3 r4_1 hr4_1) rfl rfl rfl bd26 rfl ⟨(ms m0), trivial⟩) rfl rfl rfl ?_
    rintro _ _ _ ⟨_, _, ⟨y4_1A0, y4_1n0, y4_1c0, rfl, rfl, rfl⟩, rfl, rfl⟩
    dsimp only [List.nil_append, List.cons_append]
    refine wl_know (fun _ h => h.lenO m0) (fun e => ?_)
    subst e
    refine wl_det rfl rfl (det_move rfl) rfl ?_
    refine wl_det rfl rfl (det_extract rfl rfl) rfl ?_
    refine wl_det rfl rfl (det_extract rfl rfl) rfl ?_
    refine wl_det rfl rfl (det_assign rfl) rfl ?_
    refine wl_det rfl rfl (det_assign rfl) rfl ?_
    refine wl_nil ?_
    refine pn_then ?_
    refine wc_seq ?_
    refine wc_seq ?_
    refine wc_region ?_   -- region 5
    refine wl_det rfl rfl (det_move rfl) rfl ?_
    refine wl_det rfl rfl (det_neq rfl rfl) rfl ?_
    refine wl_nil ?_
    refine pn_then ?_
    refine wc_cond rfl (fun cd15 => ?_) (fun cd15 => ?_)
    · have h := ifT h cd15
      refine wc_seq ?_
      refine wc_region ?_   -- region 6
      refine wl_det rfl rfl (det_build (cs := [_, _]) pl25 zr25 rfl rfl (by rfl)) rfl ?_
      refine wl_det rfl rfl (det_move rfl) rfl ?_
      refine wl_act0 (act_store (cells := [_, _]) (cs' := [_, _]) rfl rfl rfl (ss s0) (by rfl) (of_decide_eq_true rfl) sz25 ⟨rfl, rfl, trivial⟩) rfl rfl ?_
      rintro _ _ _ ⟨rfl, rfl⟩
      refine wl_det rfl rfl (det_assign rfl) rfl ?_
      refine wl_det rfl rfl (det_assign rfl) rfl ?_
      refine wl_nil ?_
      refine pn_then ?_
      refine wc_ret ?_
      refine pr_then ?_
      refine pn_st (fun _ h => h.zeroF lGPosting none 0) ?_
      refine pn_st (fun _ h => h.zeroS lGPosting 73 none) ?_
      replace h := Option.some.inj h
      subst h
      refine pn_ret (vs := [_, _, _]) rfl ⟨⟨_, _, [_, _], rfl, (ms (ms m0)), ag25, sz25, rfl⟩, rfl, rfl, trivial⟩ ⟨none, 0, 0, none, 0, 0, rfl, rfl, rfl⟩ (fun _ h => h.to ⟨_, r0, trivial⟩ ⟨m0, trivial⟩)
    · have h := ifF h cd15
      refine wc_skip ?_
      refine pn_then ?_
      obtain ⟨q18, h, ho18⟩ := bind_some h
      refine wc_meetG (G := Unit × Unit) (fun (s18, _) => (.inl s18) = q18) (fun (_, _) => [(2, .pointer (some ⟨b0_0, 0, none⟩)), (4, .pointer (some ⟨b0_1, 0, none⟩)), (8, .slice y4_1A0 r4_1.1.length y4_1c0)]) (fun (_, _) => [eBlk b0_0 25 [.int .i64 a0.Closed, .slice A0 a0.Postings.length c0], eBlk b0_1 25 [.int .i64 0, .slice none 0 0], eS lGEntry 41 y4_1A0 r4_1.1.length y4_1c0 r4_1.1]) (fun (_, _) => [fV (lSlice lGPosting) (.slice A0 a0.Postings.length c0) a0.Postings]) ?_ ?_
      · refine wc_seq ?_
        refine wc_region ?_   -- region 7
        refine wl_det rfl rfl (det_move rfl) rfl ?_
        refine wl_det rfl rfl (det_len rfl un37) rfl ?_
        refine wl_det rfl rfl (det_move rfl) rfl ?_
        refine wl_nil ?_
        refine pn_then ?_
        refine wc_block ?_
        obtain ⟨o22, h, ho22⟩ := bind_some h
        obtain ⟨k22, hk22⟩ := loopV_some.1 h
        refine wc_loop (G := Nat × Int × Unit) (fun g => IterN (ledger_Restate_l22 a1) g.1 g.2.1 o22) (fun g => g.1) (fun (_, s22, _) => [(2, .pointer (some ⟨b0_0, 0, none⟩)), (4, .pointer (some ⟨b0_1, 0, none⟩)), (8, .slice y4_1A0 r4_1.1.length y4_1c0), (31, .slice A3 a1.length c3), (32, .int .i64 (a1.length : Int)), (33, .int .i64 s22)]) (fun (_, _, _) => [eBlk b0_0 25 [.int .i64 a0.Closed, .slice A0 a0.Postings.length c0], eBlk b0_1 25 [.int .i64 0, .slice none 0 0], eS lGEntry 41 y4_1A0 r4_1.1.length y4_1c0 r4_1.1]) (fun (_, _, _) => [fV (lSlice lGPosting) (.slice A0 a0.Postings.length c0) a0.Postings, fV (lSlice lGEntry) (.slice A3 a1.length c3) a1]) (k22, 0, ()) hk22 ⟨rfl, rfl, rfl, rfl, rfl, rfl, trivial⟩ (fun _ h => h.to ⟨_, (rs (rs r0)), ⟨_, (rs r0), ⟨_, r0, trivial⟩⟩⟩ ⟨m0, ⟨(ms m0), trivial⟩⟩) ?_
        rintro ⟨k22, s22, _⟩ hI
        obtain ⟨k22, rfl, q22, h, g22⟩ := IterN.pos hI
        dsimp only at h ⊢
        unfold ledger_Restate_l22 at h
        refine wc_seq ?_
        refine wc_region ?_   -- region 8
        refine wl_det rfl rfl (det_lss rfl rfl) rfl ?_
        refine wl_nil ?_
        refine pn_then ?_
        refine wc_seq ?_
        refine wc_cond rfl (fun cd26 => ?_) (fun cd26 => ?_)
        · have h := ifT h cd26
          refine wc_skip ?_
          refine pn_then ?_
          refine wc_seq ?_
          refine wc_block ?_
          refine wc_seq ?_
          refine wc_region ?_   -- region 9
          obtain ⟨k9_0, h⟩ := chk_some h
          refine wl_st (fun _ h => h.openF (ms m0) k9_0) ?_
          refine wl_det rfl rfl (det_indexP rfl rfl (ms (ms m0)) k9_0 m0 un37 sz41) rfl ?_
          refine wl_det rfl rfl (det_loadP (off := 0) rfl m0 (by rfl) (by rfl) (loaded_n (cells := [_, _, _, _, _]) ag41 sz41)) rfl ?_
          refine wl_act (act_alloc (cs := [_, _, _, _, _]) zr41 rfl) rfl rfl rfl ?_
          rintro _ _ _ ⟨b9_2, rfl, rfl, rfl⟩
          refine wl_act0 (act_store (cells := [_, _, _, _, _]) (cs' := [_, _, _, _, _]) rfl rfl rfl s0 (by rfl) (of_decide_eq_true rfl) sz41 ⟨rfl, rfl, rfl, rfl, rfl, trivial⟩) rfl rfl ?_
          rintro _ _ _ ⟨rfl, rfl⟩
          refine wl_nil ?_
          refine pn_then ?_
          refine wc_seq ?_
          refine wc_region ?_   -- region 10
          refine wl_det rfl rfl (det_loadN (cells := [_, _, _, _, _]) rfl m0 (by rfl) ag41 sz41) rfl ?_
          obtain ⟨r10_1, hr10_1, h⟩ := bind_some h
          refine wl_act (act_callS (cap := []) (W_ledger_restated (ix a1 s22) r10_1 hr10_1) rfl rfl rfl bd58 rfl trivial) rfl rfl rfl ?_
          rintro _ _ _ ⟨_, _, ⟨rfl, rfl, rfl⟩, rfl, rfl⟩
          dsimp only [List.nil_append, List.cons_append]
          refine wl_det rfl rfl (det_not rfl) rfl ?_
          refine wl_nil ?_
          refine pn_then ?_
          refine wc_cond rfl (fun cd34 => ?_) (fun cd34 => ?_)
          · have h := ifT h cd34
            refine wc_seq ?_
            refine wc_region ?_   -- region 11
            refine wl_det rfl rfl (det_build (cs := [_, _]) pl25 zr25 rfl rfl (by rfl)) rfl ?_
            refine wl_act0 (act_store (cells := [_, _]) (cs' := [_, _]) rfl rfl rfl (ss (ss s0)) (by rfl) (of_decide_eq_true rfl) sz25 ⟨rfl, rfl, trivial⟩) rfl rfl ?_
            rintro _ _ _ ⟨rfl, rfl⟩
            refine wl_det rfl rfl (det_assign rfl) rfl ?_
            refine wl_det rfl rfl (det_assign rfl) rfl ?_
            refine wl_nil ?_
            refine pn_then ?_
            refine wc_ret ?_
            refine pr_block ?_
            refine pr_then ?_
            refine pr_then ?_
            refine pr_block ?_
            refine pr_then ?_
            refine pn_st (fun _ h => h.zeroF lGPosting none 0) ?_
            refine pn_st (fun _ h => h.zeroS lGPosting 73 none) ?_
            replace h := Option.some.inj h
            subst h
            replace g22 := nextR g22
            subst g22
            have h := (elimL ho22)
            replace h := Option.some.inj h
            subst h
            have h := (elimR ho18)
            replace h := Option.some.inj h
            subst h
            refine pn_ret (vs := [_, _, _]) rfl ⟨⟨_, _, [_, _], rfl, (ms (ms (ms m0))), ag25, sz25, rfl⟩, rfl, rfl, trivial⟩ ⟨none, 0, 0, none, 0, 0, rfl, rfl, rfl⟩ (fun _ h => h.to ⟨_, r0, trivial⟩ ⟨m0, trivial⟩)
          · have h := ifF h cd34
            refine wc_skip ?_
            refine pn_block ?_
            refine pn_then ?_
            refine wc_region ?_   -- region 12
            refine wl_det rfl rfl (det_add rfl rfl) rfl ?_
            refine wl_det rfl rfl (det_move rfl) rfl ?_
            refine wl_nil ?_
            replace h := Option.some.inj h
            subst h
            exact pn_some (k22, (w64 (s22 + 1)), ()) ⟨nextL g22, Nat.lt_succ_self _⟩ ⟨rfl, rfl, rfl, rfl, rfl, rfl, trivial⟩ (fun _ h => h.to ⟨_, (rs r0), ⟨_, (rs r0), ⟨_, (rs r0), trivial⟩⟩⟩ ⟨(ms m0), ⟨(ms (ms m0)), trivial⟩⟩)
        · have h := ifF h cd26
          refine wc_exit ?_
          refine px_then ?_
          refine px_then ?_
          refine px_block ?_
          replace h := Option.some.inj h
          subst h
          replace g22 := nextR g22
          subst g22
          have h := (elimR ho22)
          replace h := Option.some.inj h
          subst h
          exact pn_meetG ((), ()) rfl ⟨rfl, rfl, rfl, trivial⟩ (fun _ h => h.to ⟨_, r0, ⟨_, r0, ⟨_, r0, trivial⟩⟩⟩ ⟨m0, trivial⟩)
      rintro ⟨s18, _⟩ e18
      dsimp only at e18 ⊢
      subst e18
      have h := (elimL ho18)
      refine wc_seq ?_
      refine wc_region ?_   -- region 13
      refine wl_det rfl rfl (det_loadN (cells := [_, _]) rfl m0 (by rfl) ag25 sz25) rfl ?_
      refine wl_det rfl rfl (det_field rfl fd25_0 rfl) rfl ?_
      refine wl_det rfl rfl (det_load rfl m0 (by rfl) na3 us3) rfl ?_
      refine wl_det rfl rfl (det_add rfl rfl) rfl ?_
      obtain ⟨r13_4, hr13_4, h⟩ := bind_some h
      refine wl_act (act_callS (cap := []) (W_ledger_Totals a0 (w64 (a0.Closed + 1)) A0 a0.Postings.length c0 r13_4 hr13_4) rfl rfl rfl bd18 rfl ⟨m0, trivial⟩) rfl rfl rfl ?_
      rintro _ _ _ ⟨_, _, ⟨y13_4A0, y13_4n0, y13_4c0, rfl, rfl, rfl⟩, rfl, rfl⟩
      dsimp only [List.nil_append, List.cons_append]
      refine wl_know (fun _ h => h.lenO m0) (fun e => ?_)
      subst e
      refine wl_det rfl rfl (det_move rfl) rfl ?_
      refine wl_det rfl rfl (det_extract rfl rfl) rfl ?_
      refine wl_det rfl rfl (det_extract rfl rfl) rfl ?_
      refine wl_det rfl rfl (det_assign rfl) rfl ?_
      refine wl_det rfl rfl (det_assign rfl) rfl ?_
      refine wl_nil ?_
      refine pn_then ?_
      refine wc_seq ?_
      refine wc_seq ?_
      refine wc_region ?_   -- region 14
      refine wl_det rfl rfl (det_move rfl) rfl ?_
      refine wl_det rfl rfl (det_neq rfl rfl) rfl ?_
      refine wl_nil ?_
      refine pn_then ?_
      refine wc_cond rfl (fun cd43 => ?_) (fun cd43 => ?_)
      · have h := ifT h cd43
        refine wc_seq ?_
        refine wc_region ?_   -- region 15
        refine wl_det rfl rfl (det_build (cs := [_, _]) pl25 zr25 rfl rfl (by rfl)) rfl ?_
        refine wl_det rfl rfl (det_move rfl) rfl ?_
        refine wl_act0 (act_store (cells := [_, _]) (cs' := [_, _]) rfl rfl rfl (ss (ss s0)) (by rfl) (of_decide_eq_true rfl) sz25 ⟨rfl, rfl, trivial⟩) rfl rfl ?_
        rintro _ _ _ ⟨rfl, rfl⟩
        refine wl_det rfl rfl (det_assign rfl) rfl ?_
        refine wl_det rfl rfl (det_assign rfl) rfl ?_
        refine wl_nil ?_
        refine pn_then ?_
        refine wc_ret ?_
        refine pr_then ?_
        refine pn_st (fun _ h => h.zeroF lGPosting none 0) ?_
        refine pn_st (fun _ h => h.zeroS lGPosting 73 none) ?_
        replace h := Option.some.inj h
        subst h
        refine pn_ret (vs := [_, _, _]) rfl ⟨⟨_, _, [_, _], rfl, (ms (ms (ms m0))), ag25, sz25, rfl⟩, rfl, rfl, trivial⟩ ⟨none, 0, 0, none, 0, 0, rfl, rfl, rfl⟩ (fun _ h => h.to ⟨_, r0, trivial⟩ ⟨m0, trivial⟩)
      · have h := ifF h cd43
        refine wc_skip ?_
        refine pn_then ?_
        obtain ⟨q46, h, ho46⟩ := bind_some h
        refine wc_meetG (G := (List GEntry) × Option Addr × Nat × Nat × Unit) (fun (s46, _, _, _, _) => s46 = q46) (fun (_, A46_0, n46_0, c46_0, _) => [(2, .pointer (some ⟨b0_0, 0, none⟩)), (4, .pointer (some ⟨b0_1, 0, none⟩)), (8, .slice A46_0 n46_0 c46_0)]) (fun (s46, A46_0, n46_0, c46_0, _) => [eBlk b0_0 25 [.int .i64 a0.Closed, .slice A0 a0.Postings.length c0], eBlk b0_1 25 [.int .i64 0, .slice none 0 0], eS lGEntry 41 A46_0 n46_0 c46_0 s46]) (fun (_, _, _, _, _) => [fV (lSlice lGPosting) (.slice A0 a0.Postings.length c0) a0.Postings]) ?_ ?_
        · refine wc_seq ?_
          refine wc_region ?_   -- region 16
          refine wl_det rfl rfl (det_move rfl) rfl ?_
          refine wl_det rfl rfl (det_len rfl un37) rfl ?_
          refine wl_det rfl rfl (det_move rfl) rfl ?_
          refine wl_nil ?_
          refine pn_then ?_
          refine wc_block ?_
          obtain ⟨k50, hk50⟩ := loopV_some.1 h
          refine wc_loop (G := Nat × ((List GEntry) × Int) × Option Addr × Nat × Nat × Unit) (fun g => IterN (ledger_Restate_l50 r13_4) g.1 g.2.1 q46) (fun g => g.1) (fun (_, s50, A50_0, n50_0, c50_0, _) => [(2, .pointer (some ⟨b0_0, 0, none⟩)), (4, .pointer (some ⟨b0_1, 0, none⟩)), (8, .slice A50_0 n50_0 c50_0), (54, .slice y13_4A0 r13_4.1.length y13_4c0), (55, .int .i64 (r13_4.1.length : Int)), (56, .int .i64 s50.2)]) (fun (_, s50, A50_0, n50_0, c50_0, _) => [eBlk b0_0 25 [.int .i64 a0.Closed, .slice A0 a0.Postings.length c0], eBlk b0_1 25 [.int .i64 0, .slice none 0 0], eS lGEntry 41 A50_0 n50_0 c50_0 s50.1, eS lGEntry 41 y13_4A0 r13_4.1.length y13_4c0 r13_4.1]) (fun (_, _, _, _, _, _) => [fV (lSlice lGPosting) (.slice A0 a0.Postings.length c0) a0.Postings]) (k50, (r4_1.1, 0), y4_1A0, r4_1.1.length, y4_1c0, ()) hk50 ⟨rfl, rfl, rfl, rfl, rfl, rfl, trivial⟩ (fun _ h => h.to ⟨_, (rs r0), ⟨_, (rs r0), ⟨_, (rs r0), ⟨_, r0, trivial⟩⟩⟩⟩ ⟨m0, trivial⟩) ?_
          rintro ⟨k50, s50, A50_0, n50_0, c50_0, _⟩ hI
          obtain ⟨k50, rfl, q50, h, g50⟩ := IterN.pos hI
          dsimp only at h ⊢
          unfold ledger_Restate_l50 at h
          refine wc_know (fun _ h => h.lenO (ms (ms m0))) (fun e => ?_)
          subst e
          refine wc_seq ?_
          refine wc_region ?_   -- region 17
          refine wl_det rfl rfl (det_lss rfl rfl) rfl ?_
          refine wl_nil ?_
          refine pn_then ?_
          refine wc_seq ?_
          refine wc_cond rfl (fun cd54 => ?_) (fun cd54 => ?_)
          · have h := ifT h cd54
            refine wc_skip ?_
            refine pn_then ?_
            obtain ⟨q56, h, ho56⟩ := bind_some h
            refine wc_meetG (G := (List GEntry) × Option Addr × Nat × Nat × Unit) (fun (s56, _, _, _, _) => s56 = q56) (fun (_, A56_0, n56_0, c56_0, _) => [(2, .pointer (some ⟨b0_0, 0, none⟩)), (4, .pointer (some ⟨b0_1, 0, none⟩)), (8, .slice A56_0 n56_0 c56_0), (54, .slice y13_4A0 r13_4.1.length y13_4c0), (55, .int .i64 (r13_4.1.length : Int)), (56, .int .i64 s50.2)]) (fun (s56, A56_0, n56_0, c56_0, _) => [eBlk b0_0 25 [.int .i64 a0.Closed, .slice A0 a0.Postings.length c0], eBlk b0_1 25 [.int .i64 0, .slice none 0 0], eS lGEntry 41 A56_0 n56_0 c56_0 s56, eS lGEntry 41 y13_4A0 r13_4.1.length y13_4c0 r13_4.1]) (fun (_, _, _, _, _) => [fV (lSlice lGPosting) (.slice A0 a0.Postings.length c0) a0.Postings]) ?_ ?_
            · refine wc_block ?_
              refine wc_seq ?_
              refine wc_region ?_   -- region 18
              obtain ⟨k18_0, h⟩ := chk_some h
              refine wl_det rfl rfl (det_indexO rfl rfl (ms (ms (ms m0))) k18_0 un37 sz41) rfl ?_
              refine wl_det rfl rfl (det_loadO (off := 0) rfl (ms (ms (ms m0))) k18_0 (by rfl) (by rfl) (loaded_n (cells := [_, _, _, _, _]) ag41 sz41)) rfl ?_
              refine wl_act (act_alloc (cs := [_, _, _, _, _]) zr41 rfl) rfl rfl rfl ?_
              rintro _ _ _ ⟨b18_2, rfl, rfl, rfl⟩
              refine wl_act0 (act_store (cells := [_, _, _, _, _]) (cs' := [_, _, _, _, _]) rfl rfl rfl s0 (by rfl) (of_decide_eq_true rfl) sz41 ⟨rfl, rfl, rfl, rfl, rfl, trivial⟩) rfl rfl ?_
              rintro _ _ _ ⟨rfl, rfl⟩
              refine wl_nil ?_
              refine pn_then ?_
              refine wc_seq ?_
              refine wc_region ?_   -- region 19
              refine wl_det rfl rfl (det_loadN (cells := [_, _, _, _, _]) rfl m0 (by rfl) ag41 sz41) rfl ?_
              obtain ⟨r19_1, hr19_1, h⟩ := bind_some h
              refine wl_act (act_callS (cap := []) (W_ledger_restated (ix r13_4.1 s50.2) r19_1 hr19_1) rfl rfl rfl bd58 rfl trivial) rfl rfl rfl ?_
              rintro _ _ _ ⟨_, _, ⟨rfl, rfl, rfl⟩, rfl, rfl⟩
              dsimp only [List.nil_append, List.cons_append]
              refine wl_nil ?_
              refine pn_then ?_
              refine wc_cond rfl (fun cd62 => ?_) (fun cd62 => ?_)
              · have h := ifT h cd62
                refine wc_seq ?_
                refine wc_region ?_   -- region 20
                refine wl_det rfl rfl (det_field rfl fd41_4 rfl) rfl ?_
                refine wl_det rfl rfl (det_load rfl m0 (by rfl) na3 us3) rfl ?_
                refine wl_det rfl rfl (det_neg rfl) rfl ?_
                refine wl_det rfl rfl (det_field rfl fd41_4 rfl) rfl ?_
                refine wl_act0 (act_store (cells := [_]) (cs' := [_, _, _, _, _]) rfl rfl rfl s0 (by rfl) (of_decide_eq_true rfl) sz3 ⟨rfl, trivial⟩) rfl rfl ?_
                rintro _ _ _ ⟨rfl, rfl⟩
                refine wl_nil ?_
                refine pn_then ?_
                refine wc_region ?_   -- region 21
                refine wl_det rfl rfl (det_move rfl) rfl ?_
                refine wl_det rfl rfl (det_loadN (cells := [_, _, _, _, _]) rfl m0 (by rfl) ag41 sz41) rfl ?_
                refine wl_act (act_litS lGEntry (vs := [_]) (cs := [_, _, _, _, _]) [(GEntry.mk (ix r13_4.1 s50.2).Kind (ix r13_4.1 s50.2).Treaty (ix r13_4.1 s50.2).Party (ix r13_4.1 s50.2).Loss (w64 (0 - (ix r13_4.1 s50.2).Amount)))] un37 in41 rfl rfl rfl rfl rfl ⟨rfl, trivial⟩ (by rfl) rfl (litR_flat rfl)) rfl rfl rfl ?_
                rintro _ _ _ ⟨A21_2, rfl, rfl, rfl⟩
                obtain ⟨k21_3, h⟩ := chk_some h
                refine wl_act (act_appendS (L := lGEntry) rfl rfl (ss (ss (ss (ss s0)))) (src_O m0) un37 in41 rfl rfl rfl k21_3) rfl rfl rfl ?_
                rintro _ _ _ ⟨A21_3, c21_3, rfl, rfl, rfl⟩
                refine wl_det rfl rfl (det_assign rfl) rfl ?_
                refine wl_nil ?_
                refine pn_block ?_
                replace h := Option.some.inj h
                subst h
                exact pn_meetG ((s50.1 ++ [(GEntry.mk (ix r13_4.1 s50.2).Kind (ix r13_4.1 s50.2).Treaty (ix r13_4.1 s50.2).Party (ix r13_4.1 s50.2).Loss (w64 (0 - (ix r13_4.1 s50.2).Amount)))]), A21_3, (s50.1 ++ [(GEntry.mk (ix r13_4.1 s50.2).Kind (ix r13_4.1 s50.2).Treaty (ix r13_4.1 s50.2).Party (ix r13_4.1 s50.2).Loss (w64 (0 - (ix r13_4.1 s50.2).Amount)))]).length, c21_3, ()) rfl ⟨rfl, rfl, rfl, rfl, rfl, rfl, trivial⟩ (fun _ h => h.to ⟨_, (rs (rs r0)), ⟨_, (rs (rs r0)), ⟨_, (rs (rs r0)), ⟨_, (rs (rs r0)), trivial⟩⟩⟩⟩ ⟨m0, trivial⟩)
              · have h := ifF h cd62
                refine wc_skip ?_
                refine pn_block ?_
                replace h := Option.some.inj h
                subst h
                exact pn_meetG (s50.1, A50_0, s50.1.length, c50_0, ()) rfl ⟨rfl, rfl, rfl, rfl, rfl, rfl, trivial⟩ (fun _ h => h.to ⟨_, (rs r0), ⟨_, (rs r0), ⟨_, (rs r0), ⟨_, (rs r0), trivial⟩⟩⟩⟩ ⟨m0, trivial⟩)
            rintro ⟨s56, A56_0, n56_0, c56_0, _⟩ e56
            dsimp only at e56 ⊢
            subst e56
            have h := ho56
            refine wc_know (fun _ h => h.lenO (ms (ms m0))) (fun e => ?_)
            subst e
            refine wc_region ?_   -- region 22
            refine wl_det rfl rfl (det_add rfl rfl) rfl ?_
            refine wl_det rfl rfl (det_move rfl) rfl ?_
            refine wl_nil ?_
            replace h := Option.some.inj h
            subst h
            exact pn_some (k50, (s56, (w64 (s50.2 + 1))), A56_0, s56.length, c56_0, ()) ⟨nextL g50, Nat.lt_succ_self _⟩ ⟨rfl, rfl, rfl, rfl, rfl, rfl, trivial⟩ (fun _ h => h.to ⟨_, r0, ⟨_, r0, ⟨_, r0, ⟨_, r0, trivial⟩⟩⟩⟩ ⟨m0, trivial⟩)
          · have h := ifF h cd54
            refine wc_exit ?_
            refine px_then ?_
            refine px_then ?_
            refine px_block ?_
            replace h := Option.some.inj h
            subst h
            replace g50 := nextR g50
            subst g50
            exact pn_meetG (s50.1, A50_0, s50.1.length, c50_0, ()) rfl ⟨rfl, rfl, rfl, trivial⟩ (fun _ h => h.to ⟨_, r0, ⟨_, r0, ⟨_, r0, trivial⟩⟩⟩ ⟨m0, trivial⟩)
        rintro ⟨s46, A46_0, n46_0, c46_0, _⟩ e46
        dsimp only at e46 ⊢
        subst e46
        have h := ho46
        refine wc_know (fun _ h => h.lenO (ms (ms m0))) (fun e => ?_)
        subst e
        refine wc_seq ?_
        refine wc_region ?_   -- region 23
        refine wl_det rfl rfl (det_loadN (cells := [_, _]) rfl m0 (by rfl) ag25 sz25) rfl ?_
        refine wl_det rfl rfl (det_move rfl) rfl ?_
        obtain ⟨r23_2, hr23_2, h⟩ := bind_some h
        refine wl_act (act_callL (cap := []) [eS lGEntry 41 A46_0 s46.length c46_0 s46] (W_ledger_Post a0 s46 A0 a0.Postings.length c0 A46_0 s46.length c46_0 r23_2 hr23_2) plains_ledger_Post rfl rfl rfl bd32 rfl ⟨(ms (ms m0)), trivial⟩ ⟨.inl m0, ⟨.inr ⟨_, m0, lent_eS⟩, trivial⟩⟩) rfl rfl rfl ?_
        rintro _ _ _ ⟨_, _, ⟨y23_2A0, y23_2n0, y23_2c0, rfl, rfl, rfl⟩, rfl, rfl⟩
        dsimp only [List.nil_append, List.cons_append]
        refine wl_know (fun _ h => h.lenO m0) (fun e => ?_)
        subst e
        refine wl_det rfl rfl (det_move rfl) rfl ?_
        refine wl_det rfl rfl (det_extract rfl rfl) rfl ?_
        refine wl_det rfl rfl (det_extract rfl rfl) rfl ?_
        refine wl_act (act_alloc (cs := [_, _]) zr25 rfl) rfl rfl rfl ?_
        rintro _ _ _ ⟨b23_6, rfl, rfl, rfl⟩
        refine wl_act0 (act_store (cells := [_, _]) (cs' := [_, _]) rfl rfl rfl s0 (by rfl) (of_decide_eq_true rfl) sz25 ⟨rfl, rfl, trivial⟩) rfl rfl ?_
        rintro _ _ _ ⟨rfl, rfl⟩
        refine wl_det rfl rfl (det_assign rfl) rfl ?_
        refine wl_nil ?_
        refine pn_then ?_
        refine wc_seq ?_
        refine wc_seq ?_
        refine wc_region ?_   -- region 24
        refine wl_det rfl rfl (det_move rfl) rfl ?_
        refine wl_det rfl rfl (det_neq rfl rfl) rfl ?_
        refine wl_nil ?_
        refine pn_then ?_
        refine wc_cond rfl (fun cd72 => ?_) (fun cd72 => ?_)
        · have h := ifT h cd72
          refine wc_seq ?_
          refine wc_region ?_   -- region 25
          refine wl_det rfl rfl (det_build (cs := [_, _]) pl25 zr25 rfl rfl (by rfl)) rfl ?_
          refine wl_det rfl rfl (det_move rfl) rfl ?_
          refine wl_act0 (act_store (cells := [_, _]) (cs' := [_, _]) rfl rfl rfl (ss (ss (ss s0))) (by rfl) (of_decide_eq_true rfl) sz25 ⟨rfl, rfl, trivial⟩) rfl rfl ?_
          rintro _ _ _ ⟨rfl, rfl⟩
          refine wl_det rfl rfl (det_assign rfl) rfl ?_
          refine wl_det rfl rfl (det_assign rfl) rfl ?_
          refine wl_nil ?_
          refine pn_then ?_
          refine wc_ret ?_
          refine pr_then ?_
          refine pn_st (fun _ h => h.zeroF lGPosting none 0) ?_
          refine pn_st (fun _ h => h.zeroS lGPosting 73 none) ?_
          replace h := Option.some.inj h
          subst h
          refine pn_ret (vs := [_, _, _]) rfl ⟨⟨_, _, [_, _], rfl, (ms (ms (ms (ms m0)))), ag25, sz25, rfl⟩, rfl, rfl, trivial⟩ ⟨none, 0, 0, none, 0, 0, rfl, rfl, rfl⟩ (fun _ h => h.to ⟨_, r0, trivial⟩ ⟨m0, trivial⟩)
        · have h := ifF h cd72
          refine wc_skip ?_
          refine pn_then ?_
          refine wc_seq ?_
          refine wc_st (fun _ h => h.shutS (rs r0)) ?_
          obtain ⟨k26_p1, h⟩ := chk_some h
          obtain ⟨k26_p2, h⟩ := chk_some h
          refine dx_region 8 [[], [], [1], [], [3], [3, 4], [1, 2, 3, 4, 5], [1, 2, 3, 4, 5, 6], [0, 1, 2, 3, 4, 5, 6, 7], [0, 1, 2, 3, 4, 5, 6, 7, 8], [0, 1, 2, 3, 4, 5, 6, 7, 8, 9]] mixed (ord := (.det 0 (.det 1 (.det 2 (.det 3 (.det 4 (.det 5 (.alt 6 (.alt 7 .done .dead) .dead)))))))) (by kernel_rfl) ?_   -- region 26
          refine hx_det rfl rfl rfl nofun (det_loadN (cells := [_, _]) rfl m0 (by rfl) ag25 sz25) rfl ?_
          refine hx_det rfl rfl rfl nofun (det_field rfl fd25_1 rfl) rfl ?_
          refine hx_det rfl rfl rfl nofun (det_load rfl m0 (by rfl) na23 us23) rfl ?_
          refine hx_det rfl rfl rfl nofun (det_field rfl fd25_1 rfl) rfl ?_
          refine hx_det rfl rfl rfl nofun (det_load rfl (ms m0) (by rfl) na23 us23) rfl ?_
          refine hx_det rfl rfl rfl nofun (det_len rfl un23) rfl ?_
          refine hx_act rfl rfl rfl (act_sliceL rfl rfl m0 un23 sz73 rfl k26_p1 k26_p2) rfl (by rintro _ _ _ ⟨A26_6, c26_6, rfl, rfl, rfl⟩; first | exact ⟨_ :: [], [], rfl, rfl⟩ | exact ⟨[], [_], rfl, rfl⟩ | exact ⟨[], [], rfl, rfl⟩) ?_
          rintro _ _ _ ⟨A26_6, c26_6, rfl, rfl, rfl⟩
          obtain ⟨r26_7, hr26_7, h⟩ := bind_some h
          refine hx_act rfl rfl rfl (act_callS (cap := []) (W_slices_Clone_s_api_Posting_api_Posting (r23_2.1.Postings.drop (a0.Postings.length : Int).toNat) A26_6 (r23_2.1.Postings.drop (a0.Postings.length : Int).toNat).length c26_6 r26_7 hr26_7) rfl rfl rfl bd59 rfl ⟨m0, trivial⟩) rfl (by rintro _ _ _ ⟨_, _, _, rfl, rfl⟩; first | exact ⟨_, _, rfl, rfl⟩ | exact ⟨_, [], rfl, rfl⟩) ?_
          rintro _ _ _ ⟨_, _, ⟨y26_7A0, y26_7n0, y26_7c0, rfl, rfl, rfl⟩, rfl, rfl⟩
          dsimp only [List.nil_append, List.cons_append]
          refine hx_end ?_
          refine wl_know (fun _ h => h.lenO m0) (fun e => ?_)
          subst e
          refine wl_act0 (act_store (cells := [_, _]) (cs' := [_, _]) rfl rfl rfl (ss (ss (ss s0))) (by rfl) (of_decide_eq_true rfl) sz25 ⟨rfl, rfl, trivial⟩) rfl rfl ?_
          rintro _ _ _ ⟨rfl, rfl⟩
          refine wl_det rfl rfl (det_assign rfl) rfl ?_
          refine wl_det rfl rfl (det_assign rfl) rfl ?_
          refine wl_nil ?_
          refine pn_then ?_
          refine wc_ret ?_
          replace h := Option.some.inj h
          subst h
          refine pn_ret (vs := [_, _, _]) rfl ⟨⟨_, _, [_, _], rfl, (ms (ms (ms m0))), ag25, sz25, rfl⟩, rfl, rfl, trivial⟩ ⟨y23_2A0, r23_2.1.Postings.length, y23_2c0, y26_7A0, r26_7.length, y26_7c0, rfl, rfl, rfl⟩ (fun _ h => h.to ⟨_, r0, trivial⟩ ⟨(ms m0), trivial⟩)
def Q_treatyref33_SamePostings (r : Bool) : Value → List Ent → List Fact → Prop := fun v θ κ => v = .bool r ∧ θ = [] ∧ κ = []
theorem plains_treatyref33_SamePostings {r : Bool} : ∀ v θ κ, Q_treatyref33_SamePostings r v θ κ → Plains θ := by
  rintro _ _ _ ⟨rfl, rfl, rfl⟩
  exact trivial
set_option maxHeartbeats 4000000 in
set_option maxRecDepth 100000 in
theorem W_treatyref33_SamePostings (a0 : (List GPosting)) (a1 : (List GPosting)) (A0 : Option Addr) (n0 : Nat) (c0 : Nat) (A3 : Option Addr) (n3 : Nat) (c3 : Nat) (r : Bool) (h : treatyref33_SamePostings a0 a1 = some r) : Spec Try.prog 37 [.slice A0 n0 c0, .slice A3 n3 c3] [] [fV (lSlice lGPosting) (.slice A0 n0 c0) a0, fV (lSlice lGPosting) (.slice A3 n3 c3) a1] (Q_treatyref33_SamePostings r) := by
  unfold treatyref33_SamePostings at h
  refine spec_of (σ := [(0, _), (1, _)]) Try.func37 rfl rfl rfl rfl ?_
  intro C
  refine wc_know (fun _ h => h.lenF m0) (fun e => ?_)
  subst e
  refine wc_know (fun _ h => h.lenF (ms m0)) (fun e => ?_)
  subst e
  refine wc_seq ?_
  refine wc_region ?_   -- region 0
  refine wl_det rfl rfl (det_assign rfl) rfl ?_
  refine wl_nil ?_
  refine pn_then ?_
  refine wc_seq ?_
  refine wc_seq ?_
  refine wc_region ?_   -- region 1
  refine wl_det rfl rfl (det_move rfl) rfl ?_
  refine wl_det rfl rfl (det_len rfl un23) rfl ?_
  refine wl_det rfl rfl (det_move rfl) rfl ?_
  refine wl_det rfl rfl (det_len rfl un23) rfl ?_
  refine wl_det rfl rfl (det_neq rfl rfl) rfl ?_
  refine wl_nil ?_
  refine pn_then ?_
  refine wc_cond rfl (fun cd5 => ?_) (fun cd5 => ?_)
  · have h := ifT h cd5
    refine wc_seq ?_
    refine wc_region ?_   -- region 2
    refine wl_det rfl rfl (det_assign rfl) rfl ?_
    refine wl_nil ?_
    refine pn_then ?_
    refine wc_ret ?_
    refine pr_then ?_
    replace h := Option.some.inj h
    subst h
    refine pn_ret (vs := [_]) rfl ⟨rfl, trivial⟩ ⟨rfl, rfl, rfl⟩ (fun _ h => h.to trivial trivial)
  · have h := ifF h cd5
    refine wc_skip ?_
    refine pn_then ?_
    obtain ⟨q8, h, ho8⟩ := bind_some h
    refine wc_meetG (G := Unit × Unit) (fun (s8, _) => (.inl s8) = q8) (fun (_, _) => []) (fun (_, _) => []) (fun (_, _) => []) ?_ ?_
    · refine wc_seq ?_
      refine wc_region ?_   -- region 3
      refine wl_det rfl rfl (det_move rfl) rfl ?_
      refine wl_det rfl rfl (det_len rfl un23) rfl ?_
      refine wl_det rfl rfl (det_move rfl) rfl ?_
      refine wl_nil ?_
      refine pn_then ?_
      refine wc_block ?_
      obtain ⟨o12, h, ho12⟩ := bind_some h
      obtain ⟨k12, hk12⟩ := loopV_some.1 h
      refine wc_loop (G := Nat × Int × Unit) (fun g => IterN (treatyref33_SamePostings_l12 a0 a1) g.1 g.2.1 o12) (fun g => g.1) (fun (_, s12, _) => [(0, .slice A0 a0.length c0), (1, .slice A3 a1.length c3), (12, .int .i64 (a0.length : Int)), (13, .int .i64 s12)]) (fun (_, _, _) => []) (fun (_, _, _) => [fV (lSlice lGPosting) (.slice A0 a0.length c0) a0, fV (lSlice lGPosting) (.slice A3 a1.length c3) a1]) (k12, 0, ()) hk12 ⟨rfl, rfl, rfl, rfl, trivial⟩ (fun _ h => h.to trivial ⟨m0, ⟨(ms m0), trivial⟩⟩) ?_
      rintro ⟨k12, s12, _⟩ hI
      obtain ⟨k12, rfl, q12, h, g12⟩ := IterN.pos hI
      dsimp only at h ⊢
      unfold treatyref33_SamePostings_l12 at h
      refine wc_seq ?_
      refine wc_region ?_   -- region 4
      refine wl_det rfl rfl (det_lss rfl rfl) rfl ?_
      refine wl_nil ?_
      refine pn_then ?_
      refine wc_seq ?_
      refine wc_cond rfl (fun cd16 => ?_) (fun cd16 => ?_)
      · have h := ifT h cd16
        refine wc_skip ?_
        refine pn_then ?_
        refine wc_seq ?_
        refine wc_block ?_
        refine wc_seq ?_
        refine wc_region ?_   -- region 5
        refine wl_det rfl rfl (det_move rfl) rfl ?_
        refine wl_det rfl rfl (det_assign rfl) rfl ?_
        refine wl_nil ?_
        refine pn_then ?_
        refine wc_seq ?_
        obtain ⟨k6_p1, h⟩ := chk_some h
        refine wc_st (fun _ h => h.openF m0 k6_p1) ?_
        obtain ⟨k6_p3, h⟩ := chk_some h
        refine wc_st (fun _ h => h.openF (ms (ms m0)) k6_p3) ?_
        refine dx_region 9 [[], [], [0, 1], [0, 1, 2], [], [], [4, 5], [4, 5, 6], [0, 1, 2, 3, 4, 5, 6, 7]] mixed (ord := (.det 0 (.det 1 (.det 2 (.det 3 (.det 4 (.det 5 (.det 6 (.det 7 (.det 8 .done)))))))))) (by kernel_rfl) ?_   -- region 6
        refine hx_det rfl rfl rfl nofun (det_move rfl) rfl ?_
        refine hx_det rfl rfl rfl nofun (det_move rfl) rfl ?_
        refine hx_det rfl rfl rfl nofun (det_indexP rfl rfl (ms (ms m0)) k6_p1 (ms m0) un23 sz73) rfl ?_
        refine hx_det rfl rfl rfl nofun (det_loadP (off := 0) rfl (ms m0) (by rfl) (by rfl) (loaded_n (cells := [_, _, _, _, _, _, _]) ag73 sz73)) rfl ?_
        refine hx_det rfl rfl rfl nofun (det_move rfl) rfl ?_
        refine hx_det rfl rfl rfl nofun (det_move rfl) rfl ?_
        refine hx_det rfl rfl rfl nofun (det_indexP rfl rfl (ms (ms (ms m0))) k6_p3 m0 un23 sz73) rfl ?_
        refine hx_det rfl rfl rfl nofun (det_loadP (off := 0) rfl m0 (by rfl) (by rfl) (loaded_n (cells := [_, _, _, _, _, _, _]) ag73 sz73)) rfl ?_
        refine hx_det rfl rfl rfl nofun (det_neqS [_, _, _, _, _, _, _] [_, _, _, _, _, _, _] eq73 rfl rfl rfl rfl) rfl ?_
        refine hx_end ?_
        refine wl_nil ?_
        refine pn_then ?_
        refine wc_cond rfl (fun cd24 => ?_) (fun cd24 => ?_)
        · have h := ifT h cd24
          refine wc_seq ?_
          refine wc_region ?_   -- region 7
          refine wl_det rfl rfl (det_assign rfl) rfl ?_
          refine wl_nil ?_
          refine pn_then ?_
          refine wc_ret ?_
          refine pr_block ?_
          refine pr_then ?_
          refine pr_then ?_
          refine pr_block ?_
          refine pr_then ?_
          replace h := Option.some.inj h
          subst h
          replace g12 := nextR g12
          subst g12
          have h := (elimL ho12)
          replace h := Option.some.inj h
          subst h
          have h := (elimR ho8)
          replace h := Option.some.inj h
          subst h
          refine pn_ret (vs := [_]) rfl ⟨rfl, trivial⟩ ⟨rfl, rfl, rfl⟩ (fun _ h => h.to trivial trivial)
        · have h := ifF h cd24
          refine wc_skip ?_
          refine pn_block ?_
          refine pn_then ?_
          refine wc_region ?_   -- region 8
          refine wl_det rfl rfl (det_add rfl rfl) rfl ?_
          refine wl_det rfl rfl (det_move rfl) rfl ?_
          refine wl_nil ?_
          replace h := Option.some.inj h
          subst h
          exact pn_some (k12, (w64 (s12 + 1)), ()) ⟨nextL g12, Nat.lt_succ_self _⟩ ⟨rfl, rfl, rfl, rfl, trivial⟩ (fun _ h => h.to trivial ⟨(ms (ms m0)), ⟨(ms (ms (ms m0))), trivial⟩⟩)
      · have h := ifF h cd16
        refine wc_exit ?_
        refine px_then ?_
        refine px_then ?_
        refine px_block ?_
        replace h := Option.some.inj h
        subst h
        replace g12 := nextR g12
        subst g12
        have h := (elimR ho12)
        replace h := Option.some.inj h
        subst h
        exact pn_meetG ((), ()) rfl trivial (fun _ h => h.to trivial trivial)
    rintro ⟨s8, _⟩ e8
    dsimp only at e8 ⊢
    subst e8
    have h := (elimL ho8)
    refine wc_seq ?_
    refine wc_region ?_   -- region 9
    refine wl_det rfl rfl (det_assign rfl) rfl ?_
    refine wl_nil ?_
    refine pn_then ?_
    refine wc_ret ?_
    replace h := Option.some.inj h
    subst h
    refine pn_ret (vs := [_]) rfl ⟨rfl, trivial⟩ ⟨rfl, rfl, rfl⟩ (fun _ h => h.to trivial trivial)
def Q_treatylaw33_awake (r : Bool) : Value → List Ent → List Fact → Prop := fun v θ κ => v = .bool r ∧ θ = [] ∧ κ = []
theorem plains_treatylaw33_awake {r : Bool} : ∀ v θ κ, Q_treatylaw33_awake r v θ κ → Plains θ := by
  rintro _ _ _ ⟨rfl, rfl, rfl⟩
  exact trivial
set_option maxHeartbeats 4000000 in
set_option maxRecDepth 100000 in
theorem W_treatylaw33_awake (r : Bool) (h : treatylaw33_awake = some r) : Spec Try.prog 20 [] [] [] (Q_treatylaw33_awake r) := by
  unfold treatylaw33_awake at h
  refine spec_of (σ := []) Try.func20 rfl rfl rfl rfl ?_
  intro C
  refine wc_seq ?_
  refine wc_region ?_   -- region 0
  refine wl_det rfl rfl (det_assign rfl) rfl ?_
  refine wl_nil ?_
  refine pn_then ?_
  refine wc_seq ?_
  refine wc_region ?_   -- region 1
  refine wl_det rfl rfl (det_build (cs := [_, _, _, _, _]) pl41 zr41 rfl rfl (by rfl)) rfl ?_
  refine wl_act (act_alloc (cs := [_, _, _, _, _]) zr41 rfl) rfl rfl rfl ?_
  rintro _ _ _ ⟨b1_1, rfl, rfl, rfl⟩
  refine wl_act0 (act_store (cells := [_, _, _, _, _]) (cs' := [_, _, _, _, _]) rfl rfl rfl s0 (by rfl) (of_decide_eq_true rfl) sz41 ⟨rfl, rfl, rfl, rfl, rfl, trivial⟩) rfl rfl ?_
  rintro _ _ _ ⟨rfl, rfl⟩
  refine wl_nil ?_
  refine pn_then ?_
  refine wc_seq ?_
  refine wc_region ?_   -- region 2
  refine wl_det rfl rfl (det_build (cs := [_, _]) pl25 zr25 rfl rfl (by rfl)) rfl ?_
  refine wl_det rfl rfl (det_loadN (cells := [_, _, _, _, _]) rfl m0 (by rfl) ag41 sz41) rfl ?_
  refine wl_act (act_litS lGEntry (vs := [_]) (cs := [_, _, _, _, _]) [(GEntry.mk 1 5 2 7 100)] un37 in41 rfl rfl rfl rfl rfl ⟨rfl, trivial⟩ (by rfl) rfl (litR_flat rfl)) rfl rfl rfl ?_
  rintro _ _ _ ⟨A2_2, rfl, rfl, rfl⟩
  refine wl_st (fun _ h => h.zeroF lGPosting none 0) ?_
  obtain ⟨r2_3, hr2_3, h⟩ := bind_some h
  refine wl_act (act_callL (cap := []) [eS lGEntry 41 A2_2 1 1 [(GEntry.mk 1 5 2 7 100)]] (W_ledger_Post (GLedger.mk 0 []) [(GEntry.mk 1 5 2 7 100)] none 0 0 A2_2 1 1 r2_3 hr2_3) plains_ledger_Post rfl rfl rfl bd32 rfl ⟨m0, trivial⟩ ⟨.inl m0, ⟨.inr ⟨_, m0, lent_eS⟩, trivial⟩⟩) rfl rfl rfl ?_
  rintro _ _ _ ⟨_, _, ⟨y2_3A0, y2_3n0, y2_3c0, rfl, rfl, rfl⟩, rfl, rfl⟩
  dsimp only [List.nil_append, List.cons_append]
  refine wl_know (fun _ h => h.lenO m0) (fun e => ?_)
  subst e
  refine wl_det rfl rfl (det_move rfl) rfl ?_
  refine wl_det rfl rfl (det_extract rfl rfl) rfl ?_
  refine wl_det rfl rfl (det_extract rfl rfl) rfl ?_
  refine wl_act (act_alloc (cs := [_, _]) zr25 rfl) rfl rfl rfl ?_
  rintro _ _ _ ⟨b2_7, rfl, rfl, rfl⟩
  refine wl_act0 (act_store (cells := [_, _]) (cs' := [_, _]) rfl rfl rfl s0 (by rfl) (of_decide_eq_true rfl) sz25 ⟨rfl, rfl, trivial⟩) rfl rfl ?_
  rintro _ _ _ ⟨rfl, rfl⟩
  refine wl_det rfl rfl (det_assign rfl) rfl ?_
  refine wl_nil ?_
  refine pn_then ?_
  refine wc_seq ?_
  refine wc_region ?_   -- region 3
  refine wl_det rfl rfl (det_loadN (cells := [_, _]) rfl m0 (by rfl) ag25 sz25) rfl ?_
  obtain ⟨r3_1, hr3_1, h⟩ := bind_some h
  refine wl_act (act_callL (cap := []) [eS lGPosting 73 y2_3A0 r2_3.1.Postings.length y2_3c0 r2_3.1.Postings] (W_ledger_Close r2_3.1 y2_3A0 r2_3.1.Postings.length y2_3c0 r3_1 hr3_1) plains_ledger_Close rfl rfl rfl bd30 rfl ⟨(ms m0), trivial⟩ ⟨.inr ⟨_, m0, lent_eS⟩, trivial⟩) rfl rfl rfl ?_
  rintro _ _ _ ⟨_, _, ⟨y3_1A0, y3_1n0, y3_1c0, rfl, rfl, rfl⟩, rfl, rfl⟩
  dsimp only [List.nil_append, List.cons_append]
  refine wl_know (fun _ h => h.lenO m0) (fun e => ?_)
  subst e
  refine wl_det rfl rfl (det_move rfl) rfl ?_
  refine wl_det rfl rfl (det_extract rfl rfl) rfl ?_
  refine wl_det rfl rfl (det_extract rfl rfl) rfl ?_
  refine wl_act0 (act_store (cells := [_, _]) (cs' := [_, _]) rfl rfl rfl (ss s0) (by rfl) (of_decide_eq_true rfl) sz25 ⟨rfl, rfl, trivial⟩) rfl rfl ?_
  rintro _ _ _ ⟨rfl, rfl⟩
  refine wl_det rfl rfl (det_assign rfl) rfl ?_
  refine wl_nil ?_
  refine pn_then ?_
  refine wc_seq ?_
  refine wc_region ?_   -- region 4
  refine wl_det rfl rfl (det_field rfl fd41_4 rfl) rfl ?_
  refine wl_act0 (act_store (cells := [_]) (cs' := [_, _, _, _, _]) rfl rfl rfl (ss (ss (ss (ss s0)))) (by rfl) (of_decide_eq_true rfl) sz3 ⟨rfl, trivial⟩) rfl rfl ?_
  rintro _ _ _ ⟨rfl, rfl⟩
  refine wl_nil ?_
  refine pn_then ?_
  refine wc_seq ?_
  refine wc_region ?_   -- region 5
  refine wl_det rfl rfl (det_loadN (cells := [_, _]) rfl (ms m0) (by rfl) ag25 sz25) rfl ?_
  refine wl_det rfl rfl (det_loadN (cells := [_, _, _, _, _]) rfl (ms (ms (ms (ms m0)))) (by rfl) ag41 sz41) rfl ?_
  refine wl_act (act_litS lGEntry (vs := [_]) (cs := [_, _, _, _, _]) [(GEntry.mk 1 5 2 7 80)] un37 in41 rfl rfl rfl rfl rfl ⟨rfl, trivial⟩ (by rfl) rfl (litR_flat rfl)) rfl rfl rfl ?_
  rintro _ _ _ ⟨A5_2, rfl, rfl, rfl⟩
  refine wl_st (fun _ h => h.shutS (rs r0)) ?_
  refine wl_st (fun _ h => h.shutS r0) ?_
  obtain ⟨r5_3, hr5_3, h⟩ := bind_some h
  refine wl_act (act_callS (cap := []) (W_ledger_Restate r3_1.1 [(GEntry.mk 1 5 2 7 80)] y3_1A0 r3_1.1.Postings.length y3_1c0 A5_2 1 1 r5_3 hr5_3) rfl rfl rfl bd35 rfl ⟨(ms m0), ⟨m0, trivial⟩⟩) rfl rfl rfl ?_
  rintro _ _ _ ⟨_, _, ⟨y5_3A0, y5_3n0, y5_3c0, y5_3A1, y5_3n1, y5_3c1, rfl, rfl, rfl⟩, rfl, rfl⟩
  dsimp only [List.nil_append, List.cons_append]
  refine wl_know (fun _ h => h.lenF m0) (fun e => ?_)
  subst e
  refine wl_know (fun _ h => h.lenO m0) (fun e => ?_)
  subst e
  refine wl_det rfl rfl (det_move rfl) rfl ?_
  refine wl_det rfl rfl (det_extract rfl rfl) rfl ?_
  refine wl_det rfl rfl (det_extract rfl rfl) rfl ?_
  refine wl_det rfl rfl (det_extract rfl rfl) rfl ?_
  refine wl_act (act_alloc (cs := [_, _]) zr25 rfl) rfl rfl rfl ?_
  rintro _ _ _ ⟨b5_8, rfl, rfl, rfl⟩
  refine wl_act0 (act_store (cells := [_, _]) (cs' := [_, _]) rfl rfl rfl s0 (by rfl) (of_decide_eq_true rfl) sz25 ⟨rfl, rfl, trivial⟩) rfl rfl ?_
  rintro _ _ _ ⟨rfl, rfl⟩
  refine wl_det rfl rfl (det_assign rfl) rfl ?_
  refine wl_det rfl rfl (det_assign rfl) rfl ?_
  refine wl_nil ?_
  refine pn_then ?_
  refine wc_seq ?_
  refine wc_region ?_   -- region 6
  refine wl_det rfl rfl (det_field rfl fd41_4 rfl) rfl ?_
  refine wl_act0 (act_store (cells := [_]) (cs' := [_, _, _, _, _]) rfl rfl rfl (ss (ss (ss (ss (ss s0))))) (by rfl) (of_decide_eq_true rfl) sz3 ⟨rfl, trivial⟩) rfl rfl ?_
  rintro _ _ _ ⟨rfl, rfl⟩
  refine wl_nil ?_
  refine pn_then ?_
  obtain ⟨q14, h, ho14⟩ := bind_some h
  refine wc_meetG (G := Bool × Unit) (fun (s14, _) => s14 = q14) (fun (s14, _) => [(0, .bool s14)]) (fun (_, _) => []) (fun (_, _) => []) ?_ ?_
  · rcases Bool.eq_false_or_eq_true (decide (r2_3.2 = 0)) with hg7_g33 | hg7_g33
    · have h := ifT h hg7_g33
      rcases Bool.eq_false_or_eq_true (decide (r3_1.2 = 0)) with hg7_g37 | hg7_g37
      · have h := ifT h hg7_g37
        rcases Bool.eq_false_or_eq_true (decide (r5_3.2.2 = 0)) with hg7_g41 | hg7_g41
        · have h := ifT h hg7_g41
          rcases Bool.eq_false_or_eq_true (decide ((r5_3.1.Postings.length : Int) = 2)) with hg7_g47 | hg7_g47
          · have h := ifT h hg7_g47
            obtain ⟨r7_21, hr7_21, h⟩ := bind_some h
            rcases Bool.eq_false_or_eq_true r7_21 with hg7_g54 | hg7_g54
            · have h := ifT h hg7_g54
              obtain ⟨k7_p1, h⟩ := chk_some h
              refine wc_st (fun _ h => h.openF m0 k7_p1) ?_
              obtain ⟨k7_p3, h⟩ := chk_some h
              refine dx_region 33 [[], [0], [0, 1], [0, 1, 2], [0, 1, 2, 3], [0, 1, 2, 3, 4], [0, 1, 2, 3, 4, 5], [0, 1, 2, 3, 4, 5, 6], [0, 1, 2, 3, 4, 5, 6, 7], [0, 1, 2, 3, 4, 5, 6, 7, 8], [0, 1, 2, 3, 4, 5, 6, 7, 8, 9], [0, 1, 2, 3, 4, 5, 6, 7, 8, 9, 10], [0, 1, 2, 3, 4, 5, 6, 7, 8, 9, 10, 11], [0, 1, 2, 3, 4, 5, 6, 7, 8, 9, 10, 11, 12], [0, 1, 2, 3, 4, 5, 6, 7, 8, 9, 10, 11, 12, 13], [0, 1, 2, 3, 4, 5, 6, 7, 8, 9, 10, 11, 12, 13, 14], [0, 1, 2, 3, 4, 5, 6, 7, 8, 9, 10, 11, 12, 13, 14, 15], [0, 1, 2, 3, 4, 5, 6, 7, 8, 9, 10, 11, 12, 13, 14, 15, 16], [0, 1, 2, 3, 4, 5, 6, 7, 8, 9, 10, 11, 12, 13, 14, 15, 16], [0, 1, 2, 3, 4, 5, 6, 7, 8, 9, 10, 11, 12, 13, 14, 15, 16, 18], [0, 1, 2, 3, 4, 5, 6, 7, 8, 9, 10, 11, 12, 13, 14, 15, 16, 18, 19], [0, 1, 2, 3, 4, 5, 6, 7, 8, 9, 10, 11, 12, 13, 14, 15, 16, 17, 18, 19, 20], [0, 1, 2, 3, 4, 5, 6, 7, 8, 9, 10, 11, 12, 13, 14, 15, 16, 17, 18, 19, 20, 21], [0, 1, 2, 3, 4, 5, 6, 7, 8, 9, 10, 11, 12, 13, 14, 15, 16, 17, 18, 19, 20, 21, 22], [0, 1, 2, 3, 4, 5, 6, 7, 8, 9, 10, 11, 12, 13, 14, 15, 16, 17, 18, 19, 20, 21, 22, 23], [0, 1, 2, 3, 4, 5, 6, 7, 8, 9, 10, 11, 12, 13, 14, 15, 16, 17, 18, 19, 20, 21, 22, 23, 24], [0, 1, 2, 3, 4, 5, 6, 7, 8, 9, 10, 11, 12, 13, 14, 15, 16, 17, 18, 19, 20, 21, 22, 23, 24, 25], [0, 1, 2, 3, 4, 5, 6, 7, 8, 9, 10, 11, 12, 13, 14, 15, 16, 17, 18, 19, 20, 21, 22, 23, 24, 25, 26], [0, 1, 2, 3, 4, 5, 6, 7, 8, 9, 10, 11, 12, 13, 14, 15, 16, 17, 18, 19, 20, 21, 22, 23], [0, 1, 2, 3, 4, 5, 6, 7, 8, 9, 10, 11, 12, 13, 14, 15, 16, 17, 18, 19, 20, 21, 22, 23, 28], [0, 1, 2, 3, 4, 5, 6, 7, 8, 9, 10, 11, 12, 13, 14, 15, 16, 17, 18, 19, 20, 21, 22, 23, 28, 29], [0, 1, 2, 3, 4, 5, 6, 7, 8, 9, 10, 11, 12, 13, 14, 15, 16, 17, 18, 19, 20, 21, 22, 23, 24, 25, 26, 27, 28, 29, 30], [0, 1, 2, 3, 4, 5, 6, 7, 8, 9, 10, 11, 12, 13, 14, 15, 16, 17, 18, 19, 20, 21, 22, 23, 24, 25, 26, 27, 28, 29, 30, 31], [0, 1, 2, 3, 4, 5, 6, 7, 8, 9, 10, 11, 12, 13, 14, 15, 16, 17, 18, 19, 20, 21, 22, 23, 24, 25, 26, 27, 28, 29, 30, 31, 32]] mixed (ord := (.det 0 (.det 1 (.det 2 (.det 3 (.det 4 (.det 5 (.det 6 (.det 7 (.det 8 (.det 9 (.det 10 (.det 11 (.det 12 (.det 13 (.det 14 (.det 15 (.det 16 (.det 17 (.det 18 (.det 19 (.alt 20 (.alt 21 (.det 22 (.det 23 (.det 24 (.det 25 (.det 26 (.det 27 (.det 28 (.det 29 (.det 30 (.det 31 (.det 32 .done))))))))))) .dead) .dead)))))))))))))))))))))) (by kernel_rfl) ?_   -- region 7
              refine hx_det rfl rfl rfl nofun (det_move rfl) rfl ?_
              refine hx_det rfl rfl rfl nofun (det_eql rfl rfl) rfl ?_
              refine hx_det rfl rfl rfl nofun (det_move rfl) rfl ?_
              refine hx_on rfl rfl rfl rfl rfl hg7_g33 nofun (det_move rfl) rfl ?_
              refine hx_on rfl rfl rfl rfl rfl hg7_g33 nofun (det_eql rfl rfl) rfl ?_
              refine hx_det rfl rfl rfl nofun (det_pick_on rfl hg7_g33 rfl rfl) rfl ?_
              refine hx_det rfl rfl rfl nofun (det_move rfl) rfl ?_
              refine hx_on rfl rfl rfl rfl rfl hg7_g37 nofun (det_move rfl) rfl ?_
              refine hx_on rfl rfl rfl rfl rfl hg7_g37 nofun (det_eql rfl rfl) rfl ?_
              refine hx_det rfl rfl rfl nofun (det_pick_on rfl hg7_g37 rfl rfl) rfl ?_
              refine hx_det rfl rfl rfl nofun (det_move rfl) rfl ?_
              refine hx_on rfl rfl rfl rfl rfl hg7_g41 nofun (det_field rfl fd25_1 rfl) rfl ?_
              refine hx_on rfl rfl rfl rfl rfl hg7_g41 nofun (det_load rfl m0 (by rfl) na23 us23) rfl ?_
              refine hx_on rfl rfl rfl rfl rfl hg7_g41 nofun (det_len rfl un23) rfl ?_
              refine hx_on rfl rfl rfl rfl rfl hg7_g41 nofun (det_eql rfl rfl) rfl ?_
              refine hx_det rfl rfl rfl nofun (det_pick_on rfl hg7_g41 rfl rfl) rfl ?_
              refine hx_det rfl rfl rfl nofun (det_move rfl) rfl ?_
              refine hx_on rfl rfl rfl rfl rfl hg7_g47 nofun (det_move rfl) rfl ?_
              refine hx_on rfl rfl rfl rfl rfl hg7_g47 nofun (det_loadN (cells := [_, _, _, _, _]) rfl (ms (ms (ms (ms (ms m0))))) (by rfl) ag41 sz41) rfl ?_
              refine hx_on rfl rfl rfl rfl rfl hg7_g47 nofun (det_build (cs := [_, _, _, _, _, _, _]) pl73 zr73 rfl rfl (by rfl)) rfl ?_
              refine hx_actG rfl rfl rfl rfl rfl hg7_g47 (act_litS lGPosting (vs := [_]) (cs := [_, _, _, _, _, _, _]) [(GPosting.mk 2 1 (GEntry.mk 1 5 2 7 (-20)))] un23 in73 rfl rfl rfl rfl rfl ⟨rfl, trivial⟩ (by rfl) rfl (litR_flat rfl)) rfl (by rintro _ _ _ ⟨A7_20, rfl, rfl, rfl⟩; first | exact ⟨_ :: [], [], rfl, rfl⟩ | exact ⟨[], [_], rfl, rfl⟩ | exact ⟨[], [], rfl, rfl⟩) ?_
              rintro _ _ _ ⟨A7_20, rfl, rfl, rfl⟩
              refine hx_actG rfl rfl rfl rfl rfl hg7_g47 (act_callL (cap := []) [eS lGPosting 73 y5_3A1 r5_3.2.1.length y5_3c1 r5_3.2.1, eS lGPosting 73 A7_20 1 1 [(GPosting.mk 2 1 (GEntry.mk 1 5 2 7 (-20)))]] (W_treatyref33_SamePostings r5_3.2.1 [(GPosting.mk 2 1 (GEntry.mk 1 5 2 7 (-20)))] y5_3A1 r5_3.2.1.length y5_3c1 A7_20 1 1 r7_21 hr7_21) plains_treatyref33_SamePostings rfl rfl rfl bd37 rfl ⟨(ms (ms m0)), ⟨m0, trivial⟩⟩ ⟨.inr ⟨_, m0, lent_eS⟩, ⟨.inr ⟨_, (ms m0), lent_eS⟩, trivial⟩⟩) rfl (by rintro _ _ _ ⟨_, _, _, rfl, rfl⟩; first | exact ⟨_, _, rfl, rfl⟩ | exact ⟨_, [], rfl, rfl⟩) ?_
              rintro _ _ _ ⟨_, _, ⟨rfl, rfl, rfl⟩, rfl, rfl⟩
              dsimp only [List.nil_append, List.cons_append]
              refine hx_det rfl rfl rfl nofun (det_pick_on rfl hg7_g47 rfl rfl) rfl ?_
              refine hx_det rfl rfl rfl nofun (det_move rfl) rfl ?_
              refine hx_on rfl rfl rfl rfl rfl hg7_g54 nofun (det_field rfl fd25_1 rfl) rfl ?_
              refine hx_on rfl rfl rfl rfl rfl hg7_g54 nofun (det_load rfl (ms m0) (by rfl) na23 us23) rfl ?_
              refine hx_on rfl rfl rfl rfl rfl hg7_g54 nofun (det_indexP rfl rfl (ms m0) k7_p1 m0 un23 sz73) rfl ?_
              refine hx_on rfl rfl rfl rfl rfl hg7_g54 nofun (det_loadP (off := 0) rfl m0 (by rfl) (by rfl) (loaded_n (cells := [_, _, _, _, _, _, _]) ag73 sz73)) rfl ?_
              refine hx_on rfl rfl rfl rfl rfl hg7_g54 nofun (det_move rfl) rfl ?_
              refine hx_on rfl rfl rfl rfl rfl hg7_g54 nofun (det_indexO rfl rfl (ms (ms m0)) k7_p3 un23 sz73) rfl ?_
              refine hx_on rfl rfl rfl rfl rfl hg7_g54 nofun (det_loadO (off := 0) rfl (ms (ms m0)) k7_p3 (by rfl) (by rfl) (loaded_n (cells := [_, _, _, _, _, _, _]) ag73 sz73)) rfl ?_
              refine hx_on rfl rfl rfl rfl rfl hg7_g54 nofun (det_eqlS [_, _, _, _, _, _, _] [_, _, _, _, _, _, _] eq73 rfl rfl rfl rfl) rfl ?_
              refine hx_det rfl rfl rfl nofun (det_pick_on rfl hg7_g54 rfl rfl) rfl ?_
              refine hx_end ?_
              refine wl_det rfl rfl (det_assign rfl) rfl ?_
              refine wl_nil ?_
              replace h := Option.some.inj h
              subst h
              exact pn_meetG ((decide ([(ix r5_3.1.Postings 1).Number, (ix r5_3.1.Postings 1).Period, (ix r5_3.1.Postings 1).Entry.Kind, (ix r5_3.1.Postings 1).Entry.Treaty, (ix r5_3.1.Postings 1).Entry.Party, (ix r5_3.1.Postings 1).Entry.Loss, (ix r5_3.1.Postings 1).Entry.Amount] = [(ix r5_3.2.1 0).Number, (ix r5_3.2.1 0).Period, (ix r5_3.2.1 0).Entry.Kind, (ix r5_3.2.1 0).Entry.Treaty, (ix r5_3.2.1 0).Entry.Party, (ix r5_3.2.1 0).Entry.Loss, (ix r5_3.2.1 0).Entry.Amount])), ()) rfl ⟨rfl, trivial⟩ (fun _ h => h.to trivial trivial)
            · have h := ifF h hg7_g54
              refine dx_region 33 [[], [0], [0, 1], [0, 1, 2], [0, 1, 2, 3], [0, 1, 2, 3, 4], [0, 1, 2, 3, 4, 5], [0, 1, 2, 3, 4, 5, 6], [0, 1, 2, 3, 4, 5, 6, 7], [0, 1, 2, 3, 4, 5, 6, 7, 8], [0, 1, 2, 3, 4, 5, 6, 7, 8, 9], [0, 1, 2, 3, 4, 5, 6, 7, 8, 9, 10], [0, 1, 2, 3, 4, 5, 6, 7, 8, 9, 10, 11], [0, 1, 2, 3, 4, 5, 6, 7, 8, 9, 10, 11, 12], [0, 1, 2, 3, 4, 5, 6, 7, 8, 9, 10, 11, 12, 13], [0, 1, 2, 3, 4, 5, 6, 7, 8, 9, 10, 11, 12, 13, 14], [0, 1, 2, 3, 4, 5, 6, 7, 8, 9, 10, 11, 12, 13, 14, 15], [0, 1, 2, 3, 4, 5, 6, 7, 8, 9, 10, 11, 12, 13, 14, 15, 16], [0, 1, 2, 3, 4, 5, 6, 7, 8, 9, 10, 11, 12, 13, 14, 15, 16], [0, 1, 2, 3, 4, 5, 6, 7, 8, 9, 10, 11, 12, 13, 14, 15, 16, 18], [0, 1, 2, 3, 4, 5, 6, 7, 8, 9, 10, 11, 12, 13, 14, 15, 16, 18, 19], [0, 1, 2, 3, 4, 5, 6, 7, 8, 9, 10, 11, 12, 13, 14, 15, 16, 17, 18, 19, 20], [0, 1, 2, 3, 4, 5, 6, 7, 8, 9, 10, 11, 12, 13, 14, 15, 16, 17, 18, 19, 20, 21], [0, 1, 2, 3, 4, 5, 6, 7, 8, 9, 10, 11, 12, 13, 14, 15, 16, 17, 18, 19, 20, 21, 22], [0, 1, 2, 3, 4, 5, 6, 7, 8, 9, 10, 11, 12, 13, 14, 15, 16, 17, 18, 19, 20, 21, 22, 23], [0, 1, 2, 3, 4, 5, 6, 7, 8, 9, 10, 11, 12, 13, 14, 15, 16, 17, 18, 19, 20, 21, 22, 23, 24], [0, 1, 2, 3, 4, 5, 6, 7, 8, 9, 10, 11, 12, 13, 14, 15, 16, 17, 18, 19, 20, 21, 22, 23, 24, 25], [0, 1, 2, 3, 4, 5, 6, 7, 8, 9, 10, 11, 12, 13, 14, 15, 16, 17, 18, 19, 20, 21, 22, 23, 24, 25, 26], [0, 1, 2, 3, 4, 5, 6, 7, 8, 9, 10, 11, 12, 13, 14, 15, 16, 17, 18, 19, 20, 21, 22, 23], [0, 1, 2, 3, 4, 5, 6, 7, 8, 9, 10, 11, 12, 13, 14, 15, 16, 17, 18, 19, 20, 21, 22, 23, 28], [0, 1, 2, 3, 4, 5, 6, 7, 8, 9, 10, 11, 12, 13, 14, 15, 16, 17, 18, 19, 20, 21, 22, 23, 28, 29], [0, 1, 2, 3, 4, 5, 6, 7, 8, 9, 10, 11, 12, 13, 14, 15, 16, 17, 18, 19, 20, 21, 22, 23, 24, 25, 26, 27, 28, 29, 30], [0, 1, 2, 3, 4, 5, 6, 7, 8, 9, 10, 11, 12, 13, 14, 15, 16, 17, 18, 19, 20, 21, 22, 23, 24, 25, 26, 27, 28, 29, 30, 31], [0, 1, 2, 3, 4, 5, 6, 7, 8, 9, 10, 11, 12, 13, 14, 15, 16, 17, 18, 19, 20, 21, 22, 23, 24, 25, 26, 27, 28, 29, 30, 31, 32]] mixed (ord := (.det 0 (.det 1 (.det 2 (.det 3 (.det 4 (.det 5 (.det 6 (.det 7 (.det 8 (.det 9 (.det 10 (.det 11 (.det 12 (.det 13 (.det 14 (.det 15 (.det 16 (.det 17 (.det 18 (.det 19 (.alt 20 (.alt 21 (.det 22 (.det 23 (.det 24 (.det 25 (.det 26 (.det 27 (.det 28 (.det 29 (.det 30 (.det 31 (.det 32 .done))))))))))) .dead) .dead)))))))))))))))))))))) (by kernel_rfl) ?_   -- region 7
              refine hx_det rfl rfl rfl nofun (det_move rfl) rfl ?_
              refine hx_det rfl rfl rfl nofun (det_eql rfl rfl) rfl ?_
              refine hx_det rfl rfl rfl nofun (det_move rfl) rfl ?_
              refine hx_on rfl rfl rfl rfl rfl hg7_g33 nofun (det_move rfl) rfl ?_
              refine hx_on rfl rfl rfl rfl rfl hg7_g33 nofun (det_eql rfl rfl) rfl ?_
              refine hx_det rfl rfl rfl nofun (det_pick_on rfl hg7_g33 rfl rfl) rfl ?_
              refine hx_det rfl rfl rfl nofun (det_move rfl) rfl ?_
              refine hx_on rfl rfl rfl rfl rfl hg7_g37 nofun (det_move rfl) rfl ?_
              refine hx_on rfl rfl rfl rfl rfl hg7_g37 nofun (det_eql rfl rfl) rfl ?_
              refine hx_det rfl rfl rfl nofun (det_pick_on rfl hg7_g37 rfl rfl) rfl ?_
              refine hx_det rfl rfl rfl nofun (det_move rfl) rfl ?_
              refine hx_on rfl rfl rfl rfl rfl hg7_g41 nofun (det_field rfl fd25_1 rfl) rfl ?_
              refine hx_on rfl rfl rfl rfl rfl hg7_g41 nofun (det_load rfl m0 (by rfl) na23 us23) rfl ?_
              refine hx_on rfl rfl rfl rfl rfl hg7_g41 nofun (det_len rfl un23) rfl ?_
              refine hx_on rfl rfl rfl rfl rfl hg7_g41 nofun (det_eql rfl rfl) rfl ?_
              refine hx_det rfl rfl rfl nofun (det_pick_on rfl hg7_g41 rfl rfl) rfl ?_
              refine hx_det rfl rfl rfl nofun (det_move rfl) rfl ?_
              refine hx_on rfl rfl rfl rfl rfl hg7_g47 nofun (det_move rfl) rfl ?_
              refine hx_on rfl rfl rfl rfl rfl hg7_g47 nofun (det_loadN (cells := [_, _, _, _, _]) rfl (ms (ms (ms (ms (ms m0))))) (by rfl) ag41 sz41) rfl ?_
              refine hx_on rfl rfl rfl rfl rfl hg7_g47 nofun (det_build (cs := [_, _, _, _, _, _, _]) pl73 zr73 rfl rfl (by rfl)) rfl ?_
              refine hx_actG rfl rfl rfl rfl rfl hg7_g47 (act_litS lGPosting (vs := [_]) (cs := [_, _, _, _, _, _, _]) [(GPosting.mk 2 1 (GEntry.mk 1 5 2 7 (-20)))] un23 in73 rfl rfl rfl rfl rfl ⟨rfl, trivial⟩ (by rfl) rfl (litR_flat rfl)) rfl (by rintro _ _ _ ⟨A7_20, rfl, rfl, rfl⟩; first | exact ⟨_ :: [], [], rfl, rfl⟩ | exact ⟨[], [_], rfl, rfl⟩ | exact ⟨[], [], rfl, rfl⟩) ?_
              rintro _ _ _ ⟨A7_20, rfl, rfl, rfl⟩
              refine hx_actG rfl rfl rfl rfl rfl hg7_g47 (act_callL (cap := []) [eS lGPosting 73 y5_3A1 r5_3.2.1.length y5_3c1 r5_3.2.1, eS lGPosting 73 A7_20 1 1 [(GPosting.mk 2 1 (GEntry.mk 1 5 2 7 (-20)))]] (W_treatyref33_SamePostings r5_3.2.1 [(GPosting.mk 2 1 (GEntry.mk 1 5 2 7 (-20)))] y5_3A1 r5_3.2.1.length y5_3c1 A7_20 1 1 r7_21 hr7_21) plains_treatyref33_SamePostings rfl rfl rfl bd37 rfl ⟨(ms (ms m0)), ⟨m0, trivial⟩⟩ ⟨.inr ⟨_, m0, lent_eS⟩, ⟨.inr ⟨_, (ms m0), lent_eS⟩, trivial⟩⟩) rfl (by rintro _ _ _ ⟨_, _, _, rfl, rfl⟩; first | exact ⟨_, _, rfl, rfl⟩ | exact ⟨_, [], rfl, rfl⟩) ?_
              rintro _ _ _ ⟨_, _, ⟨rfl, rfl, rfl⟩, rfl, rfl⟩
              dsimp only [List.nil_append, List.cons_append]
              refine hx_det rfl rfl rfl nofun (det_pick_on rfl hg7_g47 rfl rfl) rfl ?_
              refine hx_det rfl rfl rfl nofun (det_move rfl) rfl ?_
              refine hx_off rfl rfl rfl rfl rfl hg7_g54 rfl ?_
              refine hx_off rfl rfl rfl rfl rfl hg7_g54 rfl ?_
              refine hx_off rfl rfl rfl rfl rfl hg7_g54 rfl ?_
              refine hx_off rfl rfl rfl rfl rfl hg7_g54 rfl ?_
              refine hx_off rfl rfl rfl rfl rfl hg7_g54 rfl ?_
              refine hx_off rfl rfl rfl rfl rfl hg7_g54 rfl ?_
              refine hx_off rfl rfl rfl rfl rfl hg7_g54 rfl ?_
              refine hx_off rfl rfl rfl rfl rfl hg7_g54 rfl ?_
              refine hx_det rfl rfl rfl nofun (det_pick_off rfl hg7_g54 rfl rfl) rfl ?_
              refine hx_end ?_
              refine wl_det rfl rfl (det_assign rfl) rfl ?_
              refine wl_nil ?_
              replace h := Option.some.inj h
              subst h
              exact pn_meetG (false, ()) rfl ⟨rfl, trivial⟩ (fun _ h => h.to trivial trivial)
          · have h := ifF h hg7_g47
            refine dx_region 33 [[], [0], [0, 1], [0, 1, 2], [0, 1, 2, 3], [0, 1, 2, 3, 4], [0, 1, 2, 3, 4, 5], [0, 1, 2, 3, 4, 5, 6], [0, 1, 2, 3, 4, 5, 6, 7], [0, 1, 2, 3, 4, 5, 6, 7, 8], [0, 1, 2, 3, 4, 5, 6, 7, 8, 9], [0, 1, 2, 3, 4, 5, 6, 7, 8, 9, 10], [0, 1, 2, 3, 4, 5, 6, 7, 8, 9, 10, 11], [0, 1, 2, 3, 4, 5, 6, 7, 8, 9, 10, 11, 12], [0, 1, 2, 3, 4, 5, 6, 7, 8, 9, 10, 11, 12, 13], [0, 1, 2, 3, 4, 5, 6, 7, 8, 9, 10, 11, 12, 13, 14], [0, 1, 2, 3, 4, 5, 6, 7, 8, 9, 10, 11, 12, 13, 14, 15], [0, 1, 2, 3, 4, 5, 6, 7, 8, 9, 10, 11, 12, 13, 14, 15, 16], [0, 1, 2, 3, 4, 5, 6, 7, 8, 9, 10, 11, 12, 13, 14, 15, 16], [0, 1, 2, 3, 4, 5, 6, 7, 8, 9, 10, 11, 12, 13, 14, 15, 16, 18], [0, 1, 2, 3, 4, 5, 6, 7, 8, 9, 10, 11, 12, 13, 14, 15, 16, 18, 19], [0, 1, 2, 3, 4, 5, 6, 7, 8, 9, 10, 11, 12, 13, 14, 15, 16, 17, 18, 19, 20], [0, 1, 2, 3, 4, 5, 6, 7, 8, 9, 10, 11, 12, 13, 14, 15, 16, 17, 18, 19, 20, 21], [0, 1, 2, 3, 4, 5, 6, 7, 8, 9, 10, 11, 12, 13, 14, 15, 16, 17, 18, 19, 20, 21, 22], [0, 1, 2, 3, 4, 5, 6, 7, 8, 9, 10, 11, 12, 13, 14, 15, 16, 17, 18, 19, 20, 21, 22, 23], [0, 1, 2, 3, 4, 5, 6, 7, 8, 9, 10, 11, 12, 13, 14, 15, 16, 17, 18, 19, 20, 21, 22, 23, 24], [0, 1, 2, 3, 4, 5, 6, 7, 8, 9, 10, 11, 12, 13, 14, 15, 16, 17, 18, 19, 20, 21, 22, 23, 24, 25], [0, 1, 2, 3, 4, 5, 6, 7, 8, 9, 10, 11, 12, 13, 14, 15, 16, 17, 18, 19, 20, 21, 22, 23, 24, 25, 26], [0, 1, 2, 3, 4, 5, 6, 7, 8, 9, 10, 11, 12, 13, 14, 15, 16, 17, 18, 19, 20, 21, 22, 23], [0, 1, 2, 3, 4, 5, 6, 7, 8, 9, 10, 11, 12, 13, 14, 15, 16, 17, 18, 19, 20, 21, 22, 23, 28], [0, 1, 2, 3, 4, 5, 6, 7, 8, 9, 10, 11, 12, 13, 14, 15, 16, 17, 18, 19, 20, 21, 22, 23, 28, 29], [0, 1, 2, 3, 4, 5, 6, 7, 8, 9, 10, 11, 12, 13, 14, 15, 16, 17, 18, 19, 20, 21, 22, 23, 24, 25, 26, 27, 28, 29, 30], [0, 1, 2, 3, 4, 5, 6, 7, 8, 9, 10, 11, 12, 13, 14, 15, 16, 17, 18, 19, 20, 21, 22, 23, 24, 25, 26, 27, 28, 29, 30, 31], [0, 1, 2, 3, 4, 5, 6, 7, 8, 9, 10, 11, 12, 13, 14, 15, 16, 17, 18, 19, 20, 21, 22, 23, 24, 25, 26, 27, 28, 29, 30, 31, 32]] mixed (ord := (.det 0 (.det 1 (.det 2 (.det 3 (.det 4 (.det 5 (.det 6 (.det 7 (.det 8 (.det 9 (.det 10 (.det 11 (.det 12 (.det 13 (.det 14 (.det 15 (.det 16 (.det 17 (.det 18 (.det 19 (.det 20 (.det 21 (.det 22 (.det 23 (.det 24 (.det 25 (.det 26 (.det 27 (.det 28 (.det 29 (.det 30 (.det 31 (.det 32 .done)))))))))))))))))))))))))))))))))) (by kernel_rfl) ?_   -- region 7
            refine hx_det rfl rfl rfl nofun (det_move rfl) rfl ?_
            refine hx_det rfl rfl rfl nofun (det_eql rfl rfl) rfl ?_
            refine hx_det rfl rfl rfl nofun (det_move rfl) rfl ?_
            refine hx_on rfl rfl rfl rfl rfl hg7_g33 nofun (det_move rfl) rfl ?_
            refine hx_on rfl rfl rfl rfl rfl hg7_g33 nofun (det_eql rfl rfl) rfl ?_
            refine hx_det rfl rfl rfl nofun (det_pick_on rfl hg7_g33 rfl rfl) rfl ?_
            refine hx_det rfl rfl rfl nofun (det_move rfl) rfl ?_
            refine hx_on rfl rfl rfl rfl rfl hg7_g37 nofun (det_move rfl) rfl ?_
            refine hx_on rfl rfl rfl rfl rfl hg7_g37 nofun (det_eql rfl rfl) rfl ?_
            refine hx_det rfl rfl rfl nofun (det_pick_on rfl hg7_g37 rfl rfl) rfl ?_
            refine hx_det rfl rfl rfl nofun (det_move rfl) rfl ?_
            refine hx_on rfl rfl rfl rfl rfl hg7_g41 nofun (det_field rfl fd25_1 rfl) rfl ?_
            refine hx_on rfl rfl rfl rfl rfl hg7_g41 nofun (det_load rfl m0 (by rfl) na23 us23) rfl ?_
            refine hx_on rfl rfl rfl rfl rfl hg7_g41 nofun (det_len rfl un23) rfl ?_
            refine hx_on rfl rfl rfl rfl rfl hg7_g41 nofun (det_eql rfl rfl) rfl ?_
            refine hx_det rfl rfl rfl nofun (det_pick_on rfl hg7_g41 rfl rfl) rfl ?_
            refine hx_det rfl rfl rfl nofun (det_move rfl) rfl ?_
            refine hx_off rfl rfl rfl rfl rfl hg7_g47 rfl ?_
            refine hx_off rfl rfl rfl rfl rfl hg7_g47 rfl ?_
            refine hx_off rfl rfl rfl rfl rfl hg7_g47 rfl ?_
            refine hx_off rfl rfl rfl rfl rfl hg7_g47 rfl ?_
            refine hx_off rfl rfl rfl rfl rfl hg7_g47 rfl ?_
            refine hx_det rfl rfl rfl nofun (det_pick_off rfl hg7_g47 rfl rfl) rfl ?_
            refine hx_det rfl rfl rfl nofun (det_move rfl) rfl ?_
            refine hx_off rfl rfl rfl rfl rfl rfl rfl ?_
            refine hx_off rfl rfl rfl rfl rfl rfl rfl ?_
            refine hx_off rfl rfl rfl rfl rfl rfl rfl ?_
            refine hx_off rfl rfl rfl rfl rfl rfl rfl ?_
            refine hx_off rfl rfl rfl rfl rfl rfl rfl ?_
            refine hx_off rfl rfl rfl rfl rfl rfl rfl ?_
            refine hx_off rfl rfl rfl rfl rfl rfl rfl ?_
            refine hx_off rfl rfl rfl rfl rfl rfl rfl ?_
            refine hx_det rfl rfl rfl nofun (det_pick_off rfl rfl rfl rfl) rfl ?_
            refine hx_end ?_
            refine wl_det rfl rfl (det_assign rfl) rfl ?_
            refine wl_nil ?_
            replace h := Option.some.inj h
            subst h
            exact pn_meetG (false, ()) rfl ⟨rfl, trivial⟩ (fun _ h => h.to trivial trivial)
        · have h := ifF h hg7_g41
          refine dx_region 33 [[], [0], [0, 1], [0, 1, 2], [0, 1, 2, 3], [0, 1, 2, 3, 4], [0, 1, 2, 3, 4, 5], [0, 1, 2, 3, 4, 5, 6], [0, 1, 2, 3, 4, 5, 6, 7], [0, 1, 2, 3, 4, 5, 6, 7, 8], [0, 1, 2, 3, 4, 5, 6, 7, 8, 9], [0, 1, 2, 3, 4, 5, 6, 7, 8, 9, 10], [0, 1, 2, 3, 4, 5, 6, 7, 8, 9, 10, 11], [0, 1, 2, 3, 4, 5, 6, 7, 8, 9, 10, 11, 12], [0, 1, 2, 3, 4, 5, 6, 7, 8, 9, 10, 11, 12, 13], [0, 1, 2, 3, 4, 5, 6, 7, 8, 9, 10, 11, 12, 13, 14], [0, 1, 2, 3, 4, 5, 6, 7, 8, 9, 10, 11, 12, 13, 14, 15], [0, 1, 2, 3, 4, 5, 6, 7, 8, 9, 10, 11, 12, 13, 14, 15, 16], [0, 1, 2, 3, 4, 5, 6, 7, 8, 9, 10, 11, 12, 13, 14, 15, 16], [0, 1, 2, 3, 4, 5, 6, 7, 8, 9, 10, 11, 12, 13, 14, 15, 16, 18], [0, 1, 2, 3, 4, 5, 6, 7, 8, 9, 10, 11, 12, 13, 14, 15, 16, 18, 19], [0, 1, 2, 3, 4, 5, 6, 7, 8, 9, 10, 11, 12, 13, 14, 15, 16, 17, 18, 19, 20], [0, 1, 2, 3, 4, 5, 6, 7, 8, 9, 10, 11, 12, 13, 14, 15, 16, 17, 18, 19, 20, 21], [0, 1, 2, 3, 4, 5, 6, 7, 8, 9, 10, 11, 12, 13, 14, 15, 16, 17, 18, 19, 20, 21, 22], [0, 1, 2, 3, 4, 5, 6, 7, 8, 9, 10, 11, 12, 13, 14, 15, 16, 17, 18, 19, 20, 21, 22, 23], [0, 1, 2, 3, 4, 5, 6, 7, 8, 9, 10, 11, 12, 13, 14, 15, 16, 17, 18, 19, 20, 21, 22, 23, 24], [0, 1, 2, 3, 4, 5, 6, 7, 8, 9, 10, 11, 12, 13, 14, 15, 16, 17, 18, 19, 20, 21, 22, 23, 24, 25], [0, 1, 2, 3, 4, 5, 6, 7, 8, 9, 10, 11, 12, 13, 14, 15, 16, 17, 18, 19, 20, 21, 22, 23, 24, 25, 26], [0, 1, 2, 3, 4, 5, 6, 7, 8, 9, 10, 11, 12, 13, 14, 15, 16, 17, 18, 19, 20, 21, 22, 23], [0, 1, 2, 3, 4, 5, 6, 7, 8, 9, 10, 11, 12, 13, 14, 15, 16, 17, 18, 19, 20, 21, 22, 23, 28], [0, 1, 2, 3, 4, 5, 6, 7, 8, 9, 10, 11, 12, 13, 14, 15, 16, 17, 18, 19, 20, 21, 22, 23, 28, 29], [0, 1, 2, 3, 4, 5, 6, 7, 8, 9, 10, 11, 12, 13, 14, 15, 16, 17, 18, 19, 20, 21, 22, 23, 24, 25, 26, 27, 28, 29, 30], [0, 1, 2, 3, 4, 5, 6, 7, 8, 9, 10, 11, 12, 13, 14, 15, 16, 17, 18, 19, 20, 21, 22, 23, 24, 25, 26, 27, 28, 29, 30, 31], [0, 1, 2, 3, 4, 5, 6, 7, 8, 9, 10, 11, 12, 13, 14, 15, 16, 17, 18, 19, 20, 21, 22, 23, 24, 25, 26, 27, 28, 29, 30, 31, 32]] mixed (ord := (.det 0 (.det 1 (.det 2 (.det 3 (.det 4 (.det 5 (.det 6 (.det 7 (.det 8 (.det 9 (.det 10 (.det 11 (.det 12 (.det 13 (.det 14 (.det 15 (.det 16 (.det 17 (.det 18 (.det 19 (.det 20 (.det 21 (.det 22 (.det 23 (.det 24 (.det 25 (.det 26 (.det 27 (.det 28 (.det 29 (.det 30 (.det 31 (.det 32 .done)))))))))))))))))))))))))))))))))) (by kernel_rfl) ?_   -- region 7
          refine hx_det rfl rfl rfl nofun (det_move rfl) rfl ?_
          refine hx_det rfl rfl rfl nofun (det_eql rfl rfl) rfl ?_
          refine hx_det rfl rfl rfl nofun (det_move rfl) rfl ?_
          refine hx_on rfl rfl rfl rfl rfl hg7_g33 nofun (det_move rfl) rfl ?_
          refine hx_on rfl rfl rfl rfl rfl hg7_g33 nofun (det_eql rfl rfl) rfl ?_
          refine hx_det rfl rfl rfl nofun (det_pick_on rfl hg7_g33 rfl rfl) rfl ?_
          refine hx_det rfl rfl rfl nofun (det_move rfl) rfl ?_
          refine hx_on rfl rfl rfl rfl rfl hg7_g37 nofun (det_move rfl) rfl ?_
          refine hx_on rfl rfl rfl rfl rfl hg7_g37 nofun (det_eql rfl rfl) rfl ?_
          refine hx_det rfl rfl rfl nofun (det_pick_on rfl hg7_g37 rfl rfl) rfl ?_
          refine hx_det rfl rfl rfl nofun (det_move rfl) rfl ?_
          refine hx_off rfl rfl rfl rfl rfl hg7_g41 rfl ?_
          refine hx_off rfl rfl rfl rfl rfl hg7_g41 rfl ?_
          refine hx_off rfl rfl rfl rfl rfl hg7_g41 rfl ?_
          refine hx_off rfl rfl rfl rfl rfl hg7_g41 rfl ?_
          refine hx_det rfl rfl rfl nofun (det_pick_off rfl hg7_g41 rfl rfl) rfl ?_
          refine hx_det rfl rfl rfl nofun (det_move rfl) rfl ?_
          refine hx_off rfl rfl rfl rfl rfl rfl rfl ?_
          refine hx_off rfl rfl rfl rfl rfl rfl rfl ?_
          refine hx_off rfl rfl rfl rfl rfl rfl rfl ?_
          refine hx_off rfl rfl rfl rfl rfl rfl rfl ?_
          refine hx_off rfl rfl rfl rfl rfl rfl rfl ?_
          refine hx_det rfl rfl rfl nofun (det_pick_off rfl rfl rfl rfl) rfl ?_
          refine hx_det rfl rfl rfl nofun (det_move rfl) rfl ?_
          refine hx_off rfl rfl rfl rfl rfl rfl rfl ?_
          refine hx_off rfl rfl rfl rfl rfl rfl rfl ?_
          refine hx_off rfl rfl rfl rfl rfl rfl rfl ?_
          refine hx_off rfl rfl rfl rfl rfl rfl rfl ?_
          refine hx_off rfl rfl rfl rfl rfl rfl rfl ?_
          refine hx_off rfl rfl rfl rfl rfl rfl rfl ?_
          refine hx_off rfl rfl rfl rfl rfl rfl rfl ?_
          refine hx_off rfl rfl rfl rfl rfl rfl rfl ?_
          refine hx_det rfl rfl rfl nofun (det_pick_off rfl rfl rfl rfl) rfl ?_
          refine hx_end ?_
          refine wl_det rfl rfl (det_assign rfl) rfl ?_
          refine wl_nil ?_
          replace h := Option.some.inj h
          subst h
          exact pn_meetG (false, ()) rfl ⟨rfl, trivial⟩ (fun _ h => h.to trivial trivial)
      · have h := ifF h hg7_g37
        refine dx_region 33 [[], [0], [0, 1], [0, 1, 2], [0, 1, 2, 3], [0, 1, 2, 3, 4], [0, 1, 2, 3, 4, 5], [0, 1, 2, 3, 4, 5, 6], [0, 1, 2, 3, 4, 5, 6, 7], [0, 1, 2, 3, 4, 5, 6, 7, 8], [0, 1, 2, 3, 4, 5, 6, 7, 8, 9], [0, 1, 2, 3, 4, 5, 6, 7, 8, 9, 10], [0, 1, 2, 3, 4, 5, 6, 7, 8, 9, 10, 11], [0, 1, 2, 3, 4, 5, 6, 7, 8, 9, 10, 11, 12], [0, 1, 2, 3, 4, 5, 6, 7, 8, 9, 10, 11, 12, 13], [0, 1, 2, 3, 4, 5, 6, 7, 8, 9, 10, 11, 12, 13, 14], [0, 1, 2, 3, 4, 5, 6, 7, 8, 9, 10, 11, 12, 13, 14, 15], [0, 1, 2, 3, 4, 5, 6, 7, 8, 9, 10, 11, 12, 13, 14, 15, 16], [0, 1, 2, 3, 4, 5, 6, 7, 8, 9, 10, 11, 12, 13, 14, 15, 16], [0, 1, 2, 3, 4, 5, 6, 7, 8, 9, 10, 11, 12, 13, 14, 15, 16, 18], [0, 1, 2, 3, 4, 5, 6, 7, 8, 9, 10, 11, 12, 13, 14, 15, 16, 18, 19], [0, 1, 2, 3, 4, 5, 6, 7, 8, 9, 10, 11, 12, 13, 14, 15, 16, 17, 18, 19, 20], [0, 1, 2, 3, 4, 5, 6, 7, 8, 9, 10, 11, 12, 13, 14, 15, 16, 17, 18, 19, 20, 21], [0, 1, 2, 3, 4, 5, 6, 7, 8, 9, 10, 11, 12, 13, 14, 15, 16, 17, 18, 19, 20, 21, 22], [0, 1, 2, 3, 4, 5, 6, 7, 8, 9, 10, 11, 12, 13, 14, 15, 16, 17, 18, 19, 20, 21, 22, 23], [0, 1, 2, 3, 4, 5, 6, 7, 8, 9, 10, 11, 12, 13, 14, 15, 16, 17, 18, 19, 20, 21, 22, 23, 24], [0, 1, 2, 3, 4, 5, 6, 7, 8, 9, 10, 11, 12, 13, 14, 15, 16, 17, 18, 19, 20, 21, 22, 23, 24, 25], [0, 1, 2, 3, 4, 5, 6, 7, 8, 9, 10, 11, 12, 13, 14, 15, 16, 17, 18, 19, 20, 21, 22, 23, 24, 25, 26], [0, 1, 2, 3, 4, 5, 6, 7, 8, 9, 10, 11, 12, 13, 14, 15, 16, 17, 18, 19, 20, 21, 22, 23], [0, 1, 2, 3, 4, 5, 6, 7, 8, 9, 10, 11, 12, 13, 14, 15, 16, 17, 18, 19, 20, 21, 22, 23, 28], [0, 1, 2, 3, 4, 5, 6, 7, 8, 9, 10, 11, 12, 13, 14, 15, 16, 17, 18, 19, 20, 21, 22, 23, 28, 29], [0, 1, 2, 3, 4, 5, 6, 7, 8, 9, 10, 11, 12, 13, 14, 15, 16, 17, 18, 19, 20, 21, 22, 23, 24, 25, 26, 27, 28, 29, 30], [0, 1, 2, 3, 4, 5, 6, 7, 8, 9, 10, 11, 12, 13, 14, 15, 16, 17, 18, 19, 20, 21, 22, 23, 24, 25, 26, 27, 28, 29, 30, 31], [0, 1, 2, 3, 4, 5, 6, 7, 8, 9, 10, 11, 12, 13, 14, 15, 16, 17, 18, 19, 20, 21, 22, 23, 24, 25, 26, 27, 28, 29, 30, 31, 32]] mixed (ord := (.det 0 (.det 1 (.det 2 (.det 3 (.det 4 (.det 5 (.det 6 (.det 7 (.det 8 (.det 9 (.det 10 (.det 11 (.det 12 (.det 13 (.det 14 (.det 15 (.det 16 (.det 17 (.det 18 (.det 19 (.det 20 (.det 21 (.det 22 (.det 23 (.det 24 (.det 25 (.det 26 (.det 27 (.det 28 (.det 29 (.det 30 (.det 31 (.det 32 .done)))))))))))))))))))))))))))))))))) (by kernel_rfl) ?_   -- region 7
        refine hx_det rfl rfl rfl nofun (det_move rfl) rfl ?_
        refine hx_det rfl rfl rfl nofun (det_eql rfl rfl) rfl ?_
        refine hx_det rfl rfl rfl nofun (det_move rfl) rfl ?_
        refine hx_on rfl rfl rfl rfl rfl hg7_g33 nofun (det_move rfl) rfl ?_
        refine hx_on rfl rfl rfl rfl rfl hg7_g33 nofun (det_eql rfl rfl) rfl ?_
        refine hx_det rfl rfl rfl nofun (det_pick_on rfl hg7_g33 rfl rfl) rfl ?_
        refine hx_det rfl rfl rfl nofun (det_move rfl) rfl ?_
        refine hx_off rfl rfl rfl rfl rfl hg7_g37 rfl ?_
        refine hx_off rfl rfl rfl rfl rfl hg7_g37 rfl ?_
        refine hx_det rfl rfl rfl nofun (det_pick_off rfl hg7_g37 rfl rfl) rfl ?_
        refine hx_det rfl rfl rfl nofun (det_move rfl) rfl ?_
        refine hx_off rfl rfl rfl rfl rfl rfl rfl ?_
        refine hx_off rfl rfl rfl rfl rfl rfl rfl ?_
        refine hx_off rfl rfl rfl rfl rfl rfl rfl ?_
        refine hx_off rfl rfl rfl rfl rfl rfl rfl ?_
        refine hx_det rfl rfl rfl nofun (det_pick_off rfl rfl rfl rfl) rfl ?_
        refine hx_det rfl rfl rfl nofun (det_move rfl) rfl ?_
        refine hx_off rfl rfl rfl rfl rfl rfl rfl ?_
        refine hx_off rfl rfl rfl rfl rfl rfl rfl ?_
        refine hx_off rfl rfl rfl rfl rfl rfl rfl ?_
        refine hx_off rfl rfl rfl rfl rfl rfl rfl ?_
        refine hx_off rfl rfl rfl rfl rfl rfl rfl ?_
        refine hx_det rfl rfl rfl nofun (det_pick_off rfl rfl rfl rfl) rfl ?_
        refine hx_det rfl rfl rfl nofun (det_move rfl) rfl ?_
        refine hx_off rfl rfl rfl rfl rfl rfl rfl ?_
        refine hx_off rfl rfl rfl rfl rfl rfl rfl ?_
        refine hx_off rfl rfl rfl rfl rfl rfl rfl ?_
        refine hx_off rfl rfl rfl rfl rfl rfl rfl ?_
        refine hx_off rfl rfl rfl rfl rfl rfl rfl ?_
        refine hx_off rfl rfl rfl rfl rfl rfl rfl ?_
        refine hx_off rfl rfl rfl rfl rfl rfl rfl ?_
        refine hx_off rfl rfl rfl rfl rfl rfl rfl ?_
        refine hx_det rfl rfl rfl nofun (det_pick_off rfl rfl rfl rfl) rfl ?_
        refine hx_end ?_
        refine wl_det rfl rfl (det_assign rfl) rfl ?_
        refine wl_nil ?_
        replace h := Option.some.inj h
        subst h
        exact pn_meetG (false, ()) rfl ⟨rfl, trivial⟩ (fun _ h => h.to trivial trivial)
    · have h := ifF h hg7_g33
      refine dx_region 33 [[], [0], [0, 1], [0, 1, 2], [0, 1, 2, 3], [0, 1, 2, 3, 4], [0, 1, 2, 3, 4, 5], [0, 1, 2, 3, 4, 5, 6], [0, 1, 2, 3, 4, 5, 6, 7], [0, 1, 2, 3, 4, 5, 6, 7, 8], [0, 1, 2, 3, 4, 5, 6, 7, 8, 9], [0, 1, 2, 3, 4, 5, 6, 7, 8, 9, 10], [0, 1, 2, 3, 4, 5, 6, 7, 8, 9, 10, 11], [0, 1, 2, 3, 4, 5, 6, 7, 8, 9, 10, 11, 12], [0, 1, 2, 3, 4, 5, 6, 7, 8, 9, 10, 11, 12, 13], [0, 1, 2, 3, 4, 5, 6, 7, 8, 9, 10, 11, 12, 13, 14], [0, 1, 2, 3, 4, 5, 6, 7, 8, 9, 10, 11, 12, 13, 14, 15], [0, 1, 2, 3, 4, 5, 6, 7, 8, 9, 10, 11, 12, 13, 14, 15, 16], [0, 1, 2, 3, 4, 5, 6, 7, 8, 9, 10, 11, 12, 13, 14, 15, 16], [0, 1, 2, 3, 4, 5, 6, 7, 8, 9, 10, 11, 12, 13, 14, 15, 16, 18], [0, 1, 2, 3, 4, 5, 6, 7, 8, 9, 10, 11, 12, 13, 14, 15, 16, 18, 19], [0, 1, 2, 3, 4, 5, 6, 7, 8, 9, 10, 11, 12, 13, 14, 15, 16, 17, 18, 19, 20], [0, 1, 2, 3, 4, 5, 6, 7, 8, 9, 10, 11, 12, 13, 14, 15, 16, 17, 18, 19, 20, 21], [0, 1, 2, 3, 4, 5, 6, 7, 8, 9, 10, 11, 12, 13, 14, 15, 16, 17, 18, 19, 20, 21, 22], [0, 1, 2, 3, 4, 5, 6, 7, 8, 9, 10, 11, 12, 13, 14, 15, 16, 17, 18, 19, 20, 21, 22, 23], [0, 1, 2, 3, 4, 5, 6, 7, 8, 9, 10, 11, 12, 13, 14, 15, 16, 17, 18, 19, 20, 21, 22, 23, 24], [0, 1, 2, 3, 4, 5, 6, 7, 8, 9, 10, 11, 12, 13, 14, 15, 16, 17, 18, 19, 20, 21, 22, 23, 24, 25], [0, 1, 2, 3, 4, 5, 6, 7, 8, 9, 10, 11, 12, 13, 14, 15, 16, 17, 18, 19, 20, 21, 22, 23, 24, 25, 26], [0, 1, 2, 3, 4, 5, 6, 7, 8, 9, 10, 11, 12, 13, 14, 15, 16, 17, 18, 19, 20, 21, 22, 23], [0, 1, 2, 3, 4, 5, 6, 7, 8, 9, 10, 11, 12, 13, 14, 15, 16, 17, 18, 19, 20, 21, 22, 23, 28], [0, 1, 2, 3, 4, 5, 6, 7, 8, 9, 10, 11, 12, 13, 14, 15, 16, 17, 18, 19, 20, 21, 22, 23, 28, 29], [0, 1, 2, 3, 4, 5, 6, 7, 8, 9, 10, 11, 12, 13, 14, 15, 16, 17, 18, 19, 20, 21, 22, 23, 24, 25, 26, 27, 28, 29, 30], [0, 1, 2, 3, 4, 5, 6, 7, 8, 9, 10, 11, 12, 13, 14, 15, 16, 17, 18, 19, 20, 21, 22, 23, 24, 25, 26, 27, 28, 29, 30, 31], [0, 1, 2, 3, 4, 5, 6, 7, 8, 9, 10, 11, 12, 13, 14, 15, 16, 17, 18, 19, 20, 21, 22, 23, 24, 25, 26, 27, 28, 29, 30, 31, 32]] mixed (ord := (.det 0 (.det 1 (.det 2 (.det 3 (.det 4 (.det 5 (.det 6 (.det 7 (.det 8 (.det 9 (.det 10 (.det 11 (.det 12 (.det 13 (.det 14 (.det 15 (.det 16 (.det 17 (.det 18 (.det 19 (.det 20 (.det 21 (.det 22 (.det 23 (.det 24 (.det 25 (.det 26 (.det 27 (.det 28 (.det 29 (.det 30 (.det 31 (.det 32 .done)))))))))))))))))))))))))))))))))) (by kernel_rfl) ?_   -- region 7
      refine hx_det rfl rfl rfl nofun (det_move rfl) rfl ?_
      refine hx_det rfl rfl rfl nofun (det_eql rfl rfl) rfl ?_
      refine hx_det rfl rfl rfl nofun (det_move rfl) rfl ?_
      refine hx_off rfl rfl rfl rfl rfl hg7_g33 rfl ?_
      refine hx_off rfl rfl rfl rfl rfl hg7_g33 rfl ?_
      refine hx_det rfl rfl rfl nofun (det_pick_off rfl hg7_g33 rfl rfl) rfl ?_
      refine hx_det rfl rfl rfl nofun (det_move rfl) rfl ?_
      refine hx_off rfl rfl rfl rfl rfl rfl rfl ?_
      refine hx_off rfl rfl rfl rfl rfl rfl rfl ?_
      refine hx_det rfl rfl rfl nofun (det_pick_off rfl rfl rfl rfl) rfl ?_
      refine hx_det rfl rfl rfl nofun (det_move rfl) rfl ?_
      refine hx_off rfl rfl rfl rfl rfl rfl rfl ?_
      refine hx_off rfl rfl rfl rfl rfl rfl rfl ?_
      refine hx_off rfl rfl rfl rfl rfl rfl rfl ?_
      refine hx_off rfl rfl rfl rfl rfl rfl rfl ?_
      refine hx_det rfl rfl rfl nofun (det_pick_off rfl rfl rfl rfl) rfl ?_
      refine hx_det rfl rfl rfl nofun (det_move rfl) rfl ?_
      refine hx_off rfl rfl rfl rfl rfl rfl rfl ?_
      refine hx_off rfl rfl rfl rfl rfl rfl rfl ?_
      refine hx_off rfl rfl rfl rfl rfl rfl rfl ?_
      refine hx_off rfl rfl rfl rfl rfl rfl rfl ?_
      refine hx_off rfl rfl rfl rfl rfl rfl rfl ?_
      refine hx_det rfl rfl rfl nofun (det_pick_off rfl rfl rfl rfl) rfl ?_
      refine hx_det rfl rfl rfl nofun (det_move rfl) rfl ?_
      refine hx_off rfl rfl rfl rfl rfl rfl rfl ?_
      refine hx_off rfl rfl rfl rfl rfl rfl rfl ?_
      refine hx_off rfl rfl rfl rfl rfl rfl rfl ?_
      refine hx_off rfl rfl rfl rfl rfl rfl rfl ?_
      refine hx_off rfl rfl rfl rfl rfl rfl rfl ?_
      refine hx_off rfl rfl rfl rfl rfl rfl rfl ?_
      refine hx_off rfl rfl rfl rfl rfl rfl rfl ?_
      refine hx_off rfl rfl rfl rfl rfl rfl rfl ?_
      refine hx_det rfl rfl rfl nofun (det_pick_off rfl rfl rfl rfl) rfl ?_
      refine hx_end ?_
      refine wl_det rfl rfl (det_assign rfl) rfl ?_
      refine wl_nil ?_
      replace h := Option.some.inj h
      subst h
      exact pn_meetG (false, ()) rfl ⟨rfl, trivial⟩ (fun _ h => h.to trivial trivial)
  rintro ⟨s14, _⟩ e14
  dsimp only at e14 ⊢
  subst e14
  have h := ho14
  refine wc_ret ?_
  replace h := Option.some.inj h
  subst h
  refine pn_ret (vs := [_]) rfl ⟨rfl, trivial⟩ ⟨rfl, rfl, rfl⟩ (fun _ h => h.to trivial trivial)
def Q_treatymade_New (r : GDeck) : Value → List Ent → List Fact → Prop := fun v θ κ => ∃ (pb0 : Nat), ∃ (pA1 : Option Addr), ∃ (pn1 : Nat), ∃ (pc1 : Nat), v = .pointer (some ⟨pb0, 0, none⟩) ∧ θ = [eBlk pb0 94 [.slice pA1 pn1 pc1, .int .i64 r.At]] ∧ κ = [fV (lSlice (lInt .i64)) (.slice pA1 pn1 pc1) r.L]
set_option maxHeartbeats 4000000 in
set_option maxRecDepth 100000 in
theorem W_treatymade_New (a0 : (List Int)) (A0 : Option Addr) (n0 : Nat) (c0 : Nat) (r : GDeck) (h : treatymade_New a0 = some r) : Spec Try.prog 46 [.slice A0 n0 c0] [] [fV (lSlice (lInt .i64)) (.slice A0 n0 c0) a0] (Q_treatymade_New r) := by
  unfold treatymade_New at h
  refine spec_of (σ := [(0, _)]) Try.func46 rfl rfl rfl rfl ?_
  intro C
  refine wc_know (fun _ h => h.lenF m0) (fun e => ?_)
  subst e
  refine wc_seq ?_
  refine wc_region ?_   -- region 0
  refine wl_det rfl rfl (det_assign rfl) rfl ?_
  refine wl_nil ?_
  refine pn_then ?_
  refine wc_seq ?_
  refine wc_region ?_   -- region 1
  refine wl_det rfl rfl (det_move rfl) rfl ?_
  refine wl_det rfl rfl (det_build (cs := [_, _]) pl94 zr94 rfl rfl (by rfl)) rfl ?_
  refine wl_act (act_box (cs := [_, _]) rfl rfl) rfl rfl rfl ?_
  rintro _ _ _ ⟨b1_2, rfl, rfl, rfl⟩
  refine wl_det rfl rfl (det_assign rfl) rfl ?_
  refine wl_nil ?_
  refine pn_then ?_
  refine wc_ret ?_
  replace h := Option.some.inj h
  subst h
  refine pn_ret (vs := [_]) rfl ⟨rfl, trivial⟩ ⟨b1_2, A0, a0.length, c0, rfl, rfl, rfl⟩ (fun _ h => h.to ⟨_, r0, trivial⟩ ⟨m0, trivial⟩)
def Q_treatymade2_New (r : GDeck) : Value → List Ent → List Fact → Prop := fun v θ κ => ∃ (pb0 : Nat), ∃ (pA1 : Option Addr), ∃ (pn1 : Nat), ∃ (pc1 : Nat), v = .pointer (some ⟨pb0, 0, none⟩) ∧ θ = [eBlk pb0 94 [.slice pA1 pn1 pc1, .int .i64 r.At]] ∧ κ = [fV (lSlice (lInt .i64)) (.slice pA1 pn1 pc1) r.L]
set_option maxHeartbeats 4000000 in
set_option maxRecDepth 100000 in
theorem W_treatymade2_New (a0 : (List Int)) (A0 : Option Addr) (n0 : Nat) (c0 : Nat) (r : GDeck) (h : treatymade2_New a0 = some r) : Spec Try.prog 14 [.slice A0 n0 c0] [] [fV (lSlice (lInt .i64)) (.slice A0 n0 c0) a0] (Q_treatymade2_New r) := by
  unfold treatymade2_New at h
  refine spec_of (σ := [(0, _)]) Try.func14 rfl rfl rfl rfl ?_
  intro C
  refine wc_know (fun _ h => h.lenF m0) (fun e => ?_)
  subst e
  refine wc_seq ?_
  refine wc_region ?_   -- region 0
  refine wl_det rfl rfl (det_assign rfl) rfl ?_
  refine wl_nil ?_
  refine pn_then ?_
  refine wc_seq ?_
  refine wc_region ?_   -- region 1
  refine wl_det rfl rfl (det_move rfl) rfl ?_
  obtain ⟨r1_1, hr1_1, h⟩ := bind_some h
  refine wl_act (act_callS (cap := []) (W_treatymade_New a0 A0 a0.length c0 r1_1 hr1_1) rfl rfl rfl bd46 rfl ⟨m0, trivial⟩) rfl rfl rfl ?_
  rintro _ _ _ ⟨_, _, ⟨y1_1b0, y1_1A1, y1_1n1, y1_1c1, rfl, rfl, rfl⟩, rfl, rfl⟩
  dsimp only [List.nil_append, List.cons_append]
  refine wl_know (fun _ h => h.lenF m0) (fun e => ?_)
  subst e
  refine wl_det rfl rfl (det_assign rfl) rfl ?_
  refine wl_nil ?_
  refine pn_then ?_
  refine wc_ret ?_
  replace h := Option.some.inj h
  subst h
  refine pn_ret (vs := [_]) rfl ⟨rfl, trivial⟩ ⟨y1_1b0, y1_1A1, r1_1.L.length, y1_1c1, rfl, rfl, rfl⟩ (fun _ h => h.to ⟨_, r0, trivial⟩ ⟨m0, trivial⟩)
def Q_treatymade_Deck_Next (Ba0 : Nat) (r : Int × GDeck) : Value → List Ent → List Fact → Prop := fun v θ κ => ∃ (pA0 : Option Addr), ∃ (pn0 : Nat), ∃ (pc0 : Nat), v = .int .i64 r.1 ∧ θ = [eBlk Ba0 94 [.slice pA0 pn0 pc0, .int .i64 r.2.At]] ∧ κ = [fV (lSlice (lInt .i64)) (.slice pA0 pn0 pc0) r.2.L]
set_option maxHeartbeats 4000000 in
set_option maxRecDepth 100000 in
theorem W_treatymade_Deck_Next (a0 : GDeck) (a1 : Int) (Ba0 : Nat) (A1 : Option Addr) (n1 : Nat) (c1 : Nat) (r : Int × GDeck) (h : treatymade_Deck_Next a0 a1 = some r) : Spec Try.prog 34 [.pointer (some ⟨Ba0, 0, none⟩), .int .i64 a1] [eBlk Ba0 94 [.slice A1 n1 c1, .int .i64 a0.At]] [fV (lSlice (lInt .i64)) (.slice A1 n1 c1) a0.L] (Q_treatymade_Deck_Next Ba0 r) := by
  unfold treatymade_Deck_Next at h
  refine spec_of (σ := [(0, _), (1, _)]) Try.func34 rfl rfl rfl rfl ?_
  intro C
  refine wc_know (fun _ h => h.lenF m0) (fun e => ?_)
  subst e
  refine wc_seq ?_
  refine wc_region ?_   -- region 0
  refine wl_det rfl rfl (det_assign rfl) rfl ?_
  refine wl_nil ?_
  refine pn_then ?_
  refine wc_seq ?_
  refine wc_seq ?_
  refine dx_region 10 [[], [0], [0, 1], [0, 1, 2], [], [4], [4, 5], [4, 5, 6], [4, 5, 6, 7], [0, 1, 2, 3, 4, 5, 6, 7, 8]] mixed (ord := (.det 0 (.det 1 (.det 2 (.det 3 (.det 4 (.det 5 (.det 6 (.det 7 (.det 8 (.det 9 .done))))))))))) (by kernel_rfl) ?_   -- region 1
  refine hx_det rfl rfl rfl nofun (det_move rfl) rfl ?_
  refine hx_det rfl rfl rfl nofun (det_nilCheckB rfl) rfl ?_
  refine hx_det rfl rfl rfl nofun (det_field rfl fd94_1 rfl) rfl ?_
  refine hx_det rfl rfl rfl nofun (det_load rfl m0 (by rfl) na3 us3) rfl ?_
  refine hx_det rfl rfl rfl nofun (det_move rfl) rfl ?_
  refine hx_det rfl rfl rfl nofun (det_nilCheckB rfl) rfl ?_
  refine hx_det rfl rfl rfl nofun (det_field rfl fd94_0 rfl) rfl ?_
  refine hx_det rfl rfl rfl nofun (det_load rfl m0 (by rfl) na22 us22) rfl ?_
  refine hx_det rfl rfl rfl nofun (det_len rfl un22) rfl ?_
  refine hx_det rfl rfl rfl nofun (det_geq rfl rfl) rfl ?_
  refine hx_end ?_
  refine wl_nil ?_
  refine pn_then ?_
  refine wc_cond rfl (fun cd5 => ?_) (fun cd5 => ?_)
  · have h := ifT h cd5
    refine wc_seq ?_
    refine wc_region ?_   -- region 2
    refine wl_det rfl rfl (det_assign rfl) rfl ?_
    refine wl_nil ?_
    refine pn_then ?_
    refine wc_ret ?_
    refine pr_then ?_
    replace h := Option.some.inj h
    subst h
    refine pn_ret (vs := [_]) rfl ⟨rfl, trivial⟩ ⟨A1, a0.L.length, c1, rfl, rfl, rfl⟩ (fun _ h => h.to ⟨_, r0, trivial⟩ ⟨m0, trivial⟩)
  · have h := ifF h cd5
    refine wc_skip ?_
    refine pn_then ?_
    refine wc_seq ?_
    refine wc_region ?_   -- region 3
    refine wl_det rfl rfl (det_move rfl) rfl ?_
    refine wl_det rfl rfl (det_nilCheckB rfl) rfl ?_
    refine wl_det rfl rfl (det_field rfl fd94_1 rfl) rfl ?_
    refine wl_det rfl rfl (det_load rfl m0 (by rfl) na3 us3) rfl ?_
    refine wl_det rfl rfl (det_add rfl rfl) rfl ?_
    refine wl_det rfl rfl (det_nilCheckB rfl) rfl ?_
    refine wl_det rfl rfl (det_field rfl fd94_1 rfl) rfl ?_
    refine wl_act0 (act_store (cells := [_]) (cs' := [_, _]) rfl rfl rfl s0 (by rfl) (of_decide_eq_true rfl) sz3 ⟨rfl, trivial⟩) rfl rfl ?_
    rintro _ _ _ ⟨rfl, rfl⟩
    refine wl_nil ?_
    refine pn_then ?_
    refine wc_seq ?_
    obtain ⟨k4_p1, h⟩ := chk_some h
    refine wc_st (fun _ h => h.openF m0 k4_p1) ?_
    obtain ⟨k4_p3, h⟩ := chk_some h
    refine dx_region 17 [[], [0], [0, 1], [0, 1, 2], [], [4], [4, 5], [4, 5, 6], [4, 5, 6, 7], [0, 1, 2, 3, 4, 5, 6, 7, 8], [0, 1, 2, 3, 4, 5, 6, 7, 8, 9], [], [0, 1, 2, 3, 4, 5, 6, 7, 8, 9, 10, 11], [], [0, 1, 2, 3, 4, 5, 6, 7, 8, 9, 10, 11, 12, 13], [], [0, 1, 2, 3, 4, 5, 6, 7, 8, 9, 10, 11, 12, 13, 14, 15], [0, 1, 2, 3, 4, 5, 6, 7, 8, 9, 10, 11, 12, 13, 14, 15, 16]] mixed (ord := (.det 0 (.det 1 (.det 2 (.det 3 (.det 4 (.det 5 (.det 6 (.det 7 (.det 8 (.det 9 (.det 10 (.det 11 (.det 12 (.det 13 (.det 14 (.det 15 (.det 16 .done)))))))))))))))))) (by kernel_rfl) ?_   -- region 4
    refine hx_det rfl rfl rfl nofun (det_move rfl) rfl ?_
    refine hx_det rfl rfl rfl nofun (det_nilCheckB rfl) rfl ?_
    refine hx_det rfl rfl rfl nofun (det_field rfl fd94_0 rfl) rfl ?_
    refine hx_det rfl rfl rfl nofun (det_load rfl m0 (by rfl) na22 us22) rfl ?_
    refine hx_det rfl rfl rfl nofun (det_move rfl) rfl ?_
    refine hx_det rfl rfl rfl nofun (det_nilCheckB rfl) rfl ?_
    refine hx_det rfl rfl rfl nofun (det_field rfl fd94_1 rfl) rfl ?_
    refine hx_det rfl rfl rfl nofun (det_load rfl m0 (by rfl) na3 us3) rfl ?_
    refine hx_det rfl rfl rfl nofun (det_sub rfl rfl) rfl ?_
    refine hx_det rfl rfl rfl nofun (det_indexP rfl rfl (ms m0) k4_p1 m0 un22 sz3) rfl ?_
    refine hx_det rfl rfl rfl nofun (det_loadP (off := 0) rfl m0 (by rfl) (by rfl) (loaded_1 na3 us3)) rfl ?_
    refine hx_det rfl rfl rfl nofun (det_move rfl) rfl ?_
    refine hx_det rfl rfl rfl nofun (det_remB rfl rfl k4_p3) rfl ?_
    refine hx_det rfl rfl rfl nofun (det_move rfl) rfl ?_
    refine hx_det rfl rfl rfl nofun (det_add rfl rfl) rfl ?_
    refine hx_det rfl rfl rfl nofun (det_move rfl) rfl ?_
    refine hx_det rfl rfl rfl nofun (det_remB rfl rfl k4_p3) rfl ?_
    refine hx_end ?_
    refine wl_det rfl rfl (det_assign rfl) rfl ?_
    refine wl_nil ?_
    refine pn_then ?_
    refine wc_ret ?_
    replace h := Option.some.inj h
    subst h
    refine pn_ret (vs := [_]) rfl ⟨rfl, trivial⟩ ⟨A1, a0.L.length, c1, rfl, rfl, rfl⟩ (fun _ h => h.to ⟨_, r0, trivial⟩ ⟨(ms m0), trivial⟩)
def Q_treatymade2_Small (Ba0 : Nat) (r : Int × GDeck) : Value → List Ent → List Fact → Prop := fun v θ κ => ∃ (pA0 : Option Addr), ∃ (pn0 : Nat), ∃ (pc0 : Nat), v = .int .i64 r.1 ∧ θ = [eBlk Ba0 94 [.slice pA0 pn0 pc0, .int .i64 r.2.At]] ∧ κ = [fV (lSlice (lInt .i64)) (.slice pA0 pn0 pc0) r.2.L]
set_option maxHeartbeats 4000000 in
set_option maxRecDepth 100000 in
theorem W_treatymade2_Small (a0 : GDeck) (Ba0 : Nat) (A1 : Option Addr) (n1 : Nat) (c1 : Nat) (r : Int × GDeck) (h : treatymade2_Small a0 = some r) : Spec Try.prog 62 [.pointer (some ⟨Ba0, 0, none⟩)] [eBlk Ba0 94 [.slice A1 n1 c1, .int .i64 a0.At]] [fV (lSlice (lInt .i64)) (.slice A1 n1 c1) a0.L] (Q_treatymade2_Small Ba0 r) := by
  unfold treatymade2_Small at h
  refine spec_of (σ := [(0, _)]) Try.func62 rfl rfl rfl rfl ?_
  intro C
  refine wc_know (fun _ h => h.lenF m0) (fun e => ?_)
  subst e
  refine wc_seq ?_
  refine wc_region ?_   -- region 0
  refine wl_det rfl rfl (det_assign rfl) rfl ?_
  refine wl_nil ?_
  refine pn_then ?_
  refine wc_seq ?_
  refine wc_seq ?_
  refine wc_region ?_   -- region 1
  refine wl_det rfl rfl (det_move rfl) rfl ?_
  obtain ⟨r1_1, hr1_1, h⟩ := bind_some h
  refine wl_act (act_callS (cap := []) (W_treatymade_Deck_Next a0 4 Ba0 A1 a0.L.length c1 r1_1 hr1_1) rfl rfl rfl bd34 ⟨_, r0, rfl⟩ ⟨m0, trivial⟩) rfl rfl rfl ?_
  rintro _ _ _ ⟨_, _, ⟨y1_1A0, y1_1n0, y1_1c0, rfl, rfl, rfl⟩, rfl, rfl⟩
  dsimp only [List.nil_append, List.cons_append]
  refine wl_know (fun _ h => h.lenF m0) (fun e => ?_)
  subst e
  refine wl_nil ?_
  refine pn_then ?_
  refine wc_block ?_
  refine wc_seq ?_
  refine wc_region ?_   -- region 2
  refine wl_det rfl rfl (det_eql rfl rfl) rfl ?_
  refine wl_det rfl rfl (det_assign rfl) rfl ?_
  refine wl_nil ?_
  refine pn_then ?_
  refine wc_cond rfl (fun cd8 => ?_) (fun cd8 => ?_)
  · have h := ifT h cd8
    refine wc_seq ?_
    refine wc_region ?_   -- region 3
    refine wl_det rfl rfl (det_move rfl) rfl ?_
    obtain ⟨r3_1, hr3_1, h⟩ := bind_some h
    refine wl_act (act_callS (cap := []) (W_treatymade_Deck_Next r1_1.2 4 Ba0 y1_1A0 r1_1.2.L.length y1_1c0 r3_1 hr3_1) rfl rfl rfl bd34 ⟨_, r0, rfl⟩ ⟨m0, trivial⟩) rfl rfl rfl ?_
    rintro _ _ _ ⟨_, _, ⟨y3_1A0, y3_1n0, y3_1c0, rfl, rfl, rfl⟩, rfl, rfl⟩
    dsimp only [List.nil_append, List.cons_append]
    refine wl_know (fun _ h => h.lenF m0) (fun e => ?_)
    subst e
    refine wl_det rfl rfl (det_assign rfl) rfl ?_
    refine wl_nil ?_
    refine pn_then ?_
    refine wc_ret ?_
    refine pr_block ?_
    refine pr_then ?_
    replace h := Option.some.inj h
    subst h
    refine pn_ret (vs := [_]) rfl ⟨rfl, trivial⟩ ⟨y3_1A0, r3_1.2.L.length, y3_1c0, rfl, rfl, rfl⟩ (fun _ h => h.to ⟨_, r0, trivial⟩ ⟨m0, trivial⟩)
  · have h := ifF h cd8
    obtain ⟨q11, h, ho11⟩ := bind_some h
    refine wc_meetG (G := Bool × Unit) (fun (s11, _) => s11 = q11) (fun (s11, _) => [(0, .pointer (some ⟨Ba0, 0, none⟩)), (9, .bool s11)]) (fun (_, _) => [eBlk Ba0 94 [.slice y1_1A0 r1_1.2.L.length y1_1c0, .int .i64 r1_1.2.At]]) (fun (_, _) => [fV (lSlice (lInt .i64)) (.slice y1_1A0 r1_1.2.L.length y1_1c0) r1_1.2.L]) ?_ ?_
    · refine wc_seq ?_
      refine wc_region ?_   -- region 4
      refine wl_det rfl rfl (det_eql rfl rfl) rfl ?_
      refine wl_det rfl rfl (det_assign rfl) rfl ?_
      refine wl_nil ?_
      refine pn_then ?_
      refine wc_cond rfl (fun cd14 => ?_) (fun cd14 => ?_)
      · have h := ifT h cd14
        refine wc_skip ?_
        replace h := Option.some.inj h
        subst h
        exact pn_meetG ((decide (r1_1.1 = 1)), ()) rfl ⟨rfl, rfl, trivial⟩ (fun _ h => h.to ⟨_, r0, trivial⟩ ⟨m0, trivial⟩)
      · have h := ifF h cd14
        refine wc_region ?_   -- region 5
        refine wl_det rfl rfl (det_eql rfl rfl) rfl ?_
        refine wl_det rfl rfl (det_assign rfl) rfl ?_
        refine wl_nil ?_
        replace h := Option.some.inj h
        subst h
        exact pn_meetG ((decide (r1_1.1 = 2)), ()) rfl ⟨rfl, rfl, trivial⟩ (fun _ h => h.to ⟨_, r0, trivial⟩ ⟨m0, trivial⟩)
    rintro ⟨s11, _⟩ e11
    dsimp only at e11 ⊢
    subst e11
    have h := ho11
    refine wc_cond rfl (fun cd16 => ?_) (fun cd16 => ?_)
    · have h := ifT h cd16
      refine wc_seq ?_
      refine wc_region ?_   -- region 6
      refine wl_det rfl rfl (det_move rfl) rfl ?_
      obtain ⟨r6_1, hr6_1, h⟩ := bind_some h
      refine wl_act (act_callS (cap := []) (W_treatymade_Deck_Next r1_1.2 1000 Ba0 y1_1A0 r1_1.2.L.length y1_1c0 r6_1 hr6_1) rfl rfl rfl bd34 ⟨_, r0, rfl⟩ ⟨m0, trivial⟩) rfl rfl rfl ?_
      rintro _ _ _ ⟨_, _, ⟨y6_1A0, y6_1n0, y6_1c0, rfl, rfl, rfl⟩, rfl, rfl⟩
      dsimp only [List.nil_append, List.cons_append]
      refine wl_know (fun _ h => h.lenF m0) (fun e => ?_)
      subst e
      refine wl_det rfl rfl (det_assign rfl) rfl ?_
      refine wl_nil ?_
      refine pn_then ?_
      refine wc_ret ?_
      refine pr_block ?_
      refine pr_then ?_
      replace h := Option.some.inj h
      subst h
      refine pn_ret (vs := [_]) rfl ⟨rfl, trivial⟩ ⟨y6_1A0, r6_1.2.L.length, y6_1c0, rfl, rfl, rfl⟩ (fun _ h => h.to ⟨_, r0, trivial⟩ ⟨m0, trivial⟩)
    · have h := ifF h cd16
      refine wc_skip ?_
      refine pn_block ?_
      refine pn_then ?_
      refine wc_seq ?_
      refine wc_region ?_   -- region 7
      refine wl_det rfl rfl (det_move rfl) rfl ?_
      obtain ⟨r7_1, hr7_1, h⟩ := bind_some h
      refine wl_act (act_callS (cap := []) (W_treatymade_Deck_Next r1_1.2 268435456 Ba0 y1_1A0 r1_1.2.L.length y1_1c0 r7_1 hr7_1) rfl rfl rfl bd34 ⟨_, r0, rfl⟩ ⟨m0, trivial⟩) rfl rfl rfl ?_
      rintro _ _ _ ⟨_, _, ⟨y7_1A0, y7_1n0, y7_1c0, rfl, rfl, rfl⟩, rfl, rfl⟩
      dsimp only [List.nil_append, List.cons_append]
      refine wl_know (fun _ h => h.lenF m0) (fun e => ?_)
      subst e
      refine wl_det rfl rfl (det_assign rfl) rfl ?_
      refine wl_nil ?_
      refine pn_then ?_
      refine wc_ret ?_
      replace h := Option.some.inj h
      subst h
      refine pn_ret (vs := [_]) rfl ⟨rfl, trivial⟩ ⟨y7_1A0, r7_1.2.L.length, y7_1c0, rfl, rfl, rfl⟩ (fun _ h => h.to ⟨_, r0, trivial⟩ ⟨m0, trivial⟩)
end Go.Proofs.Ytadkcelipefpmaa
