/- That functions of the program compute the plain programs of P. Written by a small program. -/
import Derived.Test.YtoodneljjhbfhaaKTab
import Derived.Test.YtoodneljjhbfhaaP
import Derived.Test.YtoodneljjhbfhaaKArr
import Derived.Test.YtoodneljjhbfhaaKSort
import Derived.Test.YtoodneljjhbfhaaSort64
import Derived.Test.YtoodneljjhbfhaaKBits
import Derived.Test.YtoodneljjhbfhaaBits
namespace Go.Proofs.Ytoodneljjhbfhaa
open Go.RowKit
def encGMutual (x : GMutual) : List Value := [.int .i64 x.Party, .int .i64 x.Owed, .int .i64 x.Owes]
def lGMutual : Lay GMutual := lFlat encGMutual 3 (fun _ => rfl) (fun _ u hu => by simp only [encGMutual, List.mem_cons, List.not_mem_nil, or_false] at hu; rcases hu with rfl | rfl | rfl <;> rfl)
def encGDividend (x : GDividend) : List Value := [.int .i64 x.Party, .int .i64 x.SetOff, .int .i64 x.Gets, .int .i64 x.Pays, .int .i64 x.Unpaid]
def lGDividend : Lay GDividend := lFlat encGDividend 5 (fun _ => rfl) (fun _ u hu => by simp only [encGDividend, List.mem_cons, List.not_mem_nil, or_false] at hu; rcases hu with rfl | rfl | rfl | rfl | rfl <;> rfl)
def lGDeck : Lay GDeck := lMap (fun x => (x.L, x.At)) (lPair (lSlice (lInt .i64)) (lInt .i64))
theorem viewGDeck {w : World} {S : Nat → Prop} {cs : List Value} {x : GDeck} (h : lGDeck.R w S cs x) : ∃ A0 c0, cs = [.slice A0 x.L.length c0, .int .i64 x.At] ∧ AllR w S [fV (lSlice (lInt .i64)) (.slice A0 x.L.length c0) x.L] := by
  obtain ⟨_, _, rfl, ⟨A0, _, c0, rfl, rfl, l0, e0⟩, rfl⟩ := h
  exact ⟨A0, c0, rfl, ⟨⟨_, _, _, rfl, rfl, l0, e0⟩, trivial⟩⟩
theorem mkGDeck {w : World} {S : Nat → Prop} {x : GDeck} {A0 : Option Addr} {n0 c0 : Nat}  (h : AllR w S [fV (lSlice (lInt .i64)) (.slice A0 n0 c0) x.L]) : lGDeck.R w S [.slice A0 n0 c0, .int .i64 x.At] x := by
  obtain ⟨k0, _⟩ := h
  exact ⟨_, _, rfl, k0, rfl⟩
theorem openGDeck {C : Cx} {η : List Ent} {ι : List Fact} {w : World} {A : Option Addr} {m c : Nat} {xs : List GDeck} (h : St C η ι w) (hf : fV (lSlice lGDeck) (.slice A m c) xs ∈ ι) {i : Int} (hi : inb xs i = true) : ∃ g : Option Addr × Nat, True ∧ St C η (fPt A (i.toNat * 2) [.slice g.1 (ix xs i).L.length g.2, .int .i64 (ix xs i).At] :: fV (lSlice (lInt .i64)) (.slice g.1 (ix xs i).L.length g.2) (ix xs i).L :: ι) w := by
  obtain ⟨cs, hs⟩ := h.openE hf hi
  obtain ⟨A0, c0, rfl, hr⟩ := viewGDeck (hs.facts _ (ms m0))
  exact ⟨(A0, c0), trivial, (hs.addR hr).subFacts (sub_mid (κ := [_]))⟩
theorem bd12 : bodyB Try.prog 12 = true := by kernel_rfl
theorem bd18 : bodyB Try.prog 18 = true := by kernel_rfl
theorem bd23 : bodyB Try.prog 23 = true := by kernel_rfl
theorem bd24 : bodyB Try.prog 24 = true := by kernel_rfl
theorem bd25 : bodyB Try.prog 25 = true := by kernel_rfl
theorem bd26 : bodyB Try.prog 26 = true := by kernel_rfl
theorem bd27 : bodyB Try.prog 27 = true := by kernel_rfl
theorem bd28 : bodyB Try.prog 28 = true := by kernel_rfl
theorem bd29 : bodyB Try.prog 29 = true := by kernel_rfl
theorem bd30 : bodyB Try.prog 30 = true := by kernel_rfl
theorem bd31 : bodyB Try.prog 31 = true := by kernel_rfl
theorem bd34 : bodyB Try.prog 34 = true := by kernel_rfl
theorem bd41 : bodyB Try.prog 41 = true := by kernel_rfl
theorem bd43 : bodyB Try.prog 43 = true := by kernel_rfl
theorem bd47 : bodyB Try.prog 47 = true := by kernel_rfl
theorem bd48 : bodyB Try.prog 48 = true := by kernel_rfl
theorem bd49 : bodyB Try.prog 49 = true := by kernel_rfl
theorem bd50 : bodyB Try.prog 50 = true := by kernel_rfl
theorem bd52 : bodyB Try.prog 52 = true := by kernel_rfl
theorem bd53 : bodyB Try.prog 53 = true := by kernel_rfl
theorem bd54 : bodyB Try.prog 54 = true := by kernel_rfl
theorem bd55 : bodyB Try.prog 55 = true := by kernel_rfl
theorem bd56 : bodyB Try.prog 56 = true := by kernel_rfl
theorem bd57 : bodyB Try.prog 57 = true := by kernel_rfl
theorem bd58 : bodyB Try.prog 58 = true := by kernel_rfl
theorem bd59 : bodyB Try.prog 59 = true := by kernel_rfl
theorem bd60 : bodyB Try.prog 60 = true := by kernel_rfl
theorem bd61 : bodyB Try.prog 61 = true := by kernel_rfl
theorem bd62 : bodyB Try.prog 62 = true := by kernel_rfl
theorem bd63 : bodyB Try.prog 63 = true := by kernel_rfl
theorem bd64 : bodyB Try.prog 64 = true := by kernel_rfl
theorem bd65 : bodyB Try.prog 65 = true := by kernel_rfl
theorem bd66 : bodyB Try.prog 66 = true := by kernel_rfl
theorem bd67 : bodyB Try.prog 67 = true := by kernel_rfl
theorem bd68 : bodyB Try.prog 68 = true := by kernel_rfl
theorem bd69 : bodyB Try.prog 69 = true := by kernel_rfl
theorem bd70 : bodyB Try.prog 70 = true := by kernel_rfl
def Q_insolvency_Validate (r : Int) : Value → List Ent → List Fact → Prop := fun v θ κ => v = .int .i64 r ∧ θ = [] ∧ κ = []
theorem plains_insolvency_Validate {r : Int} : ∀ v θ κ, Q_insolvency_Validate r v θ κ → Plains θ := by
  rintro _ _ _ ⟨rfl, rfl, rfl⟩
  exact trivial
set_option maxHeartbeats 4000000 in
set_option maxRecDepth 100000 in
theorem W_insolvency_Validate (a0 : (List GMutual)) (A0 : Option Addr) (n0 : Nat) (c0 : Nat) (r : Int) (h : insolvency_Validate a0 = some r) : Spec Try.prog 30 [.slice A0 n0 c0] [] [fV (lSlice lGMutual) (.slice A0 n0 c0) a0] (Q_insolvency_Validate r) := by
  unfold insolvency_Validate at h
  refine spec_of (σ := [(0, _)]) Try.func30 rfl rfl rfl rfl ?_
  intro C
  refine wc_know (fun _ h => h.lenF m0) (fun e => ?_)
  subst e
  refine wc_seq ?_
  refine wc_region ?_   -- region 0
  refine wl_det rfl rfl (det_assign rfl) rfl ?_
  refine wl_nil ?_
  refine pn_then ?_
  refine wc_seq ?_
  refine wc_seq ?_
  refine wc_region ?_   -- region 1
  refine wl_det rfl rfl (det_move rfl) rfl ?_
  refine wl_det rfl rfl (det_len rfl un36) rfl ?_
  refine wl_det rfl rfl (det_gtr rfl rfl) rfl ?_
  refine wl_nil ?_
  refine pn_then ?_
  refine wc_cond rfl (fun c5 => ?_) (fun c5 => ?_)
  · have h := ifT h c5
    refine wc_seq ?_
    refine wc_region ?_   -- region 2
    refine wl_det rfl rfl (det_assign rfl) rfl ?_
    refine wl_nil ?_
    refine pn_then ?_
    refine wc_ret ?_
    refine pr_then ?_
    replace h := Option.some.inj h
    subst h
    refine pn_ret (vs := [_]) rfl ⟨rfl, trivial⟩ ⟨rfl, rfl, rfl⟩ (fun _ h => h.to trivial trivial)
  · have h := ifF h c5
    refine wc_skip ?_
    refine pn_then ?_
    obtain ⟨q8, h, ho8⟩ := bind_some h
    refine wc_meetG (G := Unit × Unit) (fun (s8, _) => (.inl s8) = q8) (fun (_, _) => []) (fun (_, _) => []) (fun (_, _) => []) ?_ ?_
    · refine wc_seq ?_
      refine wc_region ?_   -- region 3
      refine wl_det rfl rfl (det_move rfl) rfl ?_
      refine wl_det rfl rfl (det_len rfl un36) rfl ?_
      refine wl_det rfl rfl (det_move rfl) rfl ?_
      refine wl_nil ?_
      refine pn_then ?_
      refine wc_block ?_
      obtain ⟨o12, h, ho12⟩ := bind_some h
      obtain ⟨k12, hk12⟩ := loopV_some.1 h
      refine wc_loop (G := Nat × Int × Unit) (fun g => IterN (insolvency_Validate_l12 a0) g.1 g.2.1 o12) (fun g => g.1) (fun (_, s12, _) => [(0, .slice A0 a0.length c0), (8, .slice A0 a0.length c0), (9, .int .i64 (a0.length : Int)), (10, .int .i64 s12)]) (fun (_, _, _) => []) (fun (_, _, _) => [fV (lSlice lGMutual) (.slice A0 a0.length c0) a0]) (k12, 0, ()) hk12 ⟨rfl, rfl, rfl, rfl, trivial⟩ (fun _ h => h.to trivial ⟨m0, trivial⟩) ?_
      rintro ⟨k12, s12, _⟩ hI
      obtain ⟨k12, rfl, q12, h, g12⟩ := IterN.pos hI
      dsimp only at h ⊢
      unfold insolvency_Validate_l12 at h
      refine wc_seq ?_
      refine wc_region ?_   -- region 4
      refine wl_det rfl rfl (det_lss rfl rfl) rfl ?_
      refine wl_nil ?_
      refine pn_then ?_
      refine wc_seq ?_
      refine wc_cond rfl (fun c16 => ?_) (fun c16 => ?_)
      · have h := ifT h c16
        refine wc_skip ?_
        refine pn_then ?_
        refine wc_seq ?_
        refine wc_block ?_
        refine wc_seq ?_
        refine wc_region ?_   -- region 5
        refine wl_det rfl rfl (det_move rfl) rfl ?_
        obtain ⟨k5_1, h⟩ := chk_some h
        refine wl_st (fun _ h => h.openF m0 k5_1) ?_
        refine wl_det rfl rfl (det_indexP rfl rfl (ms m0) k5_1 m0 un36 sz48) rfl ?_
        refine wl_det rfl rfl (det_loadP (off := 0) rfl m0 (by rfl) (by rfl) (loaded_n (cells := [_, _, _]) ag48 sz48)) rfl ?_
        refine wl_act (act_alloc (cs := [_, _, _]) zr48 rfl) rfl rfl rfl ?_
        rintro _ _ _ ⟨b5_3, rfl, rfl, rfl⟩
        refine wl_det rfl rfl (det_assign rfl) rfl ?_
        refine wl_act0 (act_store (cells := [_, _, _]) (cs' := [_, _, _]) rfl rfl rfl s0 (by rfl) (of_decide_eq_true rfl) sz48 ⟨rfl, rfl, rfl, trivial⟩) rfl rfl ?_
        rintro _ _ _ ⟨rfl, rfl⟩
        refine wl_nil ?_
        refine pn_then ?_
        refine wc_seq ?_
        refine wc_seq ?_
        refine wc_region ?_   -- region 6
        refine wl_det rfl rfl (det_field rfl fd48_0 rfl) rfl ?_
        refine wl_det rfl rfl (det_load rfl m0 (by rfl) na3 us3) rfl ?_
        refine wl_det rfl rfl (det_lss rfl rfl) rfl ?_
        refine wl_det rfl rfl (det_move rfl) rfl ?_
        refine wl_way (decide ((ix a0 s12).Party < 0)) ((decide ((ix a0 s12).Party < 0)) || (decide (15 < (ix a0 s12).Party))) 4 22 (fun hg => ?_) (fun hg => ?_) ?_
        · have hg6_7 := hg
          refine wl_off rfl rfl rfl rfl rfl hg6_7 rfl ?_
          refine wl_off rfl rfl rfl rfl rfl hg6_7 rfl ?_
          refine wl_off rfl rfl rfl rfl rfl hg6_7 rfl ?_
          refine wl_det rfl rfl (det_or_on (r := (decide (15 < (ix a0 s12).Party))) rfl rfl rfl hg6_7) rfl ?_
          exact wl_nil (pn_qnE (ext_cons rfl (ext_skip rfl (ext_skip rfl (ext_skip rfl (ext_skip rfl ext_refl))))) (fun _ h => h))
        · have hg6_7a := hg
          refine wl_on rfl rfl rfl rfl hg6_7a ?_
          refine wl_det rfl rfl (det_field rfl fd48_0 rfl) rfl ?_
          refine wl_on rfl rfl rfl rfl hg6_7a ?_
          refine wl_det rfl rfl (det_load rfl m0 (by rfl) na3 us3) rfl ?_
          refine wl_on rfl rfl rfl rfl hg6_7a ?_
          refine wl_det rfl rfl (det_gtr rfl rfl) rfl ?_
          refine wl_det rfl rfl (det_or_off rfl rfl rfl hg6_7a) rfl ?_
          exact wl_nil (pn_qnE (ext_cons rfl (ext_skip rfl (ext_skip rfl (ext_skip rfl (ext_skip rfl ext_refl))))) (fun _ h => h))
        refine wl_det rfl rfl (det_move rfl) rfl ?_
        refine wl_way ((decide ((ix a0 s12).Party < 0)) || (decide (15 < (ix a0 s12).Party))) (((decide ((ix a0 s12).Party < 0)) || (decide (15 < (ix a0 s12).Party))) || (decide ((ix a0 s12).Owed < 0))) 4 27 (fun hg => ?_) (fun hg => ?_) ?_
        · have hg6_12 := hg
          refine wl_off rfl rfl rfl rfl rfl hg6_12 rfl ?_
          refine wl_off rfl rfl rfl rfl rfl hg6_12 rfl ?_
          refine wl_off rfl rfl rfl rfl rfl hg6_12 rfl ?_
          refine wl_det rfl rfl (det_or_on (r := (decide ((ix a0 s12).Owed < 0))) rfl rfl rfl hg6_12) rfl ?_
          exact wl_nil (pn_qnE (ext_cons rfl (ext_skip rfl (ext_skip rfl (ext_skip rfl (ext_skip rfl ext_refl))))) (fun _ h => h))
        · have hg6_12a := hg
          refine wl_on rfl rfl rfl rfl hg6_12a ?_
          refine wl_det rfl rfl (det_field rfl fd48_1 rfl) rfl ?_
          refine wl_on rfl rfl rfl rfl hg6_12a ?_
          refine wl_det rfl rfl (det_load rfl m0 (by rfl) na3 us3) rfl ?_
          refine wl_on rfl rfl rfl rfl hg6_12a ?_
          refine wl_det rfl rfl (det_lss rfl rfl) rfl ?_
          refine wl_det rfl rfl (det_or_off rfl rfl rfl hg6_12a) rfl ?_
          exact wl_nil (pn_qnE (ext_cons rfl (ext_skip rfl (ext_skip rfl (ext_skip rfl (ext_skip rfl ext_refl))))) (fun _ h => h))
        refine wl_det rfl rfl (det_move rfl) rfl ?_
        refine wl_way (((decide ((ix a0 s12).Party < 0)) || (decide (15 < (ix a0 s12).Party))) || (decide ((ix a0 s12).Owed < 0))) ((((decide ((ix a0 s12).Party < 0)) || (decide (15 < (ix a0 s12).Party))) || (decide ((ix a0 s12).Owed < 0))) || (decide (17592186044416 < (ix a0 s12).Owed))) 4 32 (fun hg => ?_) (fun hg => ?_) ?_
        · have hg6_17 := hg
          refine wl_off rfl rfl rfl rfl rfl hg6_17 rfl ?_
          refine wl_off rfl rfl rfl rfl rfl hg6_17 rfl ?_
          refine wl_off rfl rfl rfl rfl rfl hg6_17 rfl ?_
          refine wl_det rfl rfl (det_or_on (r := (decide (17592186044416 < (ix a0 s12).Owed))) rfl rfl rfl hg6_17) rfl ?_
          exact wl_nil (pn_qnE (ext_cons rfl (ext_skip rfl (ext_skip rfl (ext_skip rfl (ext_skip rfl ext_refl))))) (fun _ h => h))
        · have hg6_17a := hg
          refine wl_on rfl rfl rfl rfl hg6_17a ?_
          refine wl_det rfl rfl (det_field rfl fd48_1 rfl) rfl ?_
          refine wl_on rfl rfl rfl rfl hg6_17a ?_
          refine wl_det rfl rfl (det_load rfl m0 (by rfl) na3 us3) rfl ?_
          refine wl_on rfl rfl rfl rfl hg6_17a ?_
          refine wl_det rfl rfl (det_gtr rfl rfl) rfl ?_
          refine wl_det rfl rfl (det_or_off rfl rfl rfl hg6_17a) rfl ?_
          exact wl_nil (pn_qnE (ext_cons rfl (ext_skip rfl (ext_skip rfl (ext_skip rfl (ext_skip rfl ext_refl))))) (fun _ h => h))
        refine wl_det rfl rfl (det_move rfl) rfl ?_
        refine wl_way ((((decide ((ix a0 s12).Party < 0)) || (decide (15 < (ix a0 s12).Party))) || (decide ((ix a0 s12).Owed < 0))) || (decide (17592186044416 < (ix a0 s12).Owed))) (((((decide ((ix a0 s12).Party < 0)) || (decide (15 < (ix a0 s12).Party))) || (decide ((ix a0 s12).Owed < 0))) || (decide (17592186044416 < (ix a0 s12).Owed))) || (decide ((ix a0 s12).Owes < 0))) 4 37 (fun hg => ?_) (fun hg => ?_) ?_
        · have hg6_22 := hg
          refine wl_off rfl rfl rfl rfl rfl hg6_22 rfl ?_
          refine wl_off rfl rfl rfl rfl rfl hg6_22 rfl ?_
          refine wl_off rfl rfl rfl rfl rfl hg6_22 rfl ?_
          refine wl_det rfl rfl (det_or_on (r := (decide ((ix a0 s12).Owes < 0))) rfl rfl rfl hg6_22) rfl ?_
          exact wl_nil (pn_qnE (ext_cons rfl (ext_skip rfl (ext_skip rfl (ext_skip rfl (ext_skip rfl ext_refl))))) (fun _ h => h))
        · have hg6_22a := hg
          refine wl_on rfl rfl rfl rfl hg6_22a ?_
          refine wl_det rfl rfl (det_field rfl fd48_2 rfl) rfl ?_
          refine wl_on rfl rfl rfl rfl hg6_22a ?_
          refine wl_det rfl rfl (det_load rfl m0 (by rfl) na3 us3) rfl ?_
          refine wl_on rfl rfl rfl rfl hg6_22a ?_
          refine wl_det rfl rfl (det_lss rfl rfl) rfl ?_
          refine wl_det rfl rfl (det_or_off rfl rfl rfl hg6_22a) rfl ?_
          exact wl_nil (pn_qnE (ext_cons rfl (ext_skip rfl (ext_skip rfl (ext_skip rfl (ext_skip rfl ext_refl))))) (fun _ h => h))
        refine wl_det rfl rfl (det_move rfl) rfl ?_
        refine wl_way (((((decide ((ix a0 s12).Party < 0)) || (decide (15 < (ix a0 s12).Party))) || (decide ((ix a0 s12).Owed < 0))) || (decide (17592186044416 < (ix a0 s12).Owed))) || (decide ((ix a0 s12).Owes < 0))) ((((((decide ((ix a0 s12).Party < 0)) || (decide (15 < (ix a0 s12).Party))) || (decide ((ix a0 s12).Owed < 0))) || (decide (17592186044416 < (ix a0 s12).Owed))) || (decide ((ix a0 s12).Owes < 0))) || (decide (17592186044416 < (ix a0 s12).Owes))) 4 42 (fun hg => ?_) (fun hg => ?_) ?_
        · have hg6_27 := hg
          refine wl_off rfl rfl rfl rfl rfl hg6_27 rfl ?_
          refine wl_off rfl rfl rfl rfl rfl hg6_27 rfl ?_
          refine wl_off rfl rfl rfl rfl rfl hg6_27 rfl ?_
          refine wl_det rfl rfl (det_or_on (r := (decide (17592186044416 < (ix a0 s12).Owes))) rfl rfl rfl hg6_27) rfl ?_
          exact wl_nil (pn_qnE (ext_cons rfl (ext_skip rfl (ext_skip rfl (ext_skip rfl (ext_skip rfl ext_refl))))) (fun _ h => h))
        · have hg6_27a := hg
          refine wl_on rfl rfl rfl rfl hg6_27a ?_
          refine wl_det rfl rfl (det_field rfl fd48_2 rfl) rfl ?_
          refine wl_on rfl rfl rfl rfl hg6_27a ?_
          refine wl_det rfl rfl (det_load rfl m0 (by rfl) na3 us3) rfl ?_
          refine wl_on rfl rfl rfl rfl hg6_27a ?_
          refine wl_det rfl rfl (det_gtr rfl rfl) rfl ?_
          refine wl_det rfl rfl (det_or_off rfl rfl rfl hg6_27a) rfl ?_
          exact wl_nil (pn_qnE (ext_cons rfl (ext_skip rfl (ext_skip rfl (ext_skip rfl (ext_skip rfl ext_refl))))) (fun _ h => h))
        refine wl_nil ?_
        refine pn_then ?_
        refine wc_cond rfl (fun c25 => ?_) (fun c25 => ?_)
        · have h := ifT h c25
          refine wc_seq ?_
          refine wc_region ?_   -- region 7
          refine wl_det rfl rfl (det_assign rfl) rfl ?_
          refine wl_nil ?_
          refine pn_then ?_
          refine wc_ret ?_
          refine pr_then ?_
          refine pr_block ?_
          refine pr_then ?_
          refine pr_then ?_
          refine pr_block ?_
          refine pr_then ?_
          replace h := Option.some.inj h
          subst h
          replace g12 := nextR g12
          subst g12
          have h := (elimL ho12)
          replace h := Option.some.inj h
          subst h
          have h := (elimR ho8)
          replace h := Option.some.inj h
          subst h
          refine pn_ret (vs := [_]) rfl ⟨rfl, trivial⟩ ⟨rfl, rfl, rfl⟩ (fun _ h => h.to trivial trivial)
        · have h := ifF h c25
          refine wc_skip ?_
          refine pn_then ?_
          obtain ⟨q28, h, ho28⟩ := bind_some h
          refine wc_meetG (G := Bool × Unit) (fun (s28, _) => s28 = q28) (fun (s28, _) => [(0, .slice A0 a0.length c0), (8, .slice A0 a0.length c0), (9, .int .i64 (a0.length : Int)), (10, .int .i64 s12), (55, .bool s28)]) (fun (_, _) => []) (fun (_, _) => [fV (lSlice lGMutual) (.slice A0 a0.length c0) a0]) ?_ ?_
          · rcases Bool.eq_false_or_eq_true (decide (0 < s12)) with hg8_g45 | hg8_g45
            · have h := ifT h hg8_g45
              obtain ⟨k8_p1, h⟩ := chk_some h
              refine wc_st (fun _ h => h.openF (ms m0) k8_p1) ?_
              refine dx_region 13 [[], [0], [0, 1], [0, 1, 2], [0, 1, 2, 3], [0, 1, 2], [0, 1, 2], [0, 1, 2, 6], [0, 1, 2, 5, 6, 7], [0, 1, 2, 5, 6, 7, 8], [0, 1, 2, 5, 6, 7, 8, 9], [0, 1, 2, 3, 4, 5, 6, 7, 8, 9, 10], [0, 1, 2, 3, 4, 5, 6, 7, 8, 9, 10, 11]] mixed (ord := (.det 0 (.det 1 (.det 2 (.det 3 (.det 4 (.det 5 (.det 6 (.det 7 (.det 8 (.det 9 (.det 10 (.det 11 (.det 12 .done)))))))))))))) (by kernel_rfl) ?_   -- region 8
              refine hx_det rfl rfl rfl nofun (det_move rfl) rfl ?_
              refine hx_det rfl rfl rfl nofun (det_gtr rfl rfl) rfl ?_
              refine hx_det rfl rfl rfl nofun (det_move rfl) rfl ?_
              refine hx_on rfl rfl rfl rfl rfl hg8_g45 nofun (det_field rfl fd48_0 rfl) rfl ?_
              refine hx_on rfl rfl rfl rfl rfl hg8_g45 nofun (det_load rfl m0 (by rfl) na3 us3) rfl ?_
              refine hx_on rfl rfl rfl rfl rfl hg8_g45 nofun (det_move rfl) rfl ?_
              refine hx_on rfl rfl rfl rfl rfl hg8_g45 nofun (det_move rfl) rfl ?_
              refine hx_on rfl rfl rfl rfl rfl hg8_g45 nofun (det_sub rfl rfl) rfl ?_
              refine hx_on rfl rfl rfl rfl rfl hg8_g45 nofun (det_indexP rfl rfl (ms (ms m0)) k8_p1 m0 un36 sz48) rfl ?_
              refine hx_on rfl rfl rfl rfl rfl hg8_g45 nofun (det_fieldP rfl m0 fd48_0 rfl) rfl ?_
              refine hx_on rfl rfl rfl rfl rfl hg8_g45 nofun (det_loadP (off := 0) rfl m0 (by rfl) (by rfl) (loaded_1 na3 us3)) rfl ?_
              refine hx_on rfl rfl rfl rfl rfl hg8_g45 nofun (det_leq rfl rfl) rfl ?_
              refine hx_det rfl rfl rfl nofun (det_pick_on rfl hg8_g45 rfl rfl) rfl ?_
              refine hx_end ?_
              refine wl_nil ?_
              replace h := Option.some.inj h
              subst h
              exact pn_meetG ((decide ((ix a0 s12).Party ≤ (ix a0 (w64 (s12 - 1))).Party)), ()) rfl ⟨rfl, rfl, rfl, rfl, rfl, trivial⟩ (fun _ h => h.to trivial ⟨(ms (ms m0)), trivial⟩)
            · have h := ifF h hg8_g45
              refine dx_region 13 [[], [0], [0, 1], [0, 1, 2], [0, 1, 2, 3], [0, 1, 2], [0, 1, 2], [0, 1, 2, 6], [0, 1, 2, 5, 6, 7], [0, 1, 2, 5, 6, 7, 8], [0, 1, 2, 5, 6, 7, 8, 9], [0, 1, 2, 3, 4, 5, 6, 7, 8, 9, 10], [0, 1, 2, 3, 4, 5, 6, 7, 8, 9, 10, 11]] mixed (ord := (.det 0 (.det 1 (.det 2 (.det 3 (.det 4 (.det 5 (.det 6 (.det 7 (.det 8 (.det 9 (.det 10 (.det 11 (.det 12 .done)))))))))))))) (by kernel_rfl) ?_   -- region 8
              refine hx_det rfl rfl rfl nofun (det_move rfl) rfl ?_
              refine hx_det rfl rfl rfl nofun (det_gtr rfl rfl) rfl ?_
              refine hx_det rfl rfl rfl nofun (det_move rfl) rfl ?_
              refine hx_off rfl rfl rfl rfl rfl hg8_g45 rfl ?_
              refine hx_off rfl rfl rfl rfl rfl hg8_g45 rfl ?_
              refine hx_off rfl rfl rfl rfl rfl hg8_g45 rfl ?_
              refine hx_off rfl rfl rfl rfl rfl hg8_g45 rfl ?_
              refine hx_off rfl rfl rfl rfl rfl hg8_g45 rfl ?_
              refine hx_off rfl rfl rfl rfl rfl hg8_g45 rfl ?_
              refine hx_off rfl rfl rfl rfl rfl hg8_g45 rfl ?_
              refine hx_off rfl rfl rfl rfl rfl hg8_g45 rfl ?_
              refine hx_off rfl rfl rfl rfl rfl hg8_g45 rfl ?_
              refine hx_det rfl rfl rfl nofun (det_pick_off rfl hg8_g45 rfl rfl) rfl ?_
              refine hx_end ?_
              refine wl_nil ?_
              replace h := Option.some.inj h
              subst h
              exact pn_meetG (false, ()) rfl ⟨rfl, rfl, rfl, rfl, rfl, trivial⟩ (fun _ h => h.to trivial ⟨(ms m0), trivial⟩)
          rintro ⟨s28, _⟩ e28
          dsimp only at e28 ⊢
          subst e28
          have h := ho28
          refine wc_cond rfl (fun c30 => ?_) (fun c30 => ?_)
          · have h := ifT h c30
            refine wc_seq ?_
            refine wc_region ?_   -- region 9
            refine wl_det rfl rfl (det_assign rfl) rfl ?_
            refine wl_nil ?_
            refine pn_then ?_
            refine wc_ret ?_
            refine pr_block ?_
            refine pr_then ?_
            refine pr_then ?_
            refine pr_block ?_
            refine pr_then ?_
            replace h := Option.some.inj h
            subst h
            replace g12 := nextR g12
            subst g12
            have h := (elimL ho12)
            replace h := Option.some.inj h
            subst h
            have h := (elimR ho8)
            replace h := Option.some.inj h
            subst h
            refine pn_ret (vs := [_]) rfl ⟨rfl, trivial⟩ ⟨rfl, rfl, rfl⟩ (fun _ h => h.to trivial trivial)
          · have h := ifF h c30
            refine wc_skip ?_
            refine pn_block ?_
            refine pn_then ?_
            refine wc_region ?_   -- region 10
            refine wl_det rfl rfl (det_add rfl rfl) rfl ?_
            refine wl_det rfl rfl (det_move rfl) rfl ?_
            refine wl_nil ?_
            replace h := Option.some.inj h
            subst h
            exact pn_some (k12, (w64 (s12 + 1)), ()) ⟨nextL g12, Nat.lt_succ_self _⟩ ⟨rfl, rfl, rfl, rfl, trivial⟩ (fun _ h => h.to trivial ⟨m0, trivial⟩)
      · have h := ifF h c16
        refine wc_exit ?_
        refine px_then ?_
        refine px_then ?_
        refine px_block ?_
        replace h := Option.some.inj h
        subst h
        replace g12 := nextR g12
        subst g12
        have h := (elimR ho12)
        replace h := Option.some.inj h
        subst h
        exact pn_meetG ((), ()) rfl trivial (fun _ h => h.to trivial trivial)
    rintro ⟨s8, _⟩ e8
    dsimp only at e8 ⊢
    subst e8
    have h := (elimL ho8)
    refine wc_seq ?_
    refine wc_region ?_   -- region 11
    refine wl_det rfl rfl (det_assign rfl) rfl ?_
    refine wl_nil ?_
    refine pn_then ?_
    refine wc_ret ?_
    replace h := Option.some.inj h
    subst h
    refine pn_ret (vs := [_]) rfl ⟨rfl, trivial⟩ ⟨rfl, rfl, rfl⟩ (fun _ h => h.to trivial trivial)
def Q_amount_Valid (r : Bool) : Value → List Ent → List Fact → Prop := fun v θ κ => v = .bool r ∧ θ = [] ∧ κ = []
theorem plains_amount_Valid {r : Bool} : ∀ v θ κ, Q_amount_Valid r v θ κ → Plains θ := by
  rintro _ _ _ ⟨rfl, rfl, rfl⟩
  exact trivial
set_option maxHeartbeats 4000000 in
set_option maxRecDepth 100000 in
theorem W_amount_Valid (a0 : Int) (r : Bool) (h : amount_Valid a0 = some r) : Spec Try.prog 47 [.int .i64 a0] [] [] (Q_amount_Valid r) := by
  unfold amount_Valid at h
  refine spec_of (σ := [(0, _)]) Try.func47 rfl rfl rfl rfl ?_
  intro C
  refine wc_seq ?_
  refine wc_region ?_   -- region 0
  refine wl_det rfl rfl (det_assign rfl) rfl ?_
  refine wl_nil ?_
  refine pn_then ?_
  refine wc_seq ?_
  refine wc_region ?_   -- region 1
  refine wl_det rfl rfl (det_move rfl) rfl ?_
  refine wl_det rfl rfl (det_leq rfl rfl) rfl ?_
  refine wl_det rfl rfl (det_move rfl) rfl ?_
  refine wl_way (decide ((-17592186044416) ≤ a0)) ((decide ((-17592186044416) ≤ a0)) && (decide (a0 ≤ 17592186044416))) 3 8 (fun hg => ?_) (fun hg => ?_) ?_
  · have hg1_5 := hg
    refine wl_on rfl rfl rfl rfl hg1_5 ?_
    refine wl_det rfl rfl (det_move rfl) rfl ?_
    refine wl_on rfl rfl rfl rfl hg1_5 ?_
    refine wl_det rfl rfl (det_leq rfl rfl) rfl ?_
    refine wl_det rfl rfl (det_and_on rfl rfl rfl hg1_5) rfl ?_
    exact wl_nil (pn_qnE (ext_cons rfl (ext_skip rfl (ext_skip rfl (ext_skip rfl ext_refl)))) (fun _ h => h))
  · have hg1_5a := hg
    refine wl_off rfl rfl rfl rfl rfl hg1_5a rfl ?_
    refine wl_off rfl rfl rfl rfl rfl hg1_5a rfl ?_
    refine wl_det rfl rfl (det_and_off (q := (decide (a0 ≤ 17592186044416))) rfl rfl rfl hg1_5a) rfl ?_
    exact wl_nil (pn_qnE (ext_cons rfl (ext_skip rfl (ext_skip rfl (ext_skip rfl ext_refl)))) (fun _ h => h))
  refine wl_det rfl rfl (det_assign rfl) rfl ?_
  refine wl_nil ?_
  refine pn_then ?_
  refine wc_ret ?_
  replace h := Option.some.inj h
  subst h
  refine pn_ret (vs := [_]) rfl ⟨rfl, trivial⟩ ⟨rfl, rfl, rfl⟩ (fun _ h => h.to trivial trivial)
def Q_split_inRange (r : Bool) : Value → List Ent → List Fact → Prop := fun v θ κ => v = .bool r ∧ θ = [] ∧ κ = []
theorem plains_split_inRange {r : Bool} : ∀ v θ κ, Q_split_inRange r v θ κ → Plains θ := by
  rintro _ _ _ ⟨rfl, rfl, rfl⟩
  exact trivial
set_option maxHeartbeats 4000000 in
set_option maxRecDepth 100000 in
theorem W_split_inRange (a0 : (List Int)) (A0 : Option Addr) (n0 : Nat) (c0 : Nat) (r : Bool) (h : split_inRange a0 = some r) : Spec Try.prog 52 [.slice A0 n0 c0] [] [fV (lSlice (lInt .i64)) (.slice A0 n0 c0) a0] (Q_split_inRange r) := by
  unfold split_inRange at h
  refine spec_of (σ := [(0, _)]) Try.func52 rfl rfl rfl rfl ?_
  intro C
  refine wc_know (fun _ h => h.lenF m0) (fun e => ?_)
  subst e
  refine wc_seq ?_
  refine wc_region ?_   -- region 0
  refine wl_det rfl rfl (det_assign rfl) rfl ?_
  refine wl_nil ?_
  refine pn_then ?_
  obtain ⟨q2, h, ho2⟩ := bind_some h
  refine wc_meetG (G := Unit × Unit) (fun (s2, _) => (.inl s2) = q2) (fun (_, _) => []) (fun (_, _) => []) (fun (_, _) => []) ?_ ?_
  · refine wc_seq ?_
    refine wc_region ?_   -- region 1
    refine wl_det rfl rfl (det_move rfl) rfl ?_
    refine wl_det rfl rfl (det_len rfl un22) rfl ?_
    refine wl_det rfl rfl (det_move rfl) rfl ?_
    refine wl_nil ?_
    refine pn_then ?_
    refine wc_block ?_
    obtain ⟨o6, h, ho6⟩ := bind_some h
    obtain ⟨k6, hk6⟩ := loopV_some.1 h
    refine wc_loop (G := Nat × Int × Unit) (fun g => IterN (split_inRange_l6 a0) g.1 g.2.1 o6) (fun g => g.1) (fun (_, s6, _) => [(5, .slice A0 a0.length c0), (6, .int .i64 (a0.length : Int)), (7, .int .i64 s6)]) (fun (_, _, _) => []) (fun (_, _, _) => [fV (lSlice (lInt .i64)) (.slice A0 a0.length c0) a0]) (k6, 0, ()) hk6 ⟨rfl, rfl, rfl, trivial⟩ (fun _ h => h.to trivial ⟨m0, trivial⟩) ?_
    rintro ⟨k6, s6, _⟩ hI
    obtain ⟨k6, rfl, q6, h, g6⟩ := IterN.pos hI
    dsimp only at h ⊢
    unfold split_inRange_l6 at h
    refine wc_seq ?_
    refine wc_region ?_   -- region 2
    refine wl_det rfl rfl (det_lss rfl rfl) rfl ?_
    refine wl_nil ?_
    refine pn_then ?_
    refine wc_seq ?_
    refine wc_cond rfl (fun c10 => ?_) (fun c10 => ?_)
    · have h := ifT h c10
      refine wc_skip ?_
      refine pn_then ?_
      refine wc_seq ?_
      refine wc_block ?_
      refine wc_seq ?_
      refine wc_region ?_   -- region 3
      obtain ⟨k3_0, h⟩ := chk_some h
      refine wl_st (fun _ h => h.openF m0 k3_0) ?_
      refine wl_det rfl rfl (det_indexP rfl rfl (ms m0) k3_0 m0 un22 sz3) rfl ?_
      refine wl_det rfl rfl (det_loadP (off := 0) rfl m0 (by rfl) (by rfl) (loaded_1 na3 us3)) rfl ?_
      refine wl_det rfl rfl (det_assign rfl) rfl ?_
      refine wl_nil ?_
      refine pn_then ?_
      refine wc_seq ?_
      refine wc_region ?_   -- region 4
      refine wl_det rfl rfl (det_move rfl) rfl ?_
      refine wl_det rfl rfl (det_lss rfl rfl) rfl ?_
      refine wl_det rfl rfl (det_move rfl) rfl ?_
      refine wl_way (decide ((ix a0 s6) < 0)) ((decide ((ix a0 s6) < 0)) || (decide (17592186044416 < (ix a0 s6)))) 3 16 (fun hg => ?_) (fun hg => ?_) ?_
      · have hg4_5 := hg
        refine wl_off rfl rfl rfl rfl rfl hg4_5 rfl ?_
        refine wl_off rfl rfl rfl rfl rfl hg4_5 rfl ?_
        refine wl_det rfl rfl (det_or_on (r := (decide (17592186044416 < (ix a0 s6)))) rfl rfl rfl hg4_5) rfl ?_
        exact wl_nil (pn_qnE (ext_cons rfl (ext_skip rfl (ext_skip rfl (ext_skip rfl ext_refl)))) (fun _ h => h))
      · have hg4_5a := hg
        refine wl_on rfl rfl rfl rfl hg4_5a ?_
        refine wl_det rfl rfl (det_move rfl) rfl ?_
        refine wl_on rfl rfl rfl rfl hg4_5a ?_
        refine wl_det rfl rfl (det_gtr rfl rfl) rfl ?_
        refine wl_det rfl rfl (det_or_off rfl rfl rfl hg4_5a) rfl ?_
        exact wl_nil (pn_qnE (ext_cons rfl (ext_skip rfl (ext_skip rfl (ext_skip rfl ext_refl)))) (fun _ h => h))
      refine wl_nil ?_
      refine pn_then ?_
      refine wc_cond rfl (fun c18 => ?_) (fun c18 => ?_)
      · have h := ifT h c18
        refine wc_seq ?_
        refine wc_region ?_   -- region 5
        refine wl_det rfl rfl (det_assign rfl) rfl ?_
        refine wl_nil ?_
        refine pn_then ?_
        refine wc_ret ?_
        refine pr_block ?_
        refine pr_then ?_
        refine pr_then ?_
        refine pr_block ?_
        refine pr_then ?_
        replace h := Option.some.inj h
        subst h
        replace g6 := nextR g6
        subst g6
        have h := (elimL ho6)
        replace h := Option.some.inj h
        subst h
        have h := (elimR ho2)
        replace h := Option.some.inj h
        subst h
        refine pn_ret (vs := [_]) rfl ⟨rfl, trivial⟩ ⟨rfl, rfl, rfl⟩ (fun _ h => h.to trivial trivial)
      · have h := ifF h c18
        refine wc_skip ?_
        refine pn_block ?_
        refine pn_then ?_
        refine wc_region ?_   -- region 6
        refine wl_det rfl rfl (det_add rfl rfl) rfl ?_
        refine wl_det rfl rfl (det_move rfl) rfl ?_
        refine wl_nil ?_
        replace h := Option.some.inj h
        subst h
        exact pn_some (k6, (w64 (s6 + 1)), ()) ⟨nextL g6, Nat.lt_succ_self _⟩ ⟨rfl, rfl, rfl, trivial⟩ (fun _ h => h.to trivial ⟨(ms m0), trivial⟩)
    · have h := ifF h c10
      refine wc_exit ?_
      refine px_then ?_
      refine px_then ?_
      refine px_block ?_
      replace h := Option.some.inj h
      subst h
      replace g6 := nextR g6
      subst g6
      have h := (elimR ho6)
      replace h := Option.some.inj h
      subst h
      exact pn_meetG ((), ()) rfl trivial (fun _ h => h.to trivial trivial)
  rintro ⟨s2, _⟩ e2
  dsimp only at e2 ⊢
  subst e2
  have h := (elimL ho2)
  refine wc_seq ?_
  refine wc_region ?_   -- region 7
  refine wl_det rfl rfl (det_assign rfl) rfl ?_
  refine wl_nil ?_
  refine pn_then ?_
  refine wc_ret ?_
  replace h := Option.some.inj h
  subst h
  refine pn_ret (vs := [_]) rfl ⟨rfl, trivial⟩ ⟨rfl, rfl, rfl⟩ (fun _ h => h.to trivial trivial)
def Q_split_total (r : Int) : Value → List Ent → List Fact → Prop := fun v θ κ => v = .int .i64 r ∧ θ = [] ∧ κ = []
theorem plains_split_total {r : Int} : ∀ v θ κ, Q_split_total r v θ κ → Plains θ := by
  rintro _ _ _ ⟨rfl, rfl, rfl⟩
  exact trivial
set_option maxHeartbeats 4000000 in
set_option maxRecDepth 100000 in
theorem W_split_total (a0 : (List Int)) (A0 : Option Addr) (n0 : Nat) (c0 : Nat) (r : Int) (h : split_total a0 = some r) : Spec Try.prog 53 [.slice A0 n0 c0] [] [fV (lSlice (lInt .i64)) (.slice A0 n0 c0) a0] (Q_split_total r) := by
  unfold split_total at h
  refine spec_of (σ := [(0, _)]) Try.func53 rfl rfl rfl rfl ?_
  intro C
  refine wc_know (fun _ h => h.lenF m0) (fun e => ?_)
  subst e
  refine wc_seq ?_
  refine wc_region ?_   -- region 0
  refine wl_det rfl rfl (det_assign rfl) rfl ?_
  refine wl_nil ?_
  refine pn_then ?_
  refine wc_seq ?_
  refine wc_region ?_   -- region 1
  refine wl_det rfl rfl (det_assign rfl) rfl ?_
  refine wl_nil ?_
  refine pn_then ?_
  obtain ⟨q4, h, ho4⟩ := bind_some h
  refine wc_meetG (G := Int × Unit) (fun (s4, _) => s4 = q4) (fun (s4, _) => [(3, .int .i64 s4)]) (fun (_, _) => []) (fun (_, _) => []) ?_ ?_
  · refine wc_seq ?_
    refine wc_region ?_   -- region 2
    refine wl_det rfl rfl (det_move rfl) rfl ?_
    refine wl_det rfl rfl (det_len rfl un22) rfl ?_
    refine wl_det rfl rfl (det_move rfl) rfl ?_
    refine wl_nil ?_
    refine pn_then ?_
    refine wc_block ?_
    obtain ⟨k8, hk8⟩ := loopV_some.1 h
    refine wc_loop (G := Nat × (Int × Int) × Unit) (fun g => IterN (split_total_l8 a0) g.1 g.2.1 q4) (fun g => g.1) (fun (_, s8, _) => [(3, .int .i64 s8.1), (6, .slice A0 a0.length c0), (7, .int .i64 (a0.length : Int)), (8, .int .i64 s8.2)]) (fun (_, _, _) => []) (fun (_, _, _) => [fV (lSlice (lInt .i64)) (.slice A0 a0.length c0) a0]) (k8, (0, 0), ()) hk8 ⟨rfl, rfl, rfl, rfl, trivial⟩ (fun _ h => h.to trivial ⟨m0, trivial⟩) ?_
    rintro ⟨k8, s8, _⟩ hI
    obtain ⟨k8, rfl, q8, h, g8⟩ := IterN.pos hI
    dsimp only at h ⊢
    unfold split_total_l8 at h
    refine wc_seq ?_
    refine wc_region ?_   -- region 3
    refine wl_det rfl rfl (det_lss rfl rfl) rfl ?_
    refine wl_nil ?_
    refine pn_then ?_
    refine wc_seq ?_
    refine wc_cond rfl (fun c12 => ?_) (fun c12 => ?_)
    · have h := ifT h c12
      refine wc_skip ?_
      refine pn_then ?_
      refine wc_seq ?_
      refine wc_block ?_
      refine wc_seq ?_
      refine wc_region ?_   -- region 4
      obtain ⟨k4_0, h⟩ := chk_some h
      refine wl_st (fun _ h => h.openF m0 k4_0) ?_
      refine wl_det rfl rfl (det_indexP rfl rfl (ms m0) k4_0 m0 un22 sz3) rfl ?_
      refine wl_det rfl rfl (det_loadP (off := 0) rfl m0 (by rfl) (by rfl) (loaded_1 na3 us3)) rfl ?_
      refine wl_det rfl rfl (det_assign rfl) rfl ?_
      refine wl_nil ?_
      refine pn_then ?_
      refine wc_region ?_   -- region 5
      refine wl_det rfl rfl (det_move rfl) rfl ?_
      refine wl_det rfl rfl (det_move rfl) rfl ?_
      refine wl_det rfl rfl (det_add rfl rfl) rfl ?_
      refine wl_det rfl rfl (det_assign rfl) rfl ?_
      refine wl_nil ?_
      refine pn_block ?_
      refine pn_then ?_
      refine wc_region ?_   -- region 6
      refine wl_det rfl rfl (det_add rfl rfl) rfl ?_
      refine wl_det rfl rfl (det_move rfl) rfl ?_
      refine wl_nil ?_
      replace h := Option.some.inj h
      subst h
      exact pn_some (k8, ((w64 (s8.1 + (ix a0 s8.2))), (w64 (s8.2 + 1))), ()) ⟨nextL g8, Nat.lt_succ_self _⟩ ⟨rfl, rfl, rfl, rfl, trivial⟩ (fun _ h => h.to trivial ⟨(ms m0), trivial⟩)
    · have h := ifF h c12
      refine wc_exit ?_
      refine px_then ?_
      refine px_then ?_
      refine px_block ?_
      replace h := Option.some.inj h
      subst h
      replace g8 := nextR g8
      subst g8
      exact pn_meetG (s8.1, ()) rfl ⟨rfl, trivial⟩ (fun _ h => h.to trivial trivial)
  rintro ⟨s4, _⟩ e4
  dsimp only at e4 ⊢
  subst e4
  have h := ho4
  refine wc_seq ?_
  refine wc_region ?_   -- region 7
  refine wl_det rfl rfl (det_move rfl) rfl ?_
  refine wl_det rfl rfl (det_assign rfl) rfl ?_
  refine wl_nil ?_
  refine pn_then ?_
  refine wc_ret ?_
  replace h := Option.some.inj h
  subst h
  refine pn_ret (vs := [_]) rfl ⟨rfl, trivial⟩ ⟨rfl, rfl, rfl⟩ (fun _ h => h.to trivial trivial)
def Q_slices_Clone_s_int_int (r : (List Int)) : Value → List Ent → List Fact → Prop := fun v θ κ => ∃ (pA0 : Option Addr), ∃ (pn0 : Nat), ∃ (pc0 : Nat), v = .slice pA0 pn0 pc0 ∧ θ = [eS (lInt .i64) 3 pA0 pn0 pc0 r] ∧ κ = []
theorem plains_slices_Clone_s_int_int {r : (List Int)} : ∀ v θ κ, Q_slices_Clone_s_int_int r v θ κ → Plains θ := by
  rintro _ _ _ ⟨_, _, _, rfl, rfl, rfl⟩
  exact ⟨plain_eS, trivial⟩
set_option maxHeartbeats 4000000 in
set_option maxRecDepth 100000 in
theorem W_slices_Clone_s_int_int (a0 : (List Int)) (A0 : Option Addr) (n0 : Nat) (c0 : Nat) (r : (List Int)) (h : slices_Clone_s_int_int a0 = some r) : Spec Try.prog 65 [.slice A0 n0 c0] [] [fV (lSlice (lInt .i64)) (.slice A0 n0 c0) a0] (Q_slices_Clone_s_int_int r) := by
  unfold slices_Clone_s_int_int at h
  refine spec_of (σ := [(0, _)]) Try.func65 rfl rfl rfl rfl ?_
  intro C
  refine wc_know (fun _ h => h.lenF m0) (fun e => ?_)
  subst e
  refine wc_seq ?_
  refine wc_region ?_   -- region 0
  refine wl_det rfl rfl (det_assign rfl) rfl ?_
  refine wl_nil ?_
  refine pn_then ?_
  refine wc_seq ?_
  refine wc_seq ?_
  refine wc_region ?_   -- region 1
  refine wl_det rfl rfl (det_move rfl) rfl ?_
  refine wl_det rfl rfl (det_eqlNil rfl rfl un22) rfl ?_
  refine wl_nil ?_
  refine pn_then ?_
  refine wc_cond rfl (fun c5 => ?_) (fun c5 => ?_)
  · refine wc_know (fun _ h => h.nilF m0 c5) (fun e => ?_)
    subst e
    have h := clone_nil h
    refine wc_seq ?_
    refine wc_region ?_   -- region 2
    refine wl_det rfl rfl (det_assign rfl) rfl ?_
    refine wl_nil ?_
    refine pn_then ?_
    refine wc_ret ?_
    refine pr_then ?_
    refine pn_st (fun _ h => h.zeroS (lInt .i64) 3 none) ?_
    replace h := Option.some.inj h
    subst h
    refine pn_ret (vs := [_]) rfl ⟨rfl, trivial⟩ ⟨none, 0, 0, rfl, rfl, rfl⟩ (fun _ h => h.to ⟨_, r0, trivial⟩ trivial)
  · refine wc_skip ?_
    refine pn_then ?_
    refine wc_seq ?_
    refine wc_region ?_   -- region 3
    refine wl_act (act_lit0S (lInt .i64) un22 (by kernel_rfl)) rfl rfl rfl ?_
    rintro _ _ _ ⟨A3_0, rfl, rfl, rfl⟩
    refine wl_det rfl rfl (det_move rfl) rfl ?_
    obtain ⟨k3_2, h⟩ := chk_some h
    refine wl_act (act_appendS0 (L := (lInt .i64)) rfl rfl s0 (src_F m0) un22 in3 rfl rfl rfl k3_2) rfl rfl rfl ?_
    rintro _ _ _ ⟨A3_2, c3_2, rfl, rfl, rfl⟩
    refine wl_det rfl rfl (det_assign rfl) rfl ?_
    refine wl_nil ?_
    refine pn_then ?_
    refine wc_ret ?_
    replace h := Option.some.inj h
    subst h
    refine pn_ret (vs := [_]) rfl ⟨rfl, trivial⟩ ⟨A3_2, a0.length, c3_2, rfl, rfl, rfl⟩ (fun _ h => h.to ⟨_, r0, trivial⟩ trivial)
def Q_bits_Mul64 (r : Int × Int) : Value → List Ent → List Fact → Prop := fun v θ κ => v = .tuple #[.int .u64 r.1, .int .u64 r.2] ∧ θ = [] ∧ κ = []
theorem plains_bits_Mul64 {r : Int × Int} : ∀ v θ κ, Q_bits_Mul64 r v θ κ → Plains θ := by
  rintro _ _ _ ⟨rfl, rfl, rfl⟩
  exact trivial
theorem W_bits_Mul64 (a0 : Int) (a1 : Int) (r : Int × Int) (h : bits_Mul64 a0 a1 = some r) : Spec Try.prog 58 [.int .u64 a0, .int .u64 a1] [] [] (Q_bits_Mul64 r) :=
  spec_mul64 (ρ := Try.lay264_ren) Try.lay264 a0 a1 r h
def Q_bits_LeadingZeros64 (r : Int) : Value → List Ent → List Fact → Prop := fun v θ κ => v = .int .i64 r ∧ θ = [] ∧ κ = []
theorem plains_bits_LeadingZeros64 {r : Int} : ∀ v θ κ, Q_bits_LeadingZeros64 r v θ κ → Plains θ := by
  rintro _ _ _ ⟨rfl, rfl, rfl⟩
  exact trivial
theorem W_bits_LeadingZeros64 (a0 : Int) (r : Int) (h : bits_LeadingZeros64 a0 = some r) : Spec Try.prog 68 [.int .u64 a0] [] [] (Q_bits_LeadingZeros64 r) :=
  spec_lz64 (ρ := Try.lay134_ren) Try.lay134 a0 r h
def Q_bits_Div64 (r : Int × Int) : Value → List Ent → List Fact → Prop := fun v θ κ => v = .tuple #[.int .u64 r.1, .int .u64 r.2] ∧ θ = [] ∧ κ = []
theorem plains_bits_Div64 {r : Int × Int} : ∀ v θ κ, Q_bits_Div64 r v θ κ → Plains θ := by
  rintro _ _ _ ⟨rfl, rfl, rfl⟩
  exact trivial
set_option maxHeartbeats 4000000 in
set_option maxRecDepth 100000 in
theorem W_bits_Div64 (a0 : Int) (a1 : Int) (a2 : Int) (r : Int × Int) (h : bits_Div64 a0 a1 a2 = some r) : Spec Try.prog 59 [.int .u64 a0, .int .u64 a1, .int .u64 a2] [] [] (Q_bits_Div64 r) := by
  unfold bits_Div64 at h
  refine spec_of (σ := [(0, _), (1, _), (2, _)]) Try.func59 rfl rfl rfl rfl ?_
  intro C
  refine wc_seq ?_
  refine wc_region ?_   -- region 0
  refine wl_det rfl rfl (det_assign rfl) rfl ?_
  refine wl_det rfl rfl (det_assign rfl) rfl ?_
  refine wl_nil ?_
  refine pn_then ?_
  obtain ⟨q2, h, ho2⟩ := bind_some h
  refine wc_meetG (G := Unit × Unit) (fun (s2, _) => s2 = q2) (fun (_, _) => [(0, .int .u64 a0), (1, .int .u64 a1), (2, .int .u64 a2)]) (fun (_, _) => []) (fun (_, _) => []) ?_ ?_
  · refine wc_seq ?_
    refine wc_region ?_   -- region 1
    refine wl_det rfl rfl (det_move rfl) rfl ?_
    refine wl_det rfl rfl (det_eql rfl rfl) rfl ?_
    refine wl_nil ?_
    refine pn_then ?_
    refine wc_cond rfl (fun c5 => ?_) (fun c5 => ?_)
    · have h := ifT h c5
      cases h
    · have h := ifF h c5
      refine wc_skip ?_
      replace h := Option.some.inj h
      subst h
      exact pn_meetG ((), ()) rfl ⟨rfl, rfl, rfl, trivial⟩ (fun _ h => h.to trivial trivial)
  rintro ⟨s2, _⟩ e2
  dsimp only at e2 ⊢
  subst e2
  have h := ho2
  obtain ⟨q7, h, ho7⟩ := bind_some h
  refine wc_meetG (G := Unit × Unit) (fun (s7, _) => s7 = q7) (fun (_, _) => [(0, .int .u64 a0), (1, .int .u64 a1), (2, .int .u64 a2)]) (fun (_, _) => []) (fun (_, _) => []) ?_ ?_
  · refine wc_seq ?_
    refine wc_region ?_   -- region 3
    refine wl_det rfl rfl (det_move rfl) rfl ?_
    refine wl_det rfl rfl (det_move rfl) rfl ?_
    refine wl_det rfl rfl (det_leq rfl rfl) rfl ?_
    refine wl_nil ?_
    refine pn_then ?_
    refine wc_cond rfl (fun c10 => ?_) (fun c10 => ?_)
    · have h := ifT h c10
      cases h
    · have h := ifF h c10
      refine wc_skip ?_
      replace h := Option.some.inj h
      subst h
      exact pn_meetG ((), ()) rfl ⟨rfl, rfl, rfl, trivial⟩ (fun _ h => h.to trivial trivial)
  rintro ⟨s7, _⟩ e7
  dsimp only at e7 ⊢
  subst e7
  have h := ho7
  refine wc_seq ?_
  refine wc_seq ?_
  refine wc_region ?_   -- region 5
  refine wl_det rfl rfl (det_move rfl) rfl ?_
  refine wl_det rfl rfl (det_eql rfl rfl) rfl ?_
  refine wl_nil ?_
  refine pn_then ?_
  refine wc_cond rfl (fun c15 => ?_) (fun c15 => ?_)
  · have h := ifT h c15
    refine wc_seq ?_
    obtain ⟨k6_p1, h⟩ := chk_some h
    refine dx_region 7 [[], [], [0, 1], [], [], [3, 4], [0, 1, 2], [0, 1, 2, 3, 4, 5, 6]] mixed (ord := (.det 0 (.det 1 (.det 2 (.det 3 (.det 4 (.det 5 (.det 6 .done)))))))) (by kernel_rfl) ?_   -- region 6
    refine hx_det rfl rfl rfl nofun (det_move rfl) rfl ?_
    refine hx_det rfl rfl rfl nofun (det_move rfl) rfl ?_
    refine hx_det rfl rfl rfl nofun (det_quoB rfl rfl k6_p1) rfl ?_
    refine hx_det rfl rfl rfl nofun (det_move rfl) rfl ?_
    refine hx_det rfl rfl rfl nofun (det_move rfl) rfl ?_
    refine hx_det rfl rfl rfl nofun (det_remB rfl rfl k6_p1) rfl ?_
    refine hx_det rfl rfl rfl nofun (det_assign rfl) rfl ?_
    refine hx_end ?_
    refine wl_det rfl rfl (det_assign rfl) rfl ?_
    refine wl_nil ?_
    refine pn_then ?_
    refine wc_ret ?_
    refine pr_then ?_
    replace h := Option.some.inj h
    subst h
    refine pn_ret (vs := [_, _]) rfl ⟨rfl, rfl, trivial⟩ ⟨rfl, rfl, rfl⟩ (fun _ h => h.to trivial trivial)
  · have h := ifF h c15
    refine wc_skip ?_
    refine pn_then ?_
    refine wc_seq ?_
    refine wc_region ?_   -- region 7
    refine wl_det rfl rfl (det_move rfl) rfl ?_
    obtain ⟨r7_1, hr7_1, h⟩ := bind_some h
    refine wl_act (act_callS (cap := []) (W_bits_LeadingZeros64 a2 r7_1 hr7_1) rfl rfl rfl bd68 rfl trivial) rfl rfl rfl ?_
    rintro _ _ _ ⟨_, _, ⟨rfl, rfl, rfl⟩, rfl, rfl⟩
    dsimp only [List.nil_append, List.cons_append]
    refine wl_det rfl rfl (det_conv rfl us3 un54) rfl ?_
    refine wl_det rfl rfl (det_assign rfl) rfl ?_
    refine wl_nil ?_
    refine pn_then ?_
    refine wc_seq ?_
    refine wc_region ?_   -- region 8
    refine wl_det rfl rfl (det_move rfl) rfl ?_
    refine wl_det rfl rfl (det_move rfl) rfl ?_
    obtain ⟨k8_2, h⟩ := chk_some h
    refine wl_det rfl rfl (det_shl rfl rfl k8_2) rfl ?_
    refine wl_det rfl rfl (det_assign rfl) rfl ?_
    refine wl_nil ?_
    refine pn_then ?_
    refine wc_seq ?_
    refine wc_region ?_   -- region 9
    refine wl_det rfl rfl (det_move rfl) rfl ?_
    refine wl_det rfl rfl (det_shr rfl rfl rfl) rfl ?_
    refine wl_det rfl rfl (det_assign rfl) rfl ?_
    refine wl_nil ?_
    refine pn_then ?_
    refine wc_seq ?_
    refine wc_region ?_   -- region 10
    refine wl_det rfl rfl (det_move rfl) rfl ?_
    refine wl_det rfl rfl (det_band rfl rfl) rfl ?_
    refine wl_det rfl rfl (det_assign rfl) rfl ?_
    refine wl_nil ?_
    refine pn_then ?_
    refine wc_seq ?_
    refine wc_region ?_   -- region 11
    refine wl_det rfl rfl (det_move rfl) rfl ?_
    refine wl_det rfl rfl (det_move rfl) rfl ?_
    refine wl_det rfl rfl (det_shl rfl rfl k8_2) rfl ?_
    refine wl_det rfl rfl (det_move rfl) rfl ?_
    refine wl_det rfl rfl (det_move rfl) rfl ?_
    refine wl_det rfl rfl (det_sub rfl rfl) rfl ?_
    obtain ⟨k11_6, h⟩ := chk_some h
    refine wl_det rfl rfl (det_shr rfl rfl k11_6) rfl ?_
    refine wl_det rfl rfl (det_bor rfl rfl) rfl ?_
    refine wl_det rfl rfl (det_assign rfl) rfl ?_
    refine wl_nil ?_
    refine pn_then ?_
    refine wc_seq ?_
    refine wc_region ?_   -- region 12
    refine wl_det rfl rfl (det_move rfl) rfl ?_
    refine wl_det rfl rfl (det_move rfl) rfl ?_
    refine wl_det rfl rfl (det_shl rfl rfl k8_2) rfl ?_
    refine wl_det rfl rfl (det_assign rfl) rfl ?_
    refine wl_nil ?_
    refine pn_then ?_
    refine wc_seq ?_
    refine wc_region ?_   -- region 13
    refine wl_det rfl rfl (det_move rfl) rfl ?_
    refine wl_det rfl rfl (det_shr rfl rfl rfl) rfl ?_
    refine wl_det rfl rfl (det_assign rfl) rfl ?_
    refine wl_nil ?_
    refine pn_then ?_
    refine wc_seq ?_
    refine wc_region ?_   -- region 14
    refine wl_det rfl rfl (det_move rfl) rfl ?_
    refine wl_det rfl rfl (det_band rfl rfl) rfl ?_
    refine wl_det rfl rfl (det_assign rfl) rfl ?_
    refine wl_nil ?_
    refine pn_then ?_
    refine wc_seq ?_
    refine wc_region ?_   -- region 15
    refine wl_det rfl rfl (det_move rfl) rfl ?_
    refine wl_det rfl rfl (det_move rfl) rfl ?_
    obtain ⟨k15_2, h⟩ := chk_some h
    refine wl_det rfl rfl (det_quoB rfl rfl k15_2) rfl ?_
    refine wl_det rfl rfl (det_assign rfl) rfl ?_
    refine wl_nil ?_
    refine pn_then ?_
    refine wc_seq ?_
    refine wc_region ?_   -- region 16
    refine wl_det rfl rfl (det_move rfl) rfl ?_
    refine wl_det rfl rfl (det_move rfl) rfl ?_
    refine wl_det rfl rfl (det_move rfl) rfl ?_
    refine wl_det rfl rfl (det_mul rfl rfl) rfl ?_
    refine wl_det rfl rfl (det_sub rfl rfl) rfl ?_
    refine wl_det rfl rfl (det_assign rfl) rfl ?_
    refine wl_nil ?_
    refine pn_then ?_
    obtain ⟨q38, h, ho38⟩ := bind_some h
    refine wc_meetG (G := Int × Unit) (fun (s38, _) => s38 = q38) (fun (s38, _) => [(2, .int .u64 (bShl .u64 a2 (u64 r7_1))), (8, .int .u64 (u64 r7_1)), (9, .int .u64 (bShr .u64 (bShl .u64 a2 (u64 r7_1)) 32)), (10, .int .u64 (bAnd .u64 (bShl .u64 a2 (u64 r7_1)) 4294967295)), (11, .int .u64 (bOr .u64 (bShl .u64 a0 (u64 r7_1)) (bShr .u64 a1 (u64 (64 - (u64 r7_1)))))), (13, .int .u64 (bShr .u64 (bShl .u64 a1 (u64 r7_1)) 32)), (14, .int .u64 (bAnd .u64 (bShl .u64 a1 (u64 r7_1)) 4294967295)), (15, .int .u64 s38)]) (fun (_, _) => []) (fun (_, _) => []) ?_ ?_
    · refine wc_block ?_
      obtain ⟨k40, hk40⟩ := loopV_some.1 h
      refine wc_loop (G := Nat × (Int × Int) × Unit) (fun g => IterN (bits_Div64_l40 a1 a2 r7_1) g.1 g.2.1 q38) (fun g => g.1) (fun (_, s40, _) => [(2, .int .u64 (bShl .u64 a2 (u64 r7_1))), (8, .int .u64 (u64 r7_1)), (9, .int .u64 (bShr .u64 (bShl .u64 a2 (u64 r7_1)) 32)), (10, .int .u64 (bAnd .u64 (bShl .u64 a2 (u64 r7_1)) 4294967295)), (11, .int .u64 (bOr .u64 (bShl .u64 a0 (u64 r7_1)) (bShr .u64 a1 (u64 (64 - (u64 r7_1)))))), (13, .int .u64 (bShr .u64 (bShl .u64 a1 (u64 r7_1)) 32)), (14, .int .u64 (bAnd .u64 (bShl .u64 a1 (u64 r7_1)) 4294967295)), (15, .int .u64 s40.1), (16, .int .u64 s40.2)]) (fun (_, _, _) => []) (fun (_, _, _) => []) (k40, ((u64 ((bOr .u64 (bShl .u64 a0 (u64 r7_1)) (bShr .u64 a1 (u64 (64 - (u64 r7_1))))).tdiv (bShr .u64 (bShl .u64 a2 (u64 r7_1)) 32))), (u64 ((bOr .u64 (bShl .u64 a0 (u64 r7_1)) (bShr .u64 a1 (u64 (64 - (u64 r7_1))))) - (u64 ((u64 ((bOr .u64 (bShl .u64 a0 (u64 r7_1)) (bShr .u64 a1 (u64 (64 - (u64 r7_1))))).tdiv (bShr .u64 (bShl .u64 a2 (u64 r7_1)) 32))) * (bShr .u64 (bShl .u64 a2 (u64 r7_1)) 32)))))), ()) hk40 ⟨rfl, rfl, rfl, rfl, rfl, rfl, rfl, rfl, rfl, trivial⟩ (fun _ h => h.to trivial trivial) ?_
      rintro ⟨k40, s40, _⟩ hI
      obtain ⟨k40, rfl, q40, h, g40⟩ := IterN.pos hI
      dsimp only at h ⊢
      unfold bits_Div64_l40 at h
      refine wc_seq ?_
      refine wc_seq ?_
      refine wc_region ?_   -- region 17
      refine wl_det rfl rfl (det_move rfl) rfl ?_
      refine wl_det rfl rfl (det_geq rfl rfl) rfl ?_
      refine wl_det rfl rfl (det_move rfl) rfl ?_
      refine wl_way (decide (4294967296 ≤ s40.1)) ((decide (4294967296 ≤ s40.1)) || (decide ((u64 ((u64 (4294967296 * s40.2)) + (bShr .u64 (bShl .u64 a1 (u64 r7_1)) 32))) < (u64 (s40.1 * (bAnd .u64 (bShl .u64 a2 (u64 r7_1)) 4294967295)))))) 9 78 (fun hg => ?_) (fun hg => ?_) ?_
      · have hg17_11 := hg
        refine wl_off rfl rfl rfl rfl rfl hg17_11 rfl ?_
        refine wl_off rfl rfl rfl rfl rfl hg17_11 rfl ?_
        refine wl_off rfl rfl rfl rfl rfl hg17_11 rfl ?_
        refine wl_off rfl rfl rfl rfl rfl hg17_11 rfl ?_
        refine wl_off rfl rfl rfl rfl rfl hg17_11 rfl ?_
        refine wl_off rfl rfl rfl rfl rfl hg17_11 rfl ?_
        refine wl_off rfl rfl rfl rfl rfl hg17_11 rfl ?_
        refine wl_off rfl rfl rfl rfl rfl hg17_11 rfl ?_
        refine wl_det rfl rfl (det_or_on (r := (decide ((u64 ((u64 (4294967296 * s40.2)) + (bShr .u64 (bShl .u64 a1 (u64 r7_1)) 32))) < (u64 (s40.1 * (bAnd .u64 (bShl .u64 a2 (u64 r7_1)) 4294967295)))))) rfl rfl rfl hg17_11) rfl ?_
        exact wl_nil (pn_qnE (ext_cons rfl (ext_skip rfl (ext_skip rfl (ext_skip rfl (ext_skip rfl (ext_skip rfl (ext_skip rfl (ext_skip rfl (ext_skip rfl (ext_skip rfl ext_refl)))))))))) (fun _ h => h))
      · have hg17_11a := hg
        refine wl_on rfl rfl rfl rfl hg17_11a ?_
        refine wl_det rfl rfl (det_move rfl) rfl ?_
        refine wl_on rfl rfl rfl rfl hg17_11a ?_
        refine wl_det rfl rfl (det_move rfl) rfl ?_
        refine wl_on rfl rfl rfl rfl hg17_11a ?_
        refine wl_det rfl rfl (det_mul rfl rfl) rfl ?_
        refine wl_on rfl rfl rfl rfl hg17_11a ?_
        refine wl_det rfl rfl (det_move rfl) rfl ?_
        refine wl_on rfl rfl rfl rfl hg17_11a ?_
        refine wl_det rfl rfl (det_mul rfl rfl) rfl ?_
        refine wl_on rfl rfl rfl rfl hg17_11a ?_
        refine wl_det rfl rfl (det_move rfl) rfl ?_
        refine wl_on rfl rfl rfl rfl hg17_11a ?_
        refine wl_det rfl rfl (det_add rfl rfl) rfl ?_
        refine wl_on rfl rfl rfl rfl hg17_11a ?_
        refine wl_det rfl rfl (det_gtr rfl rfl) rfl ?_
        refine wl_det rfl rfl (det_or_off rfl rfl rfl hg17_11a) rfl ?_
        exact wl_nil (pn_qnE (ext_cons rfl (ext_skip rfl (ext_skip rfl (ext_skip rfl (ext_skip rfl (ext_skip rfl (ext_skip rfl (ext_skip rfl (ext_skip rfl (ext_skip rfl ext_refl)))))))))) (fun _ h => h))
      refine wl_nil ?_
      refine pn_then ?_
      refine wc_cond rfl (fun c44 => ?_) (fun c44 => ?_)
      · have h := ifT h c44
        refine wc_skip ?_
        refine pn_then ?_
        refine wc_block ?_
        refine wc_seq ?_
        refine wc_region ?_   -- region 18
        refine wl_det rfl rfl (det_move rfl) rfl ?_
        refine wl_det rfl rfl (det_sub rfl rfl) rfl ?_
        refine wl_det rfl rfl (det_assign rfl) rfl ?_
        refine wl_nil ?_
        refine pn_then ?_
        refine wc_seq ?_
        refine wc_region ?_   -- region 19
        refine wl_det rfl rfl (det_move rfl) rfl ?_
        refine wl_det rfl rfl (det_move rfl) rfl ?_
        refine wl_det rfl rfl (det_add rfl rfl) rfl ?_
        refine wl_det rfl rfl (det_assign rfl) rfl ?_
        refine wl_nil ?_
        refine pn_then ?_
        refine wc_seq ?_
        refine wc_region ?_   -- region 20
        refine wl_det rfl rfl (det_move rfl) rfl ?_
        refine wl_det rfl rfl (det_geq rfl rfl) rfl ?_
        refine wl_nil ?_
        refine pn_then ?_
        refine wc_cond rfl (fun c53 => ?_) (fun c53 => ?_)
        · have h := ifT h c53
          refine wc_exit ?_
          refine px_block_ne rfl ?_
          refine px_then ?_
          refine px_block ?_
          replace h := Option.some.inj h
          subst h
          replace g40 := nextR g40
          subst g40
          exact pn_meetG ((u64 (s40.1 - 1)), ()) rfl ⟨rfl, rfl, rfl, rfl, rfl, rfl, rfl, rfl, trivial⟩ (fun _ h => h.to trivial trivial)
        · have h := ifF h c53
          refine wc_skip ?_
          refine pn_block ?_
          replace h := Option.some.inj h
          subst h
          exact pn_some (k40, ((u64 (s40.1 - 1)), (u64 (s40.2 + (bShr .u64 (bShl .u64 a2 (u64 r7_1)) 32)))), ()) ⟨nextL g40, Nat.lt_succ_self _⟩ ⟨rfl, rfl, rfl, rfl, rfl, rfl, rfl, rfl, rfl, trivial⟩ (fun _ h => h.to trivial trivial)
      · have h := ifF h c44
        refine wc_exit ?_
        refine px_then ?_
        refine px_then ?_
        refine px_block ?_
        replace h := Option.some.inj h
        subst h
        replace g40 := nextR g40
        subst g40
        exact pn_meetG (s40.1, ()) rfl ⟨rfl, rfl, rfl, rfl, rfl, rfl, rfl, rfl, trivial⟩ (fun _ h => h.to trivial trivial)
    rintro ⟨s38, _⟩ e38
    dsimp only at e38 ⊢
    subst e38
    have h := ho38
    refine wc_seq ?_
    refine wc_region ?_   -- region 21
    refine wl_det rfl rfl (det_move rfl) rfl ?_
    refine wl_det rfl rfl (det_mul rfl rfl) rfl ?_
    refine wl_det rfl rfl (det_move rfl) rfl ?_
    refine wl_det rfl rfl (det_add rfl rfl) rfl ?_
    refine wl_det rfl rfl (det_move rfl) rfl ?_
    refine wl_det rfl rfl (det_move rfl) rfl ?_
    refine wl_det rfl rfl (det_mul rfl rfl) rfl ?_
    refine wl_det rfl rfl (det_sub rfl rfl) rfl ?_
    refine wl_det rfl rfl (det_assign rfl) rfl ?_
    refine wl_nil ?_
    refine pn_then ?_
    refine wc_seq ?_
    refine wc_region ?_   -- region 22
    refine wl_det rfl rfl (det_move rfl) rfl ?_
    refine wl_det rfl rfl (det_move rfl) rfl ?_
    refine wl_det rfl rfl (det_quoB rfl rfl k15_2) rfl ?_
    refine wl_det rfl rfl (det_assign rfl) rfl ?_
    refine wl_nil ?_
    refine pn_then ?_
    refine wc_seq ?_
    refine wc_region ?_   -- region 23
    refine wl_det rfl rfl (det_move rfl) rfl ?_
    refine wl_det rfl rfl (det_move rfl) rfl ?_
    refine wl_det rfl rfl (det_move rfl) rfl ?_
    refine wl_det rfl rfl (det_mul rfl rfl) rfl ?_
    refine wl_det rfl rfl (det_sub rfl rfl) rfl ?_
    refine wl_det rfl rfl (det_assign rfl) rfl ?_
    refine wl_nil ?_
    refine pn_then ?_
    obtain ⟨q61, h, ho61⟩ := bind_some h
    refine wc_meetG (G := Int × Unit) (fun (s61, _) => s61 = q61) (fun (s61, _) => [(2, .int .u64 (bShl .u64 a2 (u64 r7_1))), (8, .int .u64 (u64 r7_1)), (14, .int .u64 (bAnd .u64 (bShl .u64 a1 (u64 r7_1)) 4294967295)), (15, .int .u64 s38), (17, .int .u64 (u64 ((u64 ((u64 ((bOr .u64 (bShl .u64 a0 (u64 r7_1)) (bShr .u64 a1 (u64 (64 - (u64 r7_1))))) * 4294967296)) + (bShr .u64 (bShl .u64 a1 (u64 r7_1)) 32))) - (u64 (s38 * (bShl .u64 a2 (u64 r7_1))))))), (18, .int .u64 s61)]) (fun (_, _) => []) (fun (_, _) => []) ?_ ?_
    · refine wc_block ?_
      obtain ⟨k63, hk63⟩ := loopV_some.1 h
      refine wc_loop (G := Nat × (Int × Int) × Unit) (fun g => IterN (bits_Div64_l63 a1 a2 r7_1) g.1 g.2.1 q61) (fun g => g.1) (fun (_, s63, _) => [(2, .int .u64 (bShl .u64 a2 (u64 r7_1))), (8, .int .u64 (u64 r7_1)), (9, .int .u64 (bShr .u64 (bShl .u64 a2 (u64 r7_1)) 32)), (10, .int .u64 (bAnd .u64 (bShl .u64 a2 (u64 r7_1)) 4294967295)), (14, .int .u64 (bAnd .u64 (bShl .u64 a1 (u64 r7_1)) 4294967295)), (15, .int .u64 s38), (16, .int .u64 s63.1), (17, .int .u64 (u64 ((u64 ((u64 ((bOr .u64 (bShl .u64 a0 (u64 r7_1)) (bShr .u64 a1 (u64 (64 - (u64 r7_1))))) * 4294967296)) + (bShr .u64 (bShl .u64 a1 (u64 r7_1)) 32))) - (u64 (s38 * (bShl .u64 a2 (u64 r7_1))))))), (18, .int .u64 s63.2)]) (fun (_, _, _) => []) (fun (_, _, _) => []) (k63, ((u64 ((u64 ((u64 ((u64 ((bOr .u64 (bShl .u64 a0 (u64 r7_1)) (bShr .u64 a1 (u64 (64 - (u64 r7_1))))) * 4294967296)) + (bShr .u64 (bShl .u64 a1 (u64 r7_1)) 32))) - (u64 (s38 * (bShl .u64 a2 (u64 r7_1)))))) - (u64 ((u64 ((u64 ((u64 ((u64 ((bOr .u64 (bShl .u64 a0 (u64 r7_1)) (bShr .u64 a1 (u64 (64 - (u64 r7_1))))) * 4294967296)) + (bShr .u64 (bShl .u64 a1 (u64 r7_1)) 32))) - (u64 (s38 * (bShl .u64 a2 (u64 r7_1)))))).tdiv (bShr .u64 (bShl .u64 a2 (u64 r7_1)) 32))) * (bShr .u64 (bShl .u64 a2 (u64 r7_1)) 32))))), (u64 ((u64 ((u64 ((u64 ((bOr .u64 (bShl .u64 a0 (u64 r7_1)) (bShr .u64 a1 (u64 (64 - (u64 r7_1))))) * 4294967296)) + (bShr .u64 (bShl .u64 a1 (u64 r7_1)) 32))) - (u64 (s38 * (bShl .u64 a2 (u64 r7_1)))))).tdiv (bShr .u64 (bShl .u64 a2 (u64 r7_1)) 32)))), ()) hk63 ⟨rfl, rfl, rfl, rfl, rfl, rfl, rfl, rfl, rfl, trivial⟩ (fun _ h => h.to trivial trivial) ?_
      rintro ⟨k63, s63, _⟩ hI
      obtain ⟨k63, rfl, q63, h, g63⟩ := IterN.pos hI
      dsimp only at h ⊢
      unfold bits_Div64_l63 at h
      refine wc_seq ?_
      refine wc_seq ?_
      refine wc_region ?_   -- region 24
      refine wl_det rfl rfl (det_move rfl) rfl ?_
      refine wl_det rfl rfl (det_geq rfl rfl) rfl ?_
      refine wl_det rfl rfl (det_move rfl) rfl ?_
      refine wl_way (decide (4294967296 ≤ s63.2)) ((decide (4294967296 ≤ s63.2)) || (decide ((u64 ((u64 (4294967296 * s63.1)) + (bAnd .u64 (bShl .u64 a1 (u64 r7_1)) 4294967295))) < (u64 (s63.2 * (bAnd .u64 (bShl .u64 a2 (u64 r7_1)) 4294967295)))))) 9 113 (fun hg => ?_) (fun hg => ?_) ?_
      · have hg24_11 := hg
        refine wl_off rfl rfl rfl rfl rfl hg24_11 rfl ?_
        refine wl_off rfl rfl rfl rfl rfl hg24_11 rfl ?_
        refine wl_off rfl rfl rfl rfl rfl hg24_11 rfl ?_
        refine wl_off rfl rfl rfl rfl rfl hg24_11 rfl ?_
        refine wl_off rfl rfl rfl rfl rfl hg24_11 rfl ?_
        refine wl_off rfl rfl rfl rfl rfl hg24_11 rfl ?_
        refine wl_off rfl rfl rfl rfl rfl hg24_11 rfl ?_
        refine wl_off rfl rfl rfl rfl rfl hg24_11 rfl ?_
        refine wl_det rfl rfl (det_or_on (r := (decide ((u64 ((u64 (4294967296 * s63.1)) + (bAnd .u64 (bShl .u64 a1 (u64 r7_1)) 4294967295))) < (u64 (s63.2 * (bAnd .u64 (bShl .u64 a2 (u64 r7_1)) 4294967295)))))) rfl rfl rfl hg24_11) rfl ?_
        exact wl_nil (pn_qnE (ext_cons rfl (ext_skip rfl (ext_skip rfl (ext_skip rfl (ext_skip rfl (ext_skip rfl (ext_skip rfl (ext_skip rfl (ext_skip rfl (ext_skip rfl ext_refl)))))))))) (fun _ h => h))
      · have hg24_11a := hg
        refine wl_on rfl rfl rfl rfl hg24_11a ?_
        refine wl_det rfl rfl (det_move rfl) rfl ?_
        refine wl_on rfl rfl rfl rfl hg24_11a ?_
        refine wl_det rfl rfl (det_move rfl) rfl ?_
        refine wl_on rfl rfl rfl rfl hg24_11a ?_
        refine wl_det rfl rfl (det_mul rfl rfl) rfl ?_
        refine wl_on rfl rfl rfl rfl hg24_11a ?_
        refine wl_det rfl rfl (det_move rfl) rfl ?_
        refine wl_on rfl rfl rfl rfl hg24_11a ?_
        refine wl_det rfl rfl (det_mul rfl rfl) rfl ?_
        refine wl_on rfl rfl rfl rfl hg24_11a ?_
        refine wl_det rfl rfl (det_move rfl) rfl ?_
        refine wl_on rfl rfl rfl rfl hg24_11a ?_
        refine wl_det rfl rfl (det_add rfl rfl) rfl ?_
        refine wl_on rfl rfl rfl rfl hg24_11a ?_
        refine wl_det rfl rfl (det_gtr rfl rfl) rfl ?_
        refine wl_det rfl rfl (det_or_off rfl rfl rfl hg24_11a) rfl ?_
        exact wl_nil (pn_qnE (ext_cons rfl (ext_skip rfl (ext_skip rfl (ext_skip rfl (ext_skip rfl (ext_skip rfl (ext_skip rfl (ext_skip rfl (ext_skip rfl (ext_skip rfl ext_refl)))))))))) (fun _ h => h))
      refine wl_nil ?_
      refine pn_then ?_
      refine wc_cond rfl (fun c67 => ?_) (fun c67 => ?_)
      · have h := ifT h c67
        refine wc_skip ?_
        refine pn_then ?_
        refine wc_block ?_
        refine wc_seq ?_
        refine wc_region ?_   -- region 25
        refine wl_det rfl rfl (det_move rfl) rfl ?_
        refine wl_det rfl rfl (det_sub rfl rfl) rfl ?_
        refine wl_det rfl rfl (det_assign rfl) rfl ?_
        refine wl_nil ?_
        refine pn_then ?_
        refine wc_seq ?_
        refine wc_region ?_   -- region 26
        refine wl_det rfl rfl (det_move rfl) rfl ?_
        refine wl_det rfl rfl (det_move rfl) rfl ?_
        refine wl_det rfl rfl (det_add rfl rfl) rfl ?_
        refine wl_det rfl rfl (det_assign rfl) rfl ?_
        refine wl_nil ?_
        refine pn_then ?_
        refine wc_seq ?_
        refine wc_region ?_   -- region 27
        refine wl_det rfl rfl (det_move rfl) rfl ?_
        refine wl_det rfl rfl (det_geq rfl rfl) rfl ?_
        refine wl_nil ?_
        refine pn_then ?_
        refine wc_cond rfl (fun c76 => ?_) (fun c76 => ?_)
        · have h := ifT h c76
          refine wc_exit ?_
          refine px_block_ne rfl ?_
          refine px_then ?_
          refine px_block ?_
          replace h := Option.some.inj h
          subst h
          replace g63 := nextR g63
          subst g63
          exact pn_meetG ((u64 (s63.2 - 1)), ()) rfl ⟨rfl, rfl, rfl, rfl, rfl, rfl, trivial⟩ (fun _ h => h.to trivial trivial)
        · have h := ifF h c76
          refine wc_skip ?_
          refine pn_block ?_
          replace h := Option.some.inj h
          subst h
          exact pn_some (k63, ((u64 (s63.1 + (bShr .u64 (bShl .u64 a2 (u64 r7_1)) 32))), (u64 (s63.2 - 1))), ()) ⟨nextL g63, Nat.lt_succ_self _⟩ ⟨rfl, rfl, rfl, rfl, rfl, rfl, rfl, rfl, rfl, trivial⟩ (fun _ h => h.to trivial trivial)
      · have h := ifF h c67
        refine wc_exit ?_
        refine px_then ?_
        refine px_then ?_
        refine px_block ?_
        replace h := Option.some.inj h
        subst h
        replace g63 := nextR g63
        subst g63
        exact pn_meetG (s63.2, ()) rfl ⟨rfl, rfl, rfl, rfl, rfl, rfl, trivial⟩ (fun _ h => h.to trivial trivial)
    rintro ⟨s61, _⟩ e61
    dsimp only at e61 ⊢
    subst e61
    have h := ho61
    refine wc_seq ?_
    refine wc_region ?_   -- region 28
    refine wl_det rfl rfl (det_move rfl) rfl ?_
    refine wl_det rfl rfl (det_mul rfl rfl) rfl ?_
    refine wl_det rfl rfl (det_move rfl) rfl ?_
    refine wl_det rfl rfl (det_add rfl rfl) rfl ?_
    refine wl_det rfl rfl (det_move rfl) rfl ?_
    refine wl_det rfl rfl (det_mul rfl rfl) rfl ?_
    refine wl_det rfl rfl (det_move rfl) rfl ?_
    refine wl_det rfl rfl (det_add rfl rfl) rfl ?_
    refine wl_det rfl rfl (det_move rfl) rfl ?_
    refine wl_det rfl rfl (det_move rfl) rfl ?_
    refine wl_det rfl rfl (det_mul rfl rfl) rfl ?_
    refine wl_det rfl rfl (det_sub rfl rfl) rfl ?_
    refine wl_det rfl rfl (det_move rfl) rfl ?_
    refine wl_det rfl rfl (det_shr rfl rfl k8_2) rfl ?_
    refine wl_det rfl rfl (det_assign rfl) rfl ?_
    refine wl_det rfl rfl (det_assign rfl) rfl ?_
    refine wl_nil ?_
    refine pn_then ?_
    refine wc_ret ?_
    replace h := Option.some.inj h
    subst h
    refine pn_ret (vs := [_, _]) rfl ⟨rfl, rfl, trivial⟩ ⟨rfl, rfl, rfl⟩ (fun _ h => h.to trivial trivial)
def Q_cmp_isNaN_uint64 (r : Bool) : Value → List Ent → List Fact → Prop := fun v θ κ => v = .bool r ∧ θ = [] ∧ κ = []
theorem plains_cmp_isNaN_uint64 {r : Bool} : ∀ v θ κ, Q_cmp_isNaN_uint64 r v θ κ → Plains θ := by
  rintro _ _ _ ⟨rfl, rfl, rfl⟩
  exact trivial
set_option maxHeartbeats 4000000 in
set_option maxRecDepth 100000 in
theorem W_cmp_isNaN_uint64 (a0 : Int) (r : Bool) (h : cmp_isNaN_uint64 a0 = some r) : Spec Try.prog 69 [.int .u64 a0] [] [] (Q_cmp_isNaN_uint64 r) := by
  unfold cmp_isNaN_uint64 at h
  refine spec_of (σ := [(0, _)]) Try.func69 rfl rfl rfl rfl ?_
  intro C
  refine wc_seq ?_
  refine wc_region ?_   -- region 0
  refine wl_det rfl rfl (det_assign rfl) rfl ?_
  refine wl_nil ?_
  refine pn_then ?_
  refine wc_seq ?_
  refine wc_region ?_   -- region 1
  refine wl_det rfl rfl (det_move rfl) rfl ?_
  refine wl_det rfl rfl (det_move rfl) rfl ?_
  refine wl_det rfl rfl (det_neq rfl rfl) rfl ?_
  refine wl_det rfl rfl (det_assign rfl) rfl ?_
  refine wl_nil ?_
  refine pn_then ?_
  refine wc_ret ?_
  replace h := Option.some.inj h
  subst h
  refine pn_ret (vs := [_]) rfl ⟨rfl, trivial⟩ ⟨rfl, rfl, rfl⟩ (fun _ h => h.to trivial trivial)
def Q_cmp_Compare_uint64 (r : Int) : Value → List Ent → List Fact → Prop := fun v θ κ => v = .int .i64 r ∧ θ = [] ∧ κ = []
theorem plains_cmp_Compare_uint64 {r : Int} : ∀ v θ κ, Q_cmp_Compare_uint64 r v θ κ → Plains θ := by
  rintro _ _ _ ⟨rfl, rfl, rfl⟩
  exact trivial
set_option maxHeartbeats 4000000 in
set_option maxRecDepth 100000 in
theorem W_cmp_Compare_uint64 (a0 : Int) (a1 : Int) (r : Int) (h : cmp_Compare_uint64 a0 a1 = some r) : Spec Try.prog 62 [.int .u64 a0, .int .u64 a1] [] [] (Q_cmp_Compare_uint64 r) := by
  unfold cmp_Compare_uint64 at h
  refine spec_of (σ := [(0, _), (1, _)]) Try.func62 rfl rfl rfl rfl ?_
  intro C
  refine wc_seq ?_
  refine wc_region ?_   -- region 0
  refine wl_det rfl rfl (det_assign rfl) rfl ?_
  refine wl_nil ?_
  refine pn_then ?_
  refine wc_seq ?_
  refine wc_region ?_   -- region 1
  refine wl_det rfl rfl (det_move rfl) rfl ?_
  obtain ⟨r1_1, hr1_1, h⟩ := bind_some h
  refine wl_act (act_callS (cap := []) (W_cmp_isNaN_uint64 a0 r1_1 hr1_1) rfl rfl rfl bd69 rfl trivial) rfl rfl rfl ?_
  rintro _ _ _ ⟨_, _, ⟨rfl, rfl, rfl⟩, rfl, rfl⟩
  dsimp only [List.nil_append, List.cons_append]
  refine wl_det rfl rfl (det_assign rfl) rfl ?_
  refine wl_nil ?_
  refine pn_then ?_
  refine wc_seq ?_
  refine wc_region ?_   -- region 2
  refine wl_det rfl rfl (det_move rfl) rfl ?_
  obtain ⟨r2_1, hr2_1, h⟩ := bind_some h
  refine wl_act (act_callS (cap := []) (W_cmp_isNaN_uint64 a1 r2_1 hr2_1) rfl rfl rfl bd69 rfl trivial) rfl rfl rfl ?_
  rintro _ _ _ ⟨_, _, ⟨rfl, rfl, rfl⟩, rfl, rfl⟩
  dsimp only [List.nil_append, List.cons_append]
  refine wl_det rfl rfl (det_assign rfl) rfl ?_
  refine wl_nil ?_
  refine pn_then ?_
  refine wc_seq ?_
  refine wc_seq ?_
  refine wc_region ?_   -- region 3
  refine wl_det rfl rfl (det_move rfl) rfl ?_
  refine wl_nil ?_
  refine pn_then ?_
  refine wc_cond rfl (fun c9 => ?_) (fun c9 => ?_)
  · have h := ifT h c9
    refine wc_seq ?_
    refine wc_seq ?_
    refine wc_region ?_   -- region 4
    refine wl_det rfl rfl (det_move rfl) rfl ?_
    refine wl_nil ?_
    refine pn_then ?_
    refine wc_cond rfl (fun c13 => ?_) (fun c13 => ?_)
    · have h := ifT h c13
      refine wc_seq ?_
      refine wc_region ?_   -- region 5
      refine wl_det rfl rfl (det_assign rfl) rfl ?_
      refine wl_nil ?_
      refine pn_then ?_
      refine wc_ret ?_
      refine pr_then ?_
      refine pr_then ?_
      replace h := Option.some.inj h
      subst h
      refine pn_ret (vs := [_]) rfl ⟨rfl, trivial⟩ ⟨rfl, rfl, rfl⟩ (fun _ h => h.to trivial trivial)
    · have h := ifF h c13
      refine wc_skip ?_
      refine pn_then ?_
      refine wc_seq ?_
      refine wc_region ?_   -- region 6
      refine wl_det rfl rfl (det_assign rfl) rfl ?_
      refine wl_nil ?_
      refine pn_then ?_
      refine wc_ret ?_
      refine pr_then ?_
      replace h := Option.some.inj h
      subst h
      refine pn_ret (vs := [_]) rfl ⟨rfl, trivial⟩ ⟨rfl, rfl, rfl⟩ (fun _ h => h.to trivial trivial)
  · have h := ifF h c9
    refine wc_skip ?_
    refine pn_then ?_
    refine wc_seq ?_
    refine wc_seq ?_
    refine wc_region ?_   -- region 7
    refine wl_det rfl rfl (det_move rfl) rfl ?_
    refine wl_nil ?_
    refine pn_then ?_
    refine wc_cond rfl (fun c21 => ?_) (fun c21 => ?_)
    · have h := ifT h c21
      refine wc_seq ?_
      refine wc_region ?_   -- region 8
      refine wl_det rfl rfl (det_assign rfl) rfl ?_
      refine wl_nil ?_
      refine pn_then ?_
      refine wc_ret ?_
      refine pr_then ?_
      replace h := Option.some.inj h
      subst h
      refine pn_ret (vs := [_]) rfl ⟨rfl, trivial⟩ ⟨rfl, rfl, rfl⟩ (fun _ h => h.to trivial trivial)
    · have h := ifF h c21
      refine wc_skip ?_
      refine pn_then ?_
      refine wc_seq ?_
      refine wc_seq ?_
      refine wc_region ?_   -- region 9
      refine wl_det rfl rfl (det_move rfl) rfl ?_
      refine wl_det rfl rfl (det_move rfl) rfl ?_
      refine wl_det rfl rfl (det_lss rfl rfl) rfl ?_
      refine wl_nil ?_
      refine pn_then ?_
      refine wc_cond rfl (fun c27 => ?_) (fun c27 => ?_)
      · have h := ifT h c27
        refine wc_seq ?_
        refine wc_region ?_   -- region 10
        refine wl_det rfl rfl (det_assign rfl) rfl ?_
        refine wl_nil ?_
        refine pn_then ?_
        refine wc_ret ?_
        refine pr_then ?_
        replace h := Option.some.inj h
        subst h
        refine pn_ret (vs := [_]) rfl ⟨rfl, trivial⟩ ⟨rfl, rfl, rfl⟩ (fun _ h => h.to trivial trivial)
      · have h := ifF h c27
        refine wc_skip ?_
        refine pn_then ?_
        refine wc_seq ?_
        refine wc_seq ?_
        refine wc_region ?_   -- region 11
        refine wl_det rfl rfl (det_move rfl) rfl ?_
        refine wl_det rfl rfl (det_move rfl) rfl ?_
        refine wl_det rfl rfl (det_gtr rfl rfl) rfl ?_
        refine wl_nil ?_
        refine pn_then ?_
        refine wc_cond rfl (fun c33 => ?_) (fun c33 => ?_)
        · have h := ifT h c33
          refine wc_seq ?_
          refine wc_region ?_   -- region 12
          refine wl_det rfl rfl (det_assign rfl) rfl ?_
          refine wl_nil ?_
          refine pn_then ?_
          refine wc_ret ?_
          refine pr_then ?_
          replace h := Option.some.inj h
          subst h
          refine pn_ret (vs := [_]) rfl ⟨rfl, trivial⟩ ⟨rfl, rfl, rfl⟩ (fun _ h => h.to trivial trivial)
        · have h := ifF h c33
          refine wc_skip ?_
          refine pn_then ?_
          refine wc_seq ?_
          refine wc_region ?_   -- region 13
          refine wl_det rfl rfl (det_assign rfl) rfl ?_
          refine wl_nil ?_
          refine pn_then ?_
          refine wc_ret ?_
          replace h := Option.some.inj h
          subst h
          refine pn_ret (vs := [_]) rfl ⟨rfl, trivial⟩ ⟨rfl, rfl, rfl⟩ (fun _ h => h.to trivial trivial)
def Q_cmp_isNaN_int (r : Bool) : Value → List Ent → List Fact → Prop := fun v θ κ => v = .bool r ∧ θ = [] ∧ κ = []
theorem plains_cmp_isNaN_int {r : Bool} : ∀ v θ κ, Q_cmp_isNaN_int r v θ κ → Plains θ := by
  rintro _ _ _ ⟨rfl, rfl, rfl⟩
  exact trivial
set_option maxHeartbeats 4000000 in
set_option maxRecDepth 100000 in
theorem W_cmp_isNaN_int (a0 : Int) (r : Bool) (h : cmp_isNaN_int a0 = some r) : Spec Try.prog 70 [.int .i64 a0] [] [] (Q_cmp_isNaN_int r) := by
  unfold cmp_isNaN_int at h
  refine spec_of (σ := [(0, _)]) Try.func70 rfl rfl rfl rfl ?_
  intro C
  refine wc_seq ?_
  refine wc_region ?_   -- region 0
  refine wl_det rfl rfl (det_assign rfl) rfl ?_
  refine wl_nil ?_
  refine pn_then ?_
  refine wc_seq ?_
  refine wc_region ?_   -- region 1
  refine wl_det rfl rfl (det_move rfl) rfl ?_
  refine wl_det rfl rfl (det_move rfl) rfl ?_
  refine wl_det rfl rfl (det_neq rfl rfl) rfl ?_
  refine wl_det rfl rfl (det_assign rfl) rfl ?_
  refine wl_nil ?_
  refine pn_then ?_
  refine wc_ret ?_
  replace h := Option.some.inj h
  subst h
  refine pn_ret (vs := [_]) rfl ⟨rfl, trivial⟩ ⟨rfl, rfl, rfl⟩ (fun _ h => h.to trivial trivial)
def Q_cmp_Compare_int (r : Int) : Value → List Ent → List Fact → Prop := fun v θ κ => v = .int .i64 r ∧ θ = [] ∧ κ = []
theorem plains_cmp_Compare_int {r : Int} : ∀ v θ κ, Q_cmp_Compare_int r v θ κ → Plains θ := by
  rintro _ _ _ ⟨rfl, rfl, rfl⟩
  exact trivial
set_option maxHeartbeats 4000000 in
set_option maxRecDepth 100000 in
theorem W_cmp_Compare_int (a0 : Int) (a1 : Int) (r : Int) (h : cmp_Compare_int a0 a1 = some r) : Spec Try.prog 63 [.int .i64 a0, .int .i64 a1] [] [] (Q_cmp_Compare_int r) := by
  unfold cmp_Compare_int at h
  refine spec_of (σ := [(0, _), (1, _)]) Try.func63 rfl rfl rfl rfl ?_
  intro C
  refine wc_seq ?_
  refine wc_region ?_   -- region 0
  refine wl_det rfl rfl (det_assign rfl) rfl ?_
  refine wl_nil ?_
  refine pn_then ?_
  refine wc_seq ?_
  refine wc_region ?_   -- region 1
  refine wl_det rfl rfl (det_move rfl) rfl ?_
  obtain ⟨r1_1, hr1_1, h⟩ := bind_some h
  refine wl_act (act_callS (cap := []) (W_cmp_isNaN_int a0 r1_1 hr1_1) rfl rfl rfl bd70 rfl trivial) rfl rfl rfl ?_
  rintro _ _ _ ⟨_, _, ⟨rfl, rfl, rfl⟩, rfl, rfl⟩
  dsimp only [List.nil_append, List.cons_append]
  refine wl_det rfl rfl (det_assign rfl) rfl ?_
  refine wl_nil ?_
  refine pn_then ?_
  refine wc_seq ?_
  refine wc_region ?_   -- region 2
  refine wl_det rfl rfl (det_move rfl) rfl ?_
  obtain ⟨r2_1, hr2_1, h⟩ := bind_some h
  refine wl_act (act_callS (cap := []) (W_cmp_isNaN_int a1 r2_1 hr2_1) rfl rfl rfl bd70 rfl trivial) rfl rfl rfl ?_
  rintro _ _ _ ⟨_, _, ⟨rfl, rfl, rfl⟩, rfl, rfl⟩
  dsimp only [List.nil_append, List.cons_append]
  refine wl_det rfl rfl (det_assign rfl) rfl ?_
  refine wl_nil ?_
  refine pn_then ?_
  refine wc_seq ?_
  refine wc_seq ?_
  refine wc_region ?_   -- region 3
  refine wl_det rfl rfl (det_move rfl) rfl ?_
  refine wl_nil ?_
  refine pn_then ?_
  refine wc_cond rfl (fun c9 => ?_) (fun c9 => ?_)
  · have h := ifT h c9
    refine wc_seq ?_
    refine wc_seq ?_
    refine wc_region ?_   -- region 4
    refine wl_det rfl rfl (det_move rfl) rfl ?_
    refine wl_nil ?_
    refine pn_then ?_
    refine wc_cond rfl (fun c13 => ?_) (fun c13 => ?_)
    · have h := ifT h c13
      refine wc_seq ?_
      refine wc_region ?_   -- region 5
      refine wl_det rfl rfl (det_assign rfl) rfl ?_
      refine wl_nil ?_
      refine pn_then ?_
      refine wc_ret ?_
      refine pr_then ?_
      refine pr_then ?_
      replace h := Option.some.inj h
      subst h
      refine pn_ret (vs := [_]) rfl ⟨rfl, trivial⟩ ⟨rfl, rfl, rfl⟩ (fun _ h => h.to trivial trivial)
    · have h := ifF h c13
      refine wc_skip ?_
      refine pn_then ?_
      refine wc_seq ?_
      refine wc_region ?_   -- region 6
      refine wl_det rfl rfl (det_assign rfl) rfl ?_
      refine wl_nil ?_
      refine pn_then ?_
      refine wc_ret ?_
      refine pr_then ?_
      replace h := Option.some.inj h
      subst h
      refine pn_ret (vs := [_]) rfl ⟨rfl, trivial⟩ ⟨rfl, rfl, rfl⟩ (fun _ h => h.to trivial trivial)
  · have h := ifF h c9
    refine wc_skip ?_
    refine pn_then ?_
    refine wc_seq ?_
    refine wc_seq ?_
    refine wc_region ?_   -- region 7
    refine wl_det rfl rfl (det_move rfl) rfl ?_
    refine wl_nil ?_
    refine pn_then ?_
    refine wc_cond rfl (fun c21 => ?_) (fun c21 => ?_)
    · have h := ifT h c21
      refine wc_seq ?_
      refine wc_region ?_   -- region 8
      refine wl_det rfl rfl (det_assign rfl) rfl ?_
      refine wl_nil ?_
      refine pn_then ?_
      refine wc_ret ?_
      refine pr_then ?_
      replace h := Option.some.inj h
      subst h
      refine pn_ret (vs := [_]) rfl ⟨rfl, trivial⟩ ⟨rfl, rfl, rfl⟩ (fun _ h => h.to trivial trivial)
    · have h := ifF h c21
      refine wc_skip ?_
      refine pn_then ?_
      refine wc_seq ?_
      refine wc_seq ?_
      refine wc_region ?_   -- region 9
      refine wl_det rfl rfl (det_move rfl) rfl ?_
      refine wl_det rfl rfl (det_move rfl) rfl ?_
      refine wl_det rfl rfl (det_lss rfl rfl) rfl ?_
      refine wl_nil ?_
      refine pn_then ?_
      refine wc_cond rfl (fun c27 => ?_) (fun c27 => ?_)
      · have h := ifT h c27
        refine wc_seq ?_
        refine wc_region ?_   -- region 10
        refine wl_det rfl rfl (det_assign rfl) rfl ?_
        refine wl_nil ?_
        refine pn_then ?_
        refine wc_ret ?_
        refine pr_then ?_
        replace h := Option.some.inj h
        subst h
        refine pn_ret (vs := [_]) rfl ⟨rfl, trivial⟩ ⟨rfl, rfl, rfl⟩ (fun _ h => h.to trivial trivial)
      · have h := ifF h c27
        refine wc_skip ?_
        refine pn_then ?_
        refine wc_seq ?_
        refine wc_seq ?_
        refine wc_region ?_   -- region 11
        refine wl_det rfl rfl (det_move rfl) rfl ?_
        refine wl_det rfl rfl (det_move rfl) rfl ?_
        refine wl_det rfl rfl (det_gtr rfl rfl) rfl ?_
        refine wl_nil ?_
        refine pn_then ?_
        refine wc_cond rfl (fun c33 => ?_) (fun c33 => ?_)
        · have h := ifT h c33
          refine wc_seq ?_
          refine wc_region ?_   -- region 12
          refine wl_det rfl rfl (det_assign rfl) rfl ?_
          refine wl_nil ?_
          refine pn_then ?_
          refine wc_ret ?_
          refine pr_then ?_
          replace h := Option.some.inj h
          subst h
          refine pn_ret (vs := [_]) rfl ⟨rfl, trivial⟩ ⟨rfl, rfl, rfl⟩ (fun _ h => h.to trivial trivial)
        · have h := ifF h c33
          refine wc_skip ?_
          refine pn_then ?_
          refine wc_seq ?_
          refine wc_region ?_   -- region 13
          refine wl_det rfl rfl (det_assign rfl) rfl ?_
          refine wl_nil ?_
          refine pn_then ?_
          refine wc_ret ?_
          replace h := Option.some.inj h
          subst h
          refine pn_ret (vs := [_]) rfl ⟨rfl, trivial⟩ ⟨rfl, rfl, rfl⟩ (fun _ h => h.to trivial trivial)
def Q_cmp_Or_int (r : Int) : Value → List Ent → List Fact → Prop := fun v θ κ => v = .int .i64 r ∧ θ = [] ∧ κ = []
theorem plains_cmp_Or_int {r : Int} : ∀ v θ κ, Q_cmp_Or_int r v θ κ → Plains θ := by
  rintro _ _ _ ⟨rfl, rfl, rfl⟩
  exact trivial
set_option maxHeartbeats 4000000 in
set_option maxRecDepth 100000 in
theorem W_cmp_Or_int (a0 : (List Int)) (A0 : Option Addr) (n0 : Nat) (c0 : Nat) (r : Int) (h : cmp_Or_int a0 = some r) : Spec Try.prog 61 [.slice A0 n0 c0] [] [fV (lSlice (lInt .i64)) (.slice A0 n0 c0) a0] (Q_cmp_Or_int r) := by
  unfold cmp_Or_int at h
  refine spec_of (σ := [(0, _)]) Try.func61 rfl rfl rfl rfl ?_
  intro C
  refine wc_know (fun _ h => h.lenF m0) (fun e => ?_)
  subst e
  refine wc_seq ?_
  refine wc_region ?_   -- region 0
  refine wl_det rfl rfl (det_assign rfl) rfl ?_
  refine wl_nil ?_
  refine pn_then ?_
  refine wc_seq ?_
  refine wc_region ?_   -- region 1
  refine wl_det rfl rfl (det_assign rfl) rfl ?_
  refine wl_nil ?_
  refine pn_then ?_
  obtain ⟨q4, h, ho4⟩ := bind_some h
  refine wc_meetG (G := Unit × Unit) (fun (s4, _) => (.inl s4) = q4) (fun (_, _) => [(3, .int .i64 0)]) (fun (_, _) => []) (fun (_, _) => []) ?_ ?_
  · refine wc_seq ?_
    refine wc_region ?_   -- region 2
    refine wl_det rfl rfl (det_move rfl) rfl ?_
    refine wl_det rfl rfl (det_len rfl un22) rfl ?_
    refine wl_det rfl rfl (det_move rfl) rfl ?_
    refine wl_nil ?_
    refine pn_then ?_
    refine wc_block ?_
    obtain ⟨o8, h, ho8⟩ := bind_some h
    obtain ⟨k8, hk8⟩ := loopV_some.1 h
    refine wc_loop (G := Nat × Int × Unit) (fun g => IterN (cmp_Or_int_l8 a0) g.1 g.2.1 o8) (fun g => g.1) (fun (_, s8, _) => [(3, .int .i64 0), (6, .slice A0 a0.length c0), (7, .int .i64 (a0.length : Int)), (8, .int .i64 s8)]) (fun (_, _, _) => []) (fun (_, _, _) => [fV (lSlice (lInt .i64)) (.slice A0 a0.length c0) a0]) (k8, 0, ()) hk8 ⟨rfl, rfl, rfl, rfl, trivial⟩ (fun _ h => h.to trivial ⟨m0, trivial⟩) ?_
    rintro ⟨k8, s8, _⟩ hI
    obtain ⟨k8, rfl, q8, h, g8⟩ := IterN.pos hI
    dsimp only at h ⊢
    unfold cmp_Or_int_l8 at h
    refine wc_seq ?_
    refine wc_region ?_   -- region 3
    refine wl_det rfl rfl (det_lss rfl rfl) rfl ?_
    refine wl_nil ?_
    refine pn_then ?_
    refine wc_seq ?_
    refine wc_cond rfl (fun c12 => ?_) (fun c12 => ?_)
    · have h := ifT h c12
      refine wc_skip ?_
      refine pn_then ?_
      refine wc_seq ?_
      refine wc_block ?_
      refine wc_seq ?_
      refine wc_region ?_   -- region 4
      obtain ⟨k4_0, h⟩ := chk_some h
      refine wl_st (fun _ h => h.openF m0 k4_0) ?_
      refine wl_det rfl rfl (det_indexP rfl rfl (ms m0) k4_0 m0 un22 sz3) rfl ?_
      refine wl_det rfl rfl (det_loadP (off := 0) rfl m0 (by rfl) (by rfl) (loaded_1 na3 us3)) rfl ?_
      refine wl_det rfl rfl (det_assign rfl) rfl ?_
      refine wl_nil ?_
      refine pn_then ?_
      refine wc_seq ?_
      refine wc_region ?_   -- region 5
      refine wl_det rfl rfl (det_move rfl) rfl ?_
      refine wl_det rfl rfl (det_move rfl) rfl ?_
      refine wl_det rfl rfl (det_neq rfl rfl) rfl ?_
      refine wl_nil ?_
      refine pn_then ?_
      refine wc_cond rfl (fun c20 => ?_) (fun c20 => ?_)
      · have h := ifT h c20
        refine wc_seq ?_
        refine wc_region ?_   -- region 6
        refine wl_det rfl rfl (det_move rfl) rfl ?_
        refine wl_det rfl rfl (det_assign rfl) rfl ?_
        refine wl_nil ?_
        refine pn_then ?_
        refine wc_ret ?_
        refine pr_block ?_
        refine pr_then ?_
        refine pr_then ?_
        refine pr_block ?_
        refine pr_then ?_
        replace h := Option.some.inj h
        subst h
        replace g8 := nextR g8
        subst g8
        have h := (elimL ho8)
        replace h := Option.some.inj h
        subst h
        have h := (elimR ho4)
        replace h := Option.some.inj h
        subst h
        refine pn_ret (vs := [_]) rfl ⟨rfl, trivial⟩ ⟨rfl, rfl, rfl⟩ (fun _ h => h.to trivial trivial)
      · have h := ifF h c20
        refine wc_skip ?_
        refine pn_block ?_
        refine pn_then ?_
        refine wc_region ?_   -- region 7
        refine wl_det rfl rfl (det_add rfl rfl) rfl ?_
        refine wl_det rfl rfl (det_move rfl) rfl ?_
        refine wl_nil ?_
        replace h := Option.some.inj h
        subst h
        exact pn_some (k8, (w64 (s8 + 1)), ()) ⟨nextL g8, Nat.lt_succ_self _⟩ ⟨rfl, rfl, rfl, rfl, trivial⟩ (fun _ h => h.to trivial ⟨(ms m0), trivial⟩)
    · have h := ifF h c12
      refine wc_exit ?_
      refine px_then ?_
      refine px_then ?_
      refine px_block ?_
      replace h := Option.some.inj h
      subst h
      replace g8 := nextR g8
      subst g8
      have h := (elimR ho8)
      replace h := Option.some.inj h
      subst h
      exact pn_meetG ((), ()) rfl ⟨rfl, trivial⟩ (fun _ h => h.to trivial trivial)
  rintro ⟨s4, _⟩ e4
  dsimp only at e4 ⊢
  subst e4
  have h := (elimL ho4)
  refine wc_seq ?_
  refine wc_region ?_   -- region 8
  refine wl_det rfl rfl (det_move rfl) rfl ?_
  refine wl_det rfl rfl (det_assign rfl) rfl ?_
  refine wl_nil ?_
  refine pn_then ?_
  refine wc_ret ?_
  replace h := Option.some.inj h
  subst h
  refine pn_ret (vs := [_]) rfl ⟨rfl, trivial⟩ ⟨rfl, rfl, rfl⟩ (fun _ h => h.to trivial trivial)
def Q_split_divide_c1 (Ba2 : Nat) (A1 : Option Addr) (n1 : Nat) (c1 : Nat) (r : Int) : Value → List Ent → List Fact → Prop := fun v θ κ => v = .int .i64 r ∧ θ = [eBlk Ba2 77 [.slice A1 n1 c1]] ∧ κ = []
theorem plains_split_divide_c1 {Ba2 : Nat} {A1 : Option Addr} {n1 : Nat} {c1 : Nat} {r : Int} : ∀ v θ κ, Q_split_divide_c1 Ba2 A1 n1 c1 r v θ κ → Plains θ := by
  rintro _ _ _ ⟨rfl, rfl, rfl⟩
  exact ⟨plain_eBlk, trivial⟩
set_option maxHeartbeats 4000000 in
set_option maxRecDepth 100000 in
theorem W_split_divide_c1 (a0 : Int) (a1 : Int) (a2 : (List Int)) (Ba2 : Nat) (A1 : Option Addr) (n1 : Nat) (c1 : Nat) (r : Int) (h : split_divide_c1 a0 a1 a2 = some r) : Spec Try.prog 60 [.int .i64 a0, .int .i64 a1, .pointer (some ⟨Ba2, 0, none⟩)] [eBlk Ba2 77 [.slice A1 n1 c1]] [fV (lSlice (lInt .u64)) (.slice A1 n1 c1) a2] (Q_split_divide_c1 Ba2 A1 n1 c1 r) := by
  unfold split_divide_c1 at h
  refine spec_of (σ := [(0, _), (1, _), (2, _)]) Try.func60 rfl rfl rfl rfl ?_
  intro C
  refine wc_know (fun _ h => h.lenF m0) (fun e => ?_)
  subst e
  refine wc_seq ?_
  refine wc_region ?_   -- region 0
  refine wl_det rfl rfl (det_assign rfl) rfl ?_
  refine wl_nil ?_
  refine pn_then ?_
  refine wc_seq ?_
  obtain ⟨k1_p1, h⟩ := chk_some h
  refine wc_st (fun _ h => h.openF m0 k1_p1) ?_
  obtain ⟨k1_p3, h⟩ := chk_some h
  refine wc_st (fun _ h => h.openF (ms m0) k1_p3) ?_
  refine dx_region 14 [[], [], [0, 1], [0, 1, 2], [], [], [4, 5], [4, 5, 6], [0, 1, 2, 3, 4, 5, 6, 7], [], [], [0, 1, 2, 3, 4, 5, 6, 7, 8, 9, 10], [0, 1, 2, 3, 4, 5, 6, 7, 8, 9, 10, 11], [0, 1, 2, 3, 4, 5, 6, 7, 8, 9, 10, 11, 12], [0, 1, 2, 3, 4, 5, 6, 7, 8, 9, 10, 11, 12, 13]] mixed (ord := (.det 0 (.det 1 (.det 2 (.det 3 (.det 4 (.det 5 (.det 6 (.det 7 (.det 9 (.det 10 (.alt 8 (.alt 11 (.alt 12 (.alt 13 .done .dead) .dead) .dead) .dead)))))))))))) (by kernel_rfl) ?_   -- region 1
  refine hx_det rfl rfl rfl nofun (det_load rfl m0 (by rfl) na77 us77) rfl ?_
  refine hx_det rfl rfl rfl nofun (det_move rfl) rfl ?_
  refine hx_det rfl rfl rfl nofun (det_indexP rfl rfl (ms (ms m0)) k1_p1 (ms m0) un77 sz78) rfl ?_
  refine hx_det rfl rfl rfl nofun (det_loadP (off := 0) rfl (ms m0) (by rfl) (by rfl) (loaded_1 na78 us78)) rfl ?_
  refine hx_det rfl rfl rfl nofun (det_load rfl m0 (by rfl) na77 us77) rfl ?_
  refine hx_det rfl rfl rfl nofun (det_move rfl) rfl ?_
  refine hx_det rfl rfl rfl nofun (det_indexP rfl rfl (ms (ms m0)) k1_p3 m0 un77 sz78) rfl ?_
  refine hx_det rfl rfl rfl nofun (det_loadP (off := 0) rfl m0 (by rfl) (by rfl) (loaded_1 na78 us78)) rfl ?_
  refine hx_det rfl rfl rfl nofun (det_move rfl) rfl ?_
  refine hx_det rfl rfl rfl nofun (det_move rfl) rfl ?_
  obtain ⟨r1_8, hr1_8, h⟩ := bind_some h
  refine hx_act rfl rfl rfl (act_callS (cap := []) (W_cmp_Compare_uint64 (ix a2 a1) (ix a2 a0) r1_8 hr1_8) rfl rfl rfl bd62 rfl trivial) rfl (by rintro _ _ _ ⟨_, _, _, rfl, rfl⟩; first | exact ⟨_, _, rfl, rfl⟩ | exact ⟨_, [], rfl, rfl⟩) ?_
  rintro _ _ _ ⟨_, _, ⟨rfl, rfl, rfl⟩, rfl, rfl⟩
  dsimp only [List.nil_append, List.cons_append]
  obtain ⟨r1_11, hr1_11, h⟩ := bind_some h
  refine hx_act rfl rfl rfl (act_callS (cap := []) (W_cmp_Compare_int a0 a1 r1_11 hr1_11) rfl rfl rfl bd63 rfl trivial) rfl (by rintro _ _ _ ⟨_, _, _, rfl, rfl⟩; first | exact ⟨_, _, rfl, rfl⟩ | exact ⟨_, [], rfl, rfl⟩) ?_
  rintro _ _ _ ⟨_, _, ⟨rfl, rfl, rfl⟩, rfl, rfl⟩
  dsimp only [List.nil_append, List.cons_append]
  refine hx_act rfl rfl rfl (act_litS (lInt .i64) (vs := [_, _]) (cs := [_, _]) [r1_8, r1_11] un22 in3 rfl rfl rfl rfl rfl ⟨rfl, rfl, trivial⟩ (by rfl) rfl (litR_flat rfl)) rfl (by rintro _ _ _ ⟨A1_12, rfl, rfl, rfl⟩; first | exact ⟨_ :: [], [], rfl, rfl⟩ | exact ⟨[], [_], rfl, rfl⟩ | exact ⟨[], [], rfl, rfl⟩) ?_
  rintro _ _ _ ⟨A1_12, rfl, rfl, rfl⟩
  obtain ⟨r1_13, hr1_13, h⟩ := bind_some h
  refine hx_act rfl rfl rfl (act_callL (cap := []) [eS (lInt .i64) 3 A1_12 2 2 [r1_8, r1_11]] (W_cmp_Or_int [r1_8, r1_11] A1_12 2 2 r1_13 hr1_13) plains_cmp_Or_int rfl rfl rfl bd61 rfl ⟨m0, trivial⟩ ⟨.inr ⟨_, m0, lent_eS⟩, trivial⟩) rfl (by rintro _ _ _ ⟨_, _, _, rfl, rfl⟩; first | exact ⟨_, _, rfl, rfl⟩ | exact ⟨_, [], rfl, rfl⟩) ?_
  rintro _ _ _ ⟨_, _, ⟨rfl, rfl, rfl⟩, rfl, rfl⟩
  dsimp only [List.nil_append, List.cons_append]
  refine hx_end ?_
  refine wl_det rfl rfl (det_assign rfl) rfl ?_
  refine wl_nil ?_
  refine pn_then ?_
  refine wc_ret ?_
  replace h := Option.some.inj h
  subst h
  refine pn_ret (vs := [_]) rfl ⟨rfl, trivial⟩ ⟨rfl, rfl, rfl⟩ (fun _ h => h.to ⟨_, (rs r0), trivial⟩ trivial)
def Q_slices_SortFunc_s_int_int_o_split_divide_c1 (A0 : Option Addr) (n0 : Nat) (c0 : Nat) (Ba1_0 : Nat) (A4 : Option Addr) (n4 : Nat) (c4 : Nat) (r : (List Int)) : Value → List Ent → List Fact → Prop := fun v θ κ => v = .tuple #[] ∧ θ = [eS (lInt .i64) 3 A0 n0 c0 r, eBlk Ba1_0 77 [.slice A4 n4 c4]] ∧ κ = []
theorem plains_slices_SortFunc_s_int_int_o_split_divide_c1 {A0 : Option Addr} {n0 : Nat} {c0 : Nat} {Ba1_0 : Nat} {A4 : Option Addr} {n4 : Nat} {c4 : Nat} {r : (List Int)} : ∀ v θ κ, Q_slices_SortFunc_s_int_int_o_split_divide_c1 A0 n0 c0 Ba1_0 A4 n4 c4 r v θ κ → Plains θ := by
  rintro _ _ _ ⟨rfl, rfl, rfl⟩
  exact ⟨plain_eS, plain_eBlk, trivial⟩
theorem W_slices_SortFunc_s_int_int_o_split_divide_c1 (a0 : (List Int)) (a1_0 : (List Int)) (A0 : Option Addr) (n0 : Nat) (c0 : Nat) (Ba1_0 : Nat) (A4 : Option Addr) (n4 : Nat) (c4 : Nat) (r : (List Int)) (h : slices_SortFunc_s_int_int_o_split_divide_c1 a0 a1_0 = some r) : Spec Try.prog 64 [.slice A0 n0 c0, .func (.func 60) #[] #[.pointer (some ⟨Ba1_0, 0, none⟩)]] [eS (lInt .i64) 3 A0 n0 c0 a0, eBlk Ba1_0 77 [.slice A4 n4 c4]] [fV (lSlice (lInt .u64)) (.slice A4 n4 c4) a1_0] (Q_slices_SortFunc_s_int_int_o_split_divide_c1 A0 n0 c0 Ba1_0 A4 n4 c4 r) :=
  spec_sort1 (ρ := Try.sort64_ren) Try.sort64 rfl (fun _ => rfl) (cap := [.pointer (some ⟨Ba1_0, 0, none⟩)]) (θ₀ := [eBlk Ba1_0 77 [.slice A4 n4 c4]]) bd60 ⟨⟨_, _, _, rfl⟩, trivial⟩ (fun x y r h => W_split_divide_c1 x y a1_0 Ba1_0 A4 n4 c4 r h) h A0 n0 c0
def Q_split_divide (r : (List Int)) : Value → List Ent → List Fact → Prop := fun v θ κ => ∃ (pA0 : Option Addr), ∃ (pn0 : Nat), ∃ (pc0 : Nat), v = .slice pA0 pn0 pc0 ∧ θ = [eS (lInt .i64) 3 pA0 pn0 pc0 r] ∧ κ = []
theorem plains_split_divide {r : (List Int)} : ∀ v θ κ, Q_split_divide r v θ κ → Plains θ := by
  rintro _ _ _ ⟨_, _, _, rfl, rfl, rfl⟩
  exact ⟨plain_eS, trivial⟩
set_option maxHeartbeats 4000000 in
set_option maxRecDepth 100000 in
theorem W_split_divide (a0 : Int) (a1 : (List Int)) (a2 : Int) (A0 : Option Addr) (n0 : Nat) (c0 : Nat) (r : (List Int)) (h : split_divide a0 a1 a2 = some r) : Spec Try.prog 54 [.int .i64 a0, .slice A0 n0 c0, .int .i64 a2] [] [fV (lSlice (lInt .i64)) (.slice A0 n0 c0) a1] (Q_split_divide r) := by
  unfold split_divide at h
  refine spec_of (σ := [(0, _), (1, _), (2, _)]) Try.func54 rfl rfl rfl rfl ?_
  intro C
  refine wc_know (fun _ h => h.lenF m0) (fun e => ?_)
  subst e
  refine wc_seq ?_
  refine wc_region ?_   -- region 0
  refine wl_det rfl rfl (det_assign rfl) rfl ?_
  refine wl_nil ?_
  refine pn_then ?_
  refine wc_seq ?_
  refine wc_region ?_   -- region 1
  refine wl_det rfl rfl (det_move rfl) rfl ?_
  refine wl_det rfl rfl (det_len rfl un22) rfl ?_
  obtain ⟨k1_2, h⟩ := chk_some h
  obtain ⟨k1_2a, h⟩ := chk_some h
  refine wl_act (act_makeS (L := (lInt .i64)) (x0 := (0 : Int)) rfl rfl un22 in3 (by refine ⟨rfl, fun _ _ => ?_⟩; first | exact rfl | exact ⟨_, _, _, rfl, rfl, Nat.zero_le _, .inl rfl⟩) rfl rfl k1_2 (decide_eq_true (Int.le_refl _)) k1_2a) rfl rfl rfl ?_
  rintro _ _ _ ⟨A1_2, c1_2, rfl, rfl, rfl⟩
  refine wl_det rfl rfl (det_assign rfl) rfl ?_
  refine wl_nil ?_
  refine pn_then ?_
  refine wc_seq ?_
  refine wc_region ?_   -- region 2
  refine wl_det rfl rfl (det_move rfl) rfl ?_
  refine wl_det rfl rfl (det_len rfl un22) rfl ?_
  refine wl_act (act_makeS (L := (lInt .u64)) (x0 := (0 : Int)) rfl rfl un77 in78 (by refine ⟨rfl, fun _ _ => ?_⟩; first | exact rfl | exact ⟨_, _, _, rfl, rfl, Nat.zero_le _, .inl rfl⟩) rfl rfl k1_2 (decide_eq_true (Int.le_refl _)) k1_2a) rfl rfl rfl ?_
  rintro _ _ _ ⟨A2_2, c2_2, rfl, rfl, rfl⟩
  refine wl_act (act_alloc (cs := [_]) zr77 rfl) rfl rfl rfl ?_
  rintro _ _ _ ⟨b2_3, rfl, rfl, rfl⟩
  refine wl_act0 (act_store (cells := [_]) (cs' := [_]) rfl rfl rfl s0 (by rfl) (of_decide_eq_true rfl) sz77 ⟨rfl, trivial⟩) rfl rfl ?_
  rintro _ _ _ ⟨rfl, rfl⟩
  refine wl_nil ?_
  refine pn_then ?_
  refine wc_seq ?_
  refine wc_region ?_   -- region 3
  refine wl_det rfl rfl (det_move rfl) rfl ?_
  refine wl_det rfl rfl (det_len rfl un22) rfl ?_
  refine wl_act (act_makeS (L := (lInt .i64)) (x0 := (0 : Int)) rfl rfl un22 in3 (by refine ⟨rfl, fun _ _ => ?_⟩; first | exact rfl | exact ⟨_, _, _, rfl, rfl, Nat.zero_le _, .inl rfl⟩) rfl rfl k1_2 (decide_eq_true (Int.le_refl _)) k1_2a) rfl rfl rfl ?_
  rintro _ _ _ ⟨A3_2, c3_2, rfl, rfl, rfl⟩
  refine wl_det rfl rfl (det_assign rfl) rfl ?_
  refine wl_nil ?_
  refine pn_then ?_
  refine wc_seq ?_
  refine wc_region ?_   -- region 4
  refine wl_det rfl rfl (det_move rfl) rfl ?_
  refine wl_det rfl rfl (det_assign rfl) rfl ?_
  refine wl_nil ?_
  refine pn_then ?_
  obtain ⟨q10, h, ho10⟩ := bind_some h
  refine wc_meetG (G := ((List Int) × (List Int) × (List Int) × Int) × Unit) (fun (s10, _) => s10 = q10) (fun (s10, _) => [(7, .slice A1_2 (List.replicate (a1.length : Int).toNat (0 : Int)).length c1_2), (8, .pointer (some ⟨b2_3, 0, none⟩)), (9, .slice A3_2 (List.replicate (a1.length : Int).toNat (0 : Int)).length c3_2), (10, .int .i64 s10.2.2.2)]) (fun (s10, _) => [eS (lInt .i64) 3 A1_2 (List.replicate (a1.length : Int).toNat (0 : Int)).length c1_2 s10.1, eBlk b2_3 77 [.slice A2_2 (List.replicate (a1.length : Int).toNat (0 : Int)).length c2_2], eS (lInt .u64) 78 A2_2 (List.replicate (a1.length : Int).toNat (0 : Int)).length c2_2 s10.2.1, eS (lInt .i64) 3 A3_2 (List.replicate (a1.length : Int).toNat (0 : Int)).length c3_2 s10.2.2.1]) (fun (_, _) => []) ?_ ?_
  · refine wc_seq ?_
    refine wc_region ?_   -- region 5
    refine wl_det rfl rfl (det_move rfl) rfl ?_
    refine wl_det rfl rfl (det_len rfl un22) rfl ?_
    refine wl_det rfl rfl (det_move rfl) rfl ?_
    refine wl_nil ?_
    refine pn_then ?_
    refine wc_block ?_
    obtain ⟨k14, hk14⟩ := loopV_some.1 h
    refine wc_loop (G := Nat × ((List Int) × (List Int) × (List Int) × Int × Int) × Unit) (fun g => IterN (split_divide_l14 a0 a1 a2) g.1 g.2.1 q10) (fun g => g.1) (fun (_, s14, _) => [(0, .int .i64 a0), (2, .int .i64 a2), (7, .slice A1_2 (List.replicate (a1.length : Int).toNat (0 : Int)).length c1_2), (8, .pointer (some ⟨b2_3, 0, none⟩)), (9, .slice A3_2 (List.replicate (a1.length : Int).toNat (0 : Int)).length c3_2), (10, .int .i64 s14.2.2.2.1), (30, .slice A0 a1.length c0), (31, .int .i64 (a1.length : Int)), (32, .int .i64 s14.2.2.2.2)]) (fun (_, s14, _) => [eS (lInt .i64) 3 A1_2 (List.replicate (a1.length : Int).toNat (0 : Int)).length c1_2 s14.1, eBlk b2_3 77 [.slice A2_2 (List.replicate (a1.length : Int).toNat (0 : Int)).length c2_2], eS (lInt .u64) 78 A2_2 (List.replicate (a1.length : Int).toNat (0 : Int)).length c2_2 s14.2.1, eS (lInt .i64) 3 A3_2 (List.replicate (a1.length : Int).toNat (0 : Int)).length c3_2 s14.2.2.1]) (fun (_, _, _) => [fV (lSlice (lInt .i64)) (.slice A0 a1.length c0) a1]) (k14, ((List.replicate (a1.length : Int).toNat (0 : Int)), (List.replicate (a1.length : Int).toNat (0 : Int)), (List.replicate (a1.length : Int).toNat (0 : Int)), a0, 0), ()) hk14 ⟨rfl, rfl, rfl, rfl, rfl, rfl, rfl, rfl, rfl, trivial⟩ (fun _ h => h.to ⟨_, (rs (rs (rs r0))), ⟨_, (rs r0), ⟨_, (rs r0), ⟨_, r0, trivial⟩⟩⟩⟩ ⟨m0, trivial⟩) ?_
    rintro ⟨k14, s14, _⟩ hI
    obtain ⟨k14, rfl, q14, h, g14⟩ := IterN.pos hI
    dsimp only at h ⊢
    unfold split_divide_l14 at h
    refine wc_seq ?_
    refine wc_region ?_   -- region 6
    refine wl_det rfl rfl (det_lss rfl rfl) rfl ?_
    refine wl_nil ?_
    refine pn_then ?_
    refine wc_seq ?_
    refine wc_cond rfl (fun c18 => ?_) (fun c18 => ?_)
    · have h := ifT h c18
      refine wc_skip ?_
      refine pn_then ?_
      refine wc_seq ?_
      refine wc_block ?_
      refine wc_seq ?_
      refine wc_region ?_   -- region 7
      refine wl_det rfl rfl (det_move rfl) rfl ?_
      obtain ⟨k7_1, h⟩ := chk_some h
      refine wl_st (fun _ h => h.openF m0 k7_1) ?_
      refine wl_det rfl rfl (det_indexP rfl rfl (ms m0) k7_1 m0 un22 sz3) rfl ?_
      refine wl_det rfl rfl (det_loadP (off := 0) rfl m0 (by rfl) (by rfl) (loaded_1 na3 us3)) rfl ?_
      refine wl_det rfl rfl (det_assign rfl) rfl ?_
      refine wl_det rfl rfl (det_assign rfl) rfl ?_
      refine wl_nil ?_
      refine pn_then ?_
      refine wc_seq ?_
      refine wc_region ?_   -- region 8
      refine wl_det rfl rfl (det_move rfl) rfl ?_
      refine wl_det rfl rfl (det_conv rfl us3 un78) rfl ?_
      refine wl_det rfl rfl (det_move rfl) rfl ?_
      refine wl_det rfl rfl (det_conv rfl us3 un78) rfl ?_
      obtain ⟨r8_4, hr8_4, h⟩ := bind_some h
      refine wl_act (act_callS (cap := []) (W_bits_Mul64 (u64 a0) (u64 (ix a1 s14.2.2.2.2)) r8_4 hr8_4) rfl rfl rfl bd58 rfl trivial) rfl rfl rfl ?_
      rintro _ _ _ ⟨_, _, ⟨rfl, rfl, rfl⟩, rfl, rfl⟩
      dsimp only [List.nil_append, List.cons_append]
      refine wl_det rfl rfl (det_move rfl) rfl ?_
      refine wl_det rfl rfl (det_extract rfl rfl) rfl ?_
      refine wl_det rfl rfl (det_extract rfl rfl) rfl ?_
      refine wl_det rfl rfl (det_assign rfl) rfl ?_
      refine wl_det rfl rfl (det_assign rfl) rfl ?_
      refine wl_nil ?_
      refine pn_then ?_
      refine wc_seq ?_
      refine wc_region ?_   -- region 9
      refine wl_det rfl rfl (det_move rfl) rfl ?_
      refine wl_det rfl rfl (det_move rfl) rfl ?_
      refine wl_det rfl rfl (det_move rfl) rfl ?_
      refine wl_det rfl rfl (det_conv rfl us3 un78) rfl ?_
      obtain ⟨r9_4, hr9_4, h⟩ := bind_some h
      refine wl_act (act_callS (cap := []) (W_bits_Div64 r8_4.1 r8_4.2 (u64 a2) r9_4 hr9_4) rfl rfl rfl bd59 rfl trivial) rfl rfl rfl ?_
      rintro _ _ _ ⟨_, _, ⟨rfl, rfl, rfl⟩, rfl, rfl⟩
      dsimp only [List.nil_append, List.cons_append]
      refine wl_det rfl rfl (det_move rfl) rfl ?_
      refine wl_det rfl rfl (det_extract rfl rfl) rfl ?_
      refine wl_det rfl rfl (det_extract rfl rfl) rfl ?_
      refine wl_det rfl rfl (det_assign rfl) rfl ?_
      refine wl_det rfl rfl (det_assign rfl) rfl ?_
      refine wl_nil ?_
      refine pn_then ?_
      refine wc_seq ?_
      obtain ⟨k10_p1, h⟩ := chk_some h
      obtain ⟨k10_p2, h⟩ := chk_some h
      obtain ⟨k10_p3, h⟩ := chk_some h
      refine wc_know (fun _ h => h.ixA m0 k10_p1) (fun kx10_x4 => ?_)
      refine wc_know (fun _ h => h.ixA (ms (ms m0)) k10_p2) (fun kx10_x5 => ?_)
      refine dx_regionZ (Z := St C [_, _] [_, _]) 14 [[], [], [], [], [], [], [], [6], [], [], [0, 1, 6, 7], [0, 1, 6, 7, 10], [0, 1, 2, 3, 6, 7, 8, 10, 11], [0, 1, 2, 3, 6, 7, 8, 10, 11, 12], [0, 1, 2, 3, 4, 5, 6, 7, 8, 9, 10, 11, 12, 13], [0, 1, 2, 3, 4, 5, 6, 7, 8, 9, 10, 11, 12, 13, 14]] mixed (ord := (.det 0 (.det 1 (.det 2 (.det 3 (.det 4 (.det 5 (.det 6 (.det 7 (.det 8 (.det 9 (.det 10 (.alt 11 (.det 12 (.alt 13 .done .dead)) .dead))))))))))))) (by kernel_rfl) (fun _ h => h.to ⟨_, (rs r0), ⟨_, (rs (rs r0)), trivial⟩⟩ ⟨m0, ⟨(ms m0), trivial⟩⟩) ?_   -- region 10
      refine hx_det rfl rfl rfl nofun (det_move rfl) rfl ?_
      refine hx_det rfl rfl rfl nofun (det_move rfl) rfl ?_
      refine hx_det rfl rfl rfl nofun (det_load rfl m0 (by rfl) na77 us77) rfl ?_
      refine hx_det rfl rfl rfl nofun (det_move rfl) rfl ?_
      refine hx_det rfl rfl rfl nofun (det_move rfl) rfl ?_
      refine hx_det rfl rfl rfl nofun (det_move rfl) rfl ?_
      refine hx_det rfl rfl rfl nofun (det_move rfl) rfl ?_
      refine hx_det rfl rfl rfl nofun (det_conv rfl us78 un3) rfl ?_
      refine hx_det rfl rfl rfl nofun (det_move rfl) rfl ?_
      refine hx_det rfl rfl rfl nofun (det_move rfl) rfl ?_
      refine hx_det rfl rfl rfl nofun (det_indexV rfl rfl kx10_x4 un22 sz3) rfl ?_
      refine hx_mut0 rfl rfl rfl (act_storeO (cells := [_]) (off := 0) (w64 r9_4.1) rfl rfl rfl s0 k10_p1 (by rfl) sz3 (by intro u hu; simp at hu; rcases hu with rfl <;> rfl) (stR_flat rfl rfl)) (by rintro _ _ _ ⟨rfl, rfl⟩ w hs; exact hs.to ⟨_, (rs r0), ⟨_, (rs (rs r0)), trivial⟩⟩ ⟨m0, ⟨(ms m0), trivial⟩⟩) ?_
      rintro _ _ _ ⟨rfl, rfl⟩
      refine hx_det rfl rfl rfl nofun (det_indexV rfl rfl kx10_x5 un77 sz78) rfl ?_
      refine hx_mut0 rfl rfl rfl (act_storeO (cells := [_]) (off := 0) r9_4.2 rfl rfl rfl (ss (ss s0)) k10_p2 (by rfl) sz78 (by intro u hu; simp at hu; rcases hu with rfl <;> rfl) (stR_flat rfl rfl)) (by rintro _ _ _ ⟨rfl, rfl⟩ w hs; exact hs.to ⟨_, (rs r0), ⟨_, (rs (rs r0)), trivial⟩⟩ ⟨m0, ⟨(ms m0), trivial⟩⟩) ?_
      rintro _ _ _ ⟨rfl, rfl⟩
      refine hx_end ?_
      refine wl_det rfl rfl (det_indexO rfl rfl (ms (ms (ms m0))) k10_p3 un22 sz3) rfl ?_
      refine wl_act0 (act_storeO (cells := [_]) (off := 0) s14.2.2.2.2 rfl rfl rfl (ss (ss (ss s0))) k10_p3 (by rfl) sz3 (by intro u hu; simp at hu; rcases hu with rfl <;> rfl) (stR_flat rfl rfl)) rfl rfl ?_
      rintro _ _ _ ⟨rfl, rfl⟩
      refine wl_nil ?_
      refine pn_then ?_
      refine wc_region ?_   -- region 11
      refine wl_det rfl rfl (det_move rfl) rfl ?_
      refine wl_det rfl rfl (det_move rfl) rfl ?_
      refine wl_det rfl rfl (det_move rfl) rfl ?_
      refine wl_det rfl rfl (det_indexV rfl rfl kx10_x4 un22 sz3) rfl ?_
      obtain ⟨k11_4, h⟩ := chk_some h
      refine wl_det rfl rfl (det_loadO (off := 0) rfl m0 k11_4 (by rfl) (by rfl) (loaded_1 na3 us3)) rfl ?_
      refine wl_det rfl rfl (det_sub rfl rfl) rfl ?_
      refine wl_det rfl rfl (det_assign rfl) rfl ?_
      refine wl_nil ?_
      refine pn_block ?_
      refine pn_then ?_
      refine wc_region ?_   -- region 12
      refine wl_det rfl rfl (det_add rfl rfl) rfl ?_
      refine wl_det rfl rfl (det_move rfl) rfl ?_
      refine wl_nil ?_
      replace h := Option.some.inj h
      subst h
      exact pn_some (k14, ((upd s14.1 s14.2.2.2.2 (w64 r9_4.1)), (upd s14.2.1 s14.2.2.2.2 r9_4.2), (upd s14.2.2.1 s14.2.2.2.2 s14.2.2.2.2), (w64 (s14.2.2.2.1 - (ix (upd s14.1 s14.2.2.2.2 (w64 r9_4.1)) s14.2.2.2.2))), (w64 (s14.2.2.2.2 + 1))), ()) ⟨nextL g14, Nat.lt_succ_self _⟩ ⟨rfl, rfl, rfl, rfl, rfl, rfl, rfl, rfl, rfl, trivial⟩ (fun _ h => h.to ⟨_, r0, ⟨_, r0, ⟨_, r0, ⟨_, r0, trivial⟩⟩⟩⟩ ⟨(ms m0), trivial⟩)
    · have h := ifF h c18
      refine wc_exit ?_
      refine px_then ?_
      refine px_then ?_
      refine px_block ?_
      replace h := Option.some.inj h
      subst h
      replace g14 := nextR g14
      subst g14
      exact pn_meetG ((s14.1, s14.2.1, s14.2.2.1, s14.2.2.2.1), ()) rfl ⟨rfl, rfl, rfl, rfl, trivial⟩ (fun _ h => h.to ⟨_, r0, ⟨_, r0, ⟨_, r0, ⟨_, r0, trivial⟩⟩⟩⟩ trivial)
  rintro ⟨s10, _⟩ e10
  dsimp only at e10 ⊢
  subst e10
  have h := ho10
  refine wc_seq ?_
  refine wc_region ?_   -- region 13
  refine wl_det rfl rfl (det_makeFunc rfl) rfl ?_
  refine wl_det rfl rfl (det_assign rfl) rfl ?_
  refine wl_nil ?_
  refine pn_then ?_
  refine wc_seq ?_
  refine wc_region ?_   -- region 14
  refine wl_det rfl rfl (det_move rfl) rfl ?_
  refine wl_det rfl rfl (det_move rfl) rfl ?_
  obtain ⟨r14_2, hr14_2, h⟩ := bind_some h
  refine wl_act (act_callL (cap := []) [eS (lInt .u64) 78 A2_2 (List.replicate (a1.length : Int).toNat (0 : Int)).length c2_2 s10.2.1] (W_slices_SortFunc_s_int_int_o_split_divide_c1 s10.2.2.1 s10.2.1 A3_2 (List.replicate (a1.length : Int).toNat (0 : Int)).length c3_2 b2_3 A2_2 (List.replicate (a1.length : Int).toNat (0 : Int)).length c2_2 r14_2 hr14_2) plains_slices_SortFunc_s_int_int_o_split_divide_c1 rfl rfl rfl bd64 ⟨_, (rs (rs (rs r0))), ⟨_, (rs r0), rfl⟩⟩ ⟨(ms m0), trivial⟩ ⟨.inr ⟨_, m0, lent_eS⟩, trivial⟩) rfl rfl rfl ?_
  rintro _ _ _ ⟨_, _, ⟨rfl, rfl, rfl⟩, rfl, rfl⟩
  dsimp only [List.nil_append, List.cons_append]
  refine wl_nil ?_
  refine pn_then ?_
  obtain ⟨q36, h, ho36⟩ := bind_some h
  refine wc_meetG (G := (List Int) × Unit) (fun (s36, _) => s36 = q36) (fun (_, _) => [(7, .slice A1_2 (List.replicate (a1.length : Int).toNat (0 : Int)).length c1_2)]) (fun (s36, _) => [eS (lInt .i64) 3 A1_2 (List.replicate (a1.length : Int).toNat (0 : Int)).length c1_2 s36]) (fun (_, _) => []) ?_ ?_
  · refine wc_seq ?_
    refine wc_region ?_   -- region 15
    refine wl_det rfl rfl (det_move rfl) rfl ?_
    refine wl_det rfl rfl (det_move rfl) rfl ?_
    refine wl_st (fun _ h => h.shutS r0) ?_
    obtain ⟨k15_2, h⟩ := chk_some h
    obtain ⟨k15_2a, h⟩ := chk_some h
    refine wl_act (act_sliceH rfl rfl m0 un22 sz3 rfl k15_2 k15_2a) rfl rfl rfl ?_
    rintro _ _ _ ⟨A15_2, c15_2, rfl, rfl, rfl⟩
    refine wl_det rfl rfl (det_len rfl un22) rfl ?_
    refine wl_det rfl rfl (det_move rfl) rfl ?_
    refine wl_nil ?_
    refine pn_then ?_
    refine wc_block ?_
    obtain ⟨k40, hk40⟩ := loopV_some.1 h
    refine wc_loop (G := Nat × ((List Int) × Int) × Unit) (fun g => IterN (split_divide_l40 s10 r14_2) g.1 g.2.1 q36) (fun g => g.1) (fun (_, s40, _) => [(7, .slice A1_2 (List.replicate (a1.length : Int).toNat (0 : Int)).length c1_2), (79, .slice A15_2 (r14_2.take s10.2.2.2.toNat).length c15_2), (80, .int .i64 ((r14_2.take s10.2.2.2.toNat).length : Int)), (81, .int .i64 s40.2)]) (fun (_, s40, _) => [eS (lInt .i64) 3 A1_2 (List.replicate (a1.length : Int).toNat (0 : Int)).length c1_2 s40.1]) (fun (_, _, _) => [fV (lSlice (lInt .i64)) (.slice A15_2 (r14_2.take s10.2.2.2.toNat).length c15_2) (r14_2.take s10.2.2.2.toNat)]) (k40, (s10.1, 0), ()) hk40 ⟨rfl, rfl, rfl, rfl, trivial⟩ (fun _ h => h.to ⟨_, (rs r0), trivial⟩ ⟨m0, trivial⟩) ?_
    rintro ⟨k40, s40, _⟩ hI
    obtain ⟨k40, rfl, q40, h, g40⟩ := IterN.pos hI
    dsimp only at h ⊢
    unfold split_divide_l40 at h
    refine wc_seq ?_
    refine wc_region ?_   -- region 16
    refine wl_det rfl rfl (det_lss rfl rfl) rfl ?_
    refine wl_nil ?_
    refine pn_then ?_
    refine wc_seq ?_
    refine wc_cond rfl (fun c44 => ?_) (fun c44 => ?_)
    · have h := ifT h c44
      refine wc_skip ?_
      refine pn_then ?_
      refine wc_seq ?_
      refine wc_block ?_
      refine wc_seq ?_
      refine wc_region ?_   -- region 17
      obtain ⟨k17_0, h⟩ := chk_some h
      refine wl_st (fun _ h => h.openF m0 k17_0) ?_
      refine wl_det rfl rfl (det_indexP rfl rfl (ms m0) k17_0 m0 un22 sz3) rfl ?_
      refine wl_det rfl rfl (det_loadP (off := 0) rfl m0 (by rfl) (by rfl) (loaded_1 na3 us3)) rfl ?_
      refine wl_det rfl rfl (det_assign rfl) rfl ?_
      refine wl_nil ?_
      refine pn_then ?_
      refine wc_region ?_   -- region 18
      refine wl_det rfl rfl (det_move rfl) rfl ?_
      refine wl_det rfl rfl (det_move rfl) rfl ?_
      obtain ⟨k18_2, h⟩ := chk_some h
      refine wl_det rfl rfl (det_indexO rfl rfl m0 k18_2 un22 sz3) rfl ?_
      refine wl_det rfl rfl (det_loadO (off := 0) rfl m0 k18_2 (by rfl) (by rfl) (loaded_1 na3 us3)) rfl ?_
      refine wl_det rfl rfl (det_add rfl rfl) rfl ?_
      refine wl_det rfl rfl (det_indexO rfl rfl m0 k18_2 un22 sz3) rfl ?_
      refine wl_act0 (act_storeO (cells := [_]) (off := 0) (w64 ((ix s40.1 (ix (r14_2.take s10.2.2.2.toNat) s40.2)) + 1)) rfl rfl rfl s0 k18_2 (by rfl) sz3 (by intro u hu; simp at hu; rcases hu with rfl <;> rfl) (stR_flat rfl rfl)) rfl rfl ?_
      rintro _ _ _ ⟨rfl, rfl⟩
      refine wl_nil ?_
      refine pn_block ?_
      refine pn_then ?_
      refine wc_region ?_   -- region 19
      refine wl_det rfl rfl (det_add rfl rfl) rfl ?_
      refine wl_det rfl rfl (det_move rfl) rfl ?_
      refine wl_nil ?_
      replace h := Option.some.inj h
      subst h
      exact pn_some (k40, ((upd s40.1 (ix (r14_2.take s10.2.2.2.toNat) s40.2) (w64 ((ix s40.1 (ix (r14_2.take s10.2.2.2.toNat) s40.2)) + 1))), (w64 (s40.2 + 1))), ()) ⟨nextL g40, Nat.lt_succ_self _⟩ ⟨rfl, rfl, rfl, rfl, trivial⟩ (fun _ h => h.to ⟨_, r0, trivial⟩ ⟨(ms m0), trivial⟩)
    · have h := ifF h c44
      refine wc_exit ?_
      refine px_then ?_
      refine px_then ?_
      refine px_block ?_
      replace h := Option.some.inj h
      subst h
      replace g40 := nextR g40
      subst g40
      exact pn_meetG (s40.1, ()) rfl ⟨rfl, trivial⟩ (fun _ h => h.to ⟨_, r0, trivial⟩ trivial)
  rintro ⟨s36, _⟩ e36
  dsimp only at e36 ⊢
  subst e36
  have h := ho36
  refine wc_seq ?_
  refine wc_region ?_   -- region 20
  refine wl_det rfl rfl (det_move rfl) rfl ?_
  refine wl_det rfl rfl (det_assign rfl) rfl ?_
  refine wl_nil ?_
  refine pn_then ?_
  refine wc_ret ?_
  replace h := Option.some.inj h
  subst h
  refine pn_ret (vs := [_]) rfl ⟨rfl, trivial⟩ ⟨A1_2, (List.replicate (a1.length : Int).toNat (0 : Int)).length, c1_2, rfl, rfl, rfl⟩ (fun _ h => h.to ⟨_, r0, trivial⟩ trivial)
def Q_split_Split (r : (List Int) × Int) : Value → List Ent → List Fact → Prop := fun v θ κ => ∃ (pA0 : Option Addr), ∃ (pn0 : Nat), ∃ (pc0 : Nat), v = .tuple #[.slice pA0 pn0 pc0, .int .i64 r.2] ∧ θ = [eS (lInt .i64) 3 pA0 pn0 pc0 r.1] ∧ κ = []
theorem plains_split_Split {r : (List Int) × Int} : ∀ v θ κ, Q_split_Split r v θ κ → Plains θ := by
  rintro _ _ _ ⟨_, _, _, rfl, rfl, rfl⟩
  exact ⟨plain_eS, trivial⟩
set_option maxHeartbeats 4000000 in
set_option maxRecDepth 100000 in
theorem W_split_Split (a0 : Int) (a1 : (List Int)) (A0 : Option Addr) (n0 : Nat) (c0 : Nat) (r : (List Int) × Int) (h : split_Split a0 a1 = some r) : Spec Try.prog 43 [.int .i64 a0, .slice A0 n0 c0] [] [fV (lSlice (lInt .i64)) (.slice A0 n0 c0) a1] (Q_split_Split r) := by
  unfold split_Split at h
  refine spec_of (σ := [(0, _), (1, _)]) Try.func43 rfl rfl rfl rfl ?_
  intro C
  refine wc_know (fun _ h => h.lenF m0) (fun e => ?_)
  subst e
  refine wc_seq ?_
  refine wc_region ?_   -- region 0
  refine wl_det rfl rfl (det_assign rfl) rfl ?_
  refine wl_det rfl rfl (det_assign rfl) rfl ?_
  refine wl_nil ?_
  refine pn_then ?_
  refine wc_seq ?_
  refine wc_seq ?_
  refine wc_region ?_   -- region 1
  refine wl_det rfl rfl (det_move rfl) rfl ?_
  refine wl_det rfl rfl (det_len rfl un22) rfl ?_
  refine wl_det rfl rfl (det_eql rfl rfl) rfl ?_
  refine wl_nil ?_
  refine pn_then ?_
  refine wc_cond rfl (fun c5 => ?_) (fun c5 => ?_)
  · have h := ifT h c5
    refine wc_seq ?_
    refine wc_region ?_   -- region 2
    refine wl_det rfl rfl (det_assign rfl) rfl ?_
    refine wl_det rfl rfl (det_assign rfl) rfl ?_
    refine wl_nil ?_
    refine pn_then ?_
    refine wc_ret ?_
    refine pr_then ?_
    refine pn_st (fun _ h => h.zeroS (lInt .i64) 3 none) ?_
    replace h := Option.some.inj h
    subst h
    refine pn_ret (vs := [_, _]) rfl ⟨rfl, rfl, trivial⟩ ⟨none, 0, 0, rfl, rfl, rfl⟩ (fun _ h => h.to ⟨_, r0, trivial⟩ trivial)
  · have h := ifF h c5
    refine wc_skip ?_
    refine pn_then ?_
    refine wc_seq ?_
    refine wc_seq ?_
    refine wc_region ?_   -- region 3
    refine wl_det rfl rfl (det_move rfl) rfl ?_
    refine wl_det rfl rfl (det_len rfl un22) rfl ?_
    refine wl_det rfl rfl (det_gtr rfl rfl) rfl ?_
    refine wl_nil ?_
    refine pn_then ?_
    refine wc_cond rfl (fun c11 => ?_) (fun c11 => ?_)
    · have h := ifT h c11
      refine wc_seq ?_
      refine wc_region ?_   -- region 4
      refine wl_det rfl rfl (det_assign rfl) rfl ?_
      refine wl_det rfl rfl (det_assign rfl) rfl ?_
      refine wl_nil ?_
      refine pn_then ?_
      refine wc_ret ?_
      refine pr_then ?_
      refine pn_st (fun _ h => h.zeroS (lInt .i64) 3 none) ?_
      replace h := Option.some.inj h
      subst h
      refine pn_ret (vs := [_, _]) rfl ⟨rfl, rfl, trivial⟩ ⟨none, 0, 0, rfl, rfl, rfl⟩ (fun _ h => h.to ⟨_, r0, trivial⟩ trivial)
    · have h := ifF h c11
      refine wc_skip ?_
      refine pn_then ?_
      refine wc_seq ?_
      refine wc_seq ?_
      refine wc_region ?_   -- region 5
      refine wl_det rfl rfl (det_move rfl) rfl ?_
      obtain ⟨r5_1, hr5_1, h⟩ := bind_some h
      refine wl_act (act_callS (cap := []) (W_amount_Valid a0 r5_1 hr5_1) rfl rfl rfl bd47 rfl trivial) rfl rfl rfl ?_
      rintro _ _ _ ⟨_, _, ⟨rfl, rfl, rfl⟩, rfl, rfl⟩
      dsimp only [List.nil_append, List.cons_append]
      refine wl_det rfl rfl (det_not rfl) rfl ?_
      refine wl_det rfl rfl (det_move rfl) rfl ?_
      obtain ⟨q5_7, hq5_7, h⟩ := bind_some h
      have ho5_7 := h
      refine wl_way (!r5_1) q5_7 4 22 (fun hg => ?_) (fun hg => ?_) ?_
      · have hg5_7 := hg
        have h := ifT hq5_7 hg
        refine wl_off rfl rfl rfl rfl rfl hg5_7 rfl ?_
        refine wl_off rfl rfl rfl rfl rfl hg5_7 rfl ?_
        refine wl_off rfl rfl rfl rfl rfl hg5_7 rfl ?_
        replace h := Option.some.inj h
        subst h
        refine wl_det rfl rfl (det_pick_on rfl hg5_7 rfl rfl) rfl ?_
        exact wl_nil (pn_qnE (ext_cons rfl (ext_skip rfl (ext_skip rfl (ext_skip rfl (ext_skip rfl ext_refl))))) (fun _ h => h))
      · have hg5_7a := hg
        have h := ifF hq5_7 hg
        refine wl_on rfl rfl rfl rfl hg5_7a ?_
        refine wl_det rfl rfl (det_move rfl) rfl ?_
        refine wl_on rfl rfl rfl rfl hg5_7a ?_
        obtain ⟨r5_5, hr5_5, h⟩ := bind_some h
        refine wl_act (act_callS (cap := []) (W_split_inRange a1 A0 a1.length c0 r5_5 hr5_5) rfl rfl rfl bd52 rfl ⟨m0, trivial⟩) rfl rfl rfl ?_
        rintro _ _ _ ⟨_, _, ⟨rfl, rfl, rfl⟩, rfl, rfl⟩
        dsimp only [List.nil_append, List.cons_append]
        refine wl_on rfl rfl rfl rfl hg5_7a ?_
        refine wl_det rfl rfl (det_not rfl) rfl ?_
        replace h := Option.some.inj h
        subst h
        refine wl_det rfl rfl (det_pick_off rfl hg5_7a rfl rfl) rfl ?_
        exact wl_nil (pn_qnE (ext_cons rfl (ext_skip rfl (ext_skip rfl (ext_skip rfl (ext_skip rfl ext_refl))))) (fun _ h => h))
      have h := ho5_7
      refine wl_nil ?_
      refine pn_then ?_
      refine wc_cond rfl (fun c17 => ?_) (fun c17 => ?_)
      · have h := ifT h c17
        refine wc_seq ?_
        refine wc_region ?_   -- region 6
        refine wl_det rfl rfl (det_assign rfl) rfl ?_
        refine wl_det rfl rfl (det_assign rfl) rfl ?_
        refine wl_nil ?_
        refine pn_then ?_
        refine wc_ret ?_
        refine pr_then ?_
        refine pn_st (fun _ h => h.zeroS (lInt .i64) 3 none) ?_
        replace h := Option.some.inj h
        subst h
        refine pn_ret (vs := [_, _]) rfl ⟨rfl, rfl, trivial⟩ ⟨none, 0, 0, rfl, rfl, rfl⟩ (fun _ h => h.to ⟨_, r0, trivial⟩ trivial)
      · have h := ifF h c17
        refine wc_skip ?_
        refine pn_then ?_
        refine wc_seq ?_
        refine wc_region ?_   -- region 7
        refine wl_det rfl rfl (det_move rfl) rfl ?_
        obtain ⟨r7_1, hr7_1, h⟩ := bind_some h
        refine wl_act (act_callS (cap := []) (W_split_total a1 A0 a1.length c0 r7_1 hr7_1) rfl rfl rfl bd53 rfl ⟨m0, trivial⟩) rfl rfl rfl ?_
        rintro _ _ _ ⟨_, _, ⟨rfl, rfl, rfl⟩, rfl, rfl⟩
        dsimp only [List.nil_append, List.cons_append]
        refine wl_det rfl rfl (det_assign rfl) rfl ?_
        refine wl_nil ?_
        refine pn_then ?_
        refine wc_seq ?_
        refine wc_seq ?_
        refine wc_region ?_   -- region 8
        refine wl_det rfl rfl (det_move rfl) rfl ?_
        refine wl_det rfl rfl (det_eql rfl rfl) rfl ?_
        refine wl_nil ?_
        refine pn_then ?_
        refine wc_cond rfl (fun c25 => ?_) (fun c25 => ?_)
        · have h := ifT h c25
          refine wc_seq ?_
          refine wc_region ?_   -- region 9
          refine wl_det rfl rfl (det_assign rfl) rfl ?_
          refine wl_det rfl rfl (det_assign rfl) rfl ?_
          refine wl_nil ?_
          refine pn_then ?_
          refine wc_ret ?_
          refine pr_then ?_
          refine pn_st (fun _ h => h.zeroS (lInt .i64) 3 none) ?_
          replace h := Option.some.inj h
          subst h
          refine pn_ret (vs := [_, _]) rfl ⟨rfl, rfl, trivial⟩ ⟨none, 0, 0, rfl, rfl, rfl⟩ (fun _ h => h.to ⟨_, r0, trivial⟩ trivial)
        · have h := ifF h c25
          refine wc_skip ?_
          refine pn_then ?_
          refine wc_seq ?_
          refine wc_seq ?_
          refine wc_region ?_   -- region 10
          refine wl_det rfl rfl (det_move rfl) rfl ?_
          refine wl_det rfl rfl (det_geq rfl rfl) rfl ?_
          refine wl_nil ?_
          refine pn_then ?_
          refine wc_cond rfl (fun c31 => ?_) (fun c31 => ?_)
          · have h := ifT h c31
            refine wc_seq ?_
            refine wc_region ?_   -- region 11
            refine wl_det rfl rfl (det_move rfl) rfl ?_
            refine wl_det rfl rfl (det_move rfl) rfl ?_
            refine wl_det rfl rfl (det_move rfl) rfl ?_
            obtain ⟨r11_3, hr11_3, h⟩ := bind_some h
            refine wl_act (act_callS (cap := []) (W_split_divide a0 a1 r7_1 A0 a1.length c0 r11_3 hr11_3) rfl rfl rfl bd54 rfl ⟨m0, trivial⟩) rfl rfl rfl ?_
            rintro _ _ _ ⟨_, _, ⟨y11_3A0, y11_3n0, y11_3c0, rfl, rfl, rfl⟩, rfl, rfl⟩
            dsimp only [List.nil_append, List.cons_append]
            refine wl_know (fun _ h => h.lenO m0) (fun e => ?_)
            subst e
            refine wl_det rfl rfl (det_assign rfl) rfl ?_
            refine wl_det rfl rfl (det_assign rfl) rfl ?_
            refine wl_nil ?_
            refine pn_then ?_
            refine wc_ret ?_
            refine pr_then ?_
            replace h := Option.some.inj h
            subst h
            refine pn_ret (vs := [_, _]) rfl ⟨rfl, rfl, trivial⟩ ⟨y11_3A0, r11_3.length, y11_3c0, rfl, rfl, rfl⟩ (fun _ h => h.to ⟨_, r0, trivial⟩ trivial)
          · have h := ifF h c31
            refine wc_skip ?_
            refine pn_then ?_
            refine wc_seq ?_
            refine wc_region ?_   -- region 12
            refine wl_det rfl rfl (det_move rfl) rfl ?_
            refine wl_det rfl rfl (det_neg rfl) rfl ?_
            refine wl_det rfl rfl (det_move rfl) rfl ?_
            refine wl_det rfl rfl (det_move rfl) rfl ?_
            obtain ⟨r12_4, hr12_4, h⟩ := bind_some h
            refine wl_act (act_callS (cap := []) (W_split_divide (w64 (0 - a0)) a1 r7_1 A0 a1.length c0 r12_4 hr12_4) rfl rfl rfl bd54 rfl ⟨m0, trivial⟩) rfl rfl rfl ?_
            rintro _ _ _ ⟨_, _, ⟨y12_4A0, y12_4n0, y12_4c0, rfl, rfl, rfl⟩, rfl, rfl⟩
            dsimp only [List.nil_append, List.cons_append]
            refine wl_know (fun _ h => h.lenO m0) (fun e => ?_)
            subst e
            refine wl_det rfl rfl (det_assign rfl) rfl ?_
            refine wl_nil ?_
            refine pn_then ?_
            obtain ⟨q36, h, ho36⟩ := bind_some h
            refine wc_meetG (G := (List Int) × Unit) (fun (s36, _) => s36 = q36) (fun (_, _) => [(7, .slice y12_4A0 r12_4.length y12_4c0)]) (fun (s36, _) => [eS (lInt .i64) 3 y12_4A0 r12_4.length y12_4c0 s36]) (fun (_, _) => []) ?_ ?_
            · refine wc_seq ?_
              refine wc_region ?_   -- region 13
              refine wl_det rfl rfl (det_move rfl) rfl ?_
              refine wl_det rfl rfl (det_len rfl un22) rfl ?_
              refine wl_det rfl rfl (det_move rfl) rfl ?_
              refine wl_nil ?_
              refine pn_then ?_
              refine wc_block ?_
              obtain ⟨k40, hk40⟩ := loopV_some.1 h
              refine wc_loop (G := Nat × ((List Int) × Int) × Unit) (fun g => IterN (split_Split_l40 r12_4) g.1 g.2.1 q36) (fun g => g.1) (fun (_, s40, _) => [(7, .slice y12_4A0 r12_4.length y12_4c0), (39, .int .i64 (r12_4.length : Int)), (40, .int .i64 s40.2)]) (fun (_, s40, _) => [eS (lInt .i64) 3 y12_4A0 r12_4.length y12_4c0 s40.1]) (fun (_, _, _) => []) (k40, (r12_4, 0), ()) hk40 ⟨rfl, rfl, rfl, trivial⟩ (fun _ h => h.to ⟨_, r0, trivial⟩ trivial) ?_
              rintro ⟨k40, s40, _⟩ hI
              obtain ⟨k40, rfl, q40, h, g40⟩ := IterN.pos hI
              dsimp only at h ⊢
              unfold split_Split_l40 at h
              refine wc_seq ?_
              refine wc_region ?_   -- region 14
              refine wl_det rfl rfl (det_lss rfl rfl) rfl ?_
              refine wl_nil ?_
              refine pn_then ?_
              refine wc_seq ?_
              refine wc_cond rfl (fun c44 => ?_) (fun c44 => ?_)
              · have h := ifT h c44
                refine wc_skip ?_
                refine pn_then ?_
                refine wc_seq ?_
                refine wc_block ?_
                refine wc_seq ?_
                refine wc_region ?_   -- region 15
                refine wl_det rfl rfl (det_move rfl) rfl ?_
                refine wl_det rfl rfl (det_assign rfl) rfl ?_
                refine wl_nil ?_
                refine pn_then ?_
                refine wc_region ?_   -- region 16
                refine wl_det rfl rfl (det_move rfl) rfl ?_
                refine wl_det rfl rfl (det_move rfl) rfl ?_
                refine wl_det rfl rfl (det_move rfl) rfl ?_
                refine wl_det rfl rfl (det_move rfl) rfl ?_
                obtain ⟨k16_4, h⟩ := chk_some h
                refine wl_det rfl rfl (det_indexO rfl rfl m0 k16_4 un22 sz3) rfl ?_
                refine wl_det rfl rfl (det_loadO (off := 0) rfl m0 k16_4 (by rfl) (by rfl) (loaded_1 na3 us3)) rfl ?_
                refine wl_det rfl rfl (det_neg rfl) rfl ?_
                refine wl_det rfl rfl (det_indexO rfl rfl m0 k16_4 un22 sz3) rfl ?_
                refine wl_act0 (act_storeO (cells := [_]) (off := 0) (w64 (0 - (ix s40.1 s40.2))) rfl rfl rfl s0 k16_4 (by rfl) sz3 (by intro u hu; simp at hu; rcases hu with rfl <;> rfl) (stR_flat rfl rfl)) rfl rfl ?_
                rintro _ _ _ ⟨rfl, rfl⟩
                refine wl_nil ?_
                refine pn_block ?_
                refine pn_then ?_
                refine wc_region ?_   -- region 17
                refine wl_det rfl rfl (det_add rfl rfl) rfl ?_
                refine wl_det rfl rfl (det_move rfl) rfl ?_
                refine wl_nil ?_
                replace h := Option.some.inj h
                subst h
                exact pn_some (k40, ((upd s40.1 s40.2 (w64 (0 - (ix s40.1 s40.2)))), (w64 (s40.2 + 1))), ()) ⟨nextL g40, Nat.lt_succ_self _⟩ ⟨rfl, rfl, rfl, trivial⟩ (fun _ h => h.to ⟨_, r0, trivial⟩ trivial)
              · have h := ifF h c44
                refine wc_exit ?_
                refine px_then ?_
                refine px_then ?_
                refine px_block ?_
                replace h := Option.some.inj h
                subst h
                replace g40 := nextR g40
                subst g40
                exact pn_meetG (s40.1, ()) rfl ⟨rfl, trivial⟩ (fun _ h => h.to ⟨_, r0, trivial⟩ trivial)
            rintro ⟨s36, _⟩ e36
            dsimp only at e36 ⊢
            subst e36
            have h := ho36
            refine wc_seq ?_
            refine wc_region ?_   -- region 18
            refine wl_det rfl rfl (det_move rfl) rfl ?_
            refine wl_det rfl rfl (det_assign rfl) rfl ?_
            refine wl_det rfl rfl (det_assign rfl) rfl ?_
            refine wl_nil ?_
            refine pn_then ?_
            refine wc_ret ?_
            replace h := Option.some.inj h
            subst h
            refine pn_ret (vs := [_, _]) rfl ⟨rfl, rfl, trivial⟩ ⟨y12_4A0, r12_4.length, y12_4c0, rfl, rfl, rfl⟩ (fun _ h => h.to ⟨_, r0, trivial⟩ trivial)
def Q_split_Reduce (r : (List Int) × Int) : Value → List Ent → List Fact → Prop := fun v θ κ => ∃ (pA0 : Option Addr), ∃ (pn0 : Nat), ∃ (pc0 : Nat), v = .tuple #[.slice pA0 pn0 pc0, .int .i64 r.2] ∧ θ = [eS (lInt .i64) 3 pA0 pn0 pc0 r.1] ∧ κ = []
theorem plains_split_Reduce {r : (List Int) × Int} : ∀ v θ κ, Q_split_Reduce r v θ κ → Plains θ := by
  rintro _ _ _ ⟨_, _, _, rfl, rfl, rfl⟩
  exact ⟨plain_eS, trivial⟩
set_option maxHeartbeats 4000000 in
set_option maxRecDepth 100000 in
theorem W_split_Reduce (a0 : (List Int)) (a1 : Int) (A0 : Option Addr) (n0 : Nat) (c0 : Nat) (r : (List Int) × Int) (h : split_Reduce a0 a1 = some r) : Spec Try.prog 55 [.slice A0 n0 c0, .int .i64 a1] [] [fV (lSlice (lInt .i64)) (.slice A0 n0 c0) a0] (Q_split_Reduce r) := by
  unfold split_Reduce at h
  refine spec_of (σ := [(0, _), (1, _)]) Try.func55 rfl rfl rfl rfl ?_
  intro C
  refine wc_know (fun _ h => h.lenF m0) (fun e => ?_)
  subst e
  refine wc_seq ?_
  refine wc_region ?_   -- region 0
  refine wl_det rfl rfl (det_assign rfl) rfl ?_
  refine wl_det rfl rfl (det_assign rfl) rfl ?_
  refine wl_nil ?_
  refine pn_then ?_
  refine wc_seq ?_
  refine wc_seq ?_
  refine wc_region ?_   -- region 1
  refine wl_det rfl rfl (det_move rfl) rfl ?_
  refine wl_det rfl rfl (det_len rfl un22) rfl ?_
  refine wl_det rfl rfl (det_gtr rfl rfl) rfl ?_
  refine wl_nil ?_
  refine pn_then ?_
  refine wc_cond rfl (fun c5 => ?_) (fun c5 => ?_)
  · have h := ifT h c5
    refine wc_seq ?_
    refine wc_region ?_   -- region 2
    refine wl_det rfl rfl (det_assign rfl) rfl ?_
    refine wl_det rfl rfl (det_assign rfl) rfl ?_
    refine wl_nil ?_
    refine pn_then ?_
    refine wc_ret ?_
    refine pr_then ?_
    refine pn_st (fun _ h => h.zeroS (lInt .i64) 3 none) ?_
    replace h := Option.some.inj h
    subst h
    refine pn_ret (vs := [_, _]) rfl ⟨rfl, rfl, trivial⟩ ⟨none, 0, 0, rfl, rfl, rfl⟩ (fun _ h => h.to ⟨_, r0, trivial⟩ trivial)
  · have h := ifF h c5
    refine wc_skip ?_
    refine pn_then ?_
    refine wc_seq ?_
    refine wc_seq ?_
    refine wc_region ?_   -- region 3
    refine wl_det rfl rfl (det_move rfl) rfl ?_
    refine wl_det rfl rfl (det_lss rfl rfl) rfl ?_
    refine wl_det rfl rfl (det_move rfl) rfl ?_
    refine wl_way (decide (a1 < 0)) ((decide (a1 < 0)) || (decide (17592186044416 < a1))) 3 14 (fun hg => ?_) (fun hg => ?_) ?_
    · have hg3_5 := hg
      refine wl_off rfl rfl rfl rfl rfl hg3_5 rfl ?_
      refine wl_off rfl rfl rfl rfl rfl hg3_5 rfl ?_
      refine wl_det rfl rfl (det_or_on (r := (decide (17592186044416 < a1))) rfl rfl rfl hg3_5) rfl ?_
      exact wl_nil (pn_qnE (ext_cons rfl (ext_skip rfl (ext_skip rfl (ext_skip rfl ext_refl)))) (fun _ h => h))
    · have hg3_5a := hg
      refine wl_on rfl rfl rfl rfl hg3_5a ?_
      refine wl_det rfl rfl (det_move rfl) rfl ?_
      refine wl_on rfl rfl rfl rfl hg3_5a ?_
      refine wl_det rfl rfl (det_gtr rfl rfl) rfl ?_
      refine wl_det rfl rfl (det_or_off rfl rfl rfl hg3_5a) rfl ?_
      exact wl_nil (pn_qnE (ext_cons rfl (ext_skip rfl (ext_skip rfl (ext_skip rfl ext_refl)))) (fun _ h => h))
    refine wl_det rfl rfl (det_move rfl) rfl ?_
    obtain ⟨q3_10, hq3_10, h⟩ := bind_some h
    have ho3_10 := h
    refine wl_way ((decide (a1 < 0)) || (decide (17592186044416 < a1))) q3_10 4 19 (fun hg => ?_) (fun hg => ?_) ?_
    · have hg3_10 := hg
      have h := ifT hq3_10 hg
      refine wl_off rfl rfl rfl rfl rfl hg3_10 rfl ?_
      refine wl_off rfl rfl rfl rfl rfl hg3_10 rfl ?_
      refine wl_off rfl rfl rfl rfl rfl hg3_10 rfl ?_
      replace h := Option.some.inj h
      subst h
      refine wl_det rfl rfl (det_pick_on rfl hg3_10 rfl rfl) rfl ?_
      exact wl_nil (pn_qnE (ext_cons rfl (ext_skip rfl (ext_skip rfl (ext_skip rfl (ext_skip rfl ext_refl))))) (fun _ h => h))
    · have hg3_10a := hg
      have h := ifF hq3_10 hg
      refine wl_on rfl rfl rfl rfl hg3_10a ?_
      refine wl_det rfl rfl (det_move rfl) rfl ?_
      refine wl_on rfl rfl rfl rfl hg3_10a ?_
      obtain ⟨r3_8, hr3_8, h⟩ := bind_some h
      refine wl_act (act_callS (cap := []) (W_split_inRange a0 A0 a0.length c0 r3_8 hr3_8) rfl rfl rfl bd52 rfl ⟨m0, trivial⟩) rfl rfl rfl ?_
      rintro _ _ _ ⟨_, _, ⟨rfl, rfl, rfl⟩, rfl, rfl⟩
      dsimp only [List.nil_append, List.cons_append]
      refine wl_on rfl rfl rfl rfl hg3_10a ?_
      refine wl_det rfl rfl (det_not rfl) rfl ?_
      replace h := Option.some.inj h
      subst h
      refine wl_det rfl rfl (det_pick_off rfl hg3_10a rfl rfl) rfl ?_
      exact wl_nil (pn_qnE (ext_cons rfl (ext_skip rfl (ext_skip rfl (ext_skip rfl (ext_skip rfl ext_refl))))) (fun _ h => h))
    have h := ho3_10
    refine wl_nil ?_
    refine pn_then ?_
    refine wc_cond rfl (fun c11 => ?_) (fun c11 => ?_)
    · have h := ifT h c11
      refine wc_seq ?_
      refine wc_region ?_   -- region 4
      refine wl_det rfl rfl (det_assign rfl) rfl ?_
      refine wl_det rfl rfl (det_assign rfl) rfl ?_
      refine wl_nil ?_
      refine pn_then ?_
      refine wc_ret ?_
      refine pr_then ?_
      refine pn_st (fun _ h => h.zeroS (lInt .i64) 3 none) ?_
      replace h := Option.some.inj h
      subst h
      refine pn_ret (vs := [_, _]) rfl ⟨rfl, rfl, trivial⟩ ⟨none, 0, 0, rfl, rfl, rfl⟩ (fun _ h => h.to ⟨_, r0, trivial⟩ trivial)
    · have h := ifF h c11
      refine wc_skip ?_
      refine pn_then ?_
      refine wc_seq ?_
      refine wc_seq ?_
      refine wc_region ?_   -- region 5
      refine wl_det rfl rfl (det_move rfl) rfl ?_
      obtain ⟨r5_1, hr5_1, h⟩ := bind_some h
      refine wl_act (act_callS (cap := []) (W_split_total a0 A0 a0.length c0 r5_1 hr5_1) rfl rfl rfl bd53 rfl ⟨m0, trivial⟩) rfl rfl rfl ?_
      rintro _ _ _ ⟨_, _, ⟨rfl, rfl, rfl⟩, rfl, rfl⟩
      dsimp only [List.nil_append, List.cons_append]
      refine wl_det rfl rfl (det_move rfl) rfl ?_
      refine wl_det rfl rfl (det_leq rfl rfl) rfl ?_
      refine wl_nil ?_
      refine pn_then ?_
      refine wc_cond rfl (fun c17 => ?_) (fun c17 => ?_)
      · have h := ifT h c17
        refine wc_seq ?_
        refine wc_region ?_   -- region 6
        refine wl_det rfl rfl (det_move rfl) rfl ?_
        obtain ⟨r6_1, hr6_1, h⟩ := bind_some h
        refine wl_act (act_callS (cap := []) (W_slices_Clone_s_int_int a0 A0 a0.length c0 r6_1 hr6_1) rfl rfl rfl bd65 rfl ⟨m0, trivial⟩) rfl rfl rfl ?_
        rintro _ _ _ ⟨_, _, ⟨y6_1A0, y6_1n0, y6_1c0, rfl, rfl, rfl⟩, rfl, rfl⟩
        dsimp only [List.nil_append, List.cons_append]
        refine wl_know (fun _ h => h.lenO m0) (fun e => ?_)
        subst e
        refine wl_det rfl rfl (det_assign rfl) rfl ?_
        refine wl_det rfl rfl (det_assign rfl) rfl ?_
        refine wl_nil ?_
        refine pn_then ?_
        refine wc_ret ?_
        refine pr_then ?_
        replace h := Option.some.inj h
        subst h
        refine pn_ret (vs := [_, _]) rfl ⟨rfl, rfl, trivial⟩ ⟨y6_1A0, r6_1.length, y6_1c0, rfl, rfl, rfl⟩ (fun _ h => h.to ⟨_, r0, trivial⟩ trivial)
      · have h := ifF h c17
        refine wc_skip ?_
        refine pn_then ?_
        refine wc_seq ?_
        refine wc_region ?_   -- region 7
        refine wl_det rfl rfl (det_move rfl) rfl ?_
        refine wl_det rfl rfl (det_move rfl) rfl ?_
        obtain ⟨r7_2, hr7_2, h⟩ := bind_some h
        refine wl_act (act_callS (cap := []) (W_split_Split a1 a0 A0 a0.length c0 r7_2 hr7_2) rfl rfl rfl bd43 rfl ⟨m0, trivial⟩) rfl rfl rfl ?_
        rintro _ _ _ ⟨_, _, ⟨y7_2A0, y7_2n0, y7_2c0, rfl, rfl, rfl⟩, rfl, rfl⟩
        dsimp only [List.nil_append, List.cons_append]
        refine wl_know (fun _ h => h.lenO m0) (fun e => ?_)
        subst e
        refine wl_det rfl rfl (det_extract rfl rfl) rfl ?_
        refine wl_det rfl rfl (det_extract rfl rfl) rfl ?_
        refine wl_det rfl rfl (det_assign rfl) rfl ?_
        refine wl_det rfl rfl (det_assign rfl) rfl ?_
        refine wl_nil ?_
        refine pn_then ?_
        refine wc_ret ?_
        replace h := Option.some.inj h
        subst h
        refine pn_ret (vs := [_, _]) rfl ⟨rfl, rfl, trivial⟩ ⟨y7_2A0, r7_2.1.length, y7_2c0, rfl, rfl, rfl⟩ (fun _ h => h.to ⟨_, r0, trivial⟩ trivial)
def Q_insolvency_quotas (r : (List Int) × Int) : Value → List Ent → List Fact → Prop := fun v θ κ => v = .tuple #[.agg (aC (encI .i64) r.1).toArray, .int .i64 r.2] ∧ θ = [] ∧ κ = []
theorem plains_insolvency_quotas {r : (List Int) × Int} : ∀ v θ κ, Q_insolvency_quotas r v θ κ → Plains θ := by
  rintro _ _ _ ⟨rfl, rfl, rfl⟩
  exact trivial
set_option maxHeartbeats 4000000 in
set_option maxRecDepth 100000 in
theorem W_insolvency_quotas (a0 : (List GMutual)) (a1 : (List Int)) (a2 : Int) (A0 : Option Addr) (n0 : Nat) (c0 : Nat) (A3 : Option Addr) (n3 : Nat) (c3 : Nat) (r : (List Int) × Int) (h : insolvency_quotas a0 a1 a2 = some r) : Spec Try.prog 48 [.slice A0 n0 c0, .slice A3 n3 c3, .int .i64 a2] [] [fV (lSlice lGMutual) (.slice A0 n0 c0) a0, fV (lSlice (lInt .i64)) (.slice A3 n3 c3) a1] (Q_insolvency_quotas r) := by
  unfold insolvency_quotas at h
  refine spec_of (σ := [(0, _), (1, _), (2, _)]) Try.func48 rfl rfl rfl rfl ?_
  intro C
  refine wc_know (fun _ h => h.lenF m0) (fun e => ?_)
  subst e
  refine wc_know (fun _ h => h.lenF (ms m0)) (fun e => ?_)
  subst e
  refine wc_seq ?_
  refine wc_region ?_   -- region 0
  refine wl_act (act_alloc (cs := aC (encI .i64) (List.replicate 16 (0 : Int))) zr70 rfl) rfl rfl rfl ?_
  rintro _ _ _ ⟨b0_0, rfl, rfl, rfl⟩
  refine wl_det rfl rfl (det_assign rfl) rfl ?_
  refine wl_nil ?_
  refine pn_then ?_
  refine wc_seq ?_
  refine wc_region ?_   -- region 1
  refine wl_act (act_alloc (cs := aC (encI .i64) (List.replicate 16 (0 : Int))) zr70 rfl) rfl rfl rfl ?_
  rintro _ _ _ ⟨b1_0, rfl, rfl, rfl⟩
  refine wl_nil ?_
  refine pn_then ?_
  refine wc_seq ?_
  refine wc_region ?_   -- region 2
  refine wl_det rfl rfl (det_move rfl) rfl ?_
  refine wl_det rfl rfl (det_move rfl) rfl ?_
  obtain ⟨r2_2, hr2_2, h⟩ := bind_some h
  refine wl_act (act_callS (cap := []) (W_split_Reduce a1 a2 A3 a1.length c3 r2_2 hr2_2) rfl rfl rfl bd55 rfl ⟨(ms m0), trivial⟩) rfl rfl rfl ?_
  rintro _ _ _ ⟨_, _, ⟨y2_2A0, y2_2n0, y2_2c0, rfl, rfl, rfl⟩, rfl, rfl⟩
  dsimp only [List.nil_append, List.cons_append]
  refine wl_know (fun _ h => h.lenO m0) (fun e => ?_)
  subst e
  refine wl_det rfl rfl (det_move rfl) rfl ?_
  refine wl_det rfl rfl (det_extract rfl rfl) rfl ?_
  refine wl_det rfl rfl (det_extract rfl rfl) rfl ?_
  refine wl_det rfl rfl (det_assign rfl) rfl ?_
  refine wl_det rfl rfl (det_assign rfl) rfl ?_
  refine wl_nil ?_
  refine pn_then ?_
  refine wc_seq ?_
  refine wc_seq ?_
  refine wc_region ?_   -- region 3
  refine wl_det rfl rfl (det_move rfl) rfl ?_
  refine wl_det rfl rfl (det_neq rfl rfl) rfl ?_
  refine wl_nil ?_
  refine pn_then ?_
  refine wc_cond rfl (fun c9 => ?_) (fun c9 => ?_)
  · have h := ifT h c9
    refine wc_seq ?_
    refine wc_region ?_   -- region 4
    obtain ⟨k4_0, h⟩ := chk_some h
    refine wl_det rfl rfl (det_loadN (cells := aC (encI .i64) (List.replicate 16 (0 : Int))) rfl (ms m0) aC_whole ag70 (sz_aC sz70 (fun _ => rfl) k4_0 rfl)) rfl ?_
    refine wl_det rfl rfl (det_move rfl) rfl ?_
    refine wl_act0 (act_store (cells := aC (encI .i64) (List.replicate 16 (0 : Int))) (cs' := aC (encI .i64) (List.replicate 16 (0 : Int))) rfl rfl rfl (ss (ss s0)) (aC_over (fun _ => rfl) k4_0 k4_0) (aC_fits (fun _ => rfl) k4_0 k4_0) (sz_aC sz70 (fun _ => rfl) k4_0 rfl) (aC_ones (fun _ u hu => ((lInt .i64)).one (w := default) (S := fun _ => True) rfl u hu) _)) rfl rfl ?_
    rintro _ _ _ ⟨rfl, rfl⟩
    refine wl_det rfl rfl (det_assign rfl) rfl ?_
    refine wl_nil ?_
    refine pn_then ?_
    refine wc_ret ?_
    refine pr_then ?_
    replace h := Option.some.inj h
    subst h
    refine pn_ret (vs := [_, _]) rfl ⟨⟨_, _, aC (encI .i64) (List.replicate 16 (0 : Int)), rfl, (ms (ms m0)), ag70, sz_aC sz70 (fun _ => rfl) k4_0 rfl, rfl⟩, rfl, trivial⟩ ⟨rfl, rfl, rfl⟩ (fun _ h => h.to trivial trivial)
  · have h := ifF h c9
    refine wc_skip ?_
    refine pn_then ?_
    obtain ⟨q12, h, ho12⟩ := bind_some h
    refine wc_meetG (G := (List Int) × Unit) (fun (s12, _) => s12 = q12) (fun (_, _) => [(6, .pointer (some ⟨b0_0, 0, none⟩)), (8, .pointer (some ⟨b1_0, 0, none⟩))]) (fun (s12, _) => [eBlk b0_0 70 (aC (encI .i64) (List.replicate 16 (0 : Int))), eBlk b1_0 70 (aC (encI .i64) s12)]) (fun (_, _) => []) ?_ ?_
    · refine wc_seq ?_
      refine wc_region ?_   -- region 5
      refine wl_det rfl rfl (det_move rfl) rfl ?_
      refine wl_det rfl rfl (det_len rfl un36) rfl ?_
      refine wl_det rfl rfl (det_move rfl) rfl ?_
      refine wl_nil ?_
      refine pn_then ?_
      refine wc_block ?_
      obtain ⟨k16, hk16⟩ := loopV_some.1 h
      refine wc_loop (G := Nat × ((List Int) × Int) × Unit) (fun g => IterN (insolvency_quotas_l16 a0 r2_2) g.1 g.2.1 q12) (fun g => g.1) (fun (_, s16, _) => [(6, .pointer (some ⟨b0_0, 0, none⟩)), (8, .pointer (some ⟨b1_0, 0, none⟩)), (9, .slice y2_2A0 r2_2.1.length y2_2c0), (23, .slice A0 a0.length c0), (24, .int .i64 (a0.length : Int)), (25, .int .i64 s16.2)]) (fun (_, s16, _) => [eBlk b0_0 70 (aC (encI .i64) (List.replicate 16 (0 : Int))), eBlk b1_0 70 (aC (encI .i64) s16.1), eS (lInt .i64) 3 y2_2A0 r2_2.1.length y2_2c0 r2_2.1]) (fun (_, _, _) => [fV (lSlice lGMutual) (.slice A0 a0.length c0) a0]) (k16, ((List.replicate 16 (0 : Int)), 0), ()) hk16 ⟨rfl, rfl, rfl, rfl, rfl, rfl, trivial⟩ (fun _ h => h.to ⟨_, (rs (rs r0)), ⟨_, (rs r0), ⟨_, r0, trivial⟩⟩⟩ ⟨m0, trivial⟩) ?_
      rintro ⟨k16, s16, _⟩ hI
      obtain ⟨k16, rfl, q16, h, g16⟩ := IterN.pos hI
      dsimp only at h ⊢
      unfold insolvency_quotas_l16 at h
      refine wc_seq ?_
      refine wc_region ?_   -- region 6
      refine wl_det rfl rfl (det_lss rfl rfl) rfl ?_
      refine wl_nil ?_
      refine pn_then ?_
      refine wc_seq ?_
      refine wc_cond rfl (fun c20 => ?_) (fun c20 => ?_)
      · have h := ifT h c20
        refine wc_skip ?_
        refine pn_then ?_
        refine wc_seq ?_
        refine wc_block ?_
        refine wc_seq ?_
        refine wc_region ?_   -- region 7
        refine wl_det rfl rfl (det_move rfl) rfl ?_
        obtain ⟨k7_1, h⟩ := chk_some h
        refine wl_st (fun _ h => h.openF m0 k7_1) ?_
        refine wl_det rfl rfl (det_indexP rfl rfl (ms m0) k7_1 m0 un36 sz48) rfl ?_
        refine wl_det rfl rfl (det_loadP (off := 0) rfl m0 (by rfl) (by rfl) (loaded_n (cells := [_, _, _]) ag48 sz48)) rfl ?_
        refine wl_act (act_alloc (cs := [_, _, _]) zr48 rfl) rfl rfl rfl ?_
        rintro _ _ _ ⟨b7_3, rfl, rfl, rfl⟩
        refine wl_det rfl rfl (det_assign rfl) rfl ?_
        refine wl_act0 (act_store (cells := [_, _, _]) (cs' := [_, _, _]) rfl rfl rfl s0 (by rfl) (of_decide_eq_true rfl) sz48 ⟨rfl, rfl, rfl, trivial⟩) rfl rfl ?_
        rintro _ _ _ ⟨rfl, rfl⟩
        refine wl_nil ?_
        refine pn_then ?_
        obtain ⟨k8_p1, h⟩ := chk_some h
        obtain ⟨k8_p2, h⟩ := chk_some h
        obtain ⟨k8_p3, h⟩ := chk_some h
        obtain ⟨k8_p4, h⟩ := chk_some h
        refine dx_region 7 [[], [0], [], [], [2, 3], [2, 3, 4], [0, 1, 2, 3, 4, 5], [0, 1, 2, 3, 4, 5, 6]] mixed (ord := (.det 0 (.det 1 (.det 2 (.det 3 (.det 4 (.det 5 (.det 6 .done)))))))) (by kernel_rfl) ?_   -- region 8
        refine hx_det rfl rfl rfl nofun (det_field rfl fd48_0 rfl) rfl ?_
        refine hx_det rfl rfl rfl nofun (det_load rfl m0 (by rfl) na3 us3) rfl ?_
        refine hx_det rfl rfl rfl nofun (det_move rfl) rfl ?_
        refine hx_det rfl rfl rfl nofun (det_move rfl) rfl ?_
        refine hx_det rfl rfl rfl nofun (det_indexO rfl rfl (ms (ms (ms m0))) k8_p1 un22 sz3) rfl ?_
        refine hx_det rfl rfl rfl nofun (det_loadO (off := 0) rfl (ms (ms (ms m0))) k8_p1 (by rfl) (by rfl) (loaded_1 na3 us3)) rfl ?_
        refine hx_det rfl rfl rfl nofun (det_indexA rfl rfl k8_p2 k8_p3 un70 sz3) rfl ?_
        refine hx_end ?_
        refine wl_act0 (act_store (cells := [_]) (cs' := aC (encI .i64) (upd s16.1 (ix a0 s16.2).Party (ix r2_2.1 s16.2))) rfl rfl rfl (ss (ss s0)) (aC_set (enc := (encI .i64)) (z := 1) (o := 0) (fun _ => rfl) k8_p4 rfl rfl) (aC_le (enc := (encI .i64)) (z := 1) (o := 0) (fun _ => rfl) k8_p4 rfl) sz3 ⟨rfl, trivial⟩) rfl rfl ?_
        rintro _ _ _ ⟨rfl, rfl⟩
        refine wl_nil ?_
        refine pn_block ?_
        refine pn_then ?_
        refine wc_region ?_   -- region 9
        refine wl_det rfl rfl (det_add rfl rfl) rfl ?_
        refine wl_det rfl rfl (det_move rfl) rfl ?_
        refine wl_nil ?_
        replace h := Option.some.inj h
        subst h
        exact pn_some (k16, ((upd s16.1 (ix a0 s16.2).Party (ix r2_2.1 s16.2)), (w64 (s16.2 + 1))), ()) ⟨nextL g16, Nat.lt_succ_self _⟩ ⟨rfl, rfl, rfl, rfl, rfl, rfl, trivial⟩ (fun _ h => h.to ⟨_, (rs r0), ⟨_, (rs r0), ⟨_, (rs r0), trivial⟩⟩⟩ ⟨(ms m0), trivial⟩)
      · have h := ifF h c20
        refine wc_exit ?_
        refine px_then ?_
        refine px_then ?_
        refine px_block ?_
        replace h := Option.some.inj h
        subst h
        replace g16 := nextR g16
        subst g16
        exact pn_meetG (s16.1, ()) rfl ⟨rfl, rfl, trivial⟩ (fun _ h => h.to ⟨_, r0, ⟨_, r0, trivial⟩⟩ trivial)
    rintro ⟨s12, _⟩ e12
    dsimp only at e12 ⊢
    subst e12
    have h := ho12
    refine wc_seq ?_
    refine wc_region ?_   -- region 10
    obtain ⟨k10_0, h⟩ := chk_some h
    refine wl_det rfl rfl (det_loadN (cells := aC (encI .i64) s12) rfl (ms m0) aC_whole ag70 (sz_aC sz70 (fun _ => rfl) k10_0 rfl)) rfl ?_
    obtain ⟨k10_1, h⟩ := chk_some h
    refine wl_act0 (act_store (cells := aC (encI .i64) s12) (cs' := aC (encI .i64) s12) rfl rfl rfl s0 (aC_over (fun _ => rfl) k10_1 k10_0) (aC_fits (fun _ => rfl) k10_1 k10_0) (sz_aC sz70 (fun _ => rfl) k10_0 rfl) (aC_ones (fun _ u hu => ((lInt .i64)).one (w := default) (S := fun _ => True) rfl u hu) _)) rfl rfl ?_
    rintro _ _ _ ⟨rfl, rfl⟩
    refine wl_det rfl rfl (det_assign rfl) rfl ?_
    refine wl_nil ?_
    refine pn_then ?_
    refine wc_ret ?_
    replace h := Option.some.inj h
    subst h
    refine pn_ret (vs := [_, _]) rfl ⟨⟨_, _, aC (encI .i64) s12, rfl, m0, ag70, sz_aC sz70 (fun _ => rfl) k10_0 rfl, rfl⟩, rfl, trivial⟩ ⟨rfl, rfl, rfl⟩ (fun _ h => h.to trivial trivial)
def Q_insolvency_Distribute (r : (List GDividend) × Int × Int) : Value → List Ent → List Fact → Prop := fun v θ κ => ∃ (pA0 : Option Addr), ∃ (pn0 : Nat), ∃ (pc0 : Nat), v = .tuple #[.slice pA0 pn0 pc0, .int .i64 r.2.1, .int .i64 r.2.2] ∧ θ = [eS lGDividend 46 pA0 pn0 pc0 r.1] ∧ κ = []
theorem plains_insolvency_Distribute {r : (List GDividend) × Int × Int} : ∀ v θ κ, Q_insolvency_Distribute r v θ κ → Plains θ := by
  rintro _ _ _ ⟨_, _, _, rfl, rfl, rfl⟩
  exact ⟨plain_eS, trivial⟩
set_option maxHeartbeats 4000000 in
set_option maxRecDepth 100000 in
theorem W_insolvency_Distribute (a0 : Int) (a1 : (List GMutual)) (A0 : Option Addr) (n0 : Nat) (c0 : Nat) (r : (List GDividend) × Int × Int) (h : insolvency_Distribute a0 a1 = some r) : Spec Try.prog 27 [.int .i64 a0, .slice A0 n0 c0] [] [fV (lSlice lGMutual) (.slice A0 n0 c0) a1] (Q_insolvency_Distribute r) := by
  unfold insolvency_Distribute at h
  refine spec_of (σ := [(0, _), (1, _)]) Try.func27 rfl rfl rfl rfl ?_
  intro C
  refine wc_know (fun _ h => h.lenF m0) (fun e => ?_)
  subst e
  refine wc_seq ?_
  refine wc_region ?_   -- region 0
  refine wl_det rfl rfl (det_assign rfl) rfl ?_
  refine wl_det rfl rfl (det_assign rfl) rfl ?_
  refine wl_det rfl rfl (det_assign rfl) rfl ?_
  refine wl_nil ?_
  refine pn_then ?_
  refine wc_seq ?_
  refine wc_seq ?_
  refine wc_region ?_   -- region 1
  refine wl_det rfl rfl (det_move rfl) rfl ?_
  obtain ⟨r1_1, hr1_1, h⟩ := bind_some h
  refine wl_act (act_callS (cap := []) (W_insolvency_Validate a1 A0 a1.length c0 r1_1 hr1_1) rfl rfl rfl bd30 rfl ⟨m0, trivial⟩) rfl rfl rfl ?_
  rintro _ _ _ ⟨_, _, ⟨rfl, rfl, rfl⟩, rfl, rfl⟩
  dsimp only [List.nil_append, List.cons_append]
  refine wl_det rfl rfl (det_assign rfl) rfl ?_
  refine wl_nil ?_
  refine pn_then ?_
  refine wc_seq ?_
  refine wc_region ?_   -- region 2
  refine wl_det rfl rfl (det_move rfl) rfl ?_
  refine wl_det rfl rfl (det_neq rfl rfl) rfl ?_
  refine wl_nil ?_
  refine pn_then ?_
  refine wc_cond rfl (fun c7 => ?_) (fun c7 => ?_)
  · have h := ifT h c7
    refine wc_seq ?_
    refine wc_region ?_   -- region 3
    refine wl_det rfl rfl (det_move rfl) rfl ?_
    refine wl_det rfl rfl (det_assign rfl) rfl ?_
    refine wl_det rfl rfl (det_assign rfl) rfl ?_
    refine wl_det rfl rfl (det_assign rfl) rfl ?_
    refine wl_nil ?_
    refine pn_then ?_
    refine wc_ret ?_
    refine pr_then ?_
    refine pn_st (fun _ h => h.zeroS lGDividend 46 none) ?_
    replace h := Option.some.inj h
    subst h
    refine pn_ret (vs := [_, _, _]) rfl ⟨rfl, rfl, rfl, trivial⟩ ⟨none, 0, 0, rfl, rfl, rfl⟩ (fun _ h => h.to ⟨_, r0, trivial⟩ trivial)
  · have h := ifF h c7
    refine wc_skip ?_
    refine pn_then ?_
    refine wc_seq ?_
    refine wc_seq ?_
    refine wc_region ?_   -- region 4
    refine wl_det rfl rfl (det_move rfl) rfl ?_
    refine wl_det rfl rfl (det_lss rfl rfl) rfl ?_
    refine wl_det rfl rfl (det_move rfl) rfl ?_
    refine wl_way (decide (a0 < 0)) ((decide (a0 < 0)) || (decide (17592186044416 < a0))) 3 30 (fun hg => ?_) (fun hg => ?_) ?_
    · have hg4_5 := hg
      refine wl_off rfl rfl rfl rfl rfl hg4_5 rfl ?_
      refine wl_off rfl rfl rfl rfl rfl hg4_5 rfl ?_
      refine wl_det rfl rfl (det_or_on (r := (decide (17592186044416 < a0))) rfl rfl rfl hg4_5) rfl ?_
      exact wl_nil (pn_qnE (ext_cons rfl (ext_skip rfl (ext_skip rfl (ext_skip rfl ext_refl)))) (fun _ h => h))
    · have hg4_5a := hg
      refine wl_on rfl rfl rfl rfl hg4_5a ?_
      refine wl_det rfl rfl (det_move rfl) rfl ?_
      refine wl_on rfl rfl rfl rfl hg4_5a ?_
      refine wl_det rfl rfl (det_gtr rfl rfl) rfl ?_
      refine wl_det rfl rfl (det_or_off rfl rfl rfl hg4_5a) rfl ?_
      exact wl_nil (pn_qnE (ext_cons rfl (ext_skip rfl (ext_skip rfl (ext_skip rfl ext_refl)))) (fun _ h => h))
    refine wl_nil ?_
    refine pn_then ?_
    refine wc_cond rfl (fun c13 => ?_) (fun c13 => ?_)
    · have h := ifT h c13
      refine wc_seq ?_
      refine wc_region ?_   -- region 5
      refine wl_det rfl rfl (det_assign rfl) rfl ?_
      refine wl_det rfl rfl (det_assign rfl) rfl ?_
      refine wl_det rfl rfl (det_assign rfl) rfl ?_
      refine wl_nil ?_
      refine pn_then ?_
      refine wc_ret ?_
      refine pr_then ?_
      refine pn_st (fun _ h => h.zeroS lGDividend 46 none) ?_
      replace h := Option.some.inj h
      subst h
      refine pn_ret (vs := [_, _, _]) rfl ⟨rfl, rfl, rfl, trivial⟩ ⟨none, 0, 0, rfl, rfl, rfl⟩ (fun _ h => h.to ⟨_, r0, trivial⟩ trivial)
    · have h := ifF h c13
      refine wc_skip ?_
      refine pn_then ?_
      refine wc_seq ?_
      refine wc_region ?_   -- region 6
      refine wl_det rfl rfl (det_move rfl) rfl ?_
      refine wl_det rfl rfl (det_assign rfl) rfl ?_
      refine wl_det rfl rfl (det_assign rfl) rfl ?_
      refine wl_nil ?_
      refine pn_then ?_
      refine wc_seq ?_
      refine wc_region ?_   -- region 7
      refine wl_det rfl rfl (det_move rfl) rfl ?_
      refine wl_det rfl rfl (det_len rfl un36) rfl ?_
      obtain ⟨k7_2, h⟩ := chk_some h
      obtain ⟨k7_2a, h⟩ := chk_some h
      refine wl_act (act_makeS (L := (lInt .i64)) (x0 := (0 : Int)) rfl rfl un22 in3 (by refine ⟨rfl, fun _ _ => ?_⟩; first | exact rfl | exact ⟨_, _, _, rfl, rfl, Nat.zero_le _, .inl rfl⟩) rfl rfl k7_2 (decide_eq_true (Int.le_refl _)) k7_2a) rfl rfl rfl ?_
      rintro _ _ _ ⟨A7_2, c7_2, rfl, rfl, rfl⟩
      refine wl_det rfl rfl (det_assign rfl) rfl ?_
      refine wl_nil ?_
      refine pn_then ?_
      refine wc_seq ?_
      refine wc_region ?_   -- region 8
      refine wl_det rfl rfl (det_move rfl) rfl ?_
      refine wl_det rfl rfl (det_len rfl un36) rfl ?_
      refine wl_act (act_makeS (L := lGDividend) (x0 := (GDividend.mk 0 0 0 0 0)) rfl rfl un39 in46 (by refine ⟨rfl, fun _ _ => ?_⟩; first | exact rfl | exact ⟨_, _, _, rfl, rfl, Nat.zero_le _, .inl rfl⟩) rfl rfl k7_2 (decide_eq_true (Int.le_refl _)) k7_2a) rfl rfl rfl ?_
      rintro _ _ _ ⟨A8_2, c8_2, rfl, rfl, rfl⟩
      refine wl_det rfl rfl (det_assign rfl) rfl ?_
      refine wl_nil ?_
      refine pn_then ?_
      obtain ⟨q22, h, ho22⟩ := bind_some h
      refine wc_meetG (G := (Int × Int × (List Int) × (List GDividend)) × Unit) (fun (s22, _) => s22 = q22) (fun (s22, _) => [(1, .slice A0 a1.length c0), (8, .int .i64 s22.1), (9, .int .i64 s22.2.1), (10, .slice A7_2 (List.replicate (a1.length : Int).toNat (0 : Int)).length c7_2), (11, .slice A8_2 (List.replicate (a1.length : Int).toNat (GDividend.mk 0 0 0 0 0)).length c8_2)]) (fun (s22, _) => [eS (lInt .i64) 3 A7_2 (List.replicate (a1.length : Int).toNat (0 : Int)).length c7_2 s22.2.2.1, eS lGDividend 46 A8_2 (List.replicate (a1.length : Int).toNat (GDividend.mk 0 0 0 0 0)).length c8_2 s22.2.2.2]) (fun (_, _) => [fV (lSlice lGMutual) (.slice A0 a1.length c0) a1]) ?_ ?_
      · refine wc_seq ?_
        refine wc_region ?_   -- region 9
        refine wl_det rfl rfl (det_move rfl) rfl ?_
        refine wl_det rfl rfl (det_len rfl un36) rfl ?_
        refine wl_det rfl rfl (det_move rfl) rfl ?_
        refine wl_nil ?_
        refine pn_then ?_
        refine wc_block ?_
        obtain ⟨k26, hk26⟩ := loopV_some.1 h
        refine wc_loop (G := Nat × (Int × Int × (List Int) × (List GDividend) × Int) × Unit) (fun g => IterN (insolvency_Distribute_l26 a1) g.1 g.2.1 q22) (fun g => g.1) (fun (_, s26, _) => [(1, .slice A0 a1.length c0), (8, .int .i64 s26.1), (9, .int .i64 s26.2.1), (10, .slice A7_2 (List.replicate (a1.length : Int).toNat (0 : Int)).length c7_2), (11, .slice A8_2 (List.replicate (a1.length : Int).toNat (GDividend.mk 0 0 0 0 0)).length c8_2), (38, .slice A0 a1.length c0), (39, .int .i64 (a1.length : Int)), (40, .int .i64 s26.2.2.2.2)]) (fun (_, s26, _) => [eS (lInt .i64) 3 A7_2 (List.replicate (a1.length : Int).toNat (0 : Int)).length c7_2 s26.2.2.1, eS lGDividend 46 A8_2 (List.replicate (a1.length : Int).toNat (GDividend.mk 0 0 0 0 0)).length c8_2 s26.2.2.2.1]) (fun (_, _, _) => [fV (lSlice lGMutual) (.slice A0 a1.length c0) a1]) (k26, (a0, 0, (List.replicate (a1.length : Int).toNat (0 : Int)), (List.replicate (a1.length : Int).toNat (GDividend.mk 0 0 0 0 0)), 0), ()) hk26 ⟨rfl, rfl, rfl, rfl, rfl, rfl, rfl, rfl, trivial⟩ (fun _ h => h.to ⟨_, (rs r0), ⟨_, r0, trivial⟩⟩ ⟨m0, trivial⟩) ?_
        rintro ⟨k26, s26, _⟩ hI
        obtain ⟨k26, rfl, q26, h, g26⟩ := IterN.pos hI
        dsimp only at h ⊢
        unfold insolvency_Distribute_l26 at h
        refine wc_seq ?_
        refine wc_region ?_   -- region 10
        refine wl_det rfl rfl (det_lss rfl rfl) rfl ?_
        refine wl_nil ?_
        refine pn_then ?_
        refine wc_seq ?_
        refine wc_cond rfl (fun c30 => ?_) (fun c30 => ?_)
        · have h := ifT h c30
          refine wc_skip ?_
          refine pn_then ?_
          refine wc_seq ?_
          refine wc_block ?_
          refine wc_seq ?_
          refine wc_region ?_   -- region 11
          refine wl_det rfl rfl (det_move rfl) rfl ?_
          obtain ⟨k11_1, h⟩ := chk_some h
          refine wl_st (fun _ h => h.openF m0 k11_1) ?_
          refine wl_det rfl rfl (det_indexP rfl rfl (ms m0) k11_1 m0 un36 sz48) rfl ?_
          refine wl_det rfl rfl (det_loadP (off := 0) rfl m0 (by rfl) (by rfl) (loaded_n (cells := [_, _, _]) ag48 sz48)) rfl ?_
          refine wl_act (act_alloc (cs := [_, _, _]) zr48 rfl) rfl rfl rfl ?_
          rintro _ _ _ ⟨b11_3, rfl, rfl, rfl⟩
          refine wl_det rfl rfl (det_assign rfl) rfl ?_
          refine wl_act0 (act_store (cells := [_, _, _]) (cs' := [_, _, _]) rfl rfl rfl s0 (by rfl) (of_decide_eq_true rfl) sz48 ⟨rfl, rfl, rfl, trivial⟩) rfl rfl ?_
          rintro _ _ _ ⟨rfl, rfl⟩
          refine wl_nil ?_
          refine pn_then ?_
          refine wc_seq ?_
          refine wc_region ?_   -- region 12
          refine wl_det rfl rfl (det_field rfl fd48_1 rfl) rfl ?_
          refine wl_det rfl rfl (det_load rfl m0 (by rfl) na3 us3) rfl ?_
          refine wl_det rfl rfl (det_field rfl fd48_2 rfl) rfl ?_
          refine wl_det rfl rfl (det_load rfl m0 (by rfl) na3 us3) rfl ?_
          refine wl_det rfl rfl (det_minI rfl rfl) rfl ?_
          refine wl_det rfl rfl (det_assign rfl) rfl ?_
          refine wl_nil ?_
          refine pn_then ?_
          refine wc_seq ?_
          refine wc_region ?_   -- region 13
          refine wl_det rfl rfl (det_move rfl) rfl ?_
          refine wl_det rfl rfl (det_move rfl) rfl ?_
          refine wl_det rfl rfl (det_field rfl fd48_1 rfl) rfl ?_
          refine wl_det rfl rfl (det_load rfl m0 (by rfl) na3 us3) rfl ?_
          refine wl_det rfl rfl (det_move rfl) rfl ?_
          refine wl_det rfl rfl (det_sub rfl rfl) rfl ?_
          obtain ⟨k13_6, h⟩ := chk_some h
          refine wl_det rfl rfl (det_indexO rfl rfl (ms m0) k13_6 un22 sz3) rfl ?_
          refine wl_act0 (act_storeO (cells := [_]) (off := 0) (w64 ((ix a1 s26.2.2.2.2).Owed - (minI (ix a1 s26.2.2.2.2).Owed (ix a1 s26.2.2.2.2).Owes))) rfl rfl rfl (ss s0) k13_6 (by rfl) sz3 (by intro u hu; simp at hu; rcases hu with rfl <;> rfl) (stR_flat rfl rfl)) rfl rfl ?_
          rintro _ _ _ ⟨rfl, rfl⟩
          refine wl_nil ?_
          refine pn_then ?_
          refine wc_seq ?_
          refine wc_region ?_   -- region 14
          refine wl_det rfl rfl (det_move rfl) rfl ?_
          refine wl_det rfl rfl (det_move rfl) rfl ?_
          refine wl_det rfl rfl (det_field rfl fd48_0 rfl) rfl ?_
          refine wl_det rfl rfl (det_load rfl m0 (by rfl) na3 us3) rfl ?_
          refine wl_det rfl rfl (det_move rfl) rfl ?_
          refine wl_det rfl rfl (det_field rfl fd48_2 rfl) rfl ?_
          refine wl_det rfl rfl (det_load rfl m0 (by rfl) na3 us3) rfl ?_
          refine wl_det rfl rfl (det_move rfl) rfl ?_
          refine wl_det rfl rfl (det_sub rfl rfl) rfl ?_
          refine wl_det rfl rfl (det_build (cs := [_, _, _, _, _]) pl46 zr46 rfl rfl (by rfl)) rfl ?_
          obtain ⟨k14_10, h⟩ := chk_some h
          refine wl_det rfl rfl (det_indexO rfl rfl (ms (ms m0)) k14_10 un39 sz46) rfl ?_
          refine wl_act0 (act_storeO (cells := [_, _, _, _, _]) (off := 0) (GDividend.mk (ix a1 s26.2.2.2.2).Party (minI (ix a1 s26.2.2.2.2).Owed (ix a1 s26.2.2.2.2).Owes) 0 (w64 ((ix a1 s26.2.2.2.2).Owes - (minI (ix a1 s26.2.2.2.2).Owed (ix a1 s26.2.2.2.2).Owes))) 0) rfl rfl rfl (ss (ss s0)) k14_10 (by rfl) sz46 (by intro u hu; simp at hu; rcases hu with rfl | rfl | rfl | rfl | rfl <;> rfl) (stR_flat rfl rfl)) rfl rfl ?_
          rintro _ _ _ ⟨rfl, rfl⟩
          refine wl_nil ?_
          refine pn_then ?_
          refine wc_seq ?_
          refine wc_region ?_   -- region 15
          refine wl_det rfl rfl (det_move rfl) rfl ?_
          refine wl_det rfl rfl (det_move rfl) rfl ?_
          refine wl_det rfl rfl (det_move rfl) rfl ?_
          obtain ⟨k15_3, h⟩ := chk_some h
          refine wl_det rfl rfl (det_indexO rfl rfl (ms m0) k15_3 un22 sz3) rfl ?_
          refine wl_det rfl rfl (det_loadO (off := 0) rfl (ms m0) k15_3 (by rfl) (by rfl) (loaded_1 na3 us3)) rfl ?_
          refine wl_det rfl rfl (det_add rfl rfl) rfl ?_
          refine wl_det rfl rfl (det_assign rfl) rfl ?_
          refine wl_nil ?_
          refine pn_then ?_
          refine wc_region ?_   -- region 16
          refine wl_det rfl rfl (det_move rfl) rfl ?_
          refine wl_det rfl rfl (det_move rfl) rfl ?_
          refine wl_det rfl rfl (det_move rfl) rfl ?_
          obtain ⟨k16_3, h⟩ := chk_some h
          refine wl_det rfl rfl (det_indexO rfl rfl (ms (ms m0)) k16_3 un39 sz46) rfl ?_
          refine wl_det rfl rfl (det_fieldO rfl (ms (ms m0)) k16_3 fd46_3 rfl) rfl ?_
          refine wl_det rfl rfl (det_loadO (off := 3) rfl (ms (ms m0)) k16_3 (by rfl) (by rfl) (loaded_1 na3 us3)) rfl ?_
          refine wl_det rfl rfl (det_add rfl rfl) rfl ?_
          refine wl_det rfl rfl (det_assign rfl) rfl ?_
          refine wl_nil ?_
          refine pn_block ?_
          refine pn_then ?_
          refine wc_region ?_   -- region 17
          refine wl_det rfl rfl (det_add rfl rfl) rfl ?_
          refine wl_det rfl rfl (det_move rfl) rfl ?_
          refine wl_nil ?_
          replace h := Option.some.inj h
          subst h
          exact pn_some (k26, ((w64 (s26.1 + (ix (upd s26.2.2.2.1 s26.2.2.2.2 (GDividend.mk (ix a1 s26.2.2.2.2).Party (minI (ix a1 s26.2.2.2.2).Owed (ix a1 s26.2.2.2.2).Owes) 0 (w64 ((ix a1 s26.2.2.2.2).Owes - (minI (ix a1 s26.2.2.2.2).Owed (ix a1 s26.2.2.2.2).Owes))) 0)) s26.2.2.2.2).Pays)), (w64 (s26.2.1 + (ix (upd s26.2.2.1 s26.2.2.2.2 (w64 ((ix a1 s26.2.2.2.2).Owed - (minI (ix a1 s26.2.2.2.2).Owed (ix a1 s26.2.2.2.2).Owes)))) s26.2.2.2.2))), (upd s26.2.2.1 s26.2.2.2.2 (w64 ((ix a1 s26.2.2.2.2).Owed - (minI (ix a1 s26.2.2.2.2).Owed (ix a1 s26.2.2.2.2).Owes)))), (upd s26.2.2.2.1 s26.2.2.2.2 (GDividend.mk (ix a1 s26.2.2.2.2).Party (minI (ix a1 s26.2.2.2.2).Owed (ix a1 s26.2.2.2.2).Owes) 0 (w64 ((ix a1 s26.2.2.2.2).Owes - (minI (ix a1 s26.2.2.2.2).Owed (ix a1 s26.2.2.2.2).Owes))) 0)), (w64 (s26.2.2.2.2 + 1))), ()) ⟨nextL g26, Nat.lt_succ_self _⟩ ⟨rfl, rfl, rfl, rfl, rfl, rfl, rfl, rfl, trivial⟩ (fun _ h => h.to ⟨_, (rs r0), ⟨_, (rs r0), trivial⟩⟩ ⟨(ms m0), trivial⟩)
        · have h := ifF h c30
          refine wc_exit ?_
          refine px_then ?_
          refine px_then ?_
          refine px_block ?_
          replace h := Option.some.inj h
          subst h
          replace g26 := nextR g26
          subst g26
          exact pn_meetG ((s26.1, s26.2.1, s26.2.2.1, s26.2.2.2.1), ()) rfl ⟨rfl, rfl, rfl, rfl, rfl, trivial⟩ (fun _ h => h.to ⟨_, r0, ⟨_, r0, trivial⟩⟩ ⟨m0, trivial⟩)
      rintro ⟨s22, _⟩ e22
      dsimp only at e22 ⊢
      subst e22
      have h := ho22
      refine wc_seq ?_
      refine wc_seq ?_
      refine wc_region ?_   -- region 18
      refine wl_det rfl rfl (det_move rfl) rfl ?_
      obtain ⟨r18_1, hr18_1, h⟩ := bind_some h
      refine wl_act (act_callS (cap := []) (W_amount_Valid s22.1 r18_1 hr18_1) rfl rfl rfl bd47 rfl trivial) rfl rfl rfl ?_
      rintro _ _ _ ⟨_, _, ⟨rfl, rfl, rfl⟩, rfl, rfl⟩
      dsimp only [List.nil_append, List.cons_append]
      refine wl_det rfl rfl (det_not rfl) rfl ?_
      refine wl_det rfl rfl (det_move rfl) rfl ?_
      obtain ⟨q18_7, hq18_7, h⟩ := bind_some h
      have ho18_7 := h
      refine wl_way (!r18_1) q18_7 4 89 (fun hg => ?_) (fun hg => ?_) ?_
      · have hg18_7 := hg
        have h := ifT hq18_7 hg
        refine wl_off rfl rfl rfl rfl rfl hg18_7 rfl ?_
        refine wl_off rfl rfl rfl rfl rfl hg18_7 rfl ?_
        refine wl_off rfl rfl rfl rfl rfl hg18_7 rfl ?_
        replace h := Option.some.inj h
        subst h
        refine wl_det rfl rfl (det_pick_on rfl hg18_7 rfl rfl) rfl ?_
        exact wl_nil (pn_qnE (ext_cons rfl (ext_skip rfl (ext_skip rfl (ext_skip rfl (ext_skip rfl ext_refl))))) (fun _ h => h))
      · have hg18_7a := hg
        have h := ifF hq18_7 hg
        refine wl_on rfl rfl rfl rfl hg18_7a ?_
        refine wl_det rfl rfl (det_move rfl) rfl ?_
        refine wl_on rfl rfl rfl rfl hg18_7a ?_
        obtain ⟨r18_5, hr18_5, h⟩ := bind_some h
        refine wl_act (act_callS (cap := []) (W_amount_Valid s22.2.1 r18_5 hr18_5) rfl rfl rfl bd47 rfl trivial) rfl rfl rfl ?_
        rintro _ _ _ ⟨_, _, ⟨rfl, rfl, rfl⟩, rfl, rfl⟩
        dsimp only [List.nil_append, List.cons_append]
        refine wl_on rfl rfl rfl rfl hg18_7a ?_
        refine wl_det rfl rfl (det_not rfl) rfl ?_
        replace h := Option.some.inj h
        subst h
        refine wl_det rfl rfl (det_pick_off rfl hg18_7a rfl rfl) rfl ?_
        exact wl_nil (pn_qnE (ext_cons rfl (ext_skip rfl (ext_skip rfl (ext_skip rfl (ext_skip rfl ext_refl))))) (fun _ h => h))
      have h := ho18_7
      refine wl_nil ?_
      refine pn_then ?_
      refine wc_cond rfl (fun c49 => ?_) (fun c49 => ?_)
      · have h := ifT h c49
        refine wc_seq ?_
        refine wc_region ?_   -- region 19
        refine wl_det rfl rfl (det_assign rfl) rfl ?_
        refine wl_det rfl rfl (det_assign rfl) rfl ?_
        refine wl_det rfl rfl (det_assign rfl) rfl ?_
        refine wl_nil ?_
        refine pn_then ?_
        refine wc_ret ?_
        refine pr_then ?_
        refine pn_st (fun _ h => h.zeroS lGDividend 46 none) ?_
        replace h := Option.some.inj h
        subst h
        refine pn_ret (vs := [_, _, _]) rfl ⟨rfl, rfl, rfl, trivial⟩ ⟨none, 0, 0, rfl, rfl, rfl⟩ (fun _ h => h.to ⟨_, r0, trivial⟩ trivial)
      · have h := ifF h c49
        refine wc_skip ?_
        refine pn_then ?_
        refine wc_seq ?_
        refine wc_region ?_   -- region 20
        refine wl_det rfl rfl (det_move rfl) rfl ?_
        refine wl_det rfl rfl (det_move rfl) rfl ?_
        refine wl_det rfl rfl (det_move rfl) rfl ?_
        obtain ⟨r20_3, hr20_3, h⟩ := bind_some h
        refine wl_act (act_callL (cap := []) [eS (lInt .i64) 3 A7_2 (List.replicate (a1.length : Int).toNat (0 : Int)).length c7_2 s22.2.2.1] (W_insolvency_quotas a1 s22.2.2.1 s22.1 A0 a1.length c0 A7_2 (List.replicate (a1.length : Int).toNat (0 : Int)).length c7_2 r20_3 hr20_3) plains_insolvency_quotas rfl rfl rfl bd48 rfl ⟨m0, trivial⟩ ⟨.inl m0, ⟨.inr ⟨_, m0, lent_eS⟩, trivial⟩⟩) rfl rfl rfl ?_
        rintro _ _ _ ⟨_, _, ⟨rfl, rfl, rfl⟩, rfl, rfl⟩
        dsimp only [List.nil_append, List.cons_append]
        refine wl_det rfl rfl (det_move rfl) rfl ?_
        refine wl_det rfl rfl (det_extract rfl rfl) rfl ?_
        refine wl_det rfl rfl (det_extract rfl rfl) rfl ?_
        refine wl_act (act_alloc (cs := aC (encI .i64) (List.replicate 16 (0 : Int))) zr70 rfl) rfl rfl rfl ?_
        rintro _ _ _ ⟨b20_7, rfl, rfl, rfl⟩
        obtain ⟨k20_8, h⟩ := chk_some h
        obtain ⟨k20_8a, h⟩ := chk_some h
        refine wl_act0 (act_store (cells := aC (encI .i64) r20_3.1) (cs' := aC (encI .i64) r20_3.1) rfl rfl rfl s0 (aC_over (fun _ => rfl) k20_8 k20_8a) (aC_fits (fun _ => rfl) k20_8 k20_8a) (sz_aC sz70 (fun _ => rfl) k20_8a rfl) (aC_ones (fun _ u hu => ((lInt .i64)).one (w := default) (S := fun _ => True) rfl u hu) _)) rfl rfl ?_
        rintro _ _ _ ⟨rfl, rfl⟩
        refine wl_det rfl rfl (det_assign rfl) rfl ?_
        refine wl_nil ?_
        refine pn_then ?_
        refine wc_seq ?_
        refine wc_seq ?_
        refine wc_region ?_   -- region 21
        refine wl_det rfl rfl (det_move rfl) rfl ?_
        refine wl_det rfl rfl (det_neq rfl rfl) rfl ?_
        refine wl_nil ?_
        refine pn_then ?_
        refine wc_cond rfl (fun c57 => ?_) (fun c57 => ?_)
        · have h := ifT h c57
          refine wc_seq ?_
          refine wc_region ?_   -- region 22
          refine wl_det rfl rfl (det_move rfl) rfl ?_
          refine wl_det rfl rfl (det_assign rfl) rfl ?_
          refine wl_det rfl rfl (det_assign rfl) rfl ?_
          refine wl_det rfl rfl (det_assign rfl) rfl ?_
          refine wl_nil ?_
          refine pn_then ?_
          refine wc_ret ?_
          refine pr_then ?_
          refine pn_st (fun _ h => h.zeroS lGDividend 46 none) ?_
          replace h := Option.some.inj h
          subst h
          refine pn_ret (vs := [_, _, _]) rfl ⟨rfl, rfl, rfl, trivial⟩ ⟨none, 0, 0, rfl, rfl, rfl⟩ (fun _ h => h.to ⟨_, r0, trivial⟩ trivial)
        · have h := ifF h c57
          refine wc_skip ?_
          refine pn_then ?_
          refine wc_seq ?_
          refine wc_region ?_   -- region 23
          refine wl_det rfl rfl (det_move rfl) rfl ?_
          refine wl_det rfl rfl (det_assign rfl) rfl ?_
          refine wl_nil ?_
          refine pn_then ?_
          obtain ⟨q62, h, ho62⟩ := bind_some h
          refine wc_meetG (G := ((List GDividend) × Int) × Unit) (fun (s62, _) => s62 = q62) (fun (s62, _) => [(11, .slice A8_2 (List.replicate (a1.length : Int).toNat (GDividend.mk 0 0 0 0 0)).length c8_2), (17, .int .i64 s62.2)]) (fun (s62, _) => [eS lGDividend 46 A8_2 (List.replicate (a1.length : Int).toNat (GDividend.mk 0 0 0 0 0)).length c8_2 s62.1]) (fun (_, _) => []) ?_ ?_
          · refine wc_seq ?_
            refine wc_region ?_   -- region 24
            refine wl_det rfl rfl (det_move rfl) rfl ?_
            refine wl_det rfl rfl (det_len rfl un36) rfl ?_
            refine wl_det rfl rfl (det_move rfl) rfl ?_
            refine wl_nil ?_
            refine pn_then ?_
            refine wc_block ?_
            obtain ⟨k66, hk66⟩ := loopV_some.1 h
            refine wc_loop (G := Nat × ((List GDividend) × Int × Int) × Unit) (fun g => IterN (insolvency_Distribute_l66 a1 s22 r20_3) g.1 g.2.1 q62) (fun g => g.1) (fun (_, s66, _) => [(10, .slice A7_2 (List.replicate (a1.length : Int).toNat (0 : Int)).length c7_2), (11, .slice A8_2 (List.replicate (a1.length : Int).toNat (GDividend.mk 0 0 0 0 0)).length c8_2), (15, .pointer (some ⟨b20_7, 0, none⟩)), (17, .int .i64 s66.2.1), (101, .slice A0 a1.length c0), (102, .int .i64 (a1.length : Int)), (103, .int .i64 s66.2.2)]) (fun (_, s66, _) => [eS (lInt .i64) 3 A7_2 (List.replicate (a1.length : Int).toNat (0 : Int)).length c7_2 s22.2.2.1, eS lGDividend 46 A8_2 (List.replicate (a1.length : Int).toNat (GDividend.mk 0 0 0 0 0)).length c8_2 s66.1, eBlk b20_7 70 (aC (encI .i64) r20_3.1)]) (fun (_, _, _) => [fV (lSlice lGMutual) (.slice A0 a1.length c0) a1]) (k66, (s22.2.2.2, s22.1, 0), ()) hk66 ⟨rfl, rfl, rfl, rfl, rfl, rfl, rfl, trivial⟩ (fun _ h => h.to ⟨_, (rs r0), ⟨_, (rs r0), ⟨_, r0, trivial⟩⟩⟩ ⟨m0, trivial⟩) ?_
            rintro ⟨k66, s66, _⟩ hI
            obtain ⟨k66, rfl, q66, h, g66⟩ := IterN.pos hI
            dsimp only at h ⊢
            unfold insolvency_Distribute_l66 at h
            refine wc_seq ?_
            refine wc_region ?_   -- region 25
            refine wl_det rfl rfl (det_lss rfl rfl) rfl ?_
            refine wl_nil ?_
            refine pn_then ?_
            refine wc_seq ?_
            refine wc_cond rfl (fun c70 => ?_) (fun c70 => ?_)
            · have h := ifT h c70
              refine wc_skip ?_
              refine pn_then ?_
              refine wc_seq ?_
              refine wc_block ?_
              refine wc_seq ?_
              refine wc_region ?_   -- region 26
              refine wl_det rfl rfl (det_move rfl) rfl ?_
              obtain ⟨k26_1, h⟩ := chk_some h
              refine wl_st (fun _ h => h.openF m0 k26_1) ?_
              refine wl_det rfl rfl (det_indexP rfl rfl (ms m0) k26_1 m0 un36 sz48) rfl ?_
              refine wl_det rfl rfl (det_loadP (off := 0) rfl m0 (by rfl) (by rfl) (loaded_n (cells := [_, _, _]) ag48 sz48)) rfl ?_
              refine wl_act (act_alloc (cs := [_, _, _]) zr48 rfl) rfl rfl rfl ?_
              rintro _ _ _ ⟨b26_3, rfl, rfl, rfl⟩
              refine wl_det rfl rfl (det_assign rfl) rfl ?_
              refine wl_act0 (act_store (cells := [_, _, _]) (cs' := [_, _, _]) rfl rfl rfl s0 (by rfl) (of_decide_eq_true rfl) sz48 ⟨rfl, rfl, rfl, trivial⟩) rfl rfl ?_
              rintro _ _ _ ⟨rfl, rfl⟩
              refine wl_nil ?_
              refine pn_then ?_
              refine wc_seq ?_
              refine wc_region ?_   -- region 27
              refine wl_det rfl rfl (det_move rfl) rfl ?_
              refine wl_det rfl rfl (det_move rfl) rfl ?_
              refine wl_det rfl rfl (det_field rfl fd48_0 rfl) rfl ?_
              refine wl_det rfl rfl (det_load rfl m0 (by rfl) na3 us3) rfl ?_
              obtain ⟨k27_4, h⟩ := chk_some h
              obtain ⟨k27_4a, h⟩ := chk_some h
              refine wl_det rfl rfl (det_indexA rfl rfl k27_4 k27_4a un70 sz3) rfl ?_
              obtain ⟨k27_5, h⟩ := chk_some h
              refine wl_det rfl rfl (det_load rfl (ms (ms (ms m0))) (aC_get (enc := (encI .i64)) (z := 1) (o := 0) (fun _ => rfl) k27_5 rfl) na3 us3) rfl ?_
              obtain ⟨k27_6, h⟩ := chk_some h
              refine wl_det rfl rfl (det_indexO rfl rfl (ms (ms m0)) k27_6 un39 sz46) rfl ?_
              refine wl_det rfl rfl (det_fieldO rfl (ms (ms m0)) k27_6 fd46_2 rfl) rfl ?_
              refine wl_act0 (act_storeO (cells := [_]) (off := 2) (GDividend.mk (ix s66.1 s66.2.2).Party (ix s66.1 s66.2.2).SetOff (ix r20_3.1 (ix a1 s66.2.2).Party) (ix s66.1 s66.2.2).Pays (ix s66.1 s66.2.2).Unpaid) rfl rfl rfl (ss (ss s0)) k27_6 (by rfl) sz3 (by intro u hu; simp at hu; rcases hu with rfl <;> rfl) (stR_flat rfl rfl)) rfl rfl ?_
              rintro _ _ _ ⟨rfl, rfl⟩
              refine wl_nil ?_
              refine pn_then ?_
              refine wc_seq ?_
              obtain ⟨k28_p1, h⟩ := chk_some h
              obtain ⟨k28_p2, h⟩ := chk_some h
              refine dx_region 13 [[], [], [], [], [2, 3], [2, 3, 4], [], [6], [6, 7], [6, 7, 8], [2, 3, 4, 5, 6, 7, 8, 9], [0, 1, 2, 3, 4, 5, 6, 7, 8, 9, 10], [0, 1, 2, 3, 4, 5, 6, 7, 8, 9, 10, 11], [0, 1, 2, 3, 4, 5, 6, 7, 8, 9, 10, 11, 12]] mixed (ord := (.det 0 (.det 1 (.det 2 (.det 3 (.det 4 (.det 5 (.det 6 (.det 7 (.det 8 (.det 9 (.det 10 (.det 11 (.det 12 .done)))))))))))))) (by kernel_rfl) ?_   -- region 28
              refine hx_det rfl rfl rfl nofun (det_move rfl) rfl ?_
              refine hx_det rfl rfl rfl nofun (det_move rfl) rfl ?_
              refine hx_det rfl rfl rfl nofun (det_move rfl) rfl ?_
              refine hx_det rfl rfl rfl nofun (det_move rfl) rfl ?_
              refine hx_det rfl rfl rfl nofun (det_indexO rfl rfl (ms m0) k28_p1 un22 sz3) rfl ?_
              refine hx_det rfl rfl rfl nofun (det_loadO (off := 0) rfl (ms m0) k28_p1 (by rfl) (by rfl) (loaded_1 na3 us3)) rfl ?_
              refine hx_det rfl rfl rfl nofun (det_field rfl fd48_0 rfl) rfl ?_
              refine hx_det rfl rfl rfl nofun (det_load rfl m0 (by rfl) na3 us3) rfl ?_
              refine hx_det rfl rfl rfl nofun (det_indexA rfl rfl k27_4 k27_4a un70 sz3) rfl ?_
              refine hx_det rfl rfl rfl nofun (det_load rfl (ms (ms (ms m0))) (aC_get (enc := (encI .i64)) (z := 1) (o := 0) (fun _ => rfl) k27_5 rfl) na3 us3) rfl ?_
              refine hx_det rfl rfl rfl nofun (det_sub rfl rfl) rfl ?_
              refine hx_det rfl rfl rfl nofun (det_indexO rfl rfl (ms (ms m0)) k28_p2 un39 sz46) rfl ?_
              refine hx_det rfl rfl rfl nofun (det_fieldO rfl (ms (ms m0)) k28_p2 fd46_4 rfl) rfl ?_
              refine hx_end ?_
              refine wl_act0 (act_storeO (cells := [_]) (off := 4) (GDividend.mk (ix (upd s66.1 s66.2.2 (GDividend.mk (ix s66.1 s66.2.2).Party (ix s66.1 s66.2.2).SetOff (ix r20_3.1 (ix a1 s66.2.2).Party) (ix s66.1 s66.2.2).Pays (ix s66.1 s66.2.2).Unpaid)) s66.2.2).Party (ix (upd s66.1 s66.2.2 (GDividend.mk (ix s66.1 s66.2.2).Party (ix s66.1 s66.2.2).SetOff (ix r20_3.1 (ix a1 s66.2.2).Party) (ix s66.1 s66.2.2).Pays (ix s66.1 s66.2.2).Unpaid)) s66.2.2).SetOff (ix (upd s66.1 s66.2.2 (GDividend.mk (ix s66.1 s66.2.2).Party (ix s66.1 s66.2.2).SetOff (ix r20_3.1 (ix a1 s66.2.2).Party) (ix s66.1 s66.2.2).Pays (ix s66.1 s66.2.2).Unpaid)) s66.2.2).Gets (ix (upd s66.1 s66.2.2 (GDividend.mk (ix s66.1 s66.2.2).Party (ix s66.1 s66.2.2).SetOff (ix r20_3.1 (ix a1 s66.2.2).Party) (ix s66.1 s66.2.2).Pays (ix s66.1 s66.2.2).Unpaid)) s66.2.2).Pays (w64 ((ix s22.2.2.1 s66.2.2) - (ix r20_3.1 (ix a1 s66.2.2).Party)))) rfl rfl rfl (ss (ss s0)) k28_p2 (by rfl) sz3 (by intro u hu; simp at hu; rcases hu with rfl <;> rfl) (stR_flat rfl rfl)) rfl rfl ?_
              rintro _ _ _ ⟨rfl, rfl⟩
              refine wl_nil ?_
              refine pn_then ?_
              refine wc_region ?_   -- region 29
              refine wl_det rfl rfl (det_move rfl) rfl ?_
              refine wl_det rfl rfl (det_field rfl fd48_0 rfl) rfl ?_
              refine wl_det rfl rfl (det_load rfl m0 (by rfl) na3 us3) rfl ?_
              refine wl_det rfl rfl (det_indexA rfl rfl k27_4 k27_4a un70 sz3) rfl ?_
              refine wl_det rfl rfl (det_load rfl (ms (ms (ms m0))) (aC_get (enc := (encI .i64)) (z := 1) (o := 0) (fun _ => rfl) k27_5 rfl) na3 us3) rfl ?_
              refine wl_det rfl rfl (det_sub rfl rfl) rfl ?_
              refine wl_det rfl rfl (det_assign rfl) rfl ?_
              refine wl_nil ?_
              refine pn_block ?_
              refine pn_then ?_
              refine wc_region ?_   -- region 30
              refine wl_det rfl rfl (det_add rfl rfl) rfl ?_
              refine wl_det rfl rfl (det_move rfl) rfl ?_
              refine wl_nil ?_
              replace h := Option.some.inj h
              subst h
              exact pn_some (k66, ((upd (upd s66.1 s66.2.2 (GDividend.mk (ix s66.1 s66.2.2).Party (ix s66.1 s66.2.2).SetOff (ix r20_3.1 (ix a1 s66.2.2).Party) (ix s66.1 s66.2.2).Pays (ix s66.1 s66.2.2).Unpaid)) s66.2.2 (GDividend.mk (ix (upd s66.1 s66.2.2 (GDividend.mk (ix s66.1 s66.2.2).Party (ix s66.1 s66.2.2).SetOff (ix r20_3.1 (ix a1 s66.2.2).Party) (ix s66.1 s66.2.2).Pays (ix s66.1 s66.2.2).Unpaid)) s66.2.2).Party (ix (upd s66.1 s66.2.2 (GDividend.mk (ix s66.1 s66.2.2).Party (ix s66.1 s66.2.2).SetOff (ix r20_3.1 (ix a1 s66.2.2).Party) (ix s66.1 s66.2.2).Pays (ix s66.1 s66.2.2).Unpaid)) s66.2.2).SetOff (ix (upd s66.1 s66.2.2 (GDividend.mk (ix s66.1 s66.2.2).Party (ix s66.1 s66.2.2).SetOff (ix r20_3.1 (ix a1 s66.2.2).Party) (ix s66.1 s66.2.2).Pays (ix s66.1 s66.2.2).Unpaid)) s66.2.2).Gets (ix (upd s66.1 s66.2.2 (GDividend.mk (ix s66.1 s66.2.2).Party (ix s66.1 s66.2.2).SetOff (ix r20_3.1 (ix a1 s66.2.2).Party) (ix s66.1 s66.2.2).Pays (ix s66.1 s66.2.2).Unpaid)) s66.2.2).Pays (w64 ((ix s22.2.2.1 s66.2.2) - (ix r20_3.1 (ix a1 s66.2.2).Party))))), (w64 (s66.2.1 - (ix r20_3.1 (ix a1 s66.2.2).Party))), (w64 (s66.2.2 + 1))), ()) ⟨nextL g66, Nat.lt_succ_self _⟩ ⟨rfl, rfl, rfl, rfl, rfl, rfl, rfl, trivial⟩ (fun _ h => h.to ⟨_, (rs r0), ⟨_, (rs r0), ⟨_, (rs r0), trivial⟩⟩⟩ ⟨(ms m0), trivial⟩)
            · have h := ifF h c70
              refine wc_exit ?_
              refine px_then ?_
              refine px_then ?_
              refine px_block ?_
              replace h := Option.some.inj h
              subst h
              replace g66 := nextR g66
              subst g66
              exact pn_meetG ((s66.1, s66.2.1), ()) rfl ⟨rfl, rfl, trivial⟩ (fun _ h => h.to ⟨_, (rs r0), trivial⟩ trivial)
          rintro ⟨s62, _⟩ e62
          dsimp only at e62 ⊢
          subst e62
          have h := ho62
          refine wc_seq ?_
          refine wc_region ?_   -- region 31
          refine wl_det rfl rfl (det_move rfl) rfl ?_
          refine wl_det rfl rfl (det_move rfl) rfl ?_
          refine wl_det rfl rfl (det_assign rfl) rfl ?_
          refine wl_det rfl rfl (det_assign rfl) rfl ?_
          refine wl_det rfl rfl (det_assign rfl) rfl ?_
          refine wl_nil ?_
          refine pn_then ?_
          refine wc_ret ?_
          replace h := Option.some.inj h
          subst h
          refine pn_ret (vs := [_, _, _]) rfl ⟨rfl, rfl, rfl, trivial⟩ ⟨A8_2, (List.replicate (a1.length : Int).toNat (GDividend.mk 0 0 0 0 0)).length, c8_2, rfl, rfl, rfl⟩ (fun _ h => h.to ⟨_, r0, trivial⟩ trivial)
def Q_treatyref33_SameDividends (r : Bool) : Value → List Ent → List Fact → Prop := fun v θ κ => v = .bool r ∧ θ = [] ∧ κ = []
theorem plains_treatyref33_SameDividends {r : Bool} : ∀ v θ κ, Q_treatyref33_SameDividends r v θ κ → Plains θ := by
  rintro _ _ _ ⟨rfl, rfl, rfl⟩
  exact trivial
set_option maxHeartbeats 4000000 in
set_option maxRecDepth 100000 in
theorem W_treatyref33_SameDividends (a0 : (List GDividend)) (a1 : (List GDividend)) (A0 : Option Addr) (n0 : Nat) (c0 : Nat) (A3 : Option Addr) (n3 : Nat) (c3 : Nat) (r : Bool) (h : treatyref33_SameDividends a0 a1 = some r) : Spec Try.prog 29 [.slice A0 n0 c0, .slice A3 n3 c3] [] [fV (lSlice lGDividend) (.slice A0 n0 c0) a0, fV (lSlice lGDividend) (.slice A3 n3 c3) a1] (Q_treatyref33_SameDividends r) := by
  unfold treatyref33_SameDividends at h
  refine spec_of (σ := [(0, _), (1, _)]) Try.func29 rfl rfl rfl rfl ?_
  intro C
  refine wc_know (fun _ h => h.lenF m0) (fun e => ?_)
  subst e
  refine wc_know (fun _ h => h.lenF (ms m0)) (fun e => ?_)
  subst e
  refine wc_seq ?_
  refine wc_region ?_   -- region 0
  refine wl_det rfl rfl (det_assign rfl) rfl ?_
  refine wl_nil ?_
  refine pn_then ?_
  refine wc_seq ?_
  refine wc_seq ?_
  refine wc_region ?_   -- region 1
  refine wl_det rfl rfl (det_move rfl) rfl ?_
  refine wl_det rfl rfl (det_len rfl un39) rfl ?_
  refine wl_det rfl rfl (det_move rfl) rfl ?_
  refine wl_det rfl rfl (det_len rfl un39) rfl ?_
  refine wl_det rfl rfl (det_neq rfl rfl) rfl ?_
  refine wl_nil ?_
  refine pn_then ?_
  refine wc_cond rfl (fun c5 => ?_) (fun c5 => ?_)
  · have h := ifT h c5
    refine wc_seq ?_
    refine wc_region ?_   -- region 2
    refine wl_det rfl rfl (det_assign rfl) rfl ?_
    refine wl_nil ?_
    refine pn_then ?_
    refine wc_ret ?_
    refine pr_then ?_
    replace h := Option.some.inj h
    subst h
    refine pn_ret (vs := [_]) rfl ⟨rfl, trivial⟩ ⟨rfl, rfl, rfl⟩ (fun _ h => h.to trivial trivial)
  · have h := ifF h c5
    refine wc_skip ?_
    refine pn_then ?_
    obtain ⟨q8, h, ho8⟩ := bind_some h
    refine wc_meetG (G := Unit × Unit) (fun (s8, _) => (.inl s8) = q8) (fun (_, _) => []) (fun (_, _) => []) (fun (_, _) => []) ?_ ?_
    · refine wc_seq ?_
      refine wc_region ?_   -- region 3
      refine wl_det rfl rfl (det_move rfl) rfl ?_
      refine wl_det rfl rfl (det_len rfl un39) rfl ?_
      refine wl_det rfl rfl (det_move rfl) rfl ?_
      refine wl_nil ?_
      refine pn_then ?_
      refine wc_block ?_
      obtain ⟨o12, h, ho12⟩ := bind_some h
      obtain ⟨k12, hk12⟩ := loopV_some.1 h
      refine wc_loop (G := Nat × Int × Unit) (fun g => IterN (treatyref33_SameDividends_l12 a0 a1) g.1 g.2.1 o12) (fun g => g.1) (fun (_, s12, _) => [(0, .slice A0 a0.length c0), (1, .slice A3 a1.length c3), (12, .int .i64 (a0.length : Int)), (13, .int .i64 s12)]) (fun (_, _, _) => []) (fun (_, _, _) => [fV (lSlice lGDividend) (.slice A0 a0.length c0) a0, fV (lSlice lGDividend) (.slice A3 a1.length c3) a1]) (k12, 0, ()) hk12 ⟨rfl, rfl, rfl, rfl, trivial⟩ (fun _ h => h.to trivial ⟨m0, ⟨(ms m0), trivial⟩⟩) ?_
      rintro ⟨k12, s12, _⟩ hI
      obtain ⟨k12, rfl, q12, h, g12⟩ := IterN.pos hI
      dsimp only at h ⊢
      unfold treatyref33_SameDividends_l12 at h
      refine wc_seq ?_
      refine wc_region ?_   -- region 4
      refine wl_det rfl rfl (det_lss rfl rfl) rfl ?_
      refine wl_nil ?_
      refine pn_then ?_
      refine wc_seq ?_
      refine wc_cond rfl (fun c16 => ?_) (fun c16 => ?_)
      · have h := ifT h c16
        refine wc_skip ?_
        refine pn_then ?_
        refine wc_seq ?_
        refine wc_block ?_
        refine wc_seq ?_
        refine wc_region ?_   -- region 5
        refine wl_det rfl rfl (det_move rfl) rfl ?_
        refine wl_det rfl rfl (det_assign rfl) rfl ?_
        refine wl_nil ?_
        refine pn_then ?_
        refine wc_seq ?_
        obtain ⟨k6_p1, h⟩ := chk_some h
        refine wc_st (fun _ h => h.openF m0 k6_p1) ?_
        obtain ⟨k6_p3, h⟩ := chk_some h
        refine wc_st (fun _ h => h.openF (ms (ms m0)) k6_p3) ?_
        refine dx_region 9 [[], [], [0, 1], [0, 1, 2], [], [], [4, 5], [4, 5, 6], [0, 1, 2, 3, 4, 5, 6, 7]] mixed (ord := (.det 0 (.det 1 (.det 2 (.det 3 (.det 4 (.det 5 (.det 6 (.det 7 (.det 8 .done)))))))))) (by kernel_rfl) ?_   -- region 6
        refine hx_det rfl rfl rfl nofun (det_move rfl) rfl ?_
        refine hx_det rfl rfl rfl nofun (det_move rfl) rfl ?_
        refine hx_det rfl rfl rfl nofun (det_indexP rfl rfl (ms (ms m0)) k6_p1 (ms m0) un39 sz46) rfl ?_
        refine hx_det rfl rfl rfl nofun (det_loadP (off := 0) rfl (ms m0) (by rfl) (by rfl) (loaded_n (cells := [_, _, _, _, _]) ag46 sz46)) rfl ?_
        refine hx_det rfl rfl rfl nofun (det_move rfl) rfl ?_
        refine hx_det rfl rfl rfl nofun (det_move rfl) rfl ?_
        refine hx_det rfl rfl rfl nofun (det_indexP rfl rfl (ms (ms (ms m0))) k6_p3 m0 un39 sz46) rfl ?_
        refine hx_det rfl rfl rfl nofun (det_loadP (off := 0) rfl m0 (by rfl) (by rfl) (loaded_n (cells := [_, _, _, _, _]) ag46 sz46)) rfl ?_
        refine hx_det rfl rfl rfl nofun (det_neqS [_, _, _, _, _] [_, _, _, _, _] eq46 rfl rfl rfl rfl) rfl ?_
        refine hx_end ?_
        refine wl_nil ?_
        refine pn_then ?_
        refine wc_cond rfl (fun c24 => ?_) (fun c24 => ?_)
        · have h := ifT h c24
          refine wc_seq ?_
          refine wc_region ?_   -- region 7
          refine wl_det rfl rfl (det_assign rfl) rfl ?_
          refine wl_nil ?_
          refine pn_then ?_
          refine wc_ret ?_
          refine pr_block ?_
          refine pr_then ?_
          refine pr_then ?_
          refine pr_block ?_
          refine pr_then ?_
          replace h := Option.some.inj h
          subst h
          replace g12 := nextR g12
          subst g12
          have h := (elimL ho12)
          replace h := Option.some.inj h
          subst h
          have h := (elimR ho8)
          replace h := Option.some.inj h
          subst h
          refine pn_ret (vs := [_]) rfl ⟨rfl, trivial⟩ ⟨rfl, rfl, rfl⟩ (fun _ h => h.to trivial trivial)
        · have h := ifF h c24
          refine wc_skip ?_
          refine pn_block ?_
          refine pn_then ?_
          refine wc_region ?_   -- region 8
          refine wl_det rfl rfl (det_add rfl rfl) rfl ?_
          refine wl_det rfl rfl (det_move rfl) rfl ?_
          refine wl_nil ?_
          replace h := Option.some.inj h
          subst h
          exact pn_some (k12, (w64 (s12 + 1)), ()) ⟨nextL g12, Nat.lt_succ_self _⟩ ⟨rfl, rfl, rfl, rfl, trivial⟩ (fun _ h => h.to trivial ⟨(ms (ms m0)), ⟨(ms (ms (ms m0))), trivial⟩⟩)
      · have h := ifF h c16
        refine wc_exit ?_
        refine px_then ?_
        refine px_then ?_
        refine px_block ?_
        replace h := Option.some.inj h
        subst h
        replace g12 := nextR g12
        subst g12
        have h := (elimR ho12)
        replace h := Option.some.inj h
        subst h
        exact pn_meetG ((), ()) rfl trivial (fun _ h => h.to trivial trivial)
    rintro ⟨s8, _⟩ e8
    dsimp only at e8 ⊢
    subst e8
    have h := (elimL ho8)
    refine wc_seq ?_
    refine wc_region ?_   -- region 9
    refine wl_det rfl rfl (det_assign rfl) rfl ?_
    refine wl_nil ?_
    refine pn_then ?_
    refine wc_ret ?_
    replace h := Option.some.inj h
    subst h
    refine pn_ret (vs := [_]) rfl ⟨rfl, trivial⟩ ⟨rfl, rfl, rfl⟩ (fun _ h => h.to trivial trivial)
def Q_treatylaw38_awake (r : Bool) : Value → List Ent → List Fact → Prop := fun v θ κ => v = .bool r ∧ θ = [] ∧ κ = []
theorem plains_treatylaw38_awake {r : Bool} : ∀ v θ κ, Q_treatylaw38_awake r v θ κ → Plains θ := by
  rintro _ _ _ ⟨rfl, rfl, rfl⟩
  exact trivial
set_option maxHeartbeats 4000000 in
set_option maxRecDepth 100000 in
theorem W_treatylaw38_awake (r : Bool) (h : treatylaw38_awake = some r) : Spec Try.prog 23 [] [] [] (Q_treatylaw38_awake r) := by
  unfold treatylaw38_awake at h
  refine spec_of (σ := []) Try.func23 rfl rfl rfl rfl ?_
  intro C
  refine wc_seq ?_
  refine wc_region ?_   -- region 0
  refine wl_det rfl rfl (det_assign rfl) rfl ?_
  refine wl_nil ?_
  refine pn_then ?_
  refine wc_seq ?_
  refine wc_region ?_   -- region 1
  refine wl_det rfl rfl (det_build (cs := [_, _, _]) pl48 zr48 rfl rfl (by rfl)) rfl ?_
  refine wl_det rfl rfl (det_build (cs := [_, _, _]) pl48 zr48 rfl rfl (by rfl)) rfl ?_
  refine wl_det rfl rfl (det_build (cs := [_, _, _]) pl48 zr48 rfl rfl (by rfl)) rfl ?_
  refine wl_act (act_litS lGMutual (vs := [_, _, _]) (cs := [_, _, _, _, _, _, _, _, _]) [(GMutual.mk 1 30 10), (GMutual.mk 2 0 20), (GMutual.mk 3 40 0)] un36 in48 rfl rfl rfl rfl rfl ⟨rfl, rfl, rfl, trivial⟩ (by rfl) rfl (litR_flat rfl)) rfl rfl rfl ?_
  rintro _ _ _ ⟨A1_3, rfl, rfl, rfl⟩
  obtain ⟨r1_4, hr1_4, h⟩ := bind_some h
  refine wl_act (act_callL (cap := []) [eS lGMutual 48 A1_3 3 3 [(GMutual.mk 1 30 10), (GMutual.mk 2 0 20), (GMutual.mk 3 40 0)]] (W_insolvency_Distribute 10 [(GMutual.mk 1 30 10), (GMutual.mk 2 0 20), (GMutual.mk 3 40 0)] A1_3 3 3 r1_4 hr1_4) plains_insolvency_Distribute rfl rfl rfl bd27 rfl ⟨m0, trivial⟩ ⟨.inr ⟨_, m0, lent_eS⟩, trivial⟩) rfl rfl rfl ?_
  rintro _ _ _ ⟨_, _, ⟨y1_4A0, y1_4n0, y1_4c0, rfl, rfl, rfl⟩, rfl, rfl⟩
  dsimp only [List.nil_append, List.cons_append]
  refine wl_know (fun _ h => h.lenO m0) (fun e => ?_)
  subst e
  refine wl_det rfl rfl (det_move rfl) rfl ?_
  refine wl_det rfl rfl (det_extract rfl rfl) rfl ?_
  refine wl_det rfl rfl (det_extract rfl rfl) rfl ?_
  refine wl_det rfl rfl (det_extract rfl rfl) rfl ?_
  refine wl_det rfl rfl (det_assign rfl) rfl ?_
  refine wl_det rfl rfl (det_assign rfl) rfl ?_
  refine wl_det rfl rfl (det_assign rfl) rfl ?_
  refine wl_nil ?_
  refine pn_then ?_
  refine wc_seq ?_
  refine wc_region ?_   -- region 2
  refine wl_det rfl rfl (det_move rfl) rfl ?_
  refine wl_det rfl rfl (det_eql rfl rfl) rfl ?_
  refine wl_det rfl rfl (det_move rfl) rfl ?_
  refine wl_way (decide (r1_4.2.2 = 0)) ((decide (r1_4.2.2 = 0)) && (decide (r1_4.2.1 = 0))) 3 18 (fun hg => ?_) (fun hg => ?_) ?_
  · have hg2_5 := hg
    refine wl_on rfl rfl rfl rfl hg2_5 ?_
    refine wl_det rfl rfl (det_move rfl) rfl ?_
    refine wl_on rfl rfl rfl rfl hg2_5 ?_
    refine wl_det rfl rfl (det_eql rfl rfl) rfl ?_
    refine wl_det rfl rfl (det_and_on rfl rfl rfl hg2_5) rfl ?_
    exact wl_nil (pn_qnE (ext_cons rfl (ext_skip rfl (ext_skip rfl (ext_skip rfl ext_refl)))) (fun _ h => h))
  · have hg2_5a := hg
    refine wl_off rfl rfl rfl rfl rfl hg2_5a rfl ?_
    refine wl_off rfl rfl rfl rfl rfl hg2_5a rfl ?_
    refine wl_det rfl rfl (det_and_off (q := (decide (r1_4.2.1 = 0))) rfl rfl rfl hg2_5a) rfl ?_
    exact wl_nil (pn_qnE (ext_cons rfl (ext_skip rfl (ext_skip rfl (ext_skip rfl ext_refl)))) (fun _ h => h))
  refine wl_det rfl rfl (det_move rfl) rfl ?_
  obtain ⟨q2_13, hq2_13, h⟩ := bind_some h
  have ho2_13 := h
  refine wl_way ((decide (r1_4.2.2 = 0)) && (decide (r1_4.2.1 = 0))) q2_13 7 26 (fun hg => ?_) (fun hg => ?_) ?_
  · have hg2_13 := hg
    have h := ifT hq2_13 hg
    refine wl_on rfl rfl rfl rfl hg2_13 ?_
    refine wl_det rfl rfl (det_move rfl) rfl ?_
    refine wl_on rfl rfl rfl rfl hg2_13 ?_
    refine wl_det rfl rfl (det_build (cs := [_, _, _, _, _]) pl46 zr46 rfl rfl (by rfl)) rfl ?_
    refine wl_on rfl rfl rfl rfl hg2_13 ?_
    refine wl_det rfl rfl (det_build (cs := [_, _, _, _, _]) pl46 zr46 rfl rfl (by rfl)) rfl ?_
    refine wl_on rfl rfl rfl rfl hg2_13 ?_
    refine wl_det rfl rfl (det_build (cs := [_, _, _, _, _]) pl46 zr46 rfl rfl (by rfl)) rfl ?_
    refine wl_on rfl rfl rfl rfl hg2_13 ?_
    refine wl_act (act_litS lGDividend (vs := [_, _, _]) (cs := [_, _, _, _, _, _, _, _, _, _, _, _, _, _, _]) [(GDividend.mk 1 10 10 0 10), (GDividend.mk 2 0 0 20 0), (GDividend.mk 3 0 20 0 20)] un39 in46 rfl rfl rfl rfl rfl ⟨rfl, rfl, rfl, trivial⟩ (by rfl) rfl (litR_flat rfl)) rfl rfl rfl ?_
    rintro _ _ _ ⟨A2_11, rfl, rfl, rfl⟩
    refine wl_on rfl rfl rfl rfl hg2_13 ?_
    obtain ⟨r2_12, hr2_12, h⟩ := bind_some h
    refine wl_act (act_callL (cap := []) [eS lGDividend 46 y1_4A0 r1_4.1.length y1_4c0 r1_4.1, eS lGDividend 46 A2_11 3 3 [(GDividend.mk 1 10 10 0 10), (GDividend.mk 2 0 0 20 0), (GDividend.mk 3 0 20 0 20)]] (W_treatyref33_SameDividends r1_4.1 [(GDividend.mk 1 10 10 0 10), (GDividend.mk 2 0 0 20 0), (GDividend.mk 3 0 20 0 20)] y1_4A0 r1_4.1.length y1_4c0 A2_11 3 3 r2_12 hr2_12) plains_treatyref33_SameDividends rfl rfl rfl bd29 rfl ⟨(ms m0), ⟨m0, trivial⟩⟩ ⟨.inr ⟨_, m0, lent_eS⟩, ⟨.inr ⟨_, (ms m0), lent_eS⟩, trivial⟩⟩) rfl rfl rfl ?_
    rintro _ _ _ ⟨_, _, ⟨rfl, rfl, rfl⟩, rfl, rfl⟩
    dsimp only [List.nil_append, List.cons_append]
    replace h := Option.some.inj h
    subst h
    refine wl_det rfl rfl (det_pick_on rfl hg2_13 rfl rfl) rfl ?_
    exact wl_nil (pn_qnE (ext_cons rfl (ext_skip rfl (ext_skip rfl (ext_skip rfl (ext_skip rfl (ext_skip rfl (ext_skip rfl (ext_skip rfl ext_refl)))))))) (fun _ h => h.to ⟨_, (rs r0), ⟨_, (rs r0), trivial⟩⟩ trivial))
  · have hg2_13a := hg
    have h := ifF hq2_13 hg
    refine wl_off rfl rfl rfl rfl rfl hg2_13a rfl ?_
    refine wl_off rfl rfl rfl rfl rfl hg2_13a rfl ?_
    refine wl_off rfl rfl rfl rfl rfl hg2_13a rfl ?_
    refine wl_off rfl rfl rfl rfl rfl hg2_13a rfl ?_
    refine wl_off rfl rfl rfl rfl rfl hg2_13a rfl ?_
    refine wl_off rfl rfl rfl rfl rfl hg2_13a rfl ?_
    replace h := Option.some.inj h
    subst h
    refine wl_det rfl rfl (det_pick_off rfl hg2_13a rfl rfl) rfl ?_
    exact wl_nil (pn_qnE (ext_cons rfl (ext_skip rfl (ext_skip rfl (ext_skip rfl (ext_skip rfl (ext_skip rfl (ext_skip rfl (ext_skip rfl ext_refl)))))))) (fun _ h => h))
  have h := ho2_13
  refine wl_det rfl rfl (det_assign rfl) rfl ?_
  refine wl_nil ?_
  refine pn_then ?_
  refine wc_ret ?_
  replace h := Option.some.inj h
  subst h
  refine pn_ret (vs := [_]) rfl ⟨rfl, trivial⟩ ⟨rfl, rfl, rfl⟩ (fun _ h => h.to trivial trivial)
def Q_treatymade_New (r : GDeck) : Value → List Ent → List Fact → Prop := fun v θ κ => ∃ (pb0 : Nat), ∃ (pA1 : Option Addr), ∃ (pn1 : Nat), ∃ (pc1 : Nat), v = .pointer (some ⟨pb0, 0, none⟩) ∧ θ = [eBlk pb0 67 [.slice pA1 pn1 pc1, .int .i64 r.At]] ∧ κ = [fV (lSlice (lInt .i64)) (.slice pA1 pn1 pc1) r.L]
set_option maxHeartbeats 4000000 in
set_option maxRecDepth 100000 in
theorem W_treatymade_New (a0 : (List Int)) (A0 : Option Addr) (n0 : Nat) (c0 : Nat) (r : GDeck) (h : treatymade_New a0 = some r) : Spec Try.prog 18 [.slice A0 n0 c0] [] [fV (lSlice (lInt .i64)) (.slice A0 n0 c0) a0] (Q_treatymade_New r) := by
  unfold treatymade_New at h
  refine spec_of (σ := [(0, _)]) Try.func18 rfl rfl rfl rfl ?_
  intro C
  refine wc_know (fun _ h => h.lenF m0) (fun e => ?_)
  subst e
  refine wc_seq ?_
  refine wc_region ?_   -- region 0
  refine wl_det rfl rfl (det_assign rfl) rfl ?_
  refine wl_nil ?_
  refine pn_then ?_
  refine wc_seq ?_
  refine wc_region ?_   -- region 1
  refine wl_det rfl rfl (det_move rfl) rfl ?_
  refine wl_det rfl rfl (det_build (cs := [_, _]) pl67 zr67 rfl rfl (by rfl)) rfl ?_
  refine wl_act (act_box (cs := [_, _]) rfl rfl) rfl rfl rfl ?_
  rintro _ _ _ ⟨b1_2, rfl, rfl, rfl⟩
  refine wl_det rfl rfl (det_assign rfl) rfl ?_
  refine wl_nil ?_
  refine pn_then ?_
  refine wc_ret ?_
  replace h := Option.some.inj h
  subst h
  refine pn_ret (vs := [_]) rfl ⟨rfl, trivial⟩ ⟨b1_2, A0, a0.length, c0, rfl, rfl, rfl⟩ (fun _ h => h.to ⟨_, r0, trivial⟩ ⟨m0, trivial⟩)
def Q_treatymade2_New (r : GDeck) : Value → List Ent → List Fact → Prop := fun v θ κ => ∃ (pb0 : Nat), ∃ (pA1 : Option Addr), ∃ (pn1 : Nat), ∃ (pc1 : Nat), v = .pointer (some ⟨pb0, 0, none⟩) ∧ θ = [eBlk pb0 67 [.slice pA1 pn1 pc1, .int .i64 r.At]] ∧ κ = [fV (lSlice (lInt .i64)) (.slice pA1 pn1 pc1) r.L]
set_option maxHeartbeats 4000000 in
set_option maxRecDepth 100000 in
theorem W_treatymade2_New (a0 : (List Int)) (A0 : Option Addr) (n0 : Nat) (c0 : Nat) (r : GDeck) (h : treatymade2_New a0 = some r) : Spec Try.prog 24 [.slice A0 n0 c0] [] [fV (lSlice (lInt .i64)) (.slice A0 n0 c0) a0] (Q_treatymade2_New r) := by
  unfold treatymade2_New at h
  refine spec_of (σ := [(0, _)]) Try.func24 rfl rfl rfl rfl ?_
  intro C
  refine wc_know (fun _ h => h.lenF m0) (fun e => ?_)
  subst e
  refine wc_seq ?_
  refine wc_region ?_   -- region 0
  refine wl_det rfl rfl (det_assign rfl) rfl ?_
  refine wl_nil ?_
  refine pn_then ?_
  refine wc_seq ?_
  refine wc_region ?_   -- region 1
  refine wl_det rfl rfl (det_move rfl) rfl ?_
  obtain ⟨r1_1, hr1_1, h⟩ := bind_some h
  refine wl_act (act_callS (cap := []) (W_treatymade_New a0 A0 a0.length c0 r1_1 hr1_1) rfl rfl rfl bd18 rfl ⟨m0, trivial⟩) rfl rfl rfl ?_
  rintro _ _ _ ⟨_, _, ⟨y1_1b0, y1_1A1, y1_1n1, y1_1c1, rfl, rfl, rfl⟩, rfl, rfl⟩
  dsimp only [List.nil_append, List.cons_append]
  refine wl_know (fun _ h => h.lenF m0) (fun e => ?_)
  subst e
  refine wl_det rfl rfl (det_assign rfl) rfl ?_
  refine wl_nil ?_
  refine pn_then ?_
  refine wc_ret ?_
  replace h := Option.some.inj h
  subst h
  refine pn_ret (vs := [_]) rfl ⟨rfl, trivial⟩ ⟨y1_1b0, y1_1A1, r1_1.L.length, y1_1c1, rfl, rfl, rfl⟩ (fun _ h => h.to ⟨_, r0, trivial⟩ ⟨m0, trivial⟩)
def Q_treatymade_Deck_Next (Ba0 : Nat) (r : Int × GDeck) : Value → List Ent → List Fact → Prop := fun v θ κ => ∃ (pA0 : Option Addr), ∃ (pn0 : Nat), ∃ (pc0 : Nat), v = .int .i64 r.1 ∧ θ = [eBlk Ba0 67 [.slice pA0 pn0 pc0, .int .i64 r.2.At]] ∧ κ = [fV (lSlice (lInt .i64)) (.slice pA0 pn0 pc0) r.2.L]
set_option maxHeartbeats 4000000 in
set_option maxRecDepth 100000 in
theorem W_treatymade_Deck_Next (a0 : GDeck) (a1 : Int) (Ba0 : Nat) (A1 : Option Addr) (n1 : Nat) (c1 : Nat) (r : Int × GDeck) (h : treatymade_Deck_Next a0 a1 = some r) : Spec Try.prog 41 [.pointer (some ⟨Ba0, 0, none⟩), .int .i64 a1] [eBlk Ba0 67 [.slice A1 n1 c1, .int .i64 a0.At]] [fV (lSlice (lInt .i64)) (.slice A1 n1 c1) a0.L] (Q_treatymade_Deck_Next Ba0 r) := by
  unfold treatymade_Deck_Next at h
  refine spec_of (σ := [(0, _), (1, _)]) Try.func41 rfl rfl rfl rfl ?_
  intro C
  refine wc_know (fun _ h => h.lenF m0) (fun e => ?_)
  subst e
  refine wc_seq ?_
  refine wc_region ?_   -- region 0
  refine wl_det rfl rfl (det_assign rfl) rfl ?_
  refine wl_nil ?_
  refine pn_then ?_
  refine wc_seq ?_
  refine wc_seq ?_
  refine dx_region 10 [[], [0], [0, 1], [0, 1, 2], [], [4], [4, 5], [4, 5, 6], [4, 5, 6, 7], [0, 1, 2, 3, 4, 5, 6, 7, 8]] mixed (ord := (.det 0 (.det 1 (.det 2 (.det 3 (.det 4 (.det 5 (.det 6 (.det 7 (.det 8 (.det 9 .done))))))))))) (by kernel_rfl) ?_   -- region 1
  refine hx_det rfl rfl rfl nofun (det_move rfl) rfl ?_
  refine hx_det rfl rfl rfl nofun (det_nilCheckB rfl) rfl ?_
  refine hx_det rfl rfl rfl nofun (det_field rfl fd67_1 rfl) rfl ?_
  refine hx_det rfl rfl rfl nofun (det_load rfl m0 (by rfl) na3 us3) rfl ?_
  refine hx_det rfl rfl rfl nofun (det_move rfl) rfl ?_
  refine hx_det rfl rfl rfl nofun (det_nilCheckB rfl) rfl ?_
  refine hx_det rfl rfl rfl nofun (det_field rfl fd67_0 rfl) rfl ?_
  refine hx_det rfl rfl rfl nofun (det_load rfl m0 (by rfl) na22 us22) rfl ?_
  refine hx_det rfl rfl rfl nofun (det_len rfl un22) rfl ?_
  refine hx_det rfl rfl rfl nofun (det_geq rfl rfl) rfl ?_
  refine hx_end ?_
  refine wl_nil ?_
  refine pn_then ?_
  refine wc_cond rfl (fun c5 => ?_) (fun c5 => ?_)
  · have h := ifT h c5
    refine wc_seq ?_
    refine wc_region ?_   -- region 2
    refine wl_det rfl rfl (det_assign rfl) rfl ?_
    refine wl_nil ?_
    refine pn_then ?_
    refine wc_ret ?_
    refine pr_then ?_
    replace h := Option.some.inj h
    subst h
    refine pn_ret (vs := [_]) rfl ⟨rfl, trivial⟩ ⟨A1, a0.L.length, c1, rfl, rfl, rfl⟩ (fun _ h => h.to ⟨_, r0, trivial⟩ ⟨m0, trivial⟩)
  · have h := ifF h c5
    refine wc_skip ?_
    refine pn_then ?_
    refine wc_seq ?_
    refine wc_region ?_   -- region 3
    refine wl_det rfl rfl (det_move rfl) rfl ?_
    refine wl_det rfl rfl (det_nilCheckB rfl) rfl ?_
    refine wl_det rfl rfl (det_field rfl fd67_1 rfl) rfl ?_
    refine wl_det rfl rfl (det_load rfl m0 (by rfl) na3 us3) rfl ?_
    refine wl_det rfl rfl (det_add rfl rfl) rfl ?_
    refine wl_det rfl rfl (det_nilCheckB rfl) rfl ?_
    refine wl_det rfl rfl (det_field rfl fd67_1 rfl) rfl ?_
    refine wl_act0 (act_store (cells := [_]) (cs' := [_, _]) rfl rfl rfl s0 (by rfl) (of_decide_eq_true rfl) sz3 ⟨rfl, trivial⟩) rfl rfl ?_
    rintro _ _ _ ⟨rfl, rfl⟩
    refine wl_nil ?_
    refine pn_then ?_
    refine wc_seq ?_
    obtain ⟨k4_p1, h⟩ := chk_some h
    refine wc_st (fun _ h => h.openF m0 k4_p1) ?_
    obtain ⟨k4_p3, h⟩ := chk_some h
    refine dx_region 17 [[], [0], [0, 1], [0, 1, 2], [], [4], [4, 5], [4, 5, 6], [4, 5, 6, 7], [0, 1, 2, 3, 4, 5, 6, 7, 8], [0, 1, 2, 3, 4, 5, 6, 7, 8, 9], [], [0, 1, 2, 3, 4, 5, 6, 7, 8, 9, 10, 11], [], [0, 1, 2, 3, 4, 5, 6, 7, 8, 9, 10, 11, 12, 13], [], [0, 1, 2, 3, 4, 5, 6, 7, 8, 9, 10, 11, 12, 13, 14, 15], [0, 1, 2, 3, 4, 5, 6, 7, 8, 9, 10, 11, 12, 13, 14, 15, 16]] mixed (ord := (.det 0 (.det 1 (.det 2 (.det 3 (.det 4 (.det 5 (.det 6 (.det 7 (.det 8 (.det 9 (.det 10 (.det 11 (.det 12 (.det 13 (.det 14 (.det 15 (.det 16 .done)))))))))))))))))) (by kernel_rfl) ?_   -- region 4
    refine hx_det rfl rfl rfl nofun (det_move rfl) rfl ?_
    refine hx_det rfl rfl rfl nofun (det_nilCheckB rfl) rfl ?_
    refine hx_det rfl rfl rfl nofun (det_field rfl fd67_0 rfl) rfl ?_
    refine hx_det rfl rfl rfl nofun (det_load rfl m0 (by rfl) na22 us22) rfl ?_
    refine hx_det rfl rfl rfl nofun (det_move rfl) rfl ?_
    refine hx_det rfl rfl rfl nofun (det_nilCheckB rfl) rfl ?_
    refine hx_det rfl rfl rfl nofun (det_field rfl fd67_1 rfl) rfl ?_
    refine hx_det rfl rfl rfl nofun (det_load rfl m0 (by rfl) na3 us3) rfl ?_
    refine hx_det rfl rfl rfl nofun (det_sub rfl rfl) rfl ?_
    refine hx_det rfl rfl rfl nofun (det_indexP rfl rfl (ms m0) k4_p1 m0 un22 sz3) rfl ?_
    refine hx_det rfl rfl rfl nofun (det_loadP (off := 0) rfl m0 (by rfl) (by rfl) (loaded_1 na3 us3)) rfl ?_
    refine hx_det rfl rfl rfl nofun (det_move rfl) rfl ?_
    refine hx_det rfl rfl rfl nofun (det_remB rfl rfl k4_p3) rfl ?_
    refine hx_det rfl rfl rfl nofun (det_move rfl) rfl ?_
    refine hx_det rfl rfl rfl nofun (det_add rfl rfl) rfl ?_
    refine hx_det rfl rfl rfl nofun (det_move rfl) rfl ?_
    refine hx_det rfl rfl rfl nofun (det_remB rfl rfl k4_p3) rfl ?_
    refine hx_end ?_
    refine wl_det rfl rfl (det_assign rfl) rfl ?_
    refine wl_nil ?_
    refine pn_then ?_
    refine wc_ret ?_
    replace h := Option.some.inj h
    subst h
    refine pn_ret (vs := [_]) rfl ⟨rfl, trivial⟩ ⟨A1, a0.L.length, c1, rfl, rfl, rfl⟩ (fun _ h => h.to ⟨_, r0, trivial⟩ ⟨(ms m0), trivial⟩)
def Q_treatymade2_Small (Ba0 : Nat) (r : Int × GDeck) : Value → List Ent → List Fact → Prop := fun v θ κ => ∃ (pA0 : Option Addr), ∃ (pn0 : Nat), ∃ (pc0 : Nat), v = .int .i64 r.1 ∧ θ = [eBlk Ba0 67 [.slice pA0 pn0 pc0, .int .i64 r.2.At]] ∧ κ = [fV (lSlice (lInt .i64)) (.slice pA0 pn0 pc0) r.2.L]
set_option maxHeartbeats 4000000 in
set_option maxRecDepth 100000 in
theorem W_treatymade2_Small (a0 : GDeck) (Ba0 : Nat) (A1 : Option Addr) (n1 : Nat) (c1 : Nat) (r : Int × GDeck) (h : treatymade2_Small a0 = some r) : Spec Try.prog 26 [.pointer (some ⟨Ba0, 0, none⟩)] [eBlk Ba0 67 [.slice A1 n1 c1, .int .i64 a0.At]] [fV (lSlice (lInt .i64)) (.slice A1 n1 c1) a0.L] (Q_treatymade2_Small Ba0 r) := by
  unfold treatymade2_Small at h
  refine spec_of (σ := [(0, _)]) Try.func26 rfl rfl rfl rfl ?_
  intro C
  refine wc_know (fun _ h => h.lenF m0) (fun e => ?_)
  subst e
  refine wc_seq ?_
  refine wc_region ?_   -- region 0
  refine wl_det rfl rfl (det_assign rfl) rfl ?_
  refine wl_nil ?_
  refine pn_then ?_
  refine wc_seq ?_
  refine wc_seq ?_
  refine wc_region ?_   -- region 1
  refine wl_det rfl rfl (det_move rfl) rfl ?_
  obtain ⟨r1_1, hr1_1, h⟩ := bind_some h
  refine wl_act (act_callS (cap := []) (W_treatymade_Deck_Next a0 4 Ba0 A1 a0.L.length c1 r1_1 hr1_1) rfl rfl rfl bd41 ⟨_, r0, rfl⟩ ⟨m0, trivial⟩) rfl rfl rfl ?_
  rintro _ _ _ ⟨_, _, ⟨y1_1A0, y1_1n0, y1_1c0, rfl, rfl, rfl⟩, rfl, rfl⟩
  dsimp only [List.nil_append, List.cons_append]
  refine wl_know (fun _ h => h.lenF m0) (fun e => ?_)
  subst e
  refine wl_nil ?_
  refine pn_then ?_
  refine wc_block ?_
  refine wc_seq ?_
  refine wc_region ?_   -- region 2
  refine wl_det rfl rfl (det_eql rfl rfl) rfl ?_
  refine wl_det rfl rfl (det_assign rfl) rfl ?_
  refine wl_nil ?_
  refine pn_then ?_
  refine wc_cond rfl (fun c8 => ?_) (fun c8 => ?_)
  · have h := ifT h c8
    refine wc_seq ?_
    refine wc_region ?_   -- region 3
    refine wl_det rfl rfl (det_move rfl) rfl ?_
    obtain ⟨r3_1, hr3_1, h⟩ := bind_some h
    refine wl_act (act_callS (cap := []) (W_treatymade_Deck_Next r1_1.2 4 Ba0 y1_1A0 r1_1.2.L.length y1_1c0 r3_1 hr3_1) rfl rfl rfl bd41 ⟨_, r0, rfl⟩ ⟨m0, trivial⟩) rfl rfl rfl ?_
    rintro _ _ _ ⟨_, _, ⟨y3_1A0, y3_1n0, y3_1c0, rfl, rfl, rfl⟩, rfl, rfl⟩
    dsimp only [List.nil_append, List.cons_append]
    refine wl_know (fun _ h => h.lenF m0) (fun e => ?_)
    subst e
    refine wl_det rfl rfl (det_assign rfl) rfl ?_
    refine wl_nil ?_
    refine pn_then ?_
    refine wc_ret ?_
    refine pr_block ?_
    refine pr_then ?_
    replace h := Option.some.inj h
    subst h
    refine pn_ret (vs := [_]) rfl ⟨rfl, trivial⟩ ⟨y3_1A0, r3_1.2.L.length, y3_1c0, rfl, rfl, rfl⟩ (fun _ h => h.to ⟨_, r0, trivial⟩ ⟨m0, trivial⟩)
  · have h := ifF h c8
    obtain ⟨q11, h, ho11⟩ := bind_some h
    refine wc_meetG (G := Bool × Unit) (fun (s11, _) => s11 = q11) (fun (s11, _) => [(0, .pointer (some ⟨Ba0, 0, none⟩)), (9, .bool s11)]) (fun (_, _) => [eBlk Ba0 67 [.slice y1_1A0 r1_1.2.L.length y1_1c0, .int .i64 r1_1.2.At]]) (fun (_, _) => [fV (lSlice (lInt .i64)) (.slice y1_1A0 r1_1.2.L.length y1_1c0) r1_1.2.L]) ?_ ?_
    · refine wc_seq ?_
      refine wc_region ?_   -- region 4
      refine wl_det rfl rfl (det_eql rfl rfl) rfl ?_
      refine wl_det rfl rfl (det_assign rfl) rfl ?_
      refine wl_nil ?_
      refine pn_then ?_
      refine wc_cond rfl (fun c14 => ?_) (fun c14 => ?_)
      · have h := ifT h c14
        refine wc_skip ?_
        replace h := Option.some.inj h
        subst h
        exact pn_meetG ((decide (r1_1.1 = 1)), ()) rfl ⟨rfl, rfl, trivial⟩ (fun _ h => h.to ⟨_, r0, trivial⟩ ⟨m0, trivial⟩)
      · have h := ifF h c14
        refine wc_region ?_   -- region 5
        refine wl_det rfl rfl (det_eql rfl rfl) rfl ?_
        refine wl_det rfl rfl (det_assign rfl) rfl ?_
        refine wl_nil ?_
        replace h := Option.some.inj h
        subst h
        exact pn_meetG ((decide (r1_1.1 = 2)), ()) rfl ⟨rfl, rfl, trivial⟩ (fun _ h => h.to ⟨_, r0, trivial⟩ ⟨m0, trivial⟩)
    rintro ⟨s11, _⟩ e11
    dsimp only at e11 ⊢
    subst e11
    have h := ho11
    refine wc_cond rfl (fun c16 => ?_) (fun c16 => ?_)
    · have h := ifT h c16
      refine wc_seq ?_
      refine wc_region ?_   -- region 6
      refine wl_det rfl rfl (det_move rfl) rfl ?_
      obtain ⟨r6_1, hr6_1, h⟩ := bind_some h
      refine wl_act (act_callS (cap := []) (W_treatymade_Deck_Next r1_1.2 1000 Ba0 y1_1A0 r1_1.2.L.length y1_1c0 r6_1 hr6_1) rfl rfl rfl bd41 ⟨_, r0, rfl⟩ ⟨m0, trivial⟩) rfl rfl rfl ?_
      rintro _ _ _ ⟨_, _, ⟨y6_1A0, y6_1n0, y6_1c0, rfl, rfl, rfl⟩, rfl, rfl⟩
      dsimp only [List.nil_append, List.cons_append]
      refine wl_know (fun _ h => h.lenF m0) (fun e => ?_)
      subst e
      refine wl_det rfl rfl (det_assign rfl) rfl ?_
      refine wl_nil ?_
      refine pn_then ?_
      refine wc_ret ?_
      refine pr_block ?_
      refine pr_then ?_
      replace h := Option.some.inj h
      subst h
      refine pn_ret (vs := [_]) rfl ⟨rfl, trivial⟩ ⟨y6_1A0, r6_1.2.L.length, y6_1c0, rfl, rfl, rfl⟩ (fun _ h => h.to ⟨_, r0, trivial⟩ ⟨m0, trivial⟩)
    · have h := ifF h c16
      refine wc_skip ?_
      refine pn_block ?_
      refine pn_then ?_
      refine wc_seq ?_
      refine wc_region ?_   -- region 7
      refine wl_det rfl rfl (det_move rfl) rfl ?_
      obtain ⟨r7_1, hr7_1, h⟩ := bind_some h
      refine wl_act (act_callS (cap := []) (W_treatymade_Deck_Next r1_1.2 268435456 Ba0 y1_1A0 r1_1.2.L.length y1_1c0 r7_1 hr7_1) rfl rfl rfl bd41 ⟨_, r0, rfl⟩ ⟨m0, trivial⟩) rfl rfl rfl ?_
      rintro _ _ _ ⟨_, _, ⟨y7_1A0, y7_1n0, y7_1c0, rfl, rfl, rfl⟩, rfl, rfl⟩
      dsimp only [List.nil_append, List.cons_append]
      refine wl_know (fun _ h => h.lenF m0) (fun e => ?_)
      subst e
      refine wl_det rfl rfl (det_assign rfl) rfl ?_
      refine wl_nil ?_
      refine pn_then ?_
      refine wc_ret ?_
      replace h := Option.some.inj h
      subst h
      refine pn_ret (vs := [_]) rfl ⟨rfl, trivial⟩ ⟨y7_1A0, r7_1.2.L.length, y7_1c0, rfl, rfl, rfl⟩ (fun _ h => h.to ⟨_, r0, trivial⟩ ⟨m0, trivial⟩)
def Q_treatymade2_Mutuals (Ba0 : Nat) (r : (List GMutual) × GDeck) : Value → List Ent → List Fact → Prop := fun v θ κ => ∃ (pA0 : Option Addr), ∃ (pn0 : Nat), ∃ (pc0 : Nat), ∃ (pA1 : Option Addr), ∃ (pn1 : Nat), ∃ (pc1 : Nat), v = .slice pA0 pn0 pc0 ∧ θ = [eS lGMutual 48 pA0 pn0 pc0 r.1, eBlk Ba0 67 [.slice pA1 pn1 pc1, .int .i64 r.2.At]] ∧ κ = [fV (lSlice (lInt .i64)) (.slice pA1 pn1 pc1) r.2.L]
set_option maxHeartbeats 4000000 in
set_option maxRecDepth 100000 in
theorem W_treatymade2_Mutuals (a0 : GDeck) (Ba0 : Nat) (A1 : Option Addr) (n1 : Nat) (c1 : Nat) (r : (List GMutual) × GDeck) (h : treatymade2_Mutuals a0 = some r) : Spec Try.prog 25 [.pointer (some ⟨Ba0, 0, none⟩)] [eBlk Ba0 67 [.slice A1 n1 c1, .int .i64 a0.At]] [fV (lSlice (lInt .i64)) (.slice A1 n1 c1) a0.L] (Q_treatymade2_Mutuals Ba0 r) := by
  unfold treatymade2_Mutuals at h
  refine spec_of (σ := [(0, _)]) Try.func25 rfl rfl rfl rfl ?_
  intro C
  refine wc_know (fun _ h => h.lenF m0) (fun e => ?_)
  subst e
  refine wc_seq ?_
  refine wc_region ?_   -- region 0
  refine wl_det rfl rfl (det_assign rfl) rfl ?_
  refine wl_nil ?_
  refine pn_then ?_
  refine wc_seq ?_
  refine wc_region ?_   -- region 1
  refine wl_det rfl rfl (det_assign rfl) rfl ?_
  refine wl_nil ?_
  refine pn_then ?_
  refine wc_seq ?_
  refine wc_region ?_   -- region 2
  refine wl_det rfl rfl (det_assign rfl) rfl ?_
  refine wl_nil ?_
  refine pn_then ?_
  obtain ⟨q6, h, ho6⟩ := bind_some h
  refine wc_meetG (G := ((List Int) × Int × (List GMutual)) × Option Addr × Nat × Nat × Option Addr × Nat × Nat × Unit) (fun (s6, _, _, _, _, _, _, _) => s6 = q6) (fun (_, _, _, _, A6_3, n6_3, c6_3, _) => [(3, .slice A6_3 n6_3 c6_3)]) (fun (s6, A6_0, n6_0, c6_0, A6_3, n6_3, c6_3, _) => [eBlk Ba0 67 [.slice A6_0 n6_0 c6_0, .int .i64 s6.2.1], eS lGMutual 48 A6_3 n6_3 c6_3 s6.2.2]) (fun (s6, A6_0, n6_0, c6_0, _, _, _, _) => [fV (lSlice (lInt .i64)) (.slice A6_0 n6_0 c6_0) s6.1]) ?_ ?_
  · refine wc_seq ?_
    refine wc_region ?_   -- region 3
    refine wl_det rfl rfl (det_move rfl) rfl ?_
    obtain ⟨r3_1, hr3_1, h⟩ := bind_some h
    refine wl_act (act_callS (cap := []) (W_treatymade_Deck_Next a0 6 Ba0 A1 a0.L.length c1 r3_1 hr3_1) rfl rfl rfl bd41 ⟨_, r0, rfl⟩ ⟨m0, trivial⟩) rfl rfl rfl ?_
    rintro _ _ _ ⟨_, _, ⟨y3_1A0, y3_1n0, y3_1c0, rfl, rfl, rfl⟩, rfl, rfl⟩
    dsimp only [List.nil_append, List.cons_append]
    refine wl_know (fun _ h => h.lenF m0) (fun e => ?_)
    subst e
    refine wl_det rfl rfl (det_assign rfl) rfl ?_
    refine wl_nil ?_
    refine pn_then ?_
    refine wc_block ?_
    refine wc_st (fun _ h => h.zeroS lGMutual 48 none) ?_
    obtain ⟨k10, hk10⟩ := loopV_some.1 h
    refine wc_loop (G := Nat × ((List Int) × Int × (List GMutual) × Int × Int) × Option Addr × Nat × Nat × Option Addr × Nat × Nat × Unit) (fun g => IterN treatymade2_Mutuals_l10 g.1 g.2.1 q6) (fun g => g.1) (fun (_, s10, _, _, _, A10_3, n10_3, c10_3, _) => [(0, .pointer (some ⟨Ba0, 0, none⟩)), (3, .slice A10_3 n10_3 c10_3), (4, .int .i64 s10.2.2.2.1), (5, .int .i64 s10.2.2.2.2)]) (fun (_, s10, A10_0, n10_0, c10_0, A10_3, n10_3, c10_3, _) => [eBlk Ba0 67 [.slice A10_0 n10_0 c10_0, .int .i64 s10.2.1], eS lGMutual 48 A10_3 n10_3 c10_3 s10.2.2.1]) (fun (_, s10, A10_0, n10_0, c10_0, _, _, _, _) => [fV (lSlice (lInt .i64)) (.slice A10_0 n10_0 c10_0) s10.1]) (k10, (r3_1.2.L, r3_1.2.At, [], (-1), r3_1.1), y3_1A0, r3_1.2.L.length, y3_1c0, none, 0, 0, ()) hk10 ⟨rfl, rfl, rfl, rfl, trivial⟩ (fun _ h => h.to ⟨_, (rs r0), ⟨_, r0, trivial⟩⟩ ⟨m0, trivial⟩) ?_
    rintro ⟨k10, s10, A10_0, n10_0, c10_0, A10_3, n10_3, c10_3, _⟩ hI
    obtain ⟨k10, rfl, q10, h, g10⟩ := IterN.pos hI
    dsimp only at h ⊢
    unfold treatymade2_Mutuals_l10 at h
    refine wc_know (fun _ h => h.lenF m0) (fun e => ?_)
    subst e
    refine wc_know (fun _ h => h.lenO (ms m0)) (fun e => ?_)
    subst e
    refine wc_seq ?_
    refine wc_seq ?_
    refine wc_region ?_   -- region 4
    refine wl_det rfl rfl (det_move rfl) rfl ?_
    refine wl_det rfl rfl (det_gtr rfl rfl) rfl ?_
    refine wl_nil ?_
    refine pn_then ?_
    refine wc_cond rfl (fun c14 => ?_) (fun c14 => ?_)
    · have h := ifT h c14
      refine wc_skip ?_
      refine pn_then ?_
      obtain ⟨q16, h, ho16⟩ := bind_some h
      refine wc_meetG (G := ((List Int) × Int × (List GMutual) × Int) × Option Addr × Nat × Nat × Option Addr × Nat × Nat × Unit) (fun (s16, _, _, _, _, _, _, _) => s16 = q16) (fun (s16, _, _, _, A16_3, n16_3, c16_3, _) => [(0, .pointer (some ⟨Ba0, 0, none⟩)), (3, .slice A16_3 n16_3 c16_3), (4, .int .i64 s16.2.2.2), (5, .int .i64 s10.2.2.2.2)]) (fun (s16, A16_0, n16_0, c16_0, A16_3, n16_3, c16_3, _) => [eBlk Ba0 67 [.slice A16_0 n16_0 c16_0, .int .i64 s16.2.1], eS lGMutual 48 A16_3 n16_3 c16_3 s16.2.2.1]) (fun (s16, A16_0, n16_0, c16_0, _, _, _, _) => [fV (lSlice (lInt .i64)) (.slice A16_0 n16_0 c16_0) s16.1]) ?_ ?_
      · refine wc_block ?_
        refine wc_seq ?_
        refine wc_region ?_   -- region 6
        refine wl_det rfl rfl (det_move rfl) rfl ?_
        refine wl_det rfl rfl (det_move rfl) rfl ?_
        obtain ⟨r6_2, hr6_2, h⟩ := bind_some h
        refine wl_act (act_callS (cap := []) (W_treatymade_Deck_Next (GDeck.mk s10.1 s10.2.1) 3 Ba0 A10_0 s10.1.length c10_0 r6_2 hr6_2) rfl rfl rfl bd41 ⟨_, r0, rfl⟩ ⟨m0, trivial⟩) rfl rfl rfl ?_
        rintro _ _ _ ⟨_, _, ⟨y6_2A0, y6_2n0, y6_2c0, rfl, rfl, rfl⟩, rfl, rfl⟩
        dsimp only [List.nil_append, List.cons_append]
        refine wl_know (fun _ h => h.lenF m0) (fun e => ?_)
        subst e
        refine wl_det rfl rfl (det_add rfl rfl) rfl ?_
        refine wl_det rfl rfl (det_add rfl rfl) rfl ?_
        refine wl_det rfl rfl (det_assign rfl) rfl ?_
        refine wl_nil ?_
        refine pn_then ?_
        refine wc_seq ?_
        refine wc_region ?_   -- region 7
        refine wl_det rfl rfl (det_move rfl) rfl ?_
        refine wl_det rfl rfl (det_leq rfl rfl) rfl ?_
        refine wl_nil ?_
        refine pn_then ?_
        refine wc_cond rfl (fun c22 => ?_) (fun c22 => ?_)
        · have h := ifT h c22
          refine wc_region ?_   -- region 8
          refine wl_det rfl rfl (det_move rfl) rfl ?_
          refine wl_det rfl rfl (det_move rfl) rfl ?_
          refine wl_det rfl rfl (det_move rfl) rfl ?_
          obtain ⟨r8_3, hr8_3, h⟩ := bind_some h
          refine wl_act (act_callS (cap := []) (W_treatymade2_Small r6_2.2 Ba0 y6_2A0 r6_2.2.L.length y6_2c0 r8_3 hr8_3) rfl rfl rfl bd26 ⟨_, r0, rfl⟩ ⟨m0, trivial⟩) rfl rfl rfl ?_
          rintro _ _ _ ⟨_, _, ⟨y8_3A0, y8_3n0, y8_3c0, rfl, rfl, rfl⟩, rfl, rfl⟩
          dsimp only [List.nil_append, List.cons_append]
          refine wl_know (fun _ h => h.lenF m0) (fun e => ?_)
          subst e
          refine wl_det rfl rfl (det_move rfl) rfl ?_
          obtain ⟨r8_5, hr8_5, h⟩ := bind_some h
          refine wl_act (act_callS (cap := []) (W_treatymade_Deck_Next r8_3.2 2 Ba0 y8_3A0 r8_3.2.L.length y8_3c0 r8_5 hr8_5) rfl rfl rfl bd41 ⟨_, r0, rfl⟩ ⟨m0, trivial⟩) rfl rfl rfl ?_
          rintro _ _ _ ⟨_, _, ⟨y8_5A0, y8_5n0, y8_5c0, rfl, rfl, rfl⟩, rfl, rfl⟩
          dsimp only [List.nil_append, List.cons_append]
          refine wl_know (fun _ h => h.lenF m0) (fun e => ?_)
          subst e
          refine wl_det rfl rfl (det_move rfl) rfl ?_
          obtain ⟨r8_7, hr8_7, h⟩ := bind_some h
          refine wl_act (act_callS (cap := []) (W_treatymade2_Small r8_5.2 Ba0 y8_5A0 r8_5.2.L.length y8_5c0 r8_7 hr8_7) rfl rfl rfl bd26 ⟨_, r0, rfl⟩ ⟨m0, trivial⟩) rfl rfl rfl ?_
          rintro _ _ _ ⟨_, _, ⟨y8_7A0, y8_7n0, y8_7c0, rfl, rfl, rfl⟩, rfl, rfl⟩
          dsimp only [List.nil_append, List.cons_append]
          refine wl_know (fun _ h => h.lenF m0) (fun e => ?_)
          subst e
          refine wl_det rfl rfl (det_mul rfl rfl) rfl ?_
          refine wl_det rfl rfl (det_build (cs := [_, _, _]) pl48 zr48 rfl rfl (by rfl)) rfl ?_
          refine wl_act (act_litS lGMutual (vs := [_]) (cs := [_, _, _]) [(GMutual.mk (w64 (s10.2.2.2.1 + (w64 (1 + r6_2.1)))) r8_3.1 (w64 (r8_5.1 * r8_7.1)))] un36 in48 rfl rfl rfl rfl rfl ⟨rfl, trivial⟩ (by rfl) rfl (litR_flat rfl)) rfl rfl rfl ?_
          rintro _ _ _ ⟨A8_10, rfl, rfl, rfl⟩
          obtain ⟨k8_11, h⟩ := chk_some h
          refine wl_act (act_appendS (L := lGMutual) rfl rfl (ss (ss s0)) (src_O m0) un36 in48 rfl rfl rfl k8_11) rfl rfl rfl ?_
          rintro _ _ _ ⟨A8_11, c8_11, rfl, rfl, rfl⟩
          refine wl_det rfl rfl (det_assign rfl) rfl ?_
          refine wl_nil ?_
          refine pn_block ?_
          replace h := Option.some.inj h
          subst h
          exact pn_meetG ((r8_7.2.L, r8_7.2.At, (s10.2.2.1 ++ [(GMutual.mk (w64 (s10.2.2.2.1 + (w64 (1 + r6_2.1)))) r8_3.1 (w64 (r8_5.1 * r8_7.1)))]), (w64 (s10.2.2.2.1 + (w64 (1 + r6_2.1))))), y8_7A0, r8_7.2.L.length, y8_7c0, A8_11, (s10.2.2.1 ++ [(GMutual.mk (w64 (s10.2.2.2.1 + (w64 (1 + r6_2.1)))) r8_3.1 (w64 (r8_5.1 * r8_7.1)))]).length, c8_11, ()) rfl ⟨rfl, rfl, rfl, rfl, trivial⟩ (fun _ h => h.to ⟨_, (rs r0), ⟨_, (rs r0), trivial⟩⟩ ⟨m0, trivial⟩)
        · have h := ifF h c22
          refine wc_skip ?_
          refine pn_block ?_
          replace h := Option.some.inj h
          subst h
          exact pn_meetG ((r6_2.2.L, r6_2.2.At, s10.2.2.1, (w64 (s10.2.2.2.1 + (w64 (1 + r6_2.1))))), y6_2A0, r6_2.2.L.length, y6_2c0, A10_3, s10.2.2.1.length, c10_3, ()) rfl ⟨rfl, rfl, rfl, rfl, trivial⟩ (fun _ h => h.to ⟨_, r0, ⟨_, r0, trivial⟩⟩ ⟨m0, trivial⟩)
      rintro ⟨s16, A16_0, n16_0, c16_0, A16_3, n16_3, c16_3, _⟩ e16
      dsimp only at e16 ⊢
      subst e16
      have h := ho16
      refine wc_know (fun _ h => h.lenF m0) (fun e => ?_)
      subst e
      refine wc_know (fun _ h => h.lenO (ms m0)) (fun e => ?_)
      subst e
      refine wc_region ?_   -- region 5
      refine wl_det rfl rfl (det_move rfl) rfl ?_
      refine wl_det rfl rfl (det_sub rfl rfl) rfl ?_
      refine wl_det rfl rfl (det_assign rfl) rfl ?_
      refine wl_nil ?_
      replace h := Option.some.inj h
      subst h
      exact pn_some (k10, (s16.1, s16.2.1, s16.2.2.1, s16.2.2.2, (w64 (s10.2.2.2.2 - 1))), A16_0, s16.1.length, c16_0, A16_3, s16.2.2.1.length, c16_3, ()) ⟨nextL g10, Nat.lt_succ_self _⟩ ⟨rfl, rfl, rfl, rfl, trivial⟩ (fun _ h => h.to ⟨_, r0, ⟨_, r0, trivial⟩⟩ ⟨m0, trivial⟩)
    · have h := ifF h c14
      refine wc_exit ?_
      refine px_then ?_
      refine px_then ?_
      refine px_block ?_
      replace h := Option.some.inj h
      subst h
      replace g10 := nextR g10
      subst g10
      exact pn_meetG ((s10.1, s10.2.1, s10.2.2.1), A10_0, s10.1.length, c10_0, A10_3, s10.2.2.1.length, c10_3, ()) rfl ⟨rfl, trivial⟩ (fun _ h => h.to ⟨_, r0, ⟨_, r0, trivial⟩⟩ ⟨m0, trivial⟩)
  rintro ⟨s6, A6_0, n6_0, c6_0, A6_3, n6_3, c6_3, _⟩ e6
  dsimp only at e6 ⊢
  subst e6
  have h := ho6
  refine wc_know (fun _ h => h.lenF m0) (fun e => ?_)
  subst e
  refine wc_know (fun _ h => h.lenO (ms m0)) (fun e => ?_)
  subst e
  refine wc_seq ?_
  refine wc_region ?_   -- region 9
  refine wl_det rfl rfl (det_move rfl) rfl ?_
  refine wl_det rfl rfl (det_assign rfl) rfl ?_
  refine wl_nil ?_
  refine pn_then ?_
  refine wc_ret ?_
  replace h := Option.some.inj h
  subst h
  refine pn_ret (vs := [_]) rfl ⟨rfl, trivial⟩ ⟨A6_3, s6.2.2.length, c6_3, A6_0, s6.1.length, c6_0, rfl, rfl, rfl⟩ (fun _ h => h.to ⟨_, (rs r0), ⟨_, r0, trivial⟩⟩ ⟨m0, trivial⟩)
def Q_treatyref33_Mutuals (r : Int) : Value → List Ent → List Fact → Prop := fun v θ κ => v = .int .i64 r ∧ θ = [] ∧ κ = []
theorem plains_treatyref33_Mutuals {r : Int} : ∀ v θ κ, Q_treatyref33_Mutuals r v θ κ → Plains θ := by
  rintro _ _ _ ⟨rfl, rfl, rfl⟩
  exact trivial
set_option maxHeartbeats 4000000 in
set_option maxRecDepth 100000 in
theorem W_treatyref33_Mutuals (a0 : (List GMutual)) (A0 : Option Addr) (n0 : Nat) (c0 : Nat) (r : Int) (h : treatyref33_Mutuals a0 = some r) : Spec Try.prog 31 [.slice A0 n0 c0] [] [fV (lSlice lGMutual) (.slice A0 n0 c0) a0] (Q_treatyref33_Mutuals r) := by
  unfold treatyref33_Mutuals at h
  refine spec_of (σ := [(0, _)]) Try.func31 rfl rfl rfl rfl ?_
  intro C
  refine wc_know (fun _ h => h.lenF m0) (fun e => ?_)
  subst e
  refine wc_seq ?_
  refine wc_region ?_   -- region 0
  refine wl_det rfl rfl (det_assign rfl) rfl ?_
  refine wl_nil ?_
  refine pn_then ?_
  refine wc_seq ?_
  refine wc_seq ?_
  refine wc_region ?_   -- region 1
  refine wl_det rfl rfl (det_move rfl) rfl ?_
  refine wl_det rfl rfl (det_len rfl un36) rfl ?_
  refine wl_det rfl rfl (det_gtr rfl rfl) rfl ?_
  refine wl_nil ?_
  refine pn_then ?_
  refine wc_cond rfl (fun c5 => ?_) (fun c5 => ?_)
  · have h := ifT h c5
    refine wc_seq ?_
    refine wc_region ?_   -- region 2
    refine wl_det rfl rfl (det_assign rfl) rfl ?_
    refine wl_nil ?_
    refine pn_then ?_
    refine wc_ret ?_
    refine pr_then ?_
    replace h := Option.some.inj h
    subst h
    refine pn_ret (vs := [_]) rfl ⟨rfl, trivial⟩ ⟨rfl, rfl, rfl⟩ (fun _ h => h.to trivial trivial)
  · have h := ifF h c5
    refine wc_skip ?_
    refine pn_then ?_
    obtain ⟨q8, h, ho8⟩ := bind_some h
    refine wc_meetG (G := Unit × Unit) (fun (s8, _) => (.inl s8) = q8) (fun (_, _) => []) (fun (_, _) => []) (fun (_, _) => []) ?_ ?_
    · refine wc_seq ?_
      refine wc_region ?_   -- region 3
      refine wl_det rfl rfl (det_move rfl) rfl ?_
      refine wl_det rfl rfl (det_len rfl un36) rfl ?_
      refine wl_det rfl rfl (det_move rfl) rfl ?_
      refine wl_nil ?_
      refine pn_then ?_
      refine wc_block ?_
      obtain ⟨o12, h, ho12⟩ := bind_some h
      obtain ⟨k12, hk12⟩ := loopV_some.1 h
      refine wc_loop (G := Nat × Int × Unit) (fun g => IterN (treatyref33_Mutuals_l12 a0) g.1 g.2.1 o12) (fun g => g.1) (fun (_, s12, _) => [(0, .slice A0 a0.length c0), (8, .slice A0 a0.length c0), (9, .int .i64 (a0.length : Int)), (10, .int .i64 s12)]) (fun (_, _, _) => []) (fun (_, _, _) => [fV (lSlice lGMutual) (.slice A0 a0.length c0) a0]) (k12, 0, ()) hk12 ⟨rfl, rfl, rfl, rfl, trivial⟩ (fun _ h => h.to trivial ⟨m0, trivial⟩) ?_
      rintro ⟨k12, s12, _⟩ hI
      obtain ⟨k12, rfl, q12, h, g12⟩ := IterN.pos hI
      dsimp only at h ⊢
      unfold treatyref33_Mutuals_l12 at h
      refine wc_seq ?_
      refine wc_region ?_   -- region 4
      refine wl_det rfl rfl (det_lss rfl rfl) rfl ?_
      refine wl_nil ?_
      refine pn_then ?_
      refine wc_seq ?_
      refine wc_cond rfl (fun c16 => ?_) (fun c16 => ?_)
      · have h := ifT h c16
        refine wc_skip ?_
        refine pn_then ?_
        refine wc_seq ?_
        refine wc_block ?_
        refine wc_seq ?_
        refine wc_region ?_   -- region 5
        refine wl_det rfl rfl (det_move rfl) rfl ?_
        obtain ⟨k5_1, h⟩ := chk_some h
        refine wl_st (fun _ h => h.openF m0 k5_1) ?_
        refine wl_det rfl rfl (det_indexP rfl rfl (ms m0) k5_1 m0 un36 sz48) rfl ?_
        refine wl_det rfl rfl (det_loadP (off := 0) rfl m0 (by rfl) (by rfl) (loaded_n (cells := [_, _, _]) ag48 sz48)) rfl ?_
        refine wl_act (act_alloc (cs := [_, _, _]) zr48 rfl) rfl rfl rfl ?_
        rintro _ _ _ ⟨b5_3, rfl, rfl, rfl⟩
        refine wl_det rfl rfl (det_assign rfl) rfl ?_
        refine wl_act0 (act_store (cells := [_, _, _]) (cs' := [_, _, _]) rfl rfl rfl s0 (by rfl) (of_decide_eq_true rfl) sz48 ⟨rfl, rfl, rfl, trivial⟩) rfl rfl ?_
        rintro _ _ _ ⟨rfl, rfl⟩
        refine wl_nil ?_
        refine pn_then ?_
        refine wc_seq ?_
        refine wc_seq ?_
        refine wc_region ?_   -- region 6
        refine wl_det rfl rfl (det_field rfl fd48_0 rfl) rfl ?_
        refine wl_det rfl rfl (det_load rfl m0 (by rfl) na3 us3) rfl ?_
        refine wl_det rfl rfl (det_lss rfl rfl) rfl ?_
        refine wl_det rfl rfl (det_move rfl) rfl ?_
        refine wl_way (decide ((ix a0 s12).Party < 0)) ((decide ((ix a0 s12).Party < 0)) || (decide (15 < (ix a0 s12).Party))) 4 22 (fun hg => ?_) (fun hg => ?_) ?_
        · have hg6_7 := hg
          refine wl_off rfl rfl rfl rfl rfl hg6_7 rfl ?_
          refine wl_off rfl rfl rfl rfl rfl hg6_7 rfl ?_
          refine wl_off rfl rfl rfl rfl rfl hg6_7 rfl ?_
          refine wl_det rfl rfl (det_or_on (r := (decide (15 < (ix a0 s12).Party))) rfl rfl rfl hg6_7) rfl ?_
          exact wl_nil (pn_qnE (ext_cons rfl (ext_skip rfl (ext_skip rfl (ext_skip rfl (ext_skip rfl ext_refl))))) (fun _ h => h))
        · have hg6_7a := hg
          refine wl_on rfl rfl rfl rfl hg6_7a ?_
          refine wl_det rfl rfl (det_field rfl fd48_0 rfl) rfl ?_
          refine wl_on rfl rfl rfl rfl hg6_7a ?_
          refine wl_det rfl rfl (det_load rfl m0 (by rfl) na3 us3) rfl ?_
          refine wl_on rfl rfl rfl rfl hg6_7a ?_
          refine wl_det rfl rfl (det_gtr rfl rfl) rfl ?_
          refine wl_det rfl rfl (det_or_off rfl rfl rfl hg6_7a) rfl ?_
          exact wl_nil (pn_qnE (ext_cons rfl (ext_skip rfl (ext_skip rfl (ext_skip rfl (ext_skip rfl ext_refl))))) (fun _ h => h))
        refine wl_det rfl rfl (det_move rfl) rfl ?_
        refine wl_way ((decide ((ix a0 s12).Party < 0)) || (decide (15 < (ix a0 s12).Party))) (((decide ((ix a0 s12).Party < 0)) || (decide (15 < (ix a0 s12).Party))) || (decide ((ix a0 s12).Owed < 0))) 4 27 (fun hg => ?_) (fun hg => ?_) ?_
        · have hg6_12 := hg
          refine wl_off rfl rfl rfl rfl rfl hg6_12 rfl ?_
          refine wl_off rfl rfl rfl rfl rfl hg6_12 rfl ?_
          refine wl_off rfl rfl rfl rfl rfl hg6_12 rfl ?_
          refine wl_det rfl rfl (det_or_on (r := (decide ((ix a0 s12).Owed < 0))) rfl rfl rfl hg6_12) rfl ?_
          exact wl_nil (pn_qnE (ext_cons rfl (ext_skip rfl (ext_skip rfl (ext_skip rfl (ext_skip rfl ext_refl))))) (fun _ h => h))
        · have hg6_12a := hg
          refine wl_on rfl rfl rfl rfl hg6_12a ?_
          refine wl_det rfl rfl (det_field rfl fd48_1 rfl) rfl ?_
          refine wl_on rfl rfl rfl rfl hg6_12a ?_
          refine wl_det rfl rfl (det_load rfl m0 (by rfl) na3 us3) rfl ?_
          refine wl_on rfl rfl rfl rfl hg6_12a ?_
          refine wl_det rfl rfl (det_lss rfl rfl) rfl ?_
          refine wl_det rfl rfl (det_or_off rfl rfl rfl hg6_12a) rfl ?_
          exact wl_nil (pn_qnE (ext_cons rfl (ext_skip rfl (ext_skip rfl (ext_skip rfl (ext_skip rfl ext_refl))))) (fun _ h => h))
        refine wl_det rfl rfl (det_move rfl) rfl ?_
        refine wl_way (((decide ((ix a0 s12).Party < 0)) || (decide (15 < (ix a0 s12).Party))) || (decide ((ix a0 s12).Owed < 0))) ((((decide ((ix a0 s12).Party < 0)) || (decide (15 < (ix a0 s12).Party))) || (decide ((ix a0 s12).Owed < 0))) || (decide (17592186044416 < (ix a0 s12).Owed))) 4 32 (fun hg => ?_) (fun hg => ?_) ?_
        · have hg6_17 := hg
          refine wl_off rfl rfl rfl rfl rfl hg6_17 rfl ?_
          refine wl_off rfl rfl rfl rfl rfl hg6_17 rfl ?_
          refine wl_off rfl rfl rfl rfl rfl hg6_17 rfl ?_
          refine wl_det rfl rfl (det_or_on (r := (decide (17592186044416 < (ix a0 s12).Owed))) rfl rfl rfl hg6_17) rfl ?_
          exact wl_nil (pn_qnE (ext_cons rfl (ext_skip rfl (ext_skip rfl (ext_skip rfl (ext_skip rfl ext_refl))))) (fun _ h => h))
        · have hg6_17a := hg
          refine wl_on rfl rfl rfl rfl hg6_17a ?_
          refine wl_det rfl rfl (det_field rfl fd48_1 rfl) rfl ?_
          refine wl_on rfl rfl rfl rfl hg6_17a ?_
          refine wl_det rfl rfl (det_load rfl m0 (by rfl) na3 us3) rfl ?_
          refine wl_on rfl rfl rfl rfl hg6_17a ?_
          refine wl_det rfl rfl (det_gtr rfl rfl) rfl ?_
          refine wl_det rfl rfl (det_or_off rfl rfl rfl hg6_17a) rfl ?_
          exact wl_nil (pn_qnE (ext_cons rfl (ext_skip rfl (ext_skip rfl (ext_skip rfl (ext_skip rfl ext_refl))))) (fun _ h => h))
        refine wl_det rfl rfl (det_move rfl) rfl ?_
        refine wl_way ((((decide ((ix a0 s12).Party < 0)) || (decide (15 < (ix a0 s12).Party))) || (decide ((ix a0 s12).Owed < 0))) || (decide (17592186044416 < (ix a0 s12).Owed))) (((((decide ((ix a0 s12).Party < 0)) || (decide (15 < (ix a0 s12).Party))) || (decide ((ix a0 s12).Owed < 0))) || (decide (17592186044416 < (ix a0 s12).Owed))) || (decide ((ix a0 s12).Owes < 0))) 4 37 (fun hg => ?_) (fun hg => ?_) ?_
        · have hg6_22 := hg
          refine wl_off rfl rfl rfl rfl rfl hg6_22 rfl ?_
          refine wl_off rfl rfl rfl rfl rfl hg6_22 rfl ?_
          refine wl_off rfl rfl rfl rfl rfl hg6_22 rfl ?_
          refine wl_det rfl rfl (det_or_on (r := (decide ((ix a0 s12).Owes < 0))) rfl rfl rfl hg6_22) rfl ?_
          exact wl_nil (pn_qnE (ext_cons rfl (ext_skip rfl (ext_skip rfl (ext_skip rfl (ext_skip rfl ext_refl))))) (fun _ h => h))
        · have hg6_22a := hg
          refine wl_on rfl rfl rfl rfl hg6_22a ?_
          refine wl_det rfl rfl (det_field rfl fd48_2 rfl) rfl ?_
          refine wl_on rfl rfl rfl rfl hg6_22a ?_
          refine wl_det rfl rfl (det_load rfl m0 (by rfl) na3 us3) rfl ?_
          refine wl_on rfl rfl rfl rfl hg6_22a ?_
          refine wl_det rfl rfl (det_lss rfl rfl) rfl ?_
          refine wl_det rfl rfl (det_or_off rfl rfl rfl hg6_22a) rfl ?_
          exact wl_nil (pn_qnE (ext_cons rfl (ext_skip rfl (ext_skip rfl (ext_skip rfl (ext_skip rfl ext_refl))))) (fun _ h => h))
        refine wl_det rfl rfl (det_move rfl) rfl ?_
        refine wl_way (((((decide ((ix a0 s12).Party < 0)) || (decide (15 < (ix a0 s12).Party))) || (decide ((ix a0 s12).Owed < 0))) || (decide (17592186044416 < (ix a0 s12).Owed))) || (decide ((ix a0 s12).Owes < 0))) ((((((decide ((ix a0 s12).Party < 0)) || (decide (15 < (ix a0 s12).Party))) || (decide ((ix a0 s12).Owed < 0))) || (decide (17592186044416 < (ix a0 s12).Owed))) || (decide ((ix a0 s12).Owes < 0))) || (decide (17592186044416 < (ix a0 s12).Owes))) 4 42 (fun hg => ?_) (fun hg => ?_) ?_
        · have hg6_27 := hg
          refine wl_off rfl rfl rfl rfl rfl hg6_27 rfl ?_
          refine wl_off rfl rfl rfl rfl rfl hg6_27 rfl ?_
          refine wl_off rfl rfl rfl rfl rfl hg6_27 rfl ?_
          refine wl_det rfl rfl (det_or_on (r := (decide (17592186044416 < (ix a0 s12).Owes))) rfl rfl rfl hg6_27) rfl ?_
          exact wl_nil (pn_qnE (ext_cons rfl (ext_skip rfl (ext_skip rfl (ext_skip rfl (ext_skip rfl ext_refl))))) (fun _ h => h))
        · have hg6_27a := hg
          refine wl_on rfl rfl rfl rfl hg6_27a ?_
          refine wl_det rfl rfl (det_field rfl fd48_2 rfl) rfl ?_
          refine wl_on rfl rfl rfl rfl hg6_27a ?_
          refine wl_det rfl rfl (det_load rfl m0 (by rfl) na3 us3) rfl ?_
          refine wl_on rfl rfl rfl rfl hg6_27a ?_
          refine wl_det rfl rfl (det_gtr rfl rfl) rfl ?_
          refine wl_det rfl rfl (det_or_off rfl rfl rfl hg6_27a) rfl ?_
          exact wl_nil (pn_qnE (ext_cons rfl (ext_skip rfl (ext_skip rfl (ext_skip rfl (ext_skip rfl ext_refl))))) (fun _ h => h))
        refine wl_nil ?_
        refine pn_then ?_
        refine wc_cond rfl (fun c25 => ?_) (fun c25 => ?_)
        · have h := ifT h c25
          refine wc_seq ?_
          refine wc_region ?_   -- region 7
          refine wl_det rfl rfl (det_assign rfl) rfl ?_
          refine wl_nil ?_
          refine pn_then ?_
          refine wc_ret ?_
          refine pr_then ?_
          refine pr_block ?_
          refine pr_then ?_
          refine pr_then ?_
          refine pr_block ?_
          refine pr_then ?_
          replace h := Option.some.inj h
          subst h
          replace g12 := nextR g12
          subst g12
          have h := (elimL ho12)
          replace h := Option.some.inj h
          subst h
          have h := (elimR ho8)
          replace h := Option.some.inj h
          subst h
          refine pn_ret (vs := [_]) rfl ⟨rfl, trivial⟩ ⟨rfl, rfl, rfl⟩ (fun _ h => h.to trivial trivial)
        · have h := ifF h c25
          refine wc_skip ?_
          refine pn_then ?_
          obtain ⟨q28, h, ho28⟩ := bind_some h
          refine wc_meetG (G := Bool × Unit) (fun (s28, _) => s28 = q28) (fun (s28, _) => [(0, .slice A0 a0.length c0), (8, .slice A0 a0.length c0), (9, .int .i64 (a0.length : Int)), (10, .int .i64 s12), (55, .bool s28)]) (fun (_, _) => []) (fun (_, _) => [fV (lSlice lGMutual) (.slice A0 a0.length c0) a0]) ?_ ?_
          · rcases Bool.eq_false_or_eq_true (decide (0 < s12)) with hg8_g45 | hg8_g45
            · have h := ifT h hg8_g45
              obtain ⟨k8_p1, h⟩ := chk_some h
              refine wc_st (fun _ h => h.openF (ms m0) k8_p1) ?_
              refine dx_region 13 [[], [0], [0, 1], [0, 1, 2], [0, 1, 2, 3], [0, 1, 2], [0, 1, 2], [0, 1, 2, 6], [0, 1, 2, 5, 6, 7], [0, 1, 2, 5, 6, 7, 8], [0, 1, 2, 5, 6, 7, 8, 9], [0, 1, 2, 3, 4, 5, 6, 7, 8, 9, 10], [0, 1, 2, 3, 4, 5, 6, 7, 8, 9, 10, 11]] mixed (ord := (.det 0 (.det 1 (.det 2 (.det 3 (.det 4 (.det 5 (.det 6 (.det 7 (.det 8 (.det 9 (.det 10 (.det 11 (.det 12 .done)))))))))))))) (by kernel_rfl) ?_   -- region 8
              refine hx_det rfl rfl rfl nofun (det_move rfl) rfl ?_
              refine hx_det rfl rfl rfl nofun (det_gtr rfl rfl) rfl ?_
              refine hx_det rfl rfl rfl nofun (det_move rfl) rfl ?_
              refine hx_on rfl rfl rfl rfl rfl hg8_g45 nofun (det_field rfl fd48_0 rfl) rfl ?_
              refine hx_on rfl rfl rfl rfl rfl hg8_g45 nofun (det_load rfl m0 (by rfl) na3 us3) rfl ?_
              refine hx_on rfl rfl rfl rfl rfl hg8_g45 nofun (det_move rfl) rfl ?_
              refine hx_on rfl rfl rfl rfl rfl hg8_g45 nofun (det_move rfl) rfl ?_
              refine hx_on rfl rfl rfl rfl rfl hg8_g45 nofun (det_sub rfl rfl) rfl ?_
              refine hx_on rfl rfl rfl rfl rfl hg8_g45 nofun (det_indexP rfl rfl (ms (ms m0)) k8_p1 m0 un36 sz48) rfl ?_
              refine hx_on rfl rfl rfl rfl rfl hg8_g45 nofun (det_fieldP rfl m0 fd48_0 rfl) rfl ?_
              refine hx_on rfl rfl rfl rfl rfl hg8_g45 nofun (det_loadP (off := 0) rfl m0 (by rfl) (by rfl) (loaded_1 na3 us3)) rfl ?_
              refine hx_on rfl rfl rfl rfl rfl hg8_g45 nofun (det_leq rfl rfl) rfl ?_
              refine hx_det rfl rfl rfl nofun (det_pick_on rfl hg8_g45 rfl rfl) rfl ?_
              refine hx_end ?_
              refine wl_nil ?_
              replace h := Option.some.inj h
              subst h
              exact pn_meetG ((decide ((ix a0 s12).Party ≤ (ix a0 (w64 (s12 - 1))).Party)), ()) rfl ⟨rfl, rfl, rfl, rfl, rfl, trivial⟩ (fun _ h => h.to trivial ⟨(ms (ms m0)), trivial⟩)
            · have h := ifF h hg8_g45
              refine dx_region 13 [[], [0], [0, 1], [0, 1, 2], [0, 1, 2, 3], [0, 1, 2], [0, 1, 2], [0, 1, 2, 6], [0, 1, 2, 5, 6, 7], [0, 1, 2, 5, 6, 7, 8], [0, 1, 2, 5, 6, 7, 8, 9], [0, 1, 2, 3, 4, 5, 6, 7, 8, 9, 10], [0, 1, 2, 3, 4, 5, 6, 7, 8, 9, 10, 11]] mixed (ord := (.det 0 (.det 1 (.det 2 (.det 3 (.det 4 (.det 5 (.det 6 (.det 7 (.det 8 (.det 9 (.det 10 (.det 11 (.det 12 .done)))))))))))))) (by kernel_rfl) ?_   -- region 8
              refine hx_det rfl rfl rfl nofun (det_move rfl) rfl ?_
              refine hx_det rfl rfl rfl nofun (det_gtr rfl rfl) rfl ?_
              refine hx_det rfl rfl rfl nofun (det_move rfl) rfl ?_
              refine hx_off rfl rfl rfl rfl rfl hg8_g45 rfl ?_
              refine hx_off rfl rfl rfl rfl rfl hg8_g45 rfl ?_
              refine hx_off rfl rfl rfl rfl rfl hg8_g45 rfl ?_
              refine hx_off rfl rfl rfl rfl rfl hg8_g45 rfl ?_
              refine hx_off rfl rfl rfl rfl rfl hg8_g45 rfl ?_
              refine hx_off rfl rfl rfl rfl rfl hg8_g45 rfl ?_
              refine hx_off rfl rfl rfl rfl rfl hg8_g45 rfl ?_
              refine hx_off rfl rfl rfl rfl rfl hg8_g45 rfl ?_
              refine hx_off rfl rfl rfl rfl rfl hg8_g45 rfl ?_
              refine hx_det rfl rfl rfl nofun (det_pick_off rfl hg8_g45 rfl rfl) rfl ?_
              refine hx_end ?_
              refine wl_nil ?_
              replace h := Option.some.inj h
              subst h
              exact pn_meetG (false, ()) rfl ⟨rfl, rfl, rfl, rfl, rfl, trivial⟩ (fun _ h => h.to trivial ⟨(ms m0), trivial⟩)
          rintro ⟨s28, _⟩ e28
          dsimp only at e28 ⊢
          subst e28
          have h := ho28
          refine wc_cond rfl (fun c30 => ?_) (fun c30 => ?_)
          · have h := ifT h c30
            refine wc_seq ?_
            refine wc_region ?_   -- region 9
            refine wl_det rfl rfl (det_assign rfl) rfl ?_
            refine wl_nil ?_
            refine pn_then ?_
            refine wc_ret ?_
            refine pr_block ?_
            refine pr_then ?_
            refine pr_then ?_
            refine pr_block ?_
            refine pr_then ?_
            replace h := Option.some.inj h
            subst h
            replace g12 := nextR g12
            subst g12
            have h := (elimL ho12)
            replace h := Option.some.inj h
            subst h
            have h := (elimR ho8)
            replace h := Option.some.inj h
            subst h
            refine pn_ret (vs := [_]) rfl ⟨rfl, trivial⟩ ⟨rfl, rfl, rfl⟩ (fun _ h => h.to trivial trivial)
          · have h := ifF h c30
            refine wc_skip ?_
            refine pn_block ?_
            refine pn_then ?_
            refine wc_region ?_   -- region 10
            refine wl_det rfl rfl (det_add rfl rfl) rfl ?_
            refine wl_det rfl rfl (det_move rfl) rfl ?_
            refine wl_nil ?_
            replace h := Option.some.inj h
            subst h
            exact pn_some (k12, (w64 (s12 + 1)), ()) ⟨nextL g12, Nat.lt_succ_self _⟩ ⟨rfl, rfl, rfl, rfl, trivial⟩ (fun _ h => h.to trivial ⟨m0, trivial⟩)
      · have h := ifF h c16
        refine wc_exit ?_
        refine px_then ?_
        refine px_then ?_
        refine px_block ?_
        replace h := Option.some.inj h
        subst h
        replace g12 := nextR g12
        subst g12
        have h := (elimR ho12)
        replace h := Option.some.inj h
        subst h
        exact pn_meetG ((), ()) rfl trivial (fun _ h => h.to trivial trivial)
    rintro ⟨s8, _⟩ e8
    dsimp only at e8 ⊢
    subst e8
    have h := (elimL ho8)
    refine wc_seq ?_
    refine wc_region ?_   -- region 11
    refine wl_det rfl rfl (det_assign rfl) rfl ?_
    refine wl_nil ?_
    refine pn_then ?_
    refine wc_ret ?_
    replace h := Option.some.inj h
    subst h
    refine pn_ret (vs := [_]) rfl ⟨rfl, trivial⟩ ⟨rfl, rfl, rfl⟩ (fun _ h => h.to trivial trivial)
end Go.Proofs.Ytoodneljjhbfhaa
