/- InuringApart (plain). -/
import Derived.Test.YtfekcgnnhjmeiaaLInOrder
namespace Go.Proofs.Ytfekcgnnhjmeiaa.Pl
open Go

theorem treatylaw29_InuringApart_law (a0 : List Int) (a1 a2 : Int) (h0 : a0.length ≤ 9223372036854775807) : treatylaw29_InuringApart a0 a1 a2 = some true := by
  apply ok_true
  unfold treatylaw29_InuringApart
  refine (newQ h0).bind fun d hd => (treatiesQ hd).bind fun r hr => ?_
  obtain ⟨_, h1, h8, id, hm⟩ := hr
  refine (spoilt_ok h1 h8 hm.ok a1 a2).bind fun x hx => ?_
  obtain ⟨hxl, ht⟩ := hx
  rw [validateAll (by omega) ht, Option.bind_some]
  refine Ok.ite (fun _ => ?_) fun hc => ?_
  · rw [awake_ok]
    exact .some rfl
  have hv : vOf x = 0 := by simpa using hc
  have ok := vOf_zero hv
  have hu := st1_uniq ok.s1
  have hloop : loopV (treatylaw29_InuringApart_l14 x) 0 = some (.inr ()) := by
    refine loopV_done (fun k => (k : Int)) x.length _ (fun i hi => ?_) ?_
    · have l27 : loopV (treatylaw29_InuringApart_l27 x (i : Int)) 0 = some (.inr ()) := by
        refine loopV_done (fun k => (k : Int)) i _ (fun j hj => ?_) ?_
        · have hjl : j < x.length := by omega
          unfold treatylaw29_InuringApart_l27
          rw [Int.toNat_natCast, if_pos (by rw [List.length_take, decide_eq_true_eq]; omega), chk_of (inb_nat (by rw [List.length_take]; omega)), ix_take hj, meet_eq (ht i hi) (ht j hjl), tower_eq (ht i hi), w64_succ (by omega)]
          obtain ⟨b1, e1, _, d1⟩ := dep_ok (ts := x) (by omega) hu ht hi hjl
          obtain ⟨b2, e2, _, d2⟩ := dep_ok (ts := x) (by omega) hu ht hjl hi
          rw [e1, e2]
          have hcl := st4_at ok.s4 hi hj
          simp only [Option.bind_some]
          by_cases c1 : (ix x (j : Int)).ID ∈ (ix x (i : Int)).Inures
          · have := d1 ((edge_iff hu hi hjl).2 c1)
            subst this
            cases meetS (ix x (i : Int)) (ix x (j : Int)) <;> rfl
          by_cases c2 : (ix x (i : Int)).ID ∈ (ix x (j : Int)).Inures
          · have := d2 ((edge_iff hu hjl hi).2 c2)
            subst this
            cases meetS (ix x (i : Int)) (ix x (j : Int)) <;> cases b1 <;> rfl
          unfold clashS at hcl
          rw [decide_eq_false c1, decide_eq_false c2] at hcl
          cases hme : meetS (ix x (i : Int)) (ix x (j : Int)) with
          | false => rfl
          | true =>
            rw [hme] at hcl
            have hta : towerS (ix x (i : Int)) (ix x (j : Int)) = true ∧ apartS (ix x (i : Int)) (ix x (j : Int)) = true := by
              simpa using hcl
            obtain ⟨h3, h4⟩ := hta
            rw [h3]
            unfold apartS at h4
            rw [Bool.or_eq_true, decide_eq_true_eq, decide_eq_true_eq] at h4
            have h5 : (decide ((ix x (i : Int)).Retention < w64 ((ix x (j : Int)).Retention + (ix x (j : Int)).Limit)) && decide ((ix x (j : Int)).Retention < w64 ((ix x (i : Int)).Retention + (ix x (i : Int)).Limit))) = false := by
              rw [Bool.and_eq_false_iff, decide_eq_false_iff_not, decide_eq_false_iff_not]
              omega
            rw [h5]
            cases b1 <;> cases b2 <;> rfl
        · unfold treatylaw29_InuringApart_l27
          rw [Int.toNat_natCast, if_neg (by rw [List.length_take, decide_eq_true_eq]; omega)]
      unfold treatylaw29_InuringApart_l14
      rw [if_pos (by rw [decide_eq_true_eq]; omega), chk_of (inb_nat hi), chk_of (by simp), chk_of (by rw [decide_eq_true_eq]; omega), l27, w64_succ (by omega)]
      rfl
    · unfold treatylaw29_InuringApart_l14
      rw [if_neg (by simp)]
  rw [hloop, awake_ok]
  exact .some rfl
end Go.Proofs.Ytfekcgnnhjmeiaa.Pl
