/- InuringComes (plain). -/
import Derived.Test.YtfekcgnnhjmeiaaLInOrder
namespace Go.Proofs.Ytfekcgnnhjmeiaa.Pl
open Go

theorem ix_idxs {n k : Nat} (h : k < n) : ix (idxs n) (k : Int) = (k : Int) := by
  rw [ix_nat (by simp [idxs]; exact h)]
  simp [idxs]
theorem idxs_len (n : Nat) : (idxs n).length = n := by simp [idxs]
theorem ix_drop {l : List Int} {i k : Nat} (h : i + k < l.length) : ix (l.drop i) (k : Int) = ix l ((i + k : Nat) : Int) := by
  rw [ix_nat (by rw [List.length_drop]; omega), ix_nat h, List.getElem_drop]
theorem treatylaw29_InuringComes_law (a0 : List Int) (h0 : a0.length ≤ 9223372036854775807) : treatylaw29_InuringComes a0 = some true := by
  apply ok_true
  unfold treatylaw29_InuringComes
  refine (newQ h0).bind fun d hd => (treatiesQ hd).bind fun r hr => ?_
  obtain ⟨_, h1, h8, id, hm⟩ := hr
  have ho := order_below (ts := r.1) (by omega) hm.tslen hm.bel (vOf_ok (hm.allOk (by omega)))
  rw [ho, Option.bind_some]
  refine Ok.ite (fun hc => ?_) fun _ => ?_
  · rw [idxs_len] at hc
    simp at hc
  have hloop : loopV (treatylaw29_InuringComes_l16 r (idxs r.1.length, 0)) 0 = some (.inr ()) := by
    refine loopV_done (fun k => (k : Int)) r.1.length _ (fun i hi => ?_) ?_
    · unfold treatylaw29_InuringComes_l16
      dsimp only
      have l36 : loopV (treatylaw29_InuringComes_l36 r (idxs r.1.length, 0) (i : Int)) 0 = some (.inr ()) := by
        refine loopV_done (fun k => (k : Int)) (r.1.length - i) _ (fun k hk => ?_) ?_
        · unfold treatylaw29_InuringComes_l36
          dsimp only
          rw [Int.toNat_natCast, if_pos (by rw [List.length_drop, idxs_len, decide_eq_true_eq]; omega), chk_of (inb_nat (by rw [List.length_drop, idxs_len]; omega)), ix_drop (by rw [idxs_len]; omega), ix_idxs hi, ix_idxs (by omega)]
          obtain ⟨b, e, hb, _⟩ := dep_ok (ts := r.1) (by omega) hm.uniq hm.tslen hi (show i + k < r.1.length by omega)
          rw [e, Option.bind_some, if_neg, w64_succ (by omega)]
          intro hbt
          have := below_reach hm.bel (hb hbt)
          omega
        · unfold treatylaw29_InuringComes_l36
          dsimp only
          rw [Int.toNat_natCast, if_neg (by rw [List.length_drop, idxs_len, decide_eq_true_eq]; omega)]
      have l55 : loopV (treatylaw29_InuringComes_l55 (idxs r.1.length, 0) (i : Int)) 0 = some (.inr ()) := by
        refine loopV_done (fun k => (k : Int)) i _ (fun k hk => ?_) ?_
        · unfold treatylaw29_InuringComes_l55
          dsimp only
          rw [Int.toNat_natCast, if_pos (by rw [List.length_take, idxs_len, decide_eq_true_eq]; omega), chk_of (inb_nat (by rw [List.length_take, idxs_len]; omega)), ix_take hk, ix_idxs hi, ix_idxs (by omega), if_neg (by rw [decide_eq_true_eq]; omega), w64_succ (by omega)]
        · unfold treatylaw29_InuringComes_l55
          dsimp only
          rw [Int.toNat_natCast, if_neg (by rw [List.length_take, idxs_len, decide_eq_true_eq]; omega)]
      rw [if_pos (by rw [idxs_len, decide_eq_true_eq]; omega), chk_of (inb_nat (by rw [idxs_len]; exact hi)), ix_idxs hi, if_neg (by simp; omega), chk_of (by simp), chk_of (by rw [idxs_len, decide_eq_true_eq]; omega), l36, l55, w64_succ (by omega)]
      simp only [Option.bind_some, Sum.elim_inl, Sum.elim_inr]
      rw [chk_of (by simp), chk_of (by rw [idxs_len, decide_eq_true_eq]; omega)]
      rfl
    · unfold treatylaw29_InuringComes_l16
      dsimp only
      rw [if_neg (by rw [idxs_len, decide_eq_true_eq]; omega)]
  rw [hloop, awake_ok]
  exact .some rfl
end Go.Proofs.Ytfekcgnnhjmeiaa.Pl
