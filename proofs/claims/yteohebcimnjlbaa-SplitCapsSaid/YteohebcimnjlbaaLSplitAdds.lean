/- The law SplitAdds (plain). -/
import Derived.Test.YteohebcimnjlbaaLSplitP
namespace Go.Proofs.Yteohebcimnjlbaa.Pl
open Go

theorem treatylaw02_SplitAdds_law (a : Int) (d : List Int) (_ : -9223372036854775808 ≤ a ∧ a ≤ 9223372036854775807) (_ : ∀ n ∈ d, -9223372036854775808 ≤ n ∧ n ≤ 9223372036854775807) (hd : d.length ≤ 9223372036854775807) : treatylaw02_SplitAdds a d = some true := by
  unfold treatylaw02_SplitAdds
  obtain ⟨k, e1, hk⟩ := new_ok hd
  obtain ⟨w, k2, e2, hk2, hw⟩ := weights_ok hk (n := 12) (by omega) (by omega)
  obtain ⟨c, e3, c0, c1⟩ := clamp_ok a
  have hs := hw.sok (by omega) c0 c1
  have hl := hs.len
  simp only [e1, e2, e3, Option.bind_some, split_ok hs, partsS_length]
  have hb := partsS_bounds hs
  have hloop : loopV (treatylaw02_SplitAdds_l20 (w, k2) (partsS c w, 0)) (0, 0) = some (.inr (partsS c w).sum) := by
    have := loopV_done (step := treatylaw02_SplitAdds_l20 (w, k2) (partsS c w, 0)) (fun i => (((partsS c w).take i).sum, (i : Int))) w.length (.inr (partsS c w).sum) ?_ ?_
    · simpa using this
    · intro i hi
      have hip : i < (partsS c w).length := by rw [partsS_length]; exact hi
      have hsb := sum_abs (l := (partsS c w).take i) (B := 17592186044417) fun x hx => hb x (List.mem_of_mem_take hx)
      have hsl : ((partsS c w).take i).length ≤ 64 := by simp [partsS_length]; omega
      have hx := hb _ (List.getElem_mem hip)
      unfold treatylaw02_SplitAdds_l20
      dsimp only
      rw [if_pos (by simp; omega), chk_true (inb_nat hip), chk_true (inb_nat hi), ix_nat hip, ix_nat hi, if_neg, w64_id (by omega) (by omega), w64_id (by omega) (by omega), List.take_succ_eq_append_getElem hip, List.sum_append]
      · simp
      · have := partsS_zero hs hi
        simp only [Bool.and_eq_true, decide_eq_true_eq, Bool.not_eq_true', decide_eq_false_iff_not, not_and, Classical.not_not]
        exact this
    · unfold treatylaw02_SplitAdds_l20
      dsimp only
      rw [if_neg (by simp [partsS_length]), List.take_of_length_le (by rw [partsS_length]; omega)]
  rw [hloop, partsS_sum hs]
  simp [awake_ok]
end Go.Proofs.Yteohebcimnjlbaa.Pl
