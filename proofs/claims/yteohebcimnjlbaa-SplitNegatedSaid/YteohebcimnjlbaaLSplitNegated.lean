/- The law SplitNegated (plain). -/
import Derived.Test.YteohebcimnjlbaaLSplitP
namespace Go.Proofs.Yteohebcimnjlbaa.Pl
open Go

theorem quos_none (l : List Int) (W : Int) : (quos 0 l W).sum = 0 := by
  unfold quos
  induction l with
  | nil => rfl
  | cons x l ih =>
    simp only [List.map_cons, List.sum_cons, ih]
    simp
theorem splitD_none {l : List Int} {W : Int} {i : Nat} (hi : i < l.length) : (splitD 0 l W)[i]'(by rw [splitD_length]; exact hi) = 0 := by
  have hq : (quos 0 l W).sum = 0 := quos_none l W
  rw [splitD_at hi]
  unfold leftOf
  rw [hq]
  simp
theorem partsS_neg {a : Int} {l : List Int} {i : Nat} (hi : i < l.length) : (partsS a l)[i]'(by rw [partsS_length]; exact hi) = -(partsS (-a) l)[i]'(by rw [partsS_length]; exact hi) := by
  unfold partsS
  by_cases h0 : a = 0
  · subst h0
    simp only [Int.neg_zero, Int.le_refl, if_true, splitD_none hi]
  · by_cases h : 0 ≤ a
    · have h2 : ¬ 0 ≤ -a := by omega
      simp only [if_pos h, if_neg h2, List.getElem_map, Int.neg_neg]
    · have h2 : 0 ≤ -a := by omega
      simp only [if_neg h, if_pos h2, List.getElem_map]
theorem treatylaw02_SplitNegated_law (a : Int) (d : List Int) (_ : -9223372036854775808 ≤ a ∧ a ≤ 9223372036854775807) (_ : ∀ n ∈ d, -9223372036854775808 ≤ n ∧ n ≤ 9223372036854775807) (hd : d.length ≤ 9223372036854775807) : treatylaw02_SplitNegated a d = some true := by
  unfold treatylaw02_SplitNegated
  obtain ⟨k, e1, hk⟩ := new_ok hd
  obtain ⟨w, k2, e2, hk2, hw⟩ := weights_ok hk (n := 12) (by omega) (by omega)
  obtain ⟨c, e3, c0, c1⟩ := clamp_ok a
  have hs := hw.sok (by omega) c0 c1
  have hs2 := hw.sok (a := -c) (by omega) (by omega) (by omega)
  have hl := hs.len
  have e4 : w64 (0 - c) = -c := by rw [w64_id (by omega) (by omega)]; omega
  simp only [e1, e2, e3, e4, Option.bind_some, split_ok hs, split_ok hs2, partsS_length]
  have hb := partsS_bounds hs2
  have hloop : loopV (treatylaw02_SplitNegated_l20 (partsS c w, 0) (partsS (-c) w, 0)) 0 = some (.inr ()) := by
    refine loopV_done (step := treatylaw02_SplitNegated_l20 (partsS c w, 0) (partsS (-c) w, 0)) (fun i => (i : Int)) w.length (.inr ()) ?_ ?_
    · intro i hi
      have hip : i < (partsS c w).length := by rw [partsS_length]; exact hi
      have hiq : i < (partsS (-c) w).length := by rw [partsS_length]; exact hi
      have hx := hb _ (List.getElem_mem hiq)
      have hn := partsS_neg (a := c) hi
      unfold treatylaw02_SplitNegated_l20
      dsimp only
      rw [if_pos (by simp; omega), chk_true (inb_nat hip), chk_true (inb_nat hiq), ix_nat hip, ix_nat hiq, hn, w64_id (by omega) (by omega), w64_id (by omega) (by omega), if_neg (by simp)]
      rfl
    · unfold treatylaw02_SplitNegated_l20
      dsimp only
      rw [if_neg (by simp [partsS_length])]
  rw [hloop]
  simp [awake_ok]
end Go.Proofs.Yteohebcimnjlbaa.Pl
