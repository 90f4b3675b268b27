/- The law SplitParts (plain). -/
import Derived.Test.YteohebcimnjlbaaLSplitP
namespace Go.Proofs.Yteohebcimnjlbaa.Pl
open Go

theorem splitS_length (a : Int) (l : List Int) : (splitS a l).1.length ≤ 64 := by
  unfold splitS
  repeat' split
  all_goals simp [splitD_length] <;> omega
theorem treatylaw02_SplitParts_law (a : Int) (l d : List Int) (_ : -9223372036854775808 ≤ a ∧ a ≤ 9223372036854775807) (_ : ∀ n ∈ l, -9223372036854775808 ≤ n ∧ n ≤ 9223372036854775807) (_ : l.length ≤ 9223372036854775807) (_ : ∀ n ∈ d, -9223372036854775808 ≤ n ∧ n ≤ 9223372036854775807) (hd : d.length ≤ 9223372036854775807) : treatylaw02_SplitParts a l d = some true := by
  unfold treatylaw02_SplitParts
  by_cases hc : 100 < l.length
  · rw [if_pos (by simp; omega), awake_ok]
    rfl
  · rw [if_neg (by simp; omega), split_eq, refSplit_eq]
    obtain ⟨k, e1, hk⟩ := new_ok hd
    obtain ⟨w, k2, e2, hk2, hw⟩ := weights_ok hk (n := 12) (by omega) (by omega)
    obtain ⟨c, e3, _, _⟩ := clamp_ok a
    simp only [e1, e2, e3, Option.bind_some, split_eq, refSplit_eq, sameInts_eq (show (splitS a l).1.length ≤ 1000000 by have := splitS_length a l; omega), sameInts_eq (show (splitS c w).1.length ≤ 1000000 by have := splitS_length c w; omega), decide_true, Bool.and_true, if_true, awake_ok]
end Go.Proofs.Yteohebcimnjlbaa.Pl
