/- The law AggregateApply (plain). -/
import Derived.Test.YtoodneljjhbfhaaLAggM
namespace Go.Proofs.Ytoodneljjhbfhaa.Pl
open Go

theorem applyS_length (l : List Int) (d m : Int) : (applyS l d m).1.length ≤ 64 := by
  unfold applyS
  rcases totS_ok (l := l) (d := d) (m := m) with ⟨h, e⟩ | ⟨c, e, hc⟩
  · rw [e, if_pos rfl]
    simpa [steps_length] using h.len
  · rw [e, if_neg hc]
    simp
theorem treatylaw23_AggregateApply_law (l : List Int) (n k : Int) (d : List Int) (_ : ∀ n ∈ l, -9223372036854775808 ≤ n ∧ n ≤ 9223372036854775807) (_ : l.length ≤ 9223372036854775807) (_ : -9223372036854775808 ≤ n ∧ n ≤ 9223372036854775807) (_ : -9223372036854775808 ≤ k ∧ k ≤ 9223372036854775807) (_ : ∀ n ∈ d, -9223372036854775808 ≤ n ∧ n ≤ 9223372036854775807) (hd : d.length ≤ 9223372036854775807) : treatylaw23_AggregateApply l n k d = some true := by
  unfold treatylaw23_AggregateApply
  by_cases hc : 100 < l.length
  · rw [if_pos (by simp; omega), aggAwake_ok]
    rfl
  · rw [if_neg (by simp; omega)]
    obtain ⟨m, a, b, d', e, _⟩ := made_ok hd
    simp only [e, Option.bind_some, apply_eq, rapply_eq, sameInts_eq (show (applyS l n k).1.length ≤ 1000000 by have := applyS_length l n k; omega), sameInts_eq (show (applyS m a b).1.length ≤ 1000000 by have := applyS_length m a b; omega), decide_true, Bool.and_true, if_true, aggAwake_ok]
end Go.Proofs.Ytoodneljjhbfhaa.Pl
