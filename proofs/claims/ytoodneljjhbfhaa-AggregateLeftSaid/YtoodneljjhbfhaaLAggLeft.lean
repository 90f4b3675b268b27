/- The law AggregateLeft (plain). -/
import Derived.Test.YtoodneljjhbfhaaLAggM
namespace Go.Proofs.Ytoodneljjhbfhaa.Pl
open Go

theorem treatylaw23_AggregateLeft_law (l : List Int) (n k : Int) (d : List Int) (_ : ∀ n ∈ l, -9223372036854775808 ≤ n ∧ n ≤ 9223372036854775807) (_ : l.length ≤ 9223372036854775807) (_ : -9223372036854775808 ≤ n ∧ n ≤ 9223372036854775807) (_ : -9223372036854775808 ≤ k ∧ k ≤ 9223372036854775807) (_ : ∀ n ∈ d, -9223372036854775808 ≤ n ∧ n ≤ 9223372036854775807) (hd : d.length ≤ 9223372036854775807) : treatylaw23_AggregateLeft l n k d = some true := by
  unfold treatylaw23_AggregateLeft
  by_cases hc : 100 < l.length
  · rw [if_pos (by simp; omega), aggAwake_ok]
    rfl
  · rw [if_neg (by simp; omega)]
    obtain ⟨m, a, b, d', e, _⟩ := made_ok hd
    simp only [e, Option.bind_some, left_eq, rleft_eq, decide_true, Bool.and_true, if_true, aggAwake_ok]
end Go.Proofs.Ytoodneljjhbfhaa.Pl
