/- The law LedgerValidate (plain). -/
import Derived.Test.YtadkcelipefpmaaLLw
namespace Go.Proofs.Ytadkcelipefpmaa.Pl
open Go

theorem treatylaw33_LedgerValidate_law (raw : GLedger) (x : GEntry) (d : List Int) (a n : Int) (hd : d.length ≤ 9223372036854775807) : treatylaw33_LedgerValidate raw x d a n = some true := by
  unfold treatylaw33_LedgerValidate
  by_cases h : 200 < raw.Postings.length
  · rw [if_pos (by simp; omega), awake33]
    rfl
  · rw [if_neg (by simp; omega)]
    obtain ⟨l, k, e1, hm⟩ := few33 hd a n
    obtain ⟨r1, h1, _⟩ := validate_full raw
    obtain ⟨r2, h2, _⟩ := validate_full k
    simp only [e1, Option.bind_some, validate_same, h1, h2, rvalidate_ok hm.ok, pvalid_eq, rvalid_eq, awake33, decide_true, BEq.rfl, if_true]
end Go.Proofs.Ytadkcelipefpmaa.Pl
