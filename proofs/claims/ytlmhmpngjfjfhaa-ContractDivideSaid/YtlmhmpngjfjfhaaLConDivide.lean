/- The law ContractDivide (plain). -/
import Derived.Test.YtlmhmpngjfjfhaaLConS
namespace Go.Proofs.Ytlmhmpngjfjfhaa.Pl
open Go

theorem clampC_ok (a : Int) : ∃ c, treatyref01_Clamp a = some c := by
  unfold treatyref01_Clamp
  by_cases h1 : 17592186044416 < a
  · exact ⟨_, by rw [if_pos (by simpa using h1)]⟩
  · by_cases h2 : a < -17592186044416
    · exact ⟨_, by rw [if_neg (by simpa using h1), if_pos (by simpa using h2)]⟩
    · exact ⟨_, by rw [if_neg (by simpa using h1), if_neg (by simpa using h2)]⟩
theorem treatylaw20_ContractDivide_law (a : Int) (l : List GPart) (d : List Int) (hd : d.length ≤ 9223372036854775807) : treatylaw20_ContractDivide a l d = some true := by
  unfold treatylaw20_ContractDivide
  by_cases hc : 100 < l.length
  · rw [if_pos (by simp; omega), conAwake_ok]
    rfl
  · rw [if_neg (by simp; omega)]
    obtain ⟨k, e1, hk⟩ := new_ok hd
    obtain ⟨p, k2, e2, _⟩ := partsMade_ok hk
    obtain ⟨c, e3⟩ := clampC_ok a
    simp only [e1, e2, e3, Option.bind_some, divide_eq, rdivide_eq, sameInts_eq (show (divideS a l).1.length ≤ 1000000 by have := divideS_length a l; omega), sameInts_eq (show (divideS c p).1.length ≤ 1000000 by have := divideS_length c p; omega), decide_true, Bool.and_true, if_true, conAwake_ok]
end Go.Proofs.Ytlmhmpngjfjfhaa.Pl
