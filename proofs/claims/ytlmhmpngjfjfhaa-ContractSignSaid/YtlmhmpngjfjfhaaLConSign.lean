/- The law ContractSign (plain). -/
import Derived.Test.YtlmhmpngjfjfhaaLConS
namespace Go.Proofs.Ytlmhmpngjfjfhaa.Pl
open Go

theorem treatylaw20_ContractSign_law (l : List GPart) (m : Int) (d : List Int) (n : Int) (hd : d.length ≤ 9223372036854775807) : treatylaw20_ContractSign l m d n = some true := by
  unfold treatylaw20_ContractSign
  by_cases hc : 100 < l.length
  · rw [if_pos (by simp; omega), conAwake_ok]
    rfl
  · rw [if_neg (by simp; omega)]
    obtain ⟨k, e1, hk⟩ := new_ok hd
    obtain ⟨p, k2, e2, hk2, _⟩ := written_ok hk
    obtain ⟨u, k3, e3, _⟩ := upto_ok hk2 (n := 1000000) (by omega) (by omega)
    have hs : ∀ l m, treatyref20_SameParts (signS l m).1 (signS l m).1 = some true := fun l m => sameParts_refl (by have := signS_length l m; omega)
    simp only [e1, e2, e3, Option.bind_some, sign_eq, rsign_eq, hs, decide_true, Bool.and_true, if_true, conAwake_ok]
end Go.Proofs.Ytlmhmpngjfjfhaa.Pl
