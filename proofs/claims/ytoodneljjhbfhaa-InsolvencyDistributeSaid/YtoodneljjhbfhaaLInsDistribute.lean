/- The law InsolvencyDistribute (plain). -/
import Derived.Test.YtoodneljjhbfhaaLInsM
namespace Go.Proofs.Ytoodneljjhbfhaa.Pl
open Go

theorem treatylaw38_InsolvencyDistribute_law (a : Int) (l : List GMutual) (d : List Int) (hd : d.length ≤ 9223372036854775807) : treatylaw38_InsolvencyDistribute a l d = some true := by
  unfold treatylaw38_InsolvencyDistribute
  by_cases hc : 100 < l.length
  · rw [if_pos (by simp; omega), insAwake_ok]
    rfl
  · rw [if_neg (by simp; omega)]
    obtain ⟨k, e1, hk⟩ := new2_ok hd
    obtain ⟨m, k2, e2, hk2, hm⟩ := mutuals_ok hk
    obtain ⟨u, k3, e3, _⟩ := small_ok hk2
    have hs : ∀ a l, treatyref33_SameDividends (distS a l).1 (distS a l).1 = some true := fun a l => sameDiv_refl (by have := distS_length a l; omega)
    simp only [e1, e2, e3, Option.bind_some, dist_eq, rdist_eq, hs, mutuals_same, validM_eq, hm.v.zero, decide_true, Bool.and_true, if_true, insAwake_ok]
end Go.Proofs.Ytoodneljjhbfhaa.Pl
