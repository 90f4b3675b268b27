/- The law ProportionalWeights (plain). -/
import Derived.Test.YtlmhmpngjfjfhaaLPropL
namespace Go.Proofs.Ytlmhmpngjfjfhaa.Pl
open Go

theorem weights_both {t : GTreaty} (h : TLen t) (s : Int) : ∃ w e, proportional_Weights t s = some (w, e) ∧ treatyref20_Weights t s = some (w, e) ∧ w.length ≤ 3 := by
  by_cases hp : PV t s
  · obtain ⟨e1, e2⟩ := weights_good hp
    obtain ⟨x, y, z, e, _⟩ := hp.w3
    exact ⟨_, _, e1, e2, by rw [e]; simp⟩
  · obtain ⟨e, _, e1, e2⟩ := weights_bad h hp
    exact ⟨_, _, e1, e2, by simp⟩
theorem treatylaw21_ProportionalWeights_law (d : List Int) (s k : Int) (_ : ∀ n ∈ d, -9223372036854775808 ≤ n ∧ n ≤ 9223372036854775807) (hd : d.length ≤ 9223372036854775807) : treatylaw21_ProportionalWeights d s k = some true := by
  unfold treatylaw21_ProportionalWeights
  obtain ⟨t, d1, e1, h1, hl, _⟩ := made21_ok hd
  obtain ⟨s2, d2, e2, a2, b2, h2⟩ := upto_ok h1 (n := 68719476736) (by omega) (by omega)
  obtain ⟨u, e3, hu⟩ := any21_ok hd k
  obtain ⟨w1, f1, c1, r1, l1⟩ := weights_both hl s
  obtain ⟨w2, f2, c2, r2, l2⟩ := weights_both hl s2
  obtain ⟨w3, f3, c3, r3, l3⟩ := weights_both hu s2
  rw [e1, Option.bind_some]
  dsimp only
  rw [c1, Option.bind_some, r1, Option.bind_some, e2, Option.bind_some]
  dsimp only
  rw [c2, Option.bind_some, r2, Option.bind_some, e3, Option.bind_some, c3, Option.bind_some, r3, Option.bind_some]
  dsimp only
  rw [sameInts_eq (by omega), sameInts_eq (by omega), sameInts_eq (by omega), propAwake_ok]
  simp
end Go.Proofs.Ytlmhmpngjfjfhaa.Pl
