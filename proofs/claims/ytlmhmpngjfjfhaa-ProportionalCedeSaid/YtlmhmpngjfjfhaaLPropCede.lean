/- The law ProportionalCede (plain). -/
import Derived.Test.YtlmhmpngjfjfhaaLPropL
namespace Go.Proofs.Ytlmhmpngjfjfhaa.Pl
open Go

theorem cede_both {t : GTreaty} (h : TLen t) (s a : Int) : ∃ c e, proportional_Cede t s a = some (c, e) ∧ treatyref20_Cede t s a = some (c, e) := by
  by_cases hp : PV t s ∧ 0 ≤ a ∧ a ≤ 17592186044416
  · obtain ⟨p0, p1, p2, _, e1, e2, _⟩ := cede_good hp.1 hp.2.1 hp.2.2
    exact ⟨_, _, e1, e2⟩
  · obtain ⟨e, _, e1, e2, _⟩ := cede_bad h hp
    exact ⟨_, _, e1, e2⟩
theorem treatylaw21_ProportionalCede_law (d : List Int) (s a k : Int) (_ : ∀ n ∈ d, -9223372036854775808 ≤ n ∧ n ≤ 9223372036854775807) (hd : d.length ≤ 9223372036854775807) : treatylaw21_ProportionalCede d s a k = some true := by
  unfold treatylaw21_ProportionalCede
  obtain ⟨t, d1, e1, h1, hl, _⟩ := made21_ok hd
  obtain ⟨s2, d2, e2, a2, b2, h2⟩ := upto_ok h1 (n := 68719476736) (by omega) (by omega)
  obtain ⟨n, d3, e3, a3, b3, h3⟩ := upto_ok h2 (n := 68719476736) (by omega) (by omega)
  obtain ⟨u, e4, hu⟩ := any21_ok hd k
  obtain ⟨w1, f1, c1, r1⟩ := cede_both hl s2 n
  obtain ⟨w2, f2, c2, r2⟩ := cede_both hl s a
  obtain ⟨w3, f3, c3, r3⟩ := cede_both hu s2 a
  rw [e1, Option.bind_some]
  dsimp only
  rw [e2, Option.bind_some]
  dsimp only
  rw [e3, Option.bind_some, e4, Option.bind_some]
  dsimp only
  rw [c1, Option.bind_some, r1, Option.bind_some, c2, Option.bind_some, r2, Option.bind_some, c3, Option.bind_some, r3, Option.bind_some, propAwake_ok]
  simp
end Go.Proofs.Ytlmhmpngjfjfhaa.Pl
