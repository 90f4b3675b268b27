/- The law ProportionalAdds (plain). -/
import Derived.Test.YtlmhmpngjfjfhaaLPropL
namespace Go.Proofs.Ytlmhmpngjfjfhaa.Pl
open Go

theorem treatylaw21_ProportionalAdds_law (d : List Int) (_ : ∀ n ∈ d, -9223372036854775808 ≤ n ∧ n ≤ 9223372036854775807) (hd : d.length ≤ 9223372036854775807) : treatylaw21_ProportionalAdds d = some true := by
  unfold treatylaw21_ProportionalAdds
  obtain ⟨t, d1, e1, h1, _, _, hpv, _⟩ := made21_ok hd
  obtain ⟨s, d2, e2, a2, b2, h2⟩ := upto_ok h1 (n := 68719476736) (by omega) (by omega)
  obtain ⟨n, d3, e3, a3, b3, h3⟩ := upto_ok h2 (n := 68719476736) (by omega) (by omega)
  have pv := hpv s ⟨a2, b2⟩
  obtain ⟨p0, p1, p2, h4, e4, _⟩ := cede_good pv (a := n) a3 (by omega)
  rw [e1, Option.bind_some]
  dsimp only
  rw [e2, Option.bind_some]
  dsimp only
  rw [e3, Option.bind_some]
  dsimp only
  rw [e4, Option.bind_some, propAwake_ok]
  have hsum := h4.sum
  have n0 := h4.n0
  have n1 := h4.n1
  have n2 := h4.n2
  have hc : (cedC t p0 p1 p2).Kept + (cedC t p0 p1 p2).Ceded + (cedC t p0 p1 p2).Excess = n ∧ 0 ≤ (cedC t p0 p1 p2).Kept ∧ 0 ≤ (cedC t p0 p1 p2).Ceded ∧ 0 ≤ (cedC t p0 p1 p2).Excess ∧ (t.Kind ≠ 1 ∨ t.Limit = 0 ∨ (cedC t p0 p1 p2).Ceded ≤ t.Limit) := by
    unfold cedC
    split
    · dsimp only; omega
    · rename_i hc
      dsimp only
      refine ⟨by omega, by omega, by omega, by omega, ?_⟩
      by_cases hk : t.Kind = 1
      · have hl := pv.nums.lim hk
        omega
      · exact .inl hk
  obtain ⟨c1, c2, c3, c4, c5⟩ := hc
  generalize cedC t p0 p1 p2 = c at *
  dsimp only
  rw [minI_eq, minI_eq, w64_id (n := c.Kept + c.Ceded) (by omega) (by omega), w64_id (by omega) (by omega), if_pos]
  · rfl
  · simp
    omega
end Go.Proofs.Ytlmhmpngjfjfhaa.Pl
