/- The law ProportionalPremium (plain). -/
import Derived.Test.YtlmhmpngjfjfhaaLPropL
namespace Go.Proofs.Ytlmhmpngjfjfhaa.Pl
open Go

theorem premium_both {t : GTreaty} (h : TLen t) (s a : Int) : ∃ c e, proportional_Premium t s a = some (c, e) ∧ treatyref20_Premium t s a = some (c, e) := by
  by_cases hp : PV t s ∧ 0 ≤ a ∧ a ≤ 17592186044416
  · obtain ⟨p0, p1, p2, _, _, _, e1, e2⟩ := cede_good hp.1 hp.2.1 hp.2.2
    exact ⟨_, _, e1, e2⟩
  · obtain ⟨e, _, _, _, e1, e2⟩ := cede_bad h hp
    exact ⟨_, _, e1, e2⟩
theorem treatylaw21_ProportionalPremium_law (d : List Int) (s a k : Int) (_ : ∀ n ∈ d, -9223372036854775808 ≤ n ∧ n ≤ 9223372036854775807) (hd : d.length ≤ 9223372036854775807) : treatylaw21_ProportionalPremium d s a k = some true := by
  unfold treatylaw21_ProportionalPremium
  obtain ⟨t, d1, e1, h1, hl, hf, _, id, kind, hid, hkind, hb⟩ := made21_ok hd
  obtain ⟨s2, d2, e2, a2, b2, h2⟩ := upto_ok h1 (n := 68719476736) (by omega) (by omega)
  obtain ⟨n, d3, e3, a3, b3, h3⟩ := upto_ok h2 (n := 68719476736) (by omega) (by omega)
  obtain ⟨u, e4, hu⟩ := any21_ok hd k
  obtain ⟨w1, f1, c1, r1⟩ := premium_both hl s a
  obtain ⟨w2, f2, c2, r2⟩ := premium_both hu s2 a
  obtain ⟨g1, g2, g3, g4, g5, g6, g7, g8⟩ := hf
  have hb' : TBase (GTreaty.mk t.ID t.Kind t.Period t.Perils t.Areas t.Risk t.Cession t.Line t.Lines t.Retention 0 t.Window t.Deductible t.Aggregate t.Premium t.Reinstatements t.Timed t.Base t.Inures t.Parts) id kind := ⟨hb.hid, hb.hkind, hb.per, hb.perils, hb.areas, hb.prem, hb.inu, hb.rein, hb.parts⟩
  have hf' : PropF (GTreaty.mk t.ID t.Kind t.Period t.Perils t.Areas t.Risk t.Cession t.Line t.Lines t.Retention 0 t.Window t.Deductible t.Aggregate t.Premium t.Reinstatements t.Timed t.Base t.Inures t.Parts) := by
    refine ⟨g1, g2, g3, g4, g5, g6, g7, ?_⟩
    dsimp only
    omega
  have pv : PV (GTreaty.mk t.ID t.Kind t.Period t.Perils t.Areas t.Risk t.Cession t.Line t.Lines t.Retention 0 t.Window t.Deductible t.Aggregate t.Premium t.Reinstatements t.Timed t.Base t.Inures t.Parts) s2 := ⟨hb'.len, made_valid hid hb' (by omega) (propF_fields hf' hb'.prem), by have := hb'.hkind; omega, by omega⟩
  obtain ⟨p0, p1, p2, _, x1, _, x2, _⟩ := cede_good pv (a := n) a3 (by omega)
  have ced : cedC (GTreaty.mk t.ID t.Kind t.Period t.Perils t.Areas t.Risk t.Cession t.Line t.Lines t.Retention 0 t.Window t.Deductible t.Aggregate t.Premium t.Reinstatements t.Timed t.Base t.Inures t.Parts) p0 p1 p2 = ⟨p1, p0, p2⟩ := by
    unfold cedC
    rw [if_neg (by dsimp only; omega)]
  rw [ced] at x1
  rw [e1, Option.bind_some]
  dsimp only
  rw [e2, Option.bind_some]
  dsimp only
  rw [e3, Option.bind_some, c1, Option.bind_some, r1, Option.bind_some, e4, Option.bind_some]
  dsimp only
  rw [c2, Option.bind_some, r2, Option.bind_some, x2, Option.bind_some, x1, Option.bind_some, propAwake_ok]
  simp
end Go.Proofs.Ytlmhmpngjfjfhaa.Pl
