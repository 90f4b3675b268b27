/- The law ProportionalOpposite (plain). -/
import Derived.Test.YtlmhmpngjfjfhaaLPropL
namespace Go.Proofs.Ytlmhmpngjfjfhaa.Pl
open Go

theorem treatylaw21_ProportionalOpposite_law (d : List Int) (x a : Int) (_ : ∀ n ∈ d, -9223372036854775808 ≤ n ∧ n ≤ 9223372036854775807) (hd : d.length ≤ 9223372036854775807) : treatylaw21_ProportionalOpposite d x a = some true := by
  unfold treatylaw21_ProportionalOpposite
  obtain ⟨d1, e1, h1⟩ := new_ok hd
  obtain ⟨t, d2, e2, h2, hb, hp⟩ := treaty_ok h1 (id := 1) (kind := 1) (by omega)
  obtain ⟨f1, f2, f3, f4, f5, f6, f7, f8⟩ := hp (by omega)
  have hk : t.Kind = 1 := hb.hkind
  have f8' : t.Risk = 0 ∧ t.Line = 0 ∧ t.Lines = 0 := by omega
  have hpv : ∀ c, 1 ≤ c ∧ c ≤ 1000000 → PV (GTreaty.mk t.ID t.Kind t.Period t.Perils t.Areas t.Risk c t.Line t.Lines t.Retention 0 t.Window t.Deductible t.Aggregate t.Premium t.Reinstatements t.Timed t.Base t.Inures t.Parts) 0 := fun c hc => by
    have hb' : TBase (GTreaty.mk t.ID t.Kind t.Period t.Perils t.Areas t.Risk c t.Line t.Lines t.Retention 0 t.Window t.Deductible t.Aggregate t.Premium t.Reinstatements t.Timed t.Base t.Inures t.Parts) 1 1 := ⟨hb.hid, hb.hkind, hb.per, hb.perils, hb.areas, hb.prem, hb.inu, hb.rein, hb.parts⟩
    have hf' : PropF (GTreaty.mk t.ID t.Kind t.Period t.Perils t.Areas t.Risk c t.Line t.Lines t.Retention 0 t.Window t.Deductible t.Aggregate t.Premium t.Reinstatements t.Timed t.Base t.Inures t.Parts) :=
      ⟨f1, f2, f3, f4, f5, f6, f7, .inl ⟨hk, f8'.1, hc, f8'.2.1, f8'.2.2, by dsimp only; omega⟩⟩
    exact ⟨hb'.len, made_valid (by omega) hb' (by omega) (propF_fields hf' hb'.prem), by dsimp only; omega, by omega⟩
  obtain ⟨c, e3, a3, b3⟩ := within_ok x (n := 999999) (by omega) (by omega)
  obtain ⟨n, e4, a4, b4⟩ := within_ok a (n := 68719476737) (by omega) (by omega)
  have pv1 := hpv (1 + c) (by omega)
  have pv2 := hpv (1000000 - (1 + c)) (by omega)
  have pv3 := hpv 1000000 (by omega)
  obtain ⟨p0, p1, p2, t1, c1, _⟩ := cede_good pv1 (a := n) a4 (by omega)
  obtain ⟨q0, q1, q2, t2, c2, _⟩ := cede_good pv2 (a := n) a4 (by omega)
  obtain ⟨r0, r1, r2, t3, c3, _⟩ := cede_good pv3 (a := n) a4 (by omega)
  have ced : ∀ (t : GTreaty) p0 p1 p2, t.Limit = 0 → cedC t p0 p1 p2 = ⟨p1, p0, p2⟩ := fun t p0 p1 p2 h => by
    unfold cedC
    rw [if_neg (by omega)]
  rw [ced _ _ _ _ rfl] at c1 c2 c3
  have wk : ∀ c, wOf (GTreaty.mk t.ID t.Kind t.Period t.Perils t.Areas t.Risk c t.Line t.Lines t.Retention 0 t.Window t.Deductible t.Aggregate t.Premium t.Reinstatements t.Timed t.Base t.Inures t.Parts) 0 = [1000000 - c, c, 0] := fun c => by
    unfold wOf
    dsimp only
    rw [if_neg (by omega)]
  have k1 := pv1.sok (a := n) a4 (by omega)
  have k2 := pv2.sok (a := n) a4 (by omega)
  have k3 := pv3.sok (a := n) a4 (by omega)
  rw [wk] at t1 k1 t2 k2 t3 k3
  have n1 := (t1.near k1).2
  have n2 := (t2.near k2).1
  have z3 := t3.zero k3
  have u1 := t1.sum
  have u2 := t2.sum
  have u3 := t3.sum
  have v1 := t1.n1
  have v0 := t1.n0
  have v2 := t1.n2
  have w0 := t2.n0
  have w1 := t2.n1
  have w2 := t2.n2
  have x0 : r0 = 0 := z3.1 (by omega)
  have x2 : r2 = 0 := z3.2.2 rfl
  rw [show (1000000 - (1000000 - (1 + c))) = 1 + c by omega] at n2
  rw [show 1000000 - (1 + c) + (1 + c) + 0 = (1000000 : Int) by omega] at n1
  rw [show (1 + c) + (1000000 - (1 + c)) + 0 = (1000000 : Int) by omega] at n2
  rw [e1, Option.bind_some, e2, Option.bind_some, e3, Option.bind_some, e4, Option.bind_some]
  dsimp only
  rw [w64_id (n := 1 + c) (by omega) (by omega), w64_id (n := 1000000 - (1 + c)) (by omega) (by omega), c1, Option.bind_some, c2, Option.bind_some, c3, Option.bind_some, propAwake_ok]
  dsimp only
  generalize n * (1 + c) = B at *
  rw [w64_id (n := p1 - q0) (by omega) (by omega), if_pos]
  · rfl
  · simp
    omega
end Go.Proofs.Ytlmhmpngjfjfhaa.Pl
