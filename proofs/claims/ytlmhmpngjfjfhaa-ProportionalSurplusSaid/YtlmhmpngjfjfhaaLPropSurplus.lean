/- The law ProportionalSurplus (plain). -/
import Derived.Test.YtlmhmpngjfjfhaaLPropL
namespace Go.Proofs.Ytlmhmpngjfjfhaa.Pl
open Go

theorem treatylaw21_ProportionalSurplus_law (d : List Int) (x a : Int) (_ : ∀ n ∈ d, -9223372036854775808 ≤ n ∧ n ≤ 9223372036854775807) (hd : d.length ≤ 9223372036854775807) : treatylaw21_ProportionalSurplus d x a = some true := by
  unfold treatylaw21_ProportionalSurplus
  obtain ⟨d1, e1, h1⟩ := new_ok hd
  obtain ⟨t, d2, e2, h2, hb, hp⟩ := treaty_ok h1 (id := 1) (kind := 2) (by omega)
  have hf := hp (by omega)
  have hk : t.Kind = 2 := hb.hkind
  have hv := made_valid (by omega) hb (by omega) (propF_fields hf hb.prem)
  have hpv : ∀ s, 0 ≤ s ∧ s ≤ 68719476736 → PV t s := fun s hs => ⟨hb.len, hv, by omega, hs⟩
  have hnum : (1 ≤ t.Line ∧ t.Line ≤ 1073741824) ∧ (1 ≤ t.Lines ∧ t.Lines ≤ 9) := by
    obtain ⟨_, _, _, _, _, _, _, h8⟩ := hf
    omega
  obtain ⟨⟨l0, l1⟩, ls0, ls1⟩ := hnum
  have hprod : 1 ≤ t.Line * t.Lines ∧ t.Line * t.Lines ≤ 9663676416 := by
    have b1 := Int.mul_le_mul_of_nonneg_right ls1 (show 0 ≤ t.Line by omega)
    have b0 := Int.mul_le_mul_of_nonneg_right ls0 (show 0 ≤ t.Line by omega)
    rw [Int.mul_comm t.Line t.Lines]
    omega
  obtain ⟨n, e3, a3, b3⟩ := within_ok a (n := 1048576) (by omega) (by omega)
  obtain ⟨s1, e4, a4, b4⟩ := within_ok x (n := t.Line + 1) (by omega) (by omega)
  obtain ⟨y, e5, a5, b5⟩ := within_ok x (n := 1048576) (by omega) (by omega)
  rw [e1, Option.bind_some, e2, Option.bind_some, e3, Option.bind_some]
  dsimp only
  have pv1 := hpv s1 (by omega)
  have pv2 := hpv (t.Line + t.Line * t.Lines) (by omega)
  have pv3 := hpv (t.Line + y) (by omega)
  obtain ⟨p0, p1, p2, t1, c1, _⟩ := cede_good pv1 (a := n) a3 (by omega)
  obtain ⟨q0, q1, q2, t2, c2, _⟩ := cede_good pv2 (a := n) a3 (by omega)
  obtain ⟨r0, r1, r2, t3, c3, _⟩ := cede_good pv3 (a := n) a3 (by omega)
  have ced : ∀ p0 p1 p2, cedC t p0 p1 p2 = ⟨p1, p0, p2⟩ := fun p0 p1 p2 => by
    unfold cedC
    rw [if_neg (by omega)]
  rw [ced] at c1 c2 c3
  have k1 := pv1.sok (a := n) a3 (by omega)
  have k2 := pv2.sok (a := n) a3 (by omega)
  have k3 := pv3.sok (a := n) a3 (by omega)
  have hm : t.Line * t.Lines = t.Lines * t.Line := Int.mul_comm _ _
  have w1 : ∃ w, wOf t s1 = [w, 0, 0] := by
    unfold wOf
    rw [if_pos hk]
    by_cases h0 : s1 = 0
    · exact ⟨1, by rw [if_pos h0]⟩
    · refine ⟨s1, ?_⟩
      rw [if_neg h0, show min s1 t.Line = s1 by omega]
      generalize t.Lines * t.Line = P at *
      rw [show s1 - s1 = 0 by omega, show min 0 P = 0 by omega]
      simp
  have w2 : wOf t (t.Line + t.Line * t.Lines) = [t.Line, t.Line * t.Lines, 0] := by
    unfold wOf
    rw [if_pos hk, if_neg (by omega), ← hm]
    generalize t.Line * t.Lines = P at *
    rw [show min (t.Line + P) t.Line = t.Line by omega, show t.Line + P - t.Line = P by omega, show min P P = P by omega, Int.sub_self]
  have w3 : ∃ u v, wOf t (t.Line + y) = [t.Line, u, v] ∧ t.Line + u + v = t.Line + y := by
    unfold wOf
    rw [if_pos hk, if_neg (by omega), ← hm]
    generalize t.Line * t.Lines = P at *
    rw [show min (t.Line + y) t.Line = t.Line by omega, show t.Line + y - t.Line = y by omega]
    exact ⟨_, _, rfl, by omega⟩
  obtain ⟨w, w1⟩ := w1
  obtain ⟨u, v, w3, hw3⟩ := w3
  rw [w1] at t1 k1
  rw [w2] at t2 k2
  rw [w3] at t3 k3
  have z1 := t1.zero k1
  have z2 := t2.zero k2
  have n3 := (t3.near k3).1
  rw [hw3] at n3
  have u1 := t1.sum
  have u3 := t3.sum
  have v0 := t3.n0
  have v1 := t3.n1
  have v2 := t3.n2
  have x1 : p1 = 0 := z1.2.1 rfl
  have x2 : p2 = 0 := z1.2.2 rfl
  have y2 : q2 = 0 := z2.2.2 rfl
  have hr0 : 0 ≤ r0 * (t.Line + y) ∧ r0 * (t.Line + y) ≤ 1048576 * 1074790400 := by
    have g0 := Int.mul_nonneg v0 (show 0 ≤ t.Line + y by omega)
    have g1 := Int.mul_le_mul_of_nonneg_right (show r0 ≤ 1048576 by omega) (show 0 ≤ t.Line + y by omega)
    have g2 := Int.mul_le_mul_of_nonneg_left (show t.Line + y ≤ 1074790400 by omega) (show (0 : Int) ≤ 1048576 by omega)
    omega
  have hn0 : 0 ≤ n * t.Line ∧ n * t.Line ≤ 1048576 * 1073741824 := by
    have g0 := Int.mul_nonneg a3 (show 0 ≤ t.Line by omega)
    have g1 := Int.mul_le_mul_of_nonneg_right (show n ≤ 1048576 by omega) (show 0 ≤ t.Line by omega)
    have g2 := Int.mul_le_mul_of_nonneg_left l1 (show (0 : Int) ≤ 1048576 by omega)
    omega
  rw [w64_id (n := t.Line + 1) (by omega) (by omega), e4, Option.bind_some, c1, Option.bind_some, Option.bind_some, w64_id (n := t.Line * t.Lines) (by omega) (by omega), w64_id (n := t.Line + t.Line * t.Lines) (by omega) (by omega), c2, Option.bind_some, e5, Option.bind_some, w64_id (n := t.Line + y) (by omega) (by omega), c3, Option.bind_some, propAwake_ok]
  dsimp only
  generalize r0 * (t.Line + y) = A at *
  generalize n * t.Line = B at *
  rw [w64_id (n := A) (by omega) (by omega), w64_id (n := B) (by omega) (by omega), w64_id (n := A - B) (by omega) (by omega), w64_id (n := 0 - (A - B)) (by omega) (by omega), if_neg, if_pos]
  · rfl
  · simp
    omega
  · simp
    omega
end Go.Proofs.Ytlmhmpngjfjfhaa.Pl
