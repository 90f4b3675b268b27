/- Division of two digits by one, digit after digit (plain arithmetic). -/
import Derived.Test.YtlmhmpngjfjfhaaP
import Derived.Test.YtlmhmpngjfjfhaaLBase
namespace Go.Proofs.Ytlmhmpngjfjfhaa.Pl
open Go

theorem u64_id {n : Int} (h1 : 0 ≤ n) (h2 : n < 18446744073709551616) : u64 n = n := by
  simp [u64, IntKind.wrap, IntKind.bits, IntKind.signed]
  omega
theorem u64_mod (n : Int) : u64 n = n % 18446744073709551616 := by
  simp [u64, IntKind.wrap, IntKind.bits, IntKind.signed]

/-- one digit of the quotient: the estimate is lowered till it fits -/
theorem knuth {S : Type} (mk : Int → Int → S) (step : S → Option (S ⊕ Int)) {u d y1 y0 : Int} (hy1 : 2147483648 ≤ y1) (hy1' : y1 < 4294967296) (hy0 : 0 ≤ y0) (hy0' : y0 < 4294967296) (hd : 0 ≤ d) (hd' : d < 4294967296) (hu : 0 ≤ u) (hu' : u < y1 * 4294967296 + y0)
    (hstep : ∀ q r, step (mk q r) = if (decide (4294967296 ≤ q) || decide (u64 (u64 (4294967296 * r) + d) < u64 (q * y0))) = true then (if decide (4294967296 ≤ u64 (r + y1)) = true then some (.inr (u64 (q - 1))) else some (.inl (mk (u64 (q - 1)) (u64 (r + y1))))) else some (.inr q)) :
    loopV step (mk (u / y1) (u % y1)) = some ((u * 4294967296 + d) / (y1 * 4294967296 + y0)) := by
  have hY : 0 < y1 * 4294967296 + y0 := by omega
  generalize hQ : (u * 4294967296 + d) / (y1 * 4294967296 + y0) = Q
  have hQ0 : 0 ≤ Q := by rw [← hQ]; exact Int.ediv_nonneg (by omega) (by omega)
  have hup : ∀ q : Int, q * (y1 * 4294967296 + y0) ≤ u * 4294967296 + d → q ≤ Q := fun q h => by rw [← hQ]; exact Int.le_ediv_of_mul_le hY h
  have hlo : ∀ q : Int, u * 4294967296 + d < q * (y1 * 4294967296 + y0) → Q < q := fun q h => by rw [← hQ]; exact Int.ediv_lt_of_lt_mul hY h
  have hex : ∀ q : Int, q * (y1 * 4294967296 + y0) = q * y1 * 4294967296 + q * y0 := fun q => by rw [Int.mul_add, Int.mul_assoc]
  have hQB : Q < 4294967296 := hlo _ (by omega)
  have main : ∀ (n : Nat) (q r : Int), q = Q + n → 0 ≤ r → r < 4294967296 → q * y1 + r = u → q ≤ 4294967300 → loopV step (mk q r) = some Q := by
    intro n
    induction n with
    | zero =>
      intro q r hq hr hr' he hqb
      have hq' : q = Q := by simpa using hq
      have hc : (decide (4294967296 ≤ q) || decide (u64 (u64 (4294967296 * r) + d) < u64 (q * y0))) = false := by
        have h1 : ¬ 4294967296 ≤ q := by omega
        have hb0 : 0 ≤ q * y0 := Int.mul_nonneg (by omega) hy0
        have hb1 : q * y0 ≤ 4294967295 * 4294967295 := by
          have := Int.mul_le_mul (show q ≤ 4294967295 by omega) (show y0 ≤ 4294967295 by omega) hy0 (by omega)
          exact this
        have h2 : ¬ (u64 (u64 (4294967296 * r) + d) < u64 (q * y0)) := by
          rw [u64_id (n := 4294967296 * r) (by omega) (by omega), u64_id (n := 4294967296 * r + d) (by omega) (by omega), u64_id hb0 (by omega)]
          intro h3
          have := hlo q (by rw [hex]; omega)
          omega
        simp [h1, h2]
      have := hstep q r
      rw [hc] at this
      simp only [Bool.false_eq_true, if_false] at this
      rw [loopV_stop this, hq']
    | succ n ih =>
      intro q r hq hr hr' he hqb
      have hq1 : q - 1 = Q + n := by rw [hq]; omega
      have hqpos : 1 ≤ q := by omega
      have he1 : (q - 1) * y1 + (r + y1) = u := by rw [Int.sub_mul]; omega
      have hc : (decide (4294967296 ≤ q) || decide (u64 (u64 (4294967296 * r) + d) < u64 (q * y0))) = true := by
        by_cases h1 : 4294967296 ≤ q
        · simp [h1]
        · have hb0 : 0 ≤ q * y0 := Int.mul_nonneg (by omega) hy0
          have hb1 : q * y0 ≤ 4294967295 * 4294967295 := Int.mul_le_mul (show q ≤ 4294967295 by omega) (show y0 ≤ 4294967295 by omega) hy0 (by omega)
          have h2 : u64 (u64 (4294967296 * r) + d) < u64 (q * y0) := by
            rw [u64_id (n := 4294967296 * r) (by omega) (by omega), u64_id (n := 4294967296 * r + d) (by omega) (by omega), u64_id hb0 (by omega)]
            refine Int.not_le.1 fun h3 => ?_
            have := hup q (by rw [hex]; omega)
            omega
          simp [h2]
      have hs := hstep q r
      rw [hc, u64_id (n := q - 1) (by omega) (by omega), u64_id (n := r + y1) (by omega) (by omega)] at hs
      simp only [if_true] at hs
      by_cases hb : 4294967296 ≤ r + y1
      · simp only [hb, decide_true, if_true] at hs
        rw [loopV_stop hs]
        have h1 : q - 1 ≤ 4294967295 := by
          refine Int.not_lt.1 fun h => ?_
          have := Int.mul_le_mul_of_nonneg_right (show (4294967296 : Int) ≤ q - 1 by omega) (show 0 ≤ y1 by omega)
          omega
        have h2 : (q - 1) * y0 ≤ 4294967295 * 4294967295 := Int.mul_le_mul h1 (show y0 ≤ 4294967295 by omega) hy0 (by omega)
        have h3 := hup (q - 1) (by rw [hex]; omega)
        congr 1
        omega
      · simp only [hb, decide_false, Bool.false_eq_true, if_false] at hs
        rw [loopV_next hs]
        exact ih (q - 1) (r + y1) hq1 (by omega) (by omega) he1 (by omega)
  have hd0 := Int.mul_ediv_add_emod u y1
  have hm0 := Int.emod_nonneg u (show y1 ≠ 0 by omega)
  have hm1 := Int.emod_lt_of_pos u (show 0 < y1 by omega)
  have hle : Q ≤ u / y1 := by
    refine Int.le_ediv_of_mul_le (by omega) ?_
    have h1 : Q * (y1 * 4294967296 + y0) ≤ u * 4294967296 + d := by rw [← hQ]; exact Int.ediv_mul_le _ (by omega)
    rw [hex] at h1
    have h2 : 0 ≤ Q * y0 := Int.mul_nonneg hQ0 hy0
    omega
  have hub : u / y1 ≤ 4294967298 := by
    refine Int.lt_add_one_iff.1 (Int.ediv_lt_of_lt_mul (by omega) ?_)
    omega
  obtain ⟨n, hn⟩ := Int.eq_ofNat_of_zero_le (show 0 ≤ u / y1 - Q by omega)
  exact main n (u / y1) (u % y1) (by omega) hm0 (by omega) (by rw [Int.mul_comm]; exact hd0) (by omega)
end Go.Proofs.Ytlmhmpngjfjfhaa.Pl
