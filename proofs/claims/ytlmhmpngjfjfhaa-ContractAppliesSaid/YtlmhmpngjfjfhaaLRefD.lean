/- treatyref01.Divide (plain): binary digits give the quotient and the remainder. -/
import Derived.Test.YtlmhmpngjfjfhaaLSplitC
namespace Go.Proofs.Ytlmhmpngjfjfhaa.Pl
open Go

theorem bAnd1 {x : Int} (h0 : 0 ≤ x) (h1 : x < 9223372036854775808) : bAnd .i64 x 1 = x % 2 := by
  unfold bAnd
  obtain ⟨n, rfl⟩ := Int.eq_ofNat_of_zero_le h0
  have e : (BitVec.ofInt IntKind.i64.bits (n : Int) &&& BitVec.ofInt IntKind.i64.bits 1).toNat = n % 2 := by
    rw [BitVec.toNat_and]
    have e1 : (BitVec.ofInt IntKind.i64.bits (n : Int)).toNat = n := by
      rw [BitVec.toNat_ofInt]
      have : ((2 : Nat) ^ IntKind.i64.bits : Nat) = 18446744073709551616 := by decide
      rw [this]
      omega
    have e2 : (BitVec.ofInt IntKind.i64.bits 1).toNat = 1 := by decide
    rw [e1, e2, Nat.and_one_is_mod]
  rw [e]
  show w64 _ = _
  rw [w64_id (by omega) (by omega)]
  omega
theorem shr_nat {x : Int} {k : Nat} (hk : k < 64) : bShr .i64 x (u64 (k : Int)) = x / 2 ^ k := by
  unfold bShr
  rw [u64_id (by omega) (by omega)]
  have : min ((k : Int).toNat) IntKind.i64.bits = k := by
    have : IntKind.i64.bits = 64 := rfl
    rw [this]
    omega
  rw [this, Int.fdiv_eq_ediv_of_nonneg]
  exact Int.le_of_lt (Int.pow_pos (by decide))
/-- one more digit -/
theorem digit {x num den : Int} (hd : 0 < den) (t : Int) (ht : t = 2 * ((x / 2) * num % den) + (if x % 2 = 1 then num else 0)) :
    x * num / den = 2 * ((x / 2) * num / den) + t / den ∧ x * num % den = t % den := by
  have h1 := Int.mul_ediv_add_emod ((x / 2) * num) den
  have hx : x * num = t + den * (2 * ((x / 2) * num / den)) := by
    generalize hq : (x / 2) * num / den = q at h1 ht ⊢
    generalize hr : (x / 2) * num % den = r at h1 ht ⊢
    have e : den * (2 * q) = 2 * (den * q) := by rw [← Int.mul_assoc, Int.mul_comm den 2, Int.mul_assoc]
    rw [e]
    have hx2 : x * num = 2 * (x / 2 * num) + (x % 2) * num := by
      rw [← Int.mul_assoc, ← Int.add_mul]
      congr 1
      omega
    have hm : x % 2 * num = if x % 2 = 1 then num else 0 := by
      split
      · rename_i h; rw [h, Int.one_mul]
      · have : x % 2 = 0 := by omega
        rw [this, Int.zero_mul]
    rw [hm] at hx2
    omega
  rw [hx, Int.add_mul_ediv_left _ _ (by omega), Int.add_mul_emod_self_left]
  constructor
  · omega
  · rfl
theorem refDivide_ok {a num den : Int} (ha : 0 ≤ a) (ha1 : a < 70368744177664) (hn : 0 ≤ num) (hn1 : num ≤ 1125899906842624) (hd : 0 < den) (hd1 : den ≤ 1152921504606846976) (hq : a * num / den ≤ 35184372088832) :
    treatyref01_Divide a num den = some (a * num / den, a * num % den, true) := by
  unfold treatyref01_Divide
  have mono : ∀ k : Nat, 0 ≤ a / 2 ^ k ∧ a / 2 ^ k ≤ a := fun k => by
    have hp : (0 : Int) < 2 ^ k := Int.pow_pos (by decide)
    exact ⟨Int.ediv_nonneg ha (Int.le_of_lt hp), Int.ediv_le_self _ ha⟩
  have qle : ∀ k : Nat, 0 ≤ a / 2 ^ k * num / den ∧ a / 2 ^ k * num / den ≤ 35184372088832 := fun k => by
    refine ⟨Int.ediv_nonneg (Int.mul_nonneg (mono k).1 hn) (Int.le_of_lt hd), Int.le_trans (Int.ediv_le_ediv hd (Int.mul_le_mul_of_nonneg_right (mono k).2 hn)) hq⟩
  have hd' := loopV_done (step := treatyref01_Divide_l8 a num den) (fun j => (a / 2 ^ (46 - j) * num / den, a / 2 ^ (46 - j) * num % den, 45 - (j : Int))) 46 (.inr (a * num / den, a * num % den)) ?_ ?_
  · have e0 : a / 2 ^ (46 - 0) = 0 := Int.ediv_eq_zero_of_lt ha (by omega)
    simp only [e0, Int.zero_mul, Int.zero_ediv, Int.zero_emod] at hd'
    have hd2 : loopV (treatyref01_Divide_l8 a num den) (0, 0, 45) = some (.inr (a * num / den, a * num % den)) := hd'
    rw [hd2]
    rfl
  · intro j hj
    obtain ⟨k, hk⟩ : ∃ k, 46 - j = k + 1 := ⟨45 - j, by omega⟩
    have hk2 : 46 - (j + 1) = k := by omega
    have hk3 : (45 : Int) - (j : Int) = (k : Int) := by omega
    rw [hk, hk2, hk3]
    unfold treatyref01_Divide_l8
    dsimp only
    have hx : a / 2 ^ (k + 1) = a / 2 ^ k / 2 := by
      rw [Int.pow_succ, Int.ediv_ediv_of_nonneg (Int.le_of_lt (Int.pow_pos (by decide)))]
    have hm := mono k
    have hq1 := qle k
    have hq2 := qle (k + 1)
    have hu : u64 (k : Int) = (k : Int) := u64_id (by omega) (by omega)
    rw [if_pos (by simp), chk_true (by rw [hu]; simp), shr_nat (by omega), bAnd1 hm.1 (by omega)]
    rw [hx] at hq2 ⊢
    generalize a / 2 ^ k = x at hm hq1 hq2
    have hr0 := Int.emod_nonneg (x / 2 * num) (show den ≠ 0 by omega)
    have hr1 := Int.emod_lt_of_pos (x / 2 * num) hd
    obtain ⟨g1, g2⟩ := digit (x := x) (num := num) hd _ rfl
    rw [g1] at hq1
    rw [g1, g2]
    generalize x / 2 * num / den = q at *
    generalize x / 2 * num % den = r at *
    have hif : (if decide (x % 2 = 1) = true then some (w64 (w64 (2 * r) + num)) else some (w64 (2 * r))) = some (2 * r + if x % 2 = 1 then num else 0) := by
      by_cases hb : x % 2 = 1
      · rw [if_pos (by simpa using hb), if_pos hb, w64_id (n := 2 * r) (by omega) (by omega), w64_id (by omega) (by omega)]
      · rw [if_neg (by simpa using hb), if_neg hb, w64_id (by omega) (by omega), Int.add_zero]
    rw [hif, Option.bind_some]
    have ht0 : 0 ≤ 2 * r + (if x % 2 = 1 then num else 0) := by split <;> omega
    generalize (2 * r + if x % 2 = 1 then num else 0) = t at *
    have htd0 := Int.ediv_nonneg ht0 (Int.le_of_lt hd)
    rw [chk_true (by simp; omega), Int.tdiv_eq_ediv_of_nonneg ht0, Int.tmod_eq_emod_of_nonneg ht0, w64_id (n := 2 * q) (by omega) (by omega), w64_id (n := t / den) (by omega) (by omega), w64_id (n := 2 * q + t / den) (by omega) (by omega), if_neg (by simp; omega), w64_id (by omega) (by omega)]
    congr 4
    omega
  · unfold treatyref01_Divide_l8
    dsimp only
    rw [if_neg (by simp)]
    simp
end Go.Proofs.Ytlmhmpngjfjfhaa.Pl
