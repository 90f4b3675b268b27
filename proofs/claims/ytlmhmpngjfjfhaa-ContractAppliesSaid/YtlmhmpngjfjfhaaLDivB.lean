/- bits.Div64's plain program returns the quotient and the remainder. -/
import Derived.Test.YtlmhmpngjfjfhaaLDiv
import Derived.Lib.ItoaNum
namespace Go.Proofs.Ytlmhmpngjfjfhaa.Pl
open Go

theorem bAnd32 {x : Int} (h1 : 0 ≤ x) (h2 : x < 18446744073709551616) : bAnd .u64 x 4294967295 = x % 4294967296 := by
  obtain ⟨a, rfl⟩ := Int.eq_ofNat_of_zero_le h1
  have ha : a < 18446744073709551616 := by omega
  have e : (BitVec.ofInt 64 (a : Int) &&& BitVec.ofInt 64 4294967295).toNat = a % 4294967296 := by
    have e1 : (BitVec.ofInt 64 (4294967295 : Int)).toNat = 2 ^ 32 - 1 := by decide
    have e2 : (BitVec.ofInt 64 (a : Int)).toNat = a := by
      rw [BitVec.ofInt_natCast, BitVec.toNat_ofNat]
      exact Nat.mod_eq_of_lt (by omega)
    rw [BitVec.toNat_and, e1, e2, Nat.and_two_pow_sub_one_eq_mod]
  show u64 ((BitVec.ofInt 64 (a : Int) &&& BitVec.ofInt 64 4294967295).toNat : Int) = _
  rw [e, u64_id (by omega) (by omega)]
  omega
theorem bShr_eq {x : Int} {k : Nat} (hk : k ≤ 64) : bShr .u64 x (k : Int) = x / 2 ^ k := by
  have : min k 64 = k := by omega
  simp only [bShr, IntKind.bits, Int.toNat_natCast, this]
  exact Int.fdiv_eq_ediv_of_nonneg _ (Int.le_of_lt (Int.pow_pos (by decide)))
theorem bShl_eq {x : Int} {k : Nat} (hk : k ≤ 64) : bShl .u64 x (k : Int) = u64 (x * 2 ^ k) := by
  have : min k 64 = k := by omega
  simp only [bShl, IntKind.bits, Int.toNat_natCast, this]
theorem bOr_eq {a b : Int} {s : Nat} (ha : 0 ≤ a) (hb : 0 ≤ b) (hb' : b < 2 ^ s) (h : a * 2 ^ s + b < 18446744073709551616) : bOr .u64 (a * 2 ^ s) b = a * 2 ^ s + b := by
  obtain ⟨m, rfl⟩ := Int.eq_ofNat_of_zero_le ha
  obtain ⟨n, rfl⟩ := Int.eq_ofNat_of_zero_le hb
  have hp : ((m : Int) * 2 ^ s) = ((2 ^ s * m : Nat) : Int) := by
    rw [Nat.mul_comm]; simp
  have hb2 : n < 2 ^ s := by
    have : ((n : Nat) : Int) < ((2 ^ s : Nat) : Int) := by simpa using hb'
    omega
  rw [hp] at h ⊢
  have e : (BitVec.ofInt 64 ((2 ^ s * m : Nat) : Int) ||| BitVec.ofInt 64 (n : Int)).toNat = 2 ^ s * m + n := by
    have e2 : ∀ a : Nat, a < 18446744073709551616 → (BitVec.ofInt 64 (a : Int)).toNat = a := fun a ha => by
      rw [BitVec.ofInt_natCast, BitVec.toNat_ofNat]
      exact Nat.mod_eq_of_lt (by omega)
    rw [BitVec.toNat_or, e2 _ (by omega), e2 _ (by omega), Nat.two_pow_add_eq_or_of_lt hb2]
  show u64 ((BitVec.ofInt 64 ((2 ^ s * m : Nat) : Int) ||| BitVec.ofInt 64 (n : Int)).toNat : Int) = _
  rw [e, u64_id (by omega) (by omega)]
  omega

/-- the second remainder and both digits -/
theorem two_digits {N T y U1 U0 : Int} (hT : 0 < T) (hy : 0 < y) (hN : N * T = U1 * 18446744073709551616 + U0) :
    let Y := y * T
    let A := U1 * 4294967296 + U0 / 4294967296
    let C := A % Y * 4294967296 + U0 % 4294967296
    A / Y * 4294967296 + C / Y = N / y ∧ C % Y = N % y * T := by
  intro Y A C
  have hY : 0 < Y := Int.mul_pos hy hT
  have e1 := Int.mul_ediv_add_emod A Y
  have e2 := Int.mul_ediv_add_emod C Y
  have hC0 := Int.emod_nonneg C (show Y ≠ 0 by omega)
  have hC1 := Int.emod_lt_of_pos C hY
  have e3 : N * T = Y * (A / Y * 4294967296 + C / Y) + C % Y := by
    have hA : A = U1 * 4294967296 + U0 / 4294967296 := rfl
    have hC : C = A % Y * 4294967296 + U0 % 4294967296 := rfl
    rw [Int.mul_add, ← Int.mul_assoc]
    generalize Y * (A / Y) = p at *
    generalize Y * (C / Y) = q at *
    generalize C % Y = c at *
    generalize A % Y = a at *
    omega
  have e4 : N * T / Y = A / Y * 4294967296 + C / Y := by
    rw [e3, Int.mul_add_ediv_left _ _ (by omega), Int.ediv_eq_zero_of_lt hC0 hC1, Int.add_zero]
  have e5 : N * T % Y = C % Y := by
    rw [e3, Int.mul_add_emod_self_left, Int.emod_eq_of_lt hC0 hC1]
  refine ⟨?_, ?_⟩
  · rw [← e4]
    exact Int.mul_ediv_mul_of_pos_left _ _ hT
  · rw [← e5]
    have h1 := Int.mul_ediv_add_emod (N * T) (y * T)
    have h2 : N * T / (y * T) = N / y := Int.mul_ediv_mul_of_pos_left _ _ hT
    have h3 := Int.mul_ediv_add_emod N y
    rw [h2] at h1
    have h4 : y * T * (N / y) + N % y * T = N * T := by
      rw [← h3, Int.add_mul, h3, Int.mul_right_comm]
    have h5 : N * T % Y = N * T % (y * T) := rfl
    omega


theorem div64_ok {hi lo y : Int} (h0 : 0 ≤ hi) (h1 : hi < y) (h2 : y < 18446744073709551616) (h3 : 0 ≤ lo) (h4 : lo < 18446744073709551616) :
    bits_Div64 hi lo y = some ((hi * 18446744073709551616 + lo) / y, (hi * 18446744073709551616 + lo) % y) := by
  have hy : 0 < y := by omega
  have hy0 : ¬ y = 0 := by omega
  have hyh : ¬ y ≤ hi := by omega
  unfold bits_Div64
  simp only [hy0, hyh, decide_false, Bool.false_eq_true, if_false, Option.bind_some]
  by_cases hz : hi = 0
  · subst hz
    simp only [decide_true, if_true]
    rw [chk_true (by simp), Int.tdiv_eq_ediv_of_nonneg h3, Int.tmod_eq_emod_of_nonneg h3]
    have e1 : lo / y ≤ lo := Int.ediv_le_self _ h3
    have e2 := Int.ediv_nonneg h3 (Int.le_of_lt hy)
    rw [u64_id e2 (by omega)]
    simp
  · simp only [hz, decide_false, Bool.false_eq_true, if_false]
    obtain ⟨hb1, hb2, hb3⟩ := Lib.bitLenAux_bounds 64 y.toNat (by omega) (by omega)
    have hbl : Lib.bitLenAux 64 y.toNat = Lib.bitLen y.toNat := rfl
    rw [hbl] at hb1 hb2 hb3
    have hb4 : Lib.bitLen y.toNat ≤ 64 := Lib.bitLen_le _ 64 (Nat.le_refl _) (by omega)
    generalize hL : Lib.bitLen y.toNat = L at *
    obtain ⟨s, hs⟩ : ∃ s : Nat, s + L = 64 := ⟨64 - L, by omega⟩
    have hlz : bits_LeadingZeros64 y = some (s : Int) := by
      unfold bits_LeadingZeros64 lz64V
      rw [if_pos (by omega), hL]
      congr 1
      omega
    have hTn : (0 : Nat) < 2 ^ s := Nat.pow_pos (by decide)
    have hYn1 : 9223372036854775808 ≤ y.toNat * 2 ^ s := by
      have h5 : 2 ^ (L - 1) * 2 ^ s = 9223372036854775808 := by
        rw [← Nat.pow_add, show L - 1 + s = 63 by omega]
      have := Nat.mul_le_mul_right (2 ^ s) hb2
      omega
    have hYn2 : y.toNat * 2 ^ s < 18446744073709551616 := by
      have h5 : 2 ^ L * 2 ^ s = 18446744073709551616 := by
        rw [← Nat.pow_add, show L + s = 64 by omega]
      have := Nat.mul_lt_mul_of_pos_right hb3 hTn
      omega
    have hVn : (0 : Nat) < 2 ^ (64 - s) := Nat.pow_pos (by decide)
    have hTVn : 2 ^ (64 - s) * 2 ^ s = 18446744073709551616 := by rw [← Nat.pow_add, show 64 - s + s = 64 by omega]
    have hTe : ((2 : Int) ^ s) = ((2 ^ s : Nat) : Int) := by simp
    have hVe : ((2 : Int) ^ (64 - s)) = ((2 ^ (64 - s) : Nat) : Int) := by simp
    have hs64 : s ≤ 64 := by omega
    have hu1 : u64 (s : Int) = (s : Int) := u64_id (by omega) (by omega)
    have hu2 : u64 (64 - (s : Int)) = ((64 - s : Nat) : Int) := by rw [u64_id (by omega) (by omega)]; omega
    simp only [hlz, Option.bind_some, hu1, hu2]
    -- the pieces
    generalize hT : (2 : Int) ^ s = T at *
    have hT0 : 0 < T := by omega
    have hyy : y = (y.toNat : Int) := by omega
    have hY1 : 9223372036854775808 ≤ y * T := by rw [hTe, hyy, ← Int.natCast_mul]; omega
    have hY2 : y * T < 18446744073709551616 := by rw [hTe, hyy, ← Int.natCast_mul]; omega
    have hhT : 0 ≤ hi * T := Int.mul_nonneg h0 (by omega)
    have hhT2 : (hi + 1) * T ≤ y * T := Int.mul_le_mul_of_nonneg_right (by omega) (by omega)
    rw [Int.add_mul, Int.one_mul] at hhT2
    have hV : (0 : Int) < (2 : Int) ^ (64 - s) := by omega
    have hTV : (2 : Int) ^ (64 - s) * T = 18446744073709551616 := by rw [hVe, hTe, ← Int.natCast_mul]; omega
    have hq0 : 0 ≤ lo / 2 ^ (64 - s) := Int.ediv_nonneg h3 (by omega)
    have hq1 : lo / 2 ^ (64 - s) < T := Int.ediv_lt_of_lt_mul hV (by rw [Int.mul_comm, hTV]; exact h4)
    have e1 : bShl .u64 y (s : Int) = y * T := by rw [bShl_eq hs64, hT, u64_id (by omega) hY2]
    have e2 : bShl .u64 hi (s : Int) = hi * T := by rw [bShl_eq hs64, hT, u64_id hhT (by omega)]
    have e3 : bShr .u64 lo ((64 - s : Nat) : Int) = lo / 2 ^ (64 - s) := bShr_eq (by omega)
    have e4 : bOr .u64 (hi * T) (lo / 2 ^ (64 - s)) = hi * T + lo / 2 ^ (64 - s) := by
      rw [← hT]
      exact bOr_eq h0 hq0 (by rw [hT]; exact hq1) (by rw [hT]; omega)
    have e5 : bShl .u64 lo (s : Int) = lo * T % 18446744073709551616 := by rw [bShl_eq hs64, hT, u64_mod]
    simp only [e1, e2, e3, e4, e5]
    have hlo : lo * T = lo / 2 ^ (64 - s) * 18446744073709551616 + lo * T % 18446744073709551616 := by
      have h5 := Int.mul_ediv_add_emod (lo * T) 18446744073709551616
      have h6 : lo * T / 18446744073709551616 = lo / 2 ^ (64 - s) := by
        rw [← hTV]
        exact Int.mul_ediv_mul_of_pos_left _ _ hT0
      rw [h6] at h5
      omega
    have hN : (hi * 18446744073709551616 + lo) * T = (hi * T + lo / 2 ^ (64 - s)) * 18446744073709551616 + lo * T % 18446744073709551616 := by
      rw [Int.add_mul, Int.mul_right_comm]
      omega
    have hm0 := Int.emod_nonneg (lo * T) (show (18446744073709551616 : Int) ≠ 0 by decide)
    have hm1 := Int.emod_lt_of_pos (lo * T) (show (0 : Int) < 18446744073709551616 by decide)
    have hU0 : 0 ≤ hi * T + lo / 2 ^ (64 - s) := by omega
    have hU1 : hi * T + lo / 2 ^ (64 - s) < y * T := by omega
    obtain ⟨r1, r2⟩ := two_digits hT0 hy hN
    generalize hi * T + lo / 2 ^ (64 - s) = U at *
    generalize lo * T % 18446744073709551616 = W at *
    have t1 : (2 : Int) ^ 32 = 4294967296 := by decide
    have f1 : bShr .u64 (y * T) 32 = y * T / 4294967296 := by rw [← t1]; exact bShr_eq (k := 32) (by omega)
    have f2 : bAnd .u64 (y * T) 4294967295 = y * T % 4294967296 := bAnd32 (by omega) hY2
    have f3 : bShr .u64 W 32 = W / 4294967296 := by rw [← t1]; exact bShr_eq (k := 32) (by omega)
    have f4 : bAnd .u64 W 4294967295 = W % 4294967296 := bAnd32 hm0 hm1
    simp only [f1, f3, f4]
    generalize hYY : y * T = Y at *
    have hsum : Y = Y / 4294967296 * 4294967296 + Y % 4294967296 := by omega
    have hk1 := knuth (fun q r => (q, r)) (bits_Div64_l40 lo y (s : Int)) (u := U) (d := W / 4294967296) (y1 := Y / 4294967296) (y0 := Y % 4294967296) (by omega) (by omega) (by omega) (by omega) (by omega) (by omega) hU0 (by omega) (by
      intro q r
      unfold bits_Div64_l40
      simp only [hu1, e1, e5, f1, f2, f3])
    rw [← hsum] at hk1
    have est : ∀ u : Int, 0 ≤ u → u < 18446744073709551616 → u64 (u.tdiv (Y / 4294967296)) = u / (Y / 4294967296) ∧ u64 (u - u64 (u / (Y / 4294967296) * (Y / 4294967296))) = u % (Y / 4294967296) := by
      intro u hu hu'
      have g1 : u / (Y / 4294967296) ≤ u := Int.ediv_le_self _ hu
      have g2 := Int.ediv_nonneg hu (show 0 ≤ Y / 4294967296 by omega)
      have g3 := Int.mul_ediv_add_emod u (Y / 4294967296)
      have g4 := Int.emod_nonneg u (show Y / 4294967296 ≠ 0 by omega)
      have g6 : 0 ≤ u / (Y / 4294967296) * (Y / 4294967296) := Int.mul_nonneg g2 (by omega)
      rw [Int.mul_comm] at g3
      refine ⟨by rw [Int.tdiv_eq_ediv_of_nonneg hu, u64_id g2 (by omega)], ?_⟩
      rw [u64_id (n := u / (Y / 4294967296) * (Y / 4294967296)) g6 (by omega), u64_id (by omega) (by omega)]
      omega
    rw [chk_true (by simp), chk_true (by simp), chk_true (by simp; omega), (est U hU0 (by omega)).1, (est U hU0 (by omega)).2, hk1, Option.bind_some]
    -- the first remainder
    have hA := Int.mul_ediv_add_emod (U * 4294967296 + W / 4294967296) Y
    have hA0 := Int.emod_nonneg (U * 4294967296 + W / 4294967296) (show Y ≠ 0 by omega)
    have hA1 := Int.emod_lt_of_pos (U * 4294967296 + W / 4294967296) (show 0 < Y by omega)
    have hQ1 : (U * 4294967296 + W / 4294967296) / Y < 4294967296 := Int.ediv_lt_of_lt_mul (by omega) (by omega)
    have hQ0 := Int.ediv_nonneg (show 0 ≤ U * 4294967296 + W / 4294967296 by omega) (show 0 ≤ Y by omega)
    rw [Int.mul_comm Y] at hA
    generalize hqa : (U * 4294967296 + W / 4294967296) / Y = qa at *
    generalize hra : (U * 4294967296 + W / 4294967296) % Y = ra at *
    have hrem : u64 (u64 (u64 (U * 4294967296) + W / 4294967296) - u64 (qa * Y)) = ra := by
      simp only [u64_mod]
      omega
    rw [hrem]
    have hk2 := knuth (fun q r => (r, q)) (bits_Div64_l63 lo y (s : Int)) (u := ra) (d := W % 4294967296) (y1 := Y / 4294967296) (y0 := Y % 4294967296) (by omega) (by omega) (by omega) (by omega) (by omega) (by omega) hA0 (by omega) (by
      intro q r
      unfold bits_Div64_l63
      simp only [hu1, e1, e5, f1, f2, f4])
    rw [← hsum] at hk2
    rw [(est ra hA0 (by omega)).1, (est ra hA0 (by omega)).2, hk2, Option.bind_some]
    have hC := Int.mul_ediv_add_emod (ra * 4294967296 + W % 4294967296) Y
    have hC0 := Int.emod_nonneg (ra * 4294967296 + W % 4294967296) (show Y ≠ 0 by omega)
    have hC1 := Int.emod_lt_of_pos (ra * 4294967296 + W % 4294967296) (show 0 < Y by omega)
    have hP1 : (ra * 4294967296 + W % 4294967296) / Y < 4294967296 := Int.ediv_lt_of_lt_mul (by omega) (by omega)
    have hP0 := Int.ediv_nonneg (show 0 ≤ ra * 4294967296 + W % 4294967296 by omega) (show 0 ≤ Y by omega)
    rw [Int.mul_comm Y] at hC
    generalize hqc : (ra * 4294967296 + W % 4294967296) / Y = qc at *
    generalize hrc : (ra * 4294967296 + W % 4294967296) % Y = rc at *
    have hrem2 : u64 (u64 (u64 (ra * 4294967296) + W % 4294967296) - u64 (qc * Y)) = rc := by
      simp only [u64_mod]
      omega
    rw [hrem2, u64_id (n := qa * 4294967296) (by omega) (by omega), u64_id (n := qa * 4294967296 + qc) (by omega) (by omega), bShr_eq hs64, hT]
    rw [r1, r2, Int.mul_ediv_cancel _ (by omega)]
end Go.Proofs.Ytlmhmpngjfjfhaa.Pl
