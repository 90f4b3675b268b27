/- The comparison by which split orders the remainders (plain). -/
import Derived.Test.YtlmhmpngjfjfhaaP
import Derived.Test.YtlmhmpngjfjfhaaLBase
namespace Go.Proofs.Ytlmhmpngjfjfhaa.Pl
open Go

/-- three-way comparison -/
def cmp3 (a b : Int) : Int := if a < b then -1 else if b < a then 1 else 0
theorem compare_u (a b : Int) : cmp_Compare_uint64 a b = some (cmp3 a b) := by
  unfold cmp_Compare_uint64 cmp_isNaN_uint64 cmp3
  by_cases h1 : a < b
  · simp [h1]
  · by_cases h2 : b < a <;> simp [h1, h2]
theorem compare_i (a b : Int) : cmp_Compare_int a b = some (cmp3 a b) := by
  unfold cmp_Compare_int cmp_isNaN_int cmp3
  by_cases h1 : a < b
  · simp [h1]
  · by_cases h2 : b < a <;> simp [h1, h2]
theorem or2 (a b : Int) : cmp_Or_int [a, b] = some (if a = 0 then b else a) := by
  unfold cmp_Or_int
  by_cases ha : a = 0
  · subst ha
    have s0 : cmp_Or_int_l8 [0, b] 0 = some (.inl 1) := by
      simp [cmp_Or_int_l8, inb, ix, chk, w64, IntKind.wrap, IntKind.bits, IntKind.signed]
    rw [loopV_next s0]
    by_cases hb : b = 0
    · subst hb
      have s1 : cmp_Or_int_l8 [0, 0] 1 = some (.inl 2) := by
        simp [cmp_Or_int_l8, inb, ix, chk, w64, IntKind.wrap, IntKind.bits, IntKind.signed]
      have s2 : cmp_Or_int_l8 [0, 0] 2 = some (.inr (.inr ())) := by
        simp [cmp_Or_int_l8]
      rw [loopV_next s1, loopV_stop s2]
      simp
    · have s1 : cmp_Or_int_l8 [0, b] 1 = some (.inr (.inl b)) := by
        simp [cmp_Or_int_l8, inb, ix, chk, hb]
      rw [loopV_stop s1]
      simp
  · have s0 : cmp_Or_int_l8 [a, b] 0 = some (.inr (.inl a)) := by
      simp [cmp_Or_int_l8, inb, ix, chk, ha]
    rw [loopV_stop s0]
    simp [ha]
/-- the comparison: the greater remainder first, then the lesser index -/
theorem c1_eq {rs : List Int} {x y : Int} (hx : inb rs x = true) (hy : inb rs y = true) : split_divide_c1 x y rs = some (if cmp3 (ix rs y) (ix rs x) = 0 then cmp3 x y else cmp3 (ix rs y) (ix rs x)) := by
  unfold split_divide_c1
  simp [hx, hy, chk, compare_u, compare_i, or2]
end Go.Proofs.Ytlmhmpngjfjfhaa.Pl
