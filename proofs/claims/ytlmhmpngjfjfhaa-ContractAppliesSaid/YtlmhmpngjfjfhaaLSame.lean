/- Lists of numbers compared (plain). -/
import Derived.Test.YtlmhmpngjfjfhaaP
import Derived.Test.YtlmhmpngjfjfhaaLBase
namespace Go.Proofs.Ytlmhmpngjfjfhaa.Pl
open Go

theorem sameInts_eq {a b : List Int} (hl : a.length ≤ 1000000) : treatyref01_SameInts a b = some (decide (a = b)) := by
  unfold treatyref01_SameInts
  by_cases hne : a.length = b.length
  · rw [if_neg (by simp; omega)]
    have main : ∀ (n k : Nat), n + k = a.length → a.take k = b.take k → (loopV (treatyref01_SameInts_l12 a b) (k : Int)) = some (if a = b then .inr () else .inl false) := by
      intro n
      induction n with
      | zero =>
        intro k hk ht
        have s : treatyref01_SameInts_l12 a b (k : Int) = some (.inr (.inr ())) := by
          unfold treatyref01_SameInts_l12
          rw [if_neg (by simp; omega)]
        rw [List.take_of_length_le (by omega), List.take_of_length_le (by omega)] at ht
        rw [loopV_stop s, if_pos ht]
      | succ n ih =>
        intro k hk ht
        have ha : k < a.length := by omega
        have hb : k < b.length := by omega
        by_cases hx : a[k] = b[k]
        · have s : treatyref01_SameInts_l12 a b (k : Int) = some (.inl ((k + 1 : Nat) : Int)) := by
            unfold treatyref01_SameInts_l12
            rw [if_pos (by simp; omega), chk_true (inb_nat ha), chk_true (inb_nat hb), ix_nat ha, ix_nat hb, if_neg (by simpa using hx), w64_id (by omega) (by omega)]
            rfl
          rw [loopV_next s, ih (k + 1) (by omega) (by rw [List.take_succ_eq_append_getElem ha, List.take_succ_eq_append_getElem hb, ht, hx])]
        · have s : treatyref01_SameInts_l12 a b (k : Int) = some (.inr (.inl false)) := by
            unfold treatyref01_SameInts_l12
            rw [if_pos (by simp; omega), chk_true (inb_nat ha), chk_true (inb_nat hb), ix_nat ha, ix_nat hb, if_pos (by simpa using hx)]
          rw [loopV_stop s, if_neg]
          intro e
          subst e
          exact hx rfl
    have := main a.length 0 (by omega) (by simp)
    rw [Int.ofNat_zero] at this
    rw [this]
    by_cases e : a = b
    · simp [e]
    · simp [e]
  · rw [if_pos (by simp; omega)]
    have : a ≠ b := fun e => hne (by rw [e])
    simp [this]
end Go.Proofs.Ytlmhmpngjfjfhaa.Pl
