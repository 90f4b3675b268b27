/- The law SplitCheck (plain). -/
import Derived.Test.YteohebcimnjlbaaLSplitParts
namespace Go.Proofs.Yteohebcimnjlbaa.Pl
open Go

theorem equalInts_eq {a b : List Int} (hl : a.length ≤ 1000000) : slices_Equal_s_int_int a b = some (decide (a = b)) := by
  unfold slices_Equal_s_int_int
  by_cases hne : a.length = b.length
  · rw [if_neg (by simp; omega)]
    have main : ∀ (n k : Nat), n + k = a.length → a.take k = b.take k → (loopV (slices_Equal_s_int_int_l12 a b) (k : Int)) = some (if a = b then .inr () else .inl false) := by
      intro n
      induction n with
      | zero =>
        intro k hk ht
        have s : slices_Equal_s_int_int_l12 a b (k : Int) = some (.inr (.inr ())) := by
          unfold slices_Equal_s_int_int_l12
          rw [if_neg (by simp; omega)]
        rw [List.take_of_length_le (by omega), List.take_of_length_le (by omega)] at ht
        rw [loopV_stop s, if_pos ht]
      | succ n ih =>
        intro k hk ht
        have ha : k < a.length := by omega
        have hb : k < b.length := by omega
        by_cases hx : a[k] = b[k]
        · have s : slices_Equal_s_int_int_l12 a b (k : Int) = some (.inl ((k + 1 : Nat) : Int)) := by
            unfold slices_Equal_s_int_int_l12
            rw [if_pos (by simp; omega), chk_true (inb_nat ha), chk_true (inb_nat hb), ix_nat ha, ix_nat hb, if_neg (by simpa using hx), w64_id (by omega) (by omega)]
            rfl
          rw [loopV_next s, ih (k + 1) (by omega) (by rw [List.take_succ_eq_append_getElem ha, List.take_succ_eq_append_getElem hb, ht, hx])]
        · have s : slices_Equal_s_int_int_l12 a b (k : Int) = some (.inr (.inl false)) := by
            unfold slices_Equal_s_int_int_l12
            rw [if_pos (by simp; omega), chk_true (inb_nat ha), chk_true (inb_nat hb), ix_nat ha, ix_nat hb, if_pos (by simpa using hx)]
          rw [loopV_stop s, if_neg]
          intro e
          subst e
          exact hx rfl
    have := main a.length 0 (by omega) (by simp)
    rw [Int.ofNat_zero] at this
    rw [this]
    by_cases e : a = b
    · simp [e]
    · simp [e]
  · rw [if_pos (by simp; omega)]
    have : a ≠ b := fun e => hne (by rw [e])
    simp [this]
theorem check_eq (a : Int) (l q : List Int) : split_Check a l q = some (decide ((splitS a l).2 = 0) && decide ((splitS a l).1 = q)) := by
  unfold split_Check
  rw [split_eq, Option.bind_some, equalInts_eq (by have := splitS_length a l; omega)]
  by_cases h : (splitS a l).2 = 0
  · simp [h]
  · simp [h]
theorem within_gen {w n : Int} (h1 : 1 ≤ n) (h2 : n ≤ 4611686018427387904) : ∃ v, treatymade_Within w n = some v ∧ 0 ≤ v ∧ v < n := by
  unfold treatymade_Within
  have a1 := Int.tmod_lt_of_pos w (show 0 < n by omega)
  have a2 := Int.lt_tmod_of_pos w (show 0 < n by omega)
  rw [chk_true (by simp; omega), w64_id (by omega) (by omega)]
  exact ⟨_, rfl, Int.tmod_nonneg _ (by omega), Int.tmod_lt_of_pos _ (by omega)⟩
theorem treatylaw02_SplitCheck_law (a : Int) (d : List Int) (f t : Int) (raw : List Int) (_ : -9223372036854775808 ≤ a ∧ a ≤ 9223372036854775807) (_ : ∀ n ∈ d, -9223372036854775808 ≤ n ∧ n ≤ 9223372036854775807) (hd : d.length ≤ 9223372036854775807) (_ : -9223372036854775808 ≤ f ∧ f ≤ 9223372036854775807) (_ : -9223372036854775808 ≤ t ∧ t ≤ 9223372036854775807) (_ : ∀ n ∈ raw, -9223372036854775808 ≤ n ∧ n ≤ 9223372036854775807) (_ : raw.length ≤ 9223372036854775807) : treatylaw02_SplitCheck a d f t raw = some true := by
  unfold treatylaw02_SplitCheck
  obtain ⟨k, e1, hk⟩ := new_ok hd
  obtain ⟨w, k2, e2, hk2, hw⟩ := weights_ok hk (n := 12) (by omega) (by omega)
  obtain ⟨c, e3, c0, c1⟩ := clamp_ok a
  have hs := hw.sok (by omega) c0 c1
  have hl := hs.len
  have hl0 := hw.len0
  have hp : (partsS c w).length = w.length := partsS_length c w
  have hb := partsS_bounds hs
  simp only [e1, e2, e3, Option.bind_some, split_ok hs, check_eq, splitS_ok hs, decide_true, Bool.true_and, Bool.not_true, Bool.false_eq_true, if_false]
  generalize partsS c w = p at *
  have hne : ¬ (p = p ++ [0]) := fun e => by
    have := congrArg List.length e
    simp at this
  rw [chk_true (room_of (by omega)), chk_true (room_of (by simp; omega))]
  simp only [hne, decide_false, Option.bind_some, Bool.false_eq_true, if_false]
  rw [chk_true (room_of (by omega)), maxI_eq]
  obtain ⟨i, ei, i0, i1⟩ := within_gen (w := f) (n := max (p.length : Int) 1) (by omega) (by omega)
  obtain ⟨j, ej, j0, j1⟩ := within_gen (w := t) (n := max (p.length : Int) 1) (by omega) (by omega)
  rw [ei, Option.bind_some, ej, Option.bind_some, if_neg (by simp; omega)]
  obtain ⟨i, rfl⟩ := Int.eq_ofNat_of_zero_le i0
  obtain ⟨j, rfl⟩ := Int.eq_ofNat_of_zero_le j0
  have hi : i < p.length := by omega
  have hj : j < p.length := by omega
  have hbi := hb _ (List.getElem_mem hi)
  have hbj := hb _ (List.getElem_mem hj)
  rw [chk_true (inb_nat hi), chk_true (inb_nat hj), ix_nat hi, ix_nat hj, w64_id (n := p[i] - 1) (by omega) (by omega), w64_id (n := p[j] + 1) (by omega) (by omega), chk_true (inb_nat (by simpa [upd] using hj))]
  have hraw : ∃ r, (if decide (80 < (raw.length : Int)) = true then chk (decide (80 ≤ (raw.length : Int))) (some (raw.take (80 : Int).toNat)) else some raw) = some r := by
    by_cases h : 80 < raw.length
    · exact ⟨_, by rw [if_pos (by simp; omega), chk_true (by simp; omega)]⟩
    · exact ⟨_, by rw [if_neg (by simp; omega)]⟩
  obtain ⟨r, er⟩ := hraw
  rw [er]
  simp only [Option.bind_some, refSplit_eq, upd, Int.toNat_natCast]
  have hq : i ≠ j → ¬ (p = (p.set i (p[i] - 1)).set j (p[j] + 1)) := fun hij e => by
    have h1 : p[i]? = ((p.set i (p[i] - 1)).set j (p[j] + 1))[i]? := by rw [← e]
    rw [List.getElem?_set_ne (by omega), List.getElem?_set_self hi, List.getElem?_eq_getElem hi] at h1
    have := Option.some.inj h1
    omega
  simp only [sameInts_eq (show (splitS c r).1.length ≤ 1000000 by have := splitS_length c r; omega)]
  by_cases hij : i = j
  · have hij' : (i : Int) = (j : Int) := by omega
    simp only [hij', decide_true, if_true, Option.bind_some, awake_ok]
    by_cases h2 : (splitS c r).2 = 0
    · simp [h2]
      exact decide_eq_decide.2 Iff.rfl
    · simp [h2]
  · have hij' : ¬ ((i : Int) = (j : Int)) := by omega
    simp only [hij', decide_false, Bool.false_eq_true, if_false, hq hij, Bool.not_false, if_true, Option.bind_some, awake_ok]
    by_cases h2 : (splitS c r).2 = 0
    · simp [h2]
      exact decide_eq_decide.2 Iff.rfl
    · simp [h2]
end Go.Proofs.Yteohebcimnjlbaa.Pl
