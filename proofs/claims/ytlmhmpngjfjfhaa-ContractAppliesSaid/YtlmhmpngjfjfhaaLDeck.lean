/- What the laws draw out of a deck (plain): numbers in a range. -/
import Derived.Test.YtlmhmpngjfjfhaaP
import Derived.Test.YtlmhmpngjfjfhaaLBase
namespace Go.Proofs.Ytlmhmpngjfjfhaa.Pl
open Go

structure DOk (d : GDeck) : Prop where
  at0 : 0 ≤ d.At
  len : d.L.length ≤ 9223372036854775807
theorem next_ok {d : GDeck} (h : DOk d) {n : Int} (h1 : 1 ≤ n) (h2 : n ≤ 4611686018427387904) : ∃ v d', treatymade_Deck_Next d n = some (v, d') ∧ 0 ≤ v ∧ v < n ∧ DOk d' := by
  unfold treatymade_Deck_Next
  have hl := h.len
  have h0 := h.at0
  by_cases hc : (d.L.length : Int) ≤ d.At
  · have hc' : decide ((d.L.length : Int) ≤ d.At) = true := by simpa using hc
    exact ⟨0, d, by simp only [hc', if_true], by omega, by omega, h⟩
  · have hc' : decide ((d.L.length : Int) ≤ d.At) = false := by simpa using hc
    have e1 : w64 (d.At + 1) = d.At + 1 := w64_id (by omega) (by omega)
    have e2 : w64 (d.At + 1 - 1) = d.At := by rw [w64_id (by omega) (by omega)]; omega
    have hin : inb d.L d.At = true := inb_of h0 (by omega)
    have hn : (!decide (n = 0)) = true := by simp <;> omega
    simp only [hc', Bool.false_eq_true, if_false, e1, e2, chk_of hin, chk_of hn]
    generalize ix d.L d.At = x
    have hm1 : -n < x.tmod n ∧ x.tmod n < n := by
      have a1 := Int.tmod_lt_of_pos x (show 0 < n by omega)
      have a2 := Int.lt_tmod_of_pos x (show 0 < n by omega)
      omega
    have e3 : w64 (x.tmod n + n) = x.tmod n + n := w64_id (by omega) (by omega)
    rw [e3]
    have hnn : 0 ≤ x.tmod n + n := by omega
    refine ⟨_, _, rfl, Int.tmod_nonneg _ hnn, Int.tmod_lt_of_pos _ (by omega), ⟨?_, hl⟩⟩
    show 0 ≤ d.At + 1
    omega
theorem new_ok {l : List Int} (h : l.length ≤ 9223372036854775807) : ∃ d, treatymade_New l = some d ∧ DOk d := ⟨_, rfl, by exact Int.le_refl 0, h⟩
theorem minI_eq (x y : Int) : minI x y = min x y := by unfold minI; split <;> omega
theorem maxI_eq (x y : Int) : maxI x y = max x y := by unfold maxI; split <;> omega
theorem upto_ok {d : GDeck} (h : DOk d) {n : Int} (h1 : 0 ≤ n) (h2 : n < 4611686018427387904) : ∃ v d', treatymade_Deck_Upto d n = some (v, d') ∧ 0 ≤ v ∧ v ≤ n ∧ DOk d' := by
  unfold treatymade_Deck_Upto
  obtain ⟨v0, d0, e0, a0, b0, k0⟩ := next_ok h (n := 6) (by omega) (by omega)
  rw [e0, Option.bind_some]
  dsimp only
  by_cases c0 : v0 = 0
  · rw [if_pos (by simpa using c0)]
    obtain ⟨v, d', e, a, b, k⟩ := next_ok k0 (n := 4) (by omega) (by omega)
    rw [e, Option.bind_some, minI_eq]
    exact ⟨_, _, rfl, by dsimp only; omega, by dsimp only; omega, k⟩
  rw [if_neg (by simpa using c0)]
  by_cases c1 : v0 = 1
  · rw [if_pos (by simpa using c1)]
    obtain ⟨v, d', e, a, b, k⟩ := next_ok k0 (n := 100) (by omega) (by omega)
    rw [e, Option.bind_some, minI_eq]
    exact ⟨_, _, rfl, by dsimp only; omega, by dsimp only; omega, k⟩
  rw [if_neg (by simpa using c1)]
  by_cases c2 : v0 = 2
  · rw [if_pos (by simpa using c2)]
    obtain ⟨v, d', e, a, b, k⟩ := next_ok k0 (n := 1048576) (by omega) (by omega)
    rw [e, Option.bind_some, minI_eq]
    exact ⟨_, _, rfl, by dsimp only; omega, by dsimp only; omega, k⟩
  rw [if_neg (by simpa using c2), w64_id (n := n + 1) (by omega) (by omega), minI_eq]
  by_cases c3 : v0 = 3
  · rw [if_pos (by simpa using c3)]
    obtain ⟨v, d', e, a, b, k⟩ := next_ok k0 (n := min 3 (n + 1)) (by omega) (by omega)
    rw [e, Option.bind_some]
    dsimp only
    rw [w64_id (by omega) (by omega)]
    exact ⟨_, _, rfl, by omega, by omega, k⟩
  rw [if_neg (by simpa using c3)]
  obtain ⟨v, d', e, a, b, k⟩ := next_ok k0 (n := n + 1) (by omega) (by omega)
  rw [e, Option.bind_some]
  exact ⟨_, _, rfl, a, by dsimp only; omega, k⟩
end Go.Proofs.Ytlmhmpngjfjfhaa.Pl
