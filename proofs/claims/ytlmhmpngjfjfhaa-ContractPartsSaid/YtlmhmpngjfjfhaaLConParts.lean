/- The law ContractParts (plain). -/
import Derived.Test.YtlmhmpngjfjfhaaLConS
namespace Go.Proofs.Ytlmhmpngjfjfhaa.Pl
open Go

theorem withinC {w n : Int} (h1 : 1 ≤ n) (h2 : n ≤ 4611686018427387904) : ∃ v, treatymade_Within w n = some v ∧ 0 ≤ v ∧ v < n := by
  unfold treatymade_Within
  have a1 := Int.tmod_lt_of_pos w (show 0 < n by omega)
  have a2 := Int.lt_tmod_of_pos w (show 0 < n by omega)
  rw [chk_true (by simp; omega), w64_id (by omega) (by omega)]
  exact ⟨_, rfl, Int.tmod_nonneg _ (by omega), Int.tmod_lt_of_pos _ (by omega)⟩
theorem treatylaw20_ContractParts_law (l : List GPart) (d : List Int) (x : GPart) (n : Int) (hd : d.length ≤ 9223372036854775807) : treatylaw20_ContractParts l d x n = some true := by
  unfold treatylaw20_ContractParts
  by_cases hc : 100 < l.length
  · rw [if_pos (by simp; omega), conAwake_ok]
    rfl
  · rw [if_neg (by simp; omega)]
    obtain ⟨k, e1, hk⟩ := new_ok hd
    obtain ⟨p, k2, e2, hk2, hpl, hpa, hps⟩ := partsMade_ok hk
    have hpe : partsE p = 0 := by rw [POk.parts ⟨by omega, hpa⟩, if_neg (by omega)]
    rw [e1, Option.bind_some, e2, Option.bind_some]
    dsimp only
    rw [chk_true (room_of (by omega)), chk_true (room_of (by simp; omega))]
    obtain ⟨v1, f1, _⟩ := withinC (w := x.Party) (n := 18) (by omega) (by omega)
    obtain ⟨v2, f2, _⟩ := withinC (w := x.Share) (n := 1000003) (by omega) (by omega)
    have hy : ∃ y : Int × Int, (if decide (n.tmod 2 = 0) = true then (treatymade_Within x.Party 18).bind fun r6_2 => (treatymade_Within x.Share 1000003).bind fun r6_6 => some (w64 (r6_2 - 1), r6_6) else some (x.Party, x.Share)) = some y := by
      by_cases h : n.tmod 2 = 0
      · exact ⟨_, by rw [if_pos (by simpa using h), f1, Option.bind_some, f2, Option.bind_some]⟩
      · exact ⟨_, by rw [if_neg (by simpa using h)]⟩
    obtain ⟨y, ey⟩ := hy
    rw [ey, Option.bind_some]
    obtain ⟨i, ei, i0, i1⟩ := withinC (w := w64 (n.tdiv 2)) (n := ((p ++ [GPart.mk 15 1]).length : Int)) (by simp; omega) (by simp; omega)
    rw [ei, Option.bind_some, chk_true (inb_of i0 i1)]
    simp only [parts_eq, rParts_eq, hpe, Option.bind_some, decide_true, if_true, conAwake_ok]
end Go.Proofs.Ytlmhmpngjfjfhaa.Pl
