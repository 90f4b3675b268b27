/- What all laws on split ask (plain). -/
import Derived.Test.YteohebcimnjlbaaLRefS
import Derived.Test.YteohebcimnjlbaaLPart
import Derived.Test.YteohebcimnjlbaaLSame
import Derived.Test.YteohebcimnjlbaaLDeckW
namespace Go.Proofs.Yteohebcimnjlbaa.Pl
open Go

theorem awake_ok : treatylaw02_awake = some true := by
  unfold treatylaw02_awake
  have e : splitS 10 [1, 1, 1] = ([4, 3, 3], 0) := by decide
  rw [split_eq, e, Option.bind_some]
  simp only [decide_true, if_true]
  rw [sameInts_eq (by simp)]
  simp
theorem clamp_ok (a : Int) : ∃ c, treatyref01_Clamp a = some c ∧ -17592186044416 ≤ c ∧ c ≤ 17592186044416 := by
  unfold treatyref01_Clamp
  by_cases h1 : 17592186044416 < a
  · exact ⟨_, by rw [if_pos (by simpa using h1)], by omega, by omega⟩
  · by_cases h2 : a < -17592186044416
    · exact ⟨_, by rw [if_neg (by simpa using h1), if_pos (by simpa using h2)], by omega, by omega⟩
    · exact ⟨_, by rw [if_neg (by simpa using h1), if_neg (by simpa using h2)], by omega, by omega⟩
theorem WOk.sok {w : List Int} {n a : Int} (h : WOk w n) (hn : n ≤ 60) (h0 : -17592186044416 ≤ a) (h1 : a ≤ 17592186044416) : SOk a w := by
  have hl := h.len1
  have hv : ∀ x ∈ w, 0 ≤ x ∧ x ≤ 17592186044416 := fun x hx => by have := h.val x hx; omega
  refine ⟨h0, h1, hv, by omega, ?_⟩
  obtain ⟨x, t, rfl, hx⟩ := h.first
  have := sum_le (l := t) fun w hw => hv w (List.mem_cons_of_mem _ hw)
  rw [List.sum_cons]
  omega
end Go.Proofs.Yteohebcimnjlbaa.Pl
