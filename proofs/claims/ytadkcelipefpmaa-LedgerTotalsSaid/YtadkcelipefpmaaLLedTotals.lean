/- The law LedgerTotals (plain). -/
import Derived.Test.YtadkcelipefpmaaLLw
namespace Go.Proofs.Ytadkcelipefpmaa.Pl
open Go

theorem totInner (p : Int) (r : GLedger × GLedger) (s : Int) : loopV (treatylaw33_LedgerTotals_l21 p r s) 0 = some (.inr ()) := by
  refine loopV_done (step := treatylaw33_LedgerTotals_l21 p r s) (fun k => (k : Int)) 3 (.inr ()) ?_ ?_
  · intro k hk
    unfold treatylaw33_LedgerTotals_l21
    have hin : k < [p, bAnd .i64 p 7, 0].length := by simpa using hk
    rw [if_pos (by simp; omega), chk_of (inb_nat hin)]
    generalize ix [r.1, r.2] s = l
    generalize ix [p, bAnd .i64 p 7, 0] (k : Int) = u
    obtain ⟨a, e, h1, h2⟩ := totals_tot l u
    simp only [totals_same, h1, Option.bind_some, sameEntries_refl a (by omega), decide_true, Bool.not_true, Bool.or_self, Bool.false_eq_true, if_false]
    rw [w64_id (by omega) (by omega)]
    rfl
  · unfold treatylaw33_LedgerTotals_l21
    rw [if_neg (by simp)]
theorem treatylaw33_LedgerTotals_law (d : List Int) (a n p : Int) (hd : d.length ≤ 9223372036854775807) : treatylaw33_LedgerTotals d a n p = some true := by
  unfold treatylaw33_LedgerTotals
  obtain ⟨l, k, er, _⟩ := few33 hd a n
  rw [er, Option.bind_some]
  have hloop : loopV (treatylaw33_LedgerTotals_l8 p (l, k)) 0 = some (.inr ()) := by
    refine loopV_done (step := treatylaw33_LedgerTotals_l8 p (l, k)) (fun k => (k : Int)) 2 (.inr ()) ?_ ?_
    · intro j hj
      unfold treatylaw33_LedgerTotals_l8
      have hin : j < [(l, k).1, (l, k).2].length := by simpa using hj
      rw [if_pos (by simp; omega), chk_of (inb_nat hin), totInner]
      simp only [Option.bind_some, Sum.elim_inr, Sum.elim_inl]
      rw [w64_id (by omega) (by omega)]
      rfl
    · unfold treatylaw33_LedgerTotals_l8
      rw [if_neg (by simp)]
  rw [hloop]
  simp [awake33]
end Go.Proofs.Ytadkcelipefpmaa.Pl
