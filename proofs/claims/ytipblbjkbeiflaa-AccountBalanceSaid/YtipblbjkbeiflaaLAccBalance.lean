/- The law AccountBalance (plain). -/
import Derived.Test.YtipblbjkbeiflaaLBal
namespace Go.Proofs.Ytipblbjkbeiflaa.Pl
open Go

theorem balInner (t p : Int) (r : GLedger × GLedger) (s : Int) : loopV (treatylaw34_AccountBalance_l21 t p r s) 0 = some (.inr ()) := by
  refine loopV_done (step := treatylaw34_AccountBalance_l21 t p r s) (fun k => (k : Int)) 2 (.inr ()) ?_ ?_
  · intro k hk
    unfold treatylaw34_AccountBalance_l21
    have hin : k < [t, bAnd .i64 t 3].length := by simpa using hk
    rw [if_pos (by simp; omega), chk_of (inb_nat hin)]
    generalize ix [r.1, r.2] s = l
    generalize ix [t, bAnd .i64 t 3] (k : Int) = u
    obtain ⟨a, a1, a2⟩ := balance_same l u (bAnd .i64 p 3)
    obtain ⟨b, b1, b2⟩ := balance_same l u p
    simp only [a1, a2, b1, b2, Option.bind_some, decide_true, Bool.not_true, Bool.or_self, Bool.false_eq_true, if_false]
    rw [w64_id (by omega) (by omega)]
    rfl
  · unfold treatylaw34_AccountBalance_l21
    rw [if_neg (by simp)]
theorem treatylaw34_AccountBalance_law (d : List Int) (a n t p : Int) (hd : d.length ≤ 9223372036854775807) : treatylaw34_AccountBalance d a n t p = some true := by
  unfold treatylaw34_AccountBalance
  obtain ⟨r, er⟩ := few_ok hd a n
  rw [er, Option.bind_some]
  have hloop : loopV (treatylaw34_AccountBalance_l8 t p r) 0 = some (.inr ()) := by
    refine loopV_done (step := treatylaw34_AccountBalance_l8 t p r) (fun k => (k : Int)) 2 (.inr ()) ?_ ?_
    · intro k hk
      unfold treatylaw34_AccountBalance_l8
      have hin : k < [r.1, r.2].length := by simpa using hk
      rw [if_pos (by simp; omega), chk_of (inb_nat hin), balInner]
      simp only [Option.bind_some, Sum.elim_inr, Sum.elim_inl]
      rw [w64_id (by omega) (by omega)]
      rfl
    · unfold treatylaw34_AccountBalance_l8
      rw [if_neg (by simp)]
  rw [hloop]
  simp [awake34]
end Go.Proofs.Ytipblbjkbeiflaa.Pl
