/- The law AccountStatement (plain). -/
import Derived.Test.YtipblbjkbeiflaaLBal
namespace Go.Proofs.Ytipblbjkbeiflaa.Pl
open Go

theorem stInner (t p n : Int) (r : GLedger × GLedger) (s : Int) : loopV (treatylaw34_AccountStatement_l21 t p n r s) 0 = some (.inr ()) := by
  refine loopV_done (step := treatylaw34_AccountStatement_l21 t p n r s) (fun k => (k : Int)) 2 (.inr ()) ?_ ?_
  · intro k hk
    unfold treatylaw34_AccountStatement_l21
    have hin : k < [n, bAnd .i64 n 3].length := by simpa using hk
    rw [if_pos (by simp; omega), chk_of (inb_nat hin)]
    generalize ix [r.1, r.2] s = l
    generalize ix [n, bAnd .i64 n 3] (k : Int) = u
    obtain ⟨a, a1, a2, a3⟩ := statement_same l (bAnd .i64 t 3) (bAnd .i64 p 3) u
    obtain ⟨b, b1, b2, b3⟩ := statement_same l t p u
    simp only [a1, a2, b1, b2, Option.bind_some, sameStatement_refl a.1 (by omega), sameStatement_refl b.1 (by omega), decide_true, Bool.not_true, Bool.or_self, Bool.false_eq_true, if_false]
    rw [w64_id (by omega) (by omega)]
    rfl
  · unfold treatylaw34_AccountStatement_l21
    rw [if_neg (by simp)]
theorem treatylaw34_AccountStatement_law (d : List Int) (a n t p m : Int) (hd : d.length ≤ 9223372036854775807) : treatylaw34_AccountStatement d a n t p m = some true := by
  unfold treatylaw34_AccountStatement
  obtain ⟨r, er⟩ := few_ok hd a n
  rw [er, Option.bind_some]
  have hloop : loopV (treatylaw34_AccountStatement_l8 t p m r) 0 = some (.inr ()) := by
    refine loopV_done (step := treatylaw34_AccountStatement_l8 t p m r) (fun k => (k : Int)) 2 (.inr ()) ?_ ?_
    · intro k hk
      unfold treatylaw34_AccountStatement_l8
      have hin : k < [r.1, r.2].length := by simpa using hk
      rw [if_pos (by simp; omega), chk_of (inb_nat hin), stInner]
      simp only [Option.bind_some, Sum.elim_inr, Sum.elim_inl]
      rw [w64_id (by omega) (by omega)]
      rfl
    · unfold treatylaw34_AccountStatement_l8
      rw [if_neg (by simp)]
  rw [hloop]
  simp [awake34]
end Go.Proofs.Ytipblbjkbeiflaa.Pl
