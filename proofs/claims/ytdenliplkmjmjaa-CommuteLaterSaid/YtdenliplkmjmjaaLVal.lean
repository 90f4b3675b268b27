/- Valid entries and ledgers, Collect of the reference, as plain functions. -/
import Derived.Test.YtdenliplkmjmjaaLSum
namespace Go.Proofs.Ytdenliplkmjmjaa.Pl

def headB (e : GEntry) : Bool := decide (1 ≤ e.Kind) && decide (e.Kind ≤ 5) && decide (0 ≤ e.Treaty) && decide (e.Treaty ≤ 1048576) && decide (0 ≤ e.Party) && decide (e.Party ≤ 15) &&
  (if e.Kind = 1 ∨ e.Kind = 2 then decide (1 ≤ e.Loss) && decide (e.Loss ≤ 1048576) else decide (e.Loss = 0))
def vE (e : GEntry) : Bool := headB e && vAmt e.Amount
theorem rvalid_eq (e : GEntry) : treatyref33_Valid e = some (vE e) := by
  unfold treatyref33_Valid vE headB vAmt treatyref01_Valid
  by_cases h1 : e.Kind = 1 ∨ e.Kind = 2
  · have h1' : (decide (e.Kind = 1) || decide (e.Kind = 2)) = true := by simpa using h1
    simp only [h1', if_true, h1, Option.bind_some]
    generalize (decide (1 ≤ e.Kind) && decide (e.Kind ≤ 5) && decide (0 ≤ e.Treaty) && decide (e.Treaty ≤ 1048576) && decide (0 ≤ e.Party) && decide (e.Party ≤ 15) && (decide (1 ≤ e.Loss) && decide (e.Loss ≤ 1048576))) = b
    cases b <;> simp
  · have h1' : (decide (e.Kind = 1) || decide (e.Kind = 2)) = false := by simpa using h1
    simp only [h1', Bool.false_eq_true, if_false, h1, Option.bind_some]
    generalize (decide (1 ≤ e.Kind) && decide (e.Kind ≤ 5) && decide (0 ≤ e.Treaty) && decide (e.Treaty ≤ 1048576) && decide (0 ≤ e.Party) && decide (e.Party ≤ 15) && decide (e.Loss = 0)) = b
    cases b <;> simp
theorem pvalid_eq (e : GEntry) : ledger_Valid e = some (vE e) := by
  unfold ledger_Valid amount_Valid
  have hv : vE e = (headB e && vAmt e.Amount) := rfl
  unfold headB vAmt at hv
  by_cases h1 : e.Kind = 1 ∨ e.Kind = 2
  · have h1' : (decide (e.Kind = 1) || decide (e.Kind = 2)) = true := by simpa using h1
    simp only [h1, if_true] at hv
    simp only [h1', if_true, Option.bind_some]
    by_cases a1 : e.Kind < 1 <;> by_cases a2 : 5 < e.Kind <;> by_cases a3 : e.Treaty < 0 <;> by_cases a4 : 1048576 < e.Treaty <;> by_cases a5 : e.Party < 0 <;> by_cases a6 : 15 < e.Party <;> by_cases a7 : -17592186044416 ≤ e.Amount <;> by_cases a8 : e.Amount ≤ 17592186044416 <;>
      simp [hv, a1, a2, a3, a4, a5, a6, a7, a8] <;> first | omega | (intros; omega) | skip
    all_goals first | (rw [Bool.eq_iff_iff]; simp; omega) | skip
  · have h1' : (decide (e.Kind = 1) || decide (e.Kind = 2)) = false := by simpa using h1
    simp only [h1, if_false] at hv
    simp only [h1', Bool.false_eq_true, if_false, Option.bind_some]
    by_cases a1 : e.Kind < 1 <;> by_cases a2 : 5 < e.Kind <;> by_cases a3 : e.Treaty < 0 <;> by_cases a4 : 1048576 < e.Treaty <;> by_cases a5 : e.Party < 0 <;> by_cases a6 : 15 < e.Party <;> by_cases a7 : -17592186044416 ≤ e.Amount <;> by_cases a8 : e.Amount ≤ 17592186044416 <;>
      simp [hv, a1, a2, a3, a4, a5, a6, a7, a8] <;> first | omega | (intros; omega) | skip
    all_goals first | (rw [Bool.eq_iff_iff]; simp; omega) | skip
end Go.Proofs.Ytdenliplkmjmjaa.Pl
