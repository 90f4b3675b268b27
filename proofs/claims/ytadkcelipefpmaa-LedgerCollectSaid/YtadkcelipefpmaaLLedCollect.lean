/- The law LedgerCollect (plain). -/
import Derived.Test.YtadkcelipefpmaaLLw
namespace Go.Proofs.Ytadkcelipefpmaa.Pl
open Go

theorem treatylaw33_LedgerCollect_law (raw : List GEntry) (d : List Int) (hd : d.length ≤ 9223372036854775807) : treatylaw33_LedgerCollect raw d = some true := by
  unfold treatylaw33_LedgerCollect
  by_cases h : 200 < raw.length
  · rw [if_pos (by simp; omega), awake33]
    rfl
  · rw [if_neg (by simp; omega)]
    obtain ⟨e1, hk⟩ := new_ok d hd
    obtain ⟨es, d', e2, _, _, _⟩ := entries_ok hk 40 (by omega)
    rw [show ((40 : Nat) : Int) = 40 from rfl] at e2
    obtain ⟨r1, c1, h1, l1, _⟩ := collect_tot raw
    obtain ⟨r2, c2, h2, l2, _⟩ := collect_tot es
    simp only [e1, Option.bind_some, e2, collect_same, h1, h2, sameEntries_refl r1 (by omega), sameEntries_refl r2 (by omega), awake33, decide_true, Bool.and_self, if_true]
end Go.Proofs.Ytadkcelipefpmaa.Pl
