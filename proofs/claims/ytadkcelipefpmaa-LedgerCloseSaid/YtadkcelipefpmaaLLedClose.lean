/- The law LedgerClose (plain). -/
import Derived.Test.YtadkcelipefpmaaLLw
namespace Go.Proofs.Ytadkcelipefpmaa.Pl
open Go

theorem treatylaw33_LedgerClose_law (d o : List Int) (a n : Int) (hd : d.length ≤ 9223372036854775807) (ho : o.length ≤ 9223372036854775807) : treatylaw33_LedgerClose d o a n = some true := by
  unfold treatylaw33_LedgerClose
  obtain ⟨l, k, e1, hm⟩ := few33 hd a n
  obtain ⟨r1, c1, h1, l1⟩ := close_tot l
  obtain ⟨r2, c2, h2, l2⟩ := close_tot k
  obtain ⟨e3, hk⟩ := new_ok o ho
  obtain ⟨es, d', e4, _, hl, he⟩ := entries_ok hk 3 (by omega)
  rw [show ((3 : Nat) : Int) = 3 from rfl] at e4
  have hcl := hm.closed
  have hL : LOk ⟨100, l.Postings⟩ := by
    refine ⟨by show (0 : Int) ≤ 100; omega, by show (100 : Int) ≤ 100; omega, hm.ok.len, fun p hp => ?_, hm.ok.ord⟩
    obtain ⟨a1, a2, a3, a4, a5, a6⟩ := hm.ok.ent p hp
    exact ⟨a1, a2, a3, a4, a5, by show p.Period ≤ 100; omega⟩
  have habs := absA_EOk he
  obtain ⟨cs, hcs, hcl2, _, _⟩ := collect_ok (l := es) (by omega) (fun e hx => (he e hx).valid) (by omega)
  have hp := ppost_eq hL hcs (by omega)
  have hc := pclose_eq hL
  rw [if_pos rfl] at hp hc
  simp only [e1, Option.bind_some, close_same, h1, h2, sameLedger_refl r1 (by omega), sameLedger_refl r2 (by omega)]
  rw [close_same] at hc
  simp only [hc, Option.bind_some, e3, e4, hp, decide_true, Bool.and_self, if_true, awake33]
end Go.Proofs.Ytadkcelipefpmaa.Pl
