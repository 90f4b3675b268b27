/- The law AccountExtract (plain). -/
import Derived.Test.YtadkcelipefpmaaLDif
import Derived.Test.YtadkcelipefpmaaLAcc
namespace Go.Proofs.Ytadkcelipefpmaa.Pl
open Go

theorem few34 {d : List Int} (hd : d.length ≤ 9223372036854775807) (a n : Int) : ∃ l k, treatylaw34_few d a n = some (l, k) ∧ Made l 8 ∧ k.Postings.length ≤ 32 := by
  unfold treatylaw34_few
  obtain ⟨e1, hk⟩ := new_ok d hd
  obtain ⟨l, d', e2, _, hm⟩ := ledger_ok hk 8 (by omega)
  rw [show ((8 : Nat) : Int) = 8 from rfl] at e2
  have hfew := hm.few
  rw [e1, Option.bind_some, e2, Option.bind_some]
  dsimp only
  rw [chk_of (room_of (by omega)), Option.bind_some]
  have b31 := (bAnd_lt (bShr .i64 a 4) 31 (by omega)).1
  have b15 := (bAnd_lt a 15 (by omega)).1
  simp only [Int.cast_ofNat_Int] at b31 b15
  generalize bAnd .i64 (bShr .i64 a 4) 31 = I at *
  generalize bAnd .i64 a 15 = J at *
  by_cases hx : 0 < l.Postings.length
  · rw [if_pos (by simp; omega), chk_of (by simp only [Bool.not_eq_true', decide_eq_false_iff_not]; omega), Int.tmod_eq_emod_of_nonneg b31, chk_of (inb_of (Int.emod_nonneg _ (by omega)) (Int.emod_lt_of_pos _ (by omega)))]
    by_cases hJ : J < 8
    · rw [if_pos (by simpa using hJ), chk_of (by simpa using b15), chk_of (by simpa using hJ)]
      repeat' split
      all_goals exact ⟨_, _, rfl, hm, by simp only [upd, List.length_set]; omega⟩
    · rw [if_neg (by simpa using hJ)]
      exact ⟨_, _, rfl, hm, by dsimp only; omega⟩
  · rw [if_neg (by simp only [decide_eq_true_eq]; omega)]
    exact ⟨_, _, rfl, hm, by dsimp only; omega⟩
theorem exInner (p : Int) (r : GLedger × GLedger) (s : Int) : loopV (treatylaw34_AccountExtract_l24 p r s) 0 = some (.inr ()) := by
  refine loopV_done (step := treatylaw34_AccountExtract_l24 p r s) (fun k => (k : Int)) 2 (.inr ()) ?_ ?_
  · intro k hk
    unfold treatylaw34_AccountExtract_l24
    have hin : k < [p, bAnd .i64 p 3].length := by simpa using hk
    rw [if_pos (by simp; omega), chk_of (inb_nat hin)]
    generalize ix [r.1, r.2] s = l
    generalize ix [p, bAnd .i64 p 3] (k : Int) = u
    obtain ⟨a, e, h1, h2⟩ := extract_tot l u
    simp only [extract_same, h1, Option.bind_some, sameLedger_refl a (by omega), decide_true, Bool.not_true, Bool.or_self, Bool.false_eq_true, if_false]
    rw [w64_id (by omega) (by omega)]
    rfl
  · unfold treatylaw34_AccountExtract_l24
    rw [if_neg (by simp)]
theorem treatylaw34_AccountExtract_law (d o : List Int) (a n p : Int) (hd : d.length ≤ 9223372036854775807) (ho : o.length ≤ 9223372036854775807) : treatylaw34_AccountExtract d o a n p = some true := by
  unfold treatylaw34_AccountExtract
  obtain ⟨l, k, er, hm, hkl⟩ := few34 hd a n
  obtain ⟨e1, hk⟩ := new_ok o ho
  obtain ⟨q, d', e2, _, hq⟩ := ledger_ok hk 6 (by omega)
  rw [show ((6 : Nat) : Int) = 6 from rfl] at e2
  have hf1 := hm.few
  have hf2 := hq.few
  rw [er, Option.bind_some, e1, Option.bind_some, e2, Option.bind_some]
  have hloop : loopV (treatylaw34_AccountExtract_l10 p (l, k) (q, d')) 0 = some (.inr ()) := by
    refine loopV_done (step := treatylaw34_AccountExtract_l10 p (l, k) (q, d')) (fun k => (k : Int)) 2 (.inr ()) ?_ ?_
    · intro j hj
      unfold treatylaw34_AccountExtract_l10
      have hin : j < [(l, k).1, (l, k).2].length := by simpa using hj
      rw [if_pos (by simp; omega), chk_of (inb_nat hin), exInner]
      have hx : ∃ x, ix [(l, k).1, (l, k).2] (j : Int) = x ∧ x.Postings.length ≤ 10000 := by
        rw [ix_nat hin]
        match j, hin with
        | 0, _ => exact ⟨_, rfl, by show l.Postings.length ≤ 10000; omega⟩
        | 1, _ => exact ⟨_, rfl, by show k.Postings.length ≤ 10000; omega⟩
        | j + 2, h => simp at h; omega
      obtain ⟨x, hx, hxl⟩ := hx
      obtain ⟨r1, c1, h1, h2, h3⟩ := differ_same x q hxl (by omega)
      obtain ⟨r2, c2, h4, h5, h6⟩ := differ_same q x (by omega) hxl
      simp only [hx, Option.bind_some, Sum.elim_inr, Sum.elim_inl, h1, h2, h4, h5, sameEntries_refl r1 (by omega), sameEntries_refl r2 (by omega), decide_true, Bool.not_true, Bool.or_self, Bool.false_eq_true, if_false]
      rw [w64_id (by omega) (by omega)]
      rfl
    · unfold treatylaw34_AccountExtract_l10
      rw [if_neg (by simp)]
  rw [hloop]
  simp [awake34]
end Go.Proofs.Ytadkcelipefpmaa.Pl
