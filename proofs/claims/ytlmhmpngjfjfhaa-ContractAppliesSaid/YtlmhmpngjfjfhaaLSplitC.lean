/- split.Split (plain): what it returns, for all arguments. -/
import Derived.Test.YtlmhmpngjfjfhaaLSplitB
namespace Go.Proofs.Ytlmhmpngjfjfhaa.Pl
open Go

def okW (w : Int) : Bool := decide (0 ≤ w) && decide (w ≤ 17592186044416)
theorem okW_iff {w : Int} : okW w = true ↔ 0 ≤ w ∧ w ≤ 17592186044416 := by simp [okW]
/-- a loop that looks at one element after the other -/
theorem inRange_eq {l : List Int} (hl : l.length ≤ 1000000) : split_inRange l = some (l.all okW) := by
  have main : ∀ (n k : Nat), n + k = l.length → (loopV (split_inRange_l6 l) (k : Int)) = some (if (l.drop k).all okW then .inr () else .inl false) := by
    intro n
    induction n with
    | zero =>
      intro k hk
      have s : split_inRange_l6 l (k : Int) = some (.inr (.inr ())) := by
        unfold split_inRange_l6
        rw [if_neg (by simp; omega)]
      rw [loopV_stop s, List.drop_eq_nil_of_le (by omega)]
      rfl
    | succ n ih =>
      intro k hk
      have hkl : k < l.length := by omega
      have e : l.drop k = l[k] :: l.drop (k + 1) := List.drop_eq_getElem_cons hkl
      by_cases hw : okW l[k] = true
      · have hw' := okW_iff.1 hw
        have s : split_inRange_l6 l (k : Int) = some (.inl ((k + 1 : Nat) : Int)) := by
          unfold split_inRange_l6
          rw [if_pos (by simp; omega), chk_true (inb_nat hkl), ix_nat hkl, if_neg (by simp; omega), w64_id (by omega) (by omega)]
          rfl
        rw [loopV_next s, ih (k + 1) (by omega), e, List.all_cons, hw, Bool.true_and]
      · have s : split_inRange_l6 l (k : Int) = some (.inr (.inl false)) := by
          unfold split_inRange_l6
          rw [if_pos (by simp; omega), chk_true (inb_nat hkl), ix_nat hkl, if_pos]
          rw [okW_iff] at hw
          simp
          omega
        rw [loopV_stop s, e, List.all_cons, Bool.eq_false_iff.2 hw, Bool.false_and]
        rfl
  unfold split_inRange
  have := main l.length 0 (by omega)
  rw [Int.ofNat_zero] at this
  rw [this]
  simp only [List.drop_zero]
  by_cases h : l.all okW = true
  · simp [h]
  · simp only [h]
    simp
theorem total_eq {l : List Int} (hl : l.length ≤ 1000) (h : ∀ w ∈ l, 0 ≤ w ∧ w ≤ 17592186044416) : split_total l = some l.sum := by
  unfold split_total
  have hd := loopV_done (step := split_total_l8 l) (fun k => ((l.take k).sum, (k : Int))) l.length l.sum ?_ ?_
  · have hd' : loopV (split_total_l8 l) (0, 0) = some l.sum := by simpa using hd
    rw [hd']
    rfl
  · intro k hk
    have hs := sum_le (l := l.take k) fun q hq => h q (List.mem_of_mem_take hq)
    have hsl : (l.take k).length ≤ 1000 := by simp; omega
    have hw := h l[k] (List.getElem_mem hk)
    unfold split_total_l8
    simp only
    rw [if_pos (by simp; omega), chk_true (inb_nat hk), ix_nat hk, w64_id (by omega) (by omega), w64_id (by omega) (by omega), List.take_succ_eq_append_getElem hk, List.sum_append]
    simp
  · unfold split_total_l8
    simp
/-- all parts with the other sign -/
theorem negate_loop {p : List Int} (hl : p.length ≤ 1000000) (h : ∀ x ∈ p, -1000000000000000 ≤ x ∧ x ≤ 1000000000000000) (step : List Int × Int → Option ((List Int × Int) ⊕ List Int))
    (hstep : ∀ q k, step (q, k) = if (decide (k < (p.length : Int))) = true then (chk (inb q k) <| some (.inl ((upd q k (w64 (0 - (ix q k)))), (w64 (k + 1))))) else (some (.inr q))) : loopV step (p, 0) = some (p.map fun x => -x) := by
  have hd := loopV_done (step := step) (fun k => ((p.take k).map (fun x => -x) ++ p.drop k, (k : Int))) p.length (p.map fun x => -x) ?_ ?_
  · simpa using hd
  · intro k hk
    have hb := h p[k] (List.getElem_mem hk)
    have e : p.drop k = p[k] :: p.drop (k + 1) := List.drop_eq_getElem_cons hk
    have hlen : ((p.take k).map (fun x => -x)).length = k := by simp; omega
    have hin : k < ((p.take k).map (fun x => -x) ++ p.drop k).length := by simp; omega
    rw [hstep, if_pos (by simp; omega), chk_true (inb_nat hin), ix_nat hin, List.getElem_append_right (by omega)]
    simp only [hlen, Nat.sub_self]
    have e2 : (p.drop k)[0]'(by simp; omega) = p[k] := by simp
    rw [e2, w64_id (by omega) (by omega), w64_id (by omega) (by omega)]
    simp only [upd, Int.toNat_natCast]
    rw [List.set_append_right _ _ (by omega), hlen, e, Nat.sub_self, List.set_cons_zero, List.take_succ_eq_append_getElem hk, List.map_append, List.append_assoc, Int.zero_sub]
    rfl
  · simp only [hstep]
    simp

/-- what Split answers -/
def splitS (a : Int) (l : List Int) : List Int × Int :=
  if l.length = 0 then ([], 19) else if 64 < l.length then ([], 4) else if ¬ (-17592186044416 ≤ a ∧ a ≤ 17592186044416) ∨ l.all okW = false then ([], 1) else if l.sum = 0 then ([], 2) else if 0 ≤ a then (splitD a l l.sum, 0) else ((splitD (-a) l l.sum).map (fun x => -x), 0)
theorem all_okW {l : List Int} (h : l.all okW = true) : ∀ w ∈ l, 0 ≤ w ∧ w ≤ 17592186044416 := fun w hw => okW_iff.1 (List.all_eq_true.1 h w hw)
theorem splitD_bounds {a : Int} {l : List Int} {W : Int} (h : DivOk a l W) : ∀ x ∈ splitD a l W, 0 ≤ x ∧ x ≤ 17592186044417 := by
  intro x hx
  obtain ⟨i, hi, rfl⟩ := List.mem_map.1 hx
  have hi' := List.mem_range.1 hi
  have hq := quo_bounds h _ (List.getElem_mem hi')
  have e : (quos a l W).getD i 0 = (quos a l W)[i] := by simp [hi']
  rw [e]
  split <;> omega
theorem splitD_length (a : Int) (l : List Int) (W : Int) : (splitD a l W).length = l.length := by rw [splitD, given_length, quos_length]
theorem split_eq (a : Int) (l : List Int) : split_Split a l = some (splitS a l) := by
  unfold split_Split splitS
  by_cases h0 : l.length = 0
  · rw [if_pos (by simp [h0]), if_pos h0]
  · rw [if_neg (by simpa using h0), if_neg h0]
    by_cases h1 : 64 < l.length
    · rw [if_pos (by simp; omega), if_pos h1]
    · rw [if_neg (by simp; omega), if_neg h1]
      unfold amount_Valid
      rw [Option.bind_some, inRange_eq (by omega)]
      by_cases hv : -17592186044416 ≤ a ∧ a ≤ 17592186044416
      · have e1 : (decide (-17592186044416 ≤ a) && decide (a ≤ 17592186044416)) = true := by simp [hv]
        rw [e1]
        by_cases hr : l.all okW = true
        · have hw := all_okW hr
          have hs := sum_le hw
          rw [hr, total_eq (by omega) hw]
          simp only [Bool.not_true, Bool.false_eq_true, if_false, Option.bind_some, hv, and_self, not_true_eq_false, Bool.true_eq_false, or_self]
          by_cases hz : l.sum = 0
          · simp [hz]
          · rw [if_neg (by simpa using hz), if_neg hz]
            by_cases ha : 0 ≤ a
            · rw [if_pos (by simpa using ha), if_pos ha, divide_ok ⟨ha, hv.2, hw, by omega, rfl, by omega⟩]
              rfl
            · have hd : DivOk (-a) l l.sum := ⟨by omega, by omega, hw, by omega, rfl, by omega⟩
              rw [if_neg (by simpa using ha), if_neg ha, w64_id (by omega) (by omega), Int.zero_sub, divide_ok hd, Option.bind_some]
              rw [negate_loop (p := splitD (-a) l l.sum) (by rw [splitD_length]; omega) (fun x hx => by have := splitD_bounds hd x hx; omega) (split_Split_l40 (splitD (-a) l l.sum)) (fun q k => rfl)]
              rfl
        · have hr' := Bool.eq_false_iff.2 hr
          simp [hr']
      · have e1 : (decide (-17592186044416 ≤ a) && decide (a ≤ 17592186044416)) = false := by
          simp
          omega
        rw [e1]
        simp [hv]
end Go.Proofs.Ytlmhmpngjfjfhaa.Pl
