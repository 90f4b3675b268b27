/- aggregate (plain): totals, what is paid of a total, the steps. -/
import Derived.Test.YtoodneljjhbfhaaLPart
import Derived.Test.YtoodneljjhbfhaaLSame
import Derived.Test.YtoodneljjhbfhaaLDeck
namespace Go.Proofs.Ytoodneljjhbfhaa.Pl
open Go

/-! ### excess.Layer -/
theorem least_one (a b : Int) : excess_least a [b] = some (min a b) := by
  unfold excess_least
  have s0 : excess_least_l6 [b] (a, 0) = some (.inl (min a b, 1)) := by
    unfold excess_least_l6
    by_cases h : b < a
    · simp [inb, ix, chk, h, w64_id]
      omega
    · simp [inb, ix, chk, h, w64_id]
      omega
  have s1 : excess_least_l6 [b] (min a b, 1) = some (.inr (min a b)) := by
    unfold excess_least_l6
    simp
  rw [loopV_next s0, loopV_stop s1]
  rfl
theorem greatest_one (a b : Int) : excess_greatest a [b] = some (max a b) := by
  unfold excess_greatest
  have s0 : excess_greatest_l6 [b] (a, 0) = some (.inl (max a b, 1)) := by
    unfold excess_greatest_l6
    by_cases h : a < b
    · simp [inb, ix, chk, h, w64_id]
      omega
    · simp [inb, ix, chk, h, w64_id]
      omega
  have s1 : excess_greatest_l6 [b] (max a b, 1) = some (.inr (max a b)) := by
    unfold excess_greatest_l6
    simp
  rw [loopV_next s0, loopV_stop s1]
  rfl
def cl (x : Int) : Int := max 0 (min x 17592186044416)
theorem limited_eq (x : Int) : excess_limited x = some (cl x) := by
  unfold excess_limited
  rw [least_one, Option.bind_some, greatest_one]
  rfl
theorem layer_eq (x r m : Int) : excess_Layer x r m = some (min (cl m) (max 0 (cl x - cl r))) := by
  unfold excess_Layer
  simp only [limited_eq, Option.bind_some]
  rw [w64_id (by unfold cl; omega) (by unfold cl; omega), greatest_one, Option.bind_some, least_one]
  rfl
/-- what is paid of a total -/
def G (t d m : Int) : Int := if 0 < m then min (max (t - d) 0) m else max (t - d) 0
def amt (x : Int) : Prop := 0 ≤ x ∧ x ≤ 17592186044416
theorem paid_eq {t d m : Int} (ht : amt t) (hd : amt d) (hm : amt m) : aggregate_paid t d m = some (G t d m) := by
  unfold aggregate_paid amt at *
  by_cases h : m = 0
  · subst h
    rw [if_pos (by simp), Option.bind_some, layer_eq, Option.bind_some]
    unfold G cl
    simp only [Int.lt_irrefl, if_false]
    congr 1
    omega
  · rw [if_neg (by simpa using h), Option.bind_some, layer_eq, Option.bind_some]
    unfold G cl
    rw [if_pos (by omega)]
    congr 1
    omega
/-! ### totals -/
theorem within_eq (x : Int) : aggregate_within x = some (okW x) := rfl
theorem add_eq (s x : Int) : aggregate_running_int_add (Grunning.mk s) x = some (w64 (s + x), Grunning.mk (w64 (s + x))) := rfl
theorem okW_amt {x : Int} : okW x = true ↔ amt x := okW_iff
def totS (l : List Int) (d m : Int) : Int × Int :=
  if 64 < l.length then (0, 4) else if okW d = false ∨ okW m = false ∨ l.all okW = false then (0, 1) else if 17592186044416 < l.sum then (0, 3) else (l.sum, 0)
theorem total_loop {l : List Int} (hl : l.length ≤ 64) : loopV (aggregate_total_l20 l) (0, 0) = some (if l.all okW then .inr l.sum else .inl (0, 1)) := by
  have main : ∀ (n k : Nat), n + k = l.length → (l.take k).all okW = true → (loopV (aggregate_total_l20 l) ((l.take k).sum, (k : Int))) = some (if l.all okW then .inr l.sum else .inl (0, 1)) := by
    intro n
    induction n with
    | zero =>
      intro k hk ha
      have s : aggregate_total_l20 l ((l.take k).sum, (k : Int)) = some (.inr (.inr (l.take k).sum)) := by
        unfold aggregate_total_l20
        rw [if_neg (by simp; omega)]
      rw [List.take_of_length_le (by omega)] at ha s ⊢
      rw [loopV_stop s, if_pos ha]
    | succ n ih =>
      intro k hk ha
      have hkl : k < l.length := by omega
      have hs := sum_le (all_okW ha)
      have hsl : (l.take k).length ≤ 64 := by simp; omega
      by_cases hw : okW l[k] = true
      · have hw' := okW_iff.1 hw
        have e := List.take_succ_eq_append_getElem hkl
        have s : aggregate_total_l20 l ((l.take k).sum, (k : Int)) = some (.inl ((l.take (k + 1)).sum, ((k + 1 : Nat) : Int))) := by
          unfold aggregate_total_l20
          dsimp only
          rw [if_pos (by simp; omega), chk_true (inb_nat hkl), ix_nat hkl, within_eq, Option.bind_some, hw, if_neg (by simp), add_eq, Option.bind_some]
          dsimp only
          rw [w64_id (by omega) (by omega), w64_id (by omega) (by omega), e, List.sum_append]
          simp
        rw [loopV_next s, ih (k + 1) (by omega) (by rw [e, List.all_append, ha]; simpa using hw)]
      · have s : aggregate_total_l20 l ((l.take k).sum, (k : Int)) = some (.inr (.inl (0, 1))) := by
          unfold aggregate_total_l20
          dsimp only
          rw [if_pos (by simp; omega), chk_true (inb_nat hkl), ix_nat hkl, within_eq, Option.bind_some, if_pos (by simpa using hw)]
        rw [loopV_stop s, if_neg]
        intro h
        exact hw (List.all_eq_true.1 h _ (List.getElem_mem hkl))
  have := main l.length 0 (by omega) (by simp)
  simpa using this
theorem total_agg (l : List Int) (d m : Int) : aggregate_total l d m = some (totS l d m) := by
  unfold aggregate_total totS
  by_cases h0 : 64 < l.length
  · rw [if_pos (by simp; omega), if_pos h0]
  · rw [if_neg (by simp; omega), if_neg h0, within_eq, within_eq, Option.bind_some, Option.bind_some, total_loop (by omega)]
    cases hd : okW d <;> cases hm : okW m <;> cases hl : l.all okW <;> simp
    split <;> rfl
structure TOk (l : List Int) (d m : Int) : Prop where
  len : l.length ≤ 64
  d : amt d
  m : amt m
  vals : ∀ x ∈ l, amt x
  sum : l.sum ≤ 17592186044416
theorem totS_ok {l : List Int} {d m : Int} : (TOk l d m ∧ totS l d m = (l.sum, 0)) ∨ (∃ e, totS l d m = (0, e) ∧ e ≠ 0) := by
  unfold totS
  by_cases h0 : 64 < l.length
  · rw [if_pos h0]; exact .inr ⟨_, rfl, by decide⟩
  rw [if_neg h0]
  by_cases h1 : okW d = false ∨ okW m = false ∨ l.all okW = false
  · rw [if_pos h1]; exact .inr ⟨_, rfl, by decide⟩
  rw [if_neg h1]
  by_cases h2 : 17592186044416 < l.sum
  · rw [if_pos h2]; exact .inr ⟨_, rfl, by decide⟩
  rw [if_neg h2]
  simp only [not_or, Bool.not_eq_false] at h1
  exact .inl ⟨⟨by omega, okW_amt.1 h1.1, okW_amt.1 h1.2.1, all_okW h1.2.2, by omega⟩, rfl⟩
theorem TOk.tot {l : List Int} {d m : Int} (h : TOk l d m) : totS l d m = (l.sum, 0) := by
  unfold totS
  have hl := h.len
  have hs := h.sum
  have hall : l.all okW = true := List.all_eq_true.2 fun w hw => okW_iff.2 (h.vals w hw)
  rw [if_neg (by omega), if_neg (by rw [okW_amt.2 h.d, okW_amt.2 h.m, hall]; simp), if_neg (by omega)]
/-! ### prefixes -/
def P (l : List Int) (i : Nat) : Int := (l.take i).sum
theorem P_zero (l : List Int) : P l 0 = 0 := rfl
theorem P_succ {l : List Int} {i : Nat} (h : i < l.length) : P l (i + 1) = P l i + l[i] := by
  unfold P
  rw [List.take_succ_eq_append_getElem h, List.sum_append]
  simp
theorem P_all (l : List Int) : P l l.length = l.sum := by simp [P]
theorem sum_mono {l : List Int} (h : ∀ x ∈ l, amt x) (i : Nat) : 0 ≤ P l i ∧ P l i ≤ l.sum := by
  have h1 := sum_le (l := l.take i) fun x hx => h x (List.mem_of_mem_take hx)
  have h2 := sum_le (l := l.drop i) fun x hx => h x (List.mem_of_mem_drop hx)
  have h3 : l.sum = (l.take i).sum + (l.drop i).sum := by rw [← List.sum_append, List.take_append_drop]
  unfold P
  omega
theorem TOk.pre {l : List Int} {d m : Int} (h : TOk l d m) (i : Nat) : amt (P l i) := by
  have h1 := sum_mono h.vals i
  have h2 := h.sum
  exact ⟨h1.1, by omega⟩
theorem G_bounds {t d m : Int} (ht : amt t) (hd : amt d) : 0 ≤ G t d m ∧ G t d m ≤ 17592186044416 := by
  unfold G amt at *
  split <;> omega
/-- what each one adds to what is paid -/
def steps (l : List Int) (d m : Int) : List Int := (List.range l.length).map fun i => G (P l (i + 1)) d m - G (P l i) d m
theorem steps_length (l : List Int) (d m : Int) : (steps l d m).length = l.length := by simp [steps]
theorem steps_at {l : List Int} {d m : Int} {i : Nat} (h : i < l.length) : (steps l d m)[i]'(by rw [steps_length]; exact h) = G (P l (i + 1)) d m - G (P l i) d m := by simp [steps]
def applyS (l : List Int) (d m : Int) : List Int × Int := if (totS l d m).2 = 0 then (steps l d m, 0) else ([], (totS l d m).2)
theorem apply_loop {l : List Int} {d m : Int} (h : TOk l d m) : loopV (aggregate_Apply_l20 l d m) (List.replicate l.length 0, 0, 0, 0) = some (steps l d m) := by
  have hlen := h.len
  have hd := h.d
  have g0 : G (P l 0) d m = 0 := by
    rw [P_zero]
    unfold G amt at *
    split <;> omega
  have hd' := loopV_done (step := aggregate_Apply_l20 l d m) (fun k => (fill (steps l d m) k, P l k, G (P l k) d m, (k : Int))) l.length (steps l d m) ?_ ?_
  · rw [g0, P_zero] at hd'
    simpa [fill_zero, steps_length] using hd'
  · intro k hk
    have hks : k < (steps l d m).length := by rw [steps_length]; exact hk
    have p0 := h.pre k
    have p1 := h.pre (k + 1)
    have b0 := G_bounds p0 hd (m := m)
    have b1 := G_bounds p1 hd (m := m)
    unfold aggregate_Apply_l20
    dsimp only
    rw [if_pos (by simp; omega), chk_true (inb_nat hk), ix_nat hk, add_eq, Option.bind_some]
    dsimp only
    rw [← P_succ hk, w64_id (n := P l (k + 1)) (by unfold amt at *; omega) (by unfold amt at *; omega), paid_eq p1 hd h.m, Option.bind_some, chk_true (inb_nat (by rw [fill_length]; exact hks)), w64_id (by omega) (by omega), w64_id (by omega) (by omega), ← steps_at hk, upd_fill hks]
    rfl
  · unfold aggregate_Apply_l20
    dsimp only
    rw [if_neg (by simp)]
    have := fill_all (steps l d m)
    rw [steps_length] at this
    rw [this]
theorem apply_eq (l : List Int) (d m : Int) : aggregate_Apply l d m = some (applyS l d m) := by
  unfold aggregate_Apply applyS
  rw [total_agg, Option.bind_some]
  rcases totS_ok (l := l) (d := d) (m := m) with ⟨h, e⟩ | ⟨c, e, hc⟩
  · have hl := h.len
    rw [e]
    dsimp only
    rw [if_neg (by simp), if_pos rfl, chk_true (by simp), chk_true (by simp; omega)]
    simp only [Int.toNat_natCast]
    rw [apply_loop h]
    rfl
  · rw [e]
    dsimp only
    rw [if_pos (by simpa using hc), if_neg hc]
/-! ### the reference -/
theorem ramount_eq (x : Int) : treatyref20_amount x = some (okW x) := rfl
theorem rtotal_eq {l : List Int} (hl : l.length ≤ 64) : treatyref20_total l = some (if l.all okW then (if 17592186044416 < l.sum then (l.sum, 3) else (l.sum, 0)) else (0, 1)) := by
  have main : ∀ (n k : Nat), n + k = l.length → (l.take k).all okW = true → (loopV (treatyref20_total_l8 l) ((l.take k).sum, (k : Int))) = some (if l.all okW then .inr l.sum else .inl (0, 1)) := by
    intro n
    induction n with
    | zero =>
      intro k hk ha
      have s : treatyref20_total_l8 l ((l.take k).sum, (k : Int)) = some (.inr (.inr (l.take k).sum)) := by
        unfold treatyref20_total_l8
        rw [if_neg (by simp; omega)]
      rw [List.take_of_length_le (by omega)] at ha s ⊢
      rw [loopV_stop s, if_pos ha]
    | succ n ih =>
      intro k hk ha
      have hkl : k < l.length := by omega
      have hs := sum_le (all_okW ha)
      have hsl : (l.take k).length ≤ 64 := by simp; omega
      by_cases hw : okW l[k] = true
      · have hw' := okW_iff.1 hw
        have e := List.take_succ_eq_append_getElem hkl
        have s : treatyref20_total_l8 l ((l.take k).sum, (k : Int)) = some (.inl ((l.take (k + 1)).sum, ((k + 1 : Nat) : Int))) := by
          unfold treatyref20_total_l8
          dsimp only
          rw [if_pos (by simp; omega), chk_true (inb_nat hkl), ix_nat hkl, ramount_eq, Option.bind_some, hw, if_neg (by simp), w64_id (by omega) (by omega), w64_id (by omega) (by omega), e, List.sum_append]
          simp
        rw [loopV_next s, ih (k + 1) (by omega) (by rw [e, List.all_append, ha]; simpa using hw)]
      · have s : treatyref20_total_l8 l ((l.take k).sum, (k : Int)) = some (.inr (.inl (0, 1))) := by
          unfold treatyref20_total_l8
          dsimp only
          rw [if_pos (by simp; omega), chk_true (inb_nat hkl), ix_nat hkl, ramount_eq, Option.bind_some, if_pos (by simpa using hw)]
        rw [loopV_stop s, if_neg]
        intro h
        exact hw (List.all_eq_true.1 h _ (List.getElem_mem hkl))
  have h := main l.length 0 (by omega) (by simp)
  simp only [List.take_zero, List.sum_nil, Int.ofNat_zero] at h
  unfold treatyref20_total
  have h' : loopV (treatyref20_total_l8 l) (0, 0) = some (if l.all okW then .inr l.sum else .inl (0, 1)) := h
  rw [h']
  cases hr : l.all okW <;> simp
  split <;> rfl
theorem rG_eq {t d m : Int} (ht : -35184372088832 ≤ t ∧ t ≤ 35184372088832) (hd : amt d) : treatyref20_G t d m = some (G t d m) := by
  unfold treatyref20_G G amt at *
  rw [w64_id (by omega) (by omega)]
  simp only [minI_eq, maxI_eq]
  by_cases h : 0 < m
  · simp [h]
  · simp [h]
theorem rapply_loop {l : List Int} {d m : Int} (h : TOk l d m) : loopV (treatyref20_Apply_l28 l d m) ([], 0) = some (steps l d m) := by
  have hlen := h.len
  have hd := h.d
  have hd' := loopV_done (step := treatyref20_Apply_l28 l d m) (fun k => ((steps l d m).take k, (k : Int))) l.length (steps l d m) ?_ ?_
  · simpa using hd'
  · intro k hk
    have hks : k < (steps l d m).length := by rw [steps_length]; exact hk
    have p0 := h.pre k
    have p1 := h.pre (k + 1)
    have b0 := G_bounds p0 hd (m := m)
    have b1 := G_bounds p1 hd (m := m)
    have hall : (l.take k).all okW = true := List.all_eq_true.2 fun w hw => okW_iff.2 (h.vals w (List.mem_of_mem_take hw))
    have ht : treatyref20_total (l.take k) = some (P l k, 0) := by
      rw [rtotal_eq (by simp; omega), hall, if_pos rfl, if_neg (by unfold amt P at p0; omega)]
      rfl
    unfold treatyref20_Apply_l28
    dsimp only
    rw [if_pos (by simp; omega), chk_true (by simp), chk_true (by simp; omega)]
    simp only [Int.toNat_natCast]
    rw [ht, Option.bind_some, chk_true (inb_nat hk), ix_nat hk]
    dsimp only
    rw [← P_succ hk]
    unfold amt at p0 p1
    rw [w64_id (n := P l (k + 1)) (by omega) (by omega), rG_eq (by omega) hd, Option.bind_some, rG_eq (by omega) hd, Option.bind_some, w64_id (by omega) (by omega), chk_true (room_of (by simp; omega)), w64_id (by omega) (by omega), ← steps_at hk, List.take_succ_eq_append_getElem hks]
    rfl
  · unfold treatyref20_Apply_l28
    dsimp only
    rw [if_neg (by simp), List.take_of_length_le (by rw [steps_length]; omega)]
theorem rapply_eq (l : List Int) (d m : Int) : treatyref20_Apply l d m = some (applyS l d m) := by
  unfold treatyref20_Apply applyS
  by_cases h0 : 64 < l.length
  · have e : totS l d m = (0, 4) := by unfold totS; rw [if_pos h0]
    rw [if_pos (by simp; omega), e]
    simp
  rw [if_neg (by simp; omega), rtotal_eq (by omega), Option.bind_some, ramount_eq, ramount_eq, Option.bind_some, Option.bind_some]
  rcases totS_ok (l := l) (d := d) (m := m) with ⟨h, e⟩ | ⟨c, e, hc⟩
  · have hall : l.all okW = true := List.all_eq_true.2 fun w hw => okW_iff.2 (h.vals w hw)
    have hsum := h.sum
    rw [e, hall, okW_amt.2 h.d, okW_amt.2 h.m, rapply_loop h, if_neg (show ¬ 17592186044416 < l.sum by omega)]
    simp
  · rw [e]
    dsimp only
    rw [if_neg hc]
    have hs : totS l d m = (0, c) := e
    unfold totS at hs
    rw [if_neg h0] at hs
    by_cases h3 : 17592186044416 < l.sum
    · rw [if_pos h3] at hs ⊢
      cases hd : okW d <;> cases hm : okW m <;> cases hl : l.all okW <;> simp [hd, hm, hl] at hs ⊢ <;> exact hs
    · rw [if_neg h3] at hs ⊢
      cases hd : okW d <;> cases hm : okW m <;> cases hl : l.all okW <;> simp [hd, hm, hl] at hs ⊢ <;> first | exact hs | exact absurd hs.2.symm hc
end Go.Proofs.Ytoodneljjhbfhaa.Pl
