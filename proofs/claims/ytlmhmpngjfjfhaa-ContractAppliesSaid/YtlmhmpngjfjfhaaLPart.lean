/- The parts of a split (plain): they add up, none of weight 0, each near to its quota. -/
import Derived.Test.YtlmhmpngjfjfhaaLSplitC
namespace Go.Proofs.Ytlmhmpngjfjfhaa.Pl
open Go

theorem perm_sum {a b : List Int} (h : a.Perm b) : a.sum = b.sum := by
  induction h with
  | nil => rfl
  | cons x _ ih => rw [List.sum_cons, List.sum_cons, ih]
  | swap x y l => simp only [List.sum_cons]; omega
  | trans _ _ h1 h2 => exact h1.trans h2
theorem sum_ones {α : Type} (f : α → Int) (p : α → Bool) (l : List α) : (l.map fun i => f i + if p i = true then 1 else 0).sum = (l.map f).sum + (l.countP p : Int) := by
  induction l with
  | nil => rfl
  | cons x l ih =>
    simp only [List.map_cons, List.sum_cons, ih, List.countP_cons]
    by_cases h : p x = true
    · simp [h]; omega
    · simp [h]; omega
theorem range_getD (qs : List Int) : (List.range qs.length).map (fun i => qs.getD i 0) = qs := by
  apply List.ext_getElem
  · simp
  · intro i h1 h2
    simp [h2]
/-- an order of all indices by rank -/
theorem ranked {rs : List Int} (hn : rs.length ≤ 1000000) : ∃ L : List Nat, L.Perm (List.range rs.length) ∧ (L.Pairwise fun i j => beats rs i j = true) := by
  obtain ⟨L, _, h1, h2⟩ := sorted_idxs hn
  exact ⟨L, h1, h2⟩
theorem rank_count {rs : List Int} (hn : rs.length ≤ 1000000) {k : Nat} (hk : k ≤ rs.length) : (List.range rs.length).countP (fun i => decide (rank rs i < k)) = k := by
  obtain ⟨L, hp, hs⟩ := ranked hn
  have hL : L.length = rs.length := by rw [hp.length_eq, List.length_range]
  rw [← hp.countP_eq]
  conv => lhs; rw [← List.take_append_drop k L]
  rw [List.countP_append]
  have h1 : (L.take k).countP (fun i => decide (rank rs i < k)) = k := by
    have : (L.take k).countP (fun i => decide (rank rs i < k)) = (L.take k).length := by
      rw [List.countP_eq_length]
      intro a ha
      obtain ⟨m, hm, rfl⟩ := List.getElem_of_mem ha
      have hm' : m < k := by simp at hm; omega
      rw [List.getElem_take, sorted_rank hp hs m (by omega)]
      simpa using hm'
    rw [this, List.length_take]
    omega
  have h2 : (L.drop k).countP (fun i => decide (rank rs i < k)) = 0 := by
    rw [List.countP_eq_zero]
    intro a ha
    obtain ⟨m, hm, rfl⟩ := List.getElem_of_mem ha
    rw [List.length_drop] at hm
    rw [List.getElem_drop, sorted_rank hp hs (k + m) (by omega)]
    simp
  omega
theorem splitD_sum {a : Int} {l : List Int} {W : Int} (h : DivOk a l W) : (splitD a l W).sum = a := by
  obtain ⟨hb0, hb1⟩ := left_bounds h
  have hlen := h.len
  have e := sum_ones (fun i => (quos a l W).getD i 0) (fun i => decide (rank (rems a l W) i < (leftOf a l W).toNat)) (List.range (quos a l W).length)
  rw [range_getD] at e
  have e2 : (splitD a l W).sum = ((List.range (quos a l W).length).map fun i => (quos a l W).getD i 0 + if decide (rank (rems a l W) i < (leftOf a l W).toNat) = true then 1 else 0).sum := by
    simp only [splitD, given, decide_eq_true_eq]
  rw [e2, e]
  have hr := rank_count (rs := rems a l W) (by rw [rems_length]; omega) (k := (leftOf a l W).toNat) (by rw [rems_length]; omega)
  rw [quos_length, ← rems_length a l W, hr]
  unfold leftOf at *
  omega
/-- who gets a unit more has a remainder -/
theorem rank_rem {a : Int} {l : List Int} {W : Int} (h : DivOk a l W) {i : Nat} (hi : i < l.length) (hr : rank (rems a l W) i < (leftOf a l W).toNat) : 0 < (rems a l W).getD i 0 := by
  obtain ⟨hb0, hb1⟩ := left_bounds h
  have hlen := h.len
  have hp := h.pos
  refine Int.not_le.1 fun hz => ?_
  obtain ⟨L, hL, hs⟩ := ranked (rs := rems a l W) (by rw [rems_length]; omega)
  have hLn : L.length = l.length := by rw [hL.length_eq, List.length_range, rems_length]
  have hi2 : i ∈ L := hL.mem_iff.2 (List.mem_range.2 (by rw [rems_length]; exact hi))
  obtain ⟨m, hm, rfl⟩ := List.getElem_of_mem hi2
  rw [sorted_rank hL hs m hm] at hr
  have hrb : ∀ j, (rems a l W).getD j 0 ≤ W - 1 ∧ 0 ≤ (rems a l W).getD j 0 := fun j => by
    by_cases hj : j < l.length
    · simp only [rems, List.getD_eq_getElem?_getD, List.getElem?_map]
      simp [hj]
      have h1 := Int.emod_nonneg (a * l[j]) (show W ≠ 0 by omega)
      have h2 := Int.emod_lt_of_pos (a * l[j]) hp
      omega
    · have : (rems a l W).getD j 0 = 0 := by
        simp only [rems, List.getD_eq_getElem?_getD, List.getElem?_map]
        simp [Nat.le_of_not_lt hj]
      omega
  have hsum : (rems a l W).sum = (L.map fun i => (rems a l W).getD i 0).sum := by
    conv => lhs; rw [← range_getD (rems a l W)]
    exact (perm_sum (hL.map _)).symm
  have h1 := rems_sum a l W
  rw [h.sum] at h1
  have h3 : W * leftOf a l W = (rems a l W).sum := by
    unfold leftOf
    rw [Int.mul_sub, Int.mul_comm W a]
    omega
  have hle : ∀ M : List Nat, (M.map fun i => (rems a l W).getD i 0).sum ≤ (W - 1) * (M.length : Int) := by
    intro M
    induction M with
    | nil => simp
    | cons x M ih =>
      have := hrb x
      have e3 : (W - 1) * ((M.length + 1 : Nat) : Int) = (W - 1) * (M.length : Int) + (W - 1) := by
        rw [Int.natCast_add, Int.mul_add]
        simp
      simp only [List.map_cons, List.sum_cons, List.length_cons]
      omega
  have hzero : ∀ M : List Nat, (∀ j ∈ M, (rems a l W).getD j 0 ≤ 0) → (M.map fun i => (rems a l W).getD i 0).sum ≤ 0 := by
    intro M
    induction M with
    | nil => simp
    | cons x M ih =>
      intro hM
      have := hM x (by simp)
      have := ih fun j hj => hM j (List.mem_cons_of_mem _ hj)
      simp only [List.map_cons, List.sum_cons]
      omega
  have hA := hle (L.take m)
  have hB := hzero (L.drop m) (fun j hj => by
    obtain ⟨q, hq, rfl⟩ := List.getElem_of_mem hj
    rw [List.length_drop] at hq
    rw [List.getElem_drop]
    rcases Nat.eq_zero_or_pos q with rfl | hq0
    · exact hz
    · have := List.pairwise_iff_getElem.1 hs m (m + q) hm (by omega) (by omega)
      rw [beats_iff] at this
      omega)
  have hAB : (rems a l W).sum = ((L.take m).map fun i => (rems a l W).getD i 0).sum + ((L.drop m).map fun i => (rems a l W).getD i 0).sum := by
    rw [hsum, ← List.sum_append, ← List.map_append, List.take_append_drop]
  have hml : (L.take m).length = m := by simp; omega
  rw [hml] at hA
  have hm1 : (m : Int) + 1 ≤ leftOf a l W := by omega
  have h5 := Int.mul_le_mul_of_nonneg_left hm1 (Int.le_of_lt hp)
  rw [Int.mul_add, Int.mul_one] at h5
  rw [Int.sub_mul, Int.one_mul] at hA
  omega
theorem splitD_at {a : Int} {l : List Int} {W : Int} {i : Nat} (hi : i < l.length) : (splitD a l W)[i]'(by rw [splitD_length]; exact hi) = a * l[i] / W + if rank (rems a l W) i < (leftOf a l W).toNat then 1 else 0 := by
  have := given_at (qs := quos a l W) (rs := rems a l W) (k := (leftOf a l W).toNat) (i := i) (by rw [quos_length]; exact hi)
  simp only [splitD, this]
  simp [quos]
theorem rems_at {a : Int} {l : List Int} {W : Int} {i : Nat} (hi : i < l.length) : (rems a l W).getD i 0 = a * l[i] % W := by
  simp only [rems, List.getD_eq_getElem?_getD, List.getElem?_map]
  simp [hi]
theorem splitD_zero {a : Int} {l : List Int} {W : Int} (h : DivOk a l W) {i : Nat} (hi : i < l.length) (hz : l[i] = 0) : (splitD a l W)[i]'(by rw [splitD_length]; exact hi) = 0 := by
  rw [splitD_at hi, if_neg]
  · rw [hz]; simp
  · intro hr
    have := rank_rem h hi hr
    rw [rems_at hi, hz] at this
    simp at this
theorem splitD_near {a : Int} {l : List Int} {W : Int} (h : DivOk a l W) {i : Nat} (hi : i < l.length) : -W < (splitD a l W)[i]'(by rw [splitD_length]; exact hi) * W - a * l[i] ∧ (splitD a l W)[i]'(by rw [splitD_length]; exact hi) * W - a * l[i] < W := by
  have hp := h.pos
  rw [splitD_at hi]
  have h1 := Int.mul_ediv_add_emod (a * l[i]) W
  have h2 := Int.emod_nonneg (a * l[i]) (show W ≠ 0 by omega)
  have h3 := Int.emod_lt_of_pos (a * l[i]) hp
  rw [Int.add_mul, Int.mul_comm _ W]
  by_cases hr : rank (rems a l W) i < (leftOf a l W).toNat
  · have := rank_rem h hi hr
    rw [rems_at hi] at this
    rw [if_pos hr, Int.one_mul]
    omega
  · rw [if_neg hr, Int.zero_mul]
    omega
/-! ### the parts, for amounts of any sign -/
structure SOk (a : Int) (l : List Int) : Prop where
  a0 : -17592186044416 ≤ a
  a1 : a ≤ 17592186044416
  l0 : ∀ w ∈ l, 0 ≤ w ∧ w ≤ 17592186044416
  len : l.length ≤ 64
  pos : 0 < l.sum
def partsS (a : Int) (l : List Int) : List Int := if 0 ≤ a then splitD a l l.sum else (splitD (-a) l l.sum).map (fun x => -x)
theorem SOk.pos_div {a : Int} {l : List Int} (h : SOk a l) (ha : 0 ≤ a) : DivOk a l l.sum := ⟨ha, h.a1, h.l0, h.len, rfl, h.pos⟩
theorem SOk.neg_div {a : Int} {l : List Int} (h : SOk a l) (ha : ¬ 0 ≤ a) : DivOk (-a) l l.sum := ⟨by omega, by have := h.a0; omega, h.l0, h.len, rfl, h.pos⟩
theorem splitS_ok {a : Int} {l : List Int} (h : SOk a l) : splitS a l = (partsS a l, 0) := by
  have hp := h.pos
  have hl := h.len
  have h0 := h.a0
  have h1 := h.a1
  unfold splitS partsS
  have hne : l.length ≠ 0 := by
    intro e
    have : l = [] := List.eq_nil_of_length_eq_zero e
    rw [this] at hp
    simp at hp
  have hall : l.all okW = true := List.all_eq_true.2 fun w hw => okW_iff.2 (h.l0 w hw)
  rw [if_neg hne, if_neg (by omega), if_neg (by rw [hall]; simp; omega), if_neg (by omega)]
  split <;> rfl
theorem split_ok {a : Int} {l : List Int} (h : SOk a l) : split_Split a l = some (partsS a l, 0) := by rw [split_eq, splitS_ok h]
theorem partsS_length (a : Int) (l : List Int) : (partsS a l).length = l.length := by
  unfold partsS
  split <;> simp [splitD_length]
theorem neg_sum (l : List Int) : (l.map fun x => -x).sum = -l.sum := by
  induction l with
  | nil => rfl
  | cons x l ih => simp only [List.map_cons, List.sum_cons, ih]; omega
theorem partsS_sum {a : Int} {l : List Int} (h : SOk a l) : (partsS a l).sum = a := by
  unfold partsS
  split
  · rename_i ha; exact splitD_sum (h.pos_div ha)
  · rename_i ha
    rw [neg_sum, splitD_sum (h.neg_div ha)]
    omega
theorem partsS_bounds {a : Int} {l : List Int} (h : SOk a l) : ∀ x ∈ partsS a l, -17592186044417 ≤ x ∧ x ≤ 17592186044417 := by
  unfold partsS
  split
  · rename_i ha
    intro x hx
    have := splitD_bounds (h.pos_div ha) x hx
    omega
  · rename_i ha
    intro x hx
    obtain ⟨y, hy, rfl⟩ := List.mem_map.1 hx
    have := splitD_bounds (h.neg_div ha) y hy
    omega
theorem partsS_zero {a : Int} {l : List Int} (h : SOk a l) {i : Nat} (hi : i < l.length) (hz : l[i] = 0) : (partsS a l)[i]'(by rw [partsS_length]; exact hi) = 0 := by
  unfold partsS
  by_cases ha : 0 ≤ a
  · simp only [if_pos ha, splitD_zero (h.pos_div ha) hi hz]
  · simp only [if_neg ha, List.getElem_map, splitD_zero (h.neg_div ha) hi hz]
    rfl
theorem partsS_near {a : Int} {l : List Int} (h : SOk a l) {i : Nat} (hi : i < l.length) : -l.sum < (partsS a l)[i]'(by rw [partsS_length]; exact hi) * l.sum - a * l[i] ∧ (partsS a l)[i]'(by rw [partsS_length]; exact hi) * l.sum - a * l[i] < l.sum := by
  unfold partsS
  by_cases ha : 0 ≤ a
  · simp only [if_pos ha]
    exact splitD_near (h.pos_div ha) hi
  · have := splitD_near (h.neg_div ha) hi
    simp only [if_neg ha, List.getElem_map]
    rw [Int.neg_mul] at this ⊢
    omega
theorem sum_abs {l : List Int} {B : Int} (h : ∀ x ∈ l, -B ≤ x ∧ x ≤ B) : -(B * (l.length : Int)) ≤ l.sum ∧ l.sum ≤ B * (l.length : Int) := by
  induction l with
  | nil => simp
  | cons x l ih =>
    have h1 := ih fun w hw => h w (List.mem_cons_of_mem _ hw)
    have h2 := h x (by simp)
    have e : B * ((l.length + 1 : Nat) : Int) = B * (l.length : Int) + B := by
      rw [Int.natCast_add, Int.mul_add]
      simp
    simp only [List.sum_cons, List.length_cons]
    rw [e]
    omega
theorem splitD_le {a : Int} {l : List Int} {W : Int} (h : DivOk a l W) (hW : a ≤ W) {i : Nat} (hi : i < l.length) : (splitD a l W)[i]'(by rw [splitD_length]; exact hi) ≤ l[i] := by
  have hp := h.pos
  have hw := h.l0 _ (List.getElem_mem hi)
  rw [splitD_at hi]
  have h1 := Int.mul_ediv_add_emod (a * l[i]) W
  have h2 : a * l[i] ≤ W * l[i] := Int.mul_le_mul_of_nonneg_right hW hw.1
  have h3 := Int.emod_nonneg (a * l[i]) (show W ≠ 0 by omega)
  by_cases hr : rank (rems a l W) i < (leftOf a l W).toNat
  · have h4 := rank_rem h hi hr
    rw [rems_at hi] at h4
    rw [if_pos hr]
    have h5 : a * l[i] / W < l[i] := by
      refine Int.not_le.1 fun hn => ?_
      have := Int.mul_le_mul_of_nonneg_left hn (Int.le_of_lt hp)
      omega
    omega
  · rw [if_neg hr]
    have := Int.ediv_le_of_le_mul hp (show a * l[i] ≤ l[i] * W by rw [Int.mul_comm l[i]]; exact h2)
    omega
end Go.Proofs.Ytlmhmpngjfjfhaa.Pl
