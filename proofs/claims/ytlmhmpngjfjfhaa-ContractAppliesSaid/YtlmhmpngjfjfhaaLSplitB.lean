/- split.divide (plain): what it returns. -/
import Derived.Test.YtlmhmpngjfjfhaaLSplitA
namespace Go.Proofs.Ytlmhmpngjfjfhaa.Pl
open Go

/-- the units that the quotients leave -/
def leftOf (a : Int) (l : List Int) (W : Int) : Int := a - (quos a l W).sum
theorem rems_sum (a : Int) (l : List Int) (W : Int) : a * l.sum = W * (quos a l W).sum + (rems a l W).sum := by
  induction l with
  | nil => simp [quos, rems]
  | cons w l ih =>
    simp only [quos, rems, List.map_cons, List.sum_cons] at ih ⊢
    have := Int.mul_ediv_add_emod (a * w) W
    rw [Int.mul_add, Int.mul_add]
    omega
theorem rems_bounds {a : Int} {l : List Int} {W : Int} (hW : 0 < W) : 0 ≤ (rems a l W).sum ∧ (rems a l W).sum ≤ (W - 1) * (l.length : Int) := by
  induction l with
  | nil => simp [rems]
  | cons w l ih =>
    simp only [rems, List.map_cons, List.sum_cons, List.length_cons] at ih ⊢
    have h1 := Int.emod_nonneg (a * w) (show W ≠ 0 by omega)
    have h2 := Int.emod_lt_of_pos (a * w) hW
    have h3 : (W - 1) * ((l.length + 1 : Nat) : Int) = (W - 1) * (l.length : Int) + (W - 1) := by
      rw [Int.natCast_add, Int.mul_add]
      simp
    omega
theorem left_bounds {a : Int} {l : List Int} {W : Int} (h : DivOk a l W) : 0 ≤ leftOf a l W ∧ leftOf a l W ≤ (l.length : Int) := by
  have h1 := rems_sum a l W
  have h2 := rems_bounds (a := a) (l := l) h.pos
  rw [h.sum] at h1
  have h3 : W * leftOf a l W = (rems a l W).sum := by
    unfold leftOf
    rw [Int.mul_sub, Int.mul_comm W a]
    omega
  have hp := h.pos
  constructor
  · refine Int.not_lt.1 fun hn => ?_
    have := Int.mul_le_mul_of_nonneg_left (show leftOf a l W ≤ -1 by omega) (Int.le_of_lt hp)
    omega
  · refine Int.not_lt.1 fun hn => ?_
    have := Int.mul_le_mul_of_nonneg_left (show (l.length : Int) + 1 ≤ leftOf a l W by omega) (Int.le_of_lt hp)
    rw [Int.mul_add, Int.mul_one] at this
    rw [Int.sub_mul, Int.one_mul] at h2
    omega

/-- what split.divide returns -/
def splitD (a : Int) (l : List Int) (W : Int) : List Int := given (quos a l W) (rems a l W) (leftOf a l W).toNat
theorem give_loop {a : Int} {l : List Int} {W : Int} (h : DivOk a l W) {L : List Nat} (hp : L.Perm (List.range (rems a l W).length)) (hs : L.Pairwise fun i j => beats (rems a l W) i j = true) :
    loopV (split_divide_l40 (quos a l W, rems a l W, idxs l.length, leftOf a l W) (L.map Int.ofNat)) (quos a l W, 0) = some (splitD a l W) := by
  obtain ⟨hb0, hb1⟩ := left_bounds h
  have hlen := h.len
  have hL : L.length = l.length := by rw [hp.length_eq, List.length_range, rems_length]
  obtain ⟨k, hk⟩ := Int.eq_ofNat_of_zero_le hb0
  have hk' : (leftOf a l W).toNat = k := by omega
  have hkn : k ≤ l.length := by omega
  have htl : ((L.map Int.ofNat).take k).length = k := by simp; omega
  have hd := loopV_done (step := split_divide_l40 (quos a l W, rems a l W, idxs l.length, leftOf a l W) (L.map Int.ofNat)) (fun j => (given (quos a l W) (rems a l W) j, (j : Int))) k (splitD a l W) ?_ ?_
  · simpa [given_zero] using hd
  · intro j hj
    have hjL : j < L.length := by omega
    have hm : L[j] < l.length := by
      have := hp.mem_iff.1 (List.getElem_mem hjL)
      simpa [rems_length] using this
    have hr := sorted_rank hp hs j hjL
    have hinj : ∀ i, i < (rems a l W).length → rank (rems a l W) i = j → i = L[j] := by
      intro i hi hri
      have hi2 : i ∈ L := hp.mem_iff.2 (List.mem_range.2 hi)
      obtain ⟨m, hm1, rfl⟩ := List.getElem_of_mem hi2
      have := sorted_rank hp hs m hm1
      have : m = j := by omega
      subst this
      rfl
    have hq : L[j] < (quos a l W).length := by rw [quos_length]; exact hm
    have hg := given_step (qs := quos a l W) (by rw [quos_length, rems_length]) hq hr hinj
    have hqb := quo_bounds h _ (List.getElem_mem hq)
    unfold split_divide_l40
    simp only [hk']
    have hx : ix ((L.map Int.ofNat).take k) (j : Int) = (L[j] : Int) := by
      rw [ix_nat (by rw [htl]; exact hj)]
      simp
    rw [if_pos (by simp; omega), chk_true (inb_nat (by rw [htl]; exact hj)), hx, chk_true (inb_nat (by rw [given_length]; exact hq)), ix_nat (by rw [given_length]; exact hq), given_at hq, hr, if_neg (by omega), w64_id (by omega) (by omega), w64_id (by omega) (by omega)]
    simp only [upd, Int.toNat_natCast, Int.add_zero, hg]
    rfl
  · unfold split_divide_l40
    simp only [hk']
    rw [if_neg (by simp; omega)]
    unfold splitD
    rw [hk']
theorem divide_ok {a : Int} {l : List Int} {W : Int} (h : DivOk a l W) : split_divide a l W = some (splitD a l W) := by
  have hlen := h.len
  obtain ⟨hb0, hb1⟩ := left_bounds h
  unfold split_divide
  rw [chk_true (by simp), chk_true (by simp; omega)]
  simp only [Int.toNat_natCast]
  rw [fill_loop h, Option.bind_some]
  simp only
  obtain ⟨L, h1, h2, h3⟩ := sorted_idxs (rs := rems a l W) (by rw [rems_length]; omega)
  rw [rems_length] at h1
  have hL : L.length = l.length := by rw [h2.length_eq, List.length_range, rems_length]
  rw [h1, Option.bind_some, show a - (quos a l W).sum = leftOf a l W from rfl, chk_true (by simpa using hb0), chk_true (by simp [hL]; omega), give_loop h h2 h3]
  rfl
end Go.Proofs.Ytlmhmpngjfjfhaa.Pl
