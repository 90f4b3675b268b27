/- The first loop of split.divide (plain): quotients, remainders, order. -/
import Derived.Test.YtlmhmpngjfjfhaaLDivB
import Derived.Test.YtlmhmpngjfjfhaaLCmp
import Derived.Test.YtlmhmpngjfjfhaaLRank
namespace Go.Proofs.Ytlmhmpngjfjfhaa.Pl
open Go

/-- the first k elements, then zeros -/
def fill (xs : List Int) (k : Nat) : List Int := xs.take k ++ List.replicate (xs.length - k) 0
theorem fill_length (xs : List Int) (k : Nat) : (fill xs k).length = xs.length := by simp [fill]; omega
theorem fill_zero (xs : List Int) : fill xs 0 = List.replicate xs.length 0 := by simp [fill]
theorem fill_all (xs : List Int) : fill xs xs.length = xs := by simp [fill]
theorem upd_fill {xs : List Int} {k : Nat} (hk : k < xs.length) : upd (fill xs k) (k : Int) xs[k] = fill xs (k + 1) := by
  simp only [upd, fill, Int.toNat_natCast]
  apply List.ext_getElem?
  intro i
  rw [List.getElem?_set]
  by_cases h : k = i
  · subst h
    rw [if_pos rfl, if_pos (by simp; omega), List.getElem?_append_left (by simp; omega), List.getElem?_take_of_lt (by omega)]
    simp [hk]
  · rw [if_neg h]
    by_cases h2 : i < k
    · rw [List.getElem?_append_left (by simp; omega), List.getElem?_append_left (by simp; omega), List.getElem?_take_of_lt h2, List.getElem?_take_of_lt (by omega)]
    · rw [List.getElem?_append_right (by simp; omega), List.getElem?_append_right (by simp; omega)]
      simp only [List.length_take, List.getElem?_replicate]
      have h3 : min k xs.length = k := by omega
      have h4 : min (k + 1) xs.length = k + 1 := by omega
      rw [h3, h4]
      by_cases h5 : i - k < xs.length - k
      · rw [if_pos h5, if_pos (by omega)]
      · rw [if_neg h5, if_neg (by omega)]

def quos (a : Int) (l : List Int) (W : Int) : List Int := l.map fun w => a * w / W
def rems (a : Int) (l : List Int) (W : Int) : List Int := l.map fun w => a * w % W
def idxs (n : Nat) : List Int := (List.range n).map Int.ofNat
/-- what the division of money asks of its arguments -/
structure DivOk (a : Int) (l : List Int) (W : Int) : Prop where
  a0 : 0 ≤ a
  a1 : a ≤ 17592186044416
  l0 : ∀ w ∈ l, 0 ≤ w ∧ w ≤ 17592186044416
  len : l.length ≤ 64
  sum : l.sum = W
  pos : 0 < W

theorem sum_le {l : List Int} (h : ∀ w ∈ l, 0 ≤ w ∧ w ≤ 17592186044416) : 0 ≤ l.sum ∧ l.sum ≤ 17592186044416 * (l.length : Int) := by
  induction l with
  | nil => simp
  | cons x l ih =>
    have h1 := ih fun w hw => h w (List.mem_cons_of_mem _ hw)
    have h2 := h x (by simp)
    simp only [List.sum_cons, List.length_cons]
    omega
theorem mem_le_sum {l : List Int} (h : ∀ w ∈ l, 0 ≤ w ∧ w ≤ 17592186044416) {x : Int} (hx : x ∈ l) : x ≤ l.sum := by
  induction l with
  | nil => cases hx
  | cons y l ih =>
    have h1 := sum_le fun w hw => h w (List.mem_cons_of_mem y hw)
    have h2 := h y (by simp)
    simp only [List.sum_cons]
    rcases List.mem_cons.1 hx with rfl | hx
    · omega
    · have := ih (fun w hw => h w (List.mem_cons_of_mem _ hw)) hx
      omega
theorem quo_le {a w W : Int} (ha : 0 ≤ a) (hw : w ≤ W) (hW : 0 < W) : a * w / W ≤ a := by
  refine Int.ediv_le_of_le_mul hW ?_
  exact Int.mul_le_mul_of_nonneg_left hw ha
theorem div_step {a w W : Int} (ha : 0 ≤ a) (ha1 : a ≤ 17592186044416) (hw : 0 ≤ w) (hw1 : w ≤ 17592186044416) (hwW : w ≤ W) (hW : 0 < W) (hW1 : W < 18446744073709551616) :
    ((bits_Mul64 (u64 a) (u64 w)).bind fun r => bits_Div64 r.1 r.2 (u64 W)) = some (a * w / W, a * w % W) := by
  rw [u64_id ha (by omega), u64_id hw (by omega), u64_id (Int.le_of_lt hW) hW1]
  unfold bits_Mul64 mul64V
  rw [if_pos (by omega), Option.bind_some]
  have h0 : 0 ≤ a * w := Int.mul_nonneg ha hw
  have h1 : a * w ≤ a * W := Int.mul_le_mul_of_nonneg_left hwW ha
  have h2 : a * W ≤ 17592186044416 * W := Int.mul_le_mul_of_nonneg_right ha1 (by omega)
  rw [div64_ok (by omega) (Int.ediv_lt_of_lt_mul (by decide) (by omega)) hW1 (by omega) (by omega)]
  have h3 : a * w / 18446744073709551616 * 18446744073709551616 + a * w % 18446744073709551616 = a * w := by omega
  simp only [h3]

theorem quos_length (a : Int) (l : List Int) (W : Int) : (quos a l W).length = l.length := by simp [quos]
theorem rems_length (a : Int) (l : List Int) (W : Int) : (rems a l W).length = l.length := by simp [rems]
theorem idxs_length (n : Nat) : (idxs n).length = n := by simp [idxs]
theorem quos_sum_take (a : Int) (l : List Int) (W : Int) (k : Nat) (hk : k < l.length) : ((quos a l W).take (k + 1)).sum = ((quos a l W).take k).sum + (quos a l W)[k]'(by simpa [quos] using hk) := by
  rw [List.take_succ_eq_append_getElem (by simpa [quos] using hk), List.sum_append]
  simp
theorem quo_bounds {a : Int} {l : List Int} {W : Int} (h : DivOk a l W) : ∀ q ∈ quos a l W, 0 ≤ q ∧ q ≤ 17592186044416 := by
  intro q hq
  obtain ⟨w, hw, rfl⟩ := List.mem_map.1 hq
  have h1 := h.l0 w hw
  refine ⟨Int.ediv_nonneg (Int.mul_nonneg h.a0 h1.1) (Int.le_of_lt h.pos), Int.le_trans (quo_le h.a0 (h.sum ▸ mem_le_sum h.l0 hw) h.pos) h.a1⟩
/-- the first loop -/
theorem fill_loop {a : Int} {l : List Int} {W : Int} (h : DivOk a l W) :
    loopV (split_divide_l14 a l W) (List.replicate l.length 0, List.replicate l.length 0, List.replicate l.length 0, a, 0) = some (quos a l W, rems a l W, idxs l.length, a - (quos a l W).sum) := by
  have hW := sum_le h.l0
  have hlen := h.len
  have hsum := h.sum
  have hd := loopV_done (step := split_divide_l14 a l W) (fun k => (fill (quos a l W) k, fill (rems a l W) k, fill (idxs l.length) k, a - ((quos a l W).take k).sum, (k : Int))) l.length (quos a l W, rems a l W, idxs l.length, a - (quos a l W).sum) ?_ ?_
  · simpa [fill_zero, quos_length, rems_length, idxs_length] using hd
  · intro k hk
    have hkq : k < (quos a l W).length := by simpa [quos] using hk
    have hkr : k < (rems a l W).length := by simpa [rems] using hk
    have hki : k < (idxs l.length).length := by simpa [idxs] using hk
    have hw := h.l0 l[k] (List.getElem_mem hk)
    have hst := div_step h.a0 h.a1 hw.1 hw.2 (hsum ▸ mem_le_sum h.l0 (List.getElem_mem hk)) h.pos (by omega)
    have eq : (quos a l W)[k] = a * l[k] / W := by simp [quos]
    have er : (rems a l W)[k] = a * l[k] % W := by simp [rems]
    have ei : (idxs l.length)[k] = (k : Int) := by simp [idxs]
    have hb := quo_bounds h _ (List.getElem_mem hkq)
    have hsb := sum_le (l := (quos a l W).take k) fun q hq => quo_bounds h q (List.mem_of_mem_take hq)
    have hsl : ((quos a l W).take k).length ≤ 64 := by simp; omega
    have ha0 := h.a0
    have ha1 := h.a1
    have i0 : inb l (k : Int) = true := inb_nat hk
    have i1 : inb (fill (quos a l W) k) (k : Int) = true := inb_nat (by rw [fill_length]; exact hkq)
    have i2 : inb (fill (rems a l W) k) (k : Int) = true := inb_nat (by rw [fill_length]; exact hkr)
    have i3 : inb (fill (idxs l.length) k) (k : Int) = true := inb_nat (by rw [fill_length]; exact hki)
    have i4 : inb (fill (quos a l W) (k + 1)) (k : Int) = true := inb_nat (by rw [fill_length]; exact hkq)
    have u1 := upd_fill hkq
    have u2 := upd_fill hkr
    have u3 := upd_fill hki
    rw [eq] at u1 hb
    rw [er] at u2
    rw [ei] at u3
    have x4 : ix (fill (quos a l W) (k + 1)) (k : Int) = a * l[k] / W := by
      rw [ix_nat (by rw [fill_length]; exact hkq), ← eq]
      simp only [fill]
      rw [List.getElem_append_left (by simp; omega)]
      simp
    have hm : ∀ f : Int × Int → Option (((List Int) × (List Int) × (List Int) × Int × Int) ⊕ ((List Int) × (List Int) × (List Int) × Int)), ((bits_Mul64 (u64 a) (u64 (ix l (k : Int)))).bind fun r => (bits_Div64 r.1 r.2 (u64 W)).bind f) = f (a * l[k] / W, a * l[k] % W) := by
      intro f
      have := congrArg (fun o => o.bind f) hst
      simp only [Option.bind_assoc, Option.bind_some] at this
      rw [ix_nat hk]
      exact this
    unfold split_divide_l14
    simp only
    rw [if_pos (by simp; omega), chk_true i0, hm]
    simp only [w64_id (n := a * l[k] / W) (by omega) (by omega)]
    rw [chk_true i1, chk_true i2, chk_true i3, u1, u2, u3, chk_true i4, x4, w64_id (by omega) (by omega), w64_id (by omega) (by omega), quos_sum_take a l W k hk, eq]
    congr 6
    all_goals omega
  · unfold split_divide_l14
    simp only
    rw [if_neg (by simp)]
    have e1 : fill (quos a l W) l.length = quos a l W := by rw [← quos_length a l W]; exact fill_all _
    have e2 : fill (rems a l W) l.length = rems a l W := by rw [← rems_length a l W]; exact fill_all _
    have e3 : fill (idxs l.length) l.length = idxs l.length := by
      have := fill_all (idxs l.length)
      rwa [idxs_length] at this
    rw [e1, e2, e3, List.take_of_length_le (by simp [quos])]
end Go.Proofs.Ytlmhmpngjfjfhaa.Pl
