/- The law SplitScale (plain). -/
import Derived.Test.YteohebcimnjlbaaLSplitP
namespace Go.Proofs.Yteohebcimnjlbaa.Pl
open Go

theorem scale_sum (c : Int) (l : List Int) : (l.map fun x => x * c).sum = l.sum * c := by
  induction l with
  | nil => simp
  | cons x l ih => simp only [List.map_cons, List.sum_cons, ih, Int.add_mul]
theorem scale_quos {c : Int} (hc : 0 < c) (a : Int) (l : List Int) (W : Int) : quos a (l.map fun x => x * c) (W * c) = quos a l W := by
  simp only [quos, List.map_map]
  apply List.map_congr_left
  intro x _
  simp only [Function.comp]
  rw [← Int.mul_assoc, Int.mul_ediv_mul_of_pos_left _ _ hc]
theorem scale_rems {c : Int} (hc : 0 < c) (a : Int) (l : List Int) (W : Int) : rems a (l.map fun x => x * c) (W * c) = (rems a l W).map fun x => x * c := by
  simp only [rems, List.map_map]
  apply List.map_congr_left
  intro x _
  simp only [Function.comp]
  rw [← Int.mul_assoc, Int.mul_comm _ c, Int.mul_comm W c, Int.mul_emod_mul_of_pos _ _ hc, Int.mul_comm]
theorem scale_rank {c : Int} (hc : 0 < c) (rs : List Int) (i : Nat) : rank (rs.map fun x => x * c) i = rank rs i := by
  unfold rank
  rw [List.length_map]
  congr 1
  funext j
  have e : ∀ k, (rs.map fun x => x * c).getD k 0 = rs.getD k 0 * c := fun k => by
    simp only [List.getD_eq_getElem?_getD, List.getElem?_map]
    cases rs[k]? <;> simp
  unfold beats
  rw [e, e]
  have h1 : rs.getD i 0 * c < rs.getD j 0 * c ↔ rs.getD i 0 < rs.getD j 0 := Int.mul_lt_mul_right hc
  have h2 : rs.getD i 0 * c = rs.getD j 0 * c ↔ rs.getD i 0 = rs.getD j 0 := Int.mul_eq_mul_right_iff (by omega)
  simp only [h1, h2]
theorem scale_splitD {c : Int} (hc : 0 < c) (a : Int) (l : List Int) (W : Int) : splitD a (l.map fun x => x * c) (W * c) = splitD a l W := by
  unfold splitD leftOf given
  rw [scale_quos hc, scale_rems hc]
  simp only [scale_rank hc]
theorem scale_parts {c : Int} (hc : 0 < c) (a : Int) (l : List Int) : partsS a (l.map fun x => x * c) = partsS a l := by
  unfold partsS
  rw [scale_sum, scale_splitD hc, scale_splitD hc]
theorem treatylaw02_SplitScale_law (a : Int) (l : List Int) (k : Int) (_ : -9223372036854775808 ≤ a ∧ a ≤ 9223372036854775807) (hl : ∀ n ∈ l, 0 ≤ n ∧ n ≤ 65535) (_ : l.length ≤ 9223372036854775807) (hk : 0 ≤ k ∧ k ≤ 65535) : treatylaw02_SplitScale a l k = some true := by
  unfold treatylaw02_SplitScale
  have ek : w64 (1 + w64 k) = 1 + k := by rw [w64_id (n := k) (by omega) (by omega), w64_id (by omega) (by omega)]
  have hprod : ∀ x, 0 ≤ x ∧ x ≤ 65535 → 0 ≤ x * (1 + k) ∧ x * (1 + k) ≤ 65535 * 65536 := fun x hx => by
    refine ⟨Int.mul_nonneg hx.1 (by omega), Int.le_trans (Int.mul_le_mul_of_nonneg_right hx.2 (by omega)) (by omega)⟩
  have hloop1 : loopV (treatylaw02_SplitScale_l8 l k) ([1], [w64 (1 + w64 k)], 0) = some (1 :: l.take 40, (1 :: l.take 40).map fun x => x * (1 + k)) := by
    rw [ek]
    have := loopV_done (step := treatylaw02_SplitScale_l8 l k) (fun j => (1 :: l.take j, (1 :: l.take j).map (fun x => x * (1 + k)), (j : Int))) (min l.length 40) (1 :: l.take 40, (1 :: l.take 40).map fun x => x * (1 + k)) ?_ ?_
    · simpa using this
    · intro j hj
      have hjl : j < l.length := by omega
      have hx := hl _ (List.getElem_mem hjl)
      have hp := hprod _ hx
      unfold treatylaw02_SplitScale_l8
      dsimp only
      rw [if_pos (by simp; omega), chk_true (inb_nat hjl), ix_nat hjl, w64_id (n := l[j]) (by omega) (by omega), ek, w64_id (n := l[j] * (1 + k)) (by omega) (by omega), chk_true (room_of (by simp; omega)), chk_true (room_of (by simp; omega)), Option.bind_some, w64_id (by omega) (by omega), List.take_succ_eq_append_getElem hjl]
      simp only [List.map_cons, List.map_append, List.cons_append, List.map_nil]
      rfl
    · unfold treatylaw02_SplitScale_l8
      dsimp only
      rw [if_neg (by simp; omega)]
      have e : l.take (min l.length 40) = l.take 40 := by
        rw [List.take_eq_take_iff]
        omega
      rw [e]
  have hl2 : ∀ w ∈ 1 :: l.take 40, 0 ≤ w ∧ w ≤ 65535 := fun w hw => by
    rcases List.mem_cons.1 hw with rfl | hw
    · omega
    · exact hl w (List.mem_of_mem_take hw)
  obtain ⟨c, e3, c0, c1⟩ := clamp_ok a
  have hsl : (1 :: l.take 40).length ≤ 41 := by simp; omega
  have hpos : 0 < (1 :: l.take 40).sum := by
    have := (sum_le (l := l.take 40) fun w hw => by have := hl w (List.mem_of_mem_take hw); omega).1
    rw [List.sum_cons]
    omega
  rw [hloop1]
  generalize 1 :: l.take 40 = v at *
  have hs1 : SOk c v := ⟨c0, c1, fun w hw => by have := hl2 w hw; omega, by omega, hpos⟩
  have hs2 : SOk c (v.map fun x => x * (1 + k)) := by
    refine ⟨c0, c1, fun w hw => ?_, by simp; omega, by rw [scale_sum]; exact Int.mul_pos hpos (by omega)⟩
    obtain ⟨x, hx, rfl⟩ := List.mem_map.1 hw
    have := hprod x (hl2 x hx)
    omega
  simp only [e3, Option.bind_some, split_ok hs1, split_ok hs2, partsS_length, scale_parts (show 0 < 1 + k by omega), decide_true, Bool.and_true, if_true]
  rw [sameInts_eq (by rw [partsS_length]; omega)]
  simp [awake_ok]
end Go.Proofs.Yteohebcimnjlbaa.Pl
