/- The law SplitQuota (plain). -/
import Derived.Test.YteohebcimnjlbaaLSplitP
namespace Go.Proofs.Yteohebcimnjlbaa.Pl
open Go

theorem small_sum {l : List Int} (h : ∀ w ∈ l, 0 ≤ w ∧ w ≤ 65535) : 0 ≤ l.sum ∧ l.sum ≤ 65535 * (l.length : Int) := by
  induction l with
  | nil => simp
  | cons x l ih =>
    have h1 := ih fun w hw => h w (List.mem_cons_of_mem _ hw)
    have h2 := h x (by simp)
    simp only [List.sum_cons, List.length_cons]
    omega
theorem treatylaw02_SplitQuota_law (a : Int) (l : List Int) (ha : -2147483648 ≤ a ∧ a ≤ 2147483647) (hl : ∀ n ∈ l, 0 ≤ n ∧ n ≤ 65535) (_ : l.length ≤ 9223372036854775807) : treatylaw02_SplitQuota a l = some true := by
  unfold treatylaw02_SplitQuota
  have hloop1 : loopV (treatylaw02_SplitQuota_l10 l) ([1], 1, 0) = some (1 :: l.take 40, 1 + (l.take 40).sum) := by
    have := loopV_done (step := treatylaw02_SplitQuota_l10 l) (fun k => (1 :: l.take k, 1 + (l.take k).sum, (k : Int))) (min l.length 40) (1 :: l.take 40, 1 + (l.take 40).sum) ?_ ?_
    · simpa using this
    · intro k hk
      have hkl : k < l.length := by omega
      have hx := hl _ (List.getElem_mem hkl)
      have hs := small_sum (l := l.take k) fun w hw => hl w (List.mem_of_mem_take hw)
      have hsl : (l.take k).length ≤ 40 := by simp; omega
      unfold treatylaw02_SplitQuota_l10
      dsimp only
      rw [if_pos (by simp; omega), chk_true (inb_nat hkl), ix_nat hkl, w64_id (n := l[k]) (by omega) (by omega), chk_true (room_of (by simp; omega)), w64_id (by omega) (by omega), w64_id (by omega) (by omega), List.take_succ_eq_append_getElem hkl, List.sum_append]
      simp [Int.add_assoc]
    · unfold treatylaw02_SplitQuota_l10
      dsimp only
      rw [if_neg (by simp; omega)]
      have e : l.take (min l.length 40) = l.take 40 := by
        rw [List.take_eq_take_iff]
        omega
      rw [e]
  have hl2 : ∀ w ∈ l.take 40, 0 ≤ w ∧ w ≤ 65535 := fun w hw => hl w (List.mem_of_mem_take hw)
  have hss := small_sum hl2
  have hsl : (l.take 40).length ≤ 40 := by simp; omega
  have hsok : SOk a (1 :: l.take 40) := by
    refine ⟨by omega, by omega, fun w hw => ?_, by simp; omega, by rw [List.sum_cons]; omega⟩
    rcases List.mem_cons.1 hw with rfl | hw
    · omega
    · have := hl2 w hw
      omega
  rw [hloop1, Option.bind_some, w64_id (n := a) (by omega) (by omega)]
  dsimp only
  rw [split_ok hsok, Option.bind_some]
  simp only [partsS_length]
  have hws : (1 :: l.take 40).sum = 1 + (l.take 40).sum := List.sum_cons
  have hloop2 : loopV (treatylaw02_SplitQuota_l32 a (1 :: l.take 40, 1 + (l.take 40).sum) (partsS a (1 :: l.take 40), 0)) 0 = some (.inr ()) := by
    rw [← hws]
    have hwv : ∀ x ∈ 1 :: l.take 40, 0 ≤ x ∧ x ≤ 65535 := fun w hw => by
      rcases List.mem_cons.1 hw with rfl | hw
      · omega
      · exact hl2 w hw
    generalize hW : 1 :: l.take 40 = w at *
    refine loopV_done (step := treatylaw02_SplitQuota_l32 a (w, w.sum) (partsS a w, 0)) (fun i => (i : Int)) w.length (.inr ()) ?_ ?_
    · intro i hi
      have hip : i < (partsS a w).length := by rw [partsS_length]; exact hi
      have hn := partsS_near hsok hi
      have hx := hwv _ (List.getElem_mem hi)
      have hwl := hsok.len
      have hp1 : a * w[i] ≤ 2147483647 * 65535 := by
        refine Int.le_trans (Int.mul_le_mul_of_nonneg_right ha.2 hx.1) ?_
        omega
      have hp2 : -2147483648 * 65535 ≤ a * w[i] := by
        refine Int.le_trans ?_ (Int.mul_le_mul_of_nonneg_right ha.1 hx.1)
        omega
      generalize hP : (partsS a w)[i] * w.sum = P at *
      generalize hQ : a * w[i] = Q at *
      have hs := small_sum hwv
      unfold treatylaw02_SplitQuota_l32
      dsimp only
      rw [if_pos (by simp; omega), chk_true (inb_nat hip), chk_true (inb_nat hi), ix_nat hip, ix_nat hi, hP, w64_id (n := a) (by omega) (by omega), hQ, w64_id (n := P) (by omega) (by omega), w64_id (n := Q) (by omega) (by omega), w64_id (n := P - Q) (by omega) (by omega), w64_id (n := 0 - (P - Q)) (by omega) (by omega), if_neg (by simp; omega), w64_id (by omega) (by omega)]
      rfl
    · unfold treatylaw02_SplitQuota_l32
      dsimp only
      rw [if_neg (by simp [partsS_length])]
  rw [hloop2]
  simp [awake_ok]
end Go.Proofs.Yteohebcimnjlbaa.Pl
