/- The law SplitCaps (plain). -/
import Derived.Test.YteohebcimnjlbaaLSplitAdds
namespace Go.Proofs.Yteohebcimnjlbaa.Pl
open Go

/-- parts under caps -/
structure CapsOk (p w : List Int) (m : Int) : Prop where
  len : p.length = w.length
  lo : ∀ i (h : i < p.length), 0 ≤ p[i]
  hi : ∀ i (h : i < p.length) (h2 : i < w.length), p[i] ≤ w[i]
  sum : p.sum = min w.sum m
theorem reduce_caps {w : List Int} {n m : Int} (hw : WOk w n) (hn : n ≤ 60) (m0 : 0 ≤ m) (m1 : m ≤ 17592186044416) : ∃ p, split_Reduce w m = some (p, 0) ∧ CapsOk p w m := by
  have hs := hw.sok hn (a := m) (by omega) (by omega)
  have hl := hs.len
  have hr : split_inRange w = some true := by
    rw [inRange_eq (by omega)]
    congr 1
    exact List.all_eq_true.2 fun x hx => okW_iff.2 (hs.l0 x hx)
  unfold split_Reduce
  rw [if_neg (by simp; omega), if_neg (by simp; omega), hr]
  simp only [Option.bind_some, Bool.not_true, Bool.false_eq_true, if_false, total_eq (show w.length ≤ 1000 by omega) hs.l0]
  by_cases hc : w.sum ≤ m
  · rw [if_pos (by simpa using hc)]
    unfold slices_Clone_s_int_int
    rw [chk_true (room_of (by omega)), Option.bind_some]
    exact ⟨w, rfl, rfl, fun i h => (hs.l0 _ (List.getElem_mem h)).1, fun i h h2 => Int.le_refl _, by omega⟩
  · rw [if_neg (by simpa using hc), split_ok hs, Option.bind_some]
    have e : partsS m w = splitD m w w.sum := by unfold partsS; rw [if_pos m0]
    refine ⟨partsS m w, rfl, partsS_length m w, fun i h => ?_, fun i h h2 => ?_, ?_⟩
    · have := splitD_bounds (hs.pos_div m0) _ (List.getElem_mem (by rw [splitD_length]; rwa [partsS_length] at h : i < (splitD m w w.sum).length))
      simp only [e]
      exact this.1
    · simp only [e]
      exact splitD_le (hs.pos_div m0) (by omega) h2
    · rw [partsS_sum hs]; omega
theorem treatylaw02_SplitCaps_law (d : List Int) (_ : ∀ n ∈ d, -9223372036854775808 ≤ n ∧ n ≤ 9223372036854775807) (hd : d.length ≤ 9223372036854775807) : treatylaw02_SplitCaps d = some true := by
  unfold treatylaw02_SplitCaps
  obtain ⟨k, e1, hk⟩ := new_ok hd
  obtain ⟨m, k1, e2, m0, m1, hk1⟩ := upto_ok hk (n := 2147483648) (by omega) (by omega)
  obtain ⟨w, k2, e3, hk2, hw⟩ := weights_ok hk1 (n := 20) (by omega) (by omega)
  obtain ⟨p, e4, hp⟩ := reduce_caps hw (by omega) m0 (by omega)
  have hlw := hw.len1
  have hlp := hp.len
  simp only [e1, e2, e3, e4, Option.bind_some, hlp]
  have hloop : loopV (treatylaw02_SplitCaps_l20 (w, k2) (p, 0)) (0, 0, 0) = some (.inr (p.sum, w.sum)) := by
    have := loopV_done (step := treatylaw02_SplitCaps_l20 (w, k2) (p, 0)) (fun i => ((p.take i).sum, (w.take i).sum, (i : Int))) w.length (.inr (p.sum, w.sum)) ?_ ?_
    · simpa using this
    · intro i hi
      have hip : i < p.length := by omega
      have h1 := hp.lo i hip
      have h2 := hp.hi i hip hi
      have hpb : ∀ x ∈ p, -1073741825 ≤ x ∧ x ≤ 1073741825 := fun x hx => by
        obtain ⟨j, hj, rfl⟩ := List.getElem_of_mem hx
        have a1 := hp.lo j hj
        have a2 := hp.hi j hj (by omega)
        have a3 := hw.val _ (List.getElem_mem (show j < w.length by omega))
        omega
      have hwb : ∀ x ∈ w, -1073741825 ≤ x ∧ x ≤ 1073741825 := fun x hx => by have := hw.val x hx; omega
      have hs1 := sum_abs (l := p.take i) fun x hx => hpb x (List.mem_of_mem_take hx)
      have hs2 := sum_abs (l := w.take i) fun x hx => hwb x (List.mem_of_mem_take hx)
      have hl1 : (p.take i).length ≤ 20 := by simp; omega
      have hl2 : (w.take i).length ≤ 20 := by simp; omega
      have b1 := hpb _ (List.getElem_mem hip)
      have b2 := hwb _ (List.getElem_mem hi)
      unfold treatylaw02_SplitCaps_l20
      dsimp only
      rw [if_pos (by simp; omega), if_neg (by rw [ix_nat hip]; simpa using h1), chk_true (inb_nat hip), chk_true (inb_nat hi), ix_nat hip, ix_nat hi, Option.bind_some, if_neg (by simpa using h2), chk_true (inb_nat hip), chk_true (inb_nat hi), w64_id (by omega) (by omega), w64_id (by omega) (by omega), w64_id (by omega) (by omega), List.take_succ_eq_append_getElem hip, List.take_succ_eq_append_getElem hi, List.sum_append, List.sum_append]
      simp
    · unfold treatylaw02_SplitCaps_l20
      dsimp only
      rw [if_neg (by simp [hlp]), List.take_of_length_le (by omega), List.take_of_length_le (by omega)]
  rw [hloop]
  simp [awake_ok, minI_eq, hp.sum]
end Go.Proofs.Yteohebcimnjlbaa.Pl
