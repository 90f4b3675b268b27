/- The law ContractAdds (plain). -/
import Derived.Test.YtlmhmpngjfjfhaaLConS
namespace Go.Proofs.Ytlmhmpngjfjfhaa.Pl
open Go

theorem partsS_sign {a : Int} {l : List Int} (h : SOk a l) {i : Nat} (hi : i < l.length) : (0 ≤ a → 0 ≤ (partsS a l)[i]'(by rw [partsS_length]; exact hi)) ∧ (a ≤ 0 → (partsS a l)[i]'(by rw [partsS_length]; exact hi) ≤ 0) := by
  unfold partsS
  by_cases ha : 0 ≤ a
  · simp only [if_pos ha]
    have h1 := splitD_bounds (h.pos_div ha) _ (List.getElem_mem (by rw [splitD_length]; exact hi : i < (splitD a l l.sum).length))
    refine ⟨fun _ => h1.1, fun h2 => ?_⟩
    have h0 : a = 0 := by omega
    subst h0
    have h3 := splitD_near (h.pos_div (Int.le_refl 0)) hi
    have hp := h.pos
    rw [Int.zero_mul, Int.sub_zero] at h3
    refine Int.not_lt.1 fun h4 => ?_
    have := Int.mul_le_mul_of_nonneg_right (show 1 ≤ (splitD 0 l l.sum)[i]'(by rw [splitD_length]; exact hi) by omega) (Int.le_of_lt hp)
    omega
  · simp only [if_neg ha, List.getElem_map]
    have h1 := splitD_bounds (h.neg_div ha) _ (List.getElem_mem (by rw [splitD_length]; exact hi : i < (splitD (-a) l l.sum).length))
    exact ⟨fun h2 => absurd h2 ha, fun _ => by omega⟩
theorem treatylaw20_ContractAdds_law (a : Int) (d : List Int) (ha : -2147483648 ≤ a ∧ a ≤ 2147483647) (_ : ∀ n ∈ d, -9223372036854775808 ≤ n ∧ n ≤ 9223372036854775807) (hd : d.length ≤ 9223372036854775807) : treatylaw20_ContractAdds a d = some true := by
  unfold treatylaw20_ContractAdds
  obtain ⟨k, e1, hk⟩ := new_ok hd
  obtain ⟨p, k2, e2, hk2, hpl, hpa, hps⟩ := partsMade_ok hk
  obtain ⟨hb, hs0, hs1⟩ := shs_bounds hpa.ok
  have hsl := shs_length p
  have hpe : partsE p = 0 := by
    rw [POk.parts ⟨by omega, hpa⟩, if_neg (by omega)]
  have hsum : (weightsOf p).sum = 1000000 := by
    unfold weightsOf
    rw [List.sum_cons]
    omega
  have hwl : (weightsOf p).length = p.length + 1 := by simp [weightsOf, hsl]
  have hwv : ∀ x ∈ weightsOf p, 0 ≤ x ∧ x ≤ 1000000 := fun x hx => by
    rcases List.mem_cons.1 hx with rfl | hx
    · omega
    · have := hb x hx; omega
  have hs : SOk a (weightsOf p) := ⟨by omega, by omega, fun x hx => by have := hwv x hx; omega, by omega, by omega⟩
  have ed : divideS a p = (partsS a (weightsOf p), 0) := by
    unfold divideS
    rw [if_neg (by simp [hpe]), if_neg (by simp; omega), splitS_ok hs]
  have hlen : (partsS a (weightsOf p)).length = p.length + 1 := by rw [partsS_length, hwl]
  rw [e1, Option.bind_some, e2, Option.bind_some, w64_id (n := a) (by omega) (by omega), divide_eq, ed, Option.bind_some]
  dsimp only
  rw [w64_id (n := (p.length : Int) + 1) (by omega) (by omega), hlen]
  have hg : ((!decide ((0 : Int) = 0)) || (!decide (((p.length + 1 : Nat) : Int) = (p.length : Int) + 1))) = false := by simp
  rw [hg, if_neg (by simp)]
  have i0 : inb (partsS a (weightsOf p)) 0 = true := inb_nat (k := 0) (by omega)
  have x0 : ix (partsS a (weightsOf p)) 0 = (partsS a (weightsOf p))[0]'(by omega) := ix_nat (k := 0) (by omega)
  rw [chk_true i0, x0]
  have hpb := partsS_bounds hs
  have prod : ∀ i, (hi : i < (weightsOf p).length) → -2147483648000000 ≤ a * (weightsOf p)[i] ∧ a * (weightsOf p)[i] ≤ 2147483648000000 := fun i hi => by
    have h1 := hwv _ (List.getElem_mem hi)
    have h2 := Int.mul_le_mul_of_nonneg_right ha.2 h1.1
    have h3 := Int.mul_le_mul_of_nonneg_right ha.1 h1.1
    omega
  have near : ∀ i, (hi : i < (weightsOf p).length) → -1000000 < (partsS a (weightsOf p))[i]'(by omega) * 1000000 - a * (weightsOf p)[i] ∧ (partsS a (weightsOf p))[i]'(by omega) * 1000000 - a * (weightsOf p)[i] < 1000000 := fun i hi => by
    have := partsS_near hs hi
    rw [hsum] at this
    exact this
  have hloop : loopV (treatylaw20_ContractAdds_l18 a (p, k2) (partsS a (weightsOf p), 0)) ((partsS a (weightsOf p))[0]'(by omega), 1000000, 0) = some (.inr (a, 1000000 - (shs p).sum)) := by
    have := loopV_done (step := treatylaw20_ContractAdds_l18 a (p, k2) (partsS a (weightsOf p), 0)) (fun i => (((partsS a (weightsOf p)).take (i + 1)).sum, 1000000 - ((shs p).take i).sum, (i : Int))) p.length (.inr (a, 1000000 - (shs p).sum)) ?_ ?_
    · have e0 : ((partsS a (weightsOf p)).take (0 + 1)).sum = (partsS a (weightsOf p))[0]'(by omega) := by
        rw [List.take_succ_eq_append_getElem (by omega)]
        simp
      rw [e0] at this
      simpa using this
    · intro i hi
      have hip : i + 1 < (partsS a (weightsOf p)).length := by omega
      have his : i < (shs p).length := by omega
      have hiw : i + 1 < (weightsOf p).length := by omega
      have ew : (weightsOf p)[i + 1] = p[i].Share := by simp [weightsOf, shs]
      have es : (shs p)[i] = p[i].Share := by simp [shs]
      have hn := near (i + 1) hiw
      have hpr := prod (i + 1) hiw
      have hsg := partsS_sign hs hiw
      have hx := hpb _ (List.getElem_mem hip)
      have hsh := hwv _ (List.getElem_mem hiw)
      rw [ew] at hn hpr hsh
      have hsb := sum_abs (l := (partsS a (weightsOf p)).take (i + 1)) (B := 17592186044417) fun x hx => hpb x (List.mem_of_mem_take hx)
      have hsbl : ((partsS a (weightsOf p)).take (i + 1)).length ≤ 5 := by simp; omega
      have hsb2 := sum_abs (l := (shs p).take i) (B := 1000000) fun x hx => by have := hb x (List.mem_of_mem_take hx); omega
      have hsbl2 : ((shs p).take i).length ≤ 5 := by simp; omega
      have e3 : w64 ((i : Int) + 1) = ((i + 1 : Nat) : Int) := by rw [w64_id (by omega) (by omega)]; rfl
      unfold treatylaw20_ContractAdds_l18
      dsimp only
      rw [if_pos (by simp; omega), e3, chk_true (inb_nat hip), chk_true (inb_nat hi), ix_nat hip, ix_nat hi, w64_id (n := a) (by omega) (by omega)]
      generalize (partsS a (weightsOf p))[i + 1] * 1000000 = X at *
      generalize a * p[i].Share = Y at *
      rw [w64_id (n := X) (by omega) (by omega), w64_id (n := Y) (by omega) (by omega), w64_id (n := X - Y) (by omega) (by omega), w64_id (n := 0 - (X - Y)) (by omega) (by omega), if_neg (by simp; omega), w64_id (by omega) (by omega), w64_id (by omega) (by omega), List.take_succ_eq_append_getElem hip, List.take_succ_eq_append_getElem his, List.sum_append, List.sum_append, es]
      simp
      omega
    · unfold treatylaw20_ContractAdds_l18
      dsimp only
      rw [if_neg (by simp), List.take_of_length_le (by omega), List.take_of_length_le (by omega), partsS_sum hs]
  rw [hloop]
  have hn := near 0 (by omega)
  have hpr := prod 0 (by omega)
  have ew : (weightsOf p)[0]'(by omega) = 1000000 - (shs p).sum := by simp [weightsOf]
  rw [ew] at hn hpr
  simp only [Option.bind_some, Sum.elim_inr, Sum.elim_inl]
  generalize (partsS a (weightsOf p))[0]'(by omega) * 1000000 = X at *
  generalize a * (1000000 - (shs p).sum) = Y at *
  rw [w64_id (n := X) (by omega) (by omega), w64_id (n := Y) (by omega) (by omega), w64_id (n := X - Y) (by omega) (by omega), w64_id (n := 0 - (X - Y)) (by omega) (by omega), if_pos (by simp; omega), conAwake_ok]
  rfl
end Go.Proofs.Ytlmhmpngjfjfhaa.Pl
