/- The law ContractSigned (plain). -/
import Derived.Test.YtlmhmpngjfjfhaaLConS
namespace Go.Proofs.Ytlmhmpngjfjfhaa.Pl
open Go

theorem Asc.above : ∀ {l : List GPart} {y : Int}, Asc (some y) l → ∀ x ∈ l, y < x.Party
  | p :: t, y, h, x, hx => by
    have h1 := h.2.1 y rfl
    rcases List.mem_cons.1 hx with rfl | hx
    · exact h1
    · have := Asc.above h.2.2 x hx
      omega
theorem Asc.pair : ∀ {l : List GPart} {q : Option Int}, Asc q l → l.Pairwise fun a b => a.Party < b.Party
  | [], _, _ => List.Pairwise.nil
  | _ :: _, _, h => List.Pairwise.cons (fun x hx => h.2.2.above x hx) h.2.2.pair
/-- what the signed lines are, up to an index -/
structure ColOk (w : List GPart) (red : List Int) (k : Nat) : Prop where
  asc : Asc none (col w red k)
  from_ : ∀ x ∈ col w red k, ∃ j, ∃ h : j < w.length, j < k ∧ x.Party = w[j].Party
  sum : (shs (col w red k)).sum = (red.take k).sum
theorem col_ok {w : List GPart} {red : List Int} (hw : Asc none w) (hr : red.length = w.length) (hred : ∀ i (h : i < red.length) (h2 : i < w.length), 0 ≤ red[i] ∧ red[i] ≤ w[i].Share) : ∀ k, k ≤ w.length → ColOk w red k
  | 0, _ => ⟨trivial, fun x hx => by simp [col] at hx, by simp [col, shs]⟩
  | k + 1, hk => by
    have ih := col_ok hw hr hred k (by omega)
    have hkw : k < w.length := by omega
    have hkr : k < red.length := by omega
    have hb := hred k hkr hkw
    have hok := okP_iff.1 (hw.ok _ (List.getElem_mem hkw))
    have hpw := hw.pair
    have e1 : red.getD k 0 = red[k] := by simp [hkr]
    have e2 : w.getD k default = w[k] := by simp [hkw]
    have hpick : pick w red k = if 0 < red[k] then [GPart.mk w[k].Party red[k]] else [] := by unfold pick; rw [e1, e2]
    by_cases h : 0 < red[k]
    · rw [if_pos h] at hpick
      refine ⟨?_, fun x hx => ?_, ?_⟩
      · rw [col_succ, hpick]
        refine ih.asc.snoc (okP_iff.2 ⟨hok.1, by dsimp only; omega, by dsimp only; omega⟩) (fun x hx => by cases hx) (fun x hx => ?_)
        obtain ⟨j, hj, hjk, e⟩ := ih.from_ x hx
        rw [e]
        exact List.pairwise_iff_getElem.1 hpw j k hj hkw hjk
      · rw [col_succ, hpick] at hx
        rcases List.mem_append.1 hx with hx | hx
        · obtain ⟨j, hj, hjk, e⟩ := ih.from_ x hx
          exact ⟨j, hj, by omega, e⟩
        · simp at hx
          subst hx
          exact ⟨k, hkw, by omega, rfl⟩
      · rw [col_succ, hpick, List.take_succ_eq_append_getElem hkr, List.sum_append, ← ih.sum]
        simp [shs]
    · rw [if_neg h] at hpick
      have e3 : col w red (k + 1) = col w red k := by rw [col_succ, hpick, List.append_nil]
      refine ⟨by rw [e3]; exact ih.asc, fun x hx => ?_, ?_⟩
      · rw [e3] at hx
        obtain ⟨j, hj, hjk, e⟩ := ih.from_ x hx
        exact ⟨j, hj, by omega, e⟩
      · rw [e3, ih.sum, List.take_succ_eq_append_getElem hkr, List.sum_append]
        simp
        omega
/-- the lines behind an index -/
theorem col_rest (w : List GPart) (red : List Int) (i : Nat) : ∀ k, i + k ≤ w.length → ∃ r, col w red (i + k) = col w red i ++ r ∧ ∀ x ∈ r, ∃ j, ∃ h : j < w.length, i ≤ j ∧ x.Party = w[j].Party
  | 0, _ => ⟨[], by simp, fun x hx => by cases hx⟩
  | k + 1, hk => by
    obtain ⟨r, h1, h2⟩ := col_rest w red i k (by omega)
    have hkw : i + k < w.length := by omega
    refine ⟨r ++ pick w red (i + k), by rw [← Nat.add_assoc, col_succ, h1, List.append_assoc], fun x hx => ?_⟩
    rcases List.mem_append.1 hx with hx | hx
    · exact h2 x hx
    · unfold pick at hx
      split at hx
      · simp at hx
        subst hx
        exact ⟨i + k, hkw, by omega, by simp [hkw]⟩
      · cases hx
theorem treatylaw20_ContractSigned_law (d : List Int) (_ : ∀ n ∈ d, -9223372036854775808 ≤ n ∧ n ≤ 9223372036854775807) (hd : d.length ≤ 9223372036854775807) : treatylaw20_ContractSigned d = some true := by
  unfold treatylaw20_ContractSigned
  obtain ⟨k, e1, hk⟩ := new_ok hd
  obtain ⟨w, k2, e2, hk2, hwl, hwa⟩ := written_ok hk
  obtain ⟨m, k3, e3, m0, m1, hk3⟩ := upto_ok hk2 (n := 1000000) (by omega) (by omega)
  have hp : POk w := ⟨by omega, hwa⟩
  have hr := hp.rok ⟨m0, m1⟩
  obtain ⟨hb, hs0, hs1⟩ := shs_bounds hwa.ok
  have hsl := shs_length w
  have hrl : (redS (shs w) m).length = w.length := by rw [redS_length, hsl]
  have hred : ∀ i (h : i < (redS (shs w) m).length) (h2 : i < w.length), 0 ≤ (redS (shs w) m)[i] ∧ (redS (shs w) m)[i] ≤ w[i].Share := fun i h h2 => by
    have := redS_bounds hr (i := i) (by omega)
    simpa [shs] using this
  have hrs := redS_sum hr
  have es : signS w m = (col w (redS (shs w) m) w.length, 0) := by
    unfold signS
    have hne : ¬ (partsE w ≠ 0 ∧ partsE w ≠ 14) := by rw [hp.parts]; split <;> simp
    rw [if_neg hne, if_neg (by simp; omega)]
  generalize redS (shs w) m = red at *
  have hcol := col_ok hwa hrl hred
  have hall := hcol w.length (Nat.le_refl _)
  have hcl := col_length w red w.length
  have hsum : (shs (col w red w.length)).sum = min (shs w).sum m := by rw [hall.sum, List.take_of_length_le (by omega), hrs]
  have hpe : partsE (col w red w.length) = 0 := by
    rw [POk.parts ⟨by omega, hall.asc⟩, if_neg (by omega)]
  simp only [e1, e2, e3, Option.bind_some, sign_eq, es, parts_eq, hpe, decide_true, Bool.not_true, Bool.false_eq_true, if_false]
  have hloop : loopV (treatylaw20_ContractSigned_l22 (w, k2) (col w red w.length, 0)) (0, 0, 0, 0) = some (.inr ((shs (col w red w.length)).sum, (shs w).sum, ((col w red w.length).length : Int))) := by
    have := loopV_done (step := treatylaw20_ContractSigned_l22 (w, k2) (col w red w.length, 0)) (fun i => ((shs (col w red i)).sum, ((shs w).take i).sum, ((col w red i).length : Int), (i : Int))) w.length (.inr ((shs (col w red w.length)).sum, (shs w).sum, ((col w red w.length).length : Int))) ?_ ?_
    · simpa [col, shs] using this
    · intro i hi
      have hir : i < red.length := by omega
      have his : i < (shs w).length := by omega
      have hci := hcol i (by omega)
      have hcli := col_length w red i
      have hb2 := hred i hir hi
      have e1 : red.getD i 0 = red[i] := by simp [hir]
      have e2 : w.getD i default = w[i] := by simp [hi]
      have hpick : pick w red i = if 0 < red[i] then [GPart.mk w[i].Party red[i]] else [] := by unfold pick; rw [e1, e2]
      have hsh := hb _ (List.getElem_mem his)
      have eshare : (shs w)[i] = w[i].Share := by simp [shs]
      rw [eshare] at hsh
      have hsb1 := shs_bounds hci.asc.ok
      have hsb2 := sum_abs (l := (shs w).take i) (B := 1000000) fun x hx => by have := hb x (List.mem_of_mem_take hx); omega
      have hsbl2 : ((shs w).take i).length ≤ 6 := by simp; omega
      have etk : ((shs w).take (i + 1)).sum = ((shs w).take i).sum + w[i].Share := by
        rw [List.take_succ_eq_append_getElem his, List.sum_append, eshare]
        simp
      obtain ⟨r, hr1, hr2⟩ := col_rest w red (i + 1) (w.length - (i + 1)) (by omega)
      rw [show i + 1 + (w.length - (i + 1)) = w.length by omega] at hr1
      unfold treatylaw20_ContractSigned_l22
      dsimp only
      rw [if_pos (by simp; omega), chk_true (inb_nat hi), ix_nat hi]
      by_cases h : 0 < red[i]
      · rw [if_pos h] at hpick
        rw [col_succ, hpick] at hr1
        have hat : (col w red i).length < (col w red w.length).length := by rw [hr1]; simp
        have hel : (col w red w.length)[(col w red i).length] = GPart.mk w[i].Party red[i] := by
          simp only [hr1, List.append_assoc]
          rw [List.getElem_append_right (by omega)]
          simp
        rw [if_pos (by simp; omega), chk_true (inb_nat hat), ix_nat hat, hel, Option.bind_some, if_pos (by simp), if_neg (by simpa using hb2.2), chk_true (inb_nat hat), Option.bind_some, if_neg (by simp; omega), chk_true (inb_nat hat), Option.bind_some, Sum.elim_inl]
        rw [w64_id (by dsimp only; omega) (by dsimp only; omega), w64_id (by omega) (by omega), w64_id (by omega) (by omega), w64_id (by omega) (by omega), etk, col_succ, hpick]
        simp [shs]
      · rw [if_neg h] at hpick
        have e3 : col w red (i + 1) = col w red i := by rw [col_succ, hpick, List.append_nil]
        rw [e3] at hr1
        have hno : (if (decide (((col w red i).length : Int) < ((col w red w.length).length : Int))) = true then (chk (inb (col w red w.length) ((col w red i).length : Int)) <| some (decide ((ix (col w red w.length) ((col w red i).length : Int)).Party = w[i].Party))) else (some false)) = some false := by
          by_cases hat : (col w red i).length < (col w red w.length).length
          · rw [if_pos (by simp; omega), chk_true (inb_nat hat), ix_nat hat]
            have hel : (col w red w.length)[(col w red i).length] ∈ r := by
              have hrl2 : 0 < r.length := by rw [hr1] at hat; simp at hat; omega
              have : (col w red w.length)[(col w red i).length] = r[0] := by
                simp only [hr1]
                rw [List.getElem_append_right (by omega)]
                simp
              rw [this]
              exact List.getElem_mem hrl2
            obtain ⟨j, hj, hij, ej⟩ := hr2 _ hel
            have hlt := List.pairwise_iff_getElem.1 hwa.pair i j hi hj (by omega)
            rw [ej]
            congr 1
            rw [decide_eq_false_iff_not]
            omega
          · rw [if_neg (by simp; omega)]
        rw [hno, Option.bind_some, if_neg (by simp), Option.bind_some, Sum.elim_inl, w64_id (by omega) (by omega), w64_id (by omega) (by omega), etk, e3]
        rfl
    · unfold treatylaw20_ContractSigned_l22
      dsimp only
      rw [if_neg (by simp), List.take_of_length_le (by omega)]
  rw [hloop]
  simp [minI_eq, hsum, conAwake_ok]
end Go.Proofs.Ytlmhmpngjfjfhaa.Pl
