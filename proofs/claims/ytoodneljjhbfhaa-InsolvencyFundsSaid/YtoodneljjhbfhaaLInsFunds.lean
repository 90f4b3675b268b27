/- The law InsolvencyFunds (plain). -/
import Derived.Test.YtoodneljjhbfhaaLInsM
namespace Go.Proofs.Ytoodneljjhbfhaa.Pl
open Go

theorem sum_lt_of {a b : List Int} (hl : a.length = b.length) (h : ∀ i (h1 : i < a.length) (h2 : i < b.length), a[i] ≤ b[i]) : a.sum ≤ b.sum ∧ ((∃ i, ∃ (h1 : i < a.length) (h2 : i < b.length), a[i] < b[i]) → a.sum < b.sum) := by
  induction a generalizing b with
  | nil =>
    cases b with
    | nil => exact ⟨Int.le_refl _, fun ⟨i, h1, _⟩ => by simp at h1⟩
    | cons y b => simp at hl
  | cons x a ih =>
    cases b with
    | nil => simp at hl
    | cons y b =>
      have h0 : x ≤ y := h 0 (by simp) (by simp)
      have hi := ih (b := b) (by simpa using hl) (fun i h1 h2 => h (i + 1) (by simp; omega) (by simp; omega))
      simp only [List.sum_cons]
      refine ⟨by omega, fun ⟨i, h1, h2, h3⟩ => ?_⟩
      cases i with
      | zero =>
        simp at h3
        omega
      | succ i =>
        have := hi.2 ⟨i, by simpa using h1, by simpa using h2, by simpa using h3⟩
        omega
theorem mut_vals {l : List GMutual} (hm : MutOk l) {i : Nat} (hi : i < l.length) : (0 ≤ l[i].Owed ∧ l[i].Owed < 268435456 ∧ 0 ≤ l[i].Owes ∧ l[i].Owes < 268435456) ∧ (0 ≤ clm l[i] ∧ clm l[i] < 268435456) ∧ (0 ≤ pys l[i] ∧ pys l[i] < 268435456) ∧ (0 ≤ min l[i].Owed l[i].Owes ∧ min l[i].Owed l[i].Owes < 268435456) := by
  have h1 := okM_iff.1 (hm.asc.ok _ (List.getElem_mem hi))
  have h2 := hm.small _ (List.getElem_mem hi)
  unfold clm pys
  omega
theorem treatylaw38_InsolvencyFunds_law (d : List Int) (_ : ∀ n ∈ d, -9223372036854775808 ≤ n ∧ n ≤ 9223372036854775807) (hd : d.length ≤ 9223372036854775807) : treatylaw38_InsolvencyFunds d = some true := by
  unfold treatylaw38_InsolvencyFunds
  obtain ⟨k, e1, hk⟩ := new2_ok hd
  obtain ⟨l, k2, e2, hk2, hm⟩ := mutuals_ok hk
  obtain ⟨u, k3, e3, u0, u1, _⟩ := small_ok hk2
  have hdo := hm.dist (a := u) (by omega)
  have hl := hm.len
  have hcs := smallSum hm.clm
  have hps := smallSum hm.pys
  rw [clms_length] at hcs
  rw [pyss_length] at hps
  have hrs := redS_sum hdo.rok
  have hrl : (redS (clms l) (u + (pyss l).sum)).length = l.length := by rw [redS_length, clms_length]
  have hred := hdo.red
  simp only [e1, e2, e3, Option.bind_some, dist_eq, distS_ok hdo, divF_length]
  generalize hR : redS (clms l) (u + (pyss l).sum) = red at *
  generalize hF : (pyss l).sum = F at *
  have hg : (((!decide True) || (!decide True)) || decide (u + F - red.sum < 0)) = false := by simp; omega
  rw [hg, if_neg (by simp)]
  have hredv : ∀ x ∈ red, 0 ≤ x ∧ x < 268435456 := fun x hx => by
    obtain ⟨j, hj, rfl⟩ := List.getElem_of_mem hx
    have h1 := hred j hj (by omega)
    have h2 := hm.clm (clm (l[j]'(by omega))) (List.mem_map.2 ⟨_, List.getElem_mem (by omega), rfl⟩)
    omega
  have hloop : loopV (treatylaw38_InsolvencyFunds_l22 (l, k2) (divF l red, u + F - red.sum, 0)) (w64 (u - (u + F - red.sum)), 0) = some (.inr 0) := by
    rw [w64_id (by omega) (by omega)]
    have := loopV_done (step := treatylaw38_InsolvencyFunds_l22 (l, k2) (divF l red, u + F - red.sum, 0)) (fun i => (u - (u + F - red.sum) + ((pyss l).take i).sum - (red.take i).sum, (i : Int))) l.length (.inr 0) ?_ ?_
    · simpa using this
    · intro i hi
      have hid : i < (divF l red).length := by rw [divF_length]; exact hi
      have hir : i < red.length := by omega
      have hip : i < (pyss l).length := by rw [pyss_length]; exact hi
      have ep : (pyss l)[i] = pys l[i] := by simp [pyss]
      have hok := mut_vals hm hi
      have hb := hred i hir hi
      have s1 := smallSum (l := (pyss l).take i) fun x hx => hm.pys x (List.mem_of_mem_take hx)
      have s2 := smallSum (l := red.take i) fun x hx => hredv x (List.mem_of_mem_take hx)
      have t1 : ((pyss l).take i).length ≤ 5 := by simp [pyss_length]; omega
      have t2 : (red.take i).length ≤ 5 := by simp; omega
      have hun : 0 < clm l[i] - red[i] → u + F - red.sum = 0 ∧ pys l[i] = 0 := fun hpos => by
        have hlt := (sum_lt_of (a := red) (b := clms l) (by rw [hrl, clms_length]) (fun j h1 h2 => by
          have := (hred j h1 (by rw [clms_length] at h2; exact h2)).2
          simpa [clms] using this)).2 ⟨i, hir, by rw [clms_length]; exact hi, by simp [clms]; omega⟩
        refine ⟨by omega, ?_⟩
        have := hok.1
        unfold clm at *
        unfold pys
        omega
      unfold treatylaw38_InsolvencyFunds_l22
      dsimp only
      simp only [ix_nat hid, ix_nat hi, divF_at hrl hi]
      obtain ⟨hm1, hm2, hm3, hm4⟩ := hok
      have hv1 : w64 (w64 (min l[i].Owed l[i].Owes + red[i]) + (clm l[i] - red[i])) = l[i].Owed := by
        rw [w64_id (n := min l[i].Owed l[i].Owes + red[i]) (by omega) (by omega), w64_id (by omega) (by omega)]
        unfold clm
        omega
      have hv2 : w64 (min l[i].Owed l[i].Owes + pys l[i]) = l[i].Owes := by
        rw [w64_id (by omega) (by omega)]
        unfold pys
        omega
      rw [if_pos (by simp; omega), chk_true (inb_nat hid), hv1, hv2, if_neg (by simp), if_neg (by simp), if_neg (by simp), if_neg (by simp; omega), if_neg (by simp; omega), if_neg (by simp; omega), if_neg (by simp; omega)]
      have hlast : (if (decide (0 < clm l[i] - red[i])) = true then (if (!decide (u + F - red.sum = 0)) = true then (chk (inb l (i : Int)) <| some true) else (chk (inb l (i : Int)) <| some (!decide (pys l[i] = 0)))) else (chk (inb l (i : Int)) <| some false)) = some false := by
        by_cases hp : 0 < clm l[i] - red[i]
        · obtain ⟨q1, q2⟩ := hun hp
          rw [if_pos (by simpa using hp), if_neg (by simpa using q1), chk_true (inb_nat hi), q2]
          simp
        · rw [if_neg (by simpa using hp), chk_true (inb_nat hi)]
      rw [hlast, Option.bind_some, if_neg (by simp), w64_id (n := pys l[i] - red[i]) (by omega) (by omega), w64_id (by omega) (by omega), w64_id (by omega) (by omega), List.take_succ_eq_append_getElem hip, List.take_succ_eq_append_getElem hir, List.sum_append, List.sum_append, ep]
      simp
      omega
    · unfold treatylaw38_InsolvencyFunds_l22
      dsimp only
      rw [if_neg (by simp [divF_length]), List.take_of_length_le (by rw [pyss_length]; omega), List.take_of_length_le (by omega), hF]
      congr 3
      omega
  rw [hloop]
  simp [insAwake_ok]
end Go.Proofs.Ytoodneljjhbfhaa.Pl
