/- The law AggregateResumes (plain). -/
import Derived.Test.YtoodneljjhbfhaaLAggTotal
namespace Go.Proofs.Ytoodneljjhbfhaa.Pl
open Go

theorem P_add (l : List Int) (c i : Nat) : P l (c + i) = P l c + P (l.drop c) i := by
  unfold P
  rw [← List.sum_append, List.take_add]
theorem P_take {l : List Int} {c i : Nat} (h : i ≤ c) : P (l.take c) i = P l i := by
  unfold P
  rw [List.take_take, Nat.min_eq_left h]
/-- what is left of the deductible and of the limit goes on where the first run ended -/
theorem G_resume {s t n k : Int} (ht : 0 ≤ t) (hq : ¬ (0 < k ∧ k - G s n k = 0)) :
    G (s + t) n k - G s n k = G t (max 0 (n - s)) (if 0 < k then k - G s n k else 0) := by
  by_cases h0 : 0 < k
  · have h1 : G s n k = min (max (s - n) 0) k := by unfold G; rw [if_pos h0]
    have h2 : G (s + t) n k = min (max (s + t - n) 0) k := by unfold G; rw [if_pos h0]
    rw [if_pos h0]
    have h3 : 0 < k - G s n k := by
      rw [h1] at hq ⊢
      omega
    have h4 : G t (max 0 (n - s)) (k - G s n k) = min (max (t - max 0 (n - s)) 0) (k - G s n k) := by unfold G; rw [if_pos (by unfold G at h3; exact h3)]
    rw [h4, h2, h1]
    rw [h1] at h3
    omega
  · rw [if_neg h0]
    unfold G
    rw [if_neg h0, if_neg h0, if_neg (by omega)]
    omega
theorem G_full {s t n k : Int} (ht : 0 ≤ t) (hk : 0 < k) (hq : k - G s n k = 0) : G (s + t) n k - G s n k = 0 := by
  have h1 : G s n k = min (max (s - n) 0) k := by unfold G; rw [if_pos hk]
  have h2 : G (s + t) n k = min (max (s + t - n) 0) k := by unfold G; rw [if_pos hk]
  rw [h1] at hq ⊢
  rw [h2]
  omega
theorem MOk.take {l : List Int} {n k : Int} (h : MOk l n k) (c : Nat) : MOk (l.take c) n k := ⟨by have := h.len; simp; omega, fun x hx => h.val x (List.mem_of_mem_take hx), h.n, h.k⟩
theorem MOk.rest {l : List Int} {n k : Int} (h : MOk l n k) (c : Nat) {p q : Int} (hp : 0 ≤ p ∧ p ≤ 4294967296) (hq : 0 ≤ q ∧ q ≤ 4294967296) : MOk (l.drop c) p q := ⟨by have := h.len; simp; omega, fun x hx => h.val x (List.mem_of_mem_drop hx), hp, hq⟩
theorem MOk.apply {l : List Int} {n k : Int} (h : MOk l n k) : applyS l n k = (steps l n k, 0) := by unfold applyS; rw [h.tok.tot, if_pos rfl]
theorem steps_take {l : List Int} {n k : Int} {c : Nat} (hc : c ≤ l.length) : (steps l n k).take c = steps (l.take c) n k := by
  apply List.ext_getElem
  · simp [steps_length]
  · intro i h1 h2
    rw [steps_length] at h2
    have h3 : i < c := by simp at h2; omega
    rw [List.getElem_take, steps_at (by omega), steps_at h2, P_take (by omega), P_take (by omega)]
theorem treatylaw23_AggregateResumes_law (d : List Int) (cut : Int) (_ : ∀ n ∈ d, -9223372036854775808 ≤ n ∧ n ≤ 9223372036854775807) (hd : d.length ≤ 9223372036854775807) (hcut : 0 ≤ cut ∧ cut ≤ 255) : treatylaw23_AggregateResumes d cut = some true := by
  unfold treatylaw23_AggregateResumes
  obtain ⟨l, n, k, d', e, hm⟩ := made_ok hd
  have hll := hm.len
  have hn0 := hm.n
  have hk0 := hm.k
  simp only [e, Option.bind_some]
  rw [w64_id (n := (l.length : Int) + 1) (by omega) (by omega), chk_true (by simp; omega), w64_id (n := cut) (by omega) (by omega), Int.tmod_eq_emod_of_nonneg hcut.1]
  have hc0 := Int.emod_nonneg cut (show (l.length : Int) + 1 ≠ 0 by omega)
  have hc1 := Int.emod_lt_of_pos cut (show 0 < (l.length : Int) + 1 by omega)
  generalize cut % ((l.length : Int) + 1) = c at *
  obtain ⟨c, rfl⟩ := Int.eq_ofNat_of_zero_le hc0
  have hc : c ≤ l.length := by omega
  have hP := hm.tok.pre c
  have hsum : (l.take c).sum = P l c := rfl
  have hsb := small_le (l := l.take c) fun x hx => hm.val x (List.mem_of_mem_take hx)
  have hsl : (l.take c).length ≤ 7 := by simp; omega
  have hG : 0 ≤ G (P l c) n k ∧ (0 < k → G (P l c) n k ≤ k) := by
    refine ⟨(G_bounds hP ⟨hn0.1, by omega⟩).1, fun h => ?_⟩
    unfold G
    rw [if_pos h]
    omega
  have el : leftS (l.take c) n k = (max 0 (n - P l c), if 0 < k then k - G (P l c) n k else 0, 0) := by
    unfold leftS
    rw [(hm.take c).tok.tot]
    simp only [ne_eq, not_true_eq_false, if_false, hsum]
  have hq0 : 0 ≤ (if 0 < k then k - G (P l c) n k else 0) ∧ (if 0 < k then k - G (P l c) n k else 0) ≤ 4294967296 := by
    split
    · rename_i h
      have := hG.2 h
      omega
    · omega
  have hr := hm.rest c (p := max 0 (n - P l c)) (q := if 0 < k then k - G (P l c) n k else 0) (by unfold amt at hP; omega) hq0
  rw [apply_eq, hm.apply, Option.bind_some, chk_true (by simp), chk_true (by simp; omega)]
  simp only [Int.toNat_natCast]
  rw [apply_eq, (hm.take c).apply, Option.bind_some, left_eq, el, Option.bind_some]
  dsimp only
  rw [apply_eq, hr.apply, Option.bind_some]
  simp only [decide_true, Bool.not_true, Bool.or_self, Bool.false_eq_true, if_false]
  have hdl : (l.drop c).length = l.length - c := by simp
  have htail : ∀ i, (hi : i < (l.drop c).length) → (steps l n k)[c + i]'(by rw [steps_length]; omega) = G (P l c + P (l.drop c) (i + 1)) n k - G (P l c) n k - (G (P l c + P (l.drop c) i) n k - G (P l c) n k) := fun i hi => by
    have h1 := P_add l c (i + 1)
    have h2 := P_add l c i
    rw [steps_at (by omega), Nat.add_assoc, h1, h2]
    omega
  have hnn : ∀ i, 0 ≤ P (l.drop c) i := fun i => (hr.tok.pre i).1
  have hs20 : ∃ b, (if (decide (0 < k) && decide ((if 0 < k then k - G (P l c) n k else 0) = 0)) = true then chk (decide (0 ≤ w64 ((l.length : Int) - (c : Int)))) (chk (decide (w64 ((l.length : Int) - (c : Int)) ≤ 1000000000)) (some (List.replicate (w64 ((l.length : Int) - (c : Int))).toNat (0 : Int)))) else some (steps (l.drop c) (max 0 (n - P l c)) (if 0 < k then k - G (P l c) n k else 0))) = some b ∧ steps l n k = steps (l.take c) n k ++ b := by
    have hsplit : ∀ b : List Int, b.length = l.length - c → (∀ i, (hi : i < b.length) → (hj : i < (l.drop c).length) → b[i] = G (P l c + P (l.drop c) (i + 1)) n k - G (P l c) n k - (G (P l c + P (l.drop c) i) n k - G (P l c) n k)) → steps l n k = steps (l.take c) n k ++ b := fun b hb hbi => by
      conv => lhs; rw [← List.take_append_drop c (steps l n k), steps_take hc]
      congr 1
      apply List.ext_getElem
      · rw [List.length_drop, steps_length, hb]
      · intro i h1 h2
        rw [List.getElem_drop, hbi i h2 (by omega), ← htail i (by omega)]
    by_cases hfull : 0 < k ∧ k - G (P l c) n k = 0
    · have hw : w64 ((l.length : Int) - (c : Int)) = ((l.length - c : Nat) : Int) := by rw [w64_id (by omega) (by omega)]; omega
      have hcond : (decide (0 < k) && decide ((if 0 < k then k - G (P l c) n k else 0) = 0)) = true := by
        rw [if_pos hfull.1]
        simp [hfull.1, hfull.2]
      rw [hcond, if_pos rfl, hw, chk_true (by simp), chk_true (by simp; omega)]
      refine ⟨_, rfl, hsplit _ (by simp) fun i h1 h2 => ?_⟩
      rw [G_full (hnn _) hfull.1 hfull.2, G_full (hnn _) hfull.1 hfull.2]
      simp
    · have hcond : (decide (0 < k) && decide ((if 0 < k then k - G (P l c) n k else 0) = 0)) = false := by
        by_cases h : 0 < k
        · rw [if_pos h]
          simp [h]
          exact fun e => hfull ⟨h, e⟩
        · simp [h]
      rw [hcond, if_neg (by simp)]
      refine ⟨_, rfl, hsplit _ (by rw [steps_length, hdl]) fun i h1 h2 => ?_⟩
      rw [steps_at h2, G_resume (hnn _) hfull, G_resume (hnn _) hfull]
  obtain ⟨b, eb, hb⟩ := hs20
  rw [eb, Option.bind_some]
  have hbl : (steps l n k).length = (steps (l.take c) n k ++ b).length := by rw [← hb]
  rw [steps_length] at hbl
  rw [chk_true (room_of (by rw [steps_length]; omega)), chk_true (room_of (by omega)), sameInts_eq (by rw [steps_length]; omega), hb]
  simp only [decide_true, Option.bind_some, Bool.true_and]
  rw [if_pos (by simp only [decide_eq_true_eq]; omega), aggAwake_ok]
  rfl
end Go.Proofs.Ytoodneljjhbfhaa.Pl
