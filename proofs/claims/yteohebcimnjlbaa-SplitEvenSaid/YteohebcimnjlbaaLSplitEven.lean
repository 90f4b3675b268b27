/- The law SplitEven (plain). -/
import Derived.Test.YteohebcimnjlbaaLSplitP
namespace Go.Proofs.Yteohebcimnjlbaa.Pl
open Go

theorem rank_replicate {n : Nat} {r : Int} {i : Nat} (hi : i < n) : rank (List.replicate n r) i = i := by
  have h := sorted_rank (rs := List.replicate n r) (L := List.range n) (by simp) ?_ i (by simpa using hi)
  · simpa using h
  · refine (List.pairwise_lt_range (n := n)).imp_of_mem ?_
    intro x y hx hy hxy
    have hx' := List.mem_range.1 hx
    have hy' := List.mem_range.1 hy
    rw [beats_iff]
    simp [hx', hy', hxy]
theorem within_ok (w : Int) : ∃ v, treatymade_Within w 17592186044416 = some v ∧ 0 ≤ v ∧ v < 17592186044416 := by
  unfold treatymade_Within
  have a1 := Int.tmod_lt_of_pos w (show (0 : Int) < 17592186044416 by decide)
  have a2 := Int.lt_tmod_of_pos w (show (0 : Int) < 17592186044416 by decide)
  rw [chk_true (by simp), w64_id (by omega) (by omega)]
  exact ⟨_, rfl, Int.tmod_nonneg _ (by omega), Int.tmod_lt_of_pos _ (by decide)⟩
theorem sum_replicate (n : Nat) (x : Int) : (List.replicate n x).sum = x * (n : Int) := by
  induction n with
  | zero => simp
  | succ n ih => rw [List.replicate_succ, List.sum_cons, ih, Int.natCast_add, Int.mul_add]; simp; omega
theorem treatylaw02_SplitEven_law (a n w : Int) (_ : -9223372036854775808 ≤ a ∧ a ≤ 9223372036854775807) (hn : 0 ≤ n ∧ n ≤ 255) (_ : -9223372036854775808 ≤ w ∧ w ≤ 9223372036854775807) : treatylaw02_SplitEven a n w = some true := by
  unfold treatylaw02_SplitEven
  obtain ⟨v, ev, v0, v1⟩ := within_ok w
  obtain ⟨c, e3, c0, c1⟩ := clamp_ok a
  have em : (w64 n).tmod 64 = n % 64 := by rw [w64_id (by omega) (by omega), Int.tmod_eq_emod_of_nonneg hn.1]
  obtain ⟨m, hm⟩ : ∃ m : Nat, n % 64 + 1 = (m : Int) := ⟨(n % 64 + 1).toNat, by omega⟩
  have hm1 : 1 ≤ m ∧ m ≤ 64 := by omega
  have hloop1 : loopV (treatylaw02_SplitEven_l12 n w) ([], 0) = some (List.replicate m (1 + v)) := by
    refine loopV_done (step := treatylaw02_SplitEven_l12 n w) (fun k => (List.replicate k (1 + v), (k : Int))) m (List.replicate m (1 + v)) ?_ ?_
    · intro k hk
      unfold treatylaw02_SplitEven_l12
      dsimp only
      rw [if_pos (by rw [em]; simp; omega), ev, Option.bind_some, w64_id (n := 1 + v) (by omega) (by omega), chk_true (room_of (by simp; omega)), w64_id (by omega) (by omega), List.replicate_succ']
      rfl
    · unfold treatylaw02_SplitEven_l12
      dsimp only
      rw [if_neg (by rw [em]; simp; omega)]
  have hpos : 0 < (List.replicate m (1 + v)).sum := by rw [sum_replicate]; exact Int.mul_pos (by omega) (by omega)
  have hs : SOk (max c (-c)) (List.replicate m (1 + v)) := ⟨by omega, by omega, fun x hx => by have := List.eq_of_mem_replicate hx; omega, by simp; omega, hpos⟩
  rw [e3, Option.bind_some, hloop1, Option.bind_some, maxI_eq, w64_id (n := 0 - c) (by omega) (by omega), Int.zero_sub, split_ok hs, Option.bind_some]
  simp only [partsS_length]
  have hb := partsS_bounds hs
  have hat : ∃ t : Nat, ∃ q : Int, ∀ i (h : i < (partsS (max c (-c)) (List.replicate m (1 + v))).length), (partsS (max c (-c)) (List.replicate m (1 + v)))[i] = q + if i < t then 1 else 0 := by
    refine ⟨(leftOf (max c (-c)) (List.replicate m (1 + v)) (List.replicate m (1 + v)).sum).toNat, max c (-c) * (1 + v) / (List.replicate m (1 + v)).sum, fun i h => ?_⟩
    have hi : i < m := by rw [partsS_length] at h; simpa using h
    unfold partsS
    have h0 : 0 ≤ max c (-c) := by omega
    simp only [if_pos h0]
    rw [splitD_at (by simpa using hi)]
    have er : rems (max c (-c)) (List.replicate m (1 + v)) (List.replicate m (1 + v)).sum = List.replicate m (max c (-c) * (1 + v) % (List.replicate m (1 + v)).sum) := by
      simp [rems]
    rw [er, rank_replicate hi]
    simp
  obtain ⟨t, q, hat⟩ := hat
  have hpl : (partsS (max c (-c)) (List.replicate m (1 + v))).length = m := by rw [partsS_length]; simp
  generalize partsS (max c (-c)) (List.replicate m (1 + v)) = p at *
  have hloop2 : loopV (treatylaw02_SplitEven_l34 (p, 0)) 1 = some (.inr ()) := by
    have := loopV_done (step := treatylaw02_SplitEven_l34 (p, 0)) (fun i => ((i + 1 : Nat) : Int)) (m - 1) (.inr ()) ?_ ?_
    · simpa using this
    · intro i hi
      have h1 : i + 1 < p.length := by omega
      have h2 : i < p.length := by omega
      have h3 : 0 < p.length := by omega
      have b0 := hb _ (List.getElem_mem h3)
      have e1 : w64 (((i + 1 : Nat) : Int) - 1) = (i : Int) := by rw [w64_id (by omega) (by omega)]; omega
      have x0 : ix p 0 = p[0] := ix_nat (k := 0) h3
      have i0 : inb p 0 = true := inb_nat (k := 0) h3
      unfold treatylaw02_SplitEven_l34
      dsimp only
      rw [if_pos (by simp; omega), e1, ix_nat h1, ix_nat h2, x0, chk_true (inb_nat h1), chk_true (inb_nat h2), chk_true i0, w64_id (n := p[0] - 1) (by omega) (by omega), w64_id (by omega) (by omega), hat _ (by omega), hat _ (by omega), hat _ (by omega)]
      have hf : ¬ (q + (if i < t then 1 else 0) < q + (if i + 1 < t then 1 else 0)) := by split <;> split <;> omega
      have hg : ¬ (q + (if i + 1 < t then 1 else 0) < q + (if 0 < t then 1 else 0) - 1) := by split <;> split <;> omega
      rw [if_neg (by simpa using hf), chk_true (inb_nat h1), chk_true (inb_nat h2), Option.bind_some, if_neg (by simpa using hg)]
      rfl
    · unfold treatylaw02_SplitEven_l34
      dsimp only
      rw [if_neg (by simp; omega)]
  rw [hloop2]
  simp [awake_ok]
end Go.Proofs.Yteohebcimnjlbaa.Pl
