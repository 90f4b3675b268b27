/- The law AggregateNever (plain). -/
import Derived.Test.YtoodneljjhbfhaaLAggM
namespace Go.Proofs.Ytoodneljjhbfhaa.Pl
open Go

/-- a list of parts of the losses -/
structure NevOk (p l : List Int) (x : Int) : Prop where
  len : p.length = l.length
  lo : ∀ i (_ : i < p.length), 0 ≤ p[i]
  hi : ∀ i (_ : i < p.length) (_ : i < l.length), p[i] ≤ l[i]
  sum : p.sum = x
theorem zeros_of_sum {l : List Int} (h : ∀ x ∈ l, amt x) (hs : l.sum = 0) : ∀ x ∈ l, x = 0 := by
  intro x hx
  have h1 := mem_le_sum (l := l) h hx
  have h2 := h x hx
  unfold amt at h2
  omega
theorem sum_zeros (n : Nat) : (List.replicate n (0 : Int)).sum = 0 := by
  induction n with
  | zero => rfl
  | succ n ih => rw [List.replicate_succ, List.sum_cons, ih]; rfl
theorem spread_never {l : List Int} {n k : Int} (h : MOk l n k) : ∃ p, spreadS l n k = (p, 0) ∧ NevOk p l (min (cl k) (max 0 (cl l.sum - cl n))) := by
  have ht := h.tok
  have h2 := small_le h.val
  have h3 := h.n
  have h4 := h.k
  have h5 := h.len
  unfold spreadS
  rw [ht.tot]
  dsimp only
  rw [if_neg (by simp)]
  by_cases hz : l.sum = 0
  · rw [if_pos hz]
    refine ⟨_, rfl, by simp, fun i _ => by simp, fun i h6 h7 => ?_, ?_⟩
    · have := h.val _ (List.getElem_mem h7)
      simp only [List.getElem_replicate]
      omega
    · rw [sum_zeros, hz]
      unfold cl
      omega
  · rw [if_neg hz]
    have hs : SOk (min (cl k) (max 0 (cl l.sum - cl n))) l := ⟨by unfold cl; omega, by unfold cl; omega, fun w hw => by have := h.val w hw; omega, by omega, by omega⟩
    rw [splitS_ok hs]
    have h0 : 0 ≤ min (cl k) (max 0 (cl l.sum - cl n)) := by unfold cl; omega
    have e : partsS (min (cl k) (max 0 (cl l.sum - cl n))) l = splitD (min (cl k) (max 0 (cl l.sum - cl n))) l l.sum := by unfold partsS; rw [if_pos h0]
    refine ⟨_, rfl, partsS_length _ _, fun i h6 => ?_, fun i h6 h7 => ?_, partsS_sum hs⟩
    · have := splitD_bounds (hs.pos_div h0) _ (List.getElem_mem (by rw [splitD_length]; rwa [partsS_length] at h6 : i < (splitD (min (cl k) (max 0 (cl l.sum - cl n))) l l.sum).length))
      simp only [e]
      exact this.1
    · simp only [e]
      exact splitD_le (hs.pos_div h0) (by unfold cl; omega) h7
theorem treatylaw23_AggregateNever_law (d : List Int) (_ : ∀ n ∈ d, -9223372036854775808 ≤ n ∧ n ≤ 9223372036854775807) (hd : d.length ≤ 9223372036854775807) : treatylaw23_AggregateNever d = some true := by
  unfold treatylaw23_AggregateNever
  obtain ⟨l, n, k, d', e, hm⟩ := made_ok hd
  obtain ⟨p, e2, hp⟩ := spread_never hm
  have hlp := hp.len
  have hll := hm.len
  simp only [e, Option.bind_some, spread_eq, e2, hlp]
  have hloop : loopV (treatylaw23_AggregateNever_l18 (l, n, k, d') (p, 0)) (0, 0, 0) = some (.inr (p.sum, l.sum)) := by
    have := loopV_done (step := treatylaw23_AggregateNever_l18 (l, n, k, d') (p, 0)) (fun i => ((p.take i).sum, (l.take i).sum, (i : Int))) l.length (.inr (p.sum, l.sum)) ?_ ?_
    · simpa using this
    · intro i hi
      have hip : i < p.length := by omega
      have h1 := hp.lo i hip
      have h2 := hp.hi i hip hi
      have hpb : ∀ x ∈ p, 0 ≤ x ∧ x ≤ 1073741824 := fun x hx => by
        obtain ⟨j, hj, rfl⟩ := List.getElem_of_mem hx
        have a1 := hp.lo j hj
        have a2 := hp.hi j hj (by omega)
        have a3 := hm.val _ (List.getElem_mem (show j < l.length by omega))
        omega
      have hs1 := small_le (l := p.take i) fun x hx => hpb x (List.mem_of_mem_take hx)
      have hs2 := small_le (l := l.take i) fun x hx => hm.val x (List.mem_of_mem_take hx)
      have hl1 : (p.take i).length ≤ 20 := by simp; omega
      have hl2 : (l.take i).length ≤ 20 := by simp; omega
      have b1 := hpb _ (List.getElem_mem hip)
      have b2 := hm.val _ (List.getElem_mem hi)
      unfold treatylaw23_AggregateNever_l18
      dsimp only
      rw [if_pos (by simp; omega), chk_true (inb_nat hip), chk_true (inb_nat hi), ix_nat hip, ix_nat hi, if_neg (by simpa using h1), Option.bind_some, if_neg (by simpa using h2), w64_id (by omega) (by omega), w64_id (by omega) (by omega), w64_id (by omega) (by omega), List.take_succ_eq_append_getElem hip, List.take_succ_eq_append_getElem hi, List.sum_append, List.sum_append]
      simp
    · unfold treatylaw23_AggregateNever_l18
      dsimp only
      rw [if_neg (by simp [hlp]), List.take_of_length_le (by omega), List.take_of_length_le (by omega)]
  rw [hloop, hp.sum]
  simp [layer_eq, aggAwake_ok]
end Go.Proofs.Ytoodneljjhbfhaa.Pl
