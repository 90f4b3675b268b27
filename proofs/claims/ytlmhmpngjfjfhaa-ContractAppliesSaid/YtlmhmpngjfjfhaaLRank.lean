/- Who comes first: the greater remainder, then the lesser index; the rank of an index (plain lists). -/
import Derived.Test.YtlmhmpngjfjfhaaLBase
namespace Go.Proofs.Ytlmhmpngjfjfhaa.Pl
open Go

/-- i comes ahead of j -/
def beats (rs : List Int) (i j : Nat) : Bool := decide (rs.getD j 0 < rs.getD i 0) || (decide (rs.getD j 0 = rs.getD i 0) && decide (i < j))
theorem beats_iff {rs : List Int} {i j : Nat} : beats rs i j = true ↔ rs.getD j 0 < rs.getD i 0 ∨ (rs.getD j 0 = rs.getD i 0 ∧ i < j) := by simp [beats]
theorem beats_irr (rs : List Int) (i : Nat) : beats rs i i = false := by simp [beats]
theorem beats_asymm {rs : List Int} {i j : Nat} (h : beats rs i j = true) : beats rs j i = false := by
  rw [Bool.eq_false_iff]
  intro h2
  rw [beats_iff] at h h2
  omega
theorem beats_total {rs : List Int} {i j : Nat} (h : i ≠ j) : beats rs i j = true ∨ beats rs j i = true := by
  rw [beats_iff, beats_iff]
  omega
/-- how many come ahead of i -/
def rank (rs : List Int) (i : Nat) : Nat := (List.range rs.length).countP fun j => beats rs j i
theorem sorted_rank {rs : List Int} {L : List Nat} (hp : L.Perm (List.range rs.length)) (hs : L.Pairwise fun i j => beats rs i j = true) (k : Nat) (hk : k < L.length) : rank rs L[k] = k := by
  unfold rank
  rw [← hp.countP_eq]
  have e : L = L.take k ++ L[k] :: L.drop (k + 1) := by
    rw [← List.drop_eq_getElem_cons hk, List.take_append_drop]
  have hs2 := hs
  rw [e, List.pairwise_append, List.pairwise_cons] at hs2
  generalize L[k] = x at e hs2 ⊢
  rw [e, List.countP_append, List.countP_cons]
  have h1 : (L.take k).countP (fun j => beats rs j x) = k := by
    have : (L.take k).countP (fun j => beats rs j x) = (L.take k).length := by
      rw [List.countP_eq_length]
      intro a ha
      exact hs2.2.2 a ha x (by simp)
    rw [this, List.length_take]
    omega
  have h2 : (L.drop (k + 1)).countP (fun j => beats rs j x) = 0 := by
    rw [List.countP_eq_zero]
    intro a ha
    simp [beats_asymm (hs2.2.1.1 a ha)]
  rw [h1, h2, beats_irr]
  simp
theorem rank_lt {rs : List Int} {i : Nat} (hi : i < rs.length) : rank rs i < rs.length := by
  have h1 : rank rs i ≤ ((List.range rs.length).erase i).length := by
    unfold rank
    have hp := List.perm_cons_erase (List.mem_range.2 hi)
    rw [hp.countP_eq, List.countP_cons, beats_irr]
    simpa using List.countP_le_length
  rw [List.length_erase_of_mem (List.mem_range.2 hi), List.length_range] at h1
  omega
end Go.Proofs.Ytlmhmpngjfjfhaa.Pl
