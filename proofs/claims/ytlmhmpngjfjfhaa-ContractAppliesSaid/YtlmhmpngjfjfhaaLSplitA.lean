/- split.divide (plain): the units that are left go to the greatest remainders. -/
import Derived.Test.YtlmhmpngjfjfhaaLFill
namespace Go.Proofs.Ytlmhmpngjfjfhaa.Pl
open Go

/-- quotients, and one more for those of a rank below k -/
def given (qs rs : List Int) (k : Nat) : List Int := (List.range qs.length).map fun i => qs.getD i 0 + if rank rs i < k then 1 else 0
theorem given_length (qs rs : List Int) (k : Nat) : (given qs rs k).length = qs.length := by simp [given]
theorem given_zero (qs rs : List Int) : given qs rs 0 = qs := by
  apply List.ext_getElem
  · simp [given]
  · intro i h1 h2
    simp [given, h2]
theorem given_at {qs rs : List Int} {k i : Nat} (hi : i < qs.length) : (given qs rs k)[i]'(by rw [given_length]; exact hi) = qs[i] + if rank rs i < k then 1 else 0 := by simp [given, hi]
/-- one more unit, to the one of the rank k -/
theorem given_step {qs rs : List Int} {k i : Nat} (hl : qs.length = rs.length) (hi : i < qs.length) (hr : rank rs i = k) (hinj : ∀ j, j < rs.length → rank rs j = k → j = i) : (given qs rs k).set i (qs[i] + 1) = given qs rs (k + 1) := by
  apply List.ext_getElem
  · simp [given]
  · intro j h1 h2
    rw [given_length] at h2
    rw [List.getElem_set, given_at (k := k + 1) h2]
    by_cases h : i = j
    · subst h
      rw [if_pos rfl, if_pos (by omega)]
    · rw [if_neg h, given_at h2]
      have : rank rs j ≠ k := fun e => h (hinj j (by omega) e).symm
      by_cases h3 : rank rs j < k
      · rw [if_pos h3, if_pos (by omega)]
      · rw [if_neg h3, if_neg (by omega)]

/-- the comparison, as a number -/
theorem c1_nat {rs : List Int} {i j : Nat} (hi : i < rs.length) (hj : j < rs.length) : ∃ r, split_divide_c1 (i : Int) (j : Int) rs = some r ∧ (r < 0 ↔ beats rs i j = true) := by
  refine ⟨_, c1_eq (inb_nat hi) (inb_nat hj), ?_⟩
  rw [ix_nat hi, ix_nat hj, beats_iff]
  have e1 : rs.getD i 0 = rs[i] := by simp [hi]
  have e2 : rs.getD j 0 = rs[j] := by simp [hj]
  rw [e1, e2]
  unfold cmp3
  by_cases h1 : rs[j] < rs[i]
  · simp [h1]
  · by_cases h2 : rs[i] < rs[j]
    · simp [h1, h2]
      omega
    · have h3 : rs[j] = rs[i] := by omega
      by_cases h4 : i < j
      · simp [h3, h4]
      · by_cases h5 : j < i <;> simp [h3, h4, h5]
theorem c1_val {rs : List Int} {i j : Nat} (hi : i < rs.length) (hj : j < rs.length) {r : Int} (h : split_divide_c1 (i : Int) (j : Int) rs = some r) : r < 0 ↔ beats rs i j = true := by
  obtain ⟨r', h1, h2⟩ := c1_nat hi hj
  rw [h] at h1
  cases h1
  exact h2
theorem idxs_mem {n : Nat} {x : Int} (h : x ∈ idxs n) : ∃ i : Nat, i < n ∧ x = (i : Int) := by
  obtain ⟨i, hi, rfl⟩ := List.mem_map.1 h
  exact ⟨i, List.mem_range.1 hi, rfl⟩
theorem orders_idxs {rs : List Int} (hn : rs.length ≤ 1000000) : Orders (fun x y => split_divide_c1 x y rs) (idxs rs.length) where
  len := by rw [idxs_length]; omega
  def_ x hx y hy := by
    obtain ⟨i, hi, rfl⟩ := idxs_mem hx
    obtain ⟨j, hj, rfl⟩ := idxs_mem hy
    obtain ⟨r, hr, _⟩ := c1_nat hi hj
    exact ⟨r, hr⟩
  irr x hx r hr := by
    obtain ⟨i, hi, rfl⟩ := idxs_mem hx
    rw [c1_val hi hi hr, beats_irr]
    simp
  trans x hx y hy z hz r s t h1 h2 h3 := by
    obtain ⟨i, hi, rfl⟩ := idxs_mem hx
    obtain ⟨j, hj, rfl⟩ := idxs_mem hy
    obtain ⟨k, hk, rfl⟩ := idxs_mem hz
    rw [c1_val hi hj h1, c1_val hj hk h2, c1_val hi hk h3, beats_iff, beats_iff, beats_iff]
    omega
  ntrans x hx y hy z hz r s t h1 h2 h3 := by
    obtain ⟨i, hi, rfl⟩ := idxs_mem hx
    obtain ⟨j, hj, rfl⟩ := idxs_mem hy
    obtain ⟨k, hk, rfl⟩ := idxs_mem hz
    rw [c1_val hi hj h1, c1_val hj hk h2, c1_val hi hk h3, beats_iff, beats_iff, beats_iff]
    omega
/-- the sorted order: at the place k stands the index of the rank k -/
theorem sorted_idxs {rs : List Int} (hn : rs.length ≤ 1000000) : ∃ L : List Nat, slices_SortFunc_s_int_int_o_split_divide_c1 (idxs rs.length) rs = some (L.map Int.ofNat) ∧ L.Perm (List.range rs.length) ∧ L.Pairwise fun i j => beats rs i j = true := by
  obtain ⟨ys, h1, h2, h3⟩ := sortV_ok (orders_idxs hn)
  have hmem : ∀ y ∈ ys, ∃ i : Nat, i < rs.length ∧ y = (i : Int) := fun y hy => idxs_mem (h2.mem_iff.1 hy)
  have hmap : (ys.map Int.toNat).map Int.ofNat = ys := by
    rw [List.map_map]
    conv => rhs; rw [← List.map_id ys]
    apply List.map_congr_left
    intro y hy
    obtain ⟨i, _, rfl⟩ := hmem y hy
    rfl
  have hp : (ys.map Int.toNat).Perm (List.range rs.length) := by
    have := h2.map Int.toNat
    have e : (idxs rs.length).map Int.toNat = List.range rs.length := by
      simp only [idxs, List.map_map]
      conv => rhs; rw [← List.map_id (List.range rs.length)]
      rfl
    rwa [e] at this
  refine ⟨ys.map Int.toNat, by rw [hmap]; exact h1, hp, ?_⟩
  have hnd : (ys.map Int.toNat).Nodup := hp.nodup_iff.2 List.nodup_range
  rw [List.pairwise_map]
  rw [List.Nodup, List.pairwise_map] at hnd
  refine (List.Pairwise.and hnd h3).imp_of_mem ?_
  intro a b ha hb hab
  obtain ⟨i, hi, rfl⟩ := hmem a ha
  obtain ⟨j, hj, rfl⟩ := hmem b hb
  obtain ⟨r, hr, hr2⟩ := c1_nat hj hi
  have h4 := hab.2 r hr
  simp only [Int.toNat_natCast] at hab ⊢
  rcases beats_total (rs := rs) hab.1 with h5 | h5
  · exact h5
  · exact absurd (hr2.2 h5) h4
end Go.Proofs.Ytlmhmpngjfjfhaa.Pl
