/- The treaties of the laws of layer 21 (plain). -/
import Derived.Test.YtlmhmpngjfjfhaaLProp
namespace Go.Proofs.Ytlmhmpngjfjfhaa.Pl
open Go

theorem made21_ok {l : List Int} (hl : l.length ≤ 9223372036854775807) : ∃ t d, treatylaw21_made l = some (t, d) ∧ DOk d ∧ TLen t ∧ PropF t ∧ (∀ s, 0 ≤ s ∧ s ≤ 68719476736 → PV t s) ∧ ∃ id kind, (1 ≤ id ∧ id ≤ 9) ∧ (1 ≤ kind ∧ kind ≤ 3) ∧ TBase t id kind := by
  unfold treatylaw21_made
  obtain ⟨d, e1, h1⟩ := new_ok hl
  obtain ⟨v2, d2, e2, a2, b2, h2⟩ := range_ok h1 (lo := 1) (hi := 9) (by omega) (by omega) (by omega)
  obtain ⟨v3, d3, e3, a3, b3, h3⟩ := range_ok h2 (lo := 1) (hi := 3) (by omega) (by omega) (by omega)
  obtain ⟨t, d4, e4, h4, hb, hp⟩ := treaty_ok h3 (id := v2) (kind := v3) (by omega)
  have hf := hp (by omega)
  rw [e1, Option.bind_some, e2, Option.bind_some]
  dsimp only
  rw [e3, Option.bind_some]
  dsimp only
  rw [e4, Option.bind_some]
  have hv := made_valid ⟨a2, b2⟩ hb (by omega) (propF_fields hf hb.prem)
  exact ⟨t, d4, rfl, h4, hb.len, hf, fun s hs => ⟨hb.len, hv, by rw [hb.hkind]; omega, hs⟩, v2, v3, by omega, by omega, hb⟩
theorem any21_ok {l : List Int} (hl : l.length ≤ 9223372036854775807) (k : Int) : ∃ t, treatylaw21_anyTreaty l k = some t ∧ TLen t := by
  unfold treatylaw21_anyTreaty
  obtain ⟨d, e1, h1⟩ := new_ok hl
  obtain ⟨v2, d2, e2, a2, b2, h2⟩ := range_ok h1 (lo := 1) (hi := 9) (by omega) (by omega) (by omega)
  obtain ⟨v3, d3, e3, a3, b3, h3⟩ := range_ok h2 (lo := 1) (hi := 6) (by omega) (by omega) (by omega)
  obtain ⟨t, d4, e4, h4, hb, hp⟩ := treaty_ok h3 (id := v2) (kind := v3) (by omega)
  rw [e1, Option.bind_some, e2, Option.bind_some]
  dsimp only
  rw [e3, Option.bind_some]
  dsimp only
  rw [e4, Option.bind_some]
  dsimp only
  have ht := hb.len
  split <;> exact ⟨_, rfl, ⟨ht.perils, ht.areas, ht.inures⟩⟩
theorem within_ok (x : Int) {n : Int} (h1 : 1 ≤ n) (h2 : n ≤ 4611686018427387904) : ∃ v, treatymade_Within x n = some v ∧ 0 ≤ v ∧ v < n := by
  unfold treatymade_Within
  rw [chk_true (by simp; omega)]
  have a1 := Int.tmod_lt_of_pos x (show 0 < n by omega)
  have a2 := Int.lt_tmod_of_pos x (show 0 < n by omega)
  rw [w64_id (by omega) (by omega)]
  exact ⟨_, rfl, Int.tmod_nonneg _ (by omega), Int.tmod_lt_of_pos _ (by omega)⟩
end Go.Proofs.Ytlmhmpngjfjfhaa.Pl
