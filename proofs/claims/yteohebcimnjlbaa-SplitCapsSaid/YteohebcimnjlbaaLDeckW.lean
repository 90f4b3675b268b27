/- Lists of weights out of a deck (plain). -/
import Derived.Test.YteohebcimnjlbaaLDeck
namespace Go.Proofs.Yteohebcimnjlbaa.Pl
open Go

theorem weightsLoop : ∀ (k : Nat) (d : GDeck) (out : List Int), DOk d → out.length + k ≤ 1000 → (∀ x ∈ out, 0 ≤ x ∧ x ≤ 1073741825) →
    ∃ (d' : GDeck) (r : List Int), loopV treatymade_Deck_Weights_l8 (d.L, d.At, out, (k : Int)) = some (d'.L, d'.At, out ++ r) ∧ DOk d' ∧ r.length = k ∧ ∀ x ∈ out ++ r, 0 ≤ x ∧ x ≤ 1073741825
  | 0, d, out, hd, _, ho => ⟨d, [], by rw [List.append_nil]; exact loopV_stop (by unfold treatymade_Deck_Weights_l8; simp), hd, rfl, by simpa using ho⟩
  | k + 1, d, out, hd, hl, ho => by
    obtain ⟨e, d', he, he1, he2, hd'⟩ := upto_ok (d := ⟨d.L, d.At⟩) hd (n := 1073741824) (by omega) (by omega)
    have hroom : room (out ++ [e]).length = true := room_of (by simp <;> omega)
    have hst : treatymade_Deck_Weights_l8 (d.L, d.At, out, ((k + 1 : Nat) : Int)) = some (.inl (d'.L, d'.At, out ++ [e], (k : Int))) := by
      unfold treatymade_Deck_Weights_l8
      have hc : decide ((0 : Int) < ((k + 1 : Nat) : Int)) = true := by simp <;> omega
      have e1 : w64 (((k + 1 : Nat) : Int) - 1) = (k : Int) := by rw [w64_id (by omega) (by omega)]; omega
      simp only [hc, if_true, he, Option.bind_some, chk_of hroom, e1]
    obtain ⟨d2, r, h1, h2, h3, h4⟩ := weightsLoop k d' (out ++ [e]) hd' (by simp <;> omega) (fun x hx => by
      rcases List.mem_append.1 hx with hx | hx
      · exact ho x hx
      · simp at hx; subst hx; omega)
    exact ⟨d2, e :: r, by rw [loopV_next hst, h1]; simp, h2, by simp [h3], by simpa using h4⟩
/-- weights that can be divided by -/
structure WOk (w : List Int) (n : Int) : Prop where
  len0 : 1 ≤ w.length
  len1 : (w.length : Int) ≤ n
  val : ∀ x ∈ w, 0 ≤ x ∧ x ≤ 1073741825
  first : ∃ x t, w = x :: t ∧ 1 ≤ x
theorem weights_ok {d : GDeck} (h : DOk d) {n : Int} (h1 : 1 ≤ n) (h2 : n ≤ 60) : ∃ w d', treatymade_Deck_Weights d n = some (w, d') ∧ DOk d' ∧ WOk w n := by
  unfold treatymade_Deck_Weights
  obtain ⟨v, d1, e1, a1, b1, k1⟩ := upto_ok h (n := 1073741824) (by omega) (by omega)
  obtain ⟨u, d2, e2, a2, b2, k2⟩ := next_ok k1 (n := n) (by omega) (by omega)
  have hw : w64 (1 + v) = 1 + v := w64_id (by omega) (by omega)
  obtain ⟨d3, r, h3, h4, h5, h6⟩ := weightsLoop u.toNat d2 [1 + v] k2 (by simp <;> omega) (fun x hx => by simp at hx; subst hx; omega)
  have ev : ((u.toNat : Nat) : Int) = u := by omega
  rw [ev] at h3
  rw [e1, Option.bind_some]
  dsimp only
  rw [e2, Option.bind_some]
  dsimp only
  rw [hw, h3, Option.bind_some]
  refine ⟨_, _, rfl, h4, by simp, by simp [h5]; omega, h6, 1 + v, r, rfl, by omega⟩
end Go.Proofs.Yteohebcimnjlbaa.Pl
