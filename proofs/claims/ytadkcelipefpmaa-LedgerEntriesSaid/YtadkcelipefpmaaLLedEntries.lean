/- The law LedgerEntries (plain). -/
import Derived.Test.YtadkcelipefpmaaLShr
namespace Go.Proofs.Ytadkcelipefpmaa.Pl
open Go

theorem small_ok {d : GDeck} (h : DOk d) : ∃ v d', treatymade2_Small d = some (v, d') ∧ 0 ≤ v ∧ v < 268435456 ∧ DOk d' := by
  unfold treatymade2_Small
  obtain ⟨v1, d1, e1, a1, b1, h1⟩ := next_ok h (n := 4) (by omega) (by omega)
  rw [e1, Option.bind_some]
  dsimp only
  by_cases hv : v1 = 0
  · obtain ⟨v2, d2, e2, a2, b2, h2⟩ := next_ok h1 (n := 4) (by omega) (by omega)
    rw [if_pos (by simpa using hv), e2, Option.bind_some]
    exact ⟨v2, d2, rfl, a2, by omega, h2⟩
  · rw [if_neg (by simpa using hv)]
    have hs : ∃ b : Bool, (if (decide (v1 = 1)) = true then (some (decide (v1 = 1))) else (some (decide (v1 = 2)))) = some b := by
      split <;> exact ⟨_, rfl⟩
    obtain ⟨b, hb⟩ := hs
    rw [hb, Option.bind_some]
    cases b with
    | true =>
      obtain ⟨v2, d2, e2, a2, b2, h2⟩ := next_ok h1 (n := 1000) (by omega) (by omega)
      rw [if_pos rfl, e2, Option.bind_some]
      exact ⟨v2, d2, rfl, a2, by omega, h2⟩
    | false =>
      obtain ⟨v2, d2, e2, a2, b2, h2⟩ := next_ok h1 (n := 268435456) (by omega) (by omega)
      rw [if_neg (by simp), e2, Option.bind_some]
      exact ⟨v2, d2, rfl, a2, by omega, h2⟩
/-- the shares made in i rounds -/
structure ShI (out : List GShare) (loss treaty party : Int) (i : Nat) : Prop where
  len : out.length ≤ i
  ent : ∀ x ∈ out, vS x = true
  ord : ∀ (j : Nat) (h : j + 1 < out.length), sLt out[j] out[j + 1] = true
  l1 : 1 ≤ loss
  l2 : loss ≤ 1 + 2 * (i : Int)
  t1 : 0 ≤ treaty
  t2 : treaty ≤ 2 + 2 * (i : Int)
  p1 : -1 ≤ party
  p2 : party ≤ 2 * (i : Int)
  last : ∀ y ∈ out.getLast?, y.Loss < loss ∨ (y.Loss = loss ∧ (y.Treaty < treaty ∨ (y.Treaty = treaty ∧ y.Party ≤ party)))
theorem ord_snoc {out : List GShare} {x : GShare} (h : ∀ (j : Nat) (h : j + 1 < out.length), sLt out[j] out[j + 1] = true) (hx : ∀ y ∈ out.getLast?, sLt y x = true) : ∀ (j : Nat) (h : j + 1 < (out ++ [x]).length), sLt (out ++ [x])[j] (out ++ [x])[j + 1] = true := by
  intro j hj
  simp only [List.length_append, List.length_cons, List.length_nil] at hj
  by_cases h1 : j + 1 < out.length
  · rw [List.getElem_append_left (by omega), List.getElem_append_left h1]
    exact h j h1
  · have h2 : j + 1 = out.length := by omega
    rw [List.getElem_append_left (by omega), List.getElem_append_right (by omega)]
    simp only [h2, Nat.sub_self, List.getElem_cons_zero]
    apply hx
    rw [List.getLast?_eq_getElem?, show out.length - 1 = j by omega, List.getElem?_eq_getElem (by omega)]
    rfl
theorem shStep {d : GDeck} (hd : DOk d) {out : List GShare} {loss treaty party : Int} {i k : Nat} (h : ShI out loss treaty party i) (hi : i ≤ 50) (hk : k ≤ 50) :
    ∃ d' out' loss' treaty' party', treatymade2_Shares_l10 (d.L, d.At, out, loss, treaty, party, ((k + 1 : Nat) : Int)) = some (.inl (d'.L, d'.At, out', loss', treaty', party', (k : Int))) ∧ DOk d' ∧ ShI out' loss' treaty' party' (i + 1) := by
  unfold treatymade2_Shares_l10
  dsimp only
  have hc : decide ((0 : Int) < ((k + 1 : Nat) : Int)) = true := by simp <;> omega
  have ew : w64 (((k + 1 : Nat) : Int) - 1) = (k : Int) := by rw [w64_id (by omega) (by omega)]; omega
  rw [if_pos hc, ew]
  have := h.l1; have := h.l2; have := h.t1; have := h.t2; have := h.p1; have := h.p2
  -- the first choice
  have s1 : ∃ d1 l1 t1 p1, ((treatymade_Deck_Next (GDeck.mk d.L d.At) 3).bind fun r6_1 => if (decide (r6_1.1 = 0)) = true then ((treatymade_Deck_Next r6_1.2 2).bind fun r8_3 => (treatymade_Deck_Next r8_3.2 3).bind fun r8_6 => some (r8_6.2.L, r8_6.2.At, (w64 ((w64 (loss + 1)) + r8_3.1)), r8_6.1, (-1))) else if (decide (r6_1.1 = 1)) = true then ((treatymade_Deck_Next r6_1.2 2).bind fun r10_3 => some (r10_3.2.L, r10_3.2.At, loss, (w64 ((w64 (treaty + 1)) + r10_3.1)), (-1))) else (some (r6_1.2.L, r6_1.2.At, loss, treaty, party))) = some (d1.L, d1.At, l1, t1, p1) ∧ DOk d1 ∧ ShI out l1 t1 p1 i ∨ ∃ d1 l1 t1, ((treatymade_Deck_Next (GDeck.mk d.L d.At) 3).bind fun r6_1 => if (decide (r6_1.1 = 0)) = true then ((treatymade_Deck_Next r6_1.2 2).bind fun r8_3 => (treatymade_Deck_Next r8_3.2 3).bind fun r8_6 => some (r8_6.2.L, r8_6.2.At, (w64 ((w64 (loss + 1)) + r8_3.1)), r8_6.1, (-1))) else if (decide (r6_1.1 = 1)) = true then ((treatymade_Deck_Next r6_1.2 2).bind fun r10_3 => some (r10_3.2.L, r10_3.2.At, loss, (w64 ((w64 (treaty + 1)) + r10_3.1)), (-1))) else (some (r6_1.2.L, r6_1.2.At, loss, treaty, party))) = some (d1.L, d1.At, l1, t1, -1) ∧ DOk d1 ∧ 1 ≤ l1 ∧ l1 ≤ 1 + 2 * ((i : Int) + 1) ∧ 0 ≤ t1 ∧ t1 ≤ 2 + 2 * ((i : Int) + 1) ∧ ∀ y ∈ out.getLast?, y.Loss < l1 ∨ (y.Loss = l1 ∧ y.Treaty < t1) := by
    obtain ⟨v, d1, e1, a1, b1, h1⟩ := next_ok (d := ⟨d.L, d.At⟩) hd (n := 3) (by omega) (by omega)
    rw [e1, Option.bind_some]
    dsimp only
    by_cases hv : v = 0
    · obtain ⟨v2, d2, e2, a2, b2, h2⟩ := next_ok h1 (n := 2) (by omega) (by omega)
      obtain ⟨v3, d3, e3, a3, b3, h3⟩ := next_ok h2 (n := 3) (by omega) (by omega)
      refine ⟨d1, 0, 0, 0, .inr ⟨d3, loss + 1 + v2, v3, ?_, h3, by omega, by omega, by omega, by omega, fun y hy => ?_⟩⟩
      · rw [if_pos (by simpa using hv), e2, Option.bind_some]
        dsimp only
        rw [e3, Option.bind_some, w64_id (n := loss + 1) (by omega) (by omega), w64_id (by omega) (by omega)]
      · have := h.last y hy
        omega
    · rw [if_neg (by simpa using hv)]
      by_cases hv1 : v = 1
      · obtain ⟨v2, d2, e2, a2, b2, h2⟩ := next_ok h1 (n := 2) (by omega) (by omega)
        refine ⟨d1, 0, 0, 0, .inr ⟨d2, loss, treaty + 1 + v2, ?_, h2, by omega, by omega, by omega, by omega, fun y hy => ?_⟩⟩
        · rw [if_pos (by simpa using hv1), e2, Option.bind_some, w64_id (n := treaty + 1) (by omega) (by omega), w64_id (by omega) (by omega)]
        · have := h.last y hy
          omega
      · exact ⟨d1, loss, treaty, party, .inl ⟨by rw [if_neg (by simpa using hv1)], h1, h⟩⟩
  -- behind it: a state with bounds for i + 1
  have s2 : ∃ d1 l1 t1 p1, ((treatymade_Deck_Next (GDeck.mk d.L d.At) 3).bind fun r6_1 => if (decide (r6_1.1 = 0)) = true then ((treatymade_Deck_Next r6_1.2 2).bind fun r8_3 => (treatymade_Deck_Next r8_3.2 3).bind fun r8_6 => some (r8_6.2.L, r8_6.2.At, (w64 ((w64 (loss + 1)) + r8_3.1)), r8_6.1, (-1))) else if (decide (r6_1.1 = 1)) = true then ((treatymade_Deck_Next r6_1.2 2).bind fun r10_3 => some (r10_3.2.L, r10_3.2.At, loss, (w64 ((w64 (treaty + 1)) + r10_3.1)), (-1))) else (some (r6_1.2.L, r6_1.2.At, loss, treaty, party))) = some (d1.L, d1.At, l1, t1, p1) ∧ DOk d1 ∧ 1 ≤ l1 ∧ l1 ≤ 1 + 2 * ((i : Int) + 1) ∧ 0 ≤ t1 ∧ t1 ≤ 2 + 2 * ((i : Int) + 1) ∧ -1 ≤ p1 ∧ p1 ≤ 2 * (i : Int) ∧ ∀ y ∈ out.getLast?, y.Loss < l1 ∨ (y.Loss = l1 ∧ (y.Treaty < t1 ∨ (y.Treaty = t1 ∧ y.Party ≤ p1))) := by
    obtain ⟨d1, l1, t1, p1, s1⟩ := s1
    rcases s1 with ⟨e, hd1, hI⟩ | ⟨d2, l2, t2, e, hd2, c1, c2, c3, c4, c5⟩
    · have := hI.l1; have := hI.l2; have := hI.t1; have := hI.t2; have := hI.p1; have := hI.p2
      exact ⟨d1, l1, t1, p1, e, hd1, by omega, by omega, by omega, by omega, by omega, by omega, hI.last⟩
    · exact ⟨d2, l2, t2, -1, e, hd2, c1, c2, c3, c4, by omega, by omega, fun y hy => by have := c5 y hy; omega⟩
  obtain ⟨d1, l1, t1, p1, e1, hd1, c1, c2, c3, c4, c5, c6, c7⟩ := s2
  rw [e1]
  simp only [Option.bind_some]
  -- no second share without a treaty
  have s3 : ∃ t2 p2, (if ((decide (t1 = 0)) && (decide (0 ≤ p1))) = true then (some ((1 : Int), (-1 : Int))) else (some (t1, p1))) = some (t2, p2) ∧ 0 ≤ t2 ∧ t2 ≤ 2 + 2 * ((i : Int) + 1) ∧ -1 ≤ p2 ∧ p2 ≤ 2 * (i : Int) ∧ (t2 = 0 → p2 = -1) ∧ ∀ y ∈ out.getLast?, y.Loss < l1 ∨ (y.Loss = l1 ∧ (y.Treaty < t2 ∨ (y.Treaty = t2 ∧ y.Party ≤ p2))) := by
    by_cases hb : t1 = 0 ∧ 0 ≤ p1
    · refine ⟨1, -1, by rw [if_pos (by simpa using hb)], by omega, by omega, by omega, by omega, by omega, fun y hy => ?_⟩
      have := c7 y hy
      omega
    · refine ⟨t1, p1, by rw [if_neg (by simpa using hb)], c3, c4, c5, c6, by omega, c7⟩
  obtain ⟨t2, p2, e2, f1, f2, f3, f4, f5, f6⟩ := s3
  rw [e2]
  simp only [Option.bind_some]
  have s4 : ∃ d2 p3, (if (decide (t2 = 0)) = true then (some (d1.L, d1.At, (0 : Int))) else ((treatymade_Deck_Next (GDeck.mk d1.L d1.At) 2).bind fun r15_2 => some (r15_2.2.L, r15_2.2.At, (w64 (p2 + (w64 (1 + r15_2.1))))))) = some (d2.L, d2.At, p3) ∧ DOk d2 ∧ 0 ≤ p3 ∧ p2 < p3 ∧ p3 ≤ 2 * ((i : Int) + 1) ∧ (t2 = 0 → p3 = 0) := by
    by_cases ht : t2 = 0
    · exact ⟨d1, 0, by rw [if_pos (by simpa using ht)], hd1, by omega, by have := f5 ht; omega, by omega, fun _ => rfl⟩
    · obtain ⟨v2, d2, e3, a2, b2, h2⟩ := next_ok (d := ⟨d1.L, d1.At⟩) hd1 (n := 2) (by omega) (by omega)
      refine ⟨d2, p2 + (1 + v2), ?_, h2, by omega, by omega, by omega, fun h => absurd h ht⟩
      rw [if_neg (by simpa using ht), e3, Option.bind_some, w64_id (n := 1 + v2) (by omega) (by omega), w64_id (by omega) (by omega)]
  obtain ⟨d2, p3, e3, hd2, g1, g2, g3, g4⟩ := s4
  rw [e3]
  simp only [Option.bind_some]
  have hlt : ∀ y ∈ out.getLast?, y.Loss < l1 ∨ (y.Loss = l1 ∧ (y.Treaty < t2 ∨ (y.Treaty = t2 ∧ y.Party < p3))) := fun y hy => by have := f6 y hy; omega
  by_cases h15 : 15 < p3
  · rw [if_pos (by simpa using h15), Option.bind_some]
    refine ⟨d2, out, l1, t2, p3, rfl, hd2, ⟨by have := h.len; omega, h.ent, h.ord, c1, by omega, f1, by omega, by omega, by omega, fun y hy => by have := hlt y hy; omega⟩⟩
  · rw [if_neg (by simpa using h15)]
    obtain ⟨v, d3, e4, a3, b3, hd3⟩ := small_ok (d := ⟨d2.L, d2.At⟩) hd2
    rw [e4, Option.bind_some]
    dsimp only
    rw [w64_id (n := 1 + v) (by omega) (by omega), w64_id (n := 1 + v + 1) (by omega) (by omega)]
    obtain ⟨q, d4, e5, a4, b4, hd4⟩ := next_ok hd3 (n := 1 + v + 1) (by omega) (by omega)
    have hlen := h.len
    rw [e5, Option.bind_some, chk_of (room_of (by rw [List.length_append]; simp only [List.length_cons, List.length_nil]; omega)), Option.bind_some]
    refine ⟨d4, _, l1, t2, p3, rfl, hd4, ⟨by rw [List.length_append]; simp only [List.length_cons, List.length_nil]; omega, fun x hx => ?_, ord_snoc h.ord fun y hy => ?_, c1, by omega, f1, by omega, by omega, by omega, fun y hy => ?_⟩⟩
    · rcases List.mem_append.1 hx with hx | hx
      · exact h.ent x hx
      · simp only [List.mem_cons, List.not_mem_nil, or_false] at hx
        subst hx
        rw [vS_iff]
        dsimp only
        omega
    · rw [sLt_iff]
      exact hlt y hy
    · rw [List.getLast?_append] at hy
      simp at hy
      subst hy
      dsimp only
      omega
theorem shLoop : ∀ (k : Nat) (d : GDeck) (out : List GShare) (loss treaty party : Int) (i : Nat), DOk d → ShI out loss treaty party i → i + k ≤ 50 → ∃ d' r, loopV treatymade2_Shares_l10 (d.L, d.At, out, loss, treaty, party, (k : Int)) = some (d'.L, d'.At, r) ∧ DOk d' ∧ SOk r ∧ r.length ≤ i + k
  | 0, d, out, loss, treaty, party, i, hd, h, _ => ⟨d, out, loopV_stop (by unfold treatymade2_Shares_l10; simp), hd, ⟨by have := h.len; omega, h.ent, h.ord⟩, by have := h.len; omega⟩
  | k + 1, d, out, loss, treaty, party, i, hd, h, hi => by
    obtain ⟨d', out', l', t', p', e, hd', h'⟩ := shStep hd h (k := k) (by omega) (by omega)
    obtain ⟨d2, r, e2, h2, h3, h4⟩ := shLoop k d' out' l' t' p' (i + 1) hd' h' (by omega)
    exact ⟨d2, r, (loopV_next e).trans e2, h2, h3, by omega⟩
theorem made_shares {d : GDeck} (h : DOk d) (n : Nat) (hn : n ≤ 40) : ∃ r d', treatymade2_Shares d (n : Int) = some (r, d') ∧ SOk r ∧ r.length ≤ n := by
  unfold treatymade2_Shares
  have e1 : w64 ((n : Int) + 1) = (n : Int) + 1 := w64_id (by omega) (by omega)
  obtain ⟨v, d1, e2, a1, b1, h1⟩ := next_ok h (n := (n : Int) + 1) (by omega) (by omega)
  obtain ⟨d2, r, h2, h3, h4, h5⟩ := shLoop v.toNat d1 [] 1 0 (-1) 0 h1 ⟨by simp, fun x hx => (by cases hx), fun j hj => (by simp at hj), by omega, by omega, by omega, by omega, by omega, by omega, fun y hy => (by simp at hy)⟩ (by omega)
  have ev : ((v.toNat : Nat) : Int) = v := by omega
  rw [ev] at h2
  rw [e1, e2, Option.bind_some, h2, Option.bind_some]
  exact ⟨r, d2, rfl, h4, by omega⟩
theorem treatylaw33_LedgerEntries_law (raw : List GShare) (d : List Int) (hdd : d.length ≤ 9223372036854775807) : treatylaw33_LedgerEntries raw d = some true := by
  unfold treatylaw33_LedgerEntries
  by_cases h : 100 < raw.length
  · rw [if_pos (by simp; omega), awake33]
    rfl
  · rw [if_neg (by simp; omega)]
    obtain ⟨e1, hk⟩ := new_ok d hdd
    obtain ⟨l, d', e2, hS, hl⟩ := made_shares hk 20 (by omega)
    rw [show ((20 : Nat) : Int) = 20 from rfl] at e2
    obtain ⟨r1, c1, h1, h2, l1, _⟩ := entries_same raw (by omega)
    obtain ⟨r2, c2, h3, h4, l2, h5⟩ := entries_same l (by omega)
    have h6 := h5 hS
    subst h6
    simp only [e1, Option.bind_some, e2, h1, h2, h3, h4, sameEntries_refl r1 (by omega), sameEntries_refl r2 (by omega), awake33, decide_true, Bool.and_self, if_true]
end Go.Proofs.Ytadkcelipefpmaa.Pl
