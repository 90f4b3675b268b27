/- The lists that the laws on insolvency make (plain). -/
import Derived.Test.YtoodneljjhbfhaaLInsD
namespace Go.Proofs.Ytoodneljjhbfhaa.Pl
open Go

theorem new2_ok {l : List Int} (h : l.length ≤ 9223372036854775807) : ∃ d, treatymade2_New l = some d ∧ DOk d := by
  obtain ⟨d, e, hd⟩ := new_ok h
  exact ⟨d, by unfold treatymade2_New; rw [e]; rfl, hd⟩
theorem small_ok {d : GDeck} (h : DOk d) : ∃ v d', treatymade2_Small d = some (v, d') ∧ 0 ≤ v ∧ v < 268435456 ∧ DOk d' := by
  unfold treatymade2_Small
  obtain ⟨u, d1, e1, a1, b1, h1⟩ := next_ok h (n := 4) (by omega) (by omega)
  rw [e1, Option.bind_some]
  dsimp only
  by_cases h0 : u = 0
  · rw [if_pos (by simpa using h0)]
    obtain ⟨v, d2, e2, a2, b2, h2⟩ := next_ok h1 (n := 4) (by omega) (by omega)
    rw [e2, Option.bind_some]
    exact ⟨_, _, rfl, a2, by dsimp only; omega, h2⟩
  rw [if_neg (by simpa using h0)]
  have hs : ∃ b : Bool, (if decide (u = 1) = true then some (decide (u = 1)) else some (decide (u = 2))) = some b := by
    by_cases h1 : u = 1
    · exact ⟨_, by rw [if_pos (by simpa using h1)]⟩
    · exact ⟨_, by rw [if_neg (by simpa using h1)]⟩
  obtain ⟨b, eb⟩ := hs
  rw [eb, Option.bind_some]
  cases b
  · rw [if_neg (by simp)]
    obtain ⟨v, d2, e2, a2, b2, h2⟩ := next_ok h1 (n := 268435456) (by omega) (by omega)
    rw [e2, Option.bind_some]
    exact ⟨_, _, rfl, a2, b2, h2⟩
  · rw [if_pos rfl]
    obtain ⟨v, d2, e2, a2, b2, h2⟩ := next_ok h1 (n := 1000) (by omega) (by omega)
    rw [e2, Option.bind_some]
    exact ⟨_, _, rfl, a2, by dsimp only; omega, h2⟩
theorem AscM.snoc : ∀ {l : List GMutual} {q : Option Int} {p : GMutual}, AscM q l → okM p = true → (∀ x, q = some x → x < p.Party) → (∀ x ∈ l, x.Party < p.Party) → AscM q (l ++ [p])
  | [], q, p, _, h1, h2, _ => ⟨h1, h2, trivial⟩
  | y :: t, q, p, h, h1, h2, h3 => ⟨h.1, h.2.1, AscM.snoc h.2.2 h1 (fun x hx => by cases hx; exact h3 y (by simp)) (fun x hx => h3 x (List.mem_cons_of_mem _ hx))⟩
structure MutOk (l : List GMutual) : Prop where
  len : l.length ≤ 5
  asc : AscM none l
  small : ∀ m ∈ l, m.Owed < 268435456 ∧ m.Owes < 268435456
theorem mutualsLoop : ∀ (k : Nat) (d : GDeck) (out : List GMutual) (party : Int), DOk d → out.length + k ≤ 5 → AscM none out → (∀ x ∈ out, x.Party ≤ party) → -1 ≤ party ∧ party + 3 * (k : Int) ≤ 14 → (∀ m ∈ out, m.Owed < 268435456 ∧ m.Owes < 268435456) →
    ∃ (d' : GDeck) (r : List GMutual), loopV treatymade2_Mutuals_l10 (d.L, d.At, out, party, (k : Int)) = some (d'.L, d'.At, r) ∧ DOk d' ∧ MutOk r
  | 0, d, out, party, hd, hl, ha, _, _, hs => ⟨d, out, loopV_stop (by unfold treatymade2_Mutuals_l10; simp), hd, ⟨by omega, ha, hs⟩⟩
  | k + 1, d, out, party, hd, hl, ha, hp, hp2, hs => by
    obtain ⟨v, d1, e1, a1, b1, h1⟩ := next_ok (d := ⟨d.L, d.At⟩) hd (n := 3) (by omega) (by omega)
    obtain ⟨o, d2, e2, a2, b2, h2⟩ := small_ok h1
    obtain ⟨c, d3, e3, a3, b3, h3⟩ := next_ok h2 (n := 2) (by omega) (by omega)
    obtain ⟨u, d4, e4, a4, b4, h4⟩ := small_ok h3
    have hcu : 0 ≤ c * u ∧ c * u < 268435456 := by
      have : c = 0 ∨ c = 1 := by omega
      rcases this with rfl | rfl
      · simp
      · rw [Int.one_mul]; omega
    have w1 : w64 (party + w64 (1 + v)) = party + 1 + v := by rw [w64_id (n := 1 + v) (by omega) (by omega), w64_id (by omega) (by omega)]; omega
    have hnew : okM (GMutual.mk (party + 1 + v) o (c * u)) = true := okM_iff.2 ⟨by dsimp only; omega, by dsimp only; omega, by dsimp only; omega⟩
    have hst : treatymade2_Mutuals_l10 (d.L, d.At, out, party, ((k + 1 : Nat) : Int)) = some (.inl (d4.L, d4.At, out ++ [GMutual.mk (party + 1 + v) o (c * u)], party + 1 + v, (k : Int))) := by
      unfold treatymade2_Mutuals_l10
      dsimp only
      rw [if_pos (by simp), e1, Option.bind_some]
      dsimp only
      rw [w1, if_pos (by simp; omega), e2, Option.bind_some]
      dsimp only
      rw [e3, Option.bind_some]
      dsimp only
      rw [e4, Option.bind_some]
      dsimp only
      rw [w64_id (n := c * u) (by omega) (by omega), chk_true (room_of (by simp; omega)), Option.bind_some, w64_id (by omega) (by omega)]
      congr 6
      omega
    obtain ⟨d5, r, h5, h6, h7⟩ := mutualsLoop k d4 (out ++ [GMutual.mk (party + 1 + v) o (c * u)]) (party + 1 + v) h4 (by simp; omega) (ha.snoc hnew (fun x hx => by cases hx) (fun x hx => by have := hp x hx; dsimp only; omega)) (fun x hx => by
      rcases List.mem_append.1 hx with hx | hx
      · have := hp x hx; omega
      · simp at hx; subst hx; dsimp only; omega) (by omega) (fun m hm => by
      rcases List.mem_append.1 hm with hm | hm
      · exact hs m hm
      · simp at hm; subst hm; dsimp only; omega)
    exact ⟨d5, r, by rw [loopV_next hst, h5], h6, h7⟩
theorem mutuals_ok {d : GDeck} (h : DOk d) : ∃ l d', treatymade2_Mutuals d = some (l, d') ∧ DOk d' ∧ MutOk l := by
  unfold treatymade2_Mutuals
  obtain ⟨v, d1, e1, a1, b1, h1⟩ := next_ok h (n := 6) (by omega) (by omega)
  obtain ⟨d2, r, h2, h3, h4⟩ := mutualsLoop v.toNat d1 [] (-1) h1 (by simp; omega) trivial (fun x hx => by cases hx) (by omega) (fun m hm => by cases hm)
  have ev : ((v.toNat : Nat) : Int) = v := by omega
  rw [ev] at h2
  rw [e1, Option.bind_some]
  dsimp only
  rw [h2, Option.bind_some]
  exact ⟨r, _, rfl, h3, h4⟩
theorem smallSum {l : List Int} (h : ∀ x ∈ l, 0 ≤ x ∧ x < 268435456) : 0 ≤ l.sum ∧ l.sum ≤ 268435456 * (l.length : Int) := by
  induction l with
  | nil => simp
  | cons x l ih =>
    have h1 := ih fun w hw => h w (List.mem_cons_of_mem _ hw)
    have h2 := h x (by simp)
    simp only [List.sum_cons, List.length_cons]
    omega
theorem MutOk.v {l : List GMutual} (h : MutOk l) : VOk l := ⟨by have := h.len; omega, h.asc⟩
theorem MutOk.clm {l : List GMutual} (h : MutOk l) : ∀ x ∈ clms l, 0 ≤ x ∧ x < 268435456 := fun x hx => by
  obtain ⟨m, hm, rfl⟩ := List.mem_map.1 hx
  have h1 := okM_iff.1 (h.asc.ok m hm)
  have h2 := h.small m hm
  unfold Pl.clm
  omega
theorem MutOk.pys {l : List GMutual} (h : MutOk l) : ∀ x ∈ pyss l, 0 ≤ x ∧ x < 268435456 := fun x hx => by
  obtain ⟨m, hm, rfl⟩ := List.mem_map.1 hx
  have h1 := okM_iff.1 (h.asc.ok m hm)
  have h2 := h.small m hm
  unfold Pl.pys
  omega
theorem MutOk.dist {l : List GMutual} (h : MutOk l) {a : Int} (ha : 0 ≤ a ∧ a ≤ 536870912) : DistOk a l := by
  have h1 := smallSum h.clm
  have h2 := smallSum h.pys
  have h3 := h.len
  rw [clms_length] at h1
  rw [pyss_length] at h2
  exact ⟨h.v, by omega, by omega, by omega⟩
end Go.Proofs.Ytoodneljjhbfhaa.Pl
