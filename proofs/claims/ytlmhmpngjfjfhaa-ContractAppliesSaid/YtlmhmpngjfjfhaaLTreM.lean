/- The treaties that the laws make (plain): they are valid. -/
import Derived.Test.YtlmhmpngjfjfhaaLTre
namespace Go.Proofs.Ytlmhmpngjfjfhaa.Pl
open Go

theorem range_ok {d : GDeck} (h : DOk d) {lo hi : Int} (h0 : 0 ≤ lo) (h1 : lo ≤ hi) (h2 : hi ≤ 1000000000000) : ∃ v d', treatymade_Deck_Range d lo hi = some (v, d') ∧ lo ≤ v ∧ v ≤ hi ∧ DOk d' := by
  unfold treatymade_Deck_Range
  rw [w64_id (n := hi - lo) (by omega) (by omega), w64_id (n := hi - lo + 1) (by omega) (by omega)]
  obtain ⟨v, d', e, a, b, k⟩ := next_ok h (n := hi - lo + 1) (by omega) (by omega)
  rw [e, Option.bind_some]
  dsimp only
  rw [w64_id (by omega) (by omega)]
  exact ⟨_, _, rfl, by omega, by omega, k⟩
theorem money_ok {d : GDeck} (h : DOk d) : ∃ v d', treatymade_Deck_Money d = some (v, d') ∧ 0 ≤ v ∧ v ≤ 1073741824 ∧ DOk d' := by
  unfold treatymade_Deck_Money
  obtain ⟨v, d', e, a, b, k⟩ := upto_ok h (n := 1073741824) (by omega) (by omega)
  rw [e, Option.bind_some]
  exact ⟨_, _, rfl, a, b, k⟩
/-- numbers in ascending order -/
def AscI (lo hi : Int) : Option Int → List Int → Prop
  | _, [] => True
  | q, x :: t => (lo ≤ x ∧ x ≤ hi) ∧ (∀ y, q = some y → y < x) ∧ AscI lo hi (some x) t
theorem scanA_ok {lo hi : Int} : ∀ {l : List Int} {q : Option Int}, AscI lo hi q l → scanA lo hi q l = 0
  | [], _, _ => rfl
  | x :: t, q, ⟨h1, h2, h3⟩ => by
    unfold scanA
    rw [if_neg (not_not_intro h1), if_neg, scanA_ok h3]
    cases q with
    | none => simp [behind]
    | some y =>
      have := h2 y rfl
      simp [behind]
      omega
theorem AscI.snoc {lo hi : Int} : ∀ {l : List Int} {q : Option Int} {p : Int}, AscI lo hi q l → (lo ≤ p ∧ p ≤ hi) → (∀ x, q = some x → x < p) → (∀ x ∈ l, x < p) → AscI lo hi q (l ++ [p])
  | [], q, p, _, hp, hq, _ => ⟨hp, hq, trivial⟩
  | x :: t, q, p, ⟨h1, h2, h3⟩, hp, _, hl => ⟨h1, h2, AscI.snoc h3 hp (fun y hy => by cases hy; exact hl x (by simp)) (fun y hy => hl y (List.mem_cons_of_mem _ hy))⟩
theorem subset_ok {d : GDeck} (h : DOk d) : ∃ l d', treatymade_Deck_subset d 0 2 = some (l, d') ∧ DOk d' ∧ l.length ≤ 3 ∧ AscI 0 15 none l := by
  unfold treatymade_Deck_subset
  obtain ⟨v, d1, e1, a1, b1, h1⟩ := next_ok h (n := 2) (by omega) (by omega)
  rw [e1, Option.bind_some]
  dsimp only
  by_cases hv : v = 0
  · rw [if_pos (by simpa using hv)]
    exact ⟨_, _, rfl, h1, by simp, trivial⟩
  rw [if_neg (by simpa using hv)]
  have main : ∀ (m : Nat) (k : Nat) (d : GDeck) (l : List Int), m + k = 3 → DOk d → l.length ≤ k → AscI 0 15 none l → (∀ x ∈ l, x < (k : Int)) → ∃ d' l', loopV (treatymade_Deck_subset_l14 2) (d.L, d.At, l, (k : Int)) = some (d'.L, d'.At, l') ∧ DOk d' ∧ l'.length ≤ 3 ∧ AscI 0 15 none l' := by
    intro m
    induction m with
    | zero =>
      intro k d l hk hd hl ha hb
      have st : treatymade_Deck_subset_l14 2 (d.L, d.At, l, (k : Int)) = some (.inr (d.L, d.At, l)) := by
        unfold treatymade_Deck_subset_l14
        dsimp only
        rw [if_neg (by simp; omega)]
      exact ⟨d, l, loopV_stop st, hd, by omega, ha⟩
    | succ m ih =>
      intro k d l hk hd hl ha hb
      obtain ⟨w, d2, e2, a2, b2, h2⟩ := next_ok hd (n := 3) (by omega) (by omega)
      by_cases hw : 0 < w
      · have st : treatymade_Deck_subset_l14 2 (d.L, d.At, l, (k : Int)) = some (.inl (d2.L, d2.At, l ++ [(k : Int)], ((k + 1 : Nat) : Int))) := by
          unfold treatymade_Deck_subset_l14
          dsimp only
          rw [if_pos (by simp; omega), show GDeck.mk d.L d.At = d from rfl, e2, Option.bind_some]
          dsimp only
          rw [if_pos (by simpa using hw), chk_true (room_of (by simp; omega)), Option.bind_some, w64_id (by omega) (by omega)]
          rfl
        rw [loopV_next st]
        refine ih (k + 1) d2 _ (by omega) h2 (by simp; omega) (ha.snoc ⟨by omega, by omega⟩ (fun x hx => by cases hx) hb) (fun x hx => ?_)
        rcases List.mem_append.1 hx with hx | hx
        · have := hb x hx; omega
        · simp at hx; omega
      · have st : treatymade_Deck_subset_l14 2 (d.L, d.At, l, (k : Int)) = some (.inl (d2.L, d2.At, l, ((k + 1 : Nat) : Int))) := by
          unfold treatymade_Deck_subset_l14
          dsimp only
          rw [if_pos (by simp; omega), show GDeck.mk d.L d.At = d from rfl, e2, Option.bind_some]
          dsimp only
          rw [if_neg (by simpa using hw), Option.bind_some, w64_id (by omega) (by omega)]
          rfl
        rw [loopV_next st]
        exact ih (k + 1) d2 l (by omega) h2 (by omega) ha (fun x hx => by have := hb x hx; omega)
  obtain ⟨d', l', e, hd', hl', ha'⟩ := main 3 0 d1 [] (by omega) h1 (by simp) trivial (by simp)
  have e' : loopV (treatymade_Deck_subset_l14 2) (d1.L, d1.At, [], 0) = some (d'.L, d'.At, l') := e
  rw [e', Option.bind_some]
  exact ⟨_, _, rfl, hd', hl', ha'⟩
/-- what all made treaties have -/
structure TBase (t : GTreaty) (id kind : Int) : Prop where
  hid : t.ID = id
  hkind : t.Kind = kind
  per : 0 ≤ t.Period.From ∧ t.Period.From < t.Period.To ∧ t.Period.To ≤ 876600
  perils : t.Perils.length ≤ 3 ∧ AscI 0 15 none t.Perils
  areas : t.Areas.length ≤ 3 ∧ AscI 0 15 none t.Areas
  prem : 0 ≤ t.Premium ∧ t.Premium ≤ 1073741824
  inu : t.Inures = []
  rein : t.Reinstatements.length ≤ 3 ∧ ∀ x ∈ t.Reinstatements, 0 ≤ x ∧ x ≤ 2000000
  parts : t.Parts.length ≤ 4 ∧ Asc none t.Parts ∧ (shs t.Parts).sum ≤ 1000000
theorem TBase.len {t : GTreaty} {id kind : Int} (h : TBase t id kind) : TLen t := ⟨by have := h.perils.1; omega, by have := h.areas.1; omega, by rw [h.inu]; simp⟩
/-- the fields of a proportional treaty -/
def PropF (t : GTreaty) : Prop :=
  t.Reinstatements = [] ∧ t.Timed = false ∧ t.Retention = 0 ∧ t.Window = 0 ∧ t.Deductible = 0 ∧ t.Aggregate = 0 ∧ t.Base = 0 ∧
  ((t.Kind = 1 ∧ t.Risk = 0 ∧ (1 ≤ t.Cession ∧ t.Cession ≤ 1000000) ∧ t.Line = 0 ∧ t.Lines = 0 ∧ (0 ≤ t.Limit ∧ t.Limit ≤ 1073741824)) ∨
   (t.Kind = 2 ∧ t.Risk = 0 ∧ t.Cession = 0 ∧ (1 ≤ t.Line ∧ t.Line ≤ 1073741824) ∧ (1 ≤ t.Lines ∧ t.Lines ≤ 9) ∧ t.Limit = 0) ∨
   (t.Kind = 3 ∧ (1 ≤ t.Risk ∧ t.Risk ≤ 4) ∧ (1 ≤ t.Cession ∧ t.Cession ≤ 1000000) ∧ t.Line = 0 ∧ t.Lines = 0 ∧ t.Limit = 0))
theorem propF_fields {t : GTreaty} (h : PropF t) (hp : 0 ≤ t.Premium ∧ t.Premium ≤ 1073741824) : fieldsE t = 0 := by
  obtain ⟨h1, h2, h3, h4, h5, h6, h7, h8⟩ := h
  unfold fieldsE restored alien wide
  rw [h1, h2]
  rcases h8 with ⟨k, r, c, l, ls, li⟩ | ⟨k, r, c, l, ls, li⟩ | ⟨k, r, c, l, ls, li⟩ <;> rw [k] <;> simp [List.range, List.range.loop, ix, vals, ruleL, non, mon, pos, *] <;> omega
theorem made_valid {t : GTreaty} {id kind : Int} (hi : 1 ≤ id ∧ id ≤ 9) (h : TBase t id kind) (hk : 1 ≤ kind ∧ kind ≤ 6) (hf : fieldsE t = 0) : validE t = 0 := by
  unfold validE
  have hr := h.rein
  rw [h.hid, h.hkind, if_neg (not_not_intro (by omega)), if_neg (not_not_intro hk), if_neg (not_not_intro h.per), if_neg (not_not_intro (scanA_ok h.perils.2)), if_neg (not_not_intro (scanA_ok h.areas.2)), if_neg (not_not_intro hf), if_neg (by omega), if_neg, h.inu, if_neg (by simp), if_neg (by simp [scanA]), if_neg (by simp), POk.parts ⟨by have := h.parts.1; omega, h.parts.2.1⟩, if_neg (by have := h.parts.2.2; omega)]
  intro hc
  obtain ⟨k, hk1, hk2⟩ := List.any_eq_true.1 hc
  have hk3 := List.mem_range.1 hk1
  unfold badR at hk2
  rw [ix_nat hk3] at hk2
  have := hr.2 _ (List.getElem_mem hk3)
  simp at hk2
  omega
theorem treaty_ok {d : GDeck} (h : DOk d) {id kind : Int} (hk : 1 ≤ kind ∧ kind ≤ 6) : ∃ t d', treatymade_Deck_Treaty d id kind = some (t, d') ∧ DOk d' ∧ TBase t id kind ∧ (kind ≤ 3 → PropF t) := by
  unfold treatymade_Deck_Treaty
  obtain ⟨v1, d1, e1, a1, b1, h1⟩ := next_ok h (n := 10) (by omega) (by omega)
  obtain ⟨v2, d2, e2, a2, b2, h2⟩ := next_ok h1 (n := 60) (by omega) (by omega)
  obtain ⟨l3, d3, e3, h3, a3, b3⟩ := subset_ok h2
  obtain ⟨l4, d4, e4, h4, a4, b4⟩ := subset_ok h3
  obtain ⟨v5, d5, e5, a5, b5, h5⟩ := money_ok h4
  obtain ⟨p6, d6, e6, h6, a6, b6, c6⟩ := partsMade_ok h5
  rw [e1, Option.bind_some]
  dsimp only
  rw [e2, Option.bind_some]
  dsimp only
  rw [e3, Option.bind_some]
  dsimp only
  rw [e4, Option.bind_some]
  dsimp only
  rw [e5, Option.bind_some]
  dsimp only
  rw [e6, Option.bind_some]
  dsimp only
  have ew : w64 (60 + v2) = 60 + v2 := w64_id (by omega) (by omega)
  by_cases k1 : kind = 1
  · subst k1
    obtain ⟨v7, d7, e7, a7, b7, h7⟩ := upto_ok h6 (n := 999999) (by omega) (by omega)
    obtain ⟨v8, d8, e8, a8, b8, h8⟩ := next_ok h7 (n := 2) (by omega) (by omega)
    rw [if_pos (by simp), e7, Option.bind_some]
    dsimp only
    rw [e8, Option.bind_some]
    dsimp only
    have ec : w64 (1 + v7) = 1 + v7 := w64_id (by omega) (by omega)
    by_cases c8 : v8 = 1
    · obtain ⟨v9, d9, e9, a9, b9, h9⟩ := money_ok h8
      rw [if_pos (by simpa using c8), e9, Option.bind_some, Option.bind_some]
      dsimp only
      rw [if_neg (by decide), Option.bind_some]
      dsimp only
      rw [if_neg (by decide), Option.bind_some]
      dsimp only
      rw [if_neg (by decide), Option.bind_some]
      dsimp only
      rw [if_neg (by decide), Option.bind_some, ew, ec]
      refine ⟨_, d9, rfl, h9, ⟨rfl, rfl, ⟨by dsimp only; omega, by dsimp only; omega, by dsimp only; omega⟩, ⟨a3, b3⟩, ⟨a4, b4⟩, ⟨a5, b5⟩, rfl, ⟨by simp, by simp⟩, ⟨a6, b6, c6⟩⟩, fun _ => ?_⟩
      simp [PropF]
      omega
    · rw [if_neg (by simpa using c8), Option.bind_some]
      dsimp only
      rw [if_neg (by decide), Option.bind_some]
      dsimp only
      rw [if_neg (by decide), Option.bind_some]
      dsimp only
      rw [if_neg (by decide), Option.bind_some]
      dsimp only
      rw [if_neg (by decide), Option.bind_some, ew, ec]
      refine ⟨_, d8, rfl, h8, ⟨rfl, rfl, ⟨by dsimp only; omega, by dsimp only; omega, by dsimp only; omega⟩, ⟨a3, b3⟩, ⟨a4, b4⟩, ⟨a5, b5⟩, rfl, ⟨by simp, by simp⟩, ⟨a6, b6, c6⟩⟩, fun _ => ?_⟩
      simp [PropF]
      omega
  by_cases k2 : kind = 2
  · subst k2
    obtain ⟨v7, d7, e7, a7, b7, h7⟩ := upto_ok h6 (n := 1073741823) (by omega) (by omega)
    obtain ⟨v8, d8, e8, a8, b8, h8⟩ := range_ok h7 (lo := 1) (hi := 9) (by omega) (by omega) (by omega)
    rw [if_neg (by simp), if_pos (by simp), e7, Option.bind_some]
    dsimp only
    rw [e8, Option.bind_some, Option.bind_some]
    have ec : w64 (1 + v7) = 1 + v7 := w64_id (by omega) (by omega)
    dsimp only
    rw [if_neg (by decide), Option.bind_some]
    dsimp only
    rw [if_neg (by decide), Option.bind_some]
    dsimp only
    rw [if_neg (by decide), Option.bind_some]
    dsimp only
    rw [if_neg (by decide), Option.bind_some, ew, ec]
    refine ⟨_, d8, rfl, h8, ⟨rfl, rfl, ⟨by dsimp only; omega, by dsimp only; omega, by dsimp only; omega⟩, ⟨a3, b3⟩, ⟨a4, b4⟩, ⟨a5, b5⟩, rfl, ⟨by simp, by simp⟩, ⟨a6, b6, c6⟩⟩, fun _ => ?_⟩
    simp [PropF]
    omega
  by_cases k3 : kind = 3
  · subst k3
    obtain ⟨v7, d7, e7, a7, b7, h7⟩ := range_ok h6 (lo := 1) (hi := 4) (by omega) (by omega) (by omega)
    obtain ⟨v8, d8, e8, a8, b8, h8⟩ := upto_ok h7 (n := 999999) (by omega) (by omega)
    rw [if_neg (by simp), if_neg (by simp), if_pos (by simp), e7, Option.bind_some]
    dsimp only
    rw [e8, Option.bind_some, Option.bind_some]
    have ec : w64 (1 + v8) = 1 + v8 := w64_id (by omega) (by omega)
    dsimp only
    rw [if_neg (by decide), Option.bind_some]
    dsimp only
    rw [if_neg (by decide), Option.bind_some]
    dsimp only
    rw [if_neg (by decide), Option.bind_some]
    dsimp only
    rw [if_neg (by decide), Option.bind_some, ew, ec]
    refine ⟨_, d8, rfl, h8, ⟨rfl, rfl, ⟨by dsimp only; omega, by dsimp only; omega, by dsimp only; omega⟩, ⟨a3, b3⟩, ⟨a4, b4⟩, ⟨a5, b5⟩, rfl, ⟨by simp, by simp⟩, ⟨a6, b6, c6⟩⟩, fun _ => ?_⟩
    simp [PropF]
    omega
  obtain ⟨v7, d7, e7, a7, b7, h7⟩ := upto_ok h6 (n := 1073741824) (by omega) (by omega)
  obtain ⟨v8, d8, e8, a8, b8, h8⟩ := upto_ok h7 (n := 1073741823) (by omega) (by omega)
  rw [if_neg (by simpa using k1), if_neg (by simpa using k2), if_neg (by simpa using k3), e7, Option.bind_some]
  dsimp only
  rw [e8, Option.bind_some, Option.bind_some]
  dsimp only
  have opt : ∀ {d : GDeck}, DOk d → ∃ (x : Int) (d' : GDeck), ((treatymade_Deck_Next (GDeck.mk d.L d.At) 2).bind fun r13_1 => if (decide (r13_1.1 = 1)) = true then ((treatymade_Deck_Money r13_1.2).bind fun r14_1 => some (r14_1.2.L, r14_1.2.At, r14_1.1)) else (some (r13_1.2.L, r13_1.2.At, 0))) = some (d'.L, d'.At, x) ∧ DOk d' := by
    intro d hd
    obtain ⟨v, d', e, a, b, k⟩ := next_ok hd (n := 2) (by omega) (by omega)
    rw [show GDeck.mk d.L d.At = d from rfl, e, Option.bind_some]
    dsimp only
    by_cases c : v = 1
    · obtain ⟨x, d2, e2, _, _, k2⟩ := money_ok k
      rw [if_pos (by simpa using c), e2]
      exact ⟨x, d2, rfl, k2⟩
    · rw [if_neg (by simpa using c)]
      exact ⟨0, d', rfl, k⟩
  have hmid : ∃ (x y : Int) (r : List Int) (b : Bool) (d' : GDeck), (if ((decide (kind = 4)) || (decide (kind = 5))) = true then (((treatymade_Deck_Next (GDeck.mk d8.L d8.At) 2).bind fun r13_1 =>
  if (decide (r13_1.1 = 1)) = true then ((treatymade_Deck_Money r13_1.2).bind fun r14_1 =>
  some (r14_1.2.L, r14_1.2.At, r14_1.1)) else (some (r13_1.2.L, r13_1.2.At, 0))).bind fun s30 =>
  ((treatymade_Deck_Next (GDeck.mk s30.1 s30.2.1) 2).bind fun r15_1 =>
  if (decide (r15_1.1 = 1)) = true then ((treatymade_Deck_Money r15_1.2).bind fun r16_1 =>
  some (r16_1.2.L, r16_1.2.At, r16_1.1)) else (some (r15_1.2.L, r15_1.2.At, 0))).bind fun s35 =>
  ((treatymade_Deck_Next (GDeck.mk s35.1 s35.2.1) 4).bind fun r17_1 =>
  loopV treatymade_Deck_Treaty_l44 (r17_1.2.L, r17_1.2.At, [], r17_1.1)).bind fun s40 =>
  if (decide (0 < (s40.2.2.length : Int))) = true then ((treatymade_Deck_Next (GDeck.mk s40.1 s40.2.1) 2).bind fun r21_6 =>
  some (r21_6.2.L, r21_6.2.At, s30.2.2, s35.2.2, s40.2.2, (decide (r21_6.1 = 1)))) else (some (s40.1, s40.2.1, s30.2.2, s35.2.2, s40.2.2, false))) else (some (d8.L, d8.At, 0, 0, [], false))) = some (d'.L, d'.At, x, y, r, b) ∧ DOk d' ∧ r.length ≤ 3 ∧ ∀ z ∈ r, 0 ≤ z ∧ z ≤ 2000000 := by
    by_cases hc : ((decide (kind = 4)) || (decide (kind = 5))) = true
    · rw [if_pos hc]
      obtain ⟨x, dx, ex, hx⟩ := opt h8
      rw [ex, Option.bind_some]
      dsimp only
      obtain ⟨y, dy, ey, hy⟩ := opt hx
      rw [ey, Option.bind_some]
      dsimp only
      rw [show GDeck.mk dy.L dy.At = dy from rfl]
      obtain ⟨v, dv, ev, av, bv, hv⟩ := next_ok hy (n := 4) (by omega) (by omega)
      rw [ev, Option.bind_some]
      dsimp only
      have hloop : ∀ (m : Nat) (d : GDeck) (l : List Int), DOk d → l.length + m ≤ 3 → (∀ z ∈ l, 0 ≤ z ∧ z ≤ 2000000) → ∃ d' l', loopV treatymade_Deck_Treaty_l44 (d.L, d.At, l, (m : Int)) = some (d'.L, d'.At, l') ∧ DOk d' ∧ l'.length ≤ 3 ∧ ∀ z ∈ l', 0 ≤ z ∧ z ≤ 2000000 := by
        intro m
        induction m with
        | zero =>
          intro d l hd hl hz
          have st : treatymade_Deck_Treaty_l44 (d.L, d.At, l, ((0 : Nat) : Int)) = some (.inr (d.L, d.At, l)) := by
            unfold treatymade_Deck_Treaty_l44
            dsimp only
            rw [if_neg (by simp)]
          exact ⟨d, l, loopV_stop st, hd, by omega, hz⟩
        | succ m ih =>
          intro d l hd hl hz
          obtain ⟨w, d2, e2, a2, b2, h2⟩ := upto_ok hd (n := 2000000) (by omega) (by omega)
          have st : treatymade_Deck_Treaty_l44 (d.L, d.At, l, ((m + 1 : Nat) : Int)) = some (.inl (d2.L, d2.At, l ++ [w], (m : Int))) := by
            unfold treatymade_Deck_Treaty_l44
            dsimp only
            rw [if_pos (by simp), show GDeck.mk d.L d.At = d from rfl, e2, Option.bind_some, chk_true (room_of (by simp; omega)), w64_id (by omega) (by omega)]
            simp
          rw [loopV_next st]
          refine ih d2 _ h2 (by simp; omega) (fun z hz' => ?_)
          rcases List.mem_append.1 hz' with hz' | hz'
          · exact hz z hz'
          · simp at hz'; omega
      obtain ⟨dl, l, el, hdl, hl1, hl2⟩ := hloop v.toNat dv [] hv (by simp; omega) (by simp)
      have ev2 : ((v.toNat : Nat) : Int) = v := by omega
      rw [ev2] at el
      rw [el, Option.bind_some]
      dsimp only
      by_cases hl0 : 0 < (l.length : Int)
      · obtain ⟨u, du, eu, _, _, hu⟩ := next_ok hdl (n := 2) (by omega) (by omega)
        rw [if_pos (by simpa using hl0), show GDeck.mk dl.L dl.At = dl from rfl, eu, Option.bind_some]
        exact ⟨_, _, _, _, du, rfl, hu, hl1, hl2⟩
      · rw [if_neg (by simpa using hl0)]
        exact ⟨_, _, _, _, dl, rfl, hdl, hl1, hl2⟩
    · rw [if_neg hc]
      exact ⟨_, _, _, _, d8, rfl, h8, by simp, by simp⟩
  obtain ⟨x, y, r, b, dm, em, hm, hr1, hr2⟩ := hmid
  rw [em, Option.bind_some]
  dsimp only
  have hbase : ∃ (x : Int) (d' : GDeck), ((if (decide (kind = 4)) = true then ((treatymade_Deck_Next (GDeck.mk dm.L dm.At) 2).bind fun r22_4 =>
  some (r22_4.2.L, r22_4.2.At, (decide (r22_4.1 = 1)))) else (some (dm.L, dm.At, false))).bind fun s56 =>
  if s56.2.2 = true then ((treatymade_Deck_Upto (GDeck.mk s56.1 s56.2.1) 1000).bind fun r23_1 =>
  some (r23_1.2.L, r23_1.2.At, (w64 (1 + r23_1.1)))) else (some (s56.1, s56.2.1, 0))) = some (d'.L, d'.At, x) ∧ DOk d' := by
    by_cases hc : kind = 4
    · rw [if_pos (by simpa using hc), show GDeck.mk dm.L dm.At = dm from rfl]
      obtain ⟨v, dv, ev, av, bv, hv⟩ := next_ok hm (n := 2) (by omega) (by omega)
      rw [ev, Option.bind_some, Option.bind_some]
      dsimp only
      by_cases c : v = 1
      · rw [if_pos (by simpa using c), show GDeck.mk dv.L dv.At = dv from rfl]
        obtain ⟨w, dw, ew, _, _, hw⟩ := upto_ok hv (n := 1000) (by omega) (by omega)
        rw [ew, Option.bind_some]
        exact ⟨_, dw, rfl, hw⟩
      · rw [if_neg (by simpa using c)]
        exact ⟨_, dv, rfl, hv⟩
    · rw [if_neg (by simpa using hc), Option.bind_some]
      exact ⟨0, dm, rfl, hm⟩
  obtain ⟨z, db, eb, hb⟩ := hbase
  rw [eb, Option.bind_some]
  dsimp only
  have hwin : ∃ (x : Int) (d' : GDeck), (if (decide (kind = 5)) = true then ((treatymade_Deck_Range (GDeck.mk db.L db.At) 1 30).bind fun r25_1 =>
  some (r25_1.2.L, r25_1.2.At, r25_1.1)) else (some (db.L, db.At, 0))) = some (d'.L, d'.At, x) ∧ DOk d' := by
    by_cases hc : kind = 5
    · rw [if_pos (by simpa using hc), show GDeck.mk db.L db.At = db from rfl]
      obtain ⟨v, dv, ev, _, _, hv⟩ := range_ok hb (lo := 1) (hi := 30) (by omega) (by omega) (by omega)
      rw [ev]
      exact ⟨_, dv, rfl, hv⟩
    · rw [if_neg (by simpa using hc)]
      exact ⟨0, db, rfl, hb⟩
  obtain ⟨u, du, eu, hu⟩ := hwin
  rw [eu, Option.bind_some, ew]
  refine ⟨_, du, rfl, hu, ⟨rfl, rfl, ⟨by dsimp only; omega, by dsimp only; omega, by dsimp only; omega⟩, ⟨a3, b3⟩, ⟨a4, b4⟩, ⟨a5, b5⟩, rfl, ⟨hr1, hr2⟩, ⟨a6, b6, c6⟩⟩, fun h => ?_⟩
  omega
end Go.Proofs.Ytlmhmpngjfjfhaa.Pl
