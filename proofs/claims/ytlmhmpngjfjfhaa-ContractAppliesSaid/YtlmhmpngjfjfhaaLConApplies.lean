/- The law ContractApplies (plain). -/
import Derived.Test.YtlmhmpngjfjfhaaLTreM
namespace Go.Proofs.Ytlmhmpngjfjfhaa.Pl
open Go

/-- whether a valid treaty covers a loss -/
def coversB (t : GTreaty) (x : GLoss) : Bool :=
  decide (validE t = 0) && decide (t.Period.From ≤ x.Hour) && decide (x.Hour < t.Period.To) && (decide ((t.Perils.length : Int) = 0) || decide (x.Peril ∈ t.Perils)) && (decide ((t.Areas.length : Int) = 0) || decide (x.Area ∈ t.Areas)) && (!decide (t.Kind = 3) || decide (x.Risk = t.Risk))
theorem valid_period {t : GTreaty} (h : validE t = 0) : 0 ≤ t.Period.From ∧ t.Period.From < t.Period.To ∧ t.Period.To ≤ 876600 := by
  unfold validE at h
  by_cases h1 : 1 ≤ t.ID ∧ t.ID ≤ 1048576
  rotate_left
  · rw [if_pos h1] at h; omega
  rw [if_neg (not_not_intro h1)] at h
  by_cases h2 : 1 ≤ t.Kind ∧ t.Kind ≤ 6
  rotate_left
  · rw [if_pos h2] at h; omega
  rw [if_neg (not_not_intro h2)] at h
  by_cases h3 : 0 ≤ t.Period.From ∧ t.Period.From < t.Period.To ∧ t.Period.To ≤ 876600
  · exact h3
  · rw [if_pos h3] at h; omega
theorem holdsOr {f : List Int → Int → Option Bool} (hf : ∀ {l : List Int} {x : Int}, l.length ≤ 1000000000 → f l x = some (decide (x ∈ l))) {l : List Int} {x : Int} (hl : l.length ≤ 1000000000) :
    ((if (decide ((l.length : Int) = 0)) = true then (some true) else ((f l x).bind fun r1_20 => some r1_20)).bind fun q1_21 => some q1_21) = some (decide ((l.length : Int) = 0) || decide (x ∈ l)) := by
  rw [hf hl]
  cases decide ((l.length : Int) = 0) <;> rfl
theorem applies_eq {t : GTreaty} (h : TLen t) (x : GLoss) : contract_Applies t x = some (coversB t x) := by
  unfold contract_Applies coversB
  rw [validate_eq h, Option.bind_some, holdsOr (f := slices_Contains_s_int_int) contains_eq h.perils, holdsOr (f := slices_Contains_s_int_int) contains_eq h.areas]
  unfold calendar_Contains calendar_Valid
  by_cases hv : validE t = 0
  · have hp := valid_period hv
    have hc : (((decide (0 ≤ t.Period.From)) && (decide (t.Period.From < t.Period.To))) && (decide (t.Period.To ≤ 876600))) = true := by simp; omega
    simp only [hv, decide_true, if_true, Option.bind_some, hc, Bool.true_and]
    cases (decide (t.Period.From ≤ x.Hour) && decide (x.Hour < t.Period.To))
    · rfl
    · cases (decide ((t.Perils.length : Int) = 0) || decide (x.Peril ∈ t.Perils)) <;> rfl
  · have hv' : decide (validE t = 0) = false := by simpa using hv
    rw [hv']
    rfl
theorem rapplies_eq {t : GTreaty} (h : TLen t) (x : GLoss) : treatyref20_Applies t x = some (coversB t x) := by
  unfold treatyref20_Applies coversB
  rw [rvalidate_eq h, Option.bind_some, holdsOr (f := treatyref20_holds) holds_eq h.perils, holdsOr (f := treatyref20_holds) holds_eq h.areas]
  have er : decide (t.Risk = x.Risk) = decide (x.Risk = t.Risk) := by rw [Bool.eq_iff_iff]; simp [eq_comm]
  rw [er]
  cases ((decide (validE t = 0) && decide (t.Period.From ≤ x.Hour)) && decide (x.Hour < t.Period.To))
  · rfl
  · cases (decide ((t.Perils.length : Int) = 0) || decide (x.Peril ∈ t.Perils)) <;> rfl
theorem range2_ok {d : GDeck} (h : DOk d) {lo hi : Int} (h0 : -10 ≤ lo) (h1 : lo ≤ hi) (h2 : hi ≤ 1000) : ∃ v d', treatymade_Deck_Range d lo hi = some (v, d') ∧ lo ≤ v ∧ v ≤ hi ∧ DOk d' := by
  unfold treatymade_Deck_Range
  rw [w64_id (n := hi - lo) (by omega) (by omega), w64_id (n := hi - lo + 1) (by omega) (by omega)]
  obtain ⟨v, d', e, a, b, k⟩ := next_ok h (n := hi - lo + 1) (by omega) (by omega)
  rw [e, Option.bind_some]
  dsimp only
  rw [w64_id (by omega) (by omega)]
  exact ⟨_, _, rfl, by omega, by omega, k⟩
theorem made20_ok {l : List Int} (hl : l.length ≤ 9223372036854775807) : ∃ t d, treatylaw20_made l = some (t, d) ∧ DOk d ∧ ∃ id kind, TBase t id kind := by
  unfold treatylaw20_made
  obtain ⟨d, e1, h1⟩ := new_ok hl
  obtain ⟨v2, d2, e2, a2, b2, h2⟩ := range_ok h1 (lo := 1) (hi := 9) (by omega) (by omega) (by omega)
  obtain ⟨v3, d3, e3, a3, b3, h3⟩ := range_ok h2 (lo := 1) (hi := 6) (by omega) (by omega) (by omega)
  obtain ⟨t, d4, e4, h4, hb, hp⟩ := treaty_ok h3 (id := v2) (kind := v3) (by omega)
  rw [e1, Option.bind_some, e2, Option.bind_some]
  dsimp only
  rw [e3, Option.bind_some]
  dsimp only
  rw [e4, Option.bind_some]
  exact ⟨t, d4, rfl, h4, v2, v3, hb⟩
theorem loss_ok {d : GDeck} (h : DOk d) (id : Int) : ∃ x d', treatymade_Deck_Loss d id = some (x, d') ∧ DOk d' := by
  unfold treatymade_Deck_Loss
  obtain ⟨v1, d1, e1, _, _, h1⟩ := range_ok h (lo := 1) (hi := 3) (by omega) (by omega) (by omega)
  obtain ⟨v2, d2, e2, _, _, h2⟩ := range_ok h1 (lo := 1) (hi := 4) (by omega) (by omega) (by omega)
  obtain ⟨v3, d3, e3, _, _, h3⟩ := next_ok h2 (n := 130) (by omega) (by omega)
  obtain ⟨v4, d4, e4, _, _, h4⟩ := next_ok h3 (n := 4) (by omega) (by omega)
  obtain ⟨v5, d5, e5, _, _, h5⟩ := next_ok h4 (n := 4) (by omega) (by omega)
  obtain ⟨v6, d6, e6, _, _, h6⟩ := next_ok h5 (n := 4) (by omega) (by omega)
  obtain ⟨v7, d7, e7, _, _, h7⟩ := upto_ok h6 (n := 1073741824) (by omega) (by omega)
  obtain ⟨v8, d8, e8, a8, b8, h8⟩ := money_ok h7
  obtain ⟨v9, d9, e9, _, _, h9⟩ := next_ok h8 (n := v8 + 1) (by omega) (by omega)
  rw [e1, Option.bind_some]
  dsimp only
  rw [e2, Option.bind_some]
  dsimp only
  rw [e3, Option.bind_some]
  dsimp only
  rw [e4, Option.bind_some]
  dsimp only
  rw [e5, Option.bind_some]
  dsimp only
  rw [e6, Option.bind_some]
  dsimp only
  rw [e7, Option.bind_some]
  dsimp only
  rw [e8, Option.bind_some]
  dsimp only
  rw [w64_id (by omega) (by omega), e9, Option.bind_some]
  exact ⟨_, d9, rfl, h9⟩
theorem growR (t : GTreaty) (r : Int × GDeck) : ∀ (m : Nat) (k : Nat) (l : List Int), m + k = 10 → l.length + m ≤ 1000 → ∃ l', loopV (treatylaw20_spoilt_l97 t r) (l, (k : Int)) = some (r.2.L, r.2.At, t.ID, t.Kind, t.Period.To, t.Perils, t.Areas, t.Risk, t.Cession, t.Line, t.Lines, t.Retention, t.Limit, t.Window, t.Deductible, t.Aggregate, t.Premium, l', t.Timed, t.Base, t.Inures, t.Parts) := by
  intro m
  induction m with
  | zero =>
    intro k l hk hl
    have st : treatylaw20_spoilt_l97 t r (l, (k : Int)) = some (.inr (r.2.L, r.2.At, t.ID, t.Kind, t.Period.To, t.Perils, t.Areas, t.Risk, t.Cession, t.Line, t.Lines, t.Retention, t.Limit, t.Window, t.Deductible, t.Aggregate, t.Premium, l, t.Timed, t.Base, t.Inures, t.Parts)) := by
      unfold treatylaw20_spoilt_l97
      dsimp only
      rw [if_neg (by simp; omega)]
    exact ⟨l, loopV_stop st⟩
  | succ m ih =>
    intro k l hk hl
    have st : treatylaw20_spoilt_l97 t r (l, (k : Int)) = some (.inl (l ++ [1], ((k + 1 : Nat) : Int))) := by
      unfold treatylaw20_spoilt_l97
      dsimp only
      rw [if_pos (by simp; omega), chk_true (room_of (by omega)), chk_true (room_of (by simp; omega)), w64_id (by omega) (by omega)]
      rfl
    rw [loopV_next st]
    exact ih (k + 1) _ (by omega) (by simp; omega)
theorem growI (t : GTreaty) (r : Int × GDeck) : ∀ (m : Nat) (k : Nat) (l : List Int), m + k = 15 → l.length + m ≤ 1000 → ∃ l' : List Int, l'.length ≤ 1000 ∧ loopV (treatylaw20_spoilt_l113 t r) (l, (k : Int)) = some (r.2.L, r.2.At, t.ID, t.Kind, t.Period.To, t.Perils, t.Areas, t.Risk, t.Cession, t.Line, t.Lines, t.Retention, t.Limit, t.Window, t.Deductible, t.Aggregate, t.Premium, t.Reinstatements, t.Timed, t.Base, l', t.Parts) := by
  intro m
  induction m with
  | zero =>
    intro k l hk hl
    have st : treatylaw20_spoilt_l113 t r (l, (k : Int)) = some (.inr (r.2.L, r.2.At, t.ID, t.Kind, t.Period.To, t.Perils, t.Areas, t.Risk, t.Cession, t.Line, t.Lines, t.Retention, t.Limit, t.Window, t.Deductible, t.Aggregate, t.Premium, t.Reinstatements, t.Timed, t.Base, l, t.Parts)) := by
      unfold treatylaw20_spoilt_l113
      dsimp only
      rw [if_neg (by simp; omega)]
    exact ⟨l, by omega, loopV_stop st⟩
  | succ m ih =>
    intro k l hk hl
    have st : treatylaw20_spoilt_l113 t r (l, (k : Int)) = some (.inl (l ++ [w64 (10 + (k : Int))], ((k + 1 : Nat) : Int))) := by
      unfold treatylaw20_spoilt_l113
      dsimp only
      rw [if_pos (by simp; omega), chk_true (room_of (by omega)), chk_true (room_of (by simp; omega)), w64_id (n := (k : Int) + 1) (by omega) (by omega)]
      rfl
    rw [loopV_next st]
    exact ih (k + 1) _ (by omega) (by simp; omega)
/-- a treaty of short lists -/
structure TSm (t : GTreaty) : Prop where
  perils : t.Perils.length ≤ 100
  areas : t.Areas.length ≤ 100
  rein : t.Reinstatements.length ≤ 100
  inures : t.Inures.length ≤ 100
  parts : t.Parts.length ≤ 100
theorem spoilt_ok {t : GTreaty} (ht : TSm t) {d : GDeck} (h : DOk d) (n : Int) : ∃ u d', treatylaw20_spoilt t d n = some (u, d') ∧ TLen u := by
  have hp1 := ht.perils
  have hp2 := ht.areas
  have hp3 := ht.rein
  have hp4 := ht.inures
  have hp5 := ht.parts
  unfold treatylaw20_spoilt
  have hn : ∃ (v : Int) (d' : GDeck), ((treatymade_Deck_Next d 3).bind fun r1_1 =>
  if (decide (0 < r1_1.1)) = true then ((treatymade_Deck_Next r1_1.2 14).bind fun r2_2 =>
  chk (inb [0, (-1), 1, 1000000, 1000001, 1073741824, 1073741825, 100, 101, 8785, 1000000000, 1000000001, 1048576, 1048577] r2_2.1) <|
  some (r2_2.2.L, r2_2.2.At, (ix [0, (-1), 1, 1000000, 1000001, 1073741824, 1073741825, 100, 101, 8785, 1000000000, 1000000001, 1048576, 1048577] r2_2.1))) else (some (r1_1.2.L, r1_1.2.At, n))) = some (d'.L, d'.At, v) ∧ DOk d' := by
    obtain ⟨v, d1, e1, _, _, h1⟩ := next_ok h (n := 3) (by omega) (by omega)
    rw [e1, Option.bind_some]
    dsimp only
    by_cases c : 0 < v
    · obtain ⟨w, d2, e2, a2, b2, h2⟩ := next_ok h1 (n := 14) (by omega) (by omega)
      rw [if_pos (by simpa using c), e2, Option.bind_some, chk_true (inb_of a2 (by simpa using b2))]
      exact ⟨_, d2, rfl, h2⟩
    · rw [if_neg (by simpa using c)]
      exact ⟨n, d1, rfl, h1⟩
  obtain ⟨v, d1, e1, h1⟩ := hn
  rw [e1, Option.bind_some]
  dsimp only
  rw [show GDeck.mk d1.L d1.At = d1 from rfl]
  obtain ⟨k, d2, e2, a2, b2, h2⟩ := next_ok h1 (n := 22) (by omega) (by omega)
  rw [e2, Option.bind_some]
  dsimp only
  obtain ⟨r1, g1, q1, _, _, _⟩ := range2_ok h2 (lo := 0) (hi := 7) (by omega) (by omega) (by omega)
  obtain ⟨r2, g2, q2, _, _, _⟩ := range2_ok h2 (lo := -1) (hi := 16) (by omega) (by omega) (by omega)
  obtain ⟨r3, g3, q3, _, _, j3⟩ := range2_ok h2 (lo := -1) (hi := 2) (by omega) (by omega) (by omega)
  obtain ⟨r4, g4, q4, _, _, _⟩ := next_ok j3 (n := 2) (by omega) (by omega)
  obtain ⟨r5, g5, q5, i5, j5, _⟩ := next_ok h2 (n := 6) (by omega) (by omega)
  obtain ⟨l6, q6⟩ := growR t (k, d2) 10 0 t.Reinstatements (by omega) (by omega)
  obtain ⟨l7, b7, q7⟩ := growI t (k, d2) 14 1 t.Inures (by omega) (by omega)
  have q6' : loopV (treatylaw20_spoilt_l97 t (k, d2)) (t.Reinstatements, 0) = _ := q6
  have q7' : loopV (treatylaw20_spoilt_l113 t (k, d2)) (t.Inures, 1) = _ := q7
  have c1 : room t.Perils.length = true := room_of (by omega)
  have c2 : room t.Areas.length = true := room_of (by omega)
  have c3 : room t.Reinstatements.length = true := room_of (by omega)
  have c4 : room t.Inures.length = true := room_of (by omega)
  have c5 : room t.Parts.length = true := room_of (by omega)
  have x1 : ∀ v : Int, room (t.Perils ++ [v]).length = true := fun v => room_of (by simp; omega)
  have x2 : ∀ v : Int, room (t.Areas ++ [v]).length = true := fun v => room_of (by simp; omega)
  have x3 : ∀ v : Int, room (t.Reinstatements ++ [v]).length = true := fun v => room_of (by simp; omega)
  have x4 : ∀ v : Int, room (t.Inures ++ [v]).length = true := fun v => room_of (by simp; omega)
  have x5 : ∀ v : GPart, room (t.Parts ++ [v]).length = true := fun v => room_of (by simp; omega)
  have y5 : inb [0, t.ID, 5, 7, 7, 1048577] r5 = true := inb_of i5 (by simpa using j5)
  rcases (show k = 0 ∨ k = 1 ∨ k = 2 ∨ k = 3 ∨ k = 4 ∨ k = 5 ∨ k = 6 ∨ k = 7 ∨ k = 8 ∨ k = 9 ∨ k = 10 ∨ k = 11 ∨ k = 12 ∨ k = 13 ∨ k = 14 ∨ k = 15 ∨ k = 16 ∨ k = 17 ∨ k = 18 ∨ k = 19 ∨ k = 20 ∨ k = 21 by omega) with hk | hk | hk | hk | hk | hk | hk | hk | hk | hk | hk | hk | hk | hk | hk | hk | hk | hk | hk | hk | hk | hk <;> subst hk <;> simp only [Int.reduceEq, decide_false, decide_true, Bool.false_eq_true, if_false, if_true, Option.bind_some, q1, q2, q3, q4, q5, q6', q7', chk_true c1, chk_true c2, chk_true c3, chk_true c4, chk_true c5, chk_true (x1 _), chk_true (x2 _), chk_true (x3 _), chk_true (x4 _), chk_true (x5 _), chk_true y5] <;> refine ⟨_, _, rfl, ⟨?_, ?_, ?_⟩⟩ <;> simp <;> omega
theorem treatylaw20_ContractApplies_law (t : GTreaty) (x : GLoss) (d how : List Int) (n : Int) (hd : d.length ≤ 9223372036854775807) (hh : how.length ≤ 9223372036854775807) : treatylaw20_ContractApplies t x d how n = some true := by
  unfold treatylaw20_ContractApplies
  rw [conAwake_ok]
  by_cases hc : (((((decide (60 < (t.Perils.length : Int))) || (decide (60 < (t.Areas.length : Int)))) || (decide (60 < (t.Reinstatements.length : Int)))) || (decide (60 < (t.Inures.length : Int)))) || (decide (60 < (t.Parts.length : Int)))) = true
  · rw [if_pos hc]
    rfl
  rw [if_neg hc]
  simp only [Bool.or_eq_true, decide_eq_true_eq] at hc
  have hl : TLen t := ⟨by omega, by omega, by omega⟩
  obtain ⟨y, d1, e1, h1, id, kind, hb⟩ := made20_ok hd
  obtain ⟨z, d2, e2, h2⟩ := loss_ok h1 1
  obtain ⟨d3, e3, h3⟩ := new_ok hh
  have hsm : TSm y := ⟨by have := hb.perils.1; omega, by have := hb.areas.1; omega, by have := hb.rein.1; omega, by rw [hb.inu]; simp, by have := hb.parts.1; omega⟩
  obtain ⟨u, d4, e4, hu⟩ := spoilt_ok hsm h3 n
  rw [e1, Option.bind_some]
  dsimp only
  rw [e2, Option.bind_some, e3, Option.bind_some, e4, Option.bind_some, Option.bind_some]
  dsimp only
  rw [applies_eq hl, rapplies_eq hl, applies_eq hb.len, rapplies_eq hb.len, applies_eq hb.len, rapplies_eq hb.len]
  have eu : GTreaty.mk u.ID u.Kind (GPeriod.mk u.Period.From u.Period.To) u.Perils u.Areas u.Risk u.Cession u.Line u.Lines u.Retention u.Limit u.Window u.Deductible u.Aggregate u.Premium u.Reinstatements u.Timed u.Base u.Inures u.Parts = u := rfl
  rw [eu, applies_eq hu, rapplies_eq hu]
  simp
end Go.Proofs.Ytlmhmpngjfjfhaa.Pl
