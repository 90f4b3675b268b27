/- proportional (plain): weights, cessions and premiums, by the program and by the document. -/
import Derived.Test.YtlmhmpngjfjfhaaLTreM
import Derived.Test.YtlmhmpngjfjfhaaLConAdds
namespace Go.Proofs.Ytlmhmpngjfjfhaa.Pl
open Go

theorem valid_fields {t : GTreaty} (h : validE t = 0) : (1 ≤ t.Kind ∧ t.Kind ≤ 6) ∧ fieldsE t = 0 := by
  unfold validE at h
  by_cases h1 : 1 ≤ t.ID ∧ t.ID ≤ 1048576
  rotate_left
  · rw [if_pos h1] at h; omega
  rw [if_neg (not_not_intro h1)] at h
  by_cases h2 : 1 ≤ t.Kind ∧ t.Kind ≤ 6
  rotate_left
  · rw [if_pos h2] at h; omega
  rw [if_neg (not_not_intro h2)] at h
  by_cases h3 : 0 ≤ t.Period.From ∧ t.Period.From < t.Period.To ∧ t.Period.To ≤ 876600
  rotate_left
  · rw [if_pos h3] at h; omega
  rw [if_neg (not_not_intro h3)] at h
  by_cases h4 : scanA 0 15 none t.Perils = 0
  rotate_left
  · rw [if_pos h4] at h; exact absurd h h4
  rw [if_neg (not_not_intro h4)] at h
  by_cases h5 : scanA 0 15 none t.Areas = 0
  rotate_left
  · rw [if_pos h5] at h; exact absurd h h5
  rw [if_neg (not_not_intro h5)] at h
  by_cases h6 : fieldsE t = 0
  · exact ⟨h2, h6⟩
  · rw [if_pos h6] at h; exact absurd h h6
theorem fields_wide {t : GTreaty} (h : fieldsE t = 0) : ∀ k < 11, wide t (ruleL t.Kind) k = false := by
  intro k hk
  unfold fieldsE at h
  split at h
  · omega
  · split at h
    · omega
    · split at h
      · omega
      · rename_i h3
        refine Bool.eq_false_iff.2 fun hc => h3 ?_
        exact List.any_eq_true.2 ⟨k, List.mem_range.2 hk, hc⟩
/-- the numbers of a valid proportional treaty -/
structure Nums (t : GTreaty) : Prop where
  ces : t.Kind = 1 ∨ t.Kind = 3 → 1 ≤ t.Cession ∧ t.Cession ≤ 1000000
  line : t.Kind = 2 → (1 ≤ t.Line ∧ t.Line ≤ 1073741824) ∧ 1 ≤ t.Lines ∧ t.Lines ≤ 100
  lim : t.Kind = 1 → 0 ≤ t.Limit ∧ t.Limit ≤ 1073741824
theorem valid_nums {t : GTreaty} (h : fieldsE t = 0) : Nums t := by
  have hw := fields_wide h
  refine ⟨fun hk => ?_, fun hk => ⟨?_, ?_⟩, fun hk => ?_⟩
  · have := hw 1 (by omega)
    rcases hk with hk | hk <;> simp [wide, hk, ruleL, ix, vals] at this <;> exact this
  · have := hw 2 (by omega)
    simp [wide, hk, ruleL, ix, vals, pos] at this
    exact this
  · have := hw 3 (by omega)
    simp [wide, hk, ruleL, ix, vals] at this
    exact this
  · have := hw 5 (by omega)
    simp [wide, hk, ruleL, ix, vals, mon] at this
    exact this
def wOf (t : GTreaty) (s : Int) : List Int :=
  if t.Kind = 2 then (if s = 0 then [1, 0, 0] else [min s t.Line, min (s - min s t.Line) (t.Lines * t.Line), s - min s t.Line - min (s - min s t.Line) (t.Lines * t.Line)])
  else [1000000 - t.Cession, t.Cession, 0]
structure PV (t : GTreaty) (s : Int) : Prop where
  len : TLen t
  valid : validE t = 0
  kind : 1 ≤ t.Kind ∧ t.Kind ≤ 3
  sum : 0 ≤ s ∧ s ≤ 68719476736
theorem PV.nums {t : GTreaty} {s : Int} (h : PV t s) : Nums t := valid_nums (valid_fields h.valid).2
theorem PV.prod {t : GTreaty} {s : Int} (h : PV t s) (hk : t.Kind = 2) : 1 ≤ t.Lines * t.Line ∧ t.Lines * t.Line ≤ 107374182400 := by
  obtain ⟨⟨h1, h2⟩, h3, h4⟩ := h.nums.line hk
  have a := Int.mul_le_mul_of_nonneg_right h4 (show 0 ≤ t.Line by omega)
  have b := Int.mul_le_mul_of_nonneg_right h3 (show 0 ≤ t.Line by omega)
  omega
theorem PV.w3 {t : GTreaty} {s : Int} (h : PV t s) : ∃ a b c, wOf t s = [a, b, c] ∧ 0 ≤ a ∧ 0 ≤ b ∧ 0 ≤ c ∧ a ≤ 68719476736 ∧ b ≤ 68719476736 ∧ c ≤ 68719476736 ∧ 0 < a + b + c := by
  have hs := h.sum
  have hn := h.nums
  unfold wOf
  by_cases hk : t.Kind = 2
  · have hp := h.prod hk
    have hl := hn.line hk
    rw [if_pos hk]
    by_cases h0 : s = 0
    · rw [if_pos h0]
      exact ⟨1, 0, 0, rfl, by omega, by omega, by omega, by omega, by omega, by omega, by omega⟩
    · rw [if_neg h0]
      generalize t.Lines * t.Line = P at hp
      exact ⟨_, _, _, rfl, by omega, by omega, by omega, by omega, by omega, by omega, by omega⟩
  · have hc := hn.ces (by have := h.kind; omega)
    rw [if_neg hk]
    exact ⟨_, _, _, rfl, by omega, by omega, by omega, by omega, by omega, by omega, by omega⟩
theorem PV.sok {t : GTreaty} {s : Int} (h : PV t s) {a : Int} (h0 : 0 ≤ a) (h1 : a ≤ 17592186044416) : SOk a (wOf t s) := by
  obtain ⟨x, y, z, e, hx, hy, hz, hx1, hy1, hz1, hp⟩ := h.w3
  rw [e]
  refine ⟨by omega, h1, fun w hw => ?_, by simp, by simp; omega⟩
  simp at hw
  omega
/-- all that Split gives for three weights -/
structure Three (a : Int) (w : List Int) (p0 p1 p2 : Int) : Prop where
  eq : partsS a w = [p0, p1, p2]
  sum : p0 + p1 + p2 = a
  n0 : 0 ≤ p0
  n1 : 0 ≤ p1
  n2 : 0 ≤ p2
theorem list3 {p : List Int} (h : p.length = 3) : ∃ x y z, p = [x, y, z] := by
  match p, h with
  | [x, y, z], _ => exact ⟨x, y, z, rfl⟩
theorem three_ok {a : Int} {w : List Int} (h : SOk a w) (h0 : 0 ≤ a) (hl : w.length = 3) : ∃ p0 p1 p2, Three a w p0 p1 p2 := by
  have hpl := partsS_length a w
  have hsum := partsS_sum h
  have hs0 := (partsS_sign h (i := 0) (by omega)).1 h0
  have hs1 := (partsS_sign h (i := 1) (by omega)).1 h0
  have hs2 := (partsS_sign h (i := 2) (by omega)).1 h0
  obtain ⟨p0, p1, p2, e⟩ := list3 (hpl.trans hl)
  simp only [e] at hs0 hs1 hs2 hsum
  refine ⟨p0, p1, p2, e, ?_, hs0, hs1, hs2⟩
  simp at hsum
  omega
theorem Three.zero {a : Int} {w0 w1 w2 p0 p1 p2 : Int} (h : SOk a [w0, w1, w2]) (t : Three a [w0, w1, w2] p0 p1 p2) : (w0 = 0 → p0 = 0) ∧ (w1 = 0 → p1 = 0) ∧ (w2 = 0 → p2 = 0) := by
  have e := t.eq
  refine ⟨fun hz => ?_, fun hz => ?_, fun hz => ?_⟩
  · have := partsS_zero h (i := 0) (by simp) hz
    simpa [e] using this
  · have := partsS_zero h (i := 1) (by simp) hz
    simpa [e] using this
  · have := partsS_zero h (i := 2) (by simp) hz
    simpa [e] using this
theorem Three.near {a : Int} {w0 w1 w2 p0 p1 p2 : Int} (h : SOk a [w0, w1, w2]) (t : Three a [w0, w1, w2] p0 p1 p2) :
    (-(w0 + w1 + w2) < p0 * (w0 + w1 + w2) - a * w0 ∧ p0 * (w0 + w1 + w2) - a * w0 < w0 + w1 + w2) ∧ (-(w0 + w1 + w2) < p1 * (w0 + w1 + w2) - a * w1 ∧ p1 * (w0 + w1 + w2) - a * w1 < w0 + w1 + w2) := by
  have e := t.eq
  have es : [w0, w1, w2].sum = w0 + w1 + w2 := by simp; omega
  have n0 := partsS_near h (i := 0) (by simp)
  have n1 := partsS_near h (i := 1) (by simp)
  rw [es] at n0 n1
  simp only [e] at n0 n1
  exact ⟨n0, n1⟩
/-! ### weights -/
theorem weights_bad {t : GTreaty} (hl : TLen t) {s : Int} (h : ¬ PV t s) : ∃ e, e ≠ 0 ∧ proportional_Weights t s = some ([], e) ∧ treatyref20_Weights t s = some ([], e) := by
  unfold proportional_Weights treatyref20_Weights
  rw [validate_eq hl, rvalidate_eq hl, Option.bind_some, Option.bind_some]
  by_cases hv : validE t = 0
  rotate_left
  · have hv' : (!decide (validE t = 0)) = true := by simpa using hv
    exact ⟨validE t, hv, by rw [if_pos hv'], by rw [if_pos hv']⟩
  have hk := (valid_fields hv).1
  have hv' : (!decide (validE t = 0)) = false := by simpa using hv
  simp only [hv', Bool.false_eq_true, if_false]
  by_cases hk3 : 3 < t.Kind
  · have k1 : decide (t.Kind = 1) = false := by simp; omega
    have k2 : decide (t.Kind = 2) = false := by simp; omega
    have k3 : decide (t.Kind = 3) = false := by simp; omega
    have k4 : decide (3 < t.Kind) = true := by simpa using hk3
    refine ⟨11, by decide, ?_, ?_⟩
    · simp only [k1, k2, k3, Bool.false_eq_true, if_false, Option.bind_some]
    · simp only [k4, if_true]
  have k4 : decide (3 < t.Kind) = false := by simpa using hk3
  by_cases hs : 0 ≤ s ∧ s ≤ 68719476736
  · exact absurd ⟨hl, hv, by omega, hs⟩ h
  have hs' : ((decide (s < 0)) || (decide (68719476736 < s))) = true := by simp; omega
  refine ⟨1, by decide, ?_, ?_⟩
  · by_cases hk1 : t.Kind = 1
    · simp only [hk1, decide_true, if_true, Option.bind_some, hs']
    · by_cases hk2 : t.Kind = 2
      · simp only [hk2, show decide ((2 : Int) = 1) = false from rfl, show decide ((2 : Int) = 3) = false from rfl, Bool.false_eq_true, if_false, decide_true, if_true, Option.bind_some, hs']
      · have hk3' : t.Kind = 3 := by omega
        simp only [hk3', show decide ((3 : Int) = 1) = false from rfl, Bool.false_eq_true, if_false, decide_true, if_true, Option.bind_some, hs']
  · simp only [k4, Bool.false_eq_true, if_false, hs', if_true]
theorem weights_good {t : GTreaty} {s : Int} (h : PV t s) : proportional_Weights t s = some (wOf t s, 0) ∧ treatyref20_Weights t s = some (wOf t s, 0) := by
  have hs := h.sum
  have hn := h.nums
  have hk := h.kind
  have hv' : (!decide (validE t = 0)) = false := by simpa using h.valid
  have k4 : decide (3 < t.Kind) = false := by simp; omega
  have hs' : ((decide (s < 0)) || (decide (68719476736 < s))) = false := by simp; omega
  unfold proportional_Weights treatyref20_Weights wOf
  rw [validate_eq h.len, rvalidate_eq h.len, Option.bind_some, Option.bind_some]
  simp only [hv', k4, hs', Bool.false_eq_true, if_false]
  by_cases hk2 : t.Kind = 2
  · have hl := hn.line hk2
    have hp := h.prod hk2
    have k1 : decide (t.Kind = 1) = false := by simp; omega
    have k3 : decide (t.Kind = 3) = false := by simp; omega
    have k2 : decide (t.Kind = 2) = true := by simpa using hk2
    simp only [k1, k2, k3, Bool.false_eq_true, if_false, if_true, Option.bind_some, Bool.not_true, if_pos hk2]
    unfold proportional_terms_surplus
    simp only [minI_eq]
    rw [w64_id (n := t.Lines * t.Line) (by omega) (by omega), w64_id (n := s - min s t.Line) (by omega) (by omega)]
    generalize t.Lines * t.Line = P at hp
    rw [w64_id (n := s - min s t.Line - min (s - min s t.Line) P) (by omega) (by omega)]
    by_cases h0 : s = 0
    · have h0' : decide (s = 0) = true := by simpa using h0
      simp only [h0', if_true, if_pos h0]
      exact ⟨rfl, trivial⟩
    · have h0' : decide (s = 0) = false := by simpa using h0
      simp only [h0', Bool.false_eq_true, if_false, if_neg h0]
      exact ⟨rfl, trivial⟩
  · have hc := hn.ces (by omega)
    have hb : (if (decide (t.Kind = 1)) = true then (some (decide (t.Kind = 1))) else (some (decide (t.Kind = 3)))) = some true := by
      by_cases h1 : t.Kind = 1
      · simp [h1]
      · have : t.Kind = 3 := by omega
        simp [this]
    have k2 : decide (t.Kind = 2) = false := by simpa using hk2
    rw [hb, Option.bind_some, if_neg hk2]
    unfold proportional_terms_fixed
    rw [w64_id (n := 1000000 - t.Cession) (by omega) (by omega)]
    simp only [k2, Bool.not_false, if_true]
    exact ⟨rfl, trivial⟩
/-! ### cessions and premiums -/
def cedC (t : GTreaty) (p0 p1 p2 : Int) : GCession := if t.Kind = 1 ∧ 0 < t.Limit ∧ t.Limit < p1 then ⟨t.Limit, p0, p2 + (p1 - t.Limit)⟩ else ⟨p1, p0, p2⟩
theorem cede_bad {t : GTreaty} (hl : TLen t) {s a : Int} (h : ¬ (PV t s ∧ 0 ≤ a ∧ a ≤ 17592186044416)) : ∃ e, e ≠ 0 ∧ proportional_Cede t s a = some (⟨0, 0, 0⟩, e) ∧ treatyref20_Cede t s a = some (⟨0, 0, 0⟩, e) ∧ proportional_Premium t s a = some (0, e) ∧ treatyref20_Premium t s a = some (0, e) := by
  unfold proportional_Cede treatyref20_Cede proportional_Premium treatyref20_Premium proportional_divide
  by_cases hp : PV t s
  · obtain ⟨e1, e2⟩ := weights_good hp
    have ha : ((decide (a < 0)) || (decide (17592186044416 < a))) = true := by
      simp only [hp, true_and] at h
      simp
      omega
    refine ⟨1, by decide, ?_⟩
    simp only [e1, e2, Option.bind_some, decide_true, Bool.not_true, Bool.false_eq_true, if_false, ha, if_true]
    exact ⟨rfl, trivial, rfl, trivial⟩
  · obtain ⟨e, he, e1, e2⟩ := weights_bad hl hp
    refine ⟨e, he, ?_⟩
    have he' : (!decide (e = 0)) = true := by simpa using he
    simp only [e1, e2, Option.bind_some, he', if_true]
    exact ⟨trivial, trivial, trivial, trivial⟩
theorem cede_good {t : GTreaty} {s a : Int} (h : PV t s) (h0 : 0 ≤ a) (h1 : a ≤ 17592186044416) : ∃ p0 p1 p2, Three a (wOf t s) p0 p1 p2 ∧ proportional_Cede t s a = some (cedC t p0 p1 p2, 0) ∧ treatyref20_Cede t s a = some (cedC t p0 p1 p2, 0) ∧ proportional_Premium t s a = some (p1, 0) ∧ treatyref20_Premium t s a = some (p1, 0) := by
  have hs := h.sok h0 h1
  have hl3 : (wOf t s).length = 3 := by
    obtain ⟨x, y, z, e, _⟩ := h.w3
    rw [e]
    rfl
  obtain ⟨p0, p1, p2, ht⟩ := three_ok hs h0 hl3
  refine ⟨p0, p1, p2, ht, ?_⟩
  obtain ⟨e1, e2⟩ := weights_good h
  have ha : ¬ ((decide (a < 0)) || (decide (17592186044416 < a))) = true := by
    simp
    omega
  have i0 : inb [p0, p1, p2] 0 = true := by simp [inb]
  have i1 : inb [p0, p1, p2] 1 = true := by simp [inb]
  have i2 : inb [p0, p1, p2] 2 = true := by simp [inb]
  have x0 : ix [p0, p1, p2] 0 = p0 := rfl
  have x1 : ix [p0, p1, p2] 1 = p1 := rfl
  have x2 : ix [p0, p1, p2] 2 = p2 := rfl
  have hsum := ht.sum
  have n0 := ht.n0
  have n1 := ht.n1
  have n2 := ht.n2
  have ed : proportional_divide t s a = some ([p0, p1, p2], 0) := by
    unfold proportional_divide
    rw [e1, Option.bind_some, if_neg (by simp), if_neg ha, split_ok hs, ht.eq]
    rfl
  have hcond : ((((decide (t.Kind = 1)) && (decide (0 < t.Limit))) && (decide (t.Limit < p1))) = true) ↔ (t.Kind = 1 ∧ 0 < t.Limit ∧ t.Limit < p1) := by simp [and_assoc]
  refine ⟨?_, ?_, ?_, ?_⟩
  · unfold proportional_Cede cedC
    rw [ed, Option.bind_some, if_neg (by simp)]
    dsimp only
    rw [chk_true i0, chk_true i1, chk_true i2, x0, x1, x2]
    by_cases hc : t.Kind = 1 ∧ 0 < t.Limit ∧ t.Limit < p1
    · have hlim := h.nums.lim hc.1
      rw [if_pos (hcond.2 hc), if_pos hc, w64_id (n := p1 - t.Limit) (by omega) (by omega), w64_id (by omega) (by omega)]
      rfl
    · rw [if_neg (fun x => hc (hcond.1 x)), if_neg hc]
      rfl
  · unfold treatyref20_Cede cedC
    rw [e2, Option.bind_some, if_neg (by simp), if_neg ha, refSplit_eq, splitS_ok hs, ht.eq, Option.bind_some]
    dsimp only
    rw [chk_true i0, chk_true i1, chk_true i2, x0, x1, x2]
    by_cases hc : t.Kind = 1 ∧ 0 < t.Limit ∧ t.Limit < p1
    · have hlim := h.nums.lim hc.1
      rw [if_pos (hcond.2 hc), if_pos hc, w64_id (n := p2 + p1) (by omega) (by omega), w64_id (by omega) (by omega), show p2 + p1 - t.Limit = p2 + (p1 - t.Limit) by omega]
      rfl
    · rw [if_neg (fun x => hc (hcond.1 x)), if_neg hc]
      rfl
  · unfold proportional_Premium
    rw [ed, Option.bind_some, if_neg (by simp)]
    dsimp only
    rw [chk_true i1, x1]
  · unfold treatyref20_Premium
    rw [e2, Option.bind_some, if_neg (by simp), if_neg ha, refSplit_eq, splitS_ok hs, ht.eq, Option.bind_some]
    dsimp only
    rw [chk_true i1, x1]
/-! ### the examples of the chapter -/
def exT : GTreaty := GTreaty.mk 1 2 (GPeriod.mk 0 9) [] [] 0 0 100 4 0 0 0 0 0 0 [] false 0 [] []
theorem ex_pv (s : Int) (h : 0 ≤ s ∧ s ≤ 68719476736) : PV exT s := ⟨⟨by simp [exT], by simp [exT], by simp [exT]⟩, by decide, by simp [exT], h⟩
theorem propAwake_ok : treatylaw21_awake = some true := by
  unfold treatylaw21_awake
  obtain ⟨p0, p1, p2, h1, e1, _⟩ := cede_good (ex_pv 1000 (by omega)) (a := 50) (by omega) (by omega)
  obtain ⟨q0, q1, q2, h2, e2, _⟩ := cede_good (ex_pv 80 (by omega)) (a := 50) (by omega) (by omega)
  have w1 : wOf exT 1000 = [100, 400, 500] := by decide
  have w2 : wOf exT 80 = [80, 0, 0] := by decide
  have s1 := (ex_pv 1000 (by omega)).sok (a := 50) (by omega) (by omega)
  have s2 := (ex_pv 80 (by omega)).sok (a := 50) (by omega) (by omega)
  rw [w1] at h1 s1
  rw [w2] at h2 s2
  have n1 := h1.near s1
  have z2 := h2.zero s2
  have u1 := h1.sum
  have u2 := h2.sum
  unfold exT at e1 e2
  rw [e1, e2, Option.bind_some, Option.bind_some]
  have hp0 : p0 = 5 := by omega
  have hp1 : p1 = 20 := by omega
  have hp2 : p2 = 25 := by omega
  have hq1 : q1 = 0 := z2.2.1 rfl
  have hq2 : q2 = 0 := z2.2.2 rfl
  have hq0 : q0 = 50 := by omega
  subst hp0 hp1 hp2 hq1 hq2 hq0
  simp [cedC]
end Go.Proofs.Ytlmhmpngjfjfhaa.Pl
