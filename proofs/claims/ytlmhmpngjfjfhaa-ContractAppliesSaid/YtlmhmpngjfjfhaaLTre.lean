/- Treaties (plain): what is valid, by the program and by the document. -/
import Derived.Test.YtlmhmpngjfjfhaaLConS
namespace Go.Proofs.Ytlmhmpngjfjfhaa.Pl
open Go

/-- a loop that looks for the first index that is bad -/
theorem loop_any {step : Int → Option (Int ⊕ (Int ⊕ Unit))} {n : Nat} {e : Int} (bad : Nat → Bool) (h : ∀ k : Nat, k < n → step (k : Int) = some (if bad k = true then .inr (.inl e) else .inl ((k + 1 : Nat) : Int))) (hs : step (n : Int) = some (.inr (.inr ()))) : loopV step 0 = some (if (List.range n).any bad = true then .inl e else .inr ()) := by
  have main : ∀ m k : Nat, m + k = n → loopV step (k : Int) = some (if ((List.range' k m).any bad) = true then .inl e else .inr ()) := by
    intro m
    induction m with
    | zero =>
      intro k hk
      have : k = n := by omega
      subst this
      rw [loopV_stop hs]
      simp
    | succ m ih =>
      intro k hk
      have hk' := h k (by omega)
      rw [List.range'_succ, List.any_cons]
      by_cases hb : bad k = true
      · rw [if_pos hb] at hk'
        rw [loopV_stop hk', hb]
        rfl
      · rw [if_neg hb] at hk'
        rw [loopV_next hk', ih (k + 1) (by omega), Bool.eq_false_iff.2 hb]
        rfl
  have := main n 0 (by omega)
  rw [List.range_eq_range']
  exact this
/-! ### ascending lists -/
def scanA (lo hi : Int) : Option Int → List Int → Int
  | _, [] => 0
  | q, x :: t => if ¬ (lo ≤ x ∧ x ≤ hi) then 1 else if behind q x = true then 13 else scanA lo hi (some x) t
def prevA (l : List Int) (k : Nat) : Option Int := if k = 0 then none else some (l.getD (k - 1) 0)
theorem prevA_succ {l : List Int} {k : Nat} (h : k < l.length) : prevA l (k + 1) = some l[k] := by simp [prevA, h]
theorem prevA_check {l : List Int} {k : Nat} (hk : k < l.length) (hl : l.length ≤ 1000000000) :
    (if (decide (0 < (k : Int))) = true then (chk (inb l (w64 ((k : Int) - 1))) <| some (decide (l[k] ≤ (ix l (w64 ((k : Int) - 1)))))) else (some false)) = some (behind (prevA l k) l[k]) := by
  cases k with
  | zero => simp [prevA, behind]
  | succ k =>
    have e : w64 (((k + 1 : Nat) : Int) - 1) = (k : Int) := by rw [w64_id (by omega) (by omega)]; omega
    have hk' : k < l.length := by omega
    rw [if_pos (by simp), e, chk_true (inb_nat hk'), ix_nat hk', prevA_succ hk']
    rfl
theorem asc_step (l : List Int) (lo hi : Int) (s : Int) : contract_ascending_l6 l lo hi s = treatyref20_ascending_l6 l lo hi s := by
  unfold contract_ascending_l6 treatyref20_ascending_l6
  rw [within3, Option.bind_some]
  have e : (!(decide (lo ≤ ix l s) && decide (ix l s ≤ hi))) = ((decide ((ix l s) < lo)) || (decide (hi < (ix l s)))) := by
    rw [Bool.eq_iff_iff]
    simp
  rw [e]
theorem asc_same (l : List Int) (lo hi : Int) : contract_ascending l lo hi = treatyref20_ascending l lo hi := by
  unfold contract_ascending treatyref20_ascending
  rw [loopV_congr (asc_step l lo hi)]
theorem rasc_eq {l : List Int} {lo hi : Int} (hl : l.length ≤ 1000000000) : treatyref20_ascending l lo hi = some (scanA lo hi none l) := by
  have main : ∀ (n k : Nat), n + k = l.length → loopV (treatyref20_ascending_l6 l lo hi) (k : Int) = some (if scanA lo hi (prevA l k) (l.drop k) = 0 then .inr () else .inl (scanA lo hi (prevA l k) (l.drop k))) := by
    intro n
    induction n with
    | zero =>
      intro k hk
      have st : treatyref20_ascending_l6 l lo hi (k : Int) = some (.inr (.inr ())) := by
        unfold treatyref20_ascending_l6
        rw [if_neg (by simp; omega)]
      rw [loopV_stop st, List.drop_eq_nil_of_le (by omega)]
      rfl
    | succ n ih =>
      intro k hk
      have hkl : k < l.length := by omega
      have e : l.drop k = l[k] :: l.drop (k + 1) := List.drop_eq_getElem_cons hkl
      rw [e]
      have e2 : scanA lo hi (prevA l k) (l[k] :: l.drop (k + 1)) = (if ¬ (lo ≤ l[k] ∧ l[k] ≤ hi) then 1 else if behind (prevA l k) l[k] = true then 13 else scanA lo hi (some l[k]) (l.drop (k + 1))) := rfl
      by_cases hok : lo ≤ l[k] ∧ l[k] ≤ hi
      · rw [if_neg (by simpa using hok)] at e2
        by_cases hb : (behind (prevA l k) l[k]) = true
        · have st : treatyref20_ascending_l6 l lo hi (k : Int) = some (.inr (.inl 13)) := by
            unfold treatyref20_ascending_l6
            rw [if_pos (by simp; omega), chk_true (inb_nat hkl), ix_nat hkl, if_neg (by simp; omega), prevA_check hkl hl, hb]
            simp
          rw [if_pos hb] at e2
          rw [loopV_stop st, e2]
          rfl
        · have hb' := Bool.eq_false_iff.2 hb
          have st : treatyref20_ascending_l6 l lo hi (k : Int) = some (.inl ((k + 1 : Nat) : Int)) := by
            unfold treatyref20_ascending_l6
            rw [if_pos (by simp; omega), chk_true (inb_nat hkl), ix_nat hkl, if_neg (by simp; omega), prevA_check hkl hl, hb', w64_id (by omega) (by omega)]
            simp
          rw [if_neg hb] at e2
          rw [loopV_next st, ih (k + 1) (by omega), e2, prevA_succ hkl]
      · have st : treatyref20_ascending_l6 l lo hi (k : Int) = some (.inr (.inl 1)) := by
          unfold treatyref20_ascending_l6
          rw [if_pos (by simp; omega), chk_true (inb_nat hkl), ix_nat hkl, if_pos (by simp; omega)]
        rw [if_pos hok] at e2
        rw [loopV_stop st, e2]
        rfl
  have := main l.length 0 (by omega)
  unfold treatyref20_ascending
  have e0 : prevA l 0 = none := rfl
  rw [e0, List.drop_zero] at this
  have this' : loopV (treatyref20_ascending_l6 l lo hi) 0 = _ := this
  rw [this']
  by_cases h0 : scanA lo hi none l = 0 <;> simp [h0]
theorem asc_eq {l : List Int} {lo hi : Int} (hl : l.length ≤ 1000000000) : contract_ascending l lo hi = some (scanA lo hi none l) := by rw [asc_same, rasc_eq hl]
/-! ### what a list contains -/
theorem holds_eq {l : List Int} {x : Int} (hl : l.length ≤ 1000000000) : treatyref20_holds l x = some (decide (x ∈ l)) := by
  have main : ∀ (n k : Nat), n + k = l.length → loopV (treatyref20_holds_l6 l x) (k : Int) = some (if x ∈ l.drop k then .inl true else .inr ()) := by
    intro n
    induction n with
    | zero =>
      intro k hk
      have st : treatyref20_holds_l6 l x (k : Int) = some (.inr (.inr ())) := by
        unfold treatyref20_holds_l6
        rw [if_neg (by simp; omega)]
      rw [loopV_stop st, List.drop_eq_nil_of_le (by omega)]
      rfl
    | succ n ih =>
      intro k hk
      have hkl : k < l.length := by omega
      have e : l.drop k = l[k] :: l.drop (k + 1) := List.drop_eq_getElem_cons hkl
      rw [e]
      by_cases hx : l[k] = x
      · have st : treatyref20_holds_l6 l x (k : Int) = some (.inr (.inl true)) := by
          unfold treatyref20_holds_l6
          rw [if_pos (by simp; omega), chk_true (inb_nat hkl), ix_nat hkl, if_pos (by simpa using hx)]
        rw [loopV_stop st]
        simp [hx]
      · have st : treatyref20_holds_l6 l x (k : Int) = some (.inl ((k + 1 : Nat) : Int)) := by
          unfold treatyref20_holds_l6
          rw [if_pos (by simp; omega), chk_true (inb_nat hkl), ix_nat hkl, if_neg (by simpa using hx), w64_id (by omega) (by omega)]
          rfl
        have hx' : ¬ x = l[k] := fun e => hx e.symm
        rw [loopV_next st, ih (k + 1) (by omega)]
        simp only [List.mem_cons, hx', false_or]
  have := main l.length 0 (by omega)
  unfold treatyref20_holds
  have this' : loopV (treatyref20_holds_l6 l x) 0 = _ := this
  rw [this', List.drop_zero]
  by_cases h0 : x ∈ l <;> simp [h0]
theorem contains_eq {l : List Int} {x : Int} (hl : l.length ≤ 1000000000) : slices_Contains_s_int_int l x = some (decide (x ∈ l)) := by
  have main : ∀ (n k : Nat), n + k = l.length → ∃ j : Nat, loopV (slices_Index_s_int_int_l6 l x) (k : Int) = some (if x ∈ l.drop k then .inl (j : Int) else .inr ()) := by
    intro n
    induction n with
    | zero =>
      intro k hk
      have st : slices_Index_s_int_int_l6 l x (k : Int) = some (.inr (.inr ())) := by
        unfold slices_Index_s_int_int_l6
        rw [if_neg (by simp; omega)]
      refine ⟨0, ?_⟩
      rw [loopV_stop st, List.drop_eq_nil_of_le (by omega)]
      rfl
    | succ n ih =>
      intro k hk
      have hkl : k < l.length := by omega
      have e : l.drop k = l[k] :: l.drop (k + 1) := List.drop_eq_getElem_cons hkl
      rw [e]
      by_cases hx : x = l[k]
      · have st : slices_Index_s_int_int_l6 l x (k : Int) = some (.inr (.inl (k : Int))) := by
          unfold slices_Index_s_int_int_l6
          rw [if_pos (by simp; omega), chk_true (inb_nat hkl), ix_nat hkl, if_pos (by simpa using hx)]
        refine ⟨k, ?_⟩
        rw [loopV_stop st]
        simp [← hx]
      · have st : slices_Index_s_int_int_l6 l x (k : Int) = some (.inl ((k + 1 : Nat) : Int)) := by
          unfold slices_Index_s_int_int_l6
          rw [if_pos (by simp; omega), chk_true (inb_nat hkl), ix_nat hkl, if_neg (by simpa using hx), w64_id (by omega) (by omega)]
          rfl
        obtain ⟨j, hj⟩ := ih (k + 1) (by omega)
        refine ⟨j, ?_⟩
        rw [loopV_next st, hj]
        simp only [List.mem_cons, hx, false_or]
  obtain ⟨j, this⟩ := main l.length 0 (by omega)
  unfold slices_Contains_s_int_int slices_Index_s_int_int
  have this' : loopV (slices_Index_s_int_int_l6 l x) 0 = _ := this
  rw [this', List.drop_zero]
  by_cases h0 : x ∈ l <;> simp [h0]
/-! ### the fields -/
def mon : Gspan := ⟨0, 1073741824⟩
def pos : Gspan := ⟨1, 1073741824⟩
def non : Gspan := ⟨0, 0⟩
/-- the rule of a kind -/
def ruleL (k : Int) : List Gspan :=
  if k = 1 then [non, ⟨1, 1000000⟩, non, non, non, mon, non, non, non, non, mon]
  else if k = 2 then [non, non, pos, ⟨1, 100⟩, non, non, non, non, non, non, mon]
  else if k = 3 then [⟨1, 1048576⟩, ⟨1, 1000000⟩, non, non, non, non, non, non, non, non, mon]
  else if k = 4 then [non, non, non, non, mon, pos, non, mon, mon, ⟨0, 1000000000⟩, mon]
  else if k = 5 then [non, non, non, non, mon, pos, ⟨1, 8784⟩, mon, mon, non, mon]
  else [non, non, non, non, mon, pos, non, non, non, non, mon]
def leastL (k : Int) : List Int :=
  if k = 1 then [-1, 1, -1, -1, -1, 0, -1, -1, -1, -1]
  else if k = 2 then [-1, -1, 1, 1, -1, -1, -1, -1, -1, -1]
  else if k = 3 then [1, 1, -1, -1, -1, -1, -1, -1, -1, -1]
  else if k = 4 then [-1, -1, -1, -1, 0, 1, -1, 0, 0, 0]
  else if k = 5 then [-1, -1, -1, -1, 0, 1, 1, 0, 0, -1]
  else [-1, -1, -1, -1, 0, 1, -1, -1, -1, -1]
theorem kinds {k : Int} (h : 1 ≤ k ∧ k ≤ 6) : k = 1 ∨ k = 2 ∨ k = 3 ∨ k = 4 ∨ k = 5 ∨ k = 6 := by omega
theorem ruleOf_eq {k : Int} (h : 1 ≤ k ∧ k ≤ 6) : contract_ruleOf k = some (ruleL k) := by
  rcases kinds h with rfl | rfl | rfl | rfl | rfl | rfl <;> rfl
theorem least_eq {k : Int} (h : 1 ≤ k ∧ k ≤ 6) : treatyref20_least k = some (leastL k) := by
  rcases kinds h with rfl | rfl | rfl | rfl | rfl | rfl <;> rfl
theorem ruleL_length (k : Int) : (ruleL k).length = 11 := by unfold ruleL; (repeat' split) <;> rfl
theorem leastL_length (k : Int) : (leastL k).length = 10 := by unfold leastL; (repeat' split) <;> rfl
def vals (t : GTreaty) : List Int := [t.Risk, t.Cession, t.Line, t.Lines, t.Retention, t.Limit, t.Window, t.Deductible, t.Aggregate, t.Base, t.Premium]
def nums (t : GTreaty) : List Int := [t.Risk, t.Cession, t.Line, t.Lines, t.Retention, t.Limit, t.Window, t.Deductible, t.Aggregate, t.Base]
def mosts : List Int := [1048576, 1000000, 1073741824, 100, 1073741824, 1073741824, 8784, 1073741824, 1073741824, 1000000000]
/-- a field that the kind does not have is set -/
def alien (t : GTreaty) (r : List Gspan) : Nat → Bool := fun k => decide ([(ix r (k : Int)).low, (ix r (k : Int)).high] = [0, 0]) && !decide (ix (vals t) (k : Int) = 0)
def wide (t : GTreaty) (r : List Gspan) : Nat → Bool := fun k => !decide ([(ix r (k : Int)).low, (ix r (k : Int)).high] = [0, 0]) && !(decide ((ix r (k : Int)).low ≤ ix (vals t) (k : Int)) && decide (ix (vals t) (k : Int) ≤ (ix r (k : Int)).high))
def restored (t : GTreaty) : Bool := (!(decide (t.Kind = 4) || decide (t.Kind = 5)) && decide (0 < (t.Reinstatements.length : Int))) || (t.Timed && decide ((t.Reinstatements.length : Int) = 0))
def fieldsE (t : GTreaty) : Int := if (List.range 11).any (alien t (ruleL t.Kind)) = true then 20 else if restored t = true then 20 else if (List.range 11).any (wide t (ruleL t.Kind)) = true then 1 else 0
theorem alien_loop {t : GTreaty} {r : List Gspan} (hr : r.length = 11) : loopV (contract_fields_l10 t r) 0 = some (if (List.range 11).any (alien t r) = true then .inl 20 else .inr ()) := by
  refine loop_any _ (fun k hk => ?_) ?_
  · unfold contract_fields_l10
    rw [if_pos (by simp; omega), chk_true (by simp), chk_true (by simp; omega), chk_true (inb_nat (by simpa using hk)), chk_true (inb_nat (by omega)), w64_id (by omega) (by omega)]
    unfold alien vals
    split <;> rfl
  · unfold contract_fields_l10
    rw [if_neg (by simp)]
theorem wide_loop {t : GTreaty} {r : List Gspan} (hr : r.length = 11) : loopV (contract_fields_l42 t r) 0 = some (if (List.range 11).any (wide t r) = true then .inl 1 else .inr ()) := by
  refine loop_any _ (fun k hk => ?_) ?_
  · unfold contract_fields_l42
    rw [if_pos (by simp; omega), chk_true (by simp), chk_true (by simp; omega), chk_true (inb_nat (by simpa using hk)), chk_true (inb_nat (by omega)), chk_true (inb_nat (by omega)), within3, w64_id (by omega) (by omega)]
    unfold wide vals
    cases h : decide ([(ix r (k : Int)).low, (ix r (k : Int)).high] = [0, 0]) <;> simp only [Bool.not_true, Bool.not_false, if_true, Bool.false_eq_true, if_false, Option.bind_some, Bool.true_and, Bool.false_and] <;> first | rfl | (split <;> rfl)
  · unfold contract_fields_l42
    rw [if_neg (by simp)]
theorem fields_eq {t : GTreaty} (hk : 1 ≤ t.Kind ∧ t.Kind ≤ 6) : contract_fields t = some (fieldsE t) := by
  unfold contract_fields
  rw [chk_true (by simp), chk_true (by simp), ruleOf_eq hk, Option.bind_some, chk_true (by simp), chk_true (by simpa using ruleL_length t.Kind), alien_loop (ruleL_length _), wide_loop (ruleL_length _)]
  unfold fieldsE
  cases h1 : (List.range 11).any (alien t (ruleL t.Kind))
  · simp only [Option.bind_some, Sum.elim_inr, Sum.elim_inl, Bool.false_eq_true, if_false]
    have e : restored t = ((((decide (0 < (t.Reinstatements.length : Int))) && (!decide (t.Kind = 4))) && (!decide (t.Kind = 5))) || ((decide ((t.Reinstatements.length : Int) = 0)) && t.Timed)) := by
      unfold restored
      cases decide (t.Kind = 4) <;> cases decide (t.Kind = 5) <;> cases decide (0 < (t.Reinstatements.length : Int)) <;> cases t.Timed <;> cases decide ((t.Reinstatements.length : Int) = 0) <;> rfl
    rw [e]
    cases h2 : (((decide (0 < (t.Reinstatements.length : Int))) && (!decide (t.Kind = 4))) && (!decide (t.Kind = 5)))
    · simp only [Bool.false_eq_true, if_false, Bool.false_or]
      cases h3 : ((decide ((t.Reinstatements.length : Int) = 0)) && t.Timed)
      · simp only [Bool.false_eq_true, if_false]
        cases h4 : (List.range 11).any (wide t (ruleL t.Kind)) <;> rfl
      · rfl
    · rfl
  · rfl
def ralien (t : GTreaty) : Nat → Bool := fun k => decide (ix (leastL t.Kind) (k : Int) < 0) && !decide (ix (nums t) (k : Int) = 0)
def rwide (t : GTreaty) : Nat → Bool := fun k => decide (0 ≤ ix (leastL t.Kind) (k : Int)) && (decide (ix (nums t) (k : Int) < ix (leastL t.Kind) (k : Int)) || decide (ix mosts (k : Int) < ix (nums t) (k : Int)))
theorem ralien_loop {t : GTreaty} : loopV (treatyref20_Validate_l43 (nums t) (leastL t.Kind)) 0 = some (if (List.range 10).any (ralien t) = true then .inl 20 else .inr ()) := by
  have hll := leastL_length t.Kind
  refine loop_any _ (fun k hk => ?_) ?_
  · unfold treatyref20_Validate_l43
    have hn : (nums t).length = 10 := rfl
    rw [if_pos (by simp [hn]; omega), chk_true (inb_nat (by omega)), chk_true (inb_nat (by omega)), w64_id (by omega) (by omega)]
    unfold ralien
    cases h : decide (ix (leastL t.Kind) (k : Int) < 0) <;> simp only [if_true, Bool.false_eq_true, if_false, Option.bind_some, Bool.true_and, Bool.false_and] <;> first | rfl | (split <;> rfl)
  · unfold treatyref20_Validate_l43
    rw [if_neg (by simp [nums])]
theorem rwide_loop {t : GTreaty} : loopV (treatyref20_Validate_l69 (nums t) (leastL t.Kind)) 0 = some (if (List.range 10).any (rwide t) = true then .inl 1 else .inr ()) := by
  have hll := leastL_length t.Kind
  refine loop_any _ (fun k hk => ?_) ?_
  · unfold treatyref20_Validate_l69
    have hn : (nums t).length = 10 := rfl
    have hm : inb [1048576, 1000000, 1073741824, 100, 1073741824, 1073741824, 8784, 1073741824, 1073741824, 1000000000] (k : Int) = true := inb_nat (by simpa using hk)
    rw [if_pos (by simp [hn]; omega)]
    simp only [chk_true (inb_nat (show k < (leastL t.Kind).length by omega)), chk_true (inb_nat (show k < (nums t).length by omega)), chk_true hm]
    rw [w64_id (by omega) (by omega)]
    unfold rwide mosts
    cases h : decide (0 ≤ ix (leastL t.Kind) (k : Int)) <;> simp only [if_true, Bool.false_eq_true, if_false, Option.bind_some, Bool.true_and, Bool.false_and]
    · rfl
    · cases h2 : decide (ix (nums t) (k : Int) < ix (leastL t.Kind) (k : Int)) <;> simp only [if_true, Bool.false_eq_true, if_false, Option.bind_some, Bool.true_or, Bool.false_or] <;> first | rfl | (split <;> rfl)
  · unfold treatyref20_Validate_l69
    rw [if_neg (by simp [nums])]
theorem alien_same {t : GTreaty} (hk : 1 ≤ t.Kind ∧ t.Kind ≤ 6) : (List.range 10).any (ralien t) = (List.range 11).any (alien t (ruleL t.Kind)) := by
  unfold ralien alien
  rcases kinds hk with h | h | h | h | h | h <;> rw [h] <;> simp [List.range, List.range.loop, ix, nums, vals, ruleL, leastL, non, mon, pos]
theorem wide_same {t : GTreaty} (hk : 1 ≤ t.Kind ∧ t.Kind ≤ 6) : (List.range 11).any (wide t (ruleL t.Kind)) = ((List.range 10).any (rwide t) || (decide (t.Premium < 0) || decide (1073741824 < t.Premium))) := by
  unfold rwide wide
  rw [Bool.eq_iff_iff]
  rcases kinds hk with h | h | h | h | h | h <;> rw [h] <;> simp [List.range, List.range.loop, ix, nums, vals, ruleL, leastL, mosts, non, mon, pos] <;> omega
/-! ### Validate -/
/-- the lists of a treaty are not too long for a machine -/
structure TLen (t : GTreaty) : Prop where
  perils : t.Perils.length ≤ 1000000000
  areas : t.Areas.length ≤ 1000000000
  inures : t.Inures.length ≤ 1000000000
def badR (t : GTreaty) : Nat → Bool := fun k => !(decide (0 ≤ ix t.Reinstatements (k : Int)) && decide (ix t.Reinstatements (k : Int) ≤ 2000000))
def validE (t : GTreaty) : Int :=
  if ¬ (1 ≤ t.ID ∧ t.ID ≤ 1048576) then 1 else if ¬ (1 ≤ t.Kind ∧ t.Kind ≤ 6) then 11
  else if ¬ (0 ≤ t.Period.From ∧ t.Period.From < t.Period.To ∧ t.Period.To ≤ 876600) then 12
  else if scanA 0 15 none t.Perils ≠ 0 then scanA 0 15 none t.Perils
  else if scanA 0 15 none t.Areas ≠ 0 then scanA 0 15 none t.Areas
  else if fieldsE t ≠ 0 then fieldsE t
  else if 8 < t.Reinstatements.length then 4
  else if (List.range t.Reinstatements.length).any (badR t) = true then 1
  else if 12 < t.Inures.length then 4
  else if scanA 1 1048576 none t.Inures ≠ 0 then scanA 1 1048576 none t.Inures
  else if t.ID ∈ t.Inures then 10
  else partsE t.Parts
theorem rein_loop {t : GTreaty} (h : t.Reinstatements.length ≤ 8) : loopV (contract_Validate_l54 t) 0 = some (if (List.range t.Reinstatements.length).any (badR t) = true then .inl 1 else .inr ()) := by
  refine loop_any _ (fun k hk => ?_) ?_
  · unfold contract_Validate_l54
    rw [if_pos (by simp; omega), chk_true (inb_nat hk), within3, Option.bind_some, w64_id (by omega) (by omega)]
    unfold badR
    split <;> rfl
  · unfold contract_Validate_l54
    rw [if_neg (by simp)]
theorem rrein_step (t : GTreaty) (s : Int) : treatyref20_Validate_l99 t s = contract_Validate_l54 t s := by
  unfold treatyref20_Validate_l99 contract_Validate_l54
  rw [within3, Option.bind_some]
  have e : ((decide ((ix t.Reinstatements s) < 0)) || (decide (2000000 < (ix t.Reinstatements s)))) = !(decide (0 ≤ ix t.Reinstatements s) && decide (ix t.Reinstatements s ≤ 2000000)) := by
    rw [Bool.eq_iff_iff]
    simp
  rw [e]
theorem validate_eq {t : GTreaty} (h : TLen t) : contract_Validate t = some (validE t) := by
  unfold contract_Validate validE
  rw [within3, Option.bind_some]
  by_cases h1 : 1 ≤ t.ID ∧ t.ID ≤ 1048576
  rotate_left
  · rw [if_pos (by simp; omega), if_pos h1]
  rw [if_neg (by simp; omega), if_neg (not_not_intro h1), within3, Option.bind_some]
  by_cases h2 : 1 ≤ t.Kind ∧ t.Kind ≤ 6
  rotate_left
  · rw [if_pos (by simp; omega), if_pos h2]
  rw [if_neg (by simp; omega), if_neg (not_not_intro h2)]
  unfold calendar_Valid
  rw [Option.bind_some]
  by_cases h3 : 0 ≤ t.Period.From ∧ t.Period.From < t.Period.To ∧ t.Period.To ≤ 876600
  rotate_left
  · rw [if_pos (by simp; omega), if_pos h3]
  rw [if_neg (by simp; omega), if_neg (not_not_intro h3), asc_eq h.perils, Option.bind_some]
  by_cases h4 : scanA 0 15 none t.Perils = 0
  rotate_left
  · rw [if_pos (by simpa using h4), if_pos h4]
  rw [if_neg (by simpa using h4), if_neg (not_not_intro h4), asc_eq h.areas, Option.bind_some]
  by_cases h5 : scanA 0 15 none t.Areas = 0
  rotate_left
  · rw [if_pos (by simpa using h5), if_pos h5]
  rw [if_neg (by simpa using h5), if_neg (not_not_intro h5), fields_eq h2, Option.bind_some]
  by_cases h6 : fieldsE t = 0
  rotate_left
  · rw [if_pos (by simpa using h6), if_pos h6]
  rw [if_neg (by simpa using h6), if_neg (not_not_intro h6)]
  by_cases h7 : 8 < t.Reinstatements.length
  · rw [if_pos (by simp; omega), if_pos h7]
  rw [if_neg (by simp; omega), if_neg h7, rein_loop (by omega)]
  cases h8 : (List.range t.Reinstatements.length).any (badR t)
  rotate_left
  · rfl
  simp only [Bool.false_eq_true, if_false, Option.bind_some, Sum.elim_inr, Sum.elim_inl]
  by_cases h9 : 12 < t.Inures.length
  · rw [if_pos (by simp; omega), if_pos h9]
  rw [if_neg (by simp; omega), if_neg h9, asc_eq h.inures, Option.bind_some]
  by_cases h10 : scanA 1 1048576 none t.Inures = 0
  rotate_left
  · rw [if_pos (by simpa using h10), if_pos h10]
  rw [if_neg (by simpa using h10), if_neg (not_not_intro h10), contains_eq h.inures, Option.bind_some]
  by_cases h11 : t.ID ∈ t.Inures
  · rw [if_pos (by simpa using h11), if_pos h11]
  rw [if_neg (by simpa using h11), if_neg h11, parts_eq]
  rfl
theorem rvalidate_eq {t : GTreaty} (h : TLen t) : treatyref20_Validate t = some (validE t) := by
  unfold treatyref20_Validate validE
  by_cases h1 : 1 ≤ t.ID ∧ t.ID ≤ 1048576
  rotate_left
  · rw [if_pos (by simp; omega), if_pos h1]
  rw [if_neg (by simp; omega), if_neg (not_not_intro h1)]
  by_cases h2 : 1 ≤ t.Kind ∧ t.Kind ≤ 6
  rotate_left
  · rw [if_pos (by simp; omega), if_pos h2]
  rw [if_neg (by simp; omega), if_neg (not_not_intro h2)]
  unfold treatyref01_PeriodValid
  rw [Option.bind_some]
  by_cases h3 : 0 ≤ t.Period.From ∧ t.Period.From < t.Period.To ∧ t.Period.To ≤ 876600
  rotate_left
  · rw [if_pos (by simp; omega), if_pos h3]
  rw [if_neg (by simp; omega), if_neg (not_not_intro h3), rasc_eq h.perils, Option.bind_some]
  by_cases h4 : scanA 0 15 none t.Perils = 0
  rotate_left
  · rw [if_pos (by simpa using h4), if_pos h4]
  rw [if_neg (by simpa using h4), if_neg (not_not_intro h4), rasc_eq h.areas, Option.bind_some]
  by_cases h5 : scanA 0 15 none t.Areas = 0
  rotate_left
  · rw [if_pos (by simpa using h5), if_pos h5]
  have en : treatyref20_numbers t = some (nums t) := rfl
  rw [if_neg (by simpa using h5), if_neg (not_not_intro h5), en, Option.bind_some, least_eq h2, Option.bind_some, ralien_loop, rwide_loop, alien_same h2]
  unfold fieldsE
  cases ha : (List.range 11).any (alien t (ruleL t.Kind))
  rotate_left
  · rfl
  simp only [Bool.false_eq_true, if_false, Option.bind_some, Sum.elim_inr, Sum.elim_inl]
  have er : (((!((decide (t.Kind = 4)) || (decide (t.Kind = 5)))) && (decide (0 < (t.Reinstatements.length : Int)))) || (t.Timed && (decide ((t.Reinstatements.length : Int) = 0)))) = restored t := rfl
  rw [er]
  cases hr : restored t
  rotate_left
  · rfl
  simp only [Bool.false_eq_true, if_false]
  have hw := wide_same h2
  cases hw1 : (List.range 10).any (rwide t)
  rotate_left
  · rw [hw1, Bool.true_or] at hw
    rw [hw]
    rfl
  rw [hw1, Bool.false_or] at hw
  rw [hw]
  simp only [Bool.false_eq_true, if_false, Option.bind_some, Sum.elim_inr, Sum.elim_inl]
  cases hp : (decide (t.Premium < 0) || decide (1073741824 < t.Premium))
  rotate_left
  · rfl
  simp only [Bool.false_eq_true, if_false, ne_eq, not_true_eq_false]
  by_cases h7 : 8 < t.Reinstatements.length
  · rw [if_pos (by simp; omega), if_pos h7]
  rw [if_neg (by simp; omega), if_neg h7, loopV_congr (rrein_step t), rein_loop (by omega)]
  cases h8 : (List.range t.Reinstatements.length).any (badR t)
  rotate_left
  · rfl
  simp only [Bool.false_eq_true, if_false, Option.bind_some, Sum.elim_inr, Sum.elim_inl]
  by_cases h9 : 12 < t.Inures.length
  · rw [if_pos (by simp; omega), if_pos h9]
  rw [if_neg (by simp; omega), if_neg h9, rasc_eq h.inures, Option.bind_some]
  by_cases h10 : scanA 1 1048576 none t.Inures = 0
  rotate_left
  · rw [if_pos (by simpa using h10), if_pos h10]
  rw [if_neg (by simpa using h10), if_neg (not_not_intro h10), holds_eq h.inures, Option.bind_some]
  by_cases h11 : t.ID ∈ t.Inures
  · rw [if_pos (by simpa using h11), if_pos h11]
  rw [if_neg (by simpa using h11), if_neg h11, rParts_eq]
  rfl
end Go.Proofs.Ytlmhmpngjfjfhaa.Pl
