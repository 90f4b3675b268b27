/- Inuring (plain): lists, indexes, which treaties meet; the program and the document agree. -/
import Derived.Test.YtfekcgnnhjmeiaaSTre
namespace Go.Proofs.Ytfekcgnnhjmeiaa.Pl
open Go

/-- a loop that looks for the first index with an answer -/
theorem loop_scan {O : Type} {step : Int → Option (Int ⊕ (O ⊕ Unit))} {n : Nat} (f : Nat → Option O) (h : ∀ k : Nat, k < n → step (k : Int) = some ((f k).elim (.inl ((k + 1 : Nat) : Int)) fun e => .inr (.inl e))) (hs : step (n : Int) = some (.inr (.inr ()))) : loopV step 0 = some (((List.range n).findSome? f).elim (.inr ()) .inl) := by
  have main : ∀ m k : Nat, m + k = n → loopV step (k : Int) = some (((List.range' k m).findSome? f).elim (.inr ()) .inl) := by
    intro m
    induction m with
    | zero =>
      intro k hk
      have : k = n := by omega
      subst this
      rw [loopV_stop hs]
      rfl
    | succ m ih =>
      intro k hk
      have hk' := h k (by omega)
      rw [List.range'_succ, List.findSome?_cons]
      cases hf : f k with
      | some e =>
        rw [hf] at hk'
        rw [loopV_stop hk']
        rfl
      | none =>
        rw [hf] at hk'
        rw [loopV_next hk', ih (k + 1) (by omega)]
  have := main n 0 (by omega)
  rw [List.range_eq_range']
  exact this
theorem scanK {O R : Type} {l : Option (O ⊕ Unit)} {F : Option O} (h : l = some (F.elim (.inr ()) .inl)) (K : Option R) (J : O → Option R) : ((l.bind fun q => (Sum.elim (fun t => some (.inr t)) (fun t => some (.inl t))) q : Option (Unit ⊕ O)).bind fun q => (Sum.elim (fun _ => K) (fun t => J t)) q) = F.elim K J := by
  subst h
  cases F <;> rfl
theorem findSome_if {O : Type} {n : Nat} {p : Nat → Bool} {e : O} : (List.range n).findSome? (fun k => if p k = true then some e else none) = if (List.range n).any p = true then some e else none := by
  generalize List.range n = l
  induction l with
  | nil => rfl
  | cons a l ih =>
    rw [List.findSome?_cons, List.any_cons]
    cases p a <;> simp [ih]
theorem any_ix {α : Type} [Inhabited α] {l : List α} {p : α → Bool} : (List.range l.length).any (fun k => p (ix l (k : Int))) = l.any p := by
  rw [Bool.eq_iff_iff, List.any_eq_true, List.any_eq_true]
  constructor
  · rintro ⟨k, hk, hp⟩
    have hk' := List.mem_range.1 hk
    rw [ix_nat hk'] at hp
    exact ⟨_, List.getElem_mem hk', hp⟩
  · rintro ⟨x, hx, hp⟩
    obtain ⟨k, hk, rfl⟩ := List.getElem_of_mem hx
    exact ⟨k, List.mem_range.2 hk, by rw [ix_nat hk]; exact hp⟩
theorem any_eq {l : List Int} {x : Int} : l.any (fun y => decide (y = x)) = decide (x ∈ l) := by
  rw [Bool.eq_iff_iff, List.any_eq_true]
  simp
theorem w64_succ {k : Nat} (h : k ≤ 1000000000) : w64 ((k : Int) + 1) = ((k + 1 : Nat) : Int) := by rw [w64_id (by omega) (by omega)]; omega
theorem has_eq {l : List Int} {x : Int} (hl : l.length ≤ 1000000000) : treatyref25_Has l x = some (decide (x ∈ l)) := by
  have st := loop_scan (step := treatyref25_Has_l6 l x) (n := l.length) (fun k => if decide (ix l (k : Int) = x) = true then some true else none) (fun k hk => by
    unfold treatyref25_Has_l6
    rw [if_pos (by simpa using hk), chk_true (inb_nat hk), w64_succ (by omega)]
    by_cases hc : ix l (k : Int) = x <;> simp [hc]) (by unfold treatyref25_Has_l6; rw [if_neg (by simp)])
  unfold treatyref25_Has
  refine (scanK st _ _).trans ?_
  rw [findSome_if, any_ix (p := fun y => decide (y = x)), any_eq]
  by_cases hx : x ∈ l <;> simp [hx]
/-! ### indexes -/
def idxF (ts : List GTreaty) (id : Int) : Nat → Option Int := fun k => if decide ((ix ts (k : Int)).ID = id) = true then some (k : Int) else none
def idxOf (ts : List GTreaty) (id : Int) : Int := ((List.range ts.length).findSome? (idxF ts id)).getD (-1)
theorem index_eq {ts : List GTreaty} {id : Int} (hl : ts.length ≤ 1000000000) : inuring_index ts id = some (idxOf ts id) := by
  have st := loop_scan (step := slices_IndexFunc_s_api_Treaty_api_Treaty_inuring_index_c1_l6 ts id) (n := ts.length) (idxF ts id) (fun k hk => by
    unfold slices_IndexFunc_s_api_Treaty_api_Treaty_inuring_index_c1_l6 inuring_index_c1 idxF
    rw [if_pos (by simpa using hk), chk_true (inb_nat hk), w64_succ (by omega), Option.bind_some]
    by_cases hc : (ix ts (k : Int)).ID = id <;> simp [hc]) (by unfold slices_IndexFunc_s_api_Treaty_api_Treaty_inuring_index_c1_l6; rw [if_neg (by simp)])
  unfold inuring_index slices_IndexFunc_s_api_Treaty_api_Treaty_inuring_index_c1
  rw [scanK st]
  unfold idxOf
  cases (List.range ts.length).findSome? (idxF ts id) <;> rfl
theorem rindex_eq {ts : List GTreaty} {id : Int} (hl : ts.length ≤ 1000000000) : treatyref25_Index ts id = some (idxOf ts id) := by
  have st := loop_scan (step := treatyref25_Index_l6 ts id) (n := ts.length) (idxF ts id) (fun k hk => by
    unfold treatyref25_Index_l6 idxF
    rw [if_pos (by simpa using hk), chk_true (inb_nat hk), w64_succ (by omega)]
    by_cases hc : (ix ts (k : Int)).ID = id <;> simp [hc]) (by unfold treatyref25_Index_l6; rw [if_neg (by simp)])
  unfold treatyref25_Index
  rw [scanK st]
  unfold idxOf
  cases (List.range ts.length).findSome? (idxF ts id) <;> rfl
theorem idxOf_cases (ts : List GTreaty) (id : Int) : (idxOf ts id = -1 ∧ ∀ k : Nat, k < ts.length → (ix ts (k : Int)).ID ≠ id) ∨ ∃ k : Nat, k < ts.length ∧ idxOf ts id = (k : Int) ∧ (ix ts (k : Int)).ID = id := by
  unfold idxOf
  cases h : (List.range ts.length).findSome? (idxF ts id) with
  | none =>
    refine .inl ⟨rfl, fun k hk hc => ?_⟩
    have := List.findSome?_eq_none_iff.1 h k (List.mem_range.2 hk)
    unfold idxF at this
    rw [if_pos (by simpa using hc)] at this
    cases this
  | some e =>
    obtain ⟨k, hk, he⟩ := List.exists_of_findSome?_eq_some h
    unfold idxF at he
    split at he
    · rename_i hc
      cases he
      exact .inr ⟨k, List.mem_range.1 hk, rfl, by simpa using hc⟩
    · cases he
def Uniq (ts : List GTreaty) : Prop := ∀ i j : Nat, i < ts.length → j < ts.length → (ix ts (i : Int)).ID = (ix ts (j : Int)).ID → i = j
theorem idxOf_id {ts : List GTreaty} (hu : Uniq ts) {j : Nat} (hj : j < ts.length) : idxOf ts (ix ts (j : Int)).ID = (j : Int) := by
  rcases idxOf_cases ts (ix ts (j : Int)).ID with ⟨_, h⟩ | ⟨k, hk, h1, h2⟩
  · exact absurd rfl (h j hj)
  · rw [h1, hu k j hk hj h2]
/-! ### sets -/
theorem set_eq {l : List Int} (hl : l.length ≤ 1000000000) : ∃ m, inuring_set l = some m ∧ ∀ x, mget m x false = decide (x ∈ l) := by
  obtain ⟨m, h1, h2⟩ := loopV_inv (step := inuring_set_l8 l) (fun s => ∃ k : Nat, k ≤ l.length ∧ s.2 = (k : Int) ∧ ∀ x, mget s.1 x false = decide (x ∈ l.take k)) (fun s => l.length - s.2.toNat) (fun m => ∀ x, mget m x false = decide (x ∈ l)) (by
    rintro ⟨m, i⟩ ⟨k, hk, rfl, hm⟩
    unfold inuring_set_l8
    dsimp only at hm ⊢
    by_cases hc : k < l.length
    · rw [if_pos (by simpa using hc), chk_true (inb_nat hc), w64_succ (by omega)]
      refine ⟨_, rfl, ⟨k + 1, by omega, rfl, fun x => ?_⟩, by dsimp only; omega⟩
      dsimp only
      rw [mget_mset, hm x, ix_nat hc]
      have ht : x ∈ l.take (k + 1) ↔ x ∈ l.take k ∨ x = l[k] := by rw [List.take_succ_eq_append_getElem hc, List.mem_append, List.mem_singleton]
      by_cases hx : l[k] = x
      · rw [if_pos hx, decide_eq_true (ht.2 (.inr hx.symm))]
      · rw [if_neg hx]
        exact decide_eq_decide.2 ⟨fun h => ht.2 (.inl h), fun h => (ht.1 h).resolve_right fun e => hx e.symm⟩
    · rw [if_neg (by simpa using hc)]
      refine ⟨_, rfl, ?_⟩
      have : k = l.length := by omega
      subst this
      rwa [List.take_length] at hm) ([], 0) ⟨0, by omega, rfl, fun x => by simp [mget]⟩
  exact ⟨m, by unfold inuring_set; rw [h1]; rfl, h2⟩
/-! ### which treaties meet -/
def commonS (a b : List Int) : Bool := (decide ((a.length : Int) = 0) || decide ((b.length : Int) = 0)) || a.any fun x => decide (x ∈ b)
theorem any_swap (a b : List Int) : (a.any fun x => decide (x ∈ b)) = b.any fun x => decide (x ∈ a) := by
  rw [Bool.eq_iff_iff, List.any_eq_true, List.any_eq_true]
  constructor <;> · rintro ⟨x, h1, h2⟩; exact ⟨x, by simpa using h2, by simpa using h1⟩
theorem common_eq {a b : List Int} (ha : a.length ≤ 1000000000) (hb : b.length ≤ 1000000000) : inuring_common a b = some (commonS a b) := by
  unfold inuring_common commonS
  by_cases hc : (decide ((a.length : Int) = 0) || decide ((b.length : Int) = 0)) = true
  · rw [if_pos hc, hc, Bool.true_or]
  · rw [if_neg hc, Bool.eq_false_iff.2 hc, Bool.false_or]
    obtain ⟨m, hm, hx⟩ := set_eq ha
    have st := loop_scan (step := slices_IndexFunc_s_int_int_inuring_common_c1_l6 b m) (n := b.length) (fun k => if decide (ix b (k : Int) ∈ a) = true then some (k : Int) else none) (fun k hk => by
      unfold slices_IndexFunc_s_int_int_inuring_common_c1_l6 inuring_common_c1
      rw [if_pos (by simpa using hk), chk_true (inb_nat hk), w64_succ (by omega), Option.bind_some, hx]
      by_cases hc : ix b (k : Int) ∈ a <;> simp [hc]) (by unfold slices_IndexFunc_s_int_int_inuring_common_c1_l6; rw [if_neg (by simp)])
    unfold slices_ContainsFunc_s_int_int_inuring_common_c1 slices_IndexFunc_s_int_int_inuring_common_c1
    rw [hm, Option.bind_some, scanK st, any_swap, ← any_ix (l := b)]
    cases h : (List.range b.length).findSome? (fun k : Nat => if decide (ix b (k : Int) ∈ a) = true then some (k : Int) else none) with
    | none =>
      have : (List.range b.length).any (fun k => decide (ix b (k : Int) ∈ a)) = false := by
        rw [Bool.eq_false_iff]
        intro hc
        obtain ⟨k, h1, h2⟩ := List.any_eq_true.1 hc
        have := List.findSome?_eq_none_iff.1 h k h1
        rw [if_pos h2] at this
        cases this
      rw [this]
      rfl
    | some e =>
      obtain ⟨k, h1, h2⟩ := List.exists_of_findSome?_eq_some h
      split at h2
      · rename_i h3
        cases h2
        have : (List.range b.length).any (fun k => decide (ix b (k : Int) ∈ a)) = true := List.any_eq_true.2 ⟨k, h1, h3⟩
        rw [this]
        simp
      · cases h2
theorem rcommon_eq {a b : List Int} (ha : a.length ≤ 1000000000) (hb : b.length ≤ 1000000000) : treatyref25_common a b = some (commonS a b) := by
  have st := loop_scan (step := treatyref25_common_l6 a b) (n := a.length) (fun k => if decide (ix a (k : Int) ∈ b) = true then some true else none) (fun k hk => by
    unfold treatyref25_common_l6
    rw [if_pos (by simpa using hk), chk_true (inb_nat hk), w64_succ (by omega), has_eq hb, Option.bind_some]
    by_cases hc : ix a (k : Int) ∈ b <;> simp [hc]) (by unfold treatyref25_common_l6; rw [if_neg (by simp)])
  unfold treatyref25_common commonS
  rw [scanK st, findSome_if, any_ix (p := fun x => decide (x ∈ b))]
  cases a.any fun x => decide (x ∈ b)
  · simp
  · simp
def overS (p q : GPeriod) : Bool := ((decide (0 ≤ p.From) && decide (p.From < p.To)) && decide (p.To ≤ 876600)) && ((decide (0 ≤ q.From) && decide (q.From < q.To)) && decide (q.To ≤ 876600)) && !decide (minI p.To q.To ≤ maxI p.From q.From)
theorem over_eq (p q : GPeriod) : ∃ x, calendar_Overlap p q = some (x, overS p q) := by
  unfold calendar_Overlap calendar_Valid overS
  simp only [Option.bind_some]
  cases ((decide (0 ≤ p.From) && decide (p.From < p.To)) && decide (p.To ≤ 876600)) <;> cases ((decide (0 ≤ q.From) && decide (q.From < q.To)) && decide (q.To ≤ 876600)) <;> by_cases h : minI p.To q.To ≤ maxI p.From q.From <;> simp [h]
theorem rover_eq (p q : GPeriod) : ∃ x, treatyref01_Overlap p q = some (x, overS p q) := by
  unfold treatyref01_Overlap treatyref01_PeriodValid overS
  simp only [Option.bind_some]
  cases ((decide (0 ≤ p.From) && decide (p.From < p.To)) && decide (p.To ≤ 876600)) <;> cases ((decide (0 ≤ q.From) && decide (q.From < q.To)) && decide (q.To ≤ 876600)) <;> by_cases h : minI p.To q.To ≤ maxI p.From q.From <;> simp [h]
def meetS (a b : GTreaty) : Bool := overS a.Period b.Period && commonS a.Perils b.Perils && commonS a.Areas b.Areas && (((!decide (a.Kind = 3)) || (!decide (b.Kind = 3))) || decide (a.Risk = b.Risk))
theorem meet_eq {a b : GTreaty} (ha : TLen a) (hb : TLen b) : inuring_Meet a b = some (meetS a b) := by
  unfold inuring_Meet meetS
  obtain ⟨x, hx⟩ := over_eq a.Period b.Period
  rw [hx, Option.bind_some, common_eq ha.1 hb.1, common_eq ha.2 hb.2]
  dsimp only
  cases overS a.Period b.Period <;> cases commonS a.Perils b.Perils <;> cases commonS a.Areas b.Areas <;> simp
theorem rmeet_eq {a b : GTreaty} (ha : TLen a) (hb : TLen b) : treatyref25_Meet a b = some (meetS a b) := by
  unfold treatyref25_Meet meetS
  obtain ⟨x, hx⟩ := rover_eq a.Period b.Period
  rw [hx, Option.bind_some, rcommon_eq ha.1 hb.1, rcommon_eq ha.2 hb.2]
  dsimp only
  have e : (!((decide (a.Kind = 3) && decide (b.Kind = 3)) && !decide (a.Risk = b.Risk))) = (((!decide (a.Kind = 3)) || (!decide (b.Kind = 3))) || decide (a.Risk = b.Risk)) := by
    cases decide (a.Kind = 3) <;> cases decide (b.Kind = 3) <;> cases decide (a.Risk = b.Risk) <;> rfl
  rw [e]
  cases overS a.Period b.Period <;> cases commonS a.Perils b.Perils <;> cases commonS a.Areas b.Areas <;> simp
/-! ### towers -/
theorem ext_ix {a b : List Int} (hl : a.length = b.length) (h : ∀ k : Nat, k < a.length → ix a (k : Int) = ix b (k : Int)) : a = b := by
  apply List.ext_getElem hl
  intro k h1 h2
  have := h k h1
  rwa [ix_nat h1, ix_nat h2] at this
theorem equal_scan {a b : List Int} (hl : a.length = b.length) : (List.range a.length).findSome? (fun k : Nat => if (!decide (ix a (k : Int) = ix b (k : Int))) = true then some false else none) = if a = b then none else some false := by
  rw [findSome_if]
  by_cases hc : a = b
  · subst hc
    rw [if_pos rfl, if_neg]
    simp
  · rw [if_neg hc, if_pos]
    apply Classical.byContradiction
    intro hn
    apply hc
    apply ext_ix hl
    intro k hk
    apply Classical.byContradiction
    intro hk2
    exact hn (List.any_eq_true.2 ⟨k, List.mem_range.2 hk, by simpa using hk2⟩)
theorem equal_eq {a b : List Int} (ha : a.length ≤ 1000000000) : slices_Equal_s_int_int a b = some (decide (a = b)) := by
  unfold slices_Equal_s_int_int
  by_cases hl : a.length = b.length
  · rw [if_neg (by simp [hl])]
    have st := loop_scan (step := slices_Equal_s_int_int_l12 a b) (n := a.length) (fun k => if (!decide (ix a (k : Int) = ix b (k : Int))) = true then some false else none) (fun k hk => by
      unfold slices_Equal_s_int_int_l12
      rw [if_pos (by simpa using hk), chk_true (inb_nat hk), chk_true (inb_nat (by omega)), w64_succ (by omega)]
      by_cases hc : ix a (k : Int) = ix b (k : Int) <;> simp [hc]) (by unfold slices_Equal_s_int_int_l12; rw [if_neg (by simp)])
    rw [scanK st, equal_scan hl]
    by_cases hc : a = b <;> simp [hc]
  · rw [if_pos (by simp; omega)]
    have : a ≠ b := fun e => hl (by rw [e])
    simp [this]
theorem same_eq {a b : List Int} (ha : a.length ≤ 1000000000) : treatyref01_SameInts a b = some (decide (a = b)) := by
  unfold treatyref01_SameInts
  by_cases hl : a.length = b.length
  · rw [if_neg (by simp [hl])]
    have st := loop_scan (step := treatyref01_SameInts_l12 a b) (n := a.length) (fun k => if (!decide (ix a (k : Int) = ix b (k : Int))) = true then some false else none) (fun k hk => by
      unfold treatyref01_SameInts_l12
      rw [if_pos (by simpa using hk), chk_true (inb_nat hk), chk_true (inb_nat (by omega)), w64_succ (by omega)]
      by_cases hc : ix a (k : Int) = ix b (k : Int) <;> simp [hc]) (by unfold treatyref01_SameInts_l12; rw [if_neg (by simp)])
    rw [scanK st, equal_scan hl]
    by_cases hc : a = b <;> simp [hc]
  · rw [if_pos (by simp; omega)]
    have : a ≠ b := fun e => hl (by rw [e])
    simp [this]
def towerS (a b : GTreaty) : Bool := (decide (a.Kind = b.Kind) && (decide (a.Kind = 4) || decide (a.Kind = 5))) && (((decide ([a.Period.From, a.Period.To] = [b.Period.From, b.Period.To]) && decide (a.Window = b.Window)) && decide (a.Base = b.Base)) && decide (a.Perils = b.Perils) && decide (a.Areas = b.Areas) && decide (a.Inures = b.Inures))
theorem tower_eq {a b : GTreaty} (ha : TLen a) : inuring_SameTower a b = some (towerS a b) := by
  unfold inuring_SameTower towerS
  rw [equal_eq ha.1, equal_eq ha.2, equal_eq ha.3]
  cases decide (a.Kind = b.Kind) <;> cases decide (a.Kind = 4) <;> cases decide (a.Kind = 5) <;> cases decide ([a.Period.From, a.Period.To] = [b.Period.From, b.Period.To]) <;> cases decide (a.Window = b.Window) <;> cases decide (a.Base = b.Base) <;> cases decide (a.Perils = b.Perils) <;> cases decide (a.Areas = b.Areas) <;> rfl
theorem rtower_eq {a b : GTreaty} (ha : TLen a) : treatyref25_SameTower a b = some (towerS a b) := by
  unfold treatyref25_SameTower towerS treatyref25_excess
  rw [same_eq ha.1, same_eq ha.2, same_eq ha.3]
  cases decide (a.Kind = b.Kind) <;> cases decide (a.Kind = 4) <;> cases decide (a.Kind = 5) <;> cases decide ([a.Period.From, a.Period.To] = [b.Period.From, b.Period.To]) <;> cases decide (a.Window = b.Window) <;> cases decide (a.Base = b.Base) <;> cases decide (a.Perils = b.Perils) <;> cases decide (a.Areas = b.Areas) <;> rfl
def apartS (a b : GTreaty) : Bool := decide (w64 (a.Retention + a.Limit) ≤ b.Retention) || decide (w64 (b.Retention + b.Limit) ≤ a.Retention)
def clashS (a b : GTreaty) : Bool := (meetS a b && !decide (b.ID ∈ a.Inures) && !decide (a.ID ∈ b.Inures)) && !(towerS a b && apartS a b)
theorem clash_eq {a b : GTreaty} (ha : TLen a) (hb : TLen b) : inuring_clash a b = some (clashS a b) := by
  unfold inuring_clash clashS apartS
  rw [meet_eq ha hb, tower_eq ha, contains_eq ha.3, contains_eq hb.3]
  cases meetS a b <;> cases decide (b.ID ∈ a.Inures) <;> cases decide (a.ID ∈ b.Inures) <;> cases towerS a b <;> simp
end Go.Proofs.Ytfekcgnnhjmeiaa.Pl
