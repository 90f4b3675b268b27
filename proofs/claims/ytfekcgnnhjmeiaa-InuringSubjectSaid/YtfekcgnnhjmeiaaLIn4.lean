/- Inuring (plain): which treaties are valid together, by the program and by the document. -/
import Derived.Test.YtfekcgnnhjmeiaaLIn3
namespace Go.Proofs.Ytfekcgnnhjmeiaa.Pl
open Go

def TsLen (ts : List GTreaty) : Prop := ∀ k : Nat, k < ts.length → TLen (ix ts (k : Int))
def st1F (ts : List GTreaty) (k : Nat) : Option Int := if validE (ix ts (k : Int)) ≠ 0 then some (validE (ix ts (k : Int))) else if 0 < k ∧ (ix ts (k : Int)).ID ≤ (ix ts ((k - 1 : Nat) : Int)).ID then some 13 else none
def st1 (ts : List GTreaty) : Option Int := (List.range ts.length).findSome? (st1F ts)
def st2F (ts : List GTreaty) (i : Nat) : Option Int := (List.range (ix ts (i : Int)).Inures.length).findSome? fun j : Nat => if decide (idxOf ts (ix (ix ts (i : Int)).Inures (j : Int)) < 0) = true then some 7 else none
def st2 (ts : List GTreaty) : Option Int := (List.range ts.length).findSome? (st2F ts)
def st4F (ts : List GTreaty) (i : Nat) : Option Int := (List.range i).findSome? fun j : Nat => if clashS (ix ts (i : Int)) (ix ts (j : Int)) = true then some 8 else none
def st4 (ts : List GTreaty) : Option Int := (List.range ts.length).findSome? (st4F ts)
open Classical in
noncomputable def vOf (ts : List GTreaty) : Int := if 12 < ts.length then 4 else (st1 ts).elim ((st2 ts).elim (if Cyc ts then 10 else (st4 ts).elim 0 id) id) id
/-! ### what the stages tell -/
theorem findSome_none {O : Type} {n : Nat} {f : Nat → Option O} (h : (List.range n).findSome? f = none) {k : Nat} (hk : k < n) : f k = none := List.findSome?_eq_none_iff.1 h k (List.mem_range.2 hk)
theorem none_findSome {O : Type} {n : Nat} {f : Nat → Option O} (h : ∀ k, k < n → f k = none) : (List.range n).findSome? f = none := List.findSome?_eq_none_iff.2 fun k hk => h k (List.mem_range.1 hk)
theorem st1_at {ts : List GTreaty} (h : st1 ts = none) {k : Nat} (hk : k < ts.length) : validE (ix ts (k : Int)) = 0 ∧ (0 < k → (ix ts ((k - 1 : Nat) : Int)).ID < (ix ts (k : Int)).ID) := by
  have h1 := findSome_none h hk
  unfold st1F at h1
  by_cases c1 : validE (ix ts (k : Int)) = 0
  · rw [if_neg (not_not_intro c1)] at h1
    refine ⟨c1, fun h0 => ?_⟩
    apply Classical.byContradiction
    intro hn
    rw [if_pos ⟨h0, by omega⟩] at h1
    cases h1
  · rw [if_pos c1] at h1
    cases h1
theorem st1_lt {ts : List GTreaty} (h : st1 ts = none) {i : Nat} : ∀ {j : Nat}, i < j → j < ts.length → (ix ts (i : Int)).ID < (ix ts (j : Int)).ID := by
  intro j
  induction j with
  | zero => intro h; omega
  | succ j ih =>
    intro h1 h2
    have h3 := (st1_at h h2).2 (by omega)
    rw [Nat.add_sub_cancel] at h3
    by_cases e : i = j
    · subst e; exact h3
    · have := ih (by omega) (by omega)
      omega
theorem st1_uniq {ts : List GTreaty} (h : st1 ts = none) : Uniq ts := by
  intro i j hi hj e
  rcases Nat.lt_trichotomy i j with hc | hc | hc
  · have := st1_lt h hc hj; omega
  · exact hc
  · have := st1_lt h hc hi; omega
theorem st2_known {ts : List GTreaty} (h : st2 ts = none) : Known ts := by
  intro i hi id hid
  have h1 := findSome_none h hi
  unfold st2F at h1
  obtain ⟨p, hp, rfl⟩ := List.getElem_of_mem hid
  have h2 := findSome_none h1 hp
  rw [ix_nat hp] at h2
  apply Classical.byContradiction
  intro hn
  rw [if_pos (by simpa using hn)] at h2
  cases h2
theorem st4_at {ts : List GTreaty} (h : st4 ts = none) {i j : Nat} (hi : i < ts.length) (hj : j < i) : clashS (ix ts (i : Int)) (ix ts (j : Int)) = false := by
  have h1 := findSome_none h hi
  unfold st4F at h1
  have h2 := findSome_none h1 hj
  apply Classical.byContradiction
  intro hn
  rw [if_pos (by simpa using hn)] at h2
  cases h2
theorem st1_some {ts : List GTreaty} {e : Int} (h : st1 ts = some e) : e ≠ 0 := by
  obtain ⟨k, _, h1⟩ := List.exists_of_findSome?_eq_some h
  unfold st1F at h1
  split at h1
  · rename_i hc; cases h1; exact hc
  · split at h1
    · cases h1; decide
    · cases h1
theorem st2_some {ts : List GTreaty} {e : Int} (h : st2 ts = some e) : e = 7 := by
  obtain ⟨k, _, h1⟩ := List.exists_of_findSome?_eq_some h
  obtain ⟨j, _, h2⟩ := List.exists_of_findSome?_eq_some h1
  split at h2 <;> cases h2
  rfl
theorem st4_some {ts : List GTreaty} {e : Int} (h : st4 ts = some e) : e = 8 := by
  obtain ⟨k, _, h1⟩ := List.exists_of_findSome?_eq_some h
  obtain ⟨j, _, h2⟩ := List.exists_of_findSome?_eq_some h1
  split at h2 <;> cases h2
  rfl
structure AllOk (ts : List GTreaty) : Prop where
  few : ts.length ≤ 12
  s1 : st1 ts = none
  s2 : st2 ts = none
  s3 : ¬ Cyc ts
  s4 : st4 ts = none
theorem vOf_zero {ts : List GTreaty} (h : vOf ts = 0) : AllOk ts := by
  unfold vOf at h
  by_cases c0 : 12 < ts.length
  · rw [if_pos c0] at h; cases h
  · rw [if_neg c0] at h
    cases h1 : st1 ts with
    | some e => rw [h1] at h; exact absurd h (st1_some h1)
    | none =>
      rw [h1] at h
      cases h2 : st2 ts with
      | some e =>
        rw [h2] at h
        have := st2_some h2
        subst this
        cases h
      | none =>
        rw [h2] at h
        dsimp only [Option.elim] at h
        by_cases c3 : Cyc ts
        · rw [if_pos c3] at h; cases h
        · rw [if_neg c3] at h
          cases h4 : st4 ts with
          | some e =>
            rw [h4] at h
            have := st4_some h4
            subst this
            cases h
          | none => exact ⟨by omega, h1, h2, c3, h4⟩
theorem vOf_ok {ts : List GTreaty} (h : AllOk ts) : vOf ts = 0 := by
  unfold vOf
  rw [if_neg (by have := h.few; omega), h.s1, h.s2, h.s4]
  dsimp only [Option.elim]
  rw [if_neg h.s3]
/-! ### the loops of the program -/
theorem prevT_check {ts : List GTreaty} {k : Nat} (hk : k < ts.length) (hl : ts.length ≤ 1000000) :
    (if (decide (0 < (k : Int))) = true then (chk (inb ts (w64 ((k : Int) - 1))) <| some (decide ((ix ts (k : Int)).ID ≤ (ix ts (w64 ((k : Int) - 1))).ID))) else (some false)) = some (decide (0 < k ∧ (ix ts (k : Int)).ID ≤ (ix ts ((k - 1 : Nat) : Int)).ID)) := by
  cases k with
  | zero => simp
  | succ k =>
    have e : w64 (((k + 1 : Nat) : Int) - 1) = (k : Int) := by rw [w64_id (by omega) (by omega)]; omega
    rw [if_pos (by simp), e, chk_true (inb_nat (by omega)), Nat.add_sub_cancel]
    simp
theorem l12_eq {ts : List GTreaty} (hl : ts.length ≤ 1000000) (ht : TsLen ts) : loopV (inuring_Validate_l12 ts) 0 = some ((st1 ts).elim (.inr ()) .inl) := by
  refine loop_scan (st1F ts) (fun k hk => ?_) (by unfold inuring_Validate_l12; rw [if_neg (by simp)])
  unfold inuring_Validate_l12 st1F
  rw [if_pos (by simpa using hk), chk_true (inb_nat hk), validate_eq (ht k hk), Option.bind_some, prevT_check hk hl, Option.bind_some, w64_succ (by omega)]
  by_cases c1 : validE (ix ts (k : Int)) = 0
  · rw [if_neg (by simp [c1]), if_neg (not_not_intro c1)]
    by_cases c2 : 0 < k ∧ (ix ts (k : Int)).ID ≤ (ix ts ((k - 1 : Nat) : Int)).ID
    · rw [if_pos (decide_eq_true c2), if_pos c2]; rfl
    · rw [if_neg (by simpa using c2), if_neg c2]; rfl
  · rw [if_pos (by simp [c1]), if_pos c1]; rfl
theorem r12_eq {ts : List GTreaty} (hl : ts.length ≤ 1000000) (ht : TsLen ts) : loopV (treatyref25_Treaties_l12 ts) 0 = some ((st1 ts).elim (.inr ()) .inl) := by
  refine loop_scan (st1F ts) (fun k hk => ?_) (by unfold treatyref25_Treaties_l12; rw [if_neg (by simp)])
  unfold treatyref25_Treaties_l12 st1F
  rw [if_pos (by simpa using hk), chk_true (inb_nat hk), rvalidate_eq (ht k hk), Option.bind_some, prevT_check hk hl, Option.bind_some, w64_succ (by omega)]
  by_cases c1 : validE (ix ts (k : Int)) = 0
  · rw [if_neg (by simp [c1]), if_neg (not_not_intro c1)]
    by_cases c2 : 0 < k ∧ (ix ts (k : Int)).ID ≤ (ix ts ((k - 1 : Nat) : Int)).ID
    · rw [if_pos (decide_eq_true c2), if_pos c2]; rfl
    · rw [if_neg (by simpa using c2), if_neg c2]; rfl
  · rw [if_pos (by simp [c1]), if_pos c1]; rfl
theorem elim_some {O R : Type} (F : Option O) (a : R) (b : O → R) : F.elim (some a) (fun t => some (b t)) = some (F.elim a b) := by cases F <;> rfl
theorem l40_eq {ts : List GTreaty} (hl : ts.length ≤ 1000000) (ht : TsLen ts) : loopV (inuring_Validate_l40 ts) 0 = some ((st2 ts).elim (.inr ()) .inl) := by
  refine loop_scan (st2F ts) (fun k hk => ?_) (by unfold inuring_Validate_l40; rw [if_neg (by simp)])
  have st := loop_scan (step := inuring_Validate_l53 ts (k : Int)) (n := (ix ts (k : Int)).Inures.length) (fun j : Nat => if decide (idxOf ts (ix (ix ts (k : Int)).Inures (j : Int)) < 0) = true then some 7 else none) (fun j hj => by
    unfold inuring_Validate_l53
    rw [if_pos (by simpa using hj), chk_true (inb_nat hj), index_eq (by omega), Option.bind_some, w64_succ (by have := (ht k hk).3; omega)]
    by_cases c : idxOf ts (ix (ix ts (k : Int)).Inures (j : Int)) < 0 <;> simp [c]) (by unfold inuring_Validate_l53; rw [if_neg (by simp)])
  unfold inuring_Validate_l40
  rw [if_pos (by simpa using hk), chk_true (inb_nat hk), scanK st, w64_succ (by omega)]
  exact elim_some _ _ _
theorem r40_eq {ts : List GTreaty} (hl : ts.length ≤ 1000000) (ht : TsLen ts) : loopV (treatyref25_Treaties_l40 ts) 0 = some ((st2 ts).elim (.inr ()) .inl) := by
  refine loop_scan (st2F ts) (fun k hk => ?_) (by unfold treatyref25_Treaties_l40; rw [if_neg (by simp)])
  have st := loop_scan (step := treatyref25_Treaties_l53 ts (k : Int)) (n := (ix ts (k : Int)).Inures.length) (fun j : Nat => if decide (idxOf ts (ix (ix ts (k : Int)).Inures (j : Int)) < 0) = true then some 7 else none) (fun j hj => by
    unfold treatyref25_Treaties_l53
    rw [if_pos (by simpa using hj), chk_true (inb_nat hj), rindex_eq (by omega), Option.bind_some, w64_succ (by have := (ht k hk).3; omega)]
    by_cases c : idxOf ts (ix (ix ts (k : Int)).Inures (j : Int)) < 0 <;> simp [c]) (by unfold treatyref25_Treaties_l53; rw [if_neg (by simp)])
  unfold treatyref25_Treaties_l40
  rw [if_pos (by simpa using hk), chk_true (inb_nat hk), scanK st, w64_succ (by omega)]
  exact elim_some _ _ _
theorem ix_take {α : Type} [Inhabited α] {l : List α} {i j : Nat} (h : j < i) : ix (l.take i) (j : Int) = ix l (j : Int) := by
  unfold ix
  rw [Int.toNat_natCast, List.getD_eq_getElem?_getD, List.getD_eq_getElem?_getD, List.getElem?_take, if_pos h]
theorem l96_eq {ts : List GTreaty} (hl : ts.length ≤ 1000000) (ht : TsLen ts) : loopV (inuring_Validate_l96 ts) 0 = some ((st4 ts).elim (.inr ()) .inl) := by
  refine loop_scan (st4F ts) (fun i hi => ?_) (by unfold inuring_Validate_l96; rw [if_neg (by simp)])
  have hlen : (ts.take i).length = i := by rw [List.length_take]; omega
  have st := loop_scan (step := inuring_Validate_l109 ts (i : Int)) (n := i) (fun j : Nat => if clashS (ix ts (i : Int)) (ix ts (j : Int)) = true then some 8 else none) (fun j hj => by
    unfold inuring_Validate_l109
    rw [Int.toNat_natCast, if_pos (by rw [hlen]; simpa using hj), chk_true (inb_nat (by rw [hlen]; exact hj)), ix_take hj, clash_eq (ht i hi) (ht j (by omega)), Option.bind_some, w64_succ (by omega)]
    cases clashS (ix ts (i : Int)) (ix ts (j : Int)) <;> rfl) (by unfold inuring_Validate_l109; rw [Int.toNat_natCast, if_neg (by rw [hlen]; simp)])
  unfold inuring_Validate_l96
  rw [if_pos (by simpa using hi), chk_true (inb_nat hi), chk_true (by simp), chk_true (by simp; omega), scanK st, w64_succ (by omega)]
  exact elim_some _ _ _
theorem r94_eq {ts : List GTreaty} (hl : ts.length ≤ 1000000) (ht : TsLen ts) : loopV (treatyref25_Treaties_l94 ts) 0 = some ((st4 ts).elim (.inr ()) .inl) := by
  refine loop_scan (st4F ts) (fun i hi => ?_) (by unfold treatyref25_Treaties_l94; rw [if_neg (by simp)])
  have hlen : (ts.take i).length = i := by rw [List.length_take]; omega
  have st := loop_scan (step := treatyref25_Treaties_l107 ts (i : Int)) (n := i) (fun j : Nat => if clashS (ix ts (i : Int)) (ix ts (j : Int)) = true then some 8 else none) (fun j hj => by
    have hti := ht i hi
    have htj := ht j (by omega)
    unfold treatyref25_Treaties_l107
    rw [Int.toNat_natCast, if_pos (by rw [hlen]; simpa using hj), chk_true (inb_nat (by rw [hlen]; exact hj)), ix_take hj, rtower_eq hti, Option.bind_some, rmeet_eq hti htj, Option.bind_some, has_eq hti.3, has_eq htj.3, w64_succ (by omega)]
    unfold clashS apartS
    rw [Bool.or_comm (decide (w64 ((ix ts (i : Int)).Retention + (ix ts (i : Int)).Limit) ≤ (ix ts (j : Int)).Retention))]
    cases meetS (ix ts (i : Int)) (ix ts (j : Int)) <;> cases decide ((ix ts (j : Int)).ID ∈ (ix ts (i : Int)).Inures) <;> cases decide ((ix ts (i : Int)).ID ∈ (ix ts (j : Int)).Inures) <;> (try rfl)
    simp only [Option.bind_some, if_true, Bool.not_false, Bool.true_and, Bool.and_true]
    generalize (!(towerS (ix ts (i : Int)) (ix ts (j : Int)) && _)) = b
    cases b <;> rfl) (by unfold treatyref25_Treaties_l107; rw [Int.toNat_natCast, if_neg (by rw [hlen]; simp)])
  unfold treatyref25_Treaties_l94
  rw [if_pos (by simpa using hi), chk_true (inb_nat hi), chk_true (by simp), chk_true (by simp; omega), scanK st, w64_succ (by omega)]
  exact elim_some _ _ _
open Classical in
theorem r74_eq {ts : List GTreaty} (hl : ts.length ≤ 1000000) (ht : TsLen ts) (hu : Uniq ts) : loopV (treatyref25_Treaties_l74 ts) 0 = some (if Cyc ts then .inl 10 else .inr ()) := by
  have st := loop_scan (step := treatyref25_Treaties_l74 ts) (n := ts.length) (fun k => if decide (Relation.TransGen (Edge ts) k k) = true then some 10 else none) (fun k hk => by
    unfold treatyref25_Treaties_l74
    rw [if_pos (by simpa using hk), rdep_eq hl hu (fun k hk => (ht k hk).3) hk hk, Option.bind_some, w64_succ (by omega)]
    by_cases c : Relation.TransGen (Edge ts) k k <;> simp [c]) (by unfold treatyref25_Treaties_l74; rw [if_neg (by simp)])
  rw [st, findSome_if]
  by_cases hc : Cyc ts
  · rw [if_pos hc]
    obtain ⟨k, hk, h⟩ := hc
    rw [if_pos (List.any_eq_true.2 ⟨k, List.mem_range.2 hk, decide_eq_true h⟩)]
    rfl
  · rw [if_neg hc, if_neg]
    · rfl
    · intro h
      obtain ⟨k, hk, h2⟩ := List.any_eq_true.1 h
      exact hc ⟨k, List.mem_range.1 hk, of_decide_eq_true h2⟩
/-! ### the whole -/
theorem scanK2 {R : Type} {l : Option (Int ⊕ Unit)} {F : Option Int} (h : l = some (F.elim (.inr ()) .inl)) (K : Option R) (J : Int → Option R) : ((l.bind fun q => (Sum.elim (fun t => some (.inr t)) (fun t => some (.inl t))) q : Option (Unit ⊕ Int)).bind fun q => (Sum.elim (fun _ => K) (fun t => J t)) q) = F.elim K J := scanK h K J
theorem validateAll {ts : List GTreaty} (hl : ts.length ≤ 1000000) (ht : TsLen ts) : inuring_Validate ts = some (vOf ts) := by
  unfold inuring_Validate vOf
  by_cases c0 : 12 < ts.length
  · rw [if_pos (by simp; omega), if_pos c0]
  rw [if_neg (by simp; omega), if_neg c0, scanK (l12_eq hl ht)]
  cases h1 : st1 ts with
  | some e => rfl
  | none =>
    dsimp only [Option.elim]
    rw [scanK (l40_eq hl ht)]
    cases h2 : st2 ts with
    | some e => rfl
    | none =>
      dsimp only [Option.elim]
      rw [chk_true (by simp), chk_true (by simp; omega), Int.toNat_natCast]
      rcases cyc_loop (by omega) (st2_known h2) (fun i hi => (ht i hi).3) with ⟨hc, h3⟩ | ⟨hs, h3⟩
      · rw [h3, if_pos hc]
        rfl
      · have hc : ¬ Cyc ts := fun ⟨k, hk, h⟩ => safe_no (hs k hk) h
        rw [if_neg hc]
        refine (scanK (F := none) h3 _ _).trans ?_
        dsimp only [Option.elim]
        rw [scanK (l96_eq hl ht)]
        cases st4 ts <;> rfl
theorem treatiesAll {ts : List GTreaty} (hl : ts.length ≤ 1000000) (ht : TsLen ts) : treatyref25_Treaties ts = some (vOf ts) := by
  unfold treatyref25_Treaties vOf
  by_cases c0 : 12 < ts.length
  · rw [if_pos (by simp; omega), if_pos c0]
  rw [if_neg (by simp; omega), if_neg c0, scanK (r12_eq hl ht)]
  cases h1 : st1 ts with
  | some e => rfl
  | none =>
    dsimp only [Option.elim]
    rw [scanK (r40_eq hl ht)]
    cases h2 : st2 ts with
    | some e => rfl
    | none =>
      dsimp only [Option.elim]
      rw [r74_eq hl ht (st1_uniq h1)]
      by_cases hc : Cyc ts
      · rw [if_pos hc, if_pos hc]
        rfl
      · rw [if_neg hc, if_neg hc]
        refine (scanK (F := none) rfl _ _).trans ?_
        dsimp only [Option.elim]
        rw [scanK (r94_eq hl ht)]
        cases st4 ts <;> rfl
theorem safe_all {ts : List GTreaty} (ht : TsLen ts) (h : AllOk ts) {k : Nat} (hk : k < ts.length) : Safe ts k := by
  rcases cyc_loop (by have := h.few; omega) (st2_known h.s2) (fun i hi => (ht i hi).3) with ⟨hc, _⟩ | ⟨hs, _⟩
  · exact absurd hc h.s3
  · exact hs k hk
end Go.Proofs.Ytfekcgnnhjmeiaa.Pl
