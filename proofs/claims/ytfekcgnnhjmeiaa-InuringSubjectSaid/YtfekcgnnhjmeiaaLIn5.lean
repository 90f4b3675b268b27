/- Inuring (plain): the order of the treaties, by the program and by the document. -/
import Derived.Test.YtfekcgnnhjmeiaaLIn4
namespace Go.Proofs.Ytfekcgnnhjmeiaa.Pl
open Go

def readyB (ts : List GTreaty) (out : List Int) (i : Nat) : Bool := !decide ((i : Int) ∈ out) && (ix ts (i : Int)).Inures.all fun id => decide (idxOf ts id ∈ out)
def Least (ts : List GTreaty) (out : List Int) (i : Nat) : Prop := i < ts.length ∧ readyB ts out i = true ∧ ∀ j, j < i → readyB ts out j = false
/-- somebody is ready -/
theorem ready_ex {ts : List GTreaty} (hk : Known ts) {out : List Int} {k : Nat} (hs : Safe ts k) : k < ts.length → (k : Int) ∉ out → ∃ i, i < ts.length ∧ readyB ts out i = true := by
  induction hs with
  | intro k _ ih =>
    intro hkl hko
    by_cases hr : readyB ts out k = true
    · exact ⟨k, hkl, hr⟩
    · unfold readyB at hr
      rw [decide_eq_false hko, Bool.not_false, Bool.true_and] at hr
      have : ∃ id ∈ (ix ts (k : Int)).Inures, ¬ idxOf ts id ∈ out := by
        apply Classical.byContradiction
        intro hn
        exact hr (List.all_eq_true.2 fun id hid => decide_eq_true (Classical.byContradiction fun h => hn ⟨id, hid, h⟩))
      obtain ⟨id, hid, hno⟩ := this
      have h0 := hk k hkl id hid
      rcases idxOf_cases ts id with ⟨h1, _⟩ | ⟨j, hj, h1, _⟩
      · omega
      · exact ih j ⟨hkl, hj, id, hid, h1⟩ hj (by rw [← h1]; exact hno)
theorem least_of {ts : List GTreaty} {out : List Int} : ∀ {i : Nat}, i < ts.length → readyB ts out i = true → ∃ i, Least ts out i := by
  intro i
  induction i using Nat.strongRecOn with
  | _ i ih =>
    intro hi hr
    by_cases h : ∃ j, j < i ∧ readyB ts out j = true
    · obtain ⟨j, hj, hj2⟩ := h
      exact ih j hj (by omega) hj2
    · exact ⟨i, hi, hr, fun j hj => Bool.eq_false_iff.2 fun h2 => h ⟨j, hj, h2⟩⟩
/-! ### the document -/
theorem l40o_eq {ts : List GTreaty} (hl : ts.length ≤ 1000000) (ht : TsLen ts) {out : List Int} (ho : out.length ≤ 1000000000) {i : Nat} (hi : i < ts.length) : loopV (treatyref25_Order_l40 ts out (i : Int)) (!decide ((i : Int) ∈ out), 0) = some (readyB ts out i) := by
  have hin := (ht i hi).3
  have h := loopV_done (step := treatyref25_Order_l40 ts out (i : Int)) (fun k => (!decide ((i : Int) ∈ out) && ((ix ts (i : Int)).Inures.take k).all fun id => decide (idxOf ts id ∈ out), (k : Int))) (ix ts (i : Int)).Inures.length (readyB ts out i) (fun k hk => by
    unfold treatyref25_Order_l40
    dsimp only
    rw [if_pos (by simpa using hk), chk_true (inb_nat hk), w64_succ (by omega), rindex_eq (by omega), Option.bind_some, has_eq ho, Option.bind_some, ix_nat hk]
    have e : ((ix ts (i : Int)).Inures.take (k + 1)).all (fun id => decide (idxOf ts id ∈ out)) = (((ix ts (i : Int)).Inures.take k).all (fun id => decide (idxOf ts id ∈ out)) && decide (idxOf ts (ix ts (i : Int)).Inures[k] ∈ out)) := by
      rw [List.take_succ_eq_append_getElem hk, List.all_append]
      simp only [List.all_cons, List.all_nil, Bool.and_true]
    rw [e, ← Bool.and_assoc]
    cases (!decide ((i : Int) ∈ out) && ((ix ts (i : Int)).Inures.take k).all fun id => decide (idxOf ts id ∈ out)) <;> rfl) (by
    unfold treatyref25_Order_l40
    dsimp only
    rw [if_neg (by simp), List.take_length]
    rfl)
  simpa using h
theorem l24o_eq {ts : List GTreaty} (hl : ts.length ≤ 1000000) (ht : TsLen ts) {out : List Int} (ho : out.length ≤ 1000000) {i : Nat} (hi : Least ts out i) : loopV (treatyref25_Order_l24 ts out) 0 = some (out ++ [(i : Int)]) := by
  obtain ⟨h1, h2, h3⟩ := hi
  refine loopV_done (fun k => (k : Int)) i _ (fun k hk => ?_) ?_
  · unfold treatyref25_Order_l24
    rw [if_pos (by simp; omega), chk_true (inb_nat (by omega)), has_eq (by omega), Option.bind_some, l40o_eq hl ht (by omega) (by omega), Option.bind_some, h3 k hk, w64_succ (by omega)]
    rfl
  · unfold treatyref25_Order_l24
    rw [if_pos (by simp; omega), chk_true (inb_nat (by omega)), has_eq (by omega), Option.bind_some, l40o_eq hl ht (by omega) (by omega), Option.bind_some, h2, if_pos rfl, chk_true (room_of (by simp; omega))]
    rfl
/-! ### the program -/
theorem blocked_eq {ts : List GTreaty} (hl : ts.length ≤ 1000000) (ht : TsLen ts) (hk : Known ts) {come : List Bool} {out : List Int} (hc : come.length = ts.length) (hco : ∀ k : Nat, k < ts.length → ix come (k : Int) = decide ((k : Int) ∈ out)) {i : Nat} (hi : i < ts.length) :
    inuring_queue_blocked (Gqueue.mk ts come) (i : Int) = some (if ((ix ts (i : Int)).Inures.all fun id => decide (idxOf ts id ∈ out)) = true then 0 else 1) := by
  have hin := (ht i hi).3
  have st := loop_scan (step := inuring_queue_blocked_l6 (Gqueue.mk ts come) (i : Int)) (n := (ix ts (i : Int)).Inures.length) (fun k => if (!decide (idxOf ts (ix (ix ts (i : Int)).Inures (k : Int)) ∈ out)) = true then some 1 else none) (fun k hk1 => by
    unfold inuring_queue_blocked_l6
    dsimp only
    have hIn : ix (ix ts (i : Int)).Inures (k : Int) ∈ (ix ts (i : Int)).Inures := by rw [ix_nat hk1]; exact List.getElem_mem hk1
    have h0 := hk i hi _ hIn
    rw [if_pos (by simpa using hk1), chk_true (inb_nat hk1), index_eq (by omega), Option.bind_some, if_pos (by simpa using h0), w64_succ (by omega)]
    rcases idxOf_cases ts (ix (ix ts (i : Int)).Inures (k : Int)) with ⟨h1, _⟩ | ⟨j, hj, h1, _⟩
    · omega
    · rw [h1, chk_true (inb_nat (by omega)), Option.bind_some, hco j hj]
      by_cases c : (j : Int) ∈ out <;> simp [c]) (by unfold inuring_queue_blocked_l6; dsimp only; rw [if_neg (by simp)])
  unfold inuring_queue_blocked
  dsimp only
  rw [chk_true (inb_nat hi), scanK st, findSome_if, any_ix (p := fun id => !decide (idxOf ts id ∈ out))]
  have e : ((ix ts (i : Int)).Inures.any fun id => !decide (idxOf ts id ∈ out)) = !((ix ts (i : Int)).Inures.all fun id => decide (idxOf ts id ∈ out)) := by rw [List.not_all_eq_any_not]
  rw [e]
  cases (ix ts (i : Int)).Inures.all fun id => decide (idxOf ts id ∈ out) <;> rfl
def cmpI (a b : Int) : Int := if a < b then -1 else if b < a then 1 else 0
theorem compare_eq (a b : Int) : cmp_Compare_int a b = some (cmpI a b) := by
  unfold cmp_Compare_int cmp_isNaN_int cmpI
  simp only [Option.bind_some, decide_true, Bool.not_true, Bool.false_eq_true, if_false, decide_eq_true_eq]
  split
  · rfl
  · split <;> rfl
theorem or_eq (a b : Int) : cmp_Or_int [a, b] = some (if a ≠ 0 then a else b) := by
  have st := loop_scan (step := cmp_Or_int_l8 [a, b]) (n := 2) (fun k => if ix [a, b] (k : Int) ≠ 0 then some (ix [a, b] (k : Int)) else none) (fun k hk => by
    unfold cmp_Or_int_l8
    rw [if_pos (by simp; omega), chk_true (inb_nat (by simpa using hk)), w64_succ (by omega)]
    by_cases c : ix [a, b] (k : Int) = 0 <;> simp [c]) (by unfold cmp_Or_int_l8; rw [if_neg (by simp)])
  unfold cmp_Or_int
  rw [scanK st]
  have e : List.range 2 = [0, 1] := rfl
  rw [e]
  have e0 : ix [a, b] ((0 : Nat) : Int) = a := rfl
  have e1 : ix [a, b] ((1 : Nat) : Int) = b := rfl
  simp only [List.findSome?_cons, e0, e1, List.findSome?_nil]
  by_cases ha : a = 0 <;> by_cases hb : b = 0 <;> simp [ha, hb]
/-- the place of a treaty that waits -/
def blk (ts : List GTreaty) (out : List Int) (i : Nat) : Int := if ((ix ts (i : Int)).Inures.all fun id => decide (idxOf ts id ∈ out)) = true then 0 else 1
def Lex (ts : List GTreaty) (out : List Int) (a b : Nat) : Prop := blk ts out a < blk ts out b ∨ (blk ts out a = blk ts out b ∧ a ≤ b)
theorem comp_eq {ts : List GTreaty} (hl : ts.length ≤ 1000000) (ht : TsLen ts) (hk : Known ts) {come : List Bool} {out : List Int} (hc : come.length = ts.length) (hco : ∀ k : Nat, k < ts.length → ix come (k : Int) = decide ((k : Int) ∈ out)) {i j : Nat} (hi : i < ts.length) (hj : j < ts.length) :
    ∃ r, inuring_queue_compare (Gqueue.mk ts come) (i : Int) (j : Int) = some r ∧ (r < 0 ↔ ¬ Lex ts out j i) := by
  unfold inuring_queue_compare
  rw [blocked_eq hl ht hk hc hco hi, blocked_eq hl ht hk hc hco hj, Option.bind_some, Option.bind_some, compare_eq, compare_eq, Option.bind_some, Option.bind_some, or_eq]
  refine ⟨_, rfl, ?_⟩
  show (if cmpI (blk ts out i) (blk ts out j) ≠ 0 then cmpI (blk ts out i) (blk ts out j) else cmpI (i : Int) (j : Int)) < 0 ↔ _
  unfold Lex cmpI
  generalize blk ts out i = x
  generalize blk ts out j = y
  by_cases h1 : x < y
  · rw [if_pos h1, if_pos (by decide)]
    exact ⟨fun _ => by omega, fun _ => by decide⟩
  · rw [if_neg h1]
    by_cases h2 : y < x
    · rw [if_pos h2, if_pos (by decide)]
      exact ⟨fun h => absurd h (by decide), fun h => absurd (.inl h2) h⟩
    · rw [if_neg h2, if_neg (by decide)]
      by_cases h3 : (i : Int) < (j : Int)
      · rw [if_pos h3]
        exact ⟨fun _ => by omega, fun _ => by decide⟩
      · rw [if_neg h3]
        refine ⟨fun h => ?_, fun h => absurd (.inr ⟨by omega, by omega⟩) h⟩
        split at h <;> exact absurd h (by decide)
theorem Lex.refl {ts : List GTreaty} {out : List Int} {a : Nat} : Lex ts out a a := .inr ⟨rfl, Nat.le_refl _⟩
theorem Lex.trans {ts : List GTreaty} {out : List Int} {a b c : Nat} (h : Lex ts out a b) (h' : Lex ts out b c) : Lex ts out a c := by unfold Lex at *; omega
theorem Lex.total {ts : List GTreaty} {out : List Int} {a b : Nat} (h : ¬ Lex ts out a b) : Lex ts out b a := by unfold Lex at *; omega
/-- the first of those who wait -/
theorem min_eq {ts : List GTreaty} (hl : ts.length ≤ 1000000) (ht : TsLen ts) (hk : Known ts) {come : List Bool} {out : List Int} (hc : come.length = ts.length) (hco : ∀ k : Nat, k < ts.length → ix come (k : Int) = decide ((k : Int) ∈ out)) {w : List Int} (hw : ∀ x ∈ w, ∃ a : Nat, a < ts.length ∧ x = (a : Int)) (h0 : w ≠ []) (hwl : w.length ≤ 1000000) :
    ∃ m : Nat, slices_MinFunc_s_int_int_inuring_queue_compare w (Gqueue.mk ts come) = some (m : Int) ∧ (m : Int) ∈ w ∧ ∀ a : Nat, (a : Int) ∈ w → Lex ts out m a := by
  have hpos : 0 < w.length := List.length_pos_iff.2 h0
  obtain ⟨o, h1, h2⟩ := loopV_inv (step := slices_MinFunc_s_int_int_inuring_queue_compare_l13 w (Gqueue.mk ts come))
    (fun s => ∃ (m q : Nat), s = ((m : Int), (q : Int)) ∧ q ≤ w.length ∧ (m : Int) ∈ w ∧ ∀ a : Nat, (a : Int) ∈ w.take q → Lex ts out m a)
    (fun s => w.length - s.2.toNat) (fun o => ∃ m : Nat, o = (m : Int) ∧ (m : Int) ∈ w ∧ ∀ a : Nat, (a : Int) ∈ w → Lex ts out m a)
    (by
      rintro ⟨_, _⟩ ⟨m, q, he, hq, hm, hle⟩
      cases he
      unfold slices_MinFunc_s_int_int_inuring_queue_compare_l13
      dsimp only
      by_cases hcq : q < w.length
      · obtain ⟨a, ha, hax⟩ := hw _ (List.getElem_mem hcq)
        obtain ⟨m', hm', hmx⟩ := hw _ hm
        have : m' = m := by omega
        subst this
        obtain ⟨r, e1, e2⟩ := comp_eq hl ht hk hc hco ha hm'
        rw [if_pos (by simpa using hcq), chk_true (inb_nat hcq), ix_nat hcq, hax, e1, Option.bind_some, w64_succ (by omega)]
        have hmem : ∀ b : Nat, (b : Int) ∈ w.take (q + 1) → (b : Int) ∈ w.take q ∨ b = a := by
          intro b hb
          rw [List.take_succ_eq_append_getElem hcq, List.mem_append, List.mem_singleton, hax] at hb
          rcases hb with hb | hb
          · exact .inl hb
          · exact .inr (by omega)
        by_cases hr : r < 0
        · rw [if_pos (by simpa using hr)]
          have hlx := (e2.1 hr)
          refine ⟨_, rfl, ⟨a, q + 1, rfl, by omega, hax ▸ List.getElem_mem hcq, fun b hb => ?_⟩, by dsimp only; omega⟩
          rcases hmem b hb with hb | rfl
          · exact (Lex.total hlx).trans (hle b hb)
          · exact Lex.refl
        · rw [if_neg (by simpa using hr)]
          have hlx : Lex ts out m' a := Classical.byContradiction fun h => hr (e2.2 h)
          refine ⟨_, rfl, ⟨m', q + 1, rfl, by omega, hm, fun b hb => ?_⟩, by dsimp only; omega⟩
          rcases hmem b hb with hb | rfl
          · exact hle b hb
          · exact hlx
      · rw [if_neg (by simpa using hcq)]
        refine ⟨_, rfl, m, rfl, hm, fun a ha => hle a ?_⟩
        rwa [List.take_of_length_le (by omega)]) (ix w 0, 1) (by
      obtain ⟨a, ha, hax⟩ := hw _ (List.getElem_mem hpos)
      have e0 : ix w 0 = (a : Int) := by have := ix_nat (xs := w) hpos; rw [← hax, ← this]; rfl
      refine ⟨a, 1, by rw [e0]; rfl, by omega, hax ▸ List.getElem_mem hpos, fun b hb => ?_⟩
      rw [show 1 = 0 + 1 from rfl, List.take_succ_eq_append_getElem hpos] at hb
      simp at hb
      have : b = a := by omega
      subst this
      exact Lex.refl)
  obtain ⟨m, rfl, h3, h4⟩ := h2
  refine ⟨m, ?_, h3, h4⟩
  unfold slices_MinFunc_s_int_int_inuring_queue_compare
  rw [if_neg (by simp; omega), Option.bind_some, chk_true (inb_of (by omega) (by omega)), h1]
  rfl
end Go.Proofs.Ytfekcgnnhjmeiaa.Pl
