/- AccountChain: the closing balance of a period is the opening balance of the next one. -/
import Derived.Test.YtipblbjkbeiflaaLAcc
namespace Go.Proofs.Ytipblbjkbeiflaa.Pl

theorem sumF_split (v : GPosting → Int) (t p n : Int) (l : List GPosting) : sumF v (inTPb t p (n + 1)) l = sumF v (inTPb t p n) l + ((l.filter (inTPe t p n)).map v).sum := by
  induction l with
  | nil => simp [sumF]
  | cons x l ih =>
    unfold sumF at ih ⊢
    have e1 : inTPb t p (n + 1) x = (inTPb t p n x || inTPe t p n x) := by
      unfold inTPb inTPe
      cases inTP t p x
      · rfl
      · simp only [Bool.true_and]
        rw [Bool.eq_iff_iff]
        simp
        omega
    have e2 : inTPb t p n x = true → inTPe t p n x = false := by
      unfold inTPb inTPe
      simp
      omega
    cases h1 : inTPb t p n x
    · cases h2 : inTPe t p n x <;> simp [e1, h1, h2, ih] <;> omega
    · have h2 := e2 h1
      simp [e1, h1, h2, ih]
      omega
theorem filter_mem_abs (l : List GPosting) (f : GPosting → Bool) : absP (l.filter f) ≤ absP l := by
  induction l with
  | nil => simp [absP, absA]
  | cons x l ih =>
    have e1 : absP (x :: l) = max x.Entry.Amount (-x.Entry.Amount) + absP l := by simp [absP, absA]
    cases h : f x
    · simp only [h, List.filter_cons, Bool.false_eq_true, if_false]
      omega
    · simp only [h, List.filter_cons, if_true]
      have e2 : absP (x :: l.filter f) = max x.Entry.Amount (-x.Entry.Amount) + absP (l.filter f) := by simp [absP, absA]
      omega
/-- the loop over the postings of an account -/
theorem chainInner (r : GStatement × Int) (d0 r0 : Int) (hl : r.1.Postings.length ≤ 65536) (hb : absP r.1.Postings ≤ 17592186044416) (hd : -17592186044416 ≤ d0 ∧ d0 ≤ 17592186044416) (hr : -17592186044416 ≤ r0 ∧ r0 ≤ 17592186044416) :
    loopV (treatylaw34_AccountChain_l34 r) (d0, r0, 0) = some (d0 + (r.1.Postings.map due).sum, r0 + (r.1.Postings.map res).sum) := by
  have hall : ∀ k, sumF due (fun _ => true) (r.1.Postings.take k) = ((r.1.Postings.take k).map due).sum := fun k => by unfold sumF; rw [List.filter_eq_self.2 (fun _ _ => rfl)]
  have hall2 : ∀ k, sumF res (fun _ => true) (r.1.Postings.take k) = ((r.1.Postings.take k).map res).sum := fun k => by unfold sumF; rw [List.filter_eq_self.2 (fun _ _ => rfl)]
  have h := loopV_done (step := treatylaw34_AccountChain_l34 r) (fun k => (d0 + ((r.1.Postings.take k).map due).sum, r0 + ((r.1.Postings.take k).map res).sum, (k : Int))) r.1.Postings.length (d0 + (r.1.Postings.map due).sum, r0 + (r.1.Postings.map res).sum) (fun k hk => ?_) ?_
  · simpa using h
  · unfold treatylaw34_AccountChain_l34
    have hc : decide ((k : Int) < (r.1.Postings.length : Int)) = true := decide_eq_true (by omega)
    have e1 : w64 ((k : Int) + 1) = ((k + 1 : Nat) : Int) := by rw [w64_id (by omega) (by omega)]; rfl
    have b1 := sumF_abs due due_abs (fun _ => true) (r.1.Postings.take (k + 1))
    have b2 := sumF_abs res res_abs (fun _ => true) (r.1.Postings.take (k + 1))
    have b3 := absP_take r.1.Postings (k + 1)
    rw [hall] at b1
    rw [hall2] at b2
    have hs : ∀ v : GPosting → Int, ((r.1.Postings.take (k + 1)).map v).sum = ((r.1.Postings.take k).map v).sum + v r.1.Postings[k] := fun v => by rw [List.take_succ_eq_append_getElem hk]; simp only [List.map_append, List.map_cons, List.map_nil, List.sum_append, List.sum_cons, List.sum_nil, Int.add_zero]
    rw [hs] at b1 b2
    rw [hs, hs]
    simp only [hc, if_true, chk_of (inb_nat hk), ix_nat hk, e1]
    have hdd : due r.1.Postings[k] = if r.1.Postings[k].Entry.Kind = 2 then 0 else r.1.Postings[k].Entry.Amount := rfl
    have hrr : res r.1.Postings[k] = if r.1.Postings[k].Entry.Kind = 2 then r.1.Postings[k].Entry.Amount else 0 := rfl
    rw [hdd] at b1 ⊢
    rw [hrr] at b2 ⊢
    by_cases h2 : r.1.Postings[k].Entry.Kind = 2
    · have h2' : decide (r.1.Postings[k].Entry.Kind = 2) = true := by simpa using h2
      simp only [h2, if_true] at b1 b2
      simp only [h2', if_pos h2, if_true, Option.bind_some]
      rw [w64_id (by omega) (by omega)]
      simp only [Int.add_assoc, Int.add_zero]
    · have h2' : decide (r.1.Postings[k].Entry.Kind = 2) = false := by simpa using h2
      simp only [h2, if_false] at b1 b2
      simp only [h2', if_neg h2, Bool.false_eq_true, if_false, Option.bind_some]
      rw [w64_id (by omega) (by omega)]
      simp only [Int.add_assoc, Int.add_zero]
  · unfold treatylaw34_AccountChain_l34
    have hc : decide ((r.1.Postings.length : Int) < (r.1.Postings.length : Int)) = false := by simp
    simp only [hc, Bool.false_eq_true, if_false, List.take_length]
theorem treatylaw34_AccountChain_law (a0 : List Int) (a1 a2 : Int) (_h0 : ∀ n ∈ a0, -9223372036854775808 ≤ n ∧ n ≤ 9223372036854775807) (hl : a0.length ≤ 9223372036854775807) (_h1 : 0 ≤ a1 ∧ a1 ≤ 255) (_h2 : 0 ≤ a2 ∧ a2 ≤ 255) : treatylaw34_AccountChain a0 a1 a2 = some true := by
  unfold treatylaw34_AccountChain
  obtain ⟨e1, hd⟩ := new_ok a0 hl
  obtain ⟨l, d', e2, _, hm⟩ := ledger_ok hd 8 (by omega)
  rw [show ((8 : Nat) : Int) = 8 from rfl] at e2
  have hok := hm.ok
  have hc0 := hok.c0
  have hc1 := hok.c1
  have hlen := hok.len
  have hb : absP l.Postings ≤ 17592186044416 := by have := hm.small; unfold absP; omega
  generalize ht : bAnd .i64 (w64 a1) 3 = t
  generalize hp : bAnd .i64 (w64 a2) 3 = p
  have hloop : loopV (treatylaw34_AccountChain_l12 a1 a2 (l, d')) (0, 0, 0) = some (.inr (sumF due (inTPb t p (l.Closed + 1)) l.Postings, sumF res (inTPb t p (l.Closed + 1)) l.Postings)) := by
    have h := loopV_done (step := treatylaw34_AccountChain_l12 a1 a2 (l, d')) (fun k => (sumF due (inTPb t p (k : Int)) l.Postings, sumF res (inTPb t p (k : Int)) l.Postings, (k : Int))) (l.Closed + 1).toNat (.inr (sumF due (inTPb t p (l.Closed + 1)) l.Postings, sumF res (inTPb t p (l.Closed + 1)) l.Postings)) (fun k hk => ?_) ?_
    · have z : ∀ v, sumF v (inTPb t p ((0 : Nat) : Int)) l.Postings = 0 := fun v => by
        unfold sumF
        have : l.Postings.filter (inTPb t p ((0 : Nat) : Int)) = [] := by
          rw [List.filter_eq_nil_iff]
          intro x hx
          have := (hok.ent x hx).2.2.2.2.1
          unfold inTPb
          simp
          omega
        rw [this]; rfl
      simp only [z] at h
      exact h
    · unfold treatylaw34_AccountChain_l12
      have hkc : (k : Int) ≤ l.Closed := by omega
      have hc : decide ((k : Int) ≤ l.Closed) = true := decide_eq_true hkc
      have e1 : w64 ((k : Int) + 1) = ((k + 1 : Nat) : Int) := by rw [w64_id (by omega) (by omega)]; rfl
      have b1 := sumF_abs due due_abs (inTPb t p k) l.Postings
      have b2 := sumF_abs res res_abs (inTPb t p k) l.Postings
      have hfl : (l.Postings.filter (inTPe t p k)).length ≤ 65536 := Nat.le_trans (List.length_filter_le _ _) hlen
      have hfb := filter_mem_abs l.Postings (inTPe t p k)
      have hst := statement_ok hok hb t p k (by omega) hkc
      simp only [hc, if_true, ht, hp, hst, Option.bind_some, decide_true, Bool.not_true, Bool.or_self, Bool.false_eq_true, if_false]
      rw [chainInner _ _ _ hfl (by show absP (l.Postings.filter (inTPe t p k)) ≤ _; omega) (by omega) (by omega)]
      simp only [Option.bind_some]
      have s1 := sumF_split due t p k l.Postings
      have s2 := sumF_split res t p k l.Postings
      rw [← s1, ← s2]
      simp only [decide_true, Bool.not_true, Bool.false_eq_true, if_false, Option.bind_some, Sum.elim_inl, e1]
      rw [show ((k + 1 : Nat) : Int) = (k : Int) + 1 from rfl]
    · unfold treatylaw34_AccountChain_l12
      have ek : (((l.Closed + 1).toNat : Nat) : Int) = l.Closed + 1 := by omega
      rw [ek]
      have hc : decide (l.Closed + 1 ≤ l.Closed) = false := decide_eq_false (by omega)
      simp only [hc, Bool.false_eq_true, if_false]
  have hfin : ∀ v, sumF v (inTP t p) l.Postings = sumF v (inTPb t p (l.Closed + 1)) l.Postings := fun v => by
    unfold sumF
    congr 2
    apply List.filter_congr
    intro x hx
    have := (hok.ent x hx).2.2.2.2.2
    unfold inTPb
    have : decide (x.Period < l.Closed + 1) = true := decide_eq_true (by omega)
    rw [this, Bool.and_true]
  simp only [e1, e2, Option.bind_some, hloop, Sum.elim_inr, Sum.elim_inl, balance_ok hok hb, hfin, decide_true, Bool.and_self, if_true, awake34]
end Go.Proofs.Ytipblbjkbeiflaa.Pl
