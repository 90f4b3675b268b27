/- Balances and accounts of valid ledgers, as sums over lists. -/
import Derived.Test.YtadkcelipefpmaaLMade
namespace Go.Proofs.Ytadkcelipefpmaa.Pl

def due (p : GPosting) : Int := if p.Entry.Kind = 2 then 0 else p.Entry.Amount
def res (p : GPosting) : Int := if p.Entry.Kind = 2 then p.Entry.Amount else 0
def sumF (v : GPosting → Int) (f : GPosting → Bool) (l : List GPosting) : Int := ((l.filter f).map v).sum
theorem sumF_snoc (v : GPosting → Int) (f : GPosting → Bool) (l : List GPosting) (x : GPosting) : sumF v f (l ++ [x]) = sumF v f l + if f x = true then v x else 0 := by
  unfold sumF
  rw [List.filter_append]
  cases h : f x <;> simp [h]
def absP (l : List GPosting) : Int := absA (l.map (·.Entry))
theorem absP_take (l : List GPosting) (k : Nat) : absP (l.take k) ≤ absP l := by
  have h : absP l = absP (l.take k) + absP (l.drop k) := by
    unfold absP
    rw [← absA_append, ← List.map_append, List.take_append_drop]
  have := absA_nonneg ((l.drop k).map (·.Entry))
  unfold absP at *
  omega
theorem sumF_abs (v : GPosting → Int) (hv : ∀ p, v p ≤ max p.Entry.Amount (-p.Entry.Amount) ∧ -(max p.Entry.Amount (-p.Entry.Amount)) ≤ v p) (f : GPosting → Bool) (l : List GPosting) : sumF v f l ≤ absP l ∧ -(absP l) ≤ sumF v f l := by
  induction l with
  | nil => simp [sumF, absP, absA]
  | cons x l ih =>
    have h1 := hv x
    have e1 : absP (x :: l) = max x.Entry.Amount (-x.Entry.Amount) + absP l := by simp [absP, absA]
    have e2 : sumF v f (x :: l) = (if f x = true then v x else 0) + sumF v f l := by
      unfold sumF
      cases h : f x <;> simp [h]
    rw [e1, e2]
    split <;> omega
theorem due_abs (p : GPosting) : due p ≤ max p.Entry.Amount (-p.Entry.Amount) ∧ -(max p.Entry.Amount (-p.Entry.Amount)) ≤ due p := by
  unfold due; split <;> omega
theorem res_abs (p : GPosting) : res p ≤ max p.Entry.Amount (-p.Entry.Amount) ∧ -(max p.Entry.Amount (-p.Entry.Amount)) ≤ res p := by
  unfold res; split <;> omega
/-- a loop that adds up what a test lets through -/
theorem sumLoop {step : Int × Int × Int → Option ((Int × Int × Int) ⊕ (Int × Int))} (l : List GPosting) (f : GPosting → Bool) (_hl : l.length ≤ 65536) (hb : absP l ≤ 17592186044416)
    (hin : ∀ (d r : Int) (k : Nat) (hk : k < l.length), step (d, r, (k : Int)) = some (.inl (if f l[k] = true then (if l[k].Entry.Kind = 2 then (d, w64 (r + l[k].Entry.Amount), ((k + 1 : Nat) : Int)) else (w64 (d + l[k].Entry.Amount), r, ((k + 1 : Nat) : Int))) else (d, r, ((k + 1 : Nat) : Int)))))
    (hout : ∀ d r : Int, step (d, r, (l.length : Int)) = some (.inr (d, r))) : loopV step (0, 0, 0) = some (sumF due f l, sumF res f l) := by
  have h := loopV_done (step := step) (fun k => (sumF due f (l.take k), sumF res f (l.take k), (k : Int))) l.length (sumF due f l, sumF res f l) (fun k hk => ?_) ?_
  · simpa [sumF] using h
  · rw [hin _ _ k hk, List.take_succ_eq_append_getElem hk, sumF_snoc, sumF_snoc]
    have b1 := sumF_abs due due_abs f (l.take (k + 1))
    have b2 := sumF_abs res res_abs f (l.take (k + 1))
    have b3 := absP_take l (k + 1)
    rw [List.take_succ_eq_append_getElem hk, sumF_snoc] at b1 b2
    cases hf : f l[k] with
    | false => simp
    | true =>
      simp only [hf, if_true] at b1 b2
      simp only [if_true]
      have hd : due l[k] = if l[k].Entry.Kind = 2 then 0 else l[k].Entry.Amount := rfl
      have hr : res l[k] = if l[k].Entry.Kind = 2 then l[k].Entry.Amount else 0 := rfl
      rw [hd] at b1 ⊢
      rw [hr] at b2 ⊢
      by_cases h2 : l[k].Entry.Kind = 2
      · simp only [h2, if_true] at b1 b2 ⊢
        rw [w64_id (by rw [List.take_succ_eq_append_getElem hk] at b3; omega) (by rw [List.take_succ_eq_append_getElem hk] at b3; omega)]
        simp
      · simp only [h2, if_false] at b1 b2 ⊢
        rw [w64_id (by rw [List.take_succ_eq_append_getElem hk] at b3; omega) (by rw [List.take_succ_eq_append_getElem hk] at b3; omega)]
        simp
  · rw [hout, List.take_length]
def inTP (t p : Int) (x : GPosting) : Bool := decide (x.Entry.Treaty = t) && decide (x.Entry.Party = p)
def inTPb (t p e : Int) (x : GPosting) : Bool := inTP t p x && decide (x.Period < e)
def inTPe (t p e : Int) (x : GPosting) : Bool := inTP t p x && decide (x.Period = e)
theorem amount_ok {n : Int} (h1 : -17592186044416 ≤ n) (h2 : n ≤ 17592186044416) : amount_Valid n = some true := by simp [amount_Valid, h1, h2]
theorem asum_ok (l : GLedger) (t p e : Int) (hl : l.Postings.length ≤ 65536) (hb : absP l.Postings ≤ 17592186044416) : account_sum_account_Statement_c1_c1 l t p e = some (⟨sumF due (inTPb t p e) l.Postings, sumF res (inTPb t p e) l.Postings⟩, 0) := by
  unfold account_sum_account_Statement_c1_c1
  have hloop : loopV (account_sum_account_Statement_c1_c1_l8 l t p e) (0, 0, 0) = some (sumF due (inTPb t p e) l.Postings, sumF res (inTPb t p e) l.Postings) := by
    refine sumLoop l.Postings (inTPb t p e) hl hb (fun d r k hk => ?_) (fun d r => ?_)
    · unfold account_sum_account_Statement_c1_c1_l8 account_Statement_c1_c1
      have hc : decide ((k : Int) < (l.Postings.length : Int)) = true := decide_eq_true (by omega)
      have e1 : w64 ((k : Int) + 1) = ((k + 1 : Nat) : Int) := by rw [w64_id (by omega) (by omega)]; rfl
      have ef : (decide (l.Postings[k].Entry.Treaty = t) && decide (l.Postings[k].Entry.Party = p) && decide (l.Postings[k].Period < e)) = inTPb t p e l.Postings[k] := rfl
      simp only [hc, if_true, chk_of (inb_nat hk), ix_nat hk, Option.bind_some, ef, e1]
      cases inTPb t p e l.Postings[k] with
      | false => simp
      | true =>
        by_cases h2 : l.Postings[k].Entry.Kind = 2 <;> simp [h2]
    · unfold account_sum_account_Statement_c1_c1_l8
      have hc : decide ((l.Postings.length : Int) < (l.Postings.length : Int)) = false := by simp
      simp only [hc, Bool.false_eq_true, if_false]
  have b1 := sumF_abs due due_abs (inTPb t p e) l.Postings
  have b2 := sumF_abs res res_abs (inTPb t p e) l.Postings
  simp only [hloop, Option.bind_some, amount_ok (show -17592186044416 ≤ sumF due (inTPb t p e) l.Postings by omega) (by omega), amount_ok (show -17592186044416 ≤ sumF res (inTPb t p e) l.Postings by omega) (by omega), Bool.not_true, Bool.false_eq_true, if_false]
theorem bsum_ok (l : GLedger) (t p : Int) (hl : l.Postings.length ≤ 65536) (hb : absP l.Postings ≤ 17592186044416) : account_sum_account_Balance_c1 l t p = some (⟨sumF due (inTP t p) l.Postings, sumF res (inTP t p) l.Postings⟩, 0) := by
  unfold account_sum_account_Balance_c1
  have hloop : loopV (account_sum_account_Balance_c1_l8 l t p) (0, 0, 0) = some (sumF due (inTP t p) l.Postings, sumF res (inTP t p) l.Postings) := by
    refine sumLoop l.Postings (inTP t p) hl hb (fun d r k hk => ?_) (fun d r => ?_)
    · unfold account_sum_account_Balance_c1_l8 account_Balance_c1
      have hc : decide ((k : Int) < (l.Postings.length : Int)) = true := decide_eq_true (by omega)
      have e1 : w64 ((k : Int) + 1) = ((k + 1 : Nat) : Int) := by rw [w64_id (by omega) (by omega)]; rfl
      have ef : (decide (l.Postings[k].Entry.Treaty = t) && decide (l.Postings[k].Entry.Party = p)) = inTP t p l.Postings[k] := rfl
      simp only [hc, if_true, chk_of (inb_nat hk), ix_nat hk, Option.bind_some, ef, e1]
      cases inTP t p l.Postings[k] with
      | false => simp
      | true =>
        by_cases h2 : l.Postings[k].Entry.Kind = 2 <;> simp [h2]
    · unfold account_sum_account_Balance_c1_l8
      have hc : decide ((l.Postings.length : Int) < (l.Postings.length : Int)) = false := by simp
      simp only [hc, Bool.false_eq_true, if_false]
  have b1 := sumF_abs due due_abs (inTP t p) l.Postings
  have b2 := sumF_abs res res_abs (inTP t p) l.Postings
  simp only [hloop, Option.bind_some, amount_ok (show -17592186044416 ≤ sumF due (inTP t p) l.Postings by omega) (by omega), amount_ok (show -17592186044416 ≤ sumF res (inTP t p) l.Postings by omega) (by omega), Bool.not_true, Bool.false_eq_true, if_false]
theorem statement_ok {l : GLedger} (h : LOk l) (hb : absP l.Postings ≤ 17592186044416) (t p n : Int) (hn0 : 0 ≤ n) (hn : n ≤ l.Closed) :
    account_Statement l t p n = some (⟨t, p, n, ⟨sumF due (inTPb t p n) l.Postings, sumF res (inTPb t p n) l.Postings⟩, l.Postings.filter (inTPe t p n), ⟨sumF due (inTPb t p (n + 1)) l.Postings, sumF res (inTPb t p (n + 1)) l.Postings⟩⟩, 0) := by
  unfold account_Statement account_Statement_c1
  have hc1 := h.c1
  have hl := h.len
  have hc : (decide (n < 0) || decide (l.Closed < n)) = false := by simp <;> omega
  have e1 : w64 (n + 1) = n + 1 := w64_id (by omega) (by omega)
  have hloop : loopV (account_Statement_l42 l t p n) ([], 0) = some (l.Postings.filter (inTPe t p n)) := by
    refine loopV_done (fun k => ((l.Postings.take k).filter (inTPe t p n), (k : Int))) l.Postings.length _ (fun k hk => ?_) ?_
    · unfold account_Statement_l42
      have hc : decide ((k : Int) < (l.Postings.length : Int)) = true := decide_eq_true (by omega)
      have e1 : w64 ((k : Int) + 1) = ((k + 1 : Nat) : Int) := by rw [w64_id (by omega) (by omega)]; rfl
      have ef : (decide (l.Postings[k].Entry.Treaty = t) && decide (l.Postings[k].Entry.Party = p) && decide (l.Postings[k].Period = n)) = inTPe t p n l.Postings[k] := rfl
      have hlen : ((l.Postings.take k).filter (inTPe t p n)).length ≤ k := Nat.le_trans (List.length_filter_le _ _) (by rw [List.length_take]; omega)
      have hroom : room ((l.Postings.take k).filter (inTPe t p n) ++ [l.Postings[k]]).length = true := room_of (by rw [List.length_append]; simp <;> omega)
      rw [List.take_succ_eq_append_getElem hk, List.filter_append]
      simp only [hc, if_true, chk_of (inb_nat hk), ix_nat hk, ef, e1]
      cases hf : inTPe t p n l.Postings[k] with
      | false => simp [hf]
      | true => simp only [if_true, chk_of hroom, Option.bind_some]; simp [hf]
    · unfold account_Statement_l42
      have hc : decide ((l.Postings.length : Int) < (l.Postings.length : Int)) = false := by simp
      simp only [hc, Bool.false_eq_true, if_false, List.take_length]
  simp only [pvalidate_ok h, Option.bind_some, decide_true, Bool.not_true, Bool.false_eq_true, if_false, hc, asum_ok l t p _ hl hb, e1, hloop]
theorem balance_ok {l : GLedger} (h : LOk l) (hb : absP l.Postings ≤ 17592186044416) (t p : Int) : account_Balance l t p = some (⟨sumF due (inTP t p) l.Postings, sumF res (inTP t p) l.Postings⟩, 0) := by
  unfold account_Balance
  simp only [pvalidate_ok h, Option.bind_some, decide_true, Bool.not_true, Bool.false_eq_true, if_false, bsum_ok l t p h.len hb]
theorem samePostings_refl (l : List GPosting) (hl : l.length ≤ 1000000) : treatyref33_SamePostings l l = some true := by
  unfold treatyref33_SamePostings
  have hloop : loopV (treatyref33_SamePostings_l12 l l) 0 = some (.inr ()) := by
    refine loopV_done (fun k => (k : Int)) l.length _ (fun k hk => ?_) ?_
    · unfold treatyref33_SamePostings_l12
      have hc : decide ((k : Int) < (l.length : Int)) = true := decide_eq_true (by omega)
      have e1 : w64 ((k : Int) + 1) = ((k + 1 : Nat) : Int) := by rw [w64_id (by omega) (by omega)]; rfl
      simp only [hc, if_true, chk_of (inb_nat hk), decide_true, Bool.not_true, Bool.false_eq_true, if_false, e1]
    · unfold treatyref33_SamePostings_l12
      have hc : decide ((l.length : Int) < (l.length : Int)) = false := by simp
      simp only [hc, Bool.false_eq_true, if_false]
  simp only [decide_true, Bool.not_true, Bool.false_eq_true, if_false, hloop, Option.bind_some, Sum.elim_inr, Sum.elim_inl]
theorem sameStatement_refl (s : GStatement) (hl : s.Postings.length ≤ 1000000) : treatyref33_SameStatement s s = some true := by
  unfold treatyref33_SameStatement
  simp only [decide_true, Bool.and_self, if_true, samePostings_refl _ hl, Option.bind_some]
theorem awake34 : treatylaw34_awake = some true := by
  unfold treatylaw34_awake
  have hL : LOk ⟨1, [⟨1, 0, ⟨1, 5, 2, 7, 100⟩⟩, ⟨2, 1, ⟨1, 5, 2, 7, -20⟩⟩]⟩ := by
    refine ⟨by decide, by decide, by decide, ?_, ?_⟩
    · intro p hp
      simp only [List.mem_cons, List.not_mem_nil, or_false] at hp
      rcases hp with rfl | rfl <;> decide
    · intro i hi
      have : i = 0 := by simp at hi; omega
      subst this
      exact ⟨by show (1 : Int) < 2; decide, by show (0 : Int) ≤ 1; decide⟩
  rw [statement_ok hL (by decide) 5 2 1 (by decide) (by decide)]
  simp only [Option.bind_some, decide_true, if_true]
  rw [chk_of (by decide)]
  have e : (⟨5, 2, 1, ⟨sumF due (inTPb 5 2 1) [⟨1, 0, ⟨1, 5, 2, 7, 100⟩⟩, ⟨2, 1, ⟨1, 5, 2, 7, -20⟩⟩], sumF res (inTPb 5 2 1) [⟨1, 0, ⟨1, 5, 2, 7, 100⟩⟩, ⟨2, 1, ⟨1, 5, 2, 7, -20⟩⟩]⟩, [(⟨1, 0, ⟨1, 5, 2, 7, 100⟩⟩ : GPosting), ⟨2, 1, ⟨1, 5, 2, 7, -20⟩⟩].filter (inTPe 5 2 1), ⟨sumF due (inTPb 5 2 (1 + 1)) [⟨1, 0, ⟨1, 5, 2, 7, 100⟩⟩, ⟨2, 1, ⟨1, 5, 2, 7, -20⟩⟩], sumF res (inTPb 5 2 (1 + 1)) [⟨1, 0, ⟨1, 5, 2, 7, 100⟩⟩, ⟨2, 1, ⟨1, 5, 2, 7, -20⟩⟩]⟩⟩ : GStatement) = ⟨5, 2, 1, ⟨100, 0⟩, [⟨1, 0, ⟨1, 5, 2, 7, 100⟩⟩, ⟨2, 1, ⟨1, 5, 2, 7, -20⟩⟩].drop (1 : Int).toNat, ⟨80, 0⟩⟩ := by decide
  rw [e, sameStatement_refl _ (by decide)]
  rfl
end Go.Proofs.Ytadkcelipefpmaa.Pl
