/- Collect, Validate, Close, Post of the reference at valid arguments; the ledgers that the laws make. -/
import Derived.Test.YtdenliplkmjmjaaLVal
namespace Go.Proofs.Ytdenliplkmjmjaa.Pl

theorem vAmt_iff (n : Int) : vAmt n = true ↔ -17592186044416 ≤ n ∧ n ≤ 17592186044416 := by simp [vAmt]
theorem vE_amt {e : GEntry} (h : vE e = true) : -17592186044416 ≤ e.Amount ∧ e.Amount ≤ 17592186044416 := by
  simp only [vE, Bool.and_eq_true] at h
  exact (vAmt_iff _).1 h.2
theorem Amts.of_valid {l : List GEntry} (h : ∀ e ∈ l, vE e = true) : Amts l := fun e he => vE_amt (h e he)
theorem collect_all {l : List GEntry} (hl : l.length ≤ 65536) (h : ∀ e ∈ l, vE e = true) : treatyref33_Collect l = some (match grp (msort l) with | none => ([], 3) | some r => (r, 0)) := by
  unfold treatyref33_Collect
  have h1 : decide (65536 < (l.length : Int)) = false := by simp <;> omega
  have hloop : loopV (treatyref33_Collect_l12 l) 0 = some (.inr ()) := by
    refine loopV_done (fun k => (k : Int)) l.length _ (fun k hk => ?_) ?_
    · unfold treatyref33_Collect_l12
      have hc : decide ((k : Int) < (l.length : Int)) = true := by simp <;> omega
      have e1 : w64 ((k : Int) + 1) = ((k + 1 : Nat) : Int) := by rw [w64_id (by omega) (by omega)]; rfl
      have hv : vE l[k] = true := h _ (List.getElem_mem hk)
      simp only [hc, if_true, chk_of (inb_nat hk), ix_nat hk, rvalid_eq, hv, Option.bind_some, Bool.not_true, Bool.false_eq_true, if_false, e1]
    · unfold treatyref33_Collect_l12
      have hc : decide ((l.length : Int) < (l.length : Int)) = false := by simp
      simp only [hc, Bool.false_eq_true, if_false]
  simp only [h1, Bool.false_eq_true, if_false, hloop, Option.bind_some, Sum.elim_inr, Sum.elim_inl, sums_eq l hl (Amts.of_valid h)]
  cases grp (msort l) <;> simp
/-- absolute amounts -/
def absA (l : List GEntry) : Int := (l.map fun e => max e.Amount (-e.Amount)).sum
theorem absA_cons (x : GEntry) (l : List GEntry) : absA (x :: l) = max x.Amount (-x.Amount) + absA l := by simp [absA]
theorem absA_append (a b : List GEntry) : absA (a ++ b) = absA a + absA b := by simp [absA]
theorem absA_nonneg (l : List GEntry) : 0 ≤ absA l := by
  induction l with
  | nil => simp [absA]
  | cons x l ih => rw [absA_cons]; omega
theorem absA_perm {a b : List GEntry} (h : a.Perm b) : absA a = absA b := by
  induction h with
  | nil => rfl
  | cons x _ ih => rw [absA_cons, absA_cons, ih]
  | swap x y l => rw [absA_cons, absA_cons, absA_cons, absA_cons]; omega
  | trans _ _ h1 h2 => exact h1.trans h2
theorem sumA_abs (l : List GEntry) : sumA l ≤ absA l ∧ -(absA l) ≤ sumA l := by
  induction l with
  | nil => simp [absA, sumA]
  | cons x l ih => rw [absA_cons, sumA_cons]; omega
theorem grp_ok (n : Nat) : ∀ l : List GEntry, l.length = n → absA l ≤ 17592186044416 → (∀ e ∈ l, headB e = true) → ∃ r, grp l = some r ∧ r.length ≤ l.length ∧ absA r ≤ absA l ∧ ∀ e ∈ r, vE e = true ∧ e.Amount ≠ 0 := by
  induction n using Nat.strongRecOn with
  | _ n ih =>
    intro l hn hb hh
    match l with
    | [] => exact ⟨[], by simp [grp], by simp, by simp, fun e he => by cases he⟩
    | x :: l =>
      have hsplit : l = (l.takeWhile fun y => !kLt x y) ++ (l.dropWhile fun y => !kLt x y) := (List.takeWhile_append_dropWhile).symm
      have habs : absA l = absA (l.takeWhile fun y => !kLt x y) + absA (l.dropWhile fun y => !kLt x y) := by rw [← absA_append, ← hsplit]
      have hlen := congrArg List.length hsplit
      rw [List.length_append] at hlen
      rw [absA_cons] at hb
      have h1 := sumA_abs (l.takeWhile fun y => !kLt x y)
      have h2 := absA_nonneg (l.takeWhile fun y => !kLt x y)
      have h3 := absA_nonneg (l.dropWhile fun y => !kLt x y)
      simp only [List.length_cons] at hn
      obtain ⟨r, hr, hrl, hra, hre⟩ := ih _ (by omega) (l.dropWhile fun y => !kLt x y) rfl (by omega) (fun e he => hh e (List.mem_cons_of_mem _ ((List.dropWhile_suffix _).subset he)))
      unfold grp
      simp only
      have hv : vAmt (x.Amount + sumA (l.takeWhile fun y => !kLt x y)) = true := (vAmt_iff _).2 (by omega)
      rw [if_pos hv, hr]
      refine ⟨_, rfl, ?_⟩
      dsimp only
      by_cases h0 : x.Amount + sumA (l.takeWhile fun y => !kLt x y) = 0
      · rw [if_pos h0]
        exact ⟨by simp only [List.length_cons]; omega, by rw [absA_cons]; omega, hre⟩
      · rw [if_neg h0]
        refine ⟨by simp only [List.length_cons]; omega, ?_, fun e he => ?_⟩
        · rw [absA_cons, absA_cons]
          have : (withA x (x.Amount + sumA (l.takeWhile fun y => !kLt x y))).Amount = x.Amount + sumA (l.takeWhile fun y => !kLt x y) := rfl
          rw [this]
          omega
        · rcases List.mem_cons.1 he with rfl | he
          · refine ⟨?_, h0⟩
            have hx : headB x = true := hh x (by simp)
            have : headB (withA x (x.Amount + sumA (l.takeWhile fun y => !kLt x y))) = headB x := rfl
            simp only [vE, this, hx, Bool.true_and]
            exact hv
          · exact hre e he
theorem collect_ok {l : List GEntry} (hl : l.length ≤ 65536) (h : ∀ e ∈ l, vE e = true) (hb : absA l ≤ 17592186044416) :
    ∃ r, treatyref33_Collect l = some (r, 0) ∧ r.length ≤ l.length ∧ absA r ≤ absA l ∧ ∀ e ∈ r, vE e = true ∧ e.Amount ≠ 0 := by
  have hp := msort_perm l
  obtain ⟨r, h1, h2, h3, h4⟩ := grp_ok _ (msort l) rfl (by rw [absA_perm hp]; exact hb) (fun e he => by have := h e (hp.mem_iff.1 he); simp only [vE, Bool.and_eq_true] at this; exact this.1)
  exact ⟨r, by rw [collect_all hl h, h1], by rw [msort_length] at h2; exact h2, by rw [absA_perm hp] at h3; exact h3, h4⟩

/-! ### ledgers -/
structure LOk (l : GLedger) : Prop where
  c0 : 0 ≤ l.Closed
  c1 : l.Closed ≤ 100
  len : l.Postings.length ≤ 65536
  ent : ∀ p ∈ l.Postings, vE p.Entry = true ∧ p.Entry.Amount ≠ 0 ∧ 1 ≤ p.Number ∧ p.Number ≤ 65536 ∧ 0 ≤ p.Period ∧ p.Period ≤ l.Closed
  ord : ∀ (i : Nat) (h : i + 1 < l.Postings.length), (l.Postings[i]).Number < (l.Postings[i + 1]).Number ∧ (l.Postings[i]).Period ≤ (l.Postings[i + 1]).Period
theorem w64_pred (k : Nat) (h0 : 0 < k) (h : k ≤ 65536) : w64 ((k : Int) - 1) = ((k - 1 : Nat) : Int) := by rw [w64_id (by omega) (by omega)]; omega
theorem rvalidate_ok {l : GLedger} (h : LOk l) : treatyref33_Validate l = some 0 := by
  unfold treatyref33_Validate
  have hc0 := h.c0
  have hc1 := h.c1
  have hl := h.len
  have h1 : ((decide (l.Closed < 0) || decide (100 < l.Closed)) || decide (65536 < (l.Postings.length : Int))) = false := by simp <;> omega
  have hloop : loopV (treatyref33_Validate_l12 l) 0 = some (.inr ()) := by
    refine loopV_done (fun k => (k : Int)) l.Postings.length _ (fun k hk => ?_) ?_
    · unfold treatyref33_Validate_l12
      have hc : decide ((k : Int) < (l.Postings.length : Int)) = true := by simp <;> omega
      have e1 : w64 ((k : Int) + 1) = ((k + 1 : Nat) : Int) := by rw [w64_id (by omega) (by omega)]; rfl
      obtain ⟨a1, a2, a3, a4, a5, a6⟩ := h.ent _ (List.getElem_mem hk)
      have hb : ((((((!true) || decide ((l.Postings[k]).Entry.Amount = 0)) || decide ((l.Postings[k]).Number < 1)) || decide (65536 < (l.Postings[k]).Number)) || decide ((l.Postings[k]).Period < 0)) || decide (l.Closed < (l.Postings[k]).Period)) = false := by simp <;> omega
      simp only [hc, if_true, chk_of (inb_nat hk), ix_nat hk, rvalid_eq, a1, Option.bind_some, hb, Bool.false_eq_true, if_false, e1]
      by_cases hk0 : 0 < k
      · have hd : decide ((0 : Int) < (k : Int)) = true := by simp <;> omega
        have hk1 : k - 1 < l.Postings.length := by omega
        obtain ⟨b1, b2⟩ := h.ord (k - 1) (by omega)
        have ek : k - 1 + 1 = k := by omega
        simp only [ek] at b1 b2
        have d1 : decide ((l.Postings[k]).Number ≤ (l.Postings[k - 1]).Number) = false := by simp <;> omega
        have d2 : decide ((l.Postings[k]).Period < (l.Postings[k - 1]).Period) = false := by simp <;> omega
        simp only [hd, if_true, w64_pred k hk0 (by omega), ix_nat hk1, d1, Bool.false_eq_true, if_false, chk_of (inb_nat hk1), d2, Option.bind_some]
      · have hd : decide ((0 : Int) < (k : Int)) = false := by simp <;> omega
        simp only [hd, Bool.false_eq_true, if_false, Option.bind_some]
    · unfold treatyref33_Validate_l12
      have hc : decide ((l.Postings.length : Int) < (l.Postings.length : Int)) = false := by simp
      simp only [hc, Bool.false_eq_true, if_false]
  simp only [h1, Bool.false_eq_true, if_false, hloop, Option.bind_some, Sum.elim_inr, Sum.elim_inl]
theorem validate_same (l : GLedger) : ledger_Validate l = treatyref33_Validate l := by
  unfold ledger_Validate treatyref33_Validate
  have e : ∀ s, ledger_Validate_l12 l s = treatyref33_Validate_l12 l s := by
    intro s
    unfold ledger_Validate_l12 treatyref33_Validate_l12
    cases decide (s < (l.Postings.length : Int)) with
    | false => rfl
    | true =>
      simp only [if_true, chk]
      cases inb l.Postings s with
      | false => rfl
      | true =>
        simp only [if_true, pvalid_eq, rvalid_eq, Option.bind_some]
        generalize vE (ix l.Postings s).Entry = b
        generalize decide ((ix l.Postings s).Entry.Amount = 0) = b1
        generalize decide ((ix l.Postings s).Number < 1) = b2
        generalize decide (65536 < (ix l.Postings s).Number) = b3
        generalize decide ((ix l.Postings s).Period < 0) = b4
        generalize decide (l.Closed < (ix l.Postings s).Period) = b5
        cases b <;> cases b1 <;> cases b2 <;> cases b3 <;> cases b4 <;> cases b5 <;> simp
  rw [loopV_congr e]
theorem pvalidate_ok {l : GLedger} (h : LOk l) : ledger_Validate l = some 0 := (validate_same l).trans (rvalidate_ok h)
end Go.Proofs.Ytdenliplkmjmjaa.Pl
