/- The law AccountParties (plain). -/
import Derived.Test.YtadkcelipefpmaaLSem
import Derived.Test.YtadkcelipefpmaaLDif
import Derived.Test.YtadkcelipefpmaaLAcc
namespace Go.Proofs.Ytadkcelipefpmaa.Pl
open Go

/-! ### a part of a ledger is a ledger -/
theorem LOk.pairs {l : GLedger} (h : LOk l) : l.Postings.Pairwise fun a b => a.Number < b.Number ∧ a.Period ≤ b.Period := by
  rw [List.pairwise_iff_getElem]
  intro i j hi hj hij
  obtain ⟨k, rfl⟩ : ∃ k, j = i + 1 + k := ⟨j - (i + 1), by omega⟩
  clear hij
  induction k with
  | zero => exact h.ord i hj
  | succ k ih =>
    have h1 := ih (by omega)
    have h2 := h.ord (i + 1 + k) (by omega)
    have e : i + 1 + (k + 1) = i + 1 + k + 1 := by omega
    simp only [e]
    omega
theorem lok_filter {l : GLedger} (h : LOk l) (f : GPosting → Bool) : LOk ⟨l.Closed, l.Postings.filter f⟩ := by
  have hle := List.length_filter_le f l.Postings
  have hl := h.len
  refine ⟨h.c0, h.c1, by show (l.Postings.filter f).length ≤ 65536; omega, fun p hp => h.ent p (List.mem_filter.1 hp).1, fun i hi => ?_⟩
  have hp := h.pairs.filter f
  rw [List.pairwise_iff_getElem] at hp
  exact hp i (i + 1) (by have : i + 1 < (l.Postings.filter f).length := hi; omega) hi (by omega)
/-! ### sums over parts -/
theorem sumF_or (v : GPosting → Int) (f g : GPosting → Bool) (l : List GPosting) (hd : ∀ x ∈ l, f x = true → g x = false) : sumF v (fun x => f x || g x) l = sumF v f l + sumF v g l := by
  induction l with
  | nil => rfl
  | cons x l ih =>
    have ih' := ih fun y hy => hd y (by simp [hy])
    have hx := hd x (by simp)
    unfold sumF at ih' ⊢
    cases hf : f x with
    | true =>
      have hg := hx hf
      simp [hf, hg, ih']
      omega
    | false =>
      cases hg : g x with
      | true =>
        simp [hf, hg, ih']
        omega
      | false => simp [hf, hg, ih']
theorem sumF_congr (v : GPosting → Int) {f g : GPosting → Bool} {l : List GPosting} (h : ∀ x ∈ l, f x = g x) : sumF v f l = sumF v g l := by
  unfold sumF
  rw [List.filter_congr h]
def upPT (p t : Int) (x : GPosting) : Bool := decide (x.Entry.Party < p) || (decide (x.Entry.Party = p) && decide (x.Entry.Treaty < t))
theorem sum_next (v : GPosting → Int) (l : List GPosting) (p t : Int) : sumF v (upPT p (t + 1)) l = sumF v (upPT p t) l + sumF v (inTP t p) l := by
  rw [← sumF_or v (upPT p t) (inTP t p) l]
  · apply sumF_congr
    intro x _
    unfold upPT inTP
    rw [Bool.eq_iff_iff]
    simp
    omega
  · intro x _ h
    unfold upPT at h
    unfold inTP
    simp at h ⊢
    omega
theorem sum_turn (v : GPosting → Int) {l : List GPosting} (h : ∀ x ∈ l, 0 ≤ x.Entry.Treaty ∧ x.Entry.Treaty ≤ 3) (p : Int) : sumF v (upPT p 4) l = sumF v (upPT (p + 1) 0) l := by
  apply sumF_congr
  intro x hx
  have := h x hx
  unfold upPT
  rw [Bool.eq_iff_iff]
  simp
  omega
/-! ### sums over collected lists -/
def sumK (f : Int → Bool) (l : List GEntry) : Int := (l.map fun e => if f e.Kind = true then e.Amount else 0).sum
theorem sumK_cons (f : Int → Bool) (x : GEntry) (l : List GEntry) : sumK f (x :: l) = (if f x.Kind = true then x.Amount else 0) + sumK f l := by simp [sumK]
theorem sumK_append (f : Int → Bool) (a b : List GEntry) : sumK f (a ++ b) = sumK f a + sumK f b := by simp [sumK]
theorem sumK_perm (f : Int → Bool) {a b : List GEntry} (h : a.Perm b) : sumK f a = sumK f b := by
  induction h with
  | nil => rfl
  | cons x _ ih => rw [sumK_cons, sumK_cons, ih]
  | swap x y l => simp only [sumK_cons]; omega
  | trans _ _ h1 h2 => exact h1.trans h2
theorem sumK_same (f : Int → Bool) {l : List GEntry} {k : Int} (h : ∀ e ∈ l, e.Kind = k) : sumK f l = if f k = true then sumA l else 0 := by
  induction l with
  | nil => simp [sumK, sumA]
  | cons x l ih =>
    rw [sumK_cons, ih fun e he => h e (by simp [he]), h x (by simp), sumA_cons]
    split <;> omega
theorem grp_sumK (f : Int → Bool) (n : Nat) : ∀ s : List GEntry, s.length = n → SortedE s → ∀ r, grp s = some r → sumK f r = sumK f s := by
  induction n using Nat.strongRecOn with
  | _ n ih =>
    intro s hn hs r hr
    match s with
    | [] =>
      unfold grp at hr
      cases hr
      rfl
    | x :: l =>
      have hs' := List.pairwise_cons.1 hs
      have hsplit : l = (l.takeWhile fun y => !kLt x y) ++ (l.dropWhile fun y => !kLt x y) := (List.takeWhile_append_dropWhile).symm
      have htw : ∀ e ∈ l.takeWhile (fun y => !kLt x y), e.Kind = x.Kind := fun e he => by
        have h1 := twImp he
        have h2 := hs'.1 e ((List.takeWhile_sublist _).subset he)
        have h3 := (hd_eq_iff e x).2 ⟨h2, by simpa using h1⟩
        have h4 := congrArg GEntry.Kind h3
        exact h4
      have hsd : SortedE (l.dropWhile fun y => !kLt x y) := hs'.2.sublist (List.dropWhile_sublist _)
      have hle := (List.dropWhile_suffix (fun y => !kLt x y) (l := l)).length_le
      simp only [List.length_cons] at hn
      unfold grp at hr
      simp only at hr
      split at hr
      · obtain ⟨r', h1, h2⟩ := Option.map_eq_some_iff.1 hr
        have hrec := ih _ (by omega) _ rfl hsd r' h1
        have hsum : sumK f (x :: l) = (if f x.Kind = true then x.Amount + sumA (l.takeWhile fun y => !kLt x y) else 0) + sumK f (l.dropWhile fun y => !kLt x y) := by
          rw [sumK_cons]
          have : sumK f l = sumK f (l.takeWhile fun y => !kLt x y) + sumK f (l.dropWhile fun y => !kLt x y) := by rw [← sumK_append, ← hsplit]
          rw [this, sumK_same f htw]
          split <;> omega
        rw [hsum]
        split at h2
        · rename_i h0
          subst h2
          rw [hrec, h0]
          split <;> omega
        · subst h2
          rw [sumK_cons, hrec]
          rfl
      · cases hr
theorem collect_sumK (f : Int → Bool) {l r : List GEntry} (hl : l.length ≤ 65536) (h : ∀ e ∈ l, vE e = true) (hr : treatyref33_Collect l = some (r, 0)) : sumK f r = sumK f l := by
  rw [collect_all hl h] at hr
  cases hq : grp (msort l) with
  | none => rw [hq] at hr; simp at hr
  | some r' =>
    rw [hq] at hr
    simp at hr
    subst hr
    rw [grp_sumK f _ (msort l) rfl (msort_sorted l) r' hq, sumK_perm f (msort_perm l)]
def isDue (k : Int) : Bool := !decide (k = 2)
def isRes (k : Int) : Bool := decide (k = 2)
theorem sum_due (l : List GPosting) : sumF due (fun _ => true) l = sumK isDue (l.map (·.Entry)) := by
  induction l with
  | nil => rfl
  | cons x l ih =>
    rw [List.map_cons, sumK_cons, ← ih]
    unfold sumF due isDue
    by_cases h : x.Entry.Kind = 2 <;> simp [h]
theorem sum_res (l : List GPosting) : sumF res (fun _ => true) l = sumK isRes (l.map (·.Entry)) := by
  induction l with
  | nil => rfl
  | cons x l ih =>
    rw [List.map_cons, sumK_cons, ← ih]
    unfold sumF res isRes
    by_cases h : x.Entry.Kind = 2 <;> simp [h]
/-! ### the loops -/
theorem inTP_ofParty (l : GLedger) (t p : Int) (v : GPosting → Int) : sumF v (inTP t p) (ofParty l p).Postings = sumF v (inTP t p) l.Postings := by
  unfold sumF ofParty
  dsimp only
  rw [List.filter_filter]
  congr 2
  apply List.filter_congr
  intro x _
  unfold inTP
  rw [Bool.eq_iff_iff]
  simp
theorem absP_filter (l : List GPosting) (f : GPosting → Bool) : absP (l.filter f) ≤ absP l := by
  unfold absP
  induction l with
  | nil => simp
  | cons x l ih =>
    by_cases hx : f x = true
    · rw [List.filter_cons_of_pos hx, List.map_cons, List.map_cons, absA_cons, absA_cons]
      omega
    · rw [List.filter_cons_of_neg hx, List.map_cons, absA_cons]
      omega
theorem partInner {l : GLedger} (h : Made l 8) (d : GDeck) (p : Int) (n a b : Int) : loopV (treatylaw34_AccountParties_l33 (l, d) (n, a, b, p) (ofParty l p, 0)) (sumF due (upPT p 0) l.Postings, sumF res (upPT p 0) l.Postings, 0) = some (.inr (w64 (n + ((ofParty l p).Postings.length : Int)), sumF due (upPT p 4) l.Postings, sumF res (upPT p 4) l.Postings)) := by
  have hsm := h.small
  have hb : absP l.Postings ≤ 17592186044416 := by unfold absP; omega
  have hb2 := absP_filter l.Postings (fun x => decide (x.Entry.Party = p))
  have hd := loopV_done (step := treatylaw34_AccountParties_l33 (l, d) (n, a, b, p) (ofParty l p, 0)) (fun k => (sumF due (upPT p (k : Int)) l.Postings, sumF res (upPT p (k : Int)) l.Postings, (k : Int))) 4 (.inr (w64 (n + ((ofParty l p).Postings.length : Int)), sumF due (upPT p 4) l.Postings, sumF res (upPT p 4) l.Postings)) (fun k hk => ?_) ?_
  · exact hd
  · unfold treatylaw34_AccountParties_l33
    dsimp only
    have b1 := balance_ok h.ok hb (k : Int) p
    have b2 := balance_ok (lok_filter h.ok fun x => decide (x.Entry.Party = p)) (by show absP (l.Postings.filter fun x => decide (x.Entry.Party = p)) ≤ _; omega) (k : Int) p
    have b2' : account_Balance (ofParty l p) (k : Int) p = some (⟨sumF due (inTP (k : Int) p) l.Postings, sumF res (inTP (k : Int) p) l.Postings⟩, 0) := by
      rw [← inTP_ofParty l (k : Int) p due, ← inTP_ofParty l (k : Int) p res]
      exact b2
    have c1 := sumF_abs due due_abs (upPT p ((k : Int) + 1)) l.Postings
    have c2 := sumF_abs res res_abs (upPT p ((k : Int) + 1)) l.Postings
    rw [if_pos (by simp; omega), b1, Option.bind_some, b2', Option.bind_some]
    simp only [decide_true, Bool.not_true, Bool.or_self, Bool.false_eq_true, if_false]
    have ek : ((k + 1 : Nat) : Int) = (k : Int) + 1 := by omega
    rw [ek, ← sum_next, ← sum_next, w64_id (by omega) (by omega), w64_id (by omega) (by omega), w64_id (by omega) (by omega)]
  · unfold treatylaw34_AccountParties_l33
    dsimp only
    rw [if_neg (by simp)]
    rfl
def cntP (l : List GPosting) (p : Int) : Nat := (l.filter fun x => decide (x.Entry.Party < p)).length
theorem cnt_next (l : List GPosting) (p : Int) : cntP l (p + 1) = cntP l p + (l.filter fun x => decide (x.Entry.Party = p)).length := by
  unfold cntP
  induction l with
  | nil => rfl
  | cons x l ih =>
    by_cases h1 : x.Entry.Party < p
    · have h2 : x.Entry.Party < p + 1 := by omega
      have h3 : ¬ x.Entry.Party = p := by omega
      simp [h1, h2, h3, ih]
      omega
    · by_cases h3 : x.Entry.Party = p
      · subst h3
        rw [List.filter_cons_of_pos (by simp; omega), List.filter_cons_of_neg (by simp), List.filter_cons_of_pos (by simp), List.length_cons, List.length_cons, ih]
        omega
      · have h2 : ¬ x.Entry.Party < p + 1 := by omega
        simp [h1, h2, h3, ih]
theorem partOuter {l : GLedger} (h : Made l 8) (d : GDeck) : loopV (treatylaw34_AccountParties_l12 (l, d)) (0, 0, 0, 0) = some (.inr (((cntP l.Postings 16 : Nat) : Int), sumF due (upPT 16 0) l.Postings, sumF res (upPT 16 0) l.Postings)) := by
  have htr : ∀ x ∈ l.Postings, 0 ≤ x.Entry.Treaty ∧ x.Entry.Treaty ≤ 3 := fun x hx => by
    refine ⟨?_, (h.tre x hx).1⟩
    have := (h.ok.ent x hx).1
    simp only [vE, headB, Bool.and_eq_true, decide_eq_true_eq] at this
    exact this.1.1.1.1.1.2
  have hpa : ∀ x ∈ l.Postings, 0 ≤ x.Entry.Party := fun x hx => by
    have := (h.ok.ent x hx).1
    simp only [vE, headB, Bool.and_eq_true, decide_eq_true_eq] at this
    exact this.1.1.1.2
  have hfew := h.few
  have hcn : ∀ p, cntP l.Postings p ≤ 32 := fun p => by
    have := List.length_filter_le (fun x : GPosting => decide (x.Entry.Party < p)) l.Postings
    unfold cntP
    omega
  have hd := loopV_done (step := treatylaw34_AccountParties_l12 (l, d)) (fun k => (((cntP l.Postings (k : Int) : Nat) : Int), sumF due (upPT (k : Int) 0) l.Postings, sumF res (upPT (k : Int) 0) l.Postings, (k : Int))) 16 (.inr (((cntP l.Postings 16 : Nat) : Int), sumF due (upPT 16 0) l.Postings, sumF res (upPT 16 0) l.Postings)) (fun k hk => ?_) ?_
  · have z1 : cntP l.Postings ((0 : Nat) : Int) = 0 := by
      unfold cntP
      rw [List.filter_eq_nil_iff.2 fun x hx => by have := hpa x hx; simp; omega]
      rfl
    have z2 : ∀ v, sumF v (upPT ((0 : Nat) : Int) 0) l.Postings = 0 := fun v => by
      unfold sumF
      rw [List.filter_eq_nil_iff.2 fun x hx => by
        have := hpa x hx
        have := (htr x hx).1
        unfold upPT
        simp
        omega]
      rfl
    rw [z1, z2, z2] at hd
    exact hd
  · unfold treatylaw34_AccountParties_l12
    dsimp only
    rw [if_pos (by simp; omega), extract_ok h.ok, Option.bind_some]
    have hc : (decide ((0 : Int) = 0)) = true := rfl
    have hcl : (ofParty l (k : Int)).Closed = l.Closed := rfl
    have hv : ledger_Validate (ofParty l (k : Int)) = some 0 := pvalidate_ok (lok_filter h.ok _)
    simp only [hcl, decide_true, Bool.not_true, Bool.or_self, Bool.false_eq_true, if_false, hv, Option.bind_some]
    rw [partInner h d]
    simp only [Option.bind_some, Sum.elim_inr, Sum.elim_inl]
    have c0 := hcn ((k : Int) + 1)
    have c1 := cnt_next l.Postings (k : Int)
    have hlen : (ofParty l (k : Int)).Postings.length = (l.Postings.filter fun x => decide (x.Entry.Party = (k : Int))).length := rfl
    rw [hlen, w64_id (by omega) (by omega), w64_id (by omega) (by omega)]
    have ek : ((k + 1 : Nat) : Int) = (k : Int) + 1 := by omega
    rw [ek, c1, sum_turn due htr, sum_turn res htr]
    congr 4
  · unfold treatylaw34_AccountParties_l12
    dsimp only
    rw [if_neg (by simp)]
    rfl
theorem sumK_abs (f : Int → Bool) (l : List GEntry) : sumK f l ≤ absA l ∧ -(absA l) ≤ sumK f l := by
  induction l with
  | nil => simp [sumK, absA]
  | cons x l ih =>
    rw [sumK_cons, absA_cons]
    split <;> omega
theorem sumK_take_succ (f : Int → Bool) (l : List GEntry) (k : Nat) (hk : k < l.length) : sumK f (l.take (k + 1)) = sumK f (l.take k) + if f l[k].Kind = true then l[k].Amount else 0 := by
  rw [List.take_succ_eq_append_getElem hk, sumK_append]
  simp [sumK]
theorem absA_take (l : List GEntry) (k : Nat) : absA (l.take k) ≤ absA l := by
  have h : absA l = absA (l.take k) + absA (l.drop k) := by rw [← absA_append, List.take_append_drop]
  have := absA_nonneg (l.drop k)
  omega
theorem partTot (T : List GEntry) (z : Int) (D R : Int) (hD : -20000000000000 ≤ D ∧ D ≤ 20000000000000) (hR : -20000000000000 ≤ R ∧ R ≤ 20000000000000) (hT : absA T ≤ 17592186044416) (hl : T.length ≤ 65536) : loopV (treatylaw34_AccountParties_l66 (T, z)) (D, R, 0) = some (D - sumK isDue T, R - sumK isRes T) := by
  have hd := loopV_done (step := treatylaw34_AccountParties_l66 (T, z)) (fun k => (D - sumK isDue (T.take k), R - sumK isRes (T.take k), (k : Int))) T.length (D - sumK isDue T, R - sumK isRes T) (fun k hk => ?_) ?_
  · simpa [sumK] using hd
  · unfold treatylaw34_AccountParties_l66
    dsimp only
    have a1 := sumK_abs isDue (T.take (k + 1))
    have a2 := sumK_abs isRes (T.take (k + 1))
    have a3 := absA_take T (k + 1)
    have s1 := sumK_take_succ isDue T k hk
    have s2 := sumK_take_succ isRes T k hk
    rw [if_pos (by simp; omega), chk_of (inb_nat hk), ix_nat hk, w64_id (n := (k : Int) + 1) (by omega) (by omega)]
    by_cases h2 : T[k].Kind = 2
    · have d1 : isDue T[k].Kind = false := by simp [isDue, h2]
      have d2 : isRes T[k].Kind = true := by simp [isRes, h2]
      rw [d1] at s1
      rw [d2] at s2
      simp only [Bool.false_eq_true, if_false, if_true] at s1 s2
      have q1 : D - sumK isDue (T.take (k + 1)) = D - sumK isDue (T.take k) := by omega
      have q2 : R - sumK isRes (T.take (k + 1)) = R - sumK isRes (T.take k) - T[k].Amount := by omega
      rw [if_pos (by simpa using h2), w64_id (by omega) (by omega), Option.bind_some, q1, q2]
      rfl
    · have d1 : isDue T[k].Kind = true := by simp [isDue, h2]
      have d2 : isRes T[k].Kind = false := by simp [isRes, h2]
      rw [d1] at s1
      rw [d2] at s2
      simp only [Bool.false_eq_true, if_false, if_true] at s1 s2
      have q1 : D - sumK isDue (T.take (k + 1)) = D - sumK isDue (T.take k) - T[k].Amount := by omega
      have q2 : R - sumK isRes (T.take (k + 1)) = R - sumK isRes (T.take k) := by omega
      rw [if_neg (by simpa using h2), w64_id (by omega) (by omega), Option.bind_some, q1, q2]
      rfl
  · unfold treatylaw34_AccountParties_l66
    dsimp only
    rw [if_neg (by simp), List.take_of_length_le (Nat.le_refl _)]
theorem grp_abs (n : Nat) : ∀ s : List GEntry, s.length = n → ∀ r, grp s = some r → absA r ≤ absA s := by
  induction n using Nat.strongRecOn with
  | _ n ih =>
    intro s hn r hr
    match s with
    | [] =>
      unfold grp at hr
      cases hr
      simp
    | x :: l =>
      unfold grp at hr
      simp only at hr
      have hsplit : l = (l.takeWhile fun y => !kLt x y) ++ (l.dropWhile fun y => !kLt x y) := (List.takeWhile_append_dropWhile).symm
      have habs : absA l = absA (l.takeWhile fun y => !kLt x y) + absA (l.dropWhile fun y => !kLt x y) := by rw [← absA_append, ← hsplit]
      have h1' := sumA_abs (l.takeWhile fun y => !kLt x y)
      have h2' := absA_nonneg (l.takeWhile fun y => !kLt x y)
      have hle := (List.dropWhile_suffix (fun y => !kLt x y) (l := l)).length_le
      simp only [List.length_cons] at hn
      split at hr
      · obtain ⟨r', h1, h2⟩ := Option.map_eq_some_iff.1 hr
        have := ih _ (by omega) _ rfl r' h1
        rw [absA_cons]
        split at h2
        · subst h2; omega
        · subst h2
          rw [absA_cons]
          have e : (withA x (x.Amount + sumA (l.takeWhile fun y => !kLt x y))).Amount = x.Amount + sumA (l.takeWhile fun y => !kLt x y) := rfl
          rw [e]
          omega
      · cases hr
theorem treatylaw34_AccountParties_law (d : List Int) (hdd : d.length ≤ 9223372036854775807) : treatylaw34_AccountParties d = some true := by
  unfold treatylaw34_AccountParties
  obtain ⟨e1, hk⟩ := new_ok d hdd
  obtain ⟨l, d1, e2, _, h⟩ := ledger_ok hk 8 (by omega)
  rw [show ((8 : Nat) : Int) = 8 from rfl] at e2
  have hw := h.way
  have hlen := hw.len
  obtain ⟨T, hT, hC, hTl⟩ := collect_ex (l := ents l) (by rw [ents_len]; omega) (ents_valid hw.ok) (hw.bd.ok (by omega))
  rw [ents_len] at hTl
  have k1 := collect_sumK isDue (by rw [ents_len]; omega) (ents_valid hw.ok) hT
  have k2 := collect_sumK isRes (by rw [ents_len]; omega) (ents_valid hw.ok) hT
  have hsm := h.small
  have hTa : absA T ≤ 17592186044416 := by
    have hT' := hT
    rw [collect_all (by rw [ents_len]; omega) (ents_valid hw.ok)] at hT'
    cases hq : grp (msort (ents l)) with
    | none => rw [hq] at hT'; simp at hT'
    | some r' =>
      rw [hq] at hT'
      simp at hT'
      subst hT'
      have := grp_abs _ (msort (ents l)) rfl r' hq
      rw [absA_perm (msort_perm (ents l))] at this
      have e : absA (ents l) = absA (l.Postings.map (·.Entry)) := rfl
      omega
  have hall : ∀ v, sumF v (upPT 16 0) l.Postings = sumF v (fun _ => true) l.Postings := fun v => sumF_congr v fun x hx => by
    have := (h.tre x hx).2
    unfold upPT
    simp
    omega
  have hcnt : cntP l.Postings 16 = l.Postings.length := by
    unfold cntP
    rw [List.filter_eq_self.2 fun x hx => by have := (h.tre x hx).2; simp; omega]
  have b1 := sumF_abs due due_abs (fun _ => true) l.Postings
  have b2 := sumF_abs res res_abs (fun _ => true) l.Postings
  have hab : absP l.Postings ≤ 17592186044416 := by unfold absP; omega
  have t1 := (ptotals_all hw.ok).trans hT
  rw [e1, Option.bind_some, e2, Option.bind_some, partOuter h d1]
  simp only [Option.bind_some, Sum.elim_inr, Sum.elim_inl, t1, decide_true, Bool.not_true, Bool.false_eq_true, if_false]
  rw [hall, hall, partTot T 0 _ _ (by omega) (by omega) hTa (by omega), Option.bind_some, k1, k2, sum_due, sum_res, hcnt]
  have z1 : sumK isDue (l.Postings.map (·.Entry)) - sumK isDue (ents l) = 0 := Int.sub_self _
  have z2 : sumK isRes (l.Postings.map (·.Entry)) - sumK isRes (ents l) = 0 := Int.sub_self _
  rw [z1, z2]
  simp [awake34]
end Go.Proofs.Ytadkcelipefpmaa.Pl
