/- InuringSubject (plain). -/
import Derived.Test.YtfekcgnnhjmeiaaLInOrder
namespace Go.Proofs.Ytfekcgnnhjmeiaa.Pl
open Go

theorem shr22 (x : Int) : bShr .i64 x 22 = x / 4194304 := by
  have e : bShr .i64 x 22 = x.fdiv 4194304 := rfl
  rw [e, Int.fdiv_eq_ediv_of_nonneg _ (by decide)]
theorem and22 (x : Int) : bAnd .i64 x 4194303 = x % 4194304 := by
  have e : bAnd .i64 x 4194303 = w64 ((BitVec.ofInt 64 x &&& BitVec.ofInt 64 4194303).toNat : Int) := rfl
  have h1 : (BitVec.ofInt 64 4194303).toNat = 2 ^ 22 - 1 := by decide
  rw [e, BitVec.toNat_and, h1, Nat.and_two_pow_sub_one_eq_mod, BitVec.toNat_ofInt]
  rw [w64_id (by omega) (by omega)]
  omega
theorem or22 {h l : Int} (h0 : 0 ≤ h) (h1 : h ≤ 2199023255551) (l0 : 0 ≤ l) (l1 : l < 4194304) : bOr .i64 (bShl .i64 h 22) l = h * 4194304 + l := by
  have e : bShl .i64 h 22 = w64 (h * 4194304) := rfl
  rw [e, w64_id (by omega) (by omega)]
  have e2 : bOr .i64 (h * 4194304) l = w64 ((BitVec.ofInt 64 (h * 4194304) ||| BitVec.ofInt 64 l).toNat : Int) := rfl
  obtain ⟨a, rfl⟩ := Int.eq_ofNat_of_zero_le h0
  obtain ⟨b, rfl⟩ := Int.eq_ofNat_of_zero_le l0
  have e3 : (BitVec.ofInt 64 ((a : Int) * 4194304)).toNat = 2 ^ 22 * a := by rw [BitVec.toNat_ofInt]; omega
  have e4 : (BitVec.ofInt 64 (b : Int)).toNat = b := by rw [BitVec.toNat_ofInt]; omega
  rw [e2, BitVec.toNat_or, e3, e4, ← Nat.two_pow_add_eq_or_of_lt (by omega), w64_id (by omega) (by omega)]
  omega
def okA (x : Int) : Bool := decide (-17592186044416 ≤ x) && decide (x ≤ 17592186044416)
theorem okA_iff {x : Int} : okA x = true ↔ -17592186044416 ≤ x ∧ x ≤ 17592186044416 := by simp [okA]
/-- what is ceded under the first treaties that inure -/
def cutS (ts : List GTreaty) (inu c : List Int) : Nat → Int
  | 0 => 0
  | q + 1 => cutS ts inu c q + if (ix ts (q : Int)).ID ∈ inu then ix c (q : Int) else 0
theorem cut_bound {ts : List GTreaty} {inu c : List Int} (h : ∀ k : Nat, k < c.length → okA (ix c (k : Int)) = true) : ∀ {q : Nat}, q ≤ c.length → -17592186044416 * (q : Int) ≤ cutS ts inu c q ∧ cutS ts inu c q ≤ 17592186044416 * (q : Int)
  | 0, _ => ⟨Int.le_refl _, Int.le_refl _⟩
  | q + 1, hq => by
    have ih := cut_bound (ts := ts) (inu := inu) h (q := q) (by omega)
    have := okA_iff.1 (h q (by omega))
    unfold cutS
    split <;> omega
def total (ts : List GTreaty) (i : Nat) (am : Int) (c : List Int) : Int := am - cutS ts (ix ts (i : Int)).Inures c c.length
theorem prog_valid {c : List Int} (hc : c.length ≤ 1000000) : loopV (inuring_Subject_l12 c) 0 = some (if (List.range c.length).any (fun k => !okA (ix c (k : Int))) = true then .inl 0 else .inr ()) := by
  refine loop_any _ (fun k hk => ?_) ?_
  · unfold inuring_Subject_l12 amount_Valid
    rw [if_pos (by simpa using hk), chk_of (inb_nat hk), Option.bind_some, w64_succ (by omega)]
    show (if (!okA (ix c (k : Int))) = true then _ else _) = _
    split <;> rfl
  · unfold inuring_Subject_l12
    rw [if_neg (by simp)]
theorem prog_loop {ts : List GTreaty} {c : List Int} (hl : ts.length ≤ 100) (hlen : c.length = ts.length) {am : Int} (ha : okA am = true) (hc : ∀ k : Nat, k < c.length → okA (ix c (k : Int)) = true) {inu : List Int} {m : List (Int × Bool)} (hm : ∀ x, mget m x false = decide (x ∈ inu)) :
    Ok (loopV (inuring_Subject_l36 ts c m) (0, am, 0)) fun s => s.1 * 4194304 + s.2 = am - cutS ts inu c c.length ∧ -1000000000 ≤ s.1 ∧ s.1 ≤ 1000000000 ∧ -35184372088832 ≤ s.2 ∧ s.2 ≤ 35184372088832 := by
  have ha' := okA_iff.1 ha
  refine (Ok.loop (fun s : Int × Int × Int => ∃ q : Nat, q ≤ ts.length ∧ s.2.2 = (q : Int) ∧ s.1 * 4194304 + s.2.1 = am - cutS ts inu c q ∧ -4194304 * (q : Int) ≤ s.1 ∧ s.1 ≤ 4194304 * (q : Int) ∧ am - 4194304 * (q : Int) ≤ s.2.1 ∧ s.2.1 ≤ am) (fun s => ts.length - s.2.2.toNat) (Q := fun s : Int × Int => s.1 * 4194304 + s.2 = am - cutS ts inu c c.length ∧ -4194304 * (ts.length : Int) ≤ s.1 ∧ s.1 ≤ 4194304 * (ts.length : Int) ∧ am - 4194304 * (ts.length : Int) ≤ s.2 ∧ s.2 ≤ am) ⟨0, by omega, rfl, by simp [cutS], by simp, by simp, by simp, by simp⟩ ?_).mono fun s hs => ⟨hs.1, by omega, by omega, by omega, by omega⟩
  rintro ⟨hi, lo, _⟩ ⟨q, hq, e, h1, h2, h3, h4, h5⟩
  dsimp only at e h1 h2 h3 h4 h5
  subst e
  unfold inuring_Subject_l36
  dsimp only
  refine Ok.ite (fun hcq => ?_) fun hcq => ?_
  · have hq' : q < ts.length := by simpa using hcq
    have hx := okA_iff.1 (hc q (by omega))
    refine Ok.bind (P := fun s : Int × Int => s.1 * 4194304 + s.2 = am - cutS ts inu c (q + 1) ∧ -4194304 * ((q + 1 : Nat) : Int) ≤ s.1 ∧ s.1 ≤ 4194304 * ((q + 1 : Nat) : Int) ∧ am - 4194304 * ((q + 1 : Nat) : Int) ≤ s.2 ∧ s.2 ≤ am) (Ok.chk (inb_nat hq') ?_) fun s hs => .some ⟨⟨q + 1, by omega, w64_succ (by omega), hs⟩, by dsimp only; rw [w64_succ (by omega)]; omega⟩
    rw [hm, shr22, and22]
    unfold cutS
    refine Ok.ite (fun hb => Ok.chk (inb_nat (by omega)) (.some ?_)) fun hb => .some ?_
    · rw [if_pos (of_decide_eq_true hb)]
      dsimp only
      rw [w64_id (n := hi - _) (by omega) (by omega), w64_id (n := lo - _) (by omega) (by omega)]
      refine ⟨by omega, by omega, by omega, by omega, by omega⟩
    · rw [if_neg (fun h => hb (decide_eq_true h))]
      refine ⟨by omega, by omega, by omega, by omega, by omega⟩
  · have : q = ts.length := by
      have : ¬ (q : Int) < ts.length := by simpa using hcq
      omega
    subst this
    rw [← hlen] at h1
    exact .some ⟨h1, h2, h3, h4, h5⟩
theorem ref_loop {ts : List GTreaty} {c : List Int} (hl : ts.length ≤ 100) (hlen : c.length = ts.length) (ht : TsLen ts) {i : Nat} (hi : i < ts.length) {am : Int} (ha : okA am = true) :
    Ok (loopV (treatyref25_Subject_l14 ts (i : Int) c) (am, 0)) fun o => match o with | .inl x => x = 0 ∧ (List.range c.length).any (fun k => !okA (ix c (k : Int))) = true | .inr s => s = total ts i am c ∧ ∀ k : Nat, k < c.length → okA (ix c (k : Int)) = true := by
  have ha' := okA_iff.1 ha
  refine Ok.loop (fun s : Int × Int => ∃ q : Nat, q ≤ c.length ∧ s.2 = (q : Int) ∧ s.1 = am - cutS ts (ix ts (i : Int)).Inures c q ∧ (-17592186044416 * (q : Int) ≤ cutS ts (ix ts (i : Int)).Inures c q ∧ cutS ts (ix ts (i : Int)).Inures c q ≤ 17592186044416 * (q : Int)) ∧ ∀ k : Nat, k < q → okA (ix c (k : Int)) = true) (fun s => c.length - s.2.toNat) ⟨0, by omega, rfl, by simp [cutS], by simp [cutS], fun k hk => by omega⟩ ?_
  rintro ⟨s, _⟩ ⟨q, hq, e, h1, h2, h3⟩
  dsimp only at e h1
  subst e
  unfold treatyref25_Subject_l14
  dsimp only
  refine Ok.ite (fun hcq => ?_) fun hcq => ?_
  · have hq' : q < c.length := by simpa using hcq
    unfold treatyref01_Valid
    rw [chk_of (inb_nat hq'), Option.bind_some]
    by_cases hv : okA (ix c (q : Int)) = true
    · have hx := okA_iff.1 hv
      rw [if_neg (by show ¬ (!okA (ix c (q : Int))) = true; rw [hv]; decide), chk_of (inb_nat hi), chk_of (inb_nat (by omega)), has_eq (ht i hi).3, Option.bind_some]
      have hnew : ∀ x : Int, x = am - cutS ts (ix ts (i : Int)).Inures c (q + 1) → (-17592186044416 * ((q + 1 : Nat) : Int) ≤ cutS ts (ix ts (i : Int)).Inures c (q + 1) ∧ cutS ts (ix ts (i : Int)).Inures c (q + 1) ≤ 17592186044416 * ((q + 1 : Nat) : Int)) → ∃ q' : Nat, q' ≤ c.length ∧ w64 ((q : Int) + 1) = (q' : Int) ∧ x = am - cutS ts (ix ts (i : Int)).Inures c q' ∧ (-17592186044416 * (q' : Int) ≤ cutS ts (ix ts (i : Int)).Inures c q' ∧ cutS ts (ix ts (i : Int)).Inures c q' ≤ 17592186044416 * (q' : Int)) ∧ ∀ k : Nat, k < q' → okA (ix c (k : Int)) = true := by
        intro x hx1 hx2
        refine ⟨q + 1, by omega, w64_succ (by omega), hx1, hx2, fun k hk => ?_⟩
        by_cases e : k = q
        · subst e; exact hv
        · exact h3 k (by omega)
      by_cases hb : (ix ts (q : Int)).ID ∈ (ix ts (i : Int)).Inures
      · have ec : cutS ts (ix ts (i : Int)).Inures c (q + 1) = cutS ts (ix ts (i : Int)).Inures c q + ix c (q : Int) := by rw [cutS, if_pos hb]
        rw [if_pos (decide_eq_true hb)]
        refine .some ⟨hnew _ ?_ (by rw [ec]; omega), by dsimp only; rw [w64_succ (by omega)]; omega⟩
        rw [ec, w64_id (by omega) (by omega)]
        omega
      · have ec : cutS ts (ix ts (i : Int)).Inures c (q + 1) = cutS ts (ix ts (i : Int)).Inures c q := by rw [cutS, if_neg hb, Int.add_zero]
        rw [if_neg (fun h => hb (of_decide_eq_true h))]
        refine .some ⟨hnew _ ?_ (by rw [ec]; omega), by dsimp only; rw [w64_succ (by omega)]; omega⟩
        rw [ec]
        exact h1
    · rw [if_pos (by show (!okA (ix c (q : Int))) = true; rw [Bool.eq_false_iff.2 hv]; rfl)]
      exact .some ⟨rfl, List.any_eq_true.2 ⟨q, List.mem_range.2 hq', by rw [Bool.eq_false_iff.2 hv]; rfl⟩⟩
  · have : q = c.length := by
      have : ¬ (q : Int) < c.length := by simpa using hcq
      omega
    subst this
    exact .some ⟨h1, h3⟩
theorem subject_same {ts : List GTreaty} (hl : ts.length ≤ 100) (ht : TsLen ts) (i am : Int) (c : List Int) : ∃ v, inuring_Subject ts i am c = some v ∧ treatyref25_Subject ts i am c = some v := by
  unfold inuring_Subject treatyref25_Subject amount_Valid treatyref01_Valid
  by_cases h0 : (((decide (i < 0)) || (decide ((ts.length : Int) ≤ i))) || (!decide ((c.length : Int) = (ts.length : Int)))) = true
  · rw [if_pos h0, Option.bind_some, Option.bind_some, if_pos rfl, if_pos rfl]
    exact ⟨0, rfl, rfl⟩
  rw [if_neg h0]
  simp only [Option.bind_some]
  show ∃ v, (if (!okA am) = true then _ else _) = some v ∧ (if (!okA am) = true then _ else _) = some v
  by_cases h1 : okA am = true
  rotate_left
  · rw [if_pos (by rw [Bool.eq_false_iff.2 h1]; rfl), if_pos (by rw [Bool.eq_false_iff.2 h1]; rfl)]
    exact ⟨0, rfl, rfl⟩
  rw [if_neg (by rw [h1]; decide), if_neg (by rw [h1]; decide)]
  have h0' : ¬ i < 0 ∧ ¬ (ts.length : Int) ≤ i ∧ (c.length : Int) = ts.length := by
    simp only [Bool.or_eq_true, decide_eq_true_eq, Bool.not_eq_true', decide_eq_false_iff_not, not_or, Classical.not_not] at h0
    exact ⟨h0.1.1, h0.1.2, h0.2⟩
  obtain ⟨k, rfl⟩ := Int.eq_ofNat_of_zero_le (show 0 ≤ i by omega)
  have hk : k < ts.length := by omega
  have hlen : c.length = ts.length := by omega
  obtain ⟨o, ho, hq⟩ := ref_loop hl hlen ht hk h1 (c := c)
  rw [prog_valid (by omega)]
  cases o with
  | inl x =>
    obtain ⟨rfl, hany⟩ := hq
    rw [if_pos hany, ho]
    exact ⟨0, rfl, rfl⟩
  | inr s =>
    obtain ⟨rfl, hall⟩ := hq
    rw [if_neg, ho]
    rotate_left
    · intro hc
      obtain ⟨q, hq1, hq2⟩ := List.any_eq_true.1 hc
      rw [hall q (List.mem_range.1 hq1)] at hq2
      cases hq2
    refine ⟨maxI (total ts k am c) 0, ?_, rfl⟩
    obtain ⟨m, hm1, hm2⟩ := set_eq (ht k hk).3
    obtain ⟨s, hs, e1, e2, e3, e4, e5⟩ := prog_loop (ts := ts) hl hlen h1 hall hm2
    simp only [Option.bind_some, Sum.elim_inl, Sum.elim_inr]
    rw [chk_of (inb_nat hk), hm1, Option.bind_some, hs, Option.bind_some, shr22, and22, w64_id (n := s.1 + _) (by omega) (by omega)]
    have et : s.1 * 4194304 + s.2 = total ts k am c := e1
    have hb := cut_bound (ts := ts) (inu := (ix ts (k : Int)).Inures) hall (Nat.le_refl _)
    have ham := okA_iff.1 h1
    have hbt : total ts k am c ≤ 2000000000000000 := by unfold total; omega
    unfold maxI
    by_cases hn : s.1 + s.2 / 4194304 < 0
    · rw [if_pos (decide_eq_true hn), if_pos (by omega)]
    · rw [if_neg (by rw [decide_eq_true_eq]; exact hn), if_neg (by rw [decide_eq_true_eq]; omega), or22 (by omega) (by omega) (by omega) (by omega)]
      split
      · omega
      · congr 1
        omega
theorem amountsQ {d : GDeck} (hd : DOk d) {n : Nat} (hn : n ≤ 1000000) : Ok (treatymade2_Amounts d (n : Int)) fun r => DOk r.2 := by
  unfold treatymade2_Amounts
  refine Ok.chk (by simp) (Ok.chk (by rw [decide_eq_true_eq]; omega) ?_)
  rw [Int.toNat_natCast]
  refine Ok.bind (P := fun s : List Int × Int × List Int => DOk (GDeck.mk s.1 s.2.1)) ?_ fun s hs => .some hs
  refine Ok.loop (fun s : List Int × Int × List Int × Int => DOk (GDeck.mk s.1 s.2.1) ∧ s.2.2.1.length = n ∧ ∃ q : Nat, q ≤ n ∧ s.2.2.2 = (q : Int)) (fun s => n - s.2.2.2.toNat) ⟨hd, by simp, 0, by omega, rfl⟩ ?_
  rintro ⟨L, A, l, _⟩ ⟨h1, h2, q, hq, e⟩
  dsimp only at h1 h2 e
  subst e
  unfold treatymade2_Amounts_l8
  rw [Int.toNat_natCast, List.length_replicate]
  dsimp only
  refine Ok.ite (fun hc => ?_) fun _ => .some h1
  have hc' : q < n := by simpa using hc
  refine (smallQ h1).bind fun r hr => Ok.chk (inb_nat (by omega)) (.some ⟨⟨hr.2.2, by dsimp only; rw [upd_length]; exact h2, q + 1, by omega, w64_succ (by omega)⟩, ?_⟩)
  dsimp only
  rw [w64_succ (by omega)]
  omega
theorem treatylaw29_InuringSubject_law (a0 : List Int) (a1 a2 : Int) (a3 : List Int) (h0 : a0.length ≤ 9223372036854775807) (h3 : a3.length ≤ 9223372036854775807) : treatylaw29_InuringSubject a0 a1 a2 a3 = some true := by
  apply ok_true
  unfold treatylaw29_InuringSubject
  refine (newQ h0).bind fun d hd => (treatiesQ hd).bind fun r hr => (newQ h3).bind fun d2 hd2 => ?_
  obtain ⟨_, h1, h8, id, hm⟩ := hr
  refine (amountsQ hd2 (by omega)).bind fun c hc => (nextQ hc (by omega) (by omega)).bind fun k hk => ?_
  obtain ⟨v, d3, e, _, _, _⟩ := upto_ok hk.2.2 (n := 1099511627776) (by omega) (by omega)
  rw [e, Option.bind_some]
  obtain ⟨x1, p1, q1⟩ := subject_same (ts := r.1) (by omega) hm.tslen a1 a2 a3
  obtain ⟨x2, p2, q2⟩ := subject_same (ts := r.1) (by omega) hm.tslen k.1 v c.1
  obtain ⟨x3, p3, q3⟩ := subject_same (ts := r.1) (by omega) hm.tslen k.1 a2 c.1
  dsimp only
  rw [p1, q1, p2, q2, p3, q3, awake_ok]
  simp only [Option.bind_some, decide_true, if_true]
  exact .some rfl
end Go.Proofs.Ytfekcgnnhjmeiaa.Pl
