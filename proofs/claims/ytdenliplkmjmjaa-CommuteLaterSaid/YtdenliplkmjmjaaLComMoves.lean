/- CommuteMoves (plain). -/
import Derived.Test.YtdenliplkmjmjaaLComConserves
namespace Go.Proofs.Ytdenliplkmjmjaa.Pl
open Go

def k2 (e : GEntry) : Bool := decide (e.Kind = 2)
def kO (e : GEntry) : Bool := !decide (e.Kind = 2) && !decide (e.Kind = 5)
theorem tot_filter (q : GEntry → Bool) (hq : ∀ e, q (hd e) = q e) (u : List GEntry) (h : GEntry) : tot (u.filter q) h = if q h = true then tot u h else 0 := by
  induction u with
  | nil => simp [tot_nil]
  | cons x u ih =>
    by_cases hx : q x = true
    · rw [List.filter_cons_of_pos hx, tot_cons, tot_cons, ih]
      by_cases he : hd x = h
      · have : q h = true := by rw [← he, hq]; exact hx
        rw [if_pos this, if_pos he, if_pos this]
      · rw [if_neg he]
        split <;> omega
    · rw [List.filter_cons_of_neg hx, tot_cons, ih]
      by_cases he : hd x = h
      · have : ¬ q h = true := by rw [← he, hq]; exact hx
        rw [if_neg this, if_neg this]
      · rw [if_neg he]
        split <;> omega
theorem CollT.filter {T : GEntry → Int} {a : List GEntry} (h : CollT T a) (q : GEntry → Bool) (hq : ∀ e, q (hd e) = q e) : CollT (fun g => if q g = true then T g else 0) (a.filter q) := by
  refine ⟨h.strict.filter q, fun e => ?_⟩
  rw [List.mem_filter, h.mem]
  constructor
  · rintro ⟨⟨a, b⟩, c⟩
    refine ⟨a, ?_⟩
    rw [hq, if_pos c]
    exact b
  · rintro ⟨a, b⟩
    rw [hq] at b
    by_cases c : q e = true
    · rw [if_pos c] at b
      exact ⟨⟨a, b⟩, c⟩
    · rw [if_neg c] at b
      exact absurd b.symm a
def fA (s : List GEntry × List GEntry) (e : GEntry) : List GEntry × List GEntry := (s.1 ++ [e].filter k2, s.2 ++ [e].filter kO)
theorem fA_fold : ∀ (l : List GEntry) (s : List GEntry × List GEntry), l.foldl fA s = (s.1 ++ l.filter k2, s.2 ++ l.filter kO)
  | [], s => by simp
  | x :: l, s => by
    rw [List.foldl_cons, fA_fold l]
    unfold fA
    have e1 : (x :: l).filter k2 = [x].filter k2 ++ l.filter k2 := by rw [← List.filter_append]; rfl
    have e2 : (x :: l).filter kO = [x].filter kO ++ l.filter kO := by rw [← List.filter_append]; rfl
    rw [e1, e2]
    simp only [List.append_assoc]
theorem movesA (a : List GEntry) (z : Int) (hl : a.length ≤ 65536) : loopV (treatylaw36_CommuteMoves_l24 (a, z)) ([], [], 0) = some (a.filter k2, a.filter kO) := by
  have key : ∀ n k (s : List GEntry × List GEntry), a.length - k = n → k ≤ a.length → s.1.length ≤ k → s.2.length ≤ k → loopV (treatylaw36_CommuteMoves_l24 (a, z)) (s.1, s.2, (k : Int)) = some ((a.drop k).foldl fA s) := by
    intro n
    induction n with
    | zero =>
      intro k s hn hk _ _
      have : k = a.length := by omega
      subst this
      rw [List.drop_of_length_le (Nat.le_refl _)]
      refine loopV_stop ?_
      unfold treatylaw36_CommuteMoves_l24
      dsimp only
      rw [if_neg (by simp)]
      rfl
    | succ n ih =>
      intro k s hn hk h1 h2
      have hk' : k < a.length := by omega
      have hs : treatylaw36_CommuteMoves_l24 (a, z) (s.1, s.2, (k : Int)) = some (.inl ((fA s a[k]).1, (fA s a[k]).2, ((k + 1 : Nat) : Int))) := by
        unfold treatylaw36_CommuteMoves_l24 fA
        dsimp only
        rw [if_pos (decide_eq_true (by omega)), chk_of (inb_nat hk'), ix_nat hk', w64_id (n := (k : Int) + 1) (by omega) (by omega)]
        by_cases c1 : a[k].Kind = 2
        · rw [if_pos (by simpa using c1), chk_of (room_of (by simp; omega))]
          simp [k2, kO, c1]
        · rw [if_neg (by simpa using c1)]
          by_cases c2 : a[k].Kind = 5
          · rw [if_pos (by simpa using c2)]
            simp [k2, kO, c2]
          · rw [if_neg (by simpa using c2), chk_of (room_of (by simp; omega))]
            simp [k2, kO, c1, c2]
      have l1 : (fA s a[k]).1.length ≤ k + 1 := by
        have := List.length_filter_le k2 [a[k]]
        simp only [fA, List.length_append, List.length_singleton] at this ⊢
        omega
      have l2 : (fA s a[k]).2.length ≤ k + 1 := by
        have := List.length_filter_le kO [a[k]]
        simp only [fA, List.length_append, List.length_singleton] at this ⊢
        omega
      rw [loopV_next hs, ih (k + 1) _ (by omega) (by omega) l1 l2, List.drop_eq_getElem_cons hk', List.foldl_cons]
  have := key a.length 0 ([], []) rfl (Nat.zero_le _) (Nat.zero_le _) (Nat.zero_le _)
  rw [fA_fold] at this
  simpa using this
theorem movesB (a1 a2 : Int) (b : List GEntry) (z : Int) (hl : b.length ≤ 65536) (hn : ∀ e ∈ b, e.Kind = 2 → e.Treaty = w64 ((bAnd .i64 (w64 a1) 3) + 1) → e.Party = w64 ((bAnd .i64 (w64 a2) 3) + 1) → False) : loopV (treatylaw36_CommuteMoves_l50 a1 a2 (b, z)) ([], [], 0) = some (.inr (b.filter k2, b.filter kO)) := by
  have key : ∀ n k (s : List GEntry × List GEntry), b.length - k = n → k ≤ b.length → s.1.length ≤ k → s.2.length ≤ k → loopV (treatylaw36_CommuteMoves_l50 a1 a2 (b, z)) (s.1, s.2, (k : Int)) = some (.inr ((b.drop k).foldl fA s)) := by
    intro n
    induction n with
    | zero =>
      intro k s hn hk _ _
      have : k = b.length := by omega
      subst this
      rw [List.drop_of_length_le (Nat.le_refl _)]
      refine loopV_stop ?_
      unfold treatylaw36_CommuteMoves_l50
      dsimp only
      rw [if_neg (by simp)]
      rfl
    | succ n ih =>
      intro k s hn' hk h1 h2
      have hk' : k < b.length := by omega
      have hno := hn b[k] (List.getElem_mem hk')
      have hs : treatylaw36_CommuteMoves_l50 a1 a2 (b, z) (s.1, s.2, (k : Int)) = some (.inl ((fA s b[k]).1, (fA s b[k]).2, ((k + 1 : Nat) : Int))) := by
        unfold treatylaw36_CommuteMoves_l50 fA
        dsimp only
        rw [if_pos (decide_eq_true (by omega)), chk_of (inb_nat hk'), ix_nat hk', w64_id (n := (k : Int) + 1) (by omega) (by omega)]
        by_cases c1 : b[k].Kind = 2
        · have hq : ¬ ((decide (b[k].Treaty = w64 ((bAnd .i64 (w64 a1) 3) + 1)) && decide (b[k].Party = w64 ((bAnd .i64 (w64 a2) 3) + 1))) = true) := fun hc => by
            simp only [Bool.and_eq_true, decide_eq_true_eq] at hc
            exact hno c1 hc.1 hc.2
          rw [if_pos (by simpa using c1), if_neg hq, chk_of (room_of (by simp; omega))]
          simp [k2, kO, c1]
        · rw [if_neg (by simpa using c1)]
          by_cases c2 : b[k].Kind = 5
          · rw [if_pos (by simpa using c2)]
            simp [k2, kO, c2]
          · rw [if_neg (by simpa using c2), chk_of (room_of (by simp; omega))]
            simp [k2, kO, c1, c2]
      have l1 : (fA s b[k]).1.length ≤ k + 1 := by
        have := List.length_filter_le k2 [b[k]]
        simp only [fA, List.length_append, List.length_singleton] at this ⊢
        omega
      have l2 : (fA s b[k]).2.length ≤ k + 1 := by
        have := List.length_filter_le kO [b[k]]
        simp only [fA, List.length_append, List.length_singleton] at this ⊢
        omega
      rw [loopV_next hs, ih (k + 1) _ (by omega) (by omega) l1 l2, List.drop_eq_getElem_cons hk', List.foldl_cons]
  have := key b.length 0 ([], []) rfl (Nat.zero_le _) (Nat.zero_le _) (Nat.zero_le _)
  rw [fA_fold] at this
  simpa using this
theorem absA_coll {a : List GEntry} (hs : StrictE a) {l : List GEntry} (h : CollT (tot l) a) : absA a ≤ absA l := by
  have key : ∀ (a l : List GEntry), StrictE a → (∀ e ∈ a, tot l (hd e) = e.Amount) → absA a ≤ absA l := by
    intro a
    induction a with
    | nil => intro l _ _; exact absA_nonneg l
    | cons x a ih =>
      intro l hs h
      obtain ⟨h1, h2⟩ := List.pairwise_cons.1 hs
      -- split l by the heading of x
      have hperm : absA l = absA (l.filter fun e => decide (hd e = hd x)) + absA (l.filter fun e => !decide (hd e = hd x)) := by
        rw [← absA_append]
        exact absA_perm (List.filter_append_perm _ l).symm
      have hx : max x.Amount (-x.Amount) ≤ absA (l.filter fun e => decide (hd e = hd x)) := by
        have a1 := h x (by simp)
        have a2 := sumA_abs (l.filter fun e => decide (hd e = hd x))
        unfold tot at a1
        rw [a1] at a2
        omega
      have ha := ih (l.filter fun e => !decide (hd e = hd x)) h2 (fun e he => by
        rw [← h e (by simp [he])]
        have hne : hd e ≠ hd x := fun hc => by
          have := h1 e he
          rw [((hd_eq_iff e x).1 hc).2] at this
          cases this
        unfold tot
        rw [List.filter_filter]
        congr 1
        refine List.filter_congr fun y _ => ?_
        by_cases hy : hd y = hd e
        · have : ¬ (hd y = hd x) := fun hc => hne (by rw [← hy, hc])
          simp [hy, hne]
        · simp [hy])
      rw [absA_cons]
      omega
  exact key a l hs fun e he => ((h.mem e).1 he).2
theorem absA_filter (q : GEntry → Bool) (l : List GEntry) : absA (l.filter q) ≤ absA l := by
  induction l with
  | nil => simp
  | cons x l ih =>
    rw [absA_cons]
    by_cases h : q x = true
    · rw [List.filter_cons_of_pos h, absA_cons]; omega
    · rw [List.filter_cons_of_neg h]; omega
theorem treatylaw36_CommuteMoves_law (a0 : List Int) (a1 a2 a3 : Int) (h0 : a0.length ≤ 9223372036854775807) (h3 : 0 ≤ a3 ∧ a3 ≤ 65535) : treatylaw36_CommuteMoves a0 a1 a2 a3 = some true := by
  unfold treatylaw36_CommuteMoves
  obtain ⟨e1, hk1⟩ := new_ok a0 h0
  obtain ⟨l, d1, e2, _, hM⟩ := ledger_ok hk1 6 (by omega)
  rw [show ((6 : Nat) : Int) = 6 from rfl] at e2
  have hw := hM.way
  have wl := hw.len
  have hid := id_ok a1
  have hip := id_ok a2
  have e3 : w64 a3 = a3 := w64_id (by omega) (by omega)
  rw [e3]
  obtain ⟨cs1, cs2, l3, c1, c2, c3, c4, c5, c6, c7, c8, c9⟩ := commute_sem hw (by omega) (by omega) (by omega) (by omega) (tr := w64 ((bAnd .i64 (w64 a1) 3) + 1)) (pa := w64 ((bAnd .i64 (w64 a2) 3) + 1)) (price := a3) (by omega) (by omega) (by omega) (by omega) (by omega) (by omega)
  have wl3 := c4.len
  obtain ⟨a, t1, t2, t3⟩ := collect_ex (by rw [ents_len]; omega) (ents_valid hw.ok) (hw.bd.ok (by omega))
  obtain ⟨b, b1, b2, b3⟩ := collect_ex (by rw [ents_len]; omega) (ents_valid c4.ok) (c4.bd.ok (by omega))
  rw [ents_len] at t3 b3
  have hav := t2.valid (ents_valid hw.ok) (hw.bd.ok (by omega))
  have hbv := b2.valid (ents_valid c4.ok) (c4.bd.ok (by omega))
  have ta := (ptotals_all hw.ok).trans t1
  have tb := (ptotals_all c4.ok).trans b1
  generalize htr : w64 ((bAnd .i64 (w64 a1) 3) + 1) = tr at hid c1 c5 c8
  generalize hpa : w64 ((bAnd .i64 (w64 a2) 3) + 1) = pa at hip c1 c5 c8
  have h5 : ∀ g : GEntry, g.Kind ≠ 5 → tot [⟨5, tr, pa, 0, a3⟩] g = 0 := fun g hg => tot_none fun e he hc => by
    rw [List.mem_singleton.1 he] at hc
    exact hg (by rw [← hc]; rfl)
  have hR2 : ∀ g : GEntry, g.Kind = 2 → isR g = true := fun g hg => by simp [isR, hg]
  have c5' : ∀ g : GEntry, g.Amount = 0 → g.Kind = 2 → tot (ents l3) g = red tr pa (tot (ents l)) (tot (ents l)) g := fun g hg hk => by
    rw [c5 g hg, if_pos (hR2 g hk), h5 g (by omega)]
    omega
  have hnone : ∀ e ∈ b, e.Kind = 2 → e.Treaty = tr → e.Party = pa → False := fun e he hk ht hp => by
    obtain ⟨x1, x2⟩ := (b2.T.mem e).1 he
    have hm : mt tr pa (hd e) = true := by
      have hr : isR (hd e) = true := hR2 (hd e) hk
      have q1 : (hd e).Treaty = tr := ht
      have q2 : (hd e).Party = pa := hp
      simp [mt, hr, q1, q2]
    rw [c5' (hd e) (hd_amount e) hk] at x2
    unfold red st at x2
    have hk' : (hd e).Kind = 2 := hk
    rw [if_pos hm, if_pos hk'] at x2
    exact x1 x2.symm
  have lA := movesA a 0 (by omega)
  have lB := movesB a1 a2 b 0 (by omega) (by rw [htr, hpa]; exact hnone)
  -- reserves
  have hf2 := List.length_filter_le k2 a
  have hf2' := List.length_filter_le k2 b
  have hfO := List.length_filter_le kO a
  have hbdA : absA (a.filter k2) ≤ 824633720832 := by
    have q1 := absA_filter k2 a
    have q2 := absA_coll t2.strict t2.T
    have q3 := hM.small
    have q4 : absA (ents l) ≤ 137438953472 * ((6 : Nat) : Int) := q3
    omega
  obtain ⟨r, m1, m2, m3⟩ := merged_same (a := a.filter k2) (b := b.filter k2) (fun e he => (hav e (List.mem_filter.1 he).1).1) (fun e he => (hbv e (List.mem_filter.1 he).1).1) (by omega) (by omega) (B := 824633720832) (by omega) hbdA (fun g hg hg0 => by
    by_cases hk : g.Kind = 2
    · have x1 : psum (tot (a.filter k2)) g = psum (tot (ents l)) g := psum_congr fun p => by
        have : k2 (wp (p : Int) g) = true := by simp [k2, wp, hk]
        rw [tot_filter k2 (fun e => rfl), if_pos this, coll_tot t2 (wp (p : Int) g) hg]
      have x2 : psum (tot (b.filter k2)) g = psum (red tr pa (tot (ents l)) (tot (ents l))) g := psum_congr fun p => by
        have : k2 (wp (p : Int) g) = true := by simp [k2, wp, hk]
        rw [tot_filter k2 (fun e => rfl), if_pos this, coll_tot b2 (wp (p : Int) g) hg, c5' (wp (p : Int) g) hg hk]
      rw [x1, x2, psum_red (by omega) (by omega) _ _ hg0]
    · refine psum_congr fun p => ?_
      have : ¬ k2 (wp (p : Int) g) = true := by simp [k2, wp, hk]
      rw [tot_filter k2 (fun e => rfl), tot_filter k2 (fun e => rfl), if_neg this, if_neg this])
  have hO : b.filter kO = a.filter kO := by
    refine (b2.T.filter kO fun _ => rfl).uniq ((t2.T.filter kO fun _ => rfl).congr fun g hg => ?_)
    by_cases hk : kO g = true
    · rw [if_pos hk, if_pos hk]
      have q : ¬ g.Kind = 2 ∧ ¬ g.Kind = 5 := by simpa [kO] using hk
      have qw : ¬ (wp pa g).Kind = 2 := q.1
      rw [c5 g hg, h5 g q.2]
      by_cases hr : isR g = true
      · rw [if_pos hr]
        unfold red st
        rw [if_neg q.1, if_neg qw]
        split
        · omega
        · split <;> omega
      · rw [if_neg hr]
        omega
    · rw [if_neg hk, if_neg hk]
  have e4 := sameEntries_refl r (by omega)
  have e5 := sameEntries_refl (a.filter kO) (by omega)
  rw [hO] at lB
  simp only [e1, e2, c1, ta, tb, lA, lB, m1, m2, Option.bind_some, Sum.elim_inr, Sum.elim_inl, decide_true, Bool.not_true, Bool.or_self, Bool.false_eq_true, if_false, Bool.and_self, if_true, e4, e5, awake36]
end Go.Proofs.Ytdenliplkmjmjaa.Pl
