/- The program's comparison of headings; collected lists are determined by the totals (plain). -/
import Derived.Test.YtdenliplkmjmjaaLGen
namespace Go.Proofs.Ytdenliplkmjmjaa.Pl
open Go

def cmp3 (a b : Int) : Int := if a < b then -1 else if b < a then 1 else 0
theorem compare_i (a b : Int) : cmp_Compare_int a b = some (cmp3 a b) := by
  unfold cmp_Compare_int cmp_isNaN_int cmp3
  by_cases h1 : a < b
  · simp [h1]
  · by_cases h2 : b < a <;> simp [h1, h2]
/-- the first that is not 0 -/
def fstNZ : List Int → Int
  | [] => 0
  | a :: l => if a = 0 then fstNZ l else a
theorem or_eq (l : List Int) (hl : l.length ≤ 1000) : cmp_Or_int l = some (fstNZ l) := by
  unfold cmp_Or_int
  have key : ∀ (m : List Int) (k : Nat), l.drop k = m → k ≤ l.length → ∃ o, loopV (cmp_Or_int_l8 l) (k : Int) = some o ∧ ((o = .inr () ∧ fstNZ m = 0) ∨ o = .inl (fstNZ m)) := by
    intro m
    induction m with
    | nil =>
      intro k hk hle
      have hjl : l.length ≤ k := by simpa [List.drop_eq_nil_iff] using hk
      refine ⟨.inr (), loopV_stop ?_, .inl ⟨rfl, rfl⟩⟩
      unfold cmp_Or_int_l8
      rw [if_neg (by simp; omega)]
    | cons a m ih =>
      intro k hk hle
      obtain ⟨h1, h2, h3⟩ := drop_cons hk
      by_cases ha : a = 0
      · obtain ⟨o, ho, hq⟩ := ih (k + 1) h3 (by omega)
        refine ⟨o, ?_, by simpa [fstNZ, ha] using hq⟩
        refine (loopV_next (s' := ((k + 1 : Nat) : Int)) ?_).trans ho
        unfold cmp_Or_int_l8
        rw [if_pos (by simp; omega), chk_of (inb_nat h1), ix_get h2, w64_id (by omega) (by omega)]
        simp [ha]
      · refine ⟨.inl a, loopV_stop ?_, .inr (by simp [fstNZ, ha])⟩
        unfold cmp_Or_int_l8
        rw [if_pos (by simp; omega), chk_of (inb_nat h1), ix_get h2]
        simp [ha]
  obtain ⟨o, ho, hq⟩ := key l 0 rfl (Nat.zero_le _)
  rw [show ((0 : Nat) : Int) = 0 from rfl] at ho
  rw [ho]
  rcases hq with ⟨rfl, h⟩ | rfl
  · simp [h]
  · simp
def cmpE (a b : GEntry) : Int := fstNZ [cmp3 a.Kind b.Kind, cmp3 a.Treaty b.Treaty, cmp3 a.Party b.Party, cmp3 a.Loss b.Loss]
theorem compare_eq (a b : GEntry) : ledger_compare a b = some (cmpE a b) := by
  unfold ledger_compare
  simp only [compare_i, Option.bind_some]
  rw [or_eq _ (by simp)]
  rfl
theorem cmpE_lt (a b : GEntry) : cmpE a b < 0 ↔ kLt a b = true := by
  rw [kLt_iff]
  unfold cmpE fstNZ fstNZ fstNZ fstNZ fstNZ cmp3
  by_cases h1 : a.Kind < b.Kind
  · simp [h1]
  · by_cases h2 : b.Kind < a.Kind
    · simp [h1, h2]; omega
    · by_cases h3 : a.Treaty < b.Treaty
      · simp [h1, h2, h3]; omega
      · by_cases h4 : b.Treaty < a.Treaty
        · simp [h1, h2, h3, h4]; omega
        · by_cases h5 : a.Party < b.Party
          · simp [h1, h2, h3, h4, h5]; omega
          · by_cases h6 : b.Party < a.Party
            · simp [h1, h2, h3, h4, h5, h6]; omega
            · by_cases h7 : a.Loss < b.Loss
              · simp [h1, h2, h3, h4, h5, h6, h7]; omega
              · by_cases h8 : b.Loss < a.Loss
                · simp [h1, h2, h3, h4, h5, h6, h7, h8]
                · simp [h1, h2, h3, h4, h5, h6, h7, h8]
theorem orders_of {c : GEntry → GEntry → Option Int} (hc : ∀ a b, c a b = some (cmpE a b)) {xs : List GEntry} (hl : xs.length ≤ 100000000) : Orders c xs where
  len := by omega
  def_ := fun x _ y _ => ⟨_, hc x y⟩
  irr := fun x _ r hr => by
    rw [hc] at hr
    cases hr
    rw [cmpE_lt, kLt_irrefl]
    simp
  trans := fun x _ y _ z _ r s t h1 h2 h3 h4 h5 => by
    rw [hc] at h1 h2 h3
    cases h1; cases h2; cases h3
    rw [cmpE_lt] at *
    exact kLt_trans h4 h5
  ntrans := fun x _ y _ z _ r s t h1 h2 h3 h4 h5 => by
    rw [hc] at h1 h2 h3
    cases h1; cases h2; cases h3
    rw [cmpE_lt] at *
    have h4' : kLt x y = false := by simpa using h4
    have h5' : kLt y z = false := by simpa using h5
    have := kLe_trans h5' h4'
    simp [this]

theorem kLt_le {a b c : GEntry} (h1 : kLt a b = true) (h2 : kLt c b = false) : kLt a c = true := by
  have e2 : ¬ _ := mt (kLt_iff c b).2 (by simp [h2])
  rw [kLt_iff] at h1 ⊢
  omega

/-! ### headings and totals -/
def hd (e : GEntry) : GEntry := withA e 0
theorem hd_withA (e : GEntry) (a : Int) : hd (withA e a) = hd e := rfl
theorem hd_amount (e : GEntry) : (hd e).Amount = 0 := rfl
theorem withA_hd (e : GEntry) : withA (hd e) e.Amount = e := rfl
theorem hd_eq_iff (a b : GEntry) : hd a = hd b ↔ (kLt a b = false ∧ kLt b a = false) := by
  constructor
  · intro h
    have h1 : kLt a b = kLt (hd a) (hd b) := rfl
    have h2 : kLt b a = kLt (hd b) (hd a) := rfl
    rw [h1, h2, h]
    simp [kLt_irrefl]
  · rintro ⟨h1, h2⟩
    have e1 : ¬ _ := mt (kLt_iff a b).2 (by simp [h1])
    have e2 : ¬ _ := mt (kLt_iff b a).2 (by simp [h2])
    obtain ⟨k, t, p, l, x⟩ := a
    obtain ⟨k', t', p', l', x'⟩ := b
    simp only [hd, withA, GEntry.mk.injEq, and_true]
    simp only at e1 e2
    omega
def tot (l : List GEntry) (h : GEntry) : Int := sumA (l.filter fun e => decide (hd e = h))
theorem tot_nil (h : GEntry) : tot [] h = 0 := rfl
theorem tot_cons (x : GEntry) (l : List GEntry) (h : GEntry) : tot (x :: l) h = (if hd x = h then x.Amount else 0) + tot l h := by
  unfold tot
  by_cases hx : hd x = h
  · simp [hx, sumA_cons]
  · simp [hx]
theorem tot_append (a b : List GEntry) (h : GEntry) : tot (a ++ b) h = tot a h + tot b h := by
  unfold tot
  rw [List.filter_append, sumA_append]
theorem tot_perm {a b : List GEntry} (hp : a.Perm b) (h : GEntry) : tot a h = tot b h := by
  induction hp with
  | nil => rfl
  | cons x _ ih => rw [tot_cons, tot_cons, ih]
  | swap x y l => simp only [tot_cons]; omega
  | trans _ _ h1 h2 => exact h1.trans h2
theorem tot_none {l : List GEntry} {h : GEntry} (hn : ∀ e ∈ l, hd e ≠ h) : tot l h = 0 := by
  induction l with
  | nil => rfl
  | cons x l ih =>
    rw [tot_cons, if_neg (hn x (by simp)), ih fun e he => hn e (by simp [he])]
    rfl
theorem tot_one {l : List GEntry} {h : GEntry} (hn : ∀ e ∈ l, hd e = h) : tot l h = sumA l := by
  unfold tot
  rw [List.filter_eq_self.2 fun e he => by simpa using hn e he]
theorem tot_range {l : List GEntry} (hA : Amts l) (h : GEntry) : -17592186044416 * (l.length : Int) ≤ tot l h ∧ tot l h ≤ 17592186044416 * (l.length : Int) := by
  have h1 := sumA_range (hA.sub (m := l.filter fun e => decide (hd e = h)) fun e he => (List.mem_filter.1 he).1)
  have h2 := List.length_filter_le (fun e => decide (hd e = h)) l
  unfold tot
  omega
def StrictE (l : List GEntry) : Prop := l.Pairwise fun a b => kLt a b = true
theorem strict_ext : ∀ {a b : List GEntry}, StrictE a → StrictE b → (∀ e, e ∈ a ↔ e ∈ b) → a = b
  | [], [], _, _, _ => rfl
  | [], y :: b, _, _, h => absurd ((h y).2 (by simp)) (by simp)
  | x :: a, [], _, _, h => absurd ((h x).1 (by simp)) (by simp)
  | x :: a, y :: b, ha, hb, h => by
    have ha' := List.pairwise_cons.1 ha
    have hb' := List.pairwise_cons.1 hb
    have hxy : x = y := by
      have h1 := (h x).1 (by simp)
      have h2 := (h y).2 (by simp)
      rcases List.mem_cons.1 h1 with h1 | h1
      · exact h1
      · rcases List.mem_cons.1 h2 with h2 | h2
        · exact h2.symm
        · have h3 := kLt_trans (ha'.1 y h2) (hb'.1 x h1)
          rw [kLt_irrefl] at h3
          cases h3
    subst hxy
    congr 1
    refine strict_ext ha'.2 hb'.2 fun e => ?_
    constructor
    · intro he
      have h1 := (h e).1 (by simp [he])
      rcases List.mem_cons.1 h1 with h1 | h1
      · subst h1
        have := ha'.1 e he
        rw [kLt_irrefl] at this
        cases this
      · exact h1
    · intro he
      have h1 := (h e).2 (by simp [he])
      rcases List.mem_cons.1 h1 with h1 | h1
      · subst h1
        have := hb'.1 e he
        rw [kLt_irrefl] at this
        cases this
      · exact h1
/-- r is the collected list of l -/
structure Coll (l r : List GEntry) : Prop where
  strict : StrictE r
  mem : ∀ e, e ∈ r ↔ (e.Amount ≠ 0 ∧ tot l (hd e) = e.Amount)
theorem Coll.uniq {l a b : List GEntry} (ha : Coll l a) (hb : Coll l b) : a = b := strict_ext ha.strict hb.strict fun e => by rw [ha.mem, hb.mem]
/-- all totals are valid -/
def TotOk (l : List GEntry) : Prop := ∀ e ∈ l, vAmt (tot l (hd e)) = true
theorem twImp {α : Type} {p : α → Bool} {l : List α} {e : α} (h : e ∈ l.takeWhile p) : p e = true := by
  induction l with
  | nil => cases h
  | cons a l ih =>
    rw [List.takeWhile_cons] at h
    split at h
    · rename_i hp
      rcases List.mem_cons.1 h with rfl | h
      · exact hp
      · exact ih h
    · cases h
theorem grp_spec (n : Nat) : ∀ s : List GEntry, s.length = n → SortedE s → match grp s with | none => ¬ TotOk s | some r => TotOk s ∧ Coll s r := by
  induction n using Nat.strongRecOn with
  | _ n ih =>
    intro s hn hs
    match s with
    | [] =>
      have e0 : grp [] = some [] := by unfold grp; rfl
      rw [e0]
      exact ⟨fun e he => (by cases he), ⟨List.Pairwise.nil, fun e => by simp only [List.not_mem_nil, tot_nil, false_iff]; omega⟩⟩
    | x :: l =>
      have hs' := List.pairwise_cons.1 hs
      have hsplit : l = (l.takeWhile fun y => !kLt x y) ++ (l.dropWhile fun y => !kLt x y) := (List.takeWhile_append_dropWhile).symm
      have htw : ∀ e ∈ l.takeWhile (fun y => !kLt x y), hd e = hd x := fun e he => by
        have h1 := twImp he
        have h2 := hs'.1 e ((List.takeWhile_sublist _).subset he)
        exact (hd_eq_iff e x).2 ⟨h2, by simpa using h1⟩
      have hdsub : List.Sublist (l.dropWhile fun y => !kLt x y) l := List.dropWhile_sublist _
      have hsd : SortedE (l.dropWhile fun y => !kLt x y) := hs'.2.sublist hdsub
      have hdw : ∀ e ∈ l.dropWhile (fun y => !kLt x y), kLt x e = true := by
        cases hq : l.dropWhile (fun y => !kLt x y) with
        | nil => intro e he; cases he
        | cons y m =>
          have hy : kLt x y = true := by
            have := List.head_dropWhile_not (fun y => !kLt x y) (l := l) (by rw [hq]; simp)
            simp only [hq, List.head_cons] at this
            simpa using this
          rw [hq] at hsd
          intro e he
          rcases List.mem_cons.1 he with rfl | he
          · exact hy
          · exact kLt_le hy ((List.pairwise_cons.1 hsd).1 e he)
      have hne : ∀ e ∈ l.dropWhile (fun y => !kLt x y), hd e ≠ hd x := fun e he hc => by
        have := hdw e he
        rw [((hd_eq_iff e x).1 hc).2] at this
        cases this
      generalize htwe : l.takeWhile (fun y => !kLt x y) = tw at hsplit htw
      generalize hdwe : l.dropWhile (fun y => !kLt x y) = dw at hsplit hsd hdw hne hdsub
      have t1 : tot (x :: l) (hd x) = x.Amount + sumA tw := by
        rw [tot_cons, if_pos rfl, hsplit, tot_append, tot_one htw, tot_none hne]
        omega
      have t2 : ∀ h, h ≠ hd x → tot (x :: l) h = tot dw h := fun h hh => by
        rw [tot_cons, if_neg (fun e => hh e.symm), hsplit, tot_append, tot_none (l := tw) (h := h) (fun e he hc => hh (hc.symm.trans (htw e he)))]
        omega
      have hlen := congrArg List.length hsplit
      rw [List.length_append] at hlen
      simp only [List.length_cons] at hn
      have hrec := ih dw.length (by omega) dw rfl hsd
      have hmem : ∀ e ∈ x :: l, e = x ∨ e ∈ tw ∨ e ∈ dw := fun e he => by
        rcases List.mem_cons.1 he with he | he
        · exact .inl he
        · rw [hsplit] at he
          exact .inr (List.mem_append.1 he)
      have hin : ∀ e ∈ dw, e ∈ x :: l := fun e he => List.mem_cons_of_mem _ (hdsub.subset he)
      unfold grp
      simp only [htwe, hdwe]
      cases hv : vAmt (x.Amount + sumA tw) with
      | false =>
        simp only [Bool.false_eq_true, if_false]
        intro hT
        have := hT x (by simp)
        rw [t1, hv] at this
        cases this
      | true =>
        simp only [if_true]
        cases hg : grp dw with
        | none =>
          rw [hg] at hrec
          simp only [Option.map_none]
          intro hT
          apply hrec
          intro e he
          have := hT e (hin e he)
          rwa [t2 _ (hne e he)] at this
        | some r =>
          rw [hg] at hrec
          obtain ⟨hT, hC⟩ := hrec
          simp only [Option.map_some]
          have hr : ∀ e ∈ r, hd e ≠ hd x ∧ kLt x e = true := fun e he => by
            obtain ⟨h1, h2⟩ := (hC.mem e).1 he
            have hex : ∃ y ∈ dw, hd y = hd e := by
              apply Classical.byContradiction
              intro hno
              have := tot_none (l := dw) (h := hd e) (fun y hy hc => hno ⟨y, hy, hc⟩)
              omega
            obtain ⟨y, hy, hye⟩ := hex
            refine ⟨fun hc => hne y hy (hye.trans hc), ?_⟩
            have h3 : kLt x e = kLt x (hd e) := rfl
            have h4 : kLt x y = kLt x (hd y) := rfl
            rw [h3, ← hye, ← h4]
            exact hdw y hy
          refine ⟨fun e he => ?_, ?_, fun e => ?_⟩
          · rcases hmem e he with rfl | he | he
            · rw [t1]; exact hv
            · rw [htw e he, t1]; exact hv
            · rw [t2 _ (hne e he)]
              exact hT e he
          · split
            · exact hC.strict
            · exact List.pairwise_cons.2 ⟨fun e he => (hr e he).2, hC.strict⟩
          · by_cases hx : hd e = hd x
            · have hner : e ∉ r := fun he => (hr e he).1 hx
              rw [hx, t1]
              by_cases h0 : x.Amount + sumA tw = 0
              · rw [if_pos h0, h0]
                constructor
                · intro he; exact absurd he hner
                · intro he; exact absurd he.2.symm he.1
              · rw [if_neg h0, List.mem_cons]
                constructor
                · rintro (rfl | he)
                  · exact ⟨h0, rfl⟩
                  · exact absurd he hner
                · rintro ⟨_, h2⟩
                  left
                  rw [← withA_hd e, hx, ← h2]
                  rfl
            · rw [t2 _ hx, ← hC.mem]
              by_cases h0 : x.Amount + sumA tw = 0
              · rw [if_pos h0]
              · rw [if_neg h0, List.mem_cons]
                constructor
                · rintro (rfl | he)
                  · exact absurd rfl hx
                  · exact he
                · intro he; exact .inr he
theorem totOk_perm {a b : List GEntry} (hp : a.Perm b) : TotOk a ↔ TotOk b :=
  ⟨fun h e he => by rw [← tot_perm hp]; exact h e (hp.mem_iff.2 he), fun h e he => by rw [tot_perm hp]; exact h e (hp.mem_iff.1 he)⟩
theorem Coll.perm {a b r : List GEntry} (hp : a.Perm b) (h : Coll a r) : Coll b r := ⟨h.strict, fun e => by rw [h.mem, tot_perm hp]⟩
/-- what the reference collects -/
theorem grp_msort (l : List GEntry) : match grp (msort l) with | none => ¬ TotOk l | some r => TotOk l ∧ Coll l r := by
  have h := grp_spec _ (msort l) rfl (msort_sorted l)
  have hp := msort_perm l
  cases hg : grp (msort l) with
  | none =>
    rw [hg] at h
    exact fun hT => h ((totOk_perm hp).2 hT)
  | some r =>
    rw [hg] at h
    exact ⟨(totOk_perm hp).1 h.1, h.2.perm hp⟩
end Go.Proofs.Ytdenliplkmjmjaa.Pl
