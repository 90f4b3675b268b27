/- account.Balance and account.Statement, and the reference, for all ledgers (plain). -/
import Derived.Test.YtipblbjkbeiflaaLAcc
namespace Go.Proofs.Ytipblbjkbeiflaa.Pl
open Go

/-! ### which ledgers are valid -/
structure VFacts (l : GLedger) : Prop where
  c0 : 0 ≤ l.Closed
  c1 : l.Closed ≤ 100
  len : l.Postings.length ≤ 65536
  per : ∀ p ∈ l.Postings, 0 ≤ p.Period ∧ p.Period ≤ l.Closed
theorem validate_tot (l : GLedger) : ∃ e, treatyref33_Validate l = some e ∧ (e = 0 → VFacts l) := by
  unfold treatyref33_Validate
  by_cases h : l.Closed < 0 ∨ 100 < l.Closed ∨ 65536 < l.Postings.length
  · refine ⟨4, by rw [if_pos (by simp; omega)], fun h => absurd h (by decide)⟩
  · rw [if_neg (by simp; omega)]
    have key := loopV_inv (step := treatyref33_Validate_l12 l) (fun s => ∃ k : Nat, s = (k : Int) ∧ k ≤ l.Postings.length ∧ ∀ j (hj : j < l.Postings.length), j < k → 0 ≤ l.Postings[j].Period ∧ l.Postings[j].Period ≤ l.Closed) (fun s => l.Postings.length - s.toNat) (fun o => (∃ e, o = .inl e ∧ e ≠ 0) ∨ (o = .inr () ∧ ∀ p ∈ l.Postings, 0 ≤ p.Period ∧ p.Period ≤ l.Closed)) ?_ 0 ⟨0, rfl, by omega, fun j _ h => by omega⟩
    · obtain ⟨o, ho, hq⟩ := key
      rw [ho]
      rcases hq with ⟨e, rfl, he⟩ | ⟨rfl, hp⟩
      · exact ⟨e, rfl, fun h => absurd h he⟩
      · exact ⟨0, rfl, fun _ => ⟨by omega, by omega, by omega, hp⟩⟩
    rintro _ ⟨k, rfl, hk, hj⟩
    unfold treatyref33_Validate_l12
    by_cases hkl : k < l.Postings.length
    · rw [if_pos (by simp; omega), chk_of (inb_nat hkl), ix_nat hkl, rvalid_eq, Option.bind_some]
      by_cases hb : ((((((!vE l.Postings[k].Entry) || (decide (l.Postings[k].Entry.Amount = 0))) || (decide (l.Postings[k].Number < 1))) || (decide (65536 < l.Postings[k].Number))) || (decide (l.Postings[k].Period < 0))) || (decide (l.Closed < l.Postings[k].Period))) = true
      · rw [if_pos hb]
        exact ⟨_, rfl, .inl ⟨1, rfl, by decide⟩⟩
      · rw [if_neg hb]
        have hper : 0 ≤ l.Postings[k].Period ∧ l.Postings[k].Period ≤ l.Closed := by
          simp at hb
          omega
        have hs : ∃ b : Bool, (if (decide (0 < (k : Int))) = true then (if (decide (l.Postings[k].Number ≤ (ix l.Postings (w64 ((k : Int) - 1))).Number)) = true then (chk (inb l.Postings (w64 ((k : Int) - 1))) <| some true) else (chk (inb l.Postings (w64 ((k : Int) - 1))) <| some (decide (l.Postings[k].Period < (ix l.Postings (w64 ((k : Int) - 1))).Period)))) else (some false)) = some b := by
          by_cases h0 : 0 < k
          · have hin : inb l.Postings (w64 ((k : Int) - 1)) = true := by
              rw [w64_pred k h0 (by omega)]
              exact inb_nat (by omega)
            rw [if_pos (by simp; omega), chk_of hin, chk_of hin]
            split
            · exact ⟨_, rfl⟩
            · exact ⟨_, rfl⟩
          · exact ⟨false, by rw [if_neg (by simp; omega)]⟩
        obtain ⟨b, eb⟩ := hs
        rw [eb, Option.bind_some]
        cases b
        · rw [if_neg (by simp), w64_id (by omega) (by omega)]
          refine ⟨_, rfl, ⟨k + 1, rfl, by omega, fun j hj1 hj2 => ?_⟩, by omega⟩
          by_cases e : j = k
          · subst e; exact hper
          · exact hj j hj1 (by omega)
        · rw [if_pos rfl]
          exact ⟨_, rfl, .inl ⟨13, rfl, by decide⟩⟩
    · rw [if_neg (by simp; omega)]
      refine ⟨_, rfl, .inr ⟨rfl, fun p hp => ?_⟩⟩
      obtain ⟨j, hj1, rfl⟩ := List.getElem_of_mem hp
      exact hj j hj1 (by omega)
/-! ### sums -/
def addP (s : Int × Int) (p : GPosting) : Int × Int := if p.Entry.Kind = 2 then (s.1, w64 (s.2 + p.Entry.Amount)) else (w64 (s.1 + p.Entry.Amount), s.2)
def wsum (l : List GPosting) : Int × Int := l.foldl addP (0, 0)
theorem wsum_snoc (l : List GPosting) (p : GPosting) : wsum (l ++ [p]) = addP (wsum l) p := by simp [wsum]
/-- a loop that adds up the postings that a test accepts -/
theorem wsum_loop {step : Int × Int × Int → Option ((Int × Int × Int) ⊕ (Int × Int))} (l : List GPosting) (f : GPosting → Bool)
    (h1 : ∀ (k : Nat) (hk : k < l.length) (s : Int × Int), step (s.1, s.2, (k : Int)) = some (.inl (let r := if f l[k] = true then addP s l[k] else s; (r.1, r.2, ((k + 1 : Nat) : Int)))))
    (h2 : ∀ s : Int × Int, step (s.1, s.2, (l.length : Int)) = some (.inr s)) : loopV step (0, 0, 0) = some (wsum (l.filter f)) := by
  have hd := loopV_done (step := step) (fun k => ((wsum ((l.take k).filter f)).1, (wsum ((l.take k).filter f)).2, (k : Int))) l.length (wsum (l.filter f)) (fun k hk => ?_) ?_
  · simpa [wsum] using hd
  · rw [h1 k hk]
    dsimp only
    rw [List.take_succ_eq_append_getElem hk, List.filter_append]
    by_cases hf : f l[k] = true
    · rw [if_pos hf]
      have : [l[k]].filter f = [l[k]] := by simp [hf]
      rw [this, wsum_snoc]
    · rw [if_neg hf]
      have : [l[k]].filter f = [] := by simp [hf]
      rw [this, List.append_nil]
  · rw [h2, List.take_of_length_le (Nat.le_refl _)]
theorem bsum_loop (l : GLedger) (t p : Int) (hl : l.Postings.length ≤ 65536) : loopV (account_sum_account_Balance_c1_l8 l t p) (0, 0, 0) = some (wsum (l.Postings.filter (fun x => decide (x.Entry.Treaty = t) && decide (x.Entry.Party = p)))) := by
  refine wsum_loop l.Postings _ (fun k hk s => ?_) (fun s => ?_)
  · unfold account_sum_account_Balance_c1_l8 account_Balance_c1
    dsimp only
    rw [if_pos (by simp; omega), chk_of (inb_nat hk), ix_nat hk, Option.bind_some, w64_id (n := (k : Int) + 1) (by omega) (by omega)]
    cases hf : (decide (l.Postings[k].Entry.Treaty = t) && decide (l.Postings[k].Entry.Party = p))
    · simp
    · unfold addP
      by_cases h2 : l.Postings[k].Entry.Kind = 2 <;> simp [h2]
  · unfold account_sum_account_Balance_c1_l8
    dsimp only
    rw [if_neg (by simp)]
theorem ssum_loop (l : GLedger) (t p e : Int) (hl : l.Postings.length ≤ 65536) : loopV (account_sum_account_Statement_c1_c1_l8 l t p e) (0, 0, 0) = some (wsum (l.Postings.filter (fun x => decide (x.Entry.Treaty = t) && decide (x.Entry.Party = p) && decide (x.Period < e)))) := by
  refine wsum_loop l.Postings _ (fun k hk s => ?_) (fun s => ?_)
  · unfold account_sum_account_Statement_c1_c1_l8 account_Statement_c1_c1
    dsimp only
    rw [if_pos (by simp; omega), chk_of (inb_nat hk), ix_nat hk, Option.bind_some, w64_id (n := (k : Int) + 1) (by omega) (by omega)]
    cases hf : (decide (l.Postings[k].Entry.Treaty = t) && decide (l.Postings[k].Entry.Party = p) && decide (l.Postings[k].Period < e))
    · simp
    · unfold addP
      by_cases h2 : l.Postings[k].Entry.Kind = 2 <;> simp [h2]
  · unfold account_sum_account_Statement_c1_c1_l8
    dsimp only
    rw [if_neg (by simp)]
theorem rbal_loop (l : List GPosting) (hl : l.length ≤ 65536) : loopV (treatyref33_balance_l8 l) (0, 0, 0) = some (wsum l) := by
  have := wsum_loop (step := treatyref33_balance_l8 l) l (fun _ => true) (fun k hk s => ?_) (fun s => ?_)
  · rw [List.filter_eq_self.2 fun _ _ => rfl] at this
    exact this
  · unfold treatyref33_balance_l8
    dsimp only
    rw [if_pos (by simp; omega), chk_of (inb_nat hk), ix_nat hk, w64_id (n := (k : Int) + 1) (by omega) (by omega)]
    unfold addP
    by_cases h2 : l[k].Entry.Kind = 2 <;> simp [h2]
  · unfold treatyref33_balance_l8
    dsimp only
    rw [if_neg (by simp)]
def gSel (t p a b : Int) (x : GPosting) : Bool := ((decide (x.Entry.Treaty = t) && decide (x.Entry.Party = p)) && decide (a ≤ x.Period)) && decide (x.Period ≤ b)
theorem some_eq (l : GLedger) (t p a b : Int) (hl : l.Postings.length ≤ 65536) : treatyref33_some l t p a b = some (l.Postings.filter (gSel t p a b)) := by
  unfold treatyref33_some
  have hd := loopV_done (step := treatyref33_some_l8 l t p a b) (fun k => ((l.Postings.take k).filter (gSel t p a b), (k : Int))) l.Postings.length (l.Postings.filter (gSel t p a b)) (fun k hk => ?_) ?_
  · have hd' : loopV (treatyref33_some_l8 l t p a b) ([], 0) = some (l.Postings.filter (gSel t p a b)) := by simpa using hd
    rw [hd']
    rfl
  · have hlen : ((l.Postings.take k).filter (gSel t p a b)).length ≤ 65536 := by
      have h1 := List.length_filter_le (gSel t p a b) (l.Postings.take k)
      have h2 : (l.Postings.take k).length ≤ 65536 := by simp; omega
      omega
    unfold treatyref33_some_l8
    dsimp only
    rw [if_pos (by simp; omega), chk_of (inb_nat hk), ix_nat hk, w64_id (n := (k : Int) + 1) (by omega) (by omega), List.take_succ_eq_append_getElem hk, List.filter_append]
    by_cases hf : gSel t p a b l.Postings[k] = true
    · have hf' := hf
      unfold gSel at hf'
      rw [if_pos hf', chk_of (room_of (by simp; omega)), Option.bind_some]
      simp [hf]
    · have hf' := hf
      unfold gSel at hf'
      rw [if_neg hf', Option.bind_some]
      simp [hf]
  · unfold treatyref33_some_l8
    dsimp only
    rw [if_neg (by simp), List.take_of_length_le (Nat.le_refl _)]
def vA (n : Int) : Bool := decide (-17592186044416 ≤ n) && decide (n ≤ 17592186044416)
def okS (s : Int × Int) : Bool := vA s.1 && vA s.2
theorem rbalance_eq (l : List GPosting) (hl : l.length ≤ 65536) : treatyref33_balance l = some (if okS (wsum l) then (⟨(wsum l).1, (wsum l).2⟩, true) else (⟨0, 0⟩, false)) := by
  unfold treatyref33_balance treatyref01_Valid
  rw [rbal_loop l hl, Option.bind_some, Option.bind_some]
  generalize wsum l = s
  have e2 : ∀ n : Int, (decide (-17592186044416 ≤ n) && decide (n ≤ 17592186044416)) = vA n := fun _ => rfl
  unfold okS
  rw [e2, e2]
  cases vA s.1 <;> cases vA s.2 <;> simp
def balS (s : Int × Int) : GBalance × Int := if okS s then (⟨s.1, s.2⟩, 0) else (⟨0, 0⟩, 3)
theorem bsum_eq (l : GLedger) (t p : Int) (hl : l.Postings.length ≤ 65536) : account_sum_account_Balance_c1 l t p = some (balS (wsum (l.Postings.filter (fun x => decide (x.Entry.Treaty = t) && decide (x.Entry.Party = p))))) := by
  unfold account_sum_account_Balance_c1 amount_Valid
  rw [bsum_loop l t p hl, Option.bind_some, Option.bind_some]
  generalize wsum _ = s
  have e2 : ∀ n : Int, (decide (-17592186044416 ≤ n) && decide (n ≤ 17592186044416)) = vA n := fun _ => rfl
  unfold balS okS
  rw [e2, e2]
  cases vA s.1 <;> cases vA s.2 <;> simp
theorem ssum_eq (l : GLedger) (t p e : Int) (hl : l.Postings.length ≤ 65536) : account_Statement_c1 e l t p = some (balS (wsum (l.Postings.filter (fun x => decide (x.Entry.Treaty = t) && decide (x.Entry.Party = p) && decide (x.Period < e))))) := by
  unfold account_Statement_c1 account_sum_account_Statement_c1_c1 amount_Valid
  rw [ssum_loop l t p e hl, Option.bind_some, Option.bind_some]
  generalize wsum _ = s
  have e2 : ∀ n : Int, (decide (-17592186044416 ≤ n) && decide (n ≤ 17592186044416)) = vA n := fun _ => rfl
  unfold balS okS
  rw [e2, e2]
  cases vA s.1 <;> cases vA s.2 <;> simp
theorem filter_len {f : GPosting → Bool} {l : List GPosting} (h : l.length ≤ 65536) : (l.filter f).length ≤ 65536 := by
  have := List.length_filter_le f l
  omega
/-- both give the same balance -/
theorem balance_same (l : GLedger) (t p : Int) : ∃ r, account_Balance l t p = some r ∧ treatyref33_Balance l t p = some r := by
  obtain ⟨e, he, hv⟩ := validate_tot l
  unfold account_Balance treatyref33_Balance
  rw [validate_same, he, Option.bind_some, Option.bind_some]
  by_cases h0 : e = 0
  · have hf := hv h0
    have hl := hf.len
    have e1 : l.Postings.filter (gSel t p 0 l.Closed) = l.Postings.filter (fun x => decide (x.Entry.Treaty = t) && decide (x.Entry.Party = p)) := by
      apply List.filter_congr
      intro x hx
      have := hf.per x hx
      unfold gSel
      simp [this]
    rw [if_neg (by simp [h0]), if_neg (by simp [h0]), bsum_eq l t p hl, Option.bind_some, some_eq l t p 0 l.Closed hl, Option.bind_some, rbalance_eq _ (filter_len hl), Option.bind_some, e1]
    refine ⟨_, rfl, ?_⟩
    unfold balS
    cases okS (wsum (l.Postings.filter (fun x => decide (x.Entry.Treaty = t) && decide (x.Entry.Party = p)))) <;> simp
  · rw [if_pos (by simpa using h0), if_pos (by simpa using h0)]
    exact ⟨_, rfl, rfl⟩
theorem stPost_eq (l : GLedger) (t p n : Int) (hl : l.Postings.length ≤ 65536) : loopV (account_Statement_l42 l t p n) ([], 0) = some (l.Postings.filter (gSel t p n n)) := by
  have hd := loopV_done (step := account_Statement_l42 l t p n) (fun k => ((l.Postings.take k).filter (gSel t p n n), (k : Int))) l.Postings.length (l.Postings.filter (gSel t p n n)) (fun k hk => ?_) ?_
  · simpa using hd
  · have hlen : ((l.Postings.take k).filter (gSel t p n n)).length ≤ 65536 := by
      have h1 := List.length_filter_le (gSel t p n n) (l.Postings.take k)
      have h2 : (l.Postings.take k).length ≤ 65536 := by simp; omega
      omega
    have hc : (((decide (l.Postings[k].Entry.Treaty = t)) && (decide (l.Postings[k].Entry.Party = p))) && (decide (l.Postings[k].Period = n))) = gSel t p n n l.Postings[k] := by
      unfold gSel
      rw [Bool.eq_iff_iff]
      simp
      omega
    unfold account_Statement_l42
    dsimp only
    rw [if_pos (by simp; omega), chk_of (inb_nat hk), ix_nat hk, hc, w64_id (n := (k : Int) + 1) (by omega) (by omega), List.take_succ_eq_append_getElem hk, List.filter_append]
    by_cases hf : gSel t p n n l.Postings[k] = true
    · rw [if_pos hf, chk_of (room_of (by simp; omega)), Option.bind_some]
      simp [hf]
    · rw [if_neg hf, Option.bind_some]
      simp [hf]
  · unfold account_Statement_l42
    dsimp only
    rw [if_neg (by simp), List.take_of_length_le (Nat.le_refl _)]
/-- both give the same account -/
theorem statement_same (l : GLedger) (t p n : Int) : ∃ r, account_Statement l t p n = some r ∧ treatyref33_Statement l t p n = some r ∧ r.1.Postings.length ≤ 65536 := by
  obtain ⟨e, he, hv⟩ := validate_tot l
  unfold account_Statement treatyref33_Statement
  rw [validate_same, he, Option.bind_some, Option.bind_some]
  by_cases h0 : e = 0
  · have hf := hv h0
    have hl := hf.len
    have hc1 := hf.c1
    simp only [h0, decide_true, Bool.not_true, Bool.false_eq_true, if_false]
    by_cases hn : n < 0 ∨ l.Closed < n
    · have hnb : (decide (n < 0) || decide (l.Closed < n)) = true := by simpa using hn
      simp only [hnb, if_true]
      exact ⟨_, rfl, rfl, by simp⟩
    · have hnb : (decide (n < 0) || decide (l.Closed < n)) = false := by
        rw [Bool.eq_false_iff]
        simpa using hn
      simp only [hnb, Bool.false_eq_true, if_false]
      have e1 : l.Postings.filter (gSel t p 0 (n - 1)) = l.Postings.filter (fun x => decide (x.Entry.Treaty = t) && decide (x.Entry.Party = p) && decide (x.Period < n)) := by
        apply List.filter_congr
        intro x hx
        have := hf.per x hx
        unfold gSel
        rw [Bool.eq_iff_iff]
        simp
        omega
      have e2 : l.Postings.filter (gSel t p 0 n) = l.Postings.filter (fun x => decide (x.Entry.Treaty = t) && decide (x.Entry.Party = p) && decide (x.Period < n + 1)) := by
        apply List.filter_congr
        intro x hx
        have := hf.per x hx
        unfold gSel
        rw [Bool.eq_iff_iff]
        simp
        omega
      rw [w64_id (n := n + 1) (by omega) (by omega), w64_id (n := n - 1) (by omega) (by omega), ssum_eq l t p n hl, ssum_eq l t p (n + 1) hl, some_eq l t p 0 (n - 1) hl, some_eq l t p 0 n hl, some_eq l t p n n hl, stPost_eq l t p n hl, e1, e2]
      simp only [Option.bind_some]
      rw [rbalance_eq _ (filter_len hl), rbalance_eq _ (filter_len hl)]
      have hfl := filter_len (f := gSel t p n n) hl
      unfold balS
      generalize l.Postings.filter (gSel t p n n) = ps at *
      generalize wsum (l.Postings.filter (fun x => decide (x.Entry.Treaty = t) && decide (x.Entry.Party = p) && decide (x.Period < n))) = s1
      generalize wsum (l.Postings.filter (fun x => decide (x.Entry.Treaty = t) && decide (x.Entry.Party = p) && decide (x.Period < n + 1))) = s2
      cases okS s1 <;> cases okS s2
      · exact ⟨_, rfl, rfl, by simp⟩
      · exact ⟨_, rfl, rfl, by simp⟩
      · exact ⟨_, rfl, rfl, by simp⟩
      · exact ⟨_, rfl, rfl, hfl⟩
  · have hb : (!decide (e = 0)) = true := by simpa using h0
    simp only [hb, if_true]
    exact ⟨_, rfl, rfl, by simp⟩
/-! ### a ledger with one changed number -/
theorem few_ok {d : List Int} (hd : d.length ≤ 9223372036854775807) (a n : Int) : ∃ r, treatylaw34_few d a n = some r := by
  unfold treatylaw34_few
  obtain ⟨e1, hk⟩ := new_ok d hd
  obtain ⟨l, d', e2, _, hm⟩ := ledger_ok hk 8 (by omega)
  rw [show ((8 : Nat) : Int) = 8 from rfl] at e2
  have hfew := hm.few
  rw [e1, Option.bind_some, e2, Option.bind_some]
  dsimp only
  rw [chk_of (room_of (by omega)), Option.bind_some]
  have b31 : 0 ≤ bAnd .i64 (bShr .i64 a 4) 31 := by
    unfold bAnd
    have h : (BitVec.ofInt IntKind.i64.bits (bShr .i64 a 4) &&& BitVec.ofInt IntKind.i64.bits 31).toNat ≤ 31 := by
      rw [BitVec.toNat_and]
      exact Nat.and_le_right
    have e : IntKind.i64.wrap ((BitVec.ofInt IntKind.i64.bits (bShr .i64 a 4) &&& BitVec.ofInt IntKind.i64.bits 31).toNat : Int) = ((BitVec.ofInt IntKind.i64.bits (bShr .i64 a 4) &&& BitVec.ofInt IntKind.i64.bits 31).toNat : Int) := w64_id (by omega) (by omega)
    rw [e]
    omega
  have b15 : 0 ≤ bAnd .i64 a 15 := by
    unfold bAnd
    have h : (BitVec.ofInt IntKind.i64.bits a &&& BitVec.ofInt IntKind.i64.bits 15).toNat ≤ 15 := by
      rw [BitVec.toNat_and]
      exact Nat.and_le_right
    have e : IntKind.i64.wrap ((BitVec.ofInt IntKind.i64.bits a &&& BitVec.ofInt IntKind.i64.bits 15).toNat : Int) = ((BitVec.ofInt IntKind.i64.bits a &&& BitVec.ofInt IntKind.i64.bits 15).toNat : Int) := w64_id (by omega) (by omega)
    rw [e]
    omega
  generalize bAnd .i64 (bShr .i64 a 4) 31 = I at *
  generalize bAnd .i64 a 15 = J at *
  by_cases hx : 0 < l.Postings.length
  · rw [if_pos (by simp; omega), chk_of (by simp only [Bool.not_eq_true', decide_eq_false_iff_not]; omega), Int.tmod_eq_emod_of_nonneg b31, chk_of (inb_of (Int.emod_nonneg _ (by omega)) (Int.emod_lt_of_pos _ (by omega)))]
    by_cases hJ : J < 8
    · rw [if_pos (by simpa using hJ), chk_of (by simpa using b15), chk_of (by simpa using hJ)]
      repeat' split
      all_goals exact ⟨_, rfl⟩
    · rw [if_neg (by simpa using hJ)]
      exact ⟨_, rfl⟩
  · rw [if_neg (by simp only [decide_eq_true_eq]; omega)]
    exact ⟨_, rfl⟩
end Go.Proofs.Ytipblbjkbeiflaa.Pl
