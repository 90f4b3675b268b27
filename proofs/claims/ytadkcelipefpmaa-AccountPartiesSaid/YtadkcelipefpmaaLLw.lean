/- What the laws on ledgers share: the chapter's example, ledgers with one changed number, comparisons (plain). -/
import Derived.Test.YtadkcelipefpmaaLLed
namespace Go.Proofs.Ytadkcelipefpmaa.Pl
open Go

theorem sameP_refl (l : List GPosting) (hl : l.length ≤ 1000000) : treatyref33_SamePostings l l = some true := by
  unfold treatyref33_SamePostings
  have hloop : loopV (treatyref33_SamePostings_l12 l l) 0 = some (.inr ()) := by
    refine loopV_done (fun k => (k : Int)) l.length _ (fun k hk => ?_) ?_
    · unfold treatyref33_SamePostings_l12
      have hc : decide ((k : Int) < (l.length : Int)) = true := decide_eq_true (by omega)
      have e1 : w64 ((k : Int) + 1) = ((k + 1 : Nat) : Int) := by rw [w64_id (by omega) (by omega)]; rfl
      simp only [hc, if_true, chk_of (inb_nat hk), decide_true, Bool.not_true, Bool.false_eq_true, if_false, e1]
    · unfold treatyref33_SamePostings_l12
      have hc : decide ((l.length : Int) < (l.length : Int)) = false := by simp
      simp only [hc, Bool.false_eq_true, if_false]
  simp only [decide_true, Bool.not_true, Bool.false_eq_true, if_false, hloop, Option.bind_some, Sum.elim_inr, Sum.elim_inl]
theorem sameEntries_refl (l : List GEntry) (hl : l.length ≤ 1000000) : treatyref33_SameEntries l l = some true := by
  unfold treatyref33_SameEntries
  have hloop : loopV (treatyref33_SameEntries_l12 l l) 0 = some (.inr ()) := by
    refine loopV_done (fun k => (k : Int)) l.length _ (fun k hk => ?_) ?_
    · unfold treatyref33_SameEntries_l12
      have hc : decide ((k : Int) < (l.length : Int)) = true := decide_eq_true (by omega)
      have e1 : w64 ((k : Int) + 1) = ((k + 1 : Nat) : Int) := by rw [w64_id (by omega) (by omega)]; rfl
      simp only [hc, if_true, chk_of (inb_nat hk), decide_true, Bool.not_true, Bool.false_eq_true, if_false, e1]
    · unfold treatyref33_SameEntries_l12
      have hc : decide ((l.length : Int) < (l.length : Int)) = false := by simp
      simp only [hc, Bool.false_eq_true, if_false]
  simp only [decide_true, Bool.not_true, Bool.false_eq_true, if_false, hloop, Option.bind_some, Sum.elim_inr, Sum.elim_inl]
theorem sameLedger_refl (l : GLedger) (hl : l.Postings.length ≤ 1000000) : treatyref33_SameLedger l l = some true := by
  unfold treatyref33_SameLedger
  simp [sameP_refl _ hl]
/-! ### the chapter's example -/
theorem coll_one {x : GEntry} (h : x.Amount ≠ 0) : Coll [x] [x] := by
  refine ⟨List.pairwise_singleton _ _, fun e => ?_⟩
  rw [tot_cons, tot_nil, List.mem_singleton]
  constructor
  · rintro rfl
    exact ⟨h, by rw [if_pos rfl]; omega⟩
  · rintro ⟨h1, h2⟩
    by_cases hx : hd x = hd e
    · rw [if_pos hx] at h2
      rw [← withA_hd e, ← hx, ← withA_hd x]
      rw [show x.Amount = e.Amount by omega]
      rfl
    · rw [if_neg hx] at h2
      omega
theorem coll_two {x y : GEntry} (hxy : hd x = hd y) (h : x.Amount + y.Amount ≠ 0) : Coll [x, y] [withA x (x.Amount + y.Amount)] := by
  refine ⟨List.pairwise_singleton _ _, fun e => ?_⟩
  rw [tot_cons, tot_cons, tot_nil, List.mem_singleton]
  constructor
  · rintro rfl
    refine ⟨h, ?_⟩
    rw [hd_withA, if_pos rfl, if_pos hxy.symm]
    show x.Amount + (y.Amount + 0) = x.Amount + y.Amount
    omega
  · rintro ⟨h1, h2⟩
    by_cases hx : hd x = hd e
    · rw [if_pos hx, if_pos (hxy ▸ hx)] at h2
      rw [← withA_hd e, ← hx, show e.Amount = x.Amount + y.Amount by omega]
      rfl
    · rw [if_neg hx, if_neg (hxy ▸ hx)] at h2
      omega
theorem lok_nil : LOk ⟨0, []⟩ := made_empty.ok
theorem awake33 : treatylaw33_awake = some true := by
  have c1 : treatyref33_Collect [⟨1, 5, 2, 7, 100⟩] = some ([⟨1, 5, 2, 7, 100⟩], 0) := collect_fine (by simp) (by intro e he; simp at he; subst he; decide) (by intro e he; simp at he; subst he; decide) (coll_one (by decide))
  have c2 : treatyref33_Collect [⟨1, 5, 2, 7, 80⟩] = some ([⟨1, 5, 2, 7, 80⟩], 0) := collect_fine (by simp) (by intro e he; simp at he; subst he; decide) (by intro e he; simp at he; subst he; decide) (coll_one (by decide))
  have c3 : treatyref33_Collect [⟨1, 5, 2, 7, 80⟩, ⟨1, 5, 2, 7, -100⟩] = some ([⟨1, 5, 2, 7, -20⟩], 0) := collect_fine (by simp) (by intro e he; simp at he; rcases he with rfl | rfl <;> decide) (by intro e he; simp at he; rcases he with rfl | rfl <;> decide) (coll_two (x := ⟨1, 5, 2, 7, 80⟩) (y := ⟨1, 5, 2, 7, -100⟩) (by decide) (by decide))
  have p1 : ledger_Post ⟨0, []⟩ [⟨1, 5, 2, 7, 100⟩] = some (⟨0, [⟨1, 0, ⟨1, 5, 2, 7, 100⟩⟩]⟩, 0) := by
    rw [ppost_eq lok_nil c1 (by simp)]
    rfl
  have l1 : LOk ⟨0, [⟨1, 0, ⟨1, 5, 2, 7, 100⟩⟩]⟩ := lok_post (cs := [⟨1, 5, 2, 7, 100⟩]) lok_nil (by intro e he; simp at he; subst he; decide) (by simp) (by decide)
  have p2 : ledger_Close ⟨0, [⟨1, 0, ⟨1, 5, 2, 7, 100⟩⟩]⟩ = some (⟨1, [⟨1, 0, ⟨1, 5, 2, 7, 100⟩⟩]⟩, 0) := by
    rw [pclose_eq l1]
    rfl
  have l2 : LOk ⟨1, [⟨1, 0, ⟨1, 5, 2, 7, 100⟩⟩]⟩ := lok_close l1 (by decide)
  have p3 : ledger_Restate ⟨1, [⟨1, 0, ⟨1, 5, 2, 7, 100⟩⟩]⟩ [⟨1, 5, 2, 7, 80⟩] = some (⟨1, [⟨1, 0, ⟨1, 5, 2, 7, 100⟩⟩, ⟨2, 1, ⟨1, 5, 2, 7, -20⟩⟩]⟩, [⟨2, 1, ⟨1, 5, 2, 7, -20⟩⟩], 0) := by
    rw [prestate_eq l2 (T := [⟨1, 5, 2, 7, 100⟩]) (by intro e he; simp at he; subst he; decide) c2 c1 (by intro e he; simp at he; subst he; decide) c3 (by decide) (by decide) (by decide)]
    rfl
  unfold treatylaw33_awake
  rw [p1, Option.bind_some]
  dsimp only
  rw [p2, Option.bind_some]
  dsimp only
  rw [p3, Option.bind_some]
  dsimp only
  rw [sameP_refl _ (by simp)]
  decide
/-! ### a ledger with one changed number -/
theorem bAnd_lt (x : Int) (n : Nat) (hn : n ≤ 1000) : 0 ≤ bAnd .i64 x n ∧ bAnd .i64 x n ≤ n := by
  unfold bAnd
  have h : (BitVec.ofInt IntKind.i64.bits x &&& BitVec.ofInt IntKind.i64.bits (n : Int)).toNat ≤ n := by
    rw [BitVec.toNat_and]
    refine Nat.le_trans Nat.and_le_right ?_
    rw [BitVec.ofInt_natCast, BitVec.toNat_ofNat]
    exact Nat.mod_le _ _
  have e : IntKind.i64.wrap ((BitVec.ofInt IntKind.i64.bits x &&& BitVec.ofInt IntKind.i64.bits (n : Int)).toNat : Int) = ((BitVec.ofInt IntKind.i64.bits x &&& BitVec.ofInt IntKind.i64.bits (n : Int)).toNat : Int) := w64_id (by omega) (by omega)
  rw [e]
  omega
theorem few33 {d : List Int} (hd : d.length ≤ 9223372036854775807) (a n : Int) : ∃ l k, treatylaw33_few d a n = some (l, k) ∧ Made l 8 := by
  unfold treatylaw33_few
  obtain ⟨e1, hk⟩ := new_ok d hd
  obtain ⟨l, d', e2, _, hm⟩ := ledger_ok hk 8 (by omega)
  rw [show ((8 : Nat) : Int) = 8 from rfl] at e2
  have hfew := hm.few
  rw [e1, Option.bind_some, e2, Option.bind_some]
  dsimp only
  rw [chk_of (room_of (by omega)), Option.bind_some]
  have b31 := (bAnd_lt (bShr .i64 a 4) 31 (by omega)).1
  have b15 := (bAnd_lt a 15 (by omega)).1
  simp only [Int.cast_ofNat_Int] at b31 b15
  generalize bAnd .i64 (bShr .i64 a 4) 31 = I at *
  generalize bAnd .i64 a 15 = J at *
  by_cases hx : 0 < l.Postings.length
  · rw [if_pos (by simp; omega), chk_of (by simp only [Bool.not_eq_true', decide_eq_false_iff_not]; omega), Int.tmod_eq_emod_of_nonneg b31, chk_of (inb_of (Int.emod_nonneg _ (by omega)) (Int.emod_lt_of_pos _ (by omega)))]
    by_cases hJ : J < 8
    · rw [if_pos (by simpa using hJ), chk_of (by simpa using b15), chk_of (by simpa using hJ)]
      repeat' split
      all_goals exact ⟨_, _, rfl, hm⟩
    · rw [if_neg (by simpa using hJ)]
      exact ⟨_, _, rfl, hm⟩
  · rw [if_neg (by simp only [decide_eq_true_eq]; omega)]
    exact ⟨_, _, rfl, hm⟩
end Go.Proofs.Ytadkcelipefpmaa.Pl
