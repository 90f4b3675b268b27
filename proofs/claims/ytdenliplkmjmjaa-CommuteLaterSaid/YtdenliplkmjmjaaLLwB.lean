/- What the laws on ledgers share: the chapter's example, ledgers with one changed number, comparisons (plain). -/
import Derived.Test.YtdenliplkmjmjaaLLedB
namespace Go.Proofs.Ytdenliplkmjmjaa.Pl
open Go

theorem sameEntries_refl (l : List GEntry) (hl : l.length ≤ 1000000) : treatyref33_SameEntries l l = some true := by
  unfold treatyref33_SameEntries
  have hloop : loopV (treatyref33_SameEntries_l12 l l) 0 = some (.inr ()) := by
    refine loopV_done (fun k => (k : Int)) l.length _ (fun k hk => ?_) ?_
    · unfold treatyref33_SameEntries_l12
      have hc : decide ((k : Int) < (l.length : Int)) = true := decide_eq_true (by omega)
      have e1 : w64 ((k : Int) + 1) = ((k + 1 : Nat) : Int) := by rw [w64_id (by omega) (by omega)]; rfl
      simp only [hc, if_true, chk_of (inb_nat hk), decide_true, Bool.not_true, Bool.false_eq_true, if_false, e1]
    · unfold treatyref33_SameEntries_l12
      have hc : decide ((l.length : Int) < (l.length : Int)) = false := by simp
      simp only [hc, Bool.false_eq_true, if_false]
  simp only [decide_true, Bool.not_true, Bool.false_eq_true, if_false, hloop, Option.bind_some, Sum.elim_inr, Sum.elim_inl]
/-! ### the chapter's example -/
theorem coll_one {x : GEntry} (h : x.Amount ≠ 0) : Coll [x] [x] := by
  refine ⟨List.pairwise_singleton _ _, fun e => ?_⟩
  rw [tot_cons, tot_nil, List.mem_singleton]
  constructor
  · rintro rfl
    exact ⟨h, by rw [if_pos rfl]; omega⟩
  · rintro ⟨h1, h2⟩
    by_cases hx : hd x = hd e
    · rw [if_pos hx] at h2
      rw [← withA_hd e, ← hx, ← withA_hd x]
      rw [show x.Amount = e.Amount by omega]
      rfl
    · rw [if_neg hx] at h2
      omega
theorem coll_two {x y : GEntry} (hxy : hd x = hd y) (h : x.Amount + y.Amount ≠ 0) : Coll [x, y] [withA x (x.Amount + y.Amount)] := by
  refine ⟨List.pairwise_singleton _ _, fun e => ?_⟩
  rw [tot_cons, tot_cons, tot_nil, List.mem_singleton]
  constructor
  · rintro rfl
    refine ⟨h, ?_⟩
    rw [hd_withA, if_pos rfl, if_pos hxy.symm]
    show x.Amount + (y.Amount + 0) = x.Amount + y.Amount
    omega
  · rintro ⟨h1, h2⟩
    by_cases hx : hd x = hd e
    · rw [if_pos hx, if_pos (hxy ▸ hx)] at h2
      rw [← withA_hd e, ← hx, show e.Amount = x.Amount + y.Amount by omega]
      rfl
    · rw [if_neg hx, if_neg (hxy ▸ hx)] at h2
      omega
theorem lok_nil : LOk ⟨0, []⟩ := made_empty.ok
/-! ### a ledger with one changed number -/
theorem bAnd_lt (x : Int) (n : Nat) (hn : n ≤ 1000) : 0 ≤ bAnd .i64 x n ∧ bAnd .i64 x n ≤ n := by
  unfold bAnd
  have h : (BitVec.ofInt IntKind.i64.bits x &&& BitVec.ofInt IntKind.i64.bits (n : Int)).toNat ≤ n := by
    rw [BitVec.toNat_and]
    refine Nat.le_trans Nat.and_le_right ?_
    rw [BitVec.ofInt_natCast, BitVec.toNat_ofNat]
    exact Nat.mod_le _ _
  have e : IntKind.i64.wrap ((BitVec.ofInt IntKind.i64.bits x &&& BitVec.ofInt IntKind.i64.bits (n : Int)).toNat : Int) = ((BitVec.ofInt IntKind.i64.bits x &&& BitVec.ofInt IntKind.i64.bits (n : Int)).toNat : Int) := w64_id (by omega) (by omega)
  rw [e]
  omega
end Go.Proofs.Ytdenliplkmjmjaa.Pl
