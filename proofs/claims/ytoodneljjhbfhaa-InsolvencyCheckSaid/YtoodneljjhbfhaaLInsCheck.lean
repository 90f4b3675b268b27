/- The law InsolvencyCheck (plain). -/
import Derived.Test.YtoodneljjhbfhaaLInsM
namespace Go.Proofs.Ytoodneljjhbfhaa.Pl
open Go

theorem sameDiv {p q : GDividend} : ([p.Party, p.SetOff, p.Gets, p.Pays, p.Unpaid] = [q.Party, q.SetOff, q.Gets, q.Pays, q.Unpaid]) ↔ p = q := by
  cases p; cases q; simp
theorem sameDiv_eq {a b : List GDividend} (hl : a.length ≤ 1000000) : treatyref33_SameDividends a b = some (decide (a = b)) := by
  unfold treatyref33_SameDividends
  by_cases hne : a.length = b.length
  · rw [if_neg (by simp; omega)]
    have main : ∀ (n k : Nat), n + k = a.length → a.take k = b.take k → (loopV (treatyref33_SameDividends_l12 a b) (k : Int)) = some (if a = b then .inr () else .inl false) := by
      intro n
      induction n with
      | zero =>
        intro k hk ht
        have s : treatyref33_SameDividends_l12 a b (k : Int) = some (.inr (.inr ())) := by
          unfold treatyref33_SameDividends_l12
          rw [if_neg (by simp; omega)]
        rw [List.take_of_length_le (by omega), List.take_of_length_le (by omega)] at ht
        rw [loopV_stop s, if_pos ht]
      | succ n ih =>
        intro k hk ht
        have ha : k < a.length := by omega
        have hb : k < b.length := by omega
        by_cases hx : a[k] = b[k]
        · have s : treatyref33_SameDividends_l12 a b (k : Int) = some (.inl ((k + 1 : Nat) : Int)) := by
            unfold treatyref33_SameDividends_l12
            rw [if_pos (by simp; omega), chk_true (inb_nat ha), chk_true (inb_nat hb), ix_nat ha, ix_nat hb, hx, if_neg (by simp), w64_id (by omega) (by omega)]
            rfl
          rw [loopV_next s, ih (k + 1) (by omega) (by rw [List.take_succ_eq_append_getElem ha, List.take_succ_eq_append_getElem hb, ht, hx])]
        · have s : treatyref33_SameDividends_l12 a b (k : Int) = some (.inr (.inl false)) := by
            unfold treatyref33_SameDividends_l12
            rw [if_pos (by simp; omega), chk_true (inb_nat ha), chk_true (inb_nat hb), ix_nat ha, ix_nat hb, if_pos]
            rw [Bool.not_eq_true', decide_eq_false_iff_not, sameDiv]
            exact hx
          rw [loopV_stop s, if_neg]
          intro e
          subst e
          exact hx rfl
    have := main a.length 0 (by omega) (by simp)
    rw [Int.ofNat_zero] at this
    rw [this]
    by_cases e : a = b
    · simp [e]
    · simp [e]
  · rw [if_pos (by simp; omega)]
    have : a ≠ b := fun e => hne (by rw [e])
    simp [this]
theorem equalDiv_same (a b : List GDividend) : slices_Equal_s_api_Dividend_api_Dividend a b = treatyref33_SameDividends a b := rfl
theorem checkI_eq (a : Int) (l : List GMutual) (x : List GDividend) (r : Int) : insolvency_Check a l x r = some ((decide ((distS a l).2.2 = 0) && decide ((distS a l).2.1 = r)) && decide ((distS a l).1 = x)) := by
  unfold insolvency_Check
  rw [dist_eq, Option.bind_some, equalDiv_same, sameDiv_eq (by have := distS_length a l; omega)]
  cases (decide ((distS a l).2.2 = 0) && decide ((distS a l).2.1 = r)) <;> simp
theorem bAndLe (x : Int) (m : Nat) (hm : m ≤ 1000000) : 0 ≤ bAnd .i64 x (m : Int) ∧ bAnd .i64 x (m : Int) ≤ (m : Int) := by
  unfold bAnd
  have e0 : (BitVec.ofInt IntKind.i64.bits (m : Int)).toNat = m := by
    rw [BitVec.toNat_ofInt]
    have : ((2 : Nat) ^ IntKind.i64.bits : Nat) = 18446744073709551616 := by decide
    rw [this]
    omega
  have h : (BitVec.ofInt IntKind.i64.bits x &&& BitVec.ofInt IntKind.i64.bits (m : Int)).toNat ≤ m := by
    rw [BitVec.toNat_and, e0]
    exact Nat.and_le_right
  have e : IntKind.i64.wrap ((BitVec.ofInt IntKind.i64.bits x &&& BitVec.ofInt IntKind.i64.bits (m : Int)).toNat : Int) = ((BitVec.ofInt IntKind.i64.bits x &&& BitVec.ofInt IntKind.i64.bits (m : Int)).toNat : Int) := w64_id (by omega) (by omega)
  rw [e]
  omega
theorem treatylaw38_InsolvencyCheck_law (a : Int) (l : List GMutual) (o : List GDividend) (rest : Int) (d : List Int) (at_ n : Int) (hd : d.length ≤ 9223372036854775807) : treatylaw38_InsolvencyCheck a l o rest d at_ n = some true := by
  unfold treatylaw38_InsolvencyCheck
  by_cases hc : 100 < l.length ∨ 100 < o.length
  · rw [if_pos (by simp; omega), insAwake_ok]
    rfl
  · rw [if_neg (by simp; omega)]
    obtain ⟨k, e1, hk⟩ := new2_ok hd
    obtain ⟨m, k2, e2, hk2, hm⟩ := mutuals_ok hk
    obtain ⟨u, k3, e3, u0, u1, _⟩ := small_ok hk2
    have hdo := hm.dist (a := u) (by omega)
    have hcs := smallSum hm.clm
    have hps := smallSum hm.pys
    have hml := hm.len
    rw [clms_length] at hcs
    rw [pyss_length] at hps
    have hrs := redS_sum hdo.rok
    have hz0 : (distS u m).2.2 = 0 := by rw [distS_ok hdo]
    have hr0 : 0 ≤ (distS u m).2.1 ∧ (distS u m).2.1 ≤ 10000000000 := by rw [distS_ok hdo]; dsimp only; omega
    have hlen := distS_length u m
    simp only [e1, e2, e3, Option.bind_some, rdist_eq, checkI_eq, hz0, decide_true, Bool.and_true, Bool.true_and, Bool.not_true, Bool.false_eq_true, if_false]
    rw [sameDiv_eq (show (distS a l).1.length ≤ 1000000 by have := distS_length a l; omega)]
    have hfirst : (if decide ((distS a l).2.2 = 0) = true then (some (decide ((distS a l).1 = o))).bind fun r10_10 => some r10_10 else some false) = some (decide ((distS a l).2.2 = 0) && decide ((distS a l).1 = o)) := by
      cases decide ((distS a l).2.2 = 0) <;> rfl
    rw [hfirst, Option.bind_some]
    have heq : ((decide ((distS a l).2.2 = 0) && decide ((distS a l).2.1 = rest) && decide ((distS a l).1 = o)) == (decide ((distS a l).2.2 = 0) && decide ((distS a l).1 = o) && decide ((distS a l).2.1 = rest))) = true := by
      cases decide ((distS a l).2.2 = 0) <;> cases decide ((distS a l).2.1 = rest) <;> cases decide ((distS a l).1 = o) <;> rfl
    rw [heq, if_neg (by simp), chk_true (room_of (by omega))]
    generalize distS u m = D at *
    obtain ⟨X, R, E⟩ := D
    dsimp only at *
    have b15 := bAndLe (bShr .i64 at_ 3) 15 (by omega)
    have b7 := bAndLe at_ 7 (by omega)
    have b3 := bAndLe n 3 (by omega)
    have b15' : 0 ≤ bAnd .i64 (bShr .i64 at_ 3) 15 := b15.1
    have b7' : 0 ≤ bAnd .i64 at_ 7 := b7.1
    have b3' : 0 ≤ bAnd .i64 n 3 ∧ bAnd .i64 n 3 ≤ 3 := b3
    generalize bAnd .i64 (bShr .i64 at_ 3) 15 = I at *
    generalize bAnd .i64 at_ 7 = J at *
    generalize bAnd .i64 n 3 = B at *
    have hfin : ∀ z : List GDividend, (((some (decide (X = z))).bind fun r17_4 => (treatyref33_SameDividends X z).bind fun r17_7 => (if (r17_4 == r17_7) = true then some (decide (R = w64 (R + B)) == decide (B = 0)) else some false).bind fun q17_22 => (if q17_22 = true then treatylaw38_awake.bind fun r17_24 => some r17_24 else some false).bind fun q17_25 => some q17_25) : Option Bool) = some true := fun z => by
      rw [sameDiv_eq (by omega), w64_id (by omega) (by omega)]
      have : (decide (R = R + B) == decide (B = 0)) = true := by
        by_cases hB : B = 0
        · simp [hB]
        · have : ¬ R = R + B := by omega
          simp [hB, this]
      simp [this, insAwake_ok]
    by_cases hx : 0 < X.length
    · rw [if_pos (by simp; omega), chk_true (by simp only [Bool.not_eq_true', decide_eq_false_iff_not]; omega), Int.tmod_eq_emod_of_nonneg b15', chk_true (inb_of (Int.emod_nonneg _ (by omega)) (Int.emod_lt_of_pos _ (by omega))), Int.tmod_eq_emod_of_nonneg b7', chk_true (by simp; omega), chk_true (by simp; omega)]
      repeat' split
      all_goals first | exact hfin _ | skip
    · rw [if_neg (by simp only [decide_eq_true_eq]; omega), Option.bind_some]
      exact hfin _
end Go.Proofs.Ytoodneljjhbfhaa.Pl
