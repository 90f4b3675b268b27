/- Plain lemmas on plain programs: numbers, checks, loops. Names no function of the program. -/
import Derived.Test.YtdenliplkmjmjaaKPure
namespace Go.Proofs.Ytdenliplkmjmjaa.Pl

theorem w64_id {n : Int} (h1 : -9223372036854775808 ≤ n) (h2 : n ≤ 9223372036854775807) : w64 n = n := by
  simp only [IntKind.wrap, IntKind.bits, IntKind.signed]
  simp only [Bool.true_and, ge_iff_le, decide_eq_true_eq]
  split <;> omega
theorem w64_range (n : Int) : -9223372036854775808 ≤ w64 n ∧ w64 n ≤ 9223372036854775807 := by
  simp only [IntKind.wrap, IntKind.bits, IntKind.signed]
  simp only [Bool.true_and, ge_iff_le, decide_eq_true_eq]
  split <;> omega
theorem inb_of {α : Type} {xs : List α} {i : Int} (h0 : 0 ≤ i) (h1 : i < xs.length) : inb xs i = true := by simp [inb, h0, h1]
theorem inb_nat {α : Type} {xs : List α} {k : Nat} (h : k < xs.length) : inb xs (k : Int) = true := inb_of (by omega) (by omega)
theorem ix_nat {α : Type} [Inhabited α] {xs : List α} {k : Nat} (h : k < xs.length) : ix xs (k : Int) = xs[k] := by simp [ix, h]
theorem room_of {n : Nat} (h : n ≤ 1000000000) : room n = true := by simp [room, h]
theorem chk_true {α : Type} {b : Bool} {x : Option α} (h : b = true) : chk b x = x := by subst h; rfl
/-- rounds that all go on -/
theorem loopV_run {S O : Type} {step : S → Option (S ⊕ O)} (f : Nat → S) (n : Nat) (h : ∀ k, k < n → step (f k) = some (.inl (f (k + 1)))) : loopV step (f 0) = loopV step (f n) := by
  induction n with
  | zero => rfl
  | succ n ih => rw [ih fun k hk => h k (by omega), loopV_next (h n (by omega))]
theorem loopV_done {S O : Type} {step : S → Option (S ⊕ O)} (f : Nat → S) (n : Nat) (o : O) (h : ∀ k, k < n → step (f k) = some (.inl (f (k + 1)))) (hs : step (f n) = some (.inr o)) : loopV step (f 0) = some o := by
  rw [loopV_run f n h, loopV_stop hs]
theorem loopV_congr {S O : Type} {f g : S → Option (S ⊕ O)} (h : ∀ s, f s = g s) (s : S) : loopV f s = loopV g s := by
  have : f = g := funext h
  rw [this]
theorem recV_eq {α : Type} {g : Nat → Option α} {r : α} (h1 : ∀ k r', g k = some r' → r' = r) (k : Nat) (h2 : g k = some r) : recV g = some r := by
  cases h : recV g with
  | none =>
    unfold recV at h
    split at h
    · rename_i hex
      obtain ⟨x, hx⟩ := hex.choose_spec
      rw [hx] at h
      cases h
    · rename_i hex
      exact absurd ⟨k, r, h2⟩ hex
  | some x =>
    obtain ⟨l, hl⟩ := recV_some h
    rw [h1 l x hl]
theorem bAnd3 (x : Int) : 0 ≤ bAnd .i64 x 3 ∧ bAnd .i64 x 3 ≤ 3 := by
  unfold bAnd
  have h : (BitVec.ofInt IntKind.i64.bits x &&& BitVec.ofInt IntKind.i64.bits 3).toNat ≤ 3 := by
    rw [BitVec.toNat_and]
    exact Nat.and_le_right
  have e : IntKind.i64.wrap ((BitVec.ofInt IntKind.i64.bits x &&& BitVec.ofInt IntKind.i64.bits 3).toNat : Int) = ((BitVec.ofInt IntKind.i64.bits x &&& BitVec.ofInt IntKind.i64.bits 3).toNat : Int) := w64_id (by omega) (by omega)
  rw [e]
  omega
end Go.Proofs.Ytdenliplkmjmjaa.Pl
