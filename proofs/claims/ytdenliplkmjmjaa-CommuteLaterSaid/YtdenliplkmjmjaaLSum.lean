/- The reference's sums of neighbours in a sorted list, and Collect. -/
import Derived.Test.YtdenliplkmjmjaaLCol
namespace Go.Proofs.Ytdenliplkmjmjaa.Pl

def sumA (l : List GEntry) : Int := (l.map (·.Amount)).sum
theorem sumA_nil : sumA [] = 0 := rfl
theorem sumA_cons (x : GEntry) (l : List GEntry) : sumA (x :: l) = x.Amount + sumA l := by simp [sumA]
theorem sumA_append (a b : List GEntry) : sumA (a ++ b) = sumA a + sumA b := by simp [sumA]
def vAmt (n : Int) : Bool := decide (-17592186044416 ≤ n) && decide (n ≤ 17592186044416)
def withA (e : GEntry) (a : Int) : GEntry := { e with Amount := a }
def setA : GEntry → Int → GEntry := withA
theorem kLt_setA (e y : GEntry) (a : Int) : kLt (withA e a) y = kLt e y := rfl
/-- neighbours with one heading are added up; none: a sum is not valid -/
def grp (l : List GEntry) : Option (List GEntry) :=
  match l with
  | [] => some []
  | x :: l =>
    let a := x.Amount + sumA (l.takeWhile fun y => !kLt x y)
    if vAmt a = true then (grp (l.dropWhile fun y => !kLt x y)).map fun r => if a = 0 then r else withA x a :: r
    else none
  termination_by l.length
  decreasing_by
  · have := (List.dropWhile_suffix (fun y => !kLt x y) (l := l)).length_le
    simp only [List.length_cons]; omega
def Amts (l : List GEntry) : Prop := ∀ e ∈ l, -17592186044416 ≤ e.Amount ∧ e.Amount ≤ 17592186044416
theorem sumA_range {l : List GEntry} (h : Amts l) : -17592186044416 * (l.length : Int) ≤ sumA l ∧ sumA l ≤ 17592186044416 * (l.length : Int) := by
  induction l with
  | nil => simp [sumA]
  | cons x l ih =>
    have h1 := ih fun e he => h e (by simp [he])
    have h2 := h x (by simp)
    rw [sumA_cons, List.length_cons]
    omega
theorem Amts.sub {l m : List GEntry} (h : Amts l) (hs : ∀ e ∈ m, e ∈ l) : Amts m := fun e he => h e (hs e he)

theorem drop_cons {α : Type} {s : List α} {k : Nat} {x : α} {l : List α} (h : s.drop k = x :: l) : k < s.length ∧ s[k]? = some x ∧ s.drop (k + 1) = l := by
  have hk : k < s.length := by
    rcases Nat.lt_or_ge k s.length with h1 | h1
    · exact h1
    · rw [List.drop_eq_nil_of_le h1] at h; cases h
  rw [List.drop_eq_getElem_cons hk] at h
  simp only [List.cons.injEq] at h
  exact ⟨hk, by rw [List.getElem?_eq_getElem hk, h.1], h.2⟩
theorem ix_get {α : Type} [Inhabited α] {s : List α} {k : Nat} {x : α} (h : s[k]? = some x) : ix s (k : Int) = x := by
  obtain ⟨h1, h2⟩ := List.getElem?_eq_some_iff.1 h
  rw [ix_nat h1, h2]
/-- the inner loop -/
theorem sumsInner (s : List GEntry) (out : List GEntry) (i : Nat) (hs : s.length ≤ 65536) (hA : Amts s) (x : GEntry) (hx : s[i]? = some x) : ∀ (l : List GEntry) (j : Nat) (a : Int), s.drop j = l → j ≤ s.length → -17592186044416 * (j : Int) ≤ a → a ≤ 17592186044416 * (j : Int) →
    loopV (treatyref33_sums_l23 s (out, (i : Int))) ((j : Int), a) = some (((j + (l.takeWhile fun y => !kLt x y).length : Nat) : Int), a + sumA (l.takeWhile fun y => !kLt x y)) := by
  intro l
  induction l with
  | nil =>
    intro j a hl hj _ _
    have hjl : s.length ≤ j := by simpa [List.drop_eq_nil_iff] using hl
    refine loopV_stop ?_
    unfold treatyref33_sums_l23
    have h1 : decide ((j : Int) < (s.length : Int)) = false := by simp <;> omega
    simp only [h1, Bool.false_eq_true, if_false, Option.bind_some]
    simp [sumA]
  | cons y l ih =>
    intro j a hl hj h1 h2
    obtain ⟨hk, hy, hd⟩ := drop_cons hl
    have hc : decide ((j : Int) < (s.length : Int)) = true := by simp <;> omega
    have hy2 : ix s (j : Int) = y := ix_get hy
    have hym := hA y (List.mem_of_getElem? hy)
    have hcmp : kLt (GEntry.mk (ix s (i : Int)).Kind (ix s (i : Int)).Treaty (ix s (i : Int)).Party (ix s (i : Int)).Loss a) y = kLt x y := by rw [ix_get hx]; rfl
    cases hb : kLt x y with
    | true =>
      refine (loopV_stop (o := ((j : Int), a)) ?_).trans ?_
      · unfold treatyref33_sums_l23
        simp only [hc, if_true, chk_of (inb_nat hk), before_eq, hy2, hcmp, hb, Option.bind_some, Bool.not_true, Bool.false_eq_true, if_false]
      · simp [hb, sumA]
    | false =>
      have hst : treatyref33_sums_l23 s (out, (i : Int)) ((j : Int), a) = some (.inl (((j + 1 : Nat) : Int), a + y.Amount)) := by
        unfold treatyref33_sums_l23
        have e1 : w64 ((j : Int) + 1) = ((j + 1 : Nat) : Int) := by rw [w64_id (by omega) (by omega)]; rfl
        have e2 : w64 (a + y.Amount) = a + y.Amount := w64_id (by omega) (by omega)
        simp only [hc, if_true, chk_of (inb_nat hk), before_eq, hcmp, hb, Option.bind_some, Bool.not_false, hy2, e1, e2]
      rw [loopV_next hst, ih (j + 1) (a + y.Amount) hd (by omega) (by omega) (by omega)]
      simp only [List.takeWhile_cons, hb, Bool.not_false, if_true, List.length_cons, sumA_cons]
      congr 2
      · omega
      · omega
/-- the outer loop -/
theorem sumsOuter (s : List GEntry) (hs : s.length ≤ 65536) (hA : Amts s) : ∀ (n : Nat) (l : List GEntry) (i : Nat) (out : List GEntry), l.length = n → s.drop i = l → i ≤ s.length → out.length ≤ i →
    loopV (treatyref33_sums_l10 s) (out, (i : Int)) = some (match grp l with | none => .inl ([], false) | some r => .inr (out ++ r)) := by
  intro n
  induction n using Nat.strongRecOn with
  | _ n ih =>
    intro l i out hn hl hi ho
    match l, hl with
    | [], hl =>
      have hjl : s.length ≤ i := by simpa [List.drop_eq_nil_iff] using hl
      refine loopV_stop ?_
      unfold treatyref33_sums_l10
      have h1 : decide ((i : Int) < (s.length : Int)) = false := by simp <;> omega
      simp only [h1, Bool.false_eq_true, if_false]
      simp [grp]
    | x :: l, hl =>
      obtain ⟨hk, hx, hd⟩ := drop_cons hl
      have hc : decide ((i : Int) < (s.length : Int)) = true := by simp <;> omega
      have hx2 : ix s (i : Int) = x := ix_get hx
      have hxm := hA x (List.mem_of_getElem? hx)
      have e1 : w64 ((i : Int) + 1) = ((i + 1 : Nat) : Int) := by rw [w64_id (by omega) (by omega)]; rfl
      have hin := sumsInner s out i hs hA x hx l (i + 1) x.Amount hd (by omega) (by omega) (by omega)
      have hsplit : l = (l.takeWhile fun y => !kLt x y) ++ (l.dropWhile fun y => !kLt x y) := (List.takeWhile_append_dropWhile).symm
      have hnext : s.drop (i + 1 + (l.takeWhile fun y => !kLt x y).length) = l.dropWhile fun y => !kLt x y := by
        rw [← List.drop_drop, hd]
        have h3 := List.drop_left (l₁ := l.takeWhile fun y => !kLt x y) (l₂ := l.dropWhile fun y => !kLt x y)
        rwa [← hsplit] at h3
      have hlen := congrArg List.length hsplit
      rw [List.length_append] at hlen
      have hll : l.length = s.length - (i + 1) := by rw [← hd, List.length_drop]
      simp only [List.length_cons] at hn
      conv => rhs; unfold grp
      simp only
      cases hv : vAmt (x.Amount + sumA (l.takeWhile fun y => !kLt x y)) with
      | false =>
        refine loopV_stop ?_
        unfold treatyref33_sums_l10
        simp only [hc, if_true, chk_of (inb_nat hk), hx2, e1, hin, Option.bind_some, treatyref01_Valid]
        have hv' : (decide (-17592186044416 ≤ x.Amount + sumA (l.takeWhile fun y => !kLt x y)) && decide (x.Amount + sumA (l.takeWhile fun y => !kLt x y) ≤ 17592186044416)) = false := hv
        simp [hv']
      | true =>
        have hv' : (decide (-17592186044416 ≤ x.Amount + sumA (l.takeWhile fun y => !kLt x y)) && decide (x.Amount + sumA (l.takeWhile fun y => !kLt x y) ≤ 17592186044416)) = true := hv
        by_cases h0 : x.Amount + sumA (l.takeWhile fun y => !kLt x y) = 0
        · have hst : treatyref33_sums_l10 s (out, (i : Int)) = some (.inl (out, ((i + 1 + (l.takeWhile fun y => !kLt x y).length : Nat) : Int))) := by
            unfold treatyref33_sums_l10
            simp only [hc, if_true, chk_of (inb_nat hk), hx2, e1, hin, Option.bind_some, treatyref01_Valid, hv', Bool.not_true, Bool.false_eq_true, if_false]
            simp [h0]
          rw [loopV_next hst, ih _ (by omega) _ (i + 1 + (l.takeWhile fun y => !kLt x y).length) out rfl hnext (by omega) (by omega)]
          simp only [if_true, h0]
          cases grp (l.dropWhile fun y => !kLt x y) <;> rfl
        · have hroom : room (out ++ [withA x (x.Amount + sumA (l.takeWhile fun y => !kLt x y))]).length = true := room_of (by simp <;> omega)
          have hst : treatyref33_sums_l10 s (out, (i : Int)) = some (.inl (out ++ [withA x (x.Amount + sumA (l.takeWhile fun y => !kLt x y))], ((i + 1 + (l.takeWhile fun y => !kLt x y).length : Nat) : Int))) := by
            unfold treatyref33_sums_l10
            have h0' : (!decide (x.Amount + sumA (l.takeWhile fun y => !kLt x y) = 0)) = true := by simp [h0]
            simp only [hc, if_true, chk_of (inb_nat hk), hx2, e1, hin, Option.bind_some, treatyref01_Valid, hv', Bool.not_true, Bool.false_eq_true, if_false, h0']
            exact chk_of hroom
          rw [loopV_next hst, ih _ (by omega) _ (i + 1 + (l.takeWhile fun y => !kLt x y).length) _ rfl hnext (by omega) (by simp <;> omega)]
          simp only [if_true, if_neg h0]
          cases grp (l.dropWhile fun y => !kLt x y) <;> simp
theorem msort_length (l : List GEntry) : (msort l).length = l.length := (msort_perm l).length_eq
theorem sums_eq (l : List GEntry) (hl : l.length ≤ 65536) (hA : Amts l) : treatyref33_sums l = some (match grp (msort l) with | none => ([], false) | some r => (r, true)) := by
  unfold treatyref33_sums
  have hA' : Amts (msort l) := hA.sub fun e he => (msort_perm l).mem_iff.1 he
  have h := sumsOuter (msort l) (by rw [msort_length]; exact hl) hA' _ (msort l) 0 [] rfl rfl (Nat.zero_le _) (Nat.zero_le _)
  simp only [sorted_eq l (by omega), Option.bind_some]
  rw [show ((0 : Nat) : Int) = 0 from rfl] at h
  rw [h]
  cases grp (msort l) <;> rfl
end Go.Proofs.Ytdenliplkmjmjaa.Pl
