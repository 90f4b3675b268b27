/- insolvency (plain): the estate distributed. -/
import Derived.Test.YtoodneljjhbfhaaLPart
import Derived.Test.YtoodneljjhbfhaaLRefS
import Derived.Test.YtoodneljjhbfhaaLDeckN
namespace Go.Proofs.Ytoodneljjhbfhaa.Pl
open Go

/-! ### lists filled one by one -/
def fillG {α : Type} (z : α) (xs : List α) (k : Nat) : List α := xs.take k ++ List.replicate (xs.length - k) z
theorem fillG_length {α : Type} (z : α) (xs : List α) (k : Nat) : (fillG z xs k).length = xs.length := by simp [fillG]; omega
theorem fillG_zero {α : Type} (z : α) (xs : List α) : fillG z xs 0 = List.replicate xs.length z := by simp [fillG]
theorem fillG_all {α : Type} (z : α) (xs : List α) : fillG z xs xs.length = xs := by simp [fillG]
theorem upd_fillG {α : Type} {z : α} {xs : List α} {k : Nat} (hk : k < xs.length) : upd (fillG z xs k) (k : Int) xs[k] = fillG z xs (k + 1) := by
  simp only [upd, fillG, Int.toNat_natCast]
  apply List.ext_getElem?
  intro i
  rw [List.getElem?_set]
  by_cases h : k = i
  · subst h
    rw [if_pos rfl, if_pos (by simp; omega), List.getElem?_append_left (by simp; omega), List.getElem?_take_of_lt (by omega)]
    simp [hk]
  · rw [if_neg h]
    by_cases h2 : i < k
    · rw [List.getElem?_append_left (by simp; omega), List.getElem?_append_left (by simp; omega), List.getElem?_take_of_lt h2, List.getElem?_take_of_lt (by omega)]
    · rw [List.getElem?_append_right (by simp; omega), List.getElem?_append_right (by simp; omega)]
      simp only [List.length_take, List.getElem?_replicate]
      have h3 : min k xs.length = k := by omega
      have h4 : min (k + 1) xs.length = k + 1 := by omega
      rw [h3, h4]
      by_cases h5 : i - k < xs.length - k
      · rw [if_pos h5, if_pos (by omega)]
      · rw [if_neg h5, if_neg (by omega)]
theorem fillG_at {α : Type} [Inhabited α] {z : α} {xs : List α} {k : Nat} (hk : k < xs.length) : ix (fillG z xs (k + 1)) (k : Int) = xs[k] := by
  rw [ix_nat (by rw [fillG_length]; exact hk)]
  simp only [fillG]
  rw [List.getElem_append_left (by simp; omega)]
  simp
/-! ### valid lists -/
def okM (m : GMutual) : Bool := !((((((decide (m.Party < 0)) || (decide (15 < m.Party))) || (decide (m.Owed < 0))) || (decide (17592186044416 < m.Owed))) || (decide (m.Owes < 0))) || (decide (17592186044416 < m.Owes)))
theorem okM_iff {m : GMutual} : okM m = true ↔ (0 ≤ m.Party ∧ m.Party ≤ 15) ∧ (0 ≤ m.Owed ∧ m.Owed ≤ 17592186044416) ∧ 0 ≤ m.Owes ∧ m.Owes ≤ 17592186044416 := by
  simp [okM]
  omega
def behindM (q : Option Int) (x : Int) : Bool := match q with | some y => decide (x ≤ y) | none => false
def scanM : Option Int → List GMutual → Option Int
  | _, [] => none
  | q, p :: t => if okM p = false then some 1 else if behindM q p.Party = true then some 13 else scanM (some p.Party) t
def prevM (l : List GMutual) (k : Nat) : Option Int := if k = 0 then none else some (l.getD (k - 1) default).Party
theorem prevM_succ {l : List GMutual} {k : Nat} (h : k < l.length) : prevM l (k + 1) = some l[k].Party := by simp [prevM, h]
theorem prevM_check {l : List GMutual} {k : Nat} (hk : k < l.length) (hl : l.length ≤ 16) :
    (if (decide (0 < (k : Int))) = true then (chk (inb l (w64 ((k : Int) - 1))) <| some (decide (l[k].Party ≤ (ix l (w64 ((k : Int) - 1))).Party))) else (some false)) = some (behindM (prevM l k) l[k].Party) := by
  cases k with
  | zero => simp [prevM, behindM]
  | succ k =>
    have e : w64 (((k + 1 : Nat) : Int) - 1) = (k : Int) := by rw [w64_id (by omega) (by omega)]; omega
    have hk' : k < l.length := by omega
    rw [if_pos (by simp), e, chk_true (inb_nat hk'), ix_nat hk', prevM_succ hk']
    rfl
theorem validM_loop {l : List GMutual} (hl : l.length ≤ 16) : loopV (insolvency_Validate_l12 l) 0 = some (match scanM none l with | some e => .inl e | none => .inr ()) := by
  have main : ∀ (n k : Nat), n + k = l.length → loopV (insolvency_Validate_l12 l) (k : Int) = some (match scanM (prevM l k) (l.drop k) with | some e => .inl e | none => .inr ()) := by
    intro n
    induction n with
    | zero =>
      intro k hk
      have st : insolvency_Validate_l12 l (k : Int) = some (.inr (.inr ())) := by
        unfold insolvency_Validate_l12
        rw [if_neg (by simp; omega)]
      rw [loopV_stop st, List.drop_eq_nil_of_le (by omega)]
      rfl
    | succ n ih =>
      intro k hk
      have hkl : k < l.length := by omega
      have e : l.drop k = l[k] :: l.drop (k + 1) := List.drop_eq_getElem_cons hkl
      have hcond : ((((((decide (l[k].Party < 0)) || (decide (15 < l[k].Party))) || (decide (l[k].Owed < 0))) || (decide (17592186044416 < l[k].Owed))) || (decide (l[k].Owes < 0))) || (decide (17592186044416 < l[k].Owes))) = !okM l[k] := by simp [okM]
      rw [e]
      unfold scanM
      by_cases hok : okM l[k] = true
      · rw [if_neg (by rw [hok]; simp)]
        by_cases hb : behindM (prevM l k) l[k].Party = true
        · have st : insolvency_Validate_l12 l (k : Int) = some (.inr (.inl 13)) := by
            unfold insolvency_Validate_l12
            rw [if_pos (by simp; omega), chk_true (inb_nat hkl), ix_nat hkl, hcond, hok, if_neg (by simp), prevM_check hkl hl, hb]
            simp
          rw [loopV_stop st, if_pos hb]
        · have hb' := Bool.eq_false_iff.2 hb
          have st : insolvency_Validate_l12 l (k : Int) = some (.inl ((k + 1 : Nat) : Int)) := by
            unfold insolvency_Validate_l12
            rw [if_pos (by simp; omega), chk_true (inb_nat hkl), ix_nat hkl, hcond, hok, if_neg (by simp), prevM_check hkl hl, hb', w64_id (by omega) (by omega)]
            simp
          rw [loopV_next st, ih (k + 1) (by omega), if_neg hb, prevM_succ hkl]
      · have hok' := Bool.eq_false_iff.2 hok
        have st : insolvency_Validate_l12 l (k : Int) = some (.inr (.inl 1)) := by
          unfold insolvency_Validate_l12
          rw [if_pos (by simp; omega), chk_true (inb_nat hkl), ix_nat hkl, hcond, hok', if_pos (by simp)]
        rw [loopV_stop st, if_pos hok']
  have := main l.length 0 (by omega)
  simpa [prevM] using this
def mutE (l : List GMutual) : Int := if 16 < l.length then 4 else match scanM none l with | some e => e | none => 0
theorem validM_eq (l : List GMutual) : insolvency_Validate l = some (mutE l) := by
  unfold insolvency_Validate mutE
  by_cases h : 16 < l.length
  · rw [if_pos (by simp; omega), if_pos h]
  · rw [if_neg (by simp; omega), if_neg h, validM_loop (by omega)]
    cases scanM none l <;> rfl
def AscM : Option Int → List GMutual → Prop
  | _, [] => True
  | q, p :: t => okM p = true ∧ (∀ x, q = some x → x < p.Party) ∧ AscM (some p.Party) t
theorem scanM_ok : ∀ (l : List GMutual) (q : Option Int), scanM q l = none → AscM q l
  | [], _, _ => trivial
  | p :: t, q, h => by
    unfold scanM at h
    split at h
    · cases h
    · rename_i hok
      split at h
      · cases h
      · rename_i hb
        refine ⟨by simpa using hok, fun x hx => ?_, scanM_ok t _ h⟩
        subst hx
        simp [behindM] at hb
        omega
theorem scanM_err : ∀ (l : List GMutual) (q : Option Int) (e : Int), scanM q l = some e → e ≠ 0
  | [], _, _, h => by cases h
  | p :: t, q, e, h => by
    unfold scanM at h
    split at h
    · cases h; decide
    · split at h
      · cases h; decide
      · exact scanM_err t _ e h
theorem scanM_of : ∀ (l : List GMutual) (q : Option Int), AscM q l → scanM q l = none
  | [], _, _ => rfl
  | p :: t, q, ⟨h1, h2, h3⟩ => by
    unfold scanM
    rw [if_neg (by rw [h1]; simp), if_neg, scanM_of t _ h3]
    cases q with
    | none => simp [behindM]
    | some x =>
      have := h2 x rfl
      simp [behindM]
      omega
structure VOk (l : List GMutual) : Prop where
  len : l.length ≤ 16
  asc : AscM none l
theorem mutE_ok {l : List GMutual} (h : mutE l = 0) : VOk l := by
  unfold mutE at h
  by_cases h0 : 16 < l.length
  · rw [if_pos h0] at h; cases h
  · rw [if_neg h0] at h
    cases hs : scanM none l with
    | none => exact ⟨by omega, scanM_ok l _ hs⟩
    | some e =>
      rw [hs] at h
      exact absurd h (scanM_err l _ _ hs)
theorem VOk.zero {l : List GMutual} (h : VOk l) : mutE l = 0 := by
  have hl := h.len
  unfold mutE
  rw [if_neg (by omega), scanM_of l none h.asc]
theorem AscM.ok : ∀ {l : List GMutual} {q : Option Int}, AscM q l → ∀ p ∈ l, okM p = true
  | p :: t, q, h, x, hx => by
    rcases List.mem_cons.1 hx with rfl | hx
    · exact h.1
    · exact AscM.ok h.2.2 x hx
theorem AscM.above : ∀ {l : List GMutual} {y : Int}, AscM (some y) l → ∀ x ∈ l, y < x.Party
  | p :: t, y, h, x, hx => by
    have h1 := h.2.1 y rfl
    rcases List.mem_cons.1 hx with rfl | hx
    · exact h1
    · have := AscM.above h.2.2 x hx
      omega
theorem AscM.pair : ∀ {l : List GMutual} {q : Option Int}, AscM q l → l.Pairwise fun a b => a.Party < b.Party
  | [], _, _ => List.Pairwise.nil
  | _ :: _, _, h => List.Pairwise.cons (fun x hx => h.2.2.above x hx) h.2.2.pair
/-! ### claims and payments -/
def clm (m : GMutual) : Int := m.Owed - min m.Owed m.Owes
def pys (m : GMutual) : Int := m.Owes - min m.Owed m.Owes
def div0 (m : GMutual) : GDividend := ⟨m.Party, min m.Owed m.Owes, 0, pys m, 0⟩
def clms (l : List GMutual) : List Int := l.map clm
def pyss (l : List GMutual) : List Int := l.map pys
theorem clm_ok {m : GMutual} (h : okM m = true) : (0 ≤ clm m ∧ clm m ≤ 17592186044416) ∧ (0 ≤ pys m ∧ pys m ≤ 17592186044416) ∧ 0 ≤ min m.Owed m.Owes := by
  have := okM_iff.1 h
  unfold clm pys
  omega
theorem clms_val {l : List GMutual} (h : ∀ m ∈ l, okM m = true) : ∀ x ∈ clms l, 0 ≤ x ∧ x ≤ 17592186044416 := fun x hx => by
  obtain ⟨m, hm, rfl⟩ := List.mem_map.1 hx
  exact (clm_ok (h m hm)).1
theorem pyss_val {l : List GMutual} (h : ∀ m ∈ l, okM m = true) : ∀ x ∈ pyss l, 0 ≤ x ∧ x ≤ 17592186044416 := fun x hx => by
  obtain ⟨m, hm, rfl⟩ := List.mem_map.1 hx
  exact (clm_ok (h m hm)).2.1
theorem clms_length (l : List GMutual) : (clms l).length = l.length := by simp [clms]
theorem pyss_length (l : List GMutual) : (pyss l).length = l.length := by simp [pyss]
/-- the last dividends -/
def divF (l : List GMutual) (red : List Int) : List GDividend := (List.range l.length).map fun i => ⟨(l.getD i default).Party, min (l.getD i default).Owed (l.getD i default).Owes, red.getD i 0, pys (l.getD i default), clm (l.getD i default) - red.getD i 0⟩
theorem divF_length (l : List GMutual) (red : List Int) : (divF l red).length = l.length := by simp [divF]
theorem divF_at {l : List GMutual} {red : List Int} (hr : red.length = l.length) {i : Nat} (h : i < l.length) : (divF l red)[i]'(by rw [divF_length]; exact h) = ⟨l[i].Party, min l[i].Owed l[i].Owes, red[i]'(by omega), pys l[i], clm l[i] - red[i]'(by omega)⟩ := by
  simp [divF, h, hr]
/-! ### reduced claims -/
def redS (w : List Int) (m : Int) : List Int := if w.sum ≤ m then w else splitD m w w.sum
structure ROk (w : List Int) (m : Int) : Prop where
  len : w.length ≤ 64
  val : ∀ x ∈ w, 0 ≤ x ∧ x ≤ 17592186044416
  m0 : 0 ≤ m
  m1 : m ≤ 17592186044416
theorem ROk.div {w : List Int} {m : Int} (h : ROk w m) (hs : ¬ w.sum ≤ m) : DivOk m w w.sum := ⟨h.m0, h.m1, h.val, h.len, rfl, by have := h.m0; omega⟩
theorem ROk.sok {w : List Int} {m : Int} (h : ROk w m) (hs : ¬ w.sum ≤ m) : SOk m w := ⟨by have := h.m0; omega, h.m1, h.val, h.len, by have := h.m0; omega⟩
theorem reduce_eq {w : List Int} {m : Int} (h : ROk w m) : split_Reduce w m = some (redS w m, 0) := by
  have hl := h.len
  have m0 := h.m0
  have m1 := h.m1
  have hr : split_inRange w = some true := by
    rw [inRange_eq (by omega)]
    congr 1
    exact List.all_eq_true.2 fun x hx => okW_iff.2 (h.val x hx)
  unfold split_Reduce redS
  rw [if_neg (by simp; omega), if_neg (by simp; omega), hr]
  simp only [Option.bind_some, Bool.not_true, Bool.false_eq_true, if_false, total_eq (show w.length ≤ 1000 by omega) h.val]
  by_cases hc : w.sum ≤ m
  · rw [if_pos (by simpa using hc), if_pos hc]
    unfold slices_Clone_s_int_int
    rw [chk_true (room_of (by omega)), Option.bind_some]
  · rw [if_neg (by simpa using hc), if_neg hc, split_ok (h.sok hc), Option.bind_some]
    unfold partsS
    rw [if_pos m0]
theorem redS_length (w : List Int) (m : Int) : (redS w m).length = w.length := by
  unfold redS
  split
  · rfl
  · exact splitD_length _ _ _
theorem redS_bounds {w : List Int} {m : Int} (h : ROk w m) {i : Nat} (hi : i < w.length) : 0 ≤ (redS w m)[i]'(by rw [redS_length]; exact hi) ∧ (redS w m)[i]'(by rw [redS_length]; exact hi) ≤ w[i] := by
  unfold redS
  by_cases hc : w.sum ≤ m
  · simp only [if_pos hc]
    exact ⟨(h.val _ (List.getElem_mem hi)).1, Int.le_refl _⟩
  · simp only [if_neg hc]
    exact ⟨(splitD_bounds (h.div hc) _ (List.getElem_mem (by rw [splitD_length]; exact hi))).1, splitD_le (h.div hc) (by omega) hi⟩
theorem redS_sum {w : List Int} {m : Int} (h : ROk w m) : (redS w m).sum = min w.sum m := by
  unfold redS
  by_cases hc : w.sum ≤ m
  · rw [if_pos hc]; omega
  · rw [if_neg hc, splitD_sum (h.div hc)]; omega
theorem rreduce_eq {w : List Int} {m : Int} (h : ROk w m) : treatyref01_Reduce w m = some (redS w m, 0) := by
  have hl := h.len
  have m0 := h.m0
  have m1 := h.m1
  have hall : w.all okW = true := List.all_eq_true.2 fun x hx => okW_iff.2 (h.val x hx)
  unfold treatyref01_Reduce redS
  rw [if_neg (by simp; omega), refWeights_eq hl, hall, if_pos rfl, Option.bind_some]
  dsimp only
  rw [if_neg (by simp; omega)]
  by_cases hc : w.sum ≤ m
  · rw [if_pos (by simpa using hc), if_pos hc, chk_true (room_of (by omega))]
  · rw [if_neg (by simpa using hc), if_neg hc, refSplit_eq, splitS_ok (h.sok hc), Option.bind_some]
    unfold partsS
    rw [if_pos m0]
end Go.Proofs.Ytoodneljjhbfhaa.Pl
