/- contract (plain): participations, their shares, what is divided among them. -/
import Derived.Test.YtlmhmpngjfjfhaaLRefS
import Derived.Test.YtlmhmpngjfjfhaaLPart
import Derived.Test.YtlmhmpngjfjfhaaLSame
import Derived.Test.YtlmhmpngjfjfhaaLDeck
namespace Go.Proofs.Ytlmhmpngjfjfhaa.Pl
open Go

def okP (p : GPart) : Bool := decide (1 ≤ p.Party) && decide (p.Party ≤ 15) && (decide (1 ≤ p.Share) && decide (p.Share ≤ 1000000))
theorem okP_iff {p : GPart} : okP p = true ↔ (1 ≤ p.Party ∧ p.Party ≤ 15) ∧ 1 ≤ p.Share ∧ p.Share ≤ 1000000 := by simp [okP]
/-- not above the one ahead of it -/
def behind (q : Option Int) (x : Int) : Bool := match q with | some y => decide (x ≤ y) | none => false
/-- the parts one after the other: the first error, or the sum of the shares -/
def scanP : Option Int → List GPart → Int → Int ⊕ Int
  | _, [], s => .inr s
  | q, p :: t, s => if okP p = false then .inl 1 else if behind q p.Party = true then .inl 13 else scanP (some p.Party) t (s + p.Share)
def prevP (l : List GPart) (k : Nat) : Option Int := if k = 0 then none else some (l.getD (k - 1) default).Party
theorem prevP_succ {l : List GPart} {k : Nat} (h : k < l.length) : prevP l (k + 1) = some l[k].Party := by simp [prevP, h]
def partsE (l : List GPart) : Int := if 12 < l.length then 4 else match scanP none l 0 with | .inl e => e | .inr s => if 1000000 < s then 14 else 0
theorem within3 (x a b : Int) : contract_within x a b = some (decide (a ≤ x) && decide (x ≤ b)) := rfl
theorem prev_check {l : List GPart} {k : Nat} (hk : k < l.length) (hl : l.length ≤ 12) :
    (if (decide (0 < (k : Int))) = true then (chk (inb l (w64 ((k : Int) - 1))) <| some (decide (l[k].Party ≤ (ix l (w64 ((k : Int) - 1))).Party))) else (some false)) = some (behind (prevP l k) l[k].Party) := by
  cases k with
  | zero => simp [prevP, behind]
  | succ k =>
    have e : w64 (((k + 1 : Nat) : Int) - 1) = (k : Int) := by rw [w64_id (by omega) (by omega)]; omega
    have hk' : k < l.length := by omega
    rw [if_pos (by simp), e, chk_true (inb_nat hk'), ix_nat hk', prevP_succ hk']
    rfl
theorem parts_loop {l : List GPart} (hl : l.length ≤ 12) : loopV (contract_Parts_l14 l) (0, 0) = some (scanP none l 0) := by
  have main : ∀ (n k : Nat) (s : Int), n + k = l.length → 0 ≤ s ∧ s ≤ 1000000 * (k : Int) → loopV (contract_Parts_l14 l) (s, (k : Int)) = some (scanP (prevP l k) (l.drop k) s) := by
    intro n
    induction n with
    | zero =>
      intro k s hk _
      have st : contract_Parts_l14 l (s, (k : Int)) = some (.inr (.inr s)) := by
        unfold contract_Parts_l14
        rw [if_neg (by simp; omega)]
      rw [loopV_stop st, List.drop_eq_nil_of_le (by omega)]
      rfl
    | succ n ih =>
      intro k s hk hs
      have hkl : k < l.length := by omega
      have e : l.drop k = l[k] :: l.drop (k + 1) := List.drop_eq_getElem_cons hkl
      rw [e]
      unfold scanP
      by_cases hok : okP l[k] = true
      · have ho := okP_iff.1 hok
        rw [if_neg (by rw [hok]; simp)]
        by_cases hb : (behind (prevP l k) l[k].Party) = true
        · have st : contract_Parts_l14 l (s, (k : Int)) = some (.inr (.inl 13)) := by
            unfold contract_Parts_l14
            dsimp only
            rw [if_pos (by simp; omega), chk_true (inb_nat hkl), ix_nat hkl, within3, within3, prev_check hkl hl, hb]
            simp [ho]
          rw [loopV_stop st, if_pos hb]
        · have hb' := Bool.eq_false_iff.2 hb
          have st : contract_Parts_l14 l (s, (k : Int)) = some (.inl (s + l[k].Share, ((k + 1 : Nat) : Int))) := by
            unfold contract_Parts_l14
            dsimp only
            rw [if_pos (by simp; omega), chk_true (inb_nat hkl), ix_nat hkl, within3, within3, prev_check hkl hl, hb', w64_id (by omega) (by omega), w64_id (by omega) (by omega)]
            simp [ho]
          rw [loopV_next st, ih (k + 1) _ (by omega) (by omega), if_neg hb, prevP_succ hkl]
      · have hok' := Bool.eq_false_iff.2 hok
        have st : contract_Parts_l14 l (s, (k : Int)) = some (.inr (.inl 1)) := by
          unfold contract_Parts_l14
          dsimp only
          rw [if_pos (by simp; omega), chk_true (inb_nat hkl), ix_nat hkl, within3, within3]
          unfold okP at hok'
          cases h1 : (decide (1 ≤ l[k].Party) && decide (l[k].Party ≤ 15)) <;> cases h2 : (decide (1 ≤ l[k].Share) && decide (l[k].Share ≤ 1000000)) <;> simp [h1, h2] at hok' ⊢
        rw [loopV_stop st, if_pos hok']
  have := main l.length 0 0 (by omega) (by omega)
  simpa [prevP] using this
theorem rparts_loop {l : List GPart} (hl : l.length ≤ 12) : loopV (treatyref20_parts_l14 l) (0, 0) = some (match scanP none l 0 with | .inl e => .inl (0, e) | .inr s => .inr s) := by
  have main : ∀ (n k : Nat) (s : Int), n + k = l.length → 0 ≤ s ∧ s ≤ 1000000 * (k : Int) → loopV (treatyref20_parts_l14 l) (s, (k : Int)) = some (match scanP (prevP l k) (l.drop k) s with | .inl e => .inl (0, e) | .inr s => .inr s) := by
    intro n
    induction n with
    | zero =>
      intro k s hk _
      have st : treatyref20_parts_l14 l (s, (k : Int)) = some (.inr (.inr s)) := by
        unfold treatyref20_parts_l14
        rw [if_neg (by simp; omega)]
      rw [loopV_stop st, List.drop_eq_nil_of_le (by omega)]
      rfl
    | succ n ih =>
      intro k s hk hs
      have hkl : k < l.length := by omega
      have e : l.drop k = l[k] :: l.drop (k + 1) := List.drop_eq_getElem_cons hkl
      rw [e]
      unfold scanP
      have hcond : ((((decide (l[k].Party < 1)) || (decide (15 < l[k].Party))) || (decide (l[k].Share < 1))) || (decide (1000000 < l[k].Share))) = !okP l[k] := by
        unfold okP
        rw [Bool.eq_iff_iff]
        simp
        omega
      by_cases hok : okP l[k] = true
      · have ho := okP_iff.1 hok
        rw [if_neg (by rw [hok]; simp)]
        by_cases hb : (behind (prevP l k) l[k].Party) = true
        · have st : treatyref20_parts_l14 l (s, (k : Int)) = some (.inr (.inl (0, 13))) := by
            unfold treatyref20_parts_l14
            dsimp only
            rw [if_pos (by simp; omega), chk_true (inb_nat hkl), ix_nat hkl, hcond, hok, if_neg (by simp), prev_check hkl hl, hb]
            simp
          rw [loopV_stop st, if_pos hb]
        · have hb' := Bool.eq_false_iff.2 hb
          have st : treatyref20_parts_l14 l (s, (k : Int)) = some (.inl (s + l[k].Share, ((k + 1 : Nat) : Int))) := by
            unfold treatyref20_parts_l14
            dsimp only
            rw [if_pos (by simp; omega), chk_true (inb_nat hkl), ix_nat hkl, hcond, hok, if_neg (by simp), prev_check hkl hl, hb', w64_id (by omega) (by omega), w64_id (by omega) (by omega)]
            simp
          rw [loopV_next st, ih (k + 1) _ (by omega) (by omega), if_neg hb, prevP_succ hkl]
      · have hok' := Bool.eq_false_iff.2 hok
        have st : treatyref20_parts_l14 l (s, (k : Int)) = some (.inr (.inl (0, 1))) := by
          unfold treatyref20_parts_l14
          dsimp only
          rw [if_pos (by simp; omega), chk_true (inb_nat hkl), ix_nat hkl, hcond, hok', if_pos (by simp)]
        rw [loopV_stop st, if_pos hok']
  have := main l.length 0 0 (by omega) (by omega)
  simpa [prevP] using this
theorem parts_eq (l : List GPart) : contract_Parts l = some (partsE l) := by
  unfold contract_Parts partsE
  by_cases h : 12 < l.length
  · rw [if_pos (by simp; omega), if_pos h]
  · rw [if_neg (by simp; omega), if_neg h, parts_loop (by omega)]
    cases scanP none l 0 with
    | inl e => rfl
    | inr s =>
      by_cases h2 : 1000000 < s <;> simp [h2]
/-- sum and error of the reference -/
def partsR (l : List GPart) : Int × Int := if 12 < l.length then (0, 4) else match scanP none l 0 with | .inl e => (0, e) | .inr s => (s, 0)
theorem rparts_eq (l : List GPart) : treatyref20_parts l = some (partsR l) := by
  unfold treatyref20_parts partsR
  by_cases h : 12 < l.length
  · rw [if_pos (by simp; omega), if_pos h]
  · rw [if_neg (by simp; omega), if_neg h, rparts_loop (by omega)]
    cases scanP none l 0 with
    | inl e => rfl
    | inr s => rfl
theorem scan_err : ∀ (l : List GPart) (q : Option Int) (s e : Int), scanP q l s = .inl e → e = 1 ∨ e = 13
  | [], q, s, e, h => by simp [scanP] at h
  | p :: t, q, s, e, h => by
    unfold scanP at h
    split at h
    · cases h; exact .inl rfl
    · split at h
      · cases h; exact .inr rfl
      · exact scan_err t _ _ _ h
theorem rParts_eq (l : List GPart) : treatyref20_Parts l = some (partsE l) := by
  unfold treatyref20_Parts
  rw [rparts_eq, Option.bind_some]
  unfold partsR partsE
  by_cases h : 12 < l.length
  · simp [h]
  · simp only [h, if_false]
    cases hs : scanP none l 0 with
    | inl e =>
      have := scan_err l _ _ _ hs
      simp
    | inr s =>
      by_cases h2 : 1000000 < s <;> simp [h2]
/-! ### what valid parts are -/
def shs (l : List GPart) : List Int := l.map GPart.Share
theorem shs_length (l : List GPart) : (shs l).length = l.length := by simp [shs]
/-- in ascending order, behind q -/
def Asc : Option Int → List GPart → Prop
  | _, [] => True
  | q, p :: t => okP p = true ∧ (∀ x, q = some x → x < p.Party) ∧ Asc (some p.Party) t
theorem scan_ok : ∀ (l : List GPart) (q : Option Int) (s r : Int), scanP q l s = .inr r → Asc q l ∧ r = s + (shs l).sum
  | [], q, s, r, h => by
    simp only [scanP, Sum.inr.injEq] at h
    exact ⟨trivial, by simp [shs, h]⟩
  | p :: t, q, s, r, h => by
    unfold scanP at h
    split at h
    · cases h
    · rename_i hok
      split at h
      · cases h
      · rename_i hb
        obtain ⟨h1, h2⟩ := scan_ok t _ _ _ h
        refine ⟨⟨by simpa using hok, fun x hx => ?_, h1⟩, ?_⟩
        · subst hx
          simp [behind] at hb
          omega
        · rw [h2]
          simp [shs]
          omega
theorem scan_of : ∀ (l : List GPart) (q : Option Int) (s : Int), Asc q l → scanP q l s = .inr (s + (shs l).sum)
  | [], q, s, _ => by simp [scanP, shs]
  | p :: t, q, s, ⟨h1, h2, h3⟩ => by
    unfold scanP
    rw [if_neg (by rw [h1]; simp), if_neg, scan_of t _ _ h3]
    · simp [shs, Int.add_assoc]
    · cases q with
      | none => simp [behind]
      | some x =>
        have := h2 x rfl
        simp [behind]
        omega
theorem Asc.ok : ∀ {l : List GPart} {q : Option Int}, Asc q l → ∀ p ∈ l, okP p = true
  | p :: t, q, h, x, hx => by
    rcases List.mem_cons.1 hx with rfl | hx
    · exact h.1
    · exact Asc.ok h.2.2 x hx
theorem shs_bounds {l : List GPart} (h : ∀ p ∈ l, okP p = true) : (∀ x ∈ shs l, 1 ≤ x ∧ x ≤ 1000000) ∧ 0 ≤ (shs l).sum ∧ (shs l).sum ≤ 1000000 * (l.length : Int) := by
  refine ⟨fun x hx => ?_, ?_⟩
  · obtain ⟨p, hp, rfl⟩ := List.mem_map.1 hx
    have := okP_iff.1 (h p hp)
    exact this.2
  · induction l with
    | nil => simp [shs]
    | cons p t ih =>
      have h1 := ih fun x hx => h x (List.mem_cons_of_mem _ hx)
      have h2 := okP_iff.1 (h p (by simp))
      simp only [shs, List.map_cons, List.sum_cons, List.length_cons] at h1 ⊢
      omega
/-- parts without error but perhaps too many shares -/
structure POk (l : List GPart) : Prop where
  len : l.length ≤ 12
  asc : Asc none l
theorem partsE_cases (l : List GPart) : (POk l ∧ partsE l = (if 1000000 < (shs l).sum then 14 else 0) ∧ partsR l = ((shs l).sum, 0)) ∨ (∃ e, partsE l = e ∧ partsR l = (0, e) ∧ e ≠ 0 ∧ e ≠ 14) := by
  unfold partsE partsR
  by_cases h : 12 < l.length
  · rw [if_pos h, if_pos h]
    exact .inr ⟨4, rfl, rfl, by decide, by decide⟩
  · rw [if_neg h, if_neg h]
    cases hs : scanP none l 0 with
    | inl e =>
      have := scan_err l _ _ _ hs
      exact .inr ⟨e, rfl, rfl, by omega, by omega⟩
    | inr s =>
      obtain ⟨h1, h2⟩ := scan_ok l _ _ _ hs
      rw [Int.zero_add] at h2
      subst h2
      exact .inl ⟨⟨by omega, h1⟩, rfl, rfl⟩
theorem POk.parts {l : List GPart} (h : POk l) : partsE l = (if 1000000 < (shs l).sum then 14 else 0) := by
  unfold partsE
  have hl := h.len
  rw [if_neg (by omega), scan_of l none 0 h.asc, Int.zero_add]
/-! ### shares -/
theorem shares_eq {l : List GPart} (hl : l.length ≤ 100) : contract_shares l = some (shs l) := by
  unfold contract_shares
  rw [chk_true (by simp), chk_true (by simp; omega)]
  simp only [Int.toNat_natCast]
  have hd := loopV_done (step := contract_shares_l8 l) (fun k => (fill (shs l) k, (k : Int))) l.length (shs l) ?_ ?_
  · have hd' : loopV (contract_shares_l8 l) (List.replicate l.length 0, 0) = some (shs l) := by simpa [fill_zero, shs_length] using hd
    rw [hd']
    rfl
  · intro k hk
    have hks : k < (shs l).length := by rw [shs_length]; exact hk
    unfold contract_shares_l8
    dsimp only
    rw [if_pos (by simp; omega), chk_true (inb_nat hk), chk_true (inb_nat (by rw [fill_length]; exact hks)), ix_nat hk, w64_id (by omega) (by omega)]
    have e : l[k].Share = (shs l)[k] := by simp [shs]
    rw [e, upd_fill hks]
    rfl
  · unfold contract_shares_l8
    dsimp only
    rw [if_neg (by simp)]
    have := fill_all (shs l)
    rw [shs_length] at this
    rw [this]
/-! ### Divide -/
def weightsOf (l : List GPart) : List Int := (1000000 - (shs l).sum) :: shs l
def divideS (a : Int) (l : List GPart) : List Int × Int :=
  if partsE l ≠ 0 then ([], partsE l) else if ¬ (-17592186044416 ≤ a ∧ a ≤ 17592186044416) then ([], 1) else splitS a (weightsOf l)
theorem weights_loop {w : List Int} (hl : w.length ≤ 12) (hw : ∀ x ∈ w, 1 ≤ x ∧ x ≤ 1000000) : loopV (contract_Divide_l22 w) ([1000000] ++ w, 0) = some ((1000000 - w.sum) :: w) := by
  have hb : ∀ k, 0 ≤ (w.take k).sum ∧ (w.take k).sum ≤ 17592186044416 * ((w.take k).length : Int) := fun k => sum_le (l := w.take k) fun x hx => by
    have := hw x (List.mem_of_mem_take hx)
    omega
  have hd := loopV_done (step := contract_Divide_l22 w) (fun k => ((1000000 - (w.take k).sum) :: w, (k : Int))) w.length ((1000000 - w.sum) :: w) ?_ ?_
  · simpa using hd
  · intro k hk
    have h1 := hb k
    have hlk : (w.take k).length ≤ 12 := by simp; omega
    have hx := hw _ (List.getElem_mem hk)
    have hin : k + 1 < ((1000000 - (w.take k).sum) :: w).length := by simp; omega
    have e1 : (1 : Int) + (k : Int) = ((k + 1 : Nat) : Int) := by omega
    have i0 : inb ((1000000 - (w.take k).sum) :: w) 0 = true := by simp [inb]
    have x0 : ix ((1000000 - (w.take k).sum) :: w) 0 = 1000000 - (w.take k).sum := by simp [ix]
    unfold contract_Divide_l22
    dsimp only
    rw [if_pos (by simp; omega), chk_true (by simp), e1, chk_true (inb_nat hin), chk_true i0, x0, ix_nat hin, w64_id (n := (k : Int) + 1) (by omega) (by omega), List.getElem_cons_succ, w64_id (by omega) (by omega), List.take_succ_eq_append_getElem hk, List.sum_append]
    simp [upd]
    omega
  · unfold contract_Divide_l22
    dsimp only
    rw [if_neg (by simp), List.take_of_length_le (by omega)]
theorem divide_eq (a : Int) (l : List GPart) : contract_Divide a l = some (divideS a l) := by
  unfold contract_Divide divideS
  rw [parts_eq, Option.bind_some]
  by_cases h0 : partsE l = 0
  · have hp : POk l := by
      rcases partsE_cases l with ⟨h, _, _⟩ | ⟨e, h1, _, h3, _⟩
      · exact h
      · rw [h1] at h0; exact absurd h0 h3
    have hl := hp.len
    obtain ⟨hb, hs0, hs1⟩ := shs_bounds hp.asc.ok
    simp only [h0, decide_true, Bool.not_true, Bool.false_eq_true, if_false, ne_eq, not_true_eq_false]
    unfold amount_Valid
    rw [Option.bind_some]
    by_cases hv : -17592186044416 ≤ a ∧ a ≤ 17592186044416
    · have hsl := shs_length l
      rw [if_neg (by simp [hv]), if_neg (by simpa using hv), shares_eq (by omega), Option.bind_some, chk_true (room_of (by simp; omega)), chk_true (by simp; omega), weights_loop (by omega) hb, Option.bind_some, split_eq, Option.bind_some]
      rfl
    · rw [if_pos (by simp; omega), if_pos hv]
  · simp [h0]
theorem rweights_loop {l : List GPart} {x : Int} (hl : l.length ≤ 100) : loopV (treatyref20_Divide_l24 l) ([x], 0) = some (x :: shs l) := by
  have hd := loopV_done (step := treatyref20_Divide_l24 l) (fun k => (x :: (shs l).take k, (k : Int))) l.length (x :: shs l) ?_ ?_
  · simpa using hd
  · intro k hk
    have hks : k < (shs l).length := by rw [shs_length]; exact hk
    have hsl := shs_length l
    unfold treatyref20_Divide_l24
    dsimp only
    rw [if_pos (by simp; omega), chk_true (inb_nat hk), chk_true (room_of (by simp; omega)), ix_nat hk, w64_id (by omega) (by omega), List.take_succ_eq_append_getElem hks]
    simp [shs]
  · unfold treatyref20_Divide_l24
    dsimp only
    rw [if_neg (by simp), List.take_of_length_le (by rw [shs_length]; omega)]
theorem rdivide_eq (a : Int) (l : List GPart) : treatyref20_Divide a l = some (divideS a l) := by
  unfold treatyref20_Divide divideS
  rw [rParts_eq, Option.bind_some]
  by_cases h0 : partsE l = 0
  · have hp : POk l ∧ partsR l = ((shs l).sum, 0) := by
      rcases partsE_cases l with ⟨h, _, h2⟩ | ⟨e, h1, _, h3, _⟩
      · exact ⟨h, h2⟩
      · rw [h1] at h0; exact absurd h0 h3
    have hl := hp.1.len
    obtain ⟨hb, hs0, hs1⟩ := shs_bounds hp.1.asc.ok
    simp only [h0, decide_true, Bool.not_true, Bool.false_eq_true, if_false, ne_eq, not_true_eq_false]
    unfold treatyref01_Valid
    rw [Option.bind_some]
    by_cases hv : -17592186044416 ≤ a ∧ a ≤ 17592186044416
    · rw [if_neg (by simp [hv]), if_neg (by simpa using hv), rparts_eq, hp.2, Option.bind_some]
      dsimp only
      rw [w64_id (by omega) (by omega), rweights_loop (by omega), Option.bind_some, refSplit_eq, Option.bind_some]
      rfl
    · rw [if_pos (by simp; omega), if_pos hv]
  · simp [h0]
end Go.Proofs.Ytlmhmpngjfjfhaa.Pl
