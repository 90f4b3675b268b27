/- Put together from several texts. -/
import Derived.Lib.ItoaNum
import Derived.Test.YtfekcgnnhjmeiaaP
import Derived.Test.YtfekcgnnhjmeiaaKPure
namespace Go.Proofs.Ytfekcgnnhjmeiaa.Pl
open Go

theorem w64_id {n : Int} (h1 : -9223372036854775808 ≤ n) (h2 : n ≤ 9223372036854775807) : w64 n = n := by
  simp only [IntKind.wrap, IntKind.bits, IntKind.signed]
  simp only [Bool.true_and, ge_iff_le, decide_eq_true_eq]
  split <;> omega
theorem w64_range (n : Int) : -9223372036854775808 ≤ w64 n ∧ w64 n ≤ 9223372036854775807 := by
  simp only [IntKind.wrap, IntKind.bits, IntKind.signed]
  simp only [Bool.true_and, ge_iff_le, decide_eq_true_eq]
  split <;> omega
theorem inb_of {α : Type} {xs : List α} {i : Int} (h0 : 0 ≤ i) (h1 : i < xs.length) : inb xs i = true := by simp [inb, h0, h1]
theorem inb_nat {α : Type} {xs : List α} {k : Nat} (h : k < xs.length) : inb xs (k : Int) = true := inb_of (by omega) (by omega)
theorem ix_nat {α : Type} [Inhabited α] {xs : List α} {k : Nat} (h : k < xs.length) : ix xs (k : Int) = xs[k] := by simp [ix, h]
theorem room_of {n : Nat} (h : n ≤ 1000000000) : room n = true := by simp [room, h]
theorem chk_true {α : Type} {b : Bool} {x : Option α} (h : b = true) : chk b x = x := by subst h; rfl
/-- rounds that all go on -/
theorem loopV_run {S O : Type} {step : S → Option (S ⊕ O)} (f : Nat → S) (n : Nat) (h : ∀ k, k < n → step (f k) = some (.inl (f (k + 1)))) : loopV step (f 0) = loopV step (f n) := by
  induction n with
  | zero => rfl
  | succ n ih => rw [ih fun k hk => h k (by omega), loopV_next (h n (by omega))]
theorem loopV_done {S O : Type} {step : S → Option (S ⊕ O)} (f : Nat → S) (n : Nat) (o : O) (h : ∀ k, k < n → step (f k) = some (.inl (f (k + 1)))) (hs : step (f n) = some (.inr o)) : loopV step (f 0) = some o := by
  rw [loopV_run f n h, loopV_stop hs]
theorem loopV_congr {S O : Type} {f g : S → Option (S ⊕ O)} (h : ∀ s, f s = g s) (s : S) : loopV f s = loopV g s := by
  have : f = g := funext h
  rw [this]
theorem recV_eq {α : Type} {g : Nat → Option α} {r : α} (h1 : ∀ k r', g k = some r' → r' = r) (k : Nat) (h2 : g k = some r) : recV g = some r := by
  cases h : recV g with
  | none =>
    unfold recV at h
    split at h
    · rename_i hex
      obtain ⟨x, hx⟩ := hex.choose_spec
      rw [hx] at h
      cases h
    · rename_i hex
      exact absurd ⟨k, r, h2⟩ hex
  | some x =>
    obtain ⟨l, hl⟩ := recV_some h
    rw [h1 l x hl]
structure DOk (d : GDeck) : Prop where
  at0 : 0 ≤ d.At
  len : d.L.length ≤ 9223372036854775807
theorem next_ok {d : GDeck} (h : DOk d) {n : Int} (h1 : 1 ≤ n) (h2 : n ≤ 4611686018427387904) : ∃ v d', treatymade_Deck_Next d n = some (v, d') ∧ 0 ≤ v ∧ v < n ∧ DOk d' := by
  unfold treatymade_Deck_Next
  have hl := h.len
  have h0 := h.at0
  by_cases hc : (d.L.length : Int) ≤ d.At
  · have hc' : decide ((d.L.length : Int) ≤ d.At) = true := by simpa using hc
    exact ⟨0, d, by simp only [hc', if_true], by omega, by omega, h⟩
  · have hc' : decide ((d.L.length : Int) ≤ d.At) = false := by simpa using hc
    have e1 : w64 (d.At + 1) = d.At + 1 := w64_id (by omega) (by omega)
    have e2 : w64 (d.At + 1 - 1) = d.At := by rw [w64_id (by omega) (by omega)]; omega
    have hin : inb d.L d.At = true := inb_of h0 (by omega)
    have hn : (!decide (n = 0)) = true := by simp <;> omega
    simp only [hc', Bool.false_eq_true, if_false, e1, e2, chk_of hin, chk_of hn]
    generalize ix d.L d.At = x
    have hm1 : -n < x.tmod n ∧ x.tmod n < n := by
      have a1 := Int.tmod_lt_of_pos x (show 0 < n by omega)
      have a2 := Int.lt_tmod_of_pos x (show 0 < n by omega)
      omega
    have e3 : w64 (x.tmod n + n) = x.tmod n + n := w64_id (by omega) (by omega)
    rw [e3]
    have hnn : 0 ≤ x.tmod n + n := by omega
    refine ⟨_, _, rfl, Int.tmod_nonneg _ hnn, Int.tmod_lt_of_pos _ (by omega), ⟨?_, hl⟩⟩
    show 0 ≤ d.At + 1
    omega
theorem new_ok {l : List Int} (h : l.length ≤ 9223372036854775807) : ∃ d, treatymade_New l = some d ∧ DOk d := ⟨_, rfl, by exact Int.le_refl 0, h⟩
theorem minI_eq (x y : Int) : minI x y = min x y := by unfold minI; split <;> omega
theorem upto_ok {d : GDeck} (h : DOk d) {n : Int} (h1 : 0 ≤ n) (h2 : n < 4611686018427387904) : ∃ v d', treatymade_Deck_Upto d n = some (v, d') ∧ 0 ≤ v ∧ v ≤ n ∧ DOk d' := by
  unfold treatymade_Deck_Upto
  obtain ⟨v0, d0, e0, a0, b0, k0⟩ := next_ok h (n := 6) (by omega) (by omega)
  rw [e0, Option.bind_some]
  dsimp only
  by_cases c0 : v0 = 0
  · rw [if_pos (by simpa using c0)]
    obtain ⟨v, d', e, a, b, k⟩ := next_ok k0 (n := 4) (by omega) (by omega)
    rw [e, Option.bind_some, minI_eq]
    exact ⟨_, _, rfl, by dsimp only; omega, by dsimp only; omega, k⟩
  rw [if_neg (by simpa using c0)]
  by_cases c1 : v0 = 1
  · rw [if_pos (by simpa using c1)]
    obtain ⟨v, d', e, a, b, k⟩ := next_ok k0 (n := 100) (by omega) (by omega)
    rw [e, Option.bind_some, minI_eq]
    exact ⟨_, _, rfl, by dsimp only; omega, by dsimp only; omega, k⟩
  rw [if_neg (by simpa using c1)]
  by_cases c2 : v0 = 2
  · rw [if_pos (by simpa using c2)]
    obtain ⟨v, d', e, a, b, k⟩ := next_ok k0 (n := 1048576) (by omega) (by omega)
    rw [e, Option.bind_some, minI_eq]
    exact ⟨_, _, rfl, by dsimp only; omega, by dsimp only; omega, k⟩
  rw [if_neg (by simpa using c2), w64_id (n := n + 1) (by omega) (by omega), minI_eq]
  by_cases c3 : v0 = 3
  · rw [if_pos (by simpa using c3)]
    obtain ⟨v, d', e, a, b, k⟩ := next_ok k0 (n := min 3 (n + 1)) (by omega) (by omega)
    rw [e, Option.bind_some]
    dsimp only
    rw [w64_id (by omega) (by omega)]
    exact ⟨_, _, rfl, by omega, by omega, k⟩
  rw [if_neg (by simpa using c3)]
  obtain ⟨v, d', e, a, b, k⟩ := next_ok k0 (n := n + 1) (by omega) (by omega)
  rw [e, Option.bind_some]
  exact ⟨_, _, rfl, a, by dsimp only; omega, k⟩
def okP (p : GPart) : Bool := decide (1 ≤ p.Party) && decide (p.Party ≤ 15) && (decide (1 ≤ p.Share) && decide (p.Share ≤ 1000000))
theorem okP_iff {p : GPart} : okP p = true ↔ (1 ≤ p.Party ∧ p.Party ≤ 15) ∧ 1 ≤ p.Share ∧ p.Share ≤ 1000000 := by simp [okP]
/-- not above the one ahead of it -/
def behind (q : Option Int) (x : Int) : Bool := match q with | some y => decide (x ≤ y) | none => false
/-- the parts one after the other: the first error, or the sum of the shares -/
def scanP : Option Int → List GPart → Int → Int ⊕ Int
  | _, [], s => .inr s
  | q, p :: t, s => if okP p = false then .inl 1 else if behind q p.Party = true then .inl 13 else scanP (some p.Party) t (s + p.Share)
def prevP (l : List GPart) (k : Nat) : Option Int := if k = 0 then none else some (l.getD (k - 1) default).Party
theorem prevP_succ {l : List GPart} {k : Nat} (h : k < l.length) : prevP l (k + 1) = some l[k].Party := by simp [prevP, h]
def partsE (l : List GPart) : Int := if 12 < l.length then 4 else match scanP none l 0 with | .inl e => e | .inr s => if 1000000 < s then 14 else 0
theorem within3 (x a b : Int) : contract_within x a b = some (decide (a ≤ x) && decide (x ≤ b)) := rfl
theorem prev_check {l : List GPart} {k : Nat} (hk : k < l.length) (hl : l.length ≤ 12) :
    (if (decide (0 < (k : Int))) = true then (chk (inb l (w64 ((k : Int) - 1))) <| some (decide (l[k].Party ≤ (ix l (w64 ((k : Int) - 1))).Party))) else (some false)) = some (behind (prevP l k) l[k].Party) := by
  cases k with
  | zero => simp [prevP, behind]
  | succ k =>
    have e : w64 (((k + 1 : Nat) : Int) - 1) = (k : Int) := by rw [w64_id (by omega) (by omega)]; omega
    have hk' : k < l.length := by omega
    rw [if_pos (by simp), e, chk_true (inb_nat hk'), ix_nat hk', prevP_succ hk']
    rfl
theorem parts_loop {l : List GPart} (hl : l.length ≤ 12) : loopV (contract_Parts_l14 l) (0, 0) = some (scanP none l 0) := by
  have main : ∀ (n k : Nat) (s : Int), n + k = l.length → 0 ≤ s ∧ s ≤ 1000000 * (k : Int) → loopV (contract_Parts_l14 l) (s, (k : Int)) = some (scanP (prevP l k) (l.drop k) s) := by
    intro n
    induction n with
    | zero =>
      intro k s hk _
      have st : contract_Parts_l14 l (s, (k : Int)) = some (.inr (.inr s)) := by
        unfold contract_Parts_l14
        rw [if_neg (by simp; omega)]
      rw [loopV_stop st, List.drop_eq_nil_of_le (by omega)]
      rfl
    | succ n ih =>
      intro k s hk hs
      have hkl : k < l.length := by omega
      have e : l.drop k = l[k] :: l.drop (k + 1) := List.drop_eq_getElem_cons hkl
      rw [e]
      unfold scanP
      by_cases hok : okP l[k] = true
      · have ho := okP_iff.1 hok
        rw [if_neg (by rw [hok]; simp)]
        by_cases hb : (behind (prevP l k) l[k].Party) = true
        · have st : contract_Parts_l14 l (s, (k : Int)) = some (.inr (.inl 13)) := by
            unfold contract_Parts_l14
            dsimp only
            rw [if_pos (by simp; omega), chk_true (inb_nat hkl), ix_nat hkl, within3, within3, prev_check hkl hl, hb]
            simp [ho]
          rw [loopV_stop st, if_pos hb]
        · have hb' := Bool.eq_false_iff.2 hb
          have st : contract_Parts_l14 l (s, (k : Int)) = some (.inl (s + l[k].Share, ((k + 1 : Nat) : Int))) := by
            unfold contract_Parts_l14
            dsimp only
            rw [if_pos (by simp; omega), chk_true (inb_nat hkl), ix_nat hkl, within3, within3, prev_check hkl hl, hb', w64_id (by omega) (by omega), w64_id (by omega) (by omega)]
            simp [ho]
          rw [loopV_next st, ih (k + 1) _ (by omega) (by omega), if_neg hb, prevP_succ hkl]
      · have hok' := Bool.eq_false_iff.2 hok
        have st : contract_Parts_l14 l (s, (k : Int)) = some (.inr (.inl 1)) := by
          unfold contract_Parts_l14
          dsimp only
          rw [if_pos (by simp; omega), chk_true (inb_nat hkl), ix_nat hkl, within3, within3]
          unfold okP at hok'
          cases h1 : (decide (1 ≤ l[k].Party) && decide (l[k].Party ≤ 15)) <;> cases h2 : (decide (1 ≤ l[k].Share) && decide (l[k].Share ≤ 1000000)) <;> simp [h1, h2] at hok' ⊢
        rw [loopV_stop st, if_pos hok']
  have := main l.length 0 0 (by omega) (by omega)
  simpa [prevP] using this
theorem rparts_loop {l : List GPart} (hl : l.length ≤ 12) : loopV (treatyref20_parts_l14 l) (0, 0) = some (match scanP none l 0 with | .inl e => .inl (0, e) | .inr s => .inr s) := by
  have main : ∀ (n k : Nat) (s : Int), n + k = l.length → 0 ≤ s ∧ s ≤ 1000000 * (k : Int) → loopV (treatyref20_parts_l14 l) (s, (k : Int)) = some (match scanP (prevP l k) (l.drop k) s with | .inl e => .inl (0, e) | .inr s => .inr s) := by
    intro n
    induction n with
    | zero =>
      intro k s hk _
      have st : treatyref20_parts_l14 l (s, (k : Int)) = some (.inr (.inr s)) := by
        unfold treatyref20_parts_l14
        rw [if_neg (by simp; omega)]
      rw [loopV_stop st, List.drop_eq_nil_of_le (by omega)]
      rfl
    | succ n ih =>
      intro k s hk hs
      have hkl : k < l.length := by omega
      have e : l.drop k = l[k] :: l.drop (k + 1) := List.drop_eq_getElem_cons hkl
      rw [e]
      unfold scanP
      have hcond : ((((decide (l[k].Party < 1)) || (decide (15 < l[k].Party))) || (decide (l[k].Share < 1))) || (decide (1000000 < l[k].Share))) = !okP l[k] := by
        unfold okP
        rw [Bool.eq_iff_iff]
        simp
        omega
      by_cases hok : okP l[k] = true
      · have ho := okP_iff.1 hok
        rw [if_neg (by rw [hok]; simp)]
        by_cases hb : (behind (prevP l k) l[k].Party) = true
        · have st : treatyref20_parts_l14 l (s, (k : Int)) = some (.inr (.inl (0, 13))) := by
            unfold treatyref20_parts_l14
            dsimp only
            rw [if_pos (by simp; omega), chk_true (inb_nat hkl), ix_nat hkl, hcond, hok, if_neg (by simp), prev_check hkl hl, hb]
            simp
          rw [loopV_stop st, if_pos hb]
        · have hb' := Bool.eq_false_iff.2 hb
          have st : treatyref20_parts_l14 l (s, (k : Int)) = some (.inl (s + l[k].Share, ((k + 1 : Nat) : Int))) := by
            unfold treatyref20_parts_l14
            dsimp only
            rw [if_pos (by simp; omega), chk_true (inb_nat hkl), ix_nat hkl, hcond, hok, if_neg (by simp), prev_check hkl hl, hb', w64_id (by omega) (by omega), w64_id (by omega) (by omega)]
            simp
          rw [loopV_next st, ih (k + 1) _ (by omega) (by omega), if_neg hb, prevP_succ hkl]
      · have hok' := Bool.eq_false_iff.2 hok
        have st : treatyref20_parts_l14 l (s, (k : Int)) = some (.inr (.inl (0, 1))) := by
          unfold treatyref20_parts_l14
          dsimp only
          rw [if_pos (by simp; omega), chk_true (inb_nat hkl), ix_nat hkl, hcond, hok', if_pos (by simp)]
        rw [loopV_stop st, if_pos hok']
  have := main l.length 0 0 (by omega) (by omega)
  simpa [prevP] using this
theorem parts_eq (l : List GPart) : contract_Parts l = some (partsE l) := by
  unfold contract_Parts partsE
  by_cases h : 12 < l.length
  · rw [if_pos (by simp; omega), if_pos h]
  · rw [if_neg (by simp; omega), if_neg h, parts_loop (by omega)]
    cases scanP none l 0 with
    | inl e => rfl
    | inr s =>
      by_cases h2 : 1000000 < s <;> simp [h2]
/-- sum and error of the reference -/
def partsR (l : List GPart) : Int × Int := if 12 < l.length then (0, 4) else match scanP none l 0 with | .inl e => (0, e) | .inr s => (s, 0)
theorem rparts_eq (l : List GPart) : treatyref20_parts l = some (partsR l) := by
  unfold treatyref20_parts partsR
  by_cases h : 12 < l.length
  · rw [if_pos (by simp; omega), if_pos h]
  · rw [if_neg (by simp; omega), if_neg h, rparts_loop (by omega)]
    cases scanP none l 0 with
    | inl e => rfl
    | inr s => rfl
theorem scan_err : ∀ (l : List GPart) (q : Option Int) (s e : Int), scanP q l s = .inl e → e = 1 ∨ e = 13
  | [], q, s, e, h => by simp [scanP] at h
  | p :: t, q, s, e, h => by
    unfold scanP at h
    split at h
    · cases h; exact .inl rfl
    · split at h
      · cases h; exact .inr rfl
      · exact scan_err t _ _ _ h
theorem rParts_eq (l : List GPart) : treatyref20_Parts l = some (partsE l) := by
  unfold treatyref20_Parts
  rw [rparts_eq, Option.bind_some]
  unfold partsR partsE
  by_cases h : 12 < l.length
  · simp [h]
  · simp only [h, if_false]
    cases hs : scanP none l 0 with
    | inl e =>
      have := scan_err l _ _ _ hs
      simp
    | inr s =>
      by_cases h2 : 1000000 < s <;> simp [h2]
def shs (l : List GPart) : List Int := l.map GPart.Share
/-- in ascending order, behind q -/
def Asc : Option Int → List GPart → Prop
  | _, [] => True
  | q, p :: t => okP p = true ∧ (∀ x, q = some x → x < p.Party) ∧ Asc (some p.Party) t
theorem scan_of : ∀ (l : List GPart) (q : Option Int) (s : Int), Asc q l → scanP q l s = .inr (s + (shs l).sum)
  | [], q, s, _ => by simp [scanP, shs]
  | p :: t, q, s, ⟨h1, h2, h3⟩ => by
    unfold scanP
    rw [if_neg (by rw [h1]; simp), if_neg, scan_of t _ _ h3]
    · simp [shs, Int.add_assoc]
    · cases q with
      | none => simp [behind]
      | some x =>
        have := h2 x rfl
        simp [behind]
        omega
theorem Asc.ok : ∀ {l : List GPart} {q : Option Int}, Asc q l → ∀ p ∈ l, okP p = true
  | p :: t, q, h, x, hx => by
    rcases List.mem_cons.1 hx with rfl | hx
    · exact h.1
    · exact Asc.ok h.2.2 x hx
theorem shs_bounds {l : List GPart} (h : ∀ p ∈ l, okP p = true) : (∀ x ∈ shs l, 1 ≤ x ∧ x ≤ 1000000) ∧ 0 ≤ (shs l).sum ∧ (shs l).sum ≤ 1000000 * (l.length : Int) := by
  refine ⟨fun x hx => ?_, ?_⟩
  · obtain ⟨p, hp, rfl⟩ := List.mem_map.1 hx
    have := okP_iff.1 (h p hp)
    exact this.2
  · induction l with
    | nil => simp [shs]
    | cons p t ih =>
      have h1 := ih fun x hx => h x (List.mem_cons_of_mem _ hx)
      have h2 := okP_iff.1 (h p (by simp))
      simp only [shs, List.map_cons, List.sum_cons, List.length_cons] at h1 ⊢
      omega
/-- parts without error but perhaps too many shares -/
structure POk (l : List GPart) : Prop where
  len : l.length ≤ 12
  asc : Asc none l
theorem POk.parts {l : List GPart} (h : POk l) : partsE l = (if 1000000 < (shs l).sum then 14 else 0) := by
  unfold partsE
  have hl := h.len
  rw [if_neg (by omega), scan_of l none 0 h.asc, Int.zero_add]
theorem Asc.snoc : ∀ {l : List GPart} {q : Option Int} {p : GPart}, Asc q l → okP p = true → (∀ x, q = some x → x < p.Party) → (∀ x ∈ l, x.Party < p.Party) → Asc q (l ++ [p])
  | [], q, p, _, h1, h2, _ => ⟨h1, h2, trivial⟩
  | y :: t, q, p, h, h1, h2, h3 => ⟨h.1, h.2.1, Asc.snoc h.2.2 h1 (fun x hx => by cases hx; exact h3 y (by simp)) (fun x hx => h3 x (List.mem_cons_of_mem _ hx))⟩
theorem partsLoop : ∀ (k : Nat) (d : GDeck) (out : List GPart) (left party : Int), DOk d → out.length + k ≤ 4 → Asc none out → (∀ x ∈ out, x.Party ≤ party) → 0 ≤ party ∧ party ≤ 3 * (out.length : Int) → 0 ≤ left → (shs out).sum + left = 1000000 →
    ∃ (d' : GDeck) (r : List GPart), loopV treatymade_Deck_Parts_l10 (d.L, d.At, out, left, party, (k : Int)) = some (d'.L, d'.At, r) ∧ DOk d' ∧ r.length ≤ 4 ∧ Asc none r ∧ (shs r).sum ≤ 1000000
  | 0, d, out, left, party, hd, hl, ha, _, _, h0, hs => ⟨d, out, loopV_stop (by unfold treatymade_Deck_Parts_l10; simp), hd, by omega, ha, by omega⟩
  | k + 1, d, out, left, party, hd, hl, ha, hp, hp2, h0, hs => by
    obtain ⟨_, hs0, _⟩ := shs_bounds ha.ok
    by_cases hc : 0 < left
    · obtain ⟨v, d1, e1, a1, b1, h1⟩ := next_ok (d := ⟨d.L, d.At⟩) hd (n := 3) (by omega) (by omega)
      obtain ⟨u, d2, e2, a2, b2, h2⟩ := upto_ok h1 (n := left - 1) (by omega) (by omega)
      have hnew : okP (GPart.mk (party + 1 + v) (1 + u)) = true := okP_iff.2 ⟨⟨by dsimp only; omega, by dsimp only; omega⟩, by dsimp only; omega, by dsimp only; omega⟩
      have hst : treatymade_Deck_Parts_l10 (d.L, d.At, out, left, party, ((k + 1 : Nat) : Int)) = some (.inl (d2.L, d2.At, out ++ [GPart.mk (party + 1 + v) (1 + u)], left - (1 + u), party + 1 + v, (k : Int))) := by
        unfold treatymade_Deck_Parts_l10
        dsimp only
        rw [if_pos (by simp; omega), e1, Option.bind_some, w64_id (n := left - 1) (by omega) (by omega)]
        dsimp only
        rw [e2, Option.bind_some]
        dsimp only
        rw [w64_id (n := party + 1) (by omega) (by omega), w64_id (n := party + 1 + v) (by omega) (by omega), w64_id (n := 1 + u) (by omega) (by omega), w64_id (n := left - (1 + u)) (by omega) (by omega), chk_true (room_of (by simp; omega)), w64_id (by omega) (by omega)]
        congr 7
        omega
      obtain ⟨d3, r, h3, h4, h5, h6, h7⟩ := partsLoop k d2 (out ++ [GPart.mk (party + 1 + v) (1 + u)]) (left - (1 + u)) (party + 1 + v) h2 (by simp; omega) (ha.snoc hnew (fun x hx => by cases hx) (fun x hx => by have := hp x hx; dsimp only; omega)) (fun x hx => by
        rcases List.mem_append.1 hx with hx | hx
        · have := hp x hx; omega
        · simp at hx; subst hx; dsimp only; omega) (by simp; omega) (by omega) (by simp [shs] at hs ⊢; omega)
      exact ⟨d3, r, by rw [loopV_next hst, h3], h4, h5, h6, h7⟩
    · exact ⟨d, out, loopV_stop (by unfold treatymade_Deck_Parts_l10; rw [if_neg (by simp; omega)]), hd, by omega, ha, by omega⟩
theorem partsMade_ok {d : GDeck} (h : DOk d) : ∃ p d', treatymade_Deck_Parts d = some (p, d') ∧ DOk d' ∧ p.length ≤ 4 ∧ Asc none p ∧ (shs p).sum ≤ 1000000 := by
  unfold treatymade_Deck_Parts
  obtain ⟨v, d1, e1, a1, b1, h1⟩ := next_ok h (n := 5) (by omega) (by omega)
  obtain ⟨d2, r, h2, h3, h4⟩ := partsLoop v.toNat d1 [] 1000000 0 h1 (by simp; omega) trivial (fun x hx => by cases hx) (by simp) (by omega) (by simp [shs])
  have ev : ((v.toNat : Nat) : Int) = v := by omega
  rw [ev] at h2
  rw [e1, Option.bind_some]
  dsimp only
  rw [h2, Option.bind_some]
  exact ⟨r, _, rfl, h3, h4⟩
/-- a loop that looks for the first index that is bad -/
theorem loop_any {step : Int → Option (Int ⊕ (Int ⊕ Unit))} {n : Nat} {e : Int} (bad : Nat → Bool) (h : ∀ k : Nat, k < n → step (k : Int) = some (if bad k = true then .inr (.inl e) else .inl ((k + 1 : Nat) : Int))) (hs : step (n : Int) = some (.inr (.inr ()))) : loopV step 0 = some (if (List.range n).any bad = true then .inl e else .inr ()) := by
  have main : ∀ m k : Nat, m + k = n → loopV step (k : Int) = some (if ((List.range' k m).any bad) = true then .inl e else .inr ()) := by
    intro m
    induction m with
    | zero =>
      intro k hk
      have : k = n := by omega
      subst this
      rw [loopV_stop hs]
      simp
    | succ m ih =>
      intro k hk
      have hk' := h k (by omega)
      rw [List.range'_succ, List.any_cons]
      by_cases hb : bad k = true
      · rw [if_pos hb] at hk'
        rw [loopV_stop hk', hb]
        rfl
      · rw [if_neg hb] at hk'
        rw [loopV_next hk', ih (k + 1) (by omega), Bool.eq_false_iff.2 hb]
        rfl
  have := main n 0 (by omega)
  rw [List.range_eq_range']
  exact this
def scanA (lo hi : Int) : Option Int → List Int → Int
  | _, [] => 0
  | q, x :: t => if ¬ (lo ≤ x ∧ x ≤ hi) then 1 else if behind q x = true then 13 else scanA lo hi (some x) t
def prevA (l : List Int) (k : Nat) : Option Int := if k = 0 then none else some (l.getD (k - 1) 0)
theorem prevA_succ {l : List Int} {k : Nat} (h : k < l.length) : prevA l (k + 1) = some l[k] := by simp [prevA, h]
theorem prevA_check {l : List Int} {k : Nat} (hk : k < l.length) (hl : l.length ≤ 1000000000) :
    (if (decide (0 < (k : Int))) = true then (chk (inb l (w64 ((k : Int) - 1))) <| some (decide (l[k] ≤ (ix l (w64 ((k : Int) - 1)))))) else (some false)) = some (behind (prevA l k) l[k]) := by
  cases k with
  | zero => simp [prevA, behind]
  | succ k =>
    have e : w64 (((k + 1 : Nat) : Int) - 1) = (k : Int) := by rw [w64_id (by omega) (by omega)]; omega
    have hk' : k < l.length := by omega
    rw [if_pos (by simp), e, chk_true (inb_nat hk'), ix_nat hk', prevA_succ hk']
    rfl
theorem asc_step (l : List Int) (lo hi : Int) (s : Int) : contract_ascending_l6 l lo hi s = treatyref20_ascending_l6 l lo hi s := by
  unfold contract_ascending_l6 treatyref20_ascending_l6
  rw [within3, Option.bind_some]
  have e : (!(decide (lo ≤ ix l s) && decide (ix l s ≤ hi))) = ((decide ((ix l s) < lo)) || (decide (hi < (ix l s)))) := by
    rw [Bool.eq_iff_iff]
    simp
  rw [e]
theorem asc_same (l : List Int) (lo hi : Int) : contract_ascending l lo hi = treatyref20_ascending l lo hi := by
  unfold contract_ascending treatyref20_ascending
  rw [loopV_congr (asc_step l lo hi)]
theorem rasc_eq {l : List Int} {lo hi : Int} (hl : l.length ≤ 1000000000) : treatyref20_ascending l lo hi = some (scanA lo hi none l) := by
  have main : ∀ (n k : Nat), n + k = l.length → loopV (treatyref20_ascending_l6 l lo hi) (k : Int) = some (if scanA lo hi (prevA l k) (l.drop k) = 0 then .inr () else .inl (scanA lo hi (prevA l k) (l.drop k))) := by
    intro n
    induction n with
    | zero =>
      intro k hk
      have st : treatyref20_ascending_l6 l lo hi (k : Int) = some (.inr (.inr ())) := by
        unfold treatyref20_ascending_l6
        rw [if_neg (by simp; omega)]
      rw [loopV_stop st, List.drop_eq_nil_of_le (by omega)]
      rfl
    | succ n ih =>
      intro k hk
      have hkl : k < l.length := by omega
      have e : l.drop k = l[k] :: l.drop (k + 1) := List.drop_eq_getElem_cons hkl
      rw [e]
      have e2 : scanA lo hi (prevA l k) (l[k] :: l.drop (k + 1)) = (if ¬ (lo ≤ l[k] ∧ l[k] ≤ hi) then 1 else if behind (prevA l k) l[k] = true then 13 else scanA lo hi (some l[k]) (l.drop (k + 1))) := rfl
      by_cases hok : lo ≤ l[k] ∧ l[k] ≤ hi
      · rw [if_neg (by simpa using hok)] at e2
        by_cases hb : (behind (prevA l k) l[k]) = true
        · have st : treatyref20_ascending_l6 l lo hi (k : Int) = some (.inr (.inl 13)) := by
            unfold treatyref20_ascending_l6
            rw [if_pos (by simp; omega), chk_true (inb_nat hkl), ix_nat hkl, if_neg (by simp; omega), prevA_check hkl hl, hb]
            simp
          rw [if_pos hb] at e2
          rw [loopV_stop st, e2]
          rfl
        · have hb' := Bool.eq_false_iff.2 hb
          have st : treatyref20_ascending_l6 l lo hi (k : Int) = some (.inl ((k + 1 : Nat) : Int)) := by
            unfold treatyref20_ascending_l6
            rw [if_pos (by simp; omega), chk_true (inb_nat hkl), ix_nat hkl, if_neg (by simp; omega), prevA_check hkl hl, hb', w64_id (by omega) (by omega)]
            simp
          rw [if_neg hb] at e2
          rw [loopV_next st, ih (k + 1) (by omega), e2, prevA_succ hkl]
      · have st : treatyref20_ascending_l6 l lo hi (k : Int) = some (.inr (.inl 1)) := by
          unfold treatyref20_ascending_l6
          rw [if_pos (by simp; omega), chk_true (inb_nat hkl), ix_nat hkl, if_pos (by simp; omega)]
        rw [if_pos hok] at e2
        rw [loopV_stop st, e2]
        rfl
  have := main l.length 0 (by omega)
  unfold treatyref20_ascending
  have e0 : prevA l 0 = none := rfl
  rw [e0, List.drop_zero] at this
  have this' : loopV (treatyref20_ascending_l6 l lo hi) 0 = _ := this
  rw [this']
  by_cases h0 : scanA lo hi none l = 0 <;> simp [h0]
theorem asc_eq {l : List Int} {lo hi : Int} (hl : l.length ≤ 1000000000) : contract_ascending l lo hi = some (scanA lo hi none l) := by rw [asc_same, rasc_eq hl]
theorem holds_eq {l : List Int} {x : Int} (hl : l.length ≤ 1000000000) : treatyref20_holds l x = some (decide (x ∈ l)) := by
  have main : ∀ (n k : Nat), n + k = l.length → loopV (treatyref20_holds_l6 l x) (k : Int) = some (if x ∈ l.drop k then .inl true else .inr ()) := by
    intro n
    induction n with
    | zero =>
      intro k hk
      have st : treatyref20_holds_l6 l x (k : Int) = some (.inr (.inr ())) := by
        unfold treatyref20_holds_l6
        rw [if_neg (by simp; omega)]
      rw [loopV_stop st, List.drop_eq_nil_of_le (by omega)]
      rfl
    | succ n ih =>
      intro k hk
      have hkl : k < l.length := by omega
      have e : l.drop k = l[k] :: l.drop (k + 1) := List.drop_eq_getElem_cons hkl
      rw [e]
      by_cases hx : l[k] = x
      · have st : treatyref20_holds_l6 l x (k : Int) = some (.inr (.inl true)) := by
          unfold treatyref20_holds_l6
          rw [if_pos (by simp; omega), chk_true (inb_nat hkl), ix_nat hkl, if_pos (by simpa using hx)]
        rw [loopV_stop st]
        simp [hx]
      · have st : treatyref20_holds_l6 l x (k : Int) = some (.inl ((k + 1 : Nat) : Int)) := by
          unfold treatyref20_holds_l6
          rw [if_pos (by simp; omega), chk_true (inb_nat hkl), ix_nat hkl, if_neg (by simpa using hx), w64_id (by omega) (by omega)]
          rfl
        have hx' : ¬ x = l[k] := fun e => hx e.symm
        rw [loopV_next st, ih (k + 1) (by omega)]
        simp only [List.mem_cons, hx', false_or]
  have := main l.length 0 (by omega)
  unfold treatyref20_holds
  have this' : loopV (treatyref20_holds_l6 l x) 0 = _ := this
  rw [this', List.drop_zero]
  by_cases h0 : x ∈ l <;> simp [h0]
theorem contains_eq {l : List Int} {x : Int} (hl : l.length ≤ 1000000000) : slices_Contains_s_int_int l x = some (decide (x ∈ l)) := by
  have main : ∀ (n k : Nat), n + k = l.length → ∃ j : Nat, loopV (slices_Index_s_int_int_l6 l x) (k : Int) = some (if x ∈ l.drop k then .inl (j : Int) else .inr ()) := by
    intro n
    induction n with
    | zero =>
      intro k hk
      have st : slices_Index_s_int_int_l6 l x (k : Int) = some (.inr (.inr ())) := by
        unfold slices_Index_s_int_int_l6
        rw [if_neg (by simp; omega)]
      refine ⟨0, ?_⟩
      rw [loopV_stop st, List.drop_eq_nil_of_le (by omega)]
      rfl
    | succ n ih =>
      intro k hk
      have hkl : k < l.length := by omega
      have e : l.drop k = l[k] :: l.drop (k + 1) := List.drop_eq_getElem_cons hkl
      rw [e]
      by_cases hx : x = l[k]
      · have st : slices_Index_s_int_int_l6 l x (k : Int) = some (.inr (.inl (k : Int))) := by
          unfold slices_Index_s_int_int_l6
          rw [if_pos (by simp; omega), chk_true (inb_nat hkl), ix_nat hkl, if_pos (by simpa using hx)]
        refine ⟨k, ?_⟩
        rw [loopV_stop st]
        simp [← hx]
      · have st : slices_Index_s_int_int_l6 l x (k : Int) = some (.inl ((k + 1 : Nat) : Int)) := by
          unfold slices_Index_s_int_int_l6
          rw [if_pos (by simp; omega), chk_true (inb_nat hkl), ix_nat hkl, if_neg (by simpa using hx), w64_id (by omega) (by omega)]
          rfl
        obtain ⟨j, hj⟩ := ih (k + 1) (by omega)
        refine ⟨j, ?_⟩
        rw [loopV_next st, hj]
        simp only [List.mem_cons, hx, false_or]
  obtain ⟨j, this⟩ := main l.length 0 (by omega)
  unfold slices_Contains_s_int_int slices_Index_s_int_int
  have this' : loopV (slices_Index_s_int_int_l6 l x) 0 = _ := this
  rw [this', List.drop_zero]
  by_cases h0 : x ∈ l <;> simp [h0]
def mon : Gspan := ⟨0, 1073741824⟩
def pos : Gspan := ⟨1, 1073741824⟩
def non : Gspan := ⟨0, 0⟩
/-- the rule of a kind -/
def ruleL (k : Int) : List Gspan :=
  if k = 1 then [non, ⟨1, 1000000⟩, non, non, non, mon, non, non, non, non, mon]
  else if k = 2 then [non, non, pos, ⟨1, 100⟩, non, non, non, non, non, non, mon]
  else if k = 3 then [⟨1, 1048576⟩, ⟨1, 1000000⟩, non, non, non, non, non, non, non, non, mon]
  else if k = 4 then [non, non, non, non, mon, pos, non, mon, mon, ⟨0, 1000000000⟩, mon]
  else if k = 5 then [non, non, non, non, mon, pos, ⟨1, 8784⟩, mon, mon, non, mon]
  else [non, non, non, non, mon, pos, non, non, non, non, mon]
def leastL (k : Int) : List Int :=
  if k = 1 then [-1, 1, -1, -1, -1, 0, -1, -1, -1, -1]
  else if k = 2 then [-1, -1, 1, 1, -1, -1, -1, -1, -1, -1]
  else if k = 3 then [1, 1, -1, -1, -1, -1, -1, -1, -1, -1]
  else if k = 4 then [-1, -1, -1, -1, 0, 1, -1, 0, 0, 0]
  else if k = 5 then [-1, -1, -1, -1, 0, 1, 1, 0, 0, -1]
  else [-1, -1, -1, -1, 0, 1, -1, -1, -1, -1]
theorem kinds {k : Int} (h : 1 ≤ k ∧ k ≤ 6) : k = 1 ∨ k = 2 ∨ k = 3 ∨ k = 4 ∨ k = 5 ∨ k = 6 := by omega
theorem ruleOf_eq {k : Int} (h : 1 ≤ k ∧ k ≤ 6) : contract_ruleOf k = some (ruleL k) := by
  rcases kinds h with rfl | rfl | rfl | rfl | rfl | rfl <;> rfl
theorem least_eq {k : Int} (h : 1 ≤ k ∧ k ≤ 6) : treatyref20_least k = some (leastL k) := by
  rcases kinds h with rfl | rfl | rfl | rfl | rfl | rfl <;> rfl
theorem ruleL_length (k : Int) : (ruleL k).length = 11 := by unfold ruleL; (repeat' split) <;> rfl
theorem leastL_length (k : Int) : (leastL k).length = 10 := by unfold leastL; (repeat' split) <;> rfl
def vals (t : GTreaty) : List Int := [t.Risk, t.Cession, t.Line, t.Lines, t.Retention, t.Limit, t.Window, t.Deductible, t.Aggregate, t.Base, t.Premium]
def nums (t : GTreaty) : List Int := [t.Risk, t.Cession, t.Line, t.Lines, t.Retention, t.Limit, t.Window, t.Deductible, t.Aggregate, t.Base]
def mosts : List Int := [1048576, 1000000, 1073741824, 100, 1073741824, 1073741824, 8784, 1073741824, 1073741824, 1000000000]
/-- a field that the kind does not have is set -/
def alien (t : GTreaty) (r : List Gspan) : Nat → Bool := fun k => decide ([(ix r (k : Int)).low, (ix r (k : Int)).high] = [0, 0]) && !decide (ix (vals t) (k : Int) = 0)
def wide (t : GTreaty) (r : List Gspan) : Nat → Bool := fun k => !decide ([(ix r (k : Int)).low, (ix r (k : Int)).high] = [0, 0]) && !(decide ((ix r (k : Int)).low ≤ ix (vals t) (k : Int)) && decide (ix (vals t) (k : Int) ≤ (ix r (k : Int)).high))
def restored (t : GTreaty) : Bool := (!(decide (t.Kind = 4) || decide (t.Kind = 5)) && decide (0 < (t.Reinstatements.length : Int))) || (t.Timed && decide ((t.Reinstatements.length : Int) = 0))
def fieldsE (t : GTreaty) : Int := if (List.range 11).any (alien t (ruleL t.Kind)) = true then 20 else if restored t = true then 20 else if (List.range 11).any (wide t (ruleL t.Kind)) = true then 1 else 0
theorem alien_loop {t : GTreaty} {r : List Gspan} (hr : r.length = 11) : loopV (contract_fields_l10 t r) 0 = some (if (List.range 11).any (alien t r) = true then .inl 20 else .inr ()) := by
  refine loop_any _ (fun k hk => ?_) ?_
  · unfold contract_fields_l10
    rw [if_pos (by simp; omega), chk_true (by simp), chk_true (by simp; omega), chk_true (inb_nat (by simpa using hk)), chk_true (inb_nat (by omega)), w64_id (by omega) (by omega)]
    unfold alien vals
    split <;> rfl
  · unfold contract_fields_l10
    rw [if_neg (by simp)]
theorem wide_loop {t : GTreaty} {r : List Gspan} (hr : r.length = 11) : loopV (contract_fields_l42 t r) 0 = some (if (List.range 11).any (wide t r) = true then .inl 1 else .inr ()) := by
  refine loop_any _ (fun k hk => ?_) ?_
  · unfold contract_fields_l42
    rw [if_pos (by simp; omega), chk_true (by simp), chk_true (by simp; omega), chk_true (inb_nat (by simpa using hk)), chk_true (inb_nat (by omega)), chk_true (inb_nat (by omega)), within3, w64_id (by omega) (by omega)]
    unfold wide vals
    cases h : decide ([(ix r (k : Int)).low, (ix r (k : Int)).high] = [0, 0]) <;> simp only [Bool.not_true, Bool.not_false, if_true, Bool.false_eq_true, if_false, Option.bind_some, Bool.true_and, Bool.false_and] <;> first | rfl | (split <;> rfl)
  · unfold contract_fields_l42
    rw [if_neg (by simp)]
theorem fields_eq {t : GTreaty} (hk : 1 ≤ t.Kind ∧ t.Kind ≤ 6) : contract_fields t = some (fieldsE t) := by
  unfold contract_fields
  rw [chk_true (by simp), chk_true (by simp), ruleOf_eq hk, Option.bind_some, chk_true (by simp), chk_true (by simpa using ruleL_length t.Kind), alien_loop (ruleL_length _), wide_loop (ruleL_length _)]
  unfold fieldsE
  cases h1 : (List.range 11).any (alien t (ruleL t.Kind))
  · simp only [Option.bind_some, Sum.elim_inr, Sum.elim_inl, Bool.false_eq_true, if_false]
    have e : restored t = ((((decide (0 < (t.Reinstatements.length : Int))) && (!decide (t.Kind = 4))) && (!decide (t.Kind = 5))) || ((decide ((t.Reinstatements.length : Int) = 0)) && t.Timed)) := by
      unfold restored
      cases decide (t.Kind = 4) <;> cases decide (t.Kind = 5) <;> cases decide (0 < (t.Reinstatements.length : Int)) <;> cases t.Timed <;> cases decide ((t.Reinstatements.length : Int) = 0) <;> rfl
    rw [e]
    cases h2 : (((decide (0 < (t.Reinstatements.length : Int))) && (!decide (t.Kind = 4))) && (!decide (t.Kind = 5)))
    · simp only [Bool.false_eq_true, if_false, Bool.false_or]
      cases h3 : ((decide ((t.Reinstatements.length : Int) = 0)) && t.Timed)
      · simp only [Bool.false_eq_true, if_false]
        cases h4 : (List.range 11).any (wide t (ruleL t.Kind)) <;> rfl
      · rfl
    · rfl
  · rfl
def ralien (t : GTreaty) : Nat → Bool := fun k => decide (ix (leastL t.Kind) (k : Int) < 0) && !decide (ix (nums t) (k : Int) = 0)
def rwide (t : GTreaty) : Nat → Bool := fun k => decide (0 ≤ ix (leastL t.Kind) (k : Int)) && (decide (ix (nums t) (k : Int) < ix (leastL t.Kind) (k : Int)) || decide (ix mosts (k : Int) < ix (nums t) (k : Int)))
theorem ralien_loop {t : GTreaty} : loopV (treatyref20_Validate_l43 (nums t) (leastL t.Kind)) 0 = some (if (List.range 10).any (ralien t) = true then .inl 20 else .inr ()) := by
  have hll := leastL_length t.Kind
  refine loop_any _ (fun k hk => ?_) ?_
  · unfold treatyref20_Validate_l43
    have hn : (nums t).length = 10 := rfl
    rw [if_pos (by simp [hn]; omega), chk_true (inb_nat (by omega)), chk_true (inb_nat (by omega)), w64_id (by omega) (by omega)]
    unfold ralien
    cases h : decide (ix (leastL t.Kind) (k : Int) < 0) <;> simp only [if_true, Bool.false_eq_true, if_false, Option.bind_some, Bool.true_and, Bool.false_and] <;> first | rfl | (split <;> rfl)
  · unfold treatyref20_Validate_l43
    rw [if_neg (by simp [nums])]
theorem rwide_loop {t : GTreaty} : loopV (treatyref20_Validate_l69 (nums t) (leastL t.Kind)) 0 = some (if (List.range 10).any (rwide t) = true then .inl 1 else .inr ()) := by
  have hll := leastL_length t.Kind
  refine loop_any _ (fun k hk => ?_) ?_
  · unfold treatyref20_Validate_l69
    have hn : (nums t).length = 10 := rfl
    have hm : inb [1048576, 1000000, 1073741824, 100, 1073741824, 1073741824, 8784, 1073741824, 1073741824, 1000000000] (k : Int) = true := inb_nat (by simpa using hk)
    rw [if_pos (by simp [hn]; omega)]
    simp only [chk_true (inb_nat (show k < (leastL t.Kind).length by omega)), chk_true (inb_nat (show k < (nums t).length by omega)), chk_true hm]
    rw [w64_id (by omega) (by omega)]
    unfold rwide mosts
    cases h : decide (0 ≤ ix (leastL t.Kind) (k : Int)) <;> simp only [if_true, Bool.false_eq_true, if_false, Option.bind_some, Bool.true_and, Bool.false_and]
    · rfl
    · cases h2 : decide (ix (nums t) (k : Int) < ix (leastL t.Kind) (k : Int)) <;> simp only [if_true, Bool.false_eq_true, if_false, Option.bind_some, Bool.true_or, Bool.false_or] <;> first | rfl | (split <;> rfl)
  · unfold treatyref20_Validate_l69
    rw [if_neg (by simp [nums])]
theorem alien_same {t : GTreaty} (hk : 1 ≤ t.Kind ∧ t.Kind ≤ 6) : (List.range 10).any (ralien t) = (List.range 11).any (alien t (ruleL t.Kind)) := by
  unfold ralien alien
  rcases kinds hk with h | h | h | h | h | h <;> rw [h] <;> simp [List.range, List.range.loop, ix, nums, vals, ruleL, leastL, non, mon, pos]
theorem wide_same {t : GTreaty} (hk : 1 ≤ t.Kind ∧ t.Kind ≤ 6) : (List.range 11).any (wide t (ruleL t.Kind)) = ((List.range 10).any (rwide t) || (decide (t.Premium < 0) || decide (1073741824 < t.Premium))) := by
  unfold rwide wide
  rw [Bool.eq_iff_iff]
  rcases kinds hk with h | h | h | h | h | h <;> rw [h] <;> simp [List.range, List.range.loop, ix, nums, vals, ruleL, leastL, mosts, non, mon, pos] <;> omega
/-- the lists of a treaty are not too long for a machine -/
structure TLen (t : GTreaty) : Prop where
  perils : t.Perils.length ≤ 1000000000
  areas : t.Areas.length ≤ 1000000000
  inures : t.Inures.length ≤ 1000000000
def badR (t : GTreaty) : Nat → Bool := fun k => !(decide (0 ≤ ix t.Reinstatements (k : Int)) && decide (ix t.Reinstatements (k : Int) ≤ 2000000))
def validE (t : GTreaty) : Int :=
  if ¬ (1 ≤ t.ID ∧ t.ID ≤ 1048576) then 1 else if ¬ (1 ≤ t.Kind ∧ t.Kind ≤ 6) then 11
  else if ¬ (0 ≤ t.Period.From ∧ t.Period.From < t.Period.To ∧ t.Period.To ≤ 876600) then 12
  else if scanA 0 15 none t.Perils ≠ 0 then scanA 0 15 none t.Perils
  else if scanA 0 15 none t.Areas ≠ 0 then scanA 0 15 none t.Areas
  else if fieldsE t ≠ 0 then fieldsE t
  else if 8 < t.Reinstatements.length then 4
  else if (List.range t.Reinstatements.length).any (badR t) = true then 1
  else if 12 < t.Inures.length then 4
  else if scanA 1 1048576 none t.Inures ≠ 0 then scanA 1 1048576 none t.Inures
  else if t.ID ∈ t.Inures then 10
  else partsE t.Parts
theorem rein_loop {t : GTreaty} (h : t.Reinstatements.length ≤ 8) : loopV (contract_Validate_l54 t) 0 = some (if (List.range t.Reinstatements.length).any (badR t) = true then .inl 1 else .inr ()) := by
  refine loop_any _ (fun k hk => ?_) ?_
  · unfold contract_Validate_l54
    rw [if_pos (by simp; omega), chk_true (inb_nat hk), within3, Option.bind_some, w64_id (by omega) (by omega)]
    unfold badR
    split <;> rfl
  · unfold contract_Validate_l54
    rw [if_neg (by simp)]
theorem rrein_step (t : GTreaty) (s : Int) : treatyref20_Validate_l99 t s = contract_Validate_l54 t s := by
  unfold treatyref20_Validate_l99 contract_Validate_l54
  rw [within3, Option.bind_some]
  have e : ((decide ((ix t.Reinstatements s) < 0)) || (decide (2000000 < (ix t.Reinstatements s)))) = !(decide (0 ≤ ix t.Reinstatements s) && decide (ix t.Reinstatements s ≤ 2000000)) := by
    rw [Bool.eq_iff_iff]
    simp
  rw [e]
theorem validate_eq {t : GTreaty} (h : TLen t) : contract_Validate t = some (validE t) := by
  unfold contract_Validate validE
  rw [within3, Option.bind_some]
  by_cases h1 : 1 ≤ t.ID ∧ t.ID ≤ 1048576
  rotate_left
  · rw [if_pos (by simp; omega), if_pos h1]
  rw [if_neg (by simp; omega), if_neg (not_not_intro h1), within3, Option.bind_some]
  by_cases h2 : 1 ≤ t.Kind ∧ t.Kind ≤ 6
  rotate_left
  · rw [if_pos (by simp; omega), if_pos h2]
  rw [if_neg (by simp; omega), if_neg (not_not_intro h2)]
  unfold calendar_Valid
  rw [Option.bind_some]
  by_cases h3 : 0 ≤ t.Period.From ∧ t.Period.From < t.Period.To ∧ t.Period.To ≤ 876600
  rotate_left
  · rw [if_pos (by simp; omega), if_pos h3]
  rw [if_neg (by simp; omega), if_neg (not_not_intro h3), asc_eq h.perils, Option.bind_some]
  by_cases h4 : scanA 0 15 none t.Perils = 0
  rotate_left
  · rw [if_pos (by simpa using h4), if_pos h4]
  rw [if_neg (by simpa using h4), if_neg (not_not_intro h4), asc_eq h.areas, Option.bind_some]
  by_cases h5 : scanA 0 15 none t.Areas = 0
  rotate_left
  · rw [if_pos (by simpa using h5), if_pos h5]
  rw [if_neg (by simpa using h5), if_neg (not_not_intro h5), fields_eq h2, Option.bind_some]
  by_cases h6 : fieldsE t = 0
  rotate_left
  · rw [if_pos (by simpa using h6), if_pos h6]
  rw [if_neg (by simpa using h6), if_neg (not_not_intro h6)]
  by_cases h7 : 8 < t.Reinstatements.length
  · rw [if_pos (by simp; omega), if_pos h7]
  rw [if_neg (by simp; omega), if_neg h7, rein_loop (by omega)]
  cases h8 : (List.range t.Reinstatements.length).any (badR t)
  rotate_left
  · rfl
  simp only [Bool.false_eq_true, if_false, Option.bind_some, Sum.elim_inr, Sum.elim_inl]
  by_cases h9 : 12 < t.Inures.length
  · rw [if_pos (by simp; omega), if_pos h9]
  rw [if_neg (by simp; omega), if_neg h9, asc_eq h.inures, Option.bind_some]
  by_cases h10 : scanA 1 1048576 none t.Inures = 0
  rotate_left
  · rw [if_pos (by simpa using h10), if_pos h10]
  rw [if_neg (by simpa using h10), if_neg (not_not_intro h10), contains_eq h.inures, Option.bind_some]
  by_cases h11 : t.ID ∈ t.Inures
  · rw [if_pos (by simpa using h11), if_pos h11]
  rw [if_neg (by simpa using h11), if_neg h11, parts_eq]
  rfl
theorem rvalidate_eq {t : GTreaty} (h : TLen t) : treatyref20_Validate t = some (validE t) := by
  unfold treatyref20_Validate validE
  by_cases h1 : 1 ≤ t.ID ∧ t.ID ≤ 1048576
  rotate_left
  · rw [if_pos (by simp; omega), if_pos h1]
  rw [if_neg (by simp; omega), if_neg (not_not_intro h1)]
  by_cases h2 : 1 ≤ t.Kind ∧ t.Kind ≤ 6
  rotate_left
  · rw [if_pos (by simp; omega), if_pos h2]
  rw [if_neg (by simp; omega), if_neg (not_not_intro h2)]
  unfold treatyref01_PeriodValid
  rw [Option.bind_some]
  by_cases h3 : 0 ≤ t.Period.From ∧ t.Period.From < t.Period.To ∧ t.Period.To ≤ 876600
  rotate_left
  · rw [if_pos (by simp; omega), if_pos h3]
  rw [if_neg (by simp; omega), if_neg (not_not_intro h3), rasc_eq h.perils, Option.bind_some]
  by_cases h4 : scanA 0 15 none t.Perils = 0
  rotate_left
  · rw [if_pos (by simpa using h4), if_pos h4]
  rw [if_neg (by simpa using h4), if_neg (not_not_intro h4), rasc_eq h.areas, Option.bind_some]
  by_cases h5 : scanA 0 15 none t.Areas = 0
  rotate_left
  · rw [if_pos (by simpa using h5), if_pos h5]
  have en : treatyref20_numbers t = some (nums t) := rfl
  rw [if_neg (by simpa using h5), if_neg (not_not_intro h5), en, Option.bind_some, least_eq h2, Option.bind_some, ralien_loop, rwide_loop, alien_same h2]
  unfold fieldsE
  cases ha : (List.range 11).any (alien t (ruleL t.Kind))
  rotate_left
  · rfl
  simp only [Bool.false_eq_true, if_false, Option.bind_some, Sum.elim_inr, Sum.elim_inl]
  have er : (((!((decide (t.Kind = 4)) || (decide (t.Kind = 5)))) && (decide (0 < (t.Reinstatements.length : Int)))) || (t.Timed && (decide ((t.Reinstatements.length : Int) = 0)))) = restored t := rfl
  rw [er]
  cases hr : restored t
  rotate_left
  · rfl
  simp only [Bool.false_eq_true, if_false]
  have hw := wide_same h2
  cases hw1 : (List.range 10).any (rwide t)
  rotate_left
  · rw [hw1, Bool.true_or] at hw
    rw [hw]
    rfl
  rw [hw1, Bool.false_or] at hw
  rw [hw]
  simp only [Bool.false_eq_true, if_false, Option.bind_some, Sum.elim_inr, Sum.elim_inl]
  cases hp : (decide (t.Premium < 0) || decide (1073741824 < t.Premium))
  rotate_left
  · rfl
  simp only [Bool.false_eq_true, if_false, ne_eq, not_true_eq_false]
  by_cases h7 : 8 < t.Reinstatements.length
  · rw [if_pos (by simp; omega), if_pos h7]
  rw [if_neg (by simp; omega), if_neg h7, loopV_congr (rrein_step t), rein_loop (by omega)]
  cases h8 : (List.range t.Reinstatements.length).any (badR t)
  rotate_left
  · rfl
  simp only [Bool.false_eq_true, if_false, Option.bind_some, Sum.elim_inr, Sum.elim_inl]
  by_cases h9 : 12 < t.Inures.length
  · rw [if_pos (by simp; omega), if_pos h9]
  rw [if_neg (by simp; omega), if_neg h9, rasc_eq h.inures, Option.bind_some]
  by_cases h10 : scanA 1 1048576 none t.Inures = 0
  rotate_left
  · rw [if_pos (by simpa using h10), if_pos h10]
  rw [if_neg (by simpa using h10), if_neg (not_not_intro h10), holds_eq h.inures, Option.bind_some]
  by_cases h11 : t.ID ∈ t.Inures
  · rw [if_pos (by simpa using h11), if_pos h11]
  rw [if_neg (by simpa using h11), if_neg h11, rParts_eq]
  rfl
theorem range_ok {d : GDeck} (h : DOk d) {lo hi : Int} (h0 : 0 ≤ lo) (h1 : lo ≤ hi) (h2 : hi ≤ 1000000000000) : ∃ v d', treatymade_Deck_Range d lo hi = some (v, d') ∧ lo ≤ v ∧ v ≤ hi ∧ DOk d' := by
  unfold treatymade_Deck_Range
  rw [w64_id (n := hi - lo) (by omega) (by omega), w64_id (n := hi - lo + 1) (by omega) (by omega)]
  obtain ⟨v, d', e, a, b, k⟩ := next_ok h (n := hi - lo + 1) (by omega) (by omega)
  rw [e, Option.bind_some]
  dsimp only
  rw [w64_id (by omega) (by omega)]
  exact ⟨_, _, rfl, by omega, by omega, k⟩
theorem money_ok {d : GDeck} (h : DOk d) : ∃ v d', treatymade_Deck_Money d = some (v, d') ∧ 0 ≤ v ∧ v ≤ 1073741824 ∧ DOk d' := by
  unfold treatymade_Deck_Money
  obtain ⟨v, d', e, a, b, k⟩ := upto_ok h (n := 1073741824) (by omega) (by omega)
  rw [e, Option.bind_some]
  exact ⟨_, _, rfl, a, b, k⟩
/-- numbers in ascending order -/
def AscI (lo hi : Int) : Option Int → List Int → Prop
  | _, [] => True
  | q, x :: t => (lo ≤ x ∧ x ≤ hi) ∧ (∀ y, q = some y → y < x) ∧ AscI lo hi (some x) t
theorem scanA_ok {lo hi : Int} : ∀ {l : List Int} {q : Option Int}, AscI lo hi q l → scanA lo hi q l = 0
  | [], _, _ => rfl
  | x :: t, q, ⟨h1, h2, h3⟩ => by
    unfold scanA
    rw [if_neg (not_not_intro h1), if_neg, scanA_ok h3]
    cases q with
    | none => simp [behind]
    | some y =>
      have := h2 y rfl
      simp [behind]
      omega
theorem AscI.snoc {lo hi : Int} : ∀ {l : List Int} {q : Option Int} {p : Int}, AscI lo hi q l → (lo ≤ p ∧ p ≤ hi) → (∀ x, q = some x → x < p) → (∀ x ∈ l, x < p) → AscI lo hi q (l ++ [p])
  | [], q, p, _, hp, hq, _ => ⟨hp, hq, trivial⟩
  | x :: t, q, p, ⟨h1, h2, h3⟩, hp, _, hl => ⟨h1, h2, AscI.snoc h3 hp (fun y hy => by cases hy; exact hl x (by simp)) (fun y hy => hl y (List.mem_cons_of_mem _ hy))⟩
theorem subset_ok {d : GDeck} (h : DOk d) : ∃ l d', treatymade_Deck_subset d 0 2 = some (l, d') ∧ DOk d' ∧ l.length ≤ 3 ∧ AscI 0 15 none l := by
  unfold treatymade_Deck_subset
  obtain ⟨v, d1, e1, a1, b1, h1⟩ := next_ok h (n := 2) (by omega) (by omega)
  rw [e1, Option.bind_some]
  dsimp only
  by_cases hv : v = 0
  · rw [if_pos (by simpa using hv)]
    exact ⟨_, _, rfl, h1, by simp, trivial⟩
  rw [if_neg (by simpa using hv)]
  have main : ∀ (m : Nat) (k : Nat) (d : GDeck) (l : List Int), m + k = 3 → DOk d → l.length ≤ k → AscI 0 15 none l → (∀ x ∈ l, x < (k : Int)) → ∃ d' l', loopV (treatymade_Deck_subset_l14 2) (d.L, d.At, l, (k : Int)) = some (d'.L, d'.At, l') ∧ DOk d' ∧ l'.length ≤ 3 ∧ AscI 0 15 none l' := by
    intro m
    induction m with
    | zero =>
      intro k d l hk hd hl ha hb
      have st : treatymade_Deck_subset_l14 2 (d.L, d.At, l, (k : Int)) = some (.inr (d.L, d.At, l)) := by
        unfold treatymade_Deck_subset_l14
        dsimp only
        rw [if_neg (by simp; omega)]
      exact ⟨d, l, loopV_stop st, hd, by omega, ha⟩
    | succ m ih =>
      intro k d l hk hd hl ha hb
      obtain ⟨w, d2, e2, a2, b2, h2⟩ := next_ok hd (n := 3) (by omega) (by omega)
      by_cases hw : 0 < w
      · have st : treatymade_Deck_subset_l14 2 (d.L, d.At, l, (k : Int)) = some (.inl (d2.L, d2.At, l ++ [(k : Int)], ((k + 1 : Nat) : Int))) := by
          unfold treatymade_Deck_subset_l14
          dsimp only
          rw [if_pos (by simp; omega), show GDeck.mk d.L d.At = d from rfl, e2, Option.bind_some]
          dsimp only
          rw [if_pos (by simpa using hw), chk_true (room_of (by simp; omega)), Option.bind_some, w64_id (by omega) (by omega)]
          rfl
        rw [loopV_next st]
        refine ih (k + 1) d2 _ (by omega) h2 (by simp; omega) (ha.snoc ⟨by omega, by omega⟩ (fun x hx => by cases hx) hb) (fun x hx => ?_)
        rcases List.mem_append.1 hx with hx | hx
        · have := hb x hx; omega
        · simp at hx; omega
      · have st : treatymade_Deck_subset_l14 2 (d.L, d.At, l, (k : Int)) = some (.inl (d2.L, d2.At, l, ((k + 1 : Nat) : Int))) := by
          unfold treatymade_Deck_subset_l14
          dsimp only
          rw [if_pos (by simp; omega), show GDeck.mk d.L d.At = d from rfl, e2, Option.bind_some]
          dsimp only
          rw [if_neg (by simpa using hw), Option.bind_some, w64_id (by omega) (by omega)]
          rfl
        rw [loopV_next st]
        exact ih (k + 1) d2 l (by omega) h2 (by omega) ha (fun x hx => by have := hb x hx; omega)
  obtain ⟨d', l', e, hd', hl', ha'⟩ := main 3 0 d1 [] (by omega) h1 (by simp) trivial (by simp)
  have e' : loopV (treatymade_Deck_subset_l14 2) (d1.L, d1.At, [], 0) = some (d'.L, d'.At, l') := e
  rw [e', Option.bind_some]
  exact ⟨_, _, rfl, hd', hl', ha'⟩
/-- what all made treaties have -/
structure TBase (t : GTreaty) (id kind : Int) : Prop where
  hid : t.ID = id
  hkind : t.Kind = kind
  per : 0 ≤ t.Period.From ∧ t.Period.From < t.Period.To ∧ t.Period.To ≤ 876600
  perils : t.Perils.length ≤ 3 ∧ AscI 0 15 none t.Perils
  areas : t.Areas.length ≤ 3 ∧ AscI 0 15 none t.Areas
  prem : 0 ≤ t.Premium ∧ t.Premium ≤ 1073741824
  inu : t.Inures = []
  rein : t.Reinstatements.length ≤ 3 ∧ ∀ x ∈ t.Reinstatements, 0 ≤ x ∧ x ≤ 2000000
  parts : t.Parts.length ≤ 4 ∧ Asc none t.Parts ∧ (shs t.Parts).sum ≤ 1000000
theorem TBase.len {t : GTreaty} {id kind : Int} (h : TBase t id kind) : TLen t := ⟨by have := h.perils.1; omega, by have := h.areas.1; omega, by rw [h.inu]; simp⟩
/-- the fields of a proportional treaty -/
def PropF (t : GTreaty) : Prop :=
  t.Reinstatements = [] ∧ t.Timed = false ∧ t.Retention = 0 ∧ t.Window = 0 ∧ t.Deductible = 0 ∧ t.Aggregate = 0 ∧ t.Base = 0 ∧
  ((t.Kind = 1 ∧ t.Risk = 0 ∧ (1 ≤ t.Cession ∧ t.Cession ≤ 1000000) ∧ t.Line = 0 ∧ t.Lines = 0 ∧ (0 ≤ t.Limit ∧ t.Limit ≤ 1073741824)) ∨
   (t.Kind = 2 ∧ t.Risk = 0 ∧ t.Cession = 0 ∧ (1 ≤ t.Line ∧ t.Line ≤ 1073741824) ∧ (1 ≤ t.Lines ∧ t.Lines ≤ 9) ∧ t.Limit = 0) ∨
   (t.Kind = 3 ∧ (1 ≤ t.Risk ∧ t.Risk ≤ 4) ∧ (1 ≤ t.Cession ∧ t.Cession ≤ 1000000) ∧ t.Line = 0 ∧ t.Lines = 0 ∧ t.Limit = 0))
theorem propF_fields {t : GTreaty} (h : PropF t) (hp : 0 ≤ t.Premium ∧ t.Premium ≤ 1073741824) : fieldsE t = 0 := by
  obtain ⟨h1, h2, h3, h4, h5, h6, h7, h8⟩ := h
  unfold fieldsE restored alien wide
  rw [h1, h2]
  rcases h8 with ⟨k, r, c, l, ls, li⟩ | ⟨k, r, c, l, ls, li⟩ | ⟨k, r, c, l, ls, li⟩ <;> rw [k] <;> simp [List.range, List.range.loop, ix, vals, ruleL, non, mon, pos, *] <;> omega
theorem made_valid {t : GTreaty} {id kind : Int} (hi : 1 ≤ id ∧ id ≤ 9) (h : TBase t id kind) (hk : 1 ≤ kind ∧ kind ≤ 6) (hf : fieldsE t = 0) : validE t = 0 := by
  unfold validE
  have hr := h.rein
  rw [h.hid, h.hkind, if_neg (not_not_intro (by omega)), if_neg (not_not_intro hk), if_neg (not_not_intro h.per), if_neg (not_not_intro (scanA_ok h.perils.2)), if_neg (not_not_intro (scanA_ok h.areas.2)), if_neg (not_not_intro hf), if_neg (by omega), if_neg, h.inu, if_neg (by simp), if_neg (by simp [scanA]), if_neg (by simp), POk.parts ⟨by have := h.parts.1; omega, h.parts.2.1⟩, if_neg (by have := h.parts.2.2; omega)]
  intro hc
  obtain ⟨k, hk1, hk2⟩ := List.any_eq_true.1 hc
  have hk3 := List.mem_range.1 hk1
  unfold badR at hk2
  rw [ix_nat hk3] at hk2
  have := hr.2 _ (List.getElem_mem hk3)
  simp at hk2
  omega
/-- the fields of the other treaties -/
def ExF (t : GTreaty) : Prop :=
  t.Risk = 0 ∧ t.Cession = 0 ∧ t.Line = 0 ∧ t.Lines = 0 ∧ (0 ≤ t.Retention ∧ t.Retention ≤ 1073741824) ∧ (1 ≤ t.Limit ∧ t.Limit ≤ 1073741824) ∧ (t.Reinstatements = [] → t.Timed = false) ∧
  ((t.Kind = 4 ∧ t.Window = 0 ∧ (0 ≤ t.Deductible ∧ t.Deductible ≤ 1073741824) ∧ (0 ≤ t.Aggregate ∧ t.Aggregate ≤ 1073741824) ∧ (0 ≤ t.Base ∧ t.Base ≤ 1000000000)) ∨
   (t.Kind = 5 ∧ (1 ≤ t.Window ∧ t.Window ≤ 30) ∧ (0 ≤ t.Deductible ∧ t.Deductible ≤ 1073741824) ∧ (0 ≤ t.Aggregate ∧ t.Aggregate ≤ 1073741824) ∧ t.Base = 0) ∨
   (t.Kind = 6 ∧ t.Window = 0 ∧ t.Deductible = 0 ∧ t.Aggregate = 0 ∧ t.Base = 0 ∧ t.Reinstatements = []))
theorem exF_fields {t : GTreaty} (h : ExF t) (hp : 0 ≤ t.Premium ∧ t.Premium ≤ 1073741824) : fieldsE t = 0 := by
  obtain ⟨h1, h2, h3, h4, h5, h6, h7, h8⟩ := h
  have hr : restored t = false := by
    unfold restored
    rcases h8 with ⟨k, _⟩ | ⟨k, _⟩ | ⟨k, _, _, _, _, r⟩
    · by_cases r : t.Reinstatements = []
      · simp [k, r, h7 r]
      · have : t.Reinstatements.length ≠ 0 := fun hc => r (List.length_eq_zero_iff.1 hc)
        simp [k]
        intro _
        exact r
    · by_cases r : t.Reinstatements = []
      · simp [k, r, h7 r]
      · simp [k]
        intro _
        exact r
    · simp [k, r, h7 r]
  unfold fieldsE
  rw [hr]
  unfold alien wide
  rcases h8 with ⟨k, a, b, c, d⟩ | ⟨k, a, b, c, d⟩ | ⟨k, a, b, c, d, r⟩ <;> rw [k] <;> simp [List.range, List.range.loop, ix, vals, ruleL, non, mon, pos, *] <;> omega
theorem treatyA_ok {d : GDeck} (h : DOk d) {id kind : Int} (hk : 1 ≤ kind ∧ kind ≤ 6) : ∃ t d', treatymade_Deck_Treaty d id kind = some (t, d') ∧ DOk d' ∧ TBase t id kind ∧ (kind ≤ 3 → PropF t) ∧ (4 ≤ kind → ExF t) := by
  unfold treatymade_Deck_Treaty
  obtain ⟨v1, d1, e1, a1, b1, h1⟩ := next_ok h (n := 10) (by omega) (by omega)
  obtain ⟨v2, d2, e2, a2, b2, h2⟩ := next_ok h1 (n := 60) (by omega) (by omega)
  obtain ⟨l3, d3, e3, h3, a3, b3⟩ := subset_ok h2
  obtain ⟨l4, d4, e4, h4, a4, b4⟩ := subset_ok h3
  obtain ⟨v5, d5, e5, a5, b5, h5⟩ := money_ok h4
  obtain ⟨p6, d6, e6, h6, a6, b6, c6⟩ := partsMade_ok h5
  rw [e1, Option.bind_some]
  dsimp only
  rw [e2, Option.bind_some]
  dsimp only
  rw [e3, Option.bind_some]
  dsimp only
  rw [e4, Option.bind_some]
  dsimp only
  rw [e5, Option.bind_some]
  dsimp only
  rw [e6, Option.bind_some]
  dsimp only
  have ew : w64 (60 + v2) = 60 + v2 := w64_id (by omega) (by omega)
  by_cases k1 : kind = 1
  · subst k1
    obtain ⟨v7, d7, e7, a7, b7, h7⟩ := upto_ok h6 (n := 999999) (by omega) (by omega)
    obtain ⟨v8, d8, e8, a8, b8, h8⟩ := next_ok h7 (n := 2) (by omega) (by omega)
    rw [if_pos (by simp), e7, Option.bind_some]
    dsimp only
    rw [e8, Option.bind_some]
    dsimp only
    have ec : w64 (1 + v7) = 1 + v7 := w64_id (by omega) (by omega)
    by_cases c8 : v8 = 1
    · obtain ⟨v9, d9, e9, a9, b9, h9⟩ := money_ok h8
      rw [if_pos (by simpa using c8), e9, Option.bind_some, Option.bind_some]
      dsimp only
      rw [if_neg (by decide), Option.bind_some]
      dsimp only
      rw [if_neg (by decide), Option.bind_some]
      dsimp only
      rw [if_neg (by decide), Option.bind_some]
      dsimp only
      rw [if_neg (by decide), Option.bind_some, ew, ec]
      refine ⟨_, d9, rfl, h9, ⟨rfl, rfl, ⟨by dsimp only; omega, by dsimp only; omega, by dsimp only; omega⟩, ⟨a3, b3⟩, ⟨a4, b4⟩, ⟨a5, b5⟩, rfl, ⟨by simp, by simp⟩, ⟨a6, b6, c6⟩⟩, fun _ => ?_, fun hc => absurd hc (by omega)⟩
      simp [PropF]
      omega
    · rw [if_neg (by simpa using c8), Option.bind_some]
      dsimp only
      rw [if_neg (by decide), Option.bind_some]
      dsimp only
      rw [if_neg (by decide), Option.bind_some]
      dsimp only
      rw [if_neg (by decide), Option.bind_some]
      dsimp only
      rw [if_neg (by decide), Option.bind_some, ew, ec]
      refine ⟨_, d8, rfl, h8, ⟨rfl, rfl, ⟨by dsimp only; omega, by dsimp only; omega, by dsimp only; omega⟩, ⟨a3, b3⟩, ⟨a4, b4⟩, ⟨a5, b5⟩, rfl, ⟨by simp, by simp⟩, ⟨a6, b6, c6⟩⟩, fun _ => ?_, fun hc => absurd hc (by omega)⟩
      simp [PropF]
      omega
  by_cases k2 : kind = 2
  · subst k2
    obtain ⟨v7, d7, e7, a7, b7, h7⟩ := upto_ok h6 (n := 1073741823) (by omega) (by omega)
    obtain ⟨v8, d8, e8, a8, b8, h8⟩ := range_ok h7 (lo := 1) (hi := 9) (by omega) (by omega) (by omega)
    rw [if_neg (by simp), if_pos (by simp), e7, Option.bind_some]
    dsimp only
    rw [e8, Option.bind_some, Option.bind_some]
    have ec : w64 (1 + v7) = 1 + v7 := w64_id (by omega) (by omega)
    dsimp only
    rw [if_neg (by decide), Option.bind_some]
    dsimp only
    rw [if_neg (by decide), Option.bind_some]
    dsimp only
    rw [if_neg (by decide), Option.bind_some]
    dsimp only
    rw [if_neg (by decide), Option.bind_some, ew, ec]
    refine ⟨_, d8, rfl, h8, ⟨rfl, rfl, ⟨by dsimp only; omega, by dsimp only; omega, by dsimp only; omega⟩, ⟨a3, b3⟩, ⟨a4, b4⟩, ⟨a5, b5⟩, rfl, ⟨by simp, by simp⟩, ⟨a6, b6, c6⟩⟩, fun _ => ?_, fun hc => absurd hc (by omega)⟩
    simp [PropF]
    omega
  by_cases k3 : kind = 3
  · subst k3
    obtain ⟨v7, d7, e7, a7, b7, h7⟩ := range_ok h6 (lo := 1) (hi := 4) (by omega) (by omega) (by omega)
    obtain ⟨v8, d8, e8, a8, b8, h8⟩ := upto_ok h7 (n := 999999) (by omega) (by omega)
    rw [if_neg (by simp), if_neg (by simp), if_pos (by simp), e7, Option.bind_some]
    dsimp only
    rw [e8, Option.bind_some, Option.bind_some]
    have ec : w64 (1 + v8) = 1 + v8 := w64_id (by omega) (by omega)
    dsimp only
    rw [if_neg (by decide), Option.bind_some]
    dsimp only
    rw [if_neg (by decide), Option.bind_some]
    dsimp only
    rw [if_neg (by decide), Option.bind_some]
    dsimp only
    rw [if_neg (by decide), Option.bind_some, ew, ec]
    refine ⟨_, d8, rfl, h8, ⟨rfl, rfl, ⟨by dsimp only; omega, by dsimp only; omega, by dsimp only; omega⟩, ⟨a3, b3⟩, ⟨a4, b4⟩, ⟨a5, b5⟩, rfl, ⟨by simp, by simp⟩, ⟨a6, b6, c6⟩⟩, fun _ => ?_, fun hc => absurd hc (by omega)⟩
    simp [PropF]
    omega
  obtain ⟨v7, d7, e7, a7, b7, h7⟩ := upto_ok h6 (n := 1073741824) (by omega) (by omega)
  obtain ⟨v8, d8, e8, a8, b8, h8⟩ := upto_ok h7 (n := 1073741823) (by omega) (by omega)
  rw [if_neg (by simpa using k1), if_neg (by simpa using k2), if_neg (by simpa using k3), e7, Option.bind_some]
  dsimp only
  rw [e8, Option.bind_some, Option.bind_some]
  dsimp only
  have opt : ∀ {d : GDeck}, DOk d → ∃ (x : Int) (d' : GDeck), ((treatymade_Deck_Next (GDeck.mk d.L d.At) 2).bind fun r13_1 => if (decide (r13_1.1 = 1)) = true then ((treatymade_Deck_Money r13_1.2).bind fun r14_1 => some (r14_1.2.L, r14_1.2.At, r14_1.1)) else (some (r13_1.2.L, r13_1.2.At, 0))) = some (d'.L, d'.At, x) ∧ DOk d' ∧ 0 ≤ x ∧ x ≤ 1073741824 := by
    intro d hd
    obtain ⟨v, d', e, a, b, k⟩ := next_ok hd (n := 2) (by omega) (by omega)
    rw [show GDeck.mk d.L d.At = d from rfl, e, Option.bind_some]
    dsimp only
    by_cases c : v = 1
    · obtain ⟨x, d2, e2, x1, x2, k2⟩ := money_ok k
      rw [if_pos (by simpa using c), e2]
      exact ⟨x, d2, rfl, k2, x1, x2⟩
    · rw [if_neg (by simpa using c)]
      exact ⟨0, d', rfl, k, by omega, by omega⟩
  have hmid : ∃ (x y : Int) (r : List Int) (b : Bool) (d' : GDeck), (if ((decide (kind = 4)) || (decide (kind = 5))) = true then (((treatymade_Deck_Next (GDeck.mk d8.L d8.At) 2).bind fun r13_1 =>
  if (decide (r13_1.1 = 1)) = true then ((treatymade_Deck_Money r13_1.2).bind fun r14_1 =>
  some (r14_1.2.L, r14_1.2.At, r14_1.1)) else (some (r13_1.2.L, r13_1.2.At, 0))).bind fun s30 =>
  ((treatymade_Deck_Next (GDeck.mk s30.1 s30.2.1) 2).bind fun r15_1 =>
  if (decide (r15_1.1 = 1)) = true then ((treatymade_Deck_Money r15_1.2).bind fun r16_1 =>
  some (r16_1.2.L, r16_1.2.At, r16_1.1)) else (some (r15_1.2.L, r15_1.2.At, 0))).bind fun s35 =>
  ((treatymade_Deck_Next (GDeck.mk s35.1 s35.2.1) 4).bind fun r17_1 =>
  loopV treatymade_Deck_Treaty_l44 (r17_1.2.L, r17_1.2.At, [], r17_1.1)).bind fun s40 =>
  if (decide (0 < (s40.2.2.length : Int))) = true then ((treatymade_Deck_Next (GDeck.mk s40.1 s40.2.1) 2).bind fun r21_6 =>
  some (r21_6.2.L, r21_6.2.At, s30.2.2, s35.2.2, s40.2.2, (decide (r21_6.1 = 1)))) else (some (s40.1, s40.2.1, s30.2.2, s35.2.2, s40.2.2, false))) else (some (d8.L, d8.At, 0, 0, [], false))) = some (d'.L, d'.At, x, y, r, b) ∧ DOk d' ∧ r.length ≤ 3 ∧ (∀ z ∈ r, 0 ≤ z ∧ z ≤ 2000000) ∧ (0 ≤ x ∧ x ≤ 1073741824) ∧ (0 ≤ y ∧ y ≤ 1073741824) ∧ (r = [] → b = false) ∧ (kind ≠ 4 → kind ≠ 5 → x = 0 ∧ y = 0 ∧ r = []) := by
    by_cases hc : ((decide (kind = 4)) || (decide (kind = 5))) = true
    · rw [if_pos hc]
      obtain ⟨x, dx, ex, hx, x1, x2⟩ := opt h8
      rw [ex, Option.bind_some]
      dsimp only
      obtain ⟨y, dy, ey, hy, y1, y2⟩ := opt hx
      rw [ey, Option.bind_some]
      dsimp only
      rw [show GDeck.mk dy.L dy.At = dy from rfl]
      obtain ⟨v, dv, ev, av, bv, hv⟩ := next_ok hy (n := 4) (by omega) (by omega)
      rw [ev, Option.bind_some]
      dsimp only
      have hloop : ∀ (m : Nat) (d : GDeck) (l : List Int), DOk d → l.length + m ≤ 3 → (∀ z ∈ l, 0 ≤ z ∧ z ≤ 2000000) → ∃ d' l', loopV treatymade_Deck_Treaty_l44 (d.L, d.At, l, (m : Int)) = some (d'.L, d'.At, l') ∧ DOk d' ∧ l'.length ≤ 3 ∧ ∀ z ∈ l', 0 ≤ z ∧ z ≤ 2000000 := by
        intro m
        induction m with
        | zero =>
          intro d l hd hl hz
          have st : treatymade_Deck_Treaty_l44 (d.L, d.At, l, ((0 : Nat) : Int)) = some (.inr (d.L, d.At, l)) := by
            unfold treatymade_Deck_Treaty_l44
            dsimp only
            rw [if_neg (by simp)]
          exact ⟨d, l, loopV_stop st, hd, by omega, hz⟩
        | succ m ih =>
          intro d l hd hl hz
          obtain ⟨w, d2, e2, a2, b2, h2⟩ := upto_ok hd (n := 2000000) (by omega) (by omega)
          have st : treatymade_Deck_Treaty_l44 (d.L, d.At, l, ((m + 1 : Nat) : Int)) = some (.inl (d2.L, d2.At, l ++ [w], (m : Int))) := by
            unfold treatymade_Deck_Treaty_l44
            dsimp only
            rw [if_pos (by simp), show GDeck.mk d.L d.At = d from rfl, e2, Option.bind_some, chk_true (room_of (by simp; omega)), w64_id (by omega) (by omega)]
            simp
          rw [loopV_next st]
          refine ih d2 _ h2 (by simp; omega) (fun z hz' => ?_)
          rcases List.mem_append.1 hz' with hz' | hz'
          · exact hz z hz'
          · simp at hz'; omega
      obtain ⟨dl, l, el, hdl, hl1, hl2⟩ := hloop v.toNat dv [] hv (by simp; omega) (by simp)
      have ev2 : ((v.toNat : Nat) : Int) = v := by omega
      rw [ev2] at el
      rw [el, Option.bind_some]
      dsimp only
      by_cases hl0 : 0 < (l.length : Int)
      · obtain ⟨u, du, eu, _, _, hu⟩ := next_ok hdl (n := 2) (by omega) (by omega)
        rw [if_pos (by simpa using hl0), show GDeck.mk dl.L dl.At = dl from rfl, eu, Option.bind_some]
        exact ⟨_, _, _, _, du, rfl, hu, hl1, hl2, ⟨x1, x2⟩, ⟨y1, y2⟩, fun hr => by rw [hr] at hl0; simp at hl0, fun n4 n5 => by simp [n4, n5] at hc⟩
      · rw [if_neg (by simpa using hl0)]
        exact ⟨_, _, _, _, dl, rfl, hdl, hl1, hl2, ⟨x1, x2⟩, ⟨y1, y2⟩, fun _ => rfl, fun n4 n5 => by simp [n4, n5] at hc⟩
    · rw [if_neg hc]
      exact ⟨_, _, _, _, d8, rfl, h8, by simp, by simp, by omega, by omega, fun _ => rfl, fun _ _ => ⟨rfl, rfl, rfl⟩⟩
  obtain ⟨x, y, r, b, dm, em, hm, hr1, hr2, hx, hy, hrb, hn45⟩ := hmid
  rw [em, Option.bind_some]
  dsimp only
  have hbase : ∃ (x : Int) (d' : GDeck), ((if (decide (kind = 4)) = true then ((treatymade_Deck_Next (GDeck.mk dm.L dm.At) 2).bind fun r22_4 =>
  some (r22_4.2.L, r22_4.2.At, (decide (r22_4.1 = 1)))) else (some (dm.L, dm.At, false))).bind fun s56 =>
  if s56.2.2 = true then ((treatymade_Deck_Upto (GDeck.mk s56.1 s56.2.1) 1000).bind fun r23_1 =>
  some (r23_1.2.L, r23_1.2.At, (w64 (1 + r23_1.1)))) else (some (s56.1, s56.2.1, 0))) = some (d'.L, d'.At, x) ∧ DOk d' ∧ (0 ≤ x ∧ x ≤ 1000000000) ∧ (kind ≠ 4 → x = 0) := by
    by_cases hc : kind = 4
    · rw [if_pos (by simpa using hc), show GDeck.mk dm.L dm.At = dm from rfl]
      obtain ⟨v, dv, ev, av, bv, hv⟩ := next_ok hm (n := 2) (by omega) (by omega)
      rw [ev, Option.bind_some, Option.bind_some]
      dsimp only
      by_cases c : v = 1
      · rw [if_pos (by simpa using c), show GDeck.mk dv.L dv.At = dv from rfl]
        obtain ⟨w, dw, ew, w1, w2, hw⟩ := upto_ok hv (n := 1000) (by omega) (by omega)
        rw [ew, Option.bind_some, w64_id (by omega) (by omega)]
        exact ⟨_, dw, rfl, hw, by omega, fun h => absurd hc h⟩
      · rw [if_neg (by simpa using c)]
        exact ⟨_, dv, rfl, hv, by omega, fun h => absurd hc h⟩
    · rw [if_neg (by simpa using hc), Option.bind_some]
      exact ⟨0, dm, rfl, hm, by omega, fun _ => rfl⟩
  obtain ⟨z, db, eb, hb, hz, hz4⟩ := hbase
  rw [eb, Option.bind_some]
  dsimp only
  have hwin : ∃ (x : Int) (d' : GDeck), (if (decide (kind = 5)) = true then ((treatymade_Deck_Range (GDeck.mk db.L db.At) 1 30).bind fun r25_1 =>
  some (r25_1.2.L, r25_1.2.At, r25_1.1)) else (some (db.L, db.At, 0))) = some (d'.L, d'.At, x) ∧ DOk d' ∧ (kind = 5 → 1 ≤ x ∧ x ≤ 30) ∧ (kind ≠ 5 → x = 0) := by
    by_cases hc : kind = 5
    · rw [if_pos (by simpa using hc), show GDeck.mk db.L db.At = db from rfl]
      obtain ⟨v, dv, ev, v1, v2, hv⟩ := range_ok hb (lo := 1) (hi := 30) (by omega) (by omega) (by omega)
      rw [ev]
      exact ⟨_, dv, rfl, hv, fun _ => ⟨v1, v2⟩, fun h => absurd hc h⟩
    · rw [if_neg (by simpa using hc)]
      exact ⟨0, db, rfl, hb, fun h => absurd h hc, fun _ => rfl⟩
  obtain ⟨u, du, eu, hu, hu5, hun⟩ := hwin
  rw [eu, Option.bind_some, ew, w64_id (n := 1 + v8) (by omega) (by omega)]
  refine ⟨_, du, rfl, hu, ⟨rfl, rfl, ⟨by dsimp only; omega, by dsimp only; omega, by dsimp only; omega⟩, ⟨a3, b3⟩, ⟨a4, b4⟩, ⟨a5, b5⟩, rfl, ⟨hr1, hr2⟩, ⟨a6, b6, c6⟩⟩, fun h => absurd h (by omega), fun _ => ⟨rfl, rfl, rfl, rfl, by dsimp only; omega, by dsimp only; omega, hrb, ?_⟩⟩
  have hk456 : kind = 4 ∨ kind = 5 ∨ kind = 6 := by omega
  rcases hk456 with k | k | k
  · exact .inl ⟨k, hun (by omega), hx, hy, hz⟩
  · exact .inr (.inl ⟨k, hu5 k, hx, hy, hz4 (by omega)⟩)
  · have h45 := hn45 (by omega) (by omega)
    exact .inr (.inr ⟨k, hun (by omega), h45.1, h45.2.1, hz4 (by omega), h45.2.2⟩)
end Go.Proofs.Ytfekcgnnhjmeiaa.Pl
