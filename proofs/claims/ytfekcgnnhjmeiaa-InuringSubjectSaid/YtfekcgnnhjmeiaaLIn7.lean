/- Inuring (plain): the made treaties are valid together. -/
import Derived.Test.YtfekcgnnhjmeiaaLIn6
namespace Go.Proofs.Ytfekcgnnhjmeiaa.Pl
open Go

/-- a program comes to an end with a result of this kind -/
def Ok {α : Type} (x : Option α) (Q : α → Prop) : Prop := ∃ a, x = some a ∧ Q a
theorem Ok.some {α : Type} {a : α} {Q : α → Prop} (h : Q a) : Ok (some a) Q := ⟨a, rfl, h⟩
theorem Ok.bind {α β : Type} {x : Option α} {f : α → Option β} {P : α → Prop} {Q : β → Prop} (h : Ok x P) (k : ∀ a, P a → Ok (f a) Q) : Ok (x.bind f) Q := by
  obtain ⟨a, rfl, ha⟩ := h
  exact k a ha
theorem Ok.mono {α : Type} {x : Option α} {P Q : α → Prop} (h : Ok x P) (k : ∀ a, P a → Q a) : Ok x Q := by
  obtain ⟨a, e, ha⟩ := h
  exact ⟨a, e, k a ha⟩
theorem Ok.chk {α : Type} {b : Bool} {x : Option α} {Q : α → Prop} (hb : b = true) (h : Ok x Q) : Ok (chk b x) Q := by rw [chk_of hb]; exact h
theorem Ok.ite {α : Type} {c : Prop} [Decidable c] {x y : Option α} {Q : α → Prop} (h1 : c → Ok x Q) (h2 : ¬ c → Ok y Q) : Ok (if c then x else y) Q := by
  by_cases hc : c
  · rw [if_pos hc]; exact h1 hc
  · rw [if_neg hc]; exact h2 hc
theorem Ok.loop {S O : Type} {step : S → Option (S ⊕ O)} (I : S → Prop) (μ : S → Nat) {Q : O → Prop} {s : S} (hs : I s)
    (h : ∀ s, I s → Ok (step s) fun q => match q with | .inl s' => I s' ∧ μ s' < μ s | .inr o => Q o) : Ok (loopV step s) Q := loopV_inv I μ Q h s hs
theorem nextQ {d : GDeck} (h : DOk d) {n : Int} (h1 : 1 ≤ n) (h2 : n ≤ 4611686018427387904) : Ok (treatymade_Deck_Next d n) fun r => 0 ≤ r.1 ∧ r.1 < n ∧ DOk r.2 := by
  obtain ⟨v, d', e, a, b, k⟩ := next_ok h h1 h2
  exact ⟨_, e, a, b, k⟩
theorem smallQ {d : GDeck} (h : DOk d) : Ok (treatymade2_Small d) fun r => 0 ≤ r.1 ∧ r.1 < 268435456 ∧ DOk r.2 := by
  unfold treatymade2_Small
  refine (nextQ h (by omega) (by omega)).bind fun r hr => ?_
  refine Ok.ite (fun _ => ?_) fun _ => ?_
  · refine (nextQ hr.2.2 (n := 4) (by omega) (by omega)).bind fun q hq => .some ⟨hq.1, by omega, hq.2.2⟩
  · refine (Ok.ite (Q := fun _ => True) (fun _ => .some trivial) (fun _ => .some trivial)).bind fun b _ => ?_
    refine Ok.ite (fun _ => ?_) fun _ => ?_
    · refine (nextQ hr.2.2 (n := 1000) (by omega) (by omega)).bind fun q hq => .some ⟨hq.1, by omega, hq.2.2⟩
    · refine (nextQ hr.2.2 (n := 268435456) (by omega) (by omega)).bind fun q hq => .some ⟨hq.1, by omega, hq.2.2⟩
theorem partsQ {d : GDeck} (h : DOk d) : Ok (treatymade_Deck_Parts d) fun r => DOk r.2 ∧ r.1.length ≤ 4 ∧ Asc none r.1 ∧ (shs r.1).sum ≤ 1000000 := by
  obtain ⟨p, d', e, a, b⟩ := partsMade_ok h
  exact ⟨_, e, a, b⟩
theorem treatyQ {d : GDeck} (h : DOk d) {id kind : Int} (hk : 1 ≤ kind ∧ kind ≤ 6) : Ok (treatymade_Deck_Treaty d id kind) fun r => DOk r.2 ∧ TBase r.1 id kind ∧ (kind ≤ 3 → PropF r.1) ∧ (4 ≤ kind → ExF r.1) := by
  obtain ⟨p, d', e, a, b⟩ := treatyA_ok h (id := id) hk
  exact ⟨_, e, a, b⟩
/-- a treaty that is valid -/
structure TOk (t : GTreaty) : Prop where
  id : 1 ≤ t.ID ∧ t.ID ≤ 1048576
  kind : 1 ≤ t.Kind ∧ t.Kind ≤ 6
  per : 0 ≤ t.Period.From ∧ t.Period.From < t.Period.To ∧ t.Period.To ≤ 876600
  perils : t.Perils.length ≤ 3 ∧ AscI 0 15 none t.Perils
  areas : t.Areas.length ≤ 3 ∧ AscI 0 15 none t.Areas
  prem : 0 ≤ t.Premium ∧ t.Premium ≤ 1073741824
  inu : t.Inures.length ≤ 7 ∧ AscI 1 1048576 none t.Inures ∧ ∀ x ∈ t.Inures, x < t.ID
  rein : t.Reinstatements.length ≤ 3 ∧ ∀ x ∈ t.Reinstatements, 0 ≤ x ∧ x ≤ 2000000
  parts : t.Parts.length ≤ 4 ∧ Asc none t.Parts ∧ (shs t.Parts).sum ≤ 1000000
  prop : t.Kind ≤ 3 → PropF t
  ex : 4 ≤ t.Kind → ExF t
theorem TOk.len {t : GTreaty} (h : TOk t) : TLen t := ⟨by have := h.perils.1; omega, by have := h.areas.1; omega, by have := h.inu.1; omega⟩
theorem TOk.valid {t : GTreaty} (h : TOk t) : validE t = 0 := by
  have hf : fieldsE t = 0 := by
    by_cases hk : t.Kind ≤ 3
    · exact propF_fields (h.prop hk) h.prem
    · exact exF_fields (h.ex (by omega)) h.prem
  have hr := h.rein
  unfold validE
  rw [if_neg (not_not_intro h.id), if_neg (not_not_intro h.kind), if_neg (not_not_intro h.per), if_neg (not_not_intro (scanA_ok h.perils.2)), if_neg (not_not_intro (scanA_ok h.areas.2)), if_neg (not_not_intro hf), if_neg (by omega), if_neg, if_neg (by have := h.inu.1; omega), if_neg (not_not_intro (scanA_ok h.inu.2.1)), if_neg (fun hc => by have := h.inu.2.2 _ hc; omega), POk.parts ⟨by have := h.parts.1; omega, h.parts.2.1⟩, if_neg (by have := h.parts.2.2; omega)]
  intro hc
  obtain ⟨k, hk1, hk2⟩ := List.any_eq_true.1 hc
  have hk3 := List.mem_range.1 hk1
  unfold badR at hk2
  rw [ix_nat hk3] at hk2
  have := hr.2 _ (List.getElem_mem hk3)
  simp at hk2
  omega
/-- two treaties, the first one made later, are apart -/
def Sep (a b : GTreaty) : Prop := meetS a b = true → b.ID ∈ a.Inures ∨ (towerS a b = true ∧ b.Retention + b.Limit ≤ a.Retention)
structure MOk (l : List GTreaty) (id : Int) : Prop where
  ok : ∀ i : Nat, i < l.length → TOk (ix l (i : Int))
  asc : ∀ i j : Nat, i < j → j < l.length → (ix l (i : Int)).ID < (ix l (j : Int)).ID
  top : ∀ i : Nat, i < l.length → (ix l (i : Int)).ID ≤ id
  id0 : 0 ≤ id ∧ id ≤ 3 * (l.length : Int)
  below : ∀ i : Nat, i < l.length → ∀ x ∈ (ix l (i : Int)).Inures, ∃ j : Nat, j < i ∧ (ix l (j : Int)).ID = x
  sep : ∀ i j : Nat, j < i → i < l.length → Sep (ix l (i : Int)) (ix l (j : Int))
theorem MOk.nil : MOk [] 0 := ⟨fun i h => by simp at h, fun i j _ h => by simp at h, fun i h => by simp at h, by simp, fun i h => by simp at h, fun i j _ h => by simp at h⟩
theorem ix_app {α : Type} [Inhabited α] {l : List α} {t : α} {k : Nat} (h : k < l.length) : ix (l ++ [t]) (k : Int) = ix l (k : Int) := by
  rw [ix_nat (by simp; omega), ix_nat h, List.getElem_append_left h]
theorem ix_last {α : Type} [Inhabited α] {l : List α} {t : α} : ix (l ++ [t]) (l.length : Int) = t := by
  rw [ix_nat (by simp)]
  simp
theorem MOk.snoc {l : List GTreaty} {id : Int} {t : GTreaty} (h : MOk l id) (hid : id < t.ID) (h3 : t.ID ≤ id + 3) (ht : TOk t) (hb : ∀ x ∈ t.Inures, ∃ j : Nat, j < l.length ∧ (ix l (j : Int)).ID = x) (hs : ∀ j : Nat, j < l.length → Sep t (ix l (j : Int))) : MOk (l ++ [t]) t.ID := by
  have hlen : (l ++ [t]).length = l.length + 1 := by simp
  have hcase : ∀ {i : Nat}, i < (l ++ [t]).length → i < l.length ∨ i = l.length := by intro i hi; omega
  have h0 := h.id0
  refine ⟨fun i hi => ?_, fun i j hij hj => ?_, fun i hi => ?_, by omega, fun i hi x hx => ?_, fun i j hij hi => ?_⟩
  · rcases hcase hi with hc | rfl
    · rw [ix_app hc]; exact h.ok i hc
    · rw [ix_last]; exact ht
  · rcases hcase hj with hc | rfl
    · rw [ix_app hc, ix_app (by omega)]; exact h.asc i j hij hc
    · rw [ix_last, ix_app hij]; have := h.top i hij; omega
  · rcases hcase hi with hc | rfl
    · rw [ix_app hc]; have := h.top i hc; omega
    · rw [ix_last]; omega
  · rcases hcase hi with hc | rfl
    · rw [ix_app hc] at hx
      obtain ⟨j, hj, e⟩ := h.below i hc x hx
      exact ⟨j, hj, by rw [ix_app (by omega)]; exact e⟩
    · rw [ix_last] at hx
      obtain ⟨j, hj, e⟩ := hb x hx
      exact ⟨j, hj, by rw [ix_app hj]; exact e⟩
  · rcases hcase hi with hc | rfl
    · rw [ix_app hc, ix_app (by omega)]; exact h.sep i j hij hc
    · rw [ix_last, ix_app hij]; exact hs j hij
/-! ### another layer of a tower -/
def layer (a : GTreaty) (id ret lim ded agg : Int) (p : List GPart) : GTreaty := GTreaty.mk id a.Kind a.Period a.Perils a.Areas a.Risk a.Cession a.Line a.Lines ret lim a.Window ded agg a.Premium a.Reinstatements a.Timed a.Base a.Inures p
theorem tower_trans {a b : GTreaty} (h : towerS a b = true) (id ret lim ded agg : Int) (p : List GPart) : towerS (layer a id ret lim ded agg p) b = true := h
theorem tower_self {a : GTreaty} (hk : a.Kind = 4 ∨ a.Kind = 5) (id ret lim ded agg : Int) (p : List GPart) : towerS (layer a id ret lim ded agg p) a = true := by
  unfold towerS layer
  rcases hk with h | h <;> simp [h]
theorem MOk.layer {l : List GTreaty} {id : Int} (h : MOk l id) {n : Nat} (hn : n + 1 = l.length) (hk : (ix l (n : Int)).Kind = 4 ∨ (ix l (n : Int)).Kind = 5) {i ret lim ded agg : Int} {p : List GPart} (hi : id < i ∧ i ≤ id + 3) (hl : l.length ≤ 100)
    (hr : (ix l (n : Int)).Retention + (ix l (n : Int)).Limit ≤ ret ∧ ret ≤ 1073741824) (hlim : 1 ≤ lim ∧ lim ≤ 1073741824) (hd : 0 ≤ ded ∧ ded ≤ 1073741824) (ha : 0 ≤ agg ∧ agg ≤ 1073741824) (hp : p.length ≤ 4 ∧ Asc none p ∧ (shs p).sum ≤ 1000000) :
    MOk (l ++ [layer (ix l (n : Int)) i ret lim ded agg p]) i := by
  have o := h.ok n (by omega)
  have h0 := h.id0
  have ht := h.top n (by omega)
  obtain ⟨x1, x2, x3, x4, x5, x6, x7, x8⟩ := o.ex (by omega)
  refine h.snoc (t := Pl.layer (ix l (n : Int)) i ret lim ded agg p) hi.1 hi.2 ⟨⟨by unfold Pl.layer; dsimp only; omega, by unfold Pl.layer; dsimp only; omega⟩, o.kind, o.per, o.perils, o.areas, o.prem, ⟨o.inu.1, o.inu.2.1, fun x hx => ?_⟩, o.rein, hp, fun hc => ?_, fun _ => ?_⟩ (fun x hx => ?_) fun j hj hm => ?_
  · have := o.inu.2.2 x hx
    unfold Pl.layer
    dsimp only
    omega
  · unfold Pl.layer at hc
    dsimp only at hc
    omega
  · refine ⟨x1, x2, x3, x4, ⟨by unfold Pl.layer; dsimp only; omega, hr.2⟩, hlim, x7, ?_⟩
    rcases x8 with ⟨y1, y2, y3, y4, y5⟩ | ⟨y1, y2, y3, y4, y5⟩ | ⟨y1, _⟩
    · exact .inl ⟨y1, y2, hd, ha, y5⟩
    · exact .inr (.inl ⟨y1, y2, hd, ha, y5⟩)
    · omega
  · obtain ⟨j, hj, e⟩ := h.below n (by omega) x hx
    exact ⟨j, by omega, e⟩
  · by_cases c : j = n
    · subst c
      exact .inr ⟨tower_self hk _ _ _ _ _ _, hr.1⟩
    · rcases h.sep n j (by omega) (by omega) hm with hc | ⟨hc, hc2⟩
      · exact .inl hc
      · refine .inr ⟨hc, ?_⟩
        show _ ≤ ret
        omega
end Go.Proofs.Ytfekcgnnhjmeiaa.Pl
