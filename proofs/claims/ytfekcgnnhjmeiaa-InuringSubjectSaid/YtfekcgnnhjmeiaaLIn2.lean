/- Inuring (plain): the search for cycles. -/
import Derived.Test.YtfekcgnnhjmeiaaLIn1
namespace Go.Proofs.Ytfekcgnnhjmeiaa.Pl
open Go

/-- the treaty i has the treaty j among its Inures -/
def Edge (ts : List GTreaty) (i j : Nat) : Prop := i < ts.length ∧ j < ts.length ∧ ∃ id ∈ (ix ts (i : Int)).Inures, idxOf ts id = (j : Int)
def Cyc (ts : List GTreaty) : Prop := ∃ k, k < ts.length ∧ Relation.TransGen (Edge ts) k k
def Known (ts : List GTreaty) : Prop := ∀ i : Nat, i < ts.length → ∀ id ∈ (ix ts (i : Int)).Inures, 0 ≤ idxOf ts id
def Safe (ts : List GTreaty) (k : Nat) : Prop := Acc (fun b a => Edge ts a b) k
theorem safe_no {ts : List GTreaty} {k : Nat} (h : Safe ts k) : ¬ Relation.TransGen (Edge ts) k k := by
  have main : ∀ a, Safe ts a → ∀ b, Relation.TransGen (Edge ts) a b → ∃ c, Edge ts a c ∧ (c = b ∨ Relation.TransGen (Edge ts) c b) := by
    intro a _ b hb
    induction hb with
    | single h => exact ⟨_, h, .inl rfl⟩
    | tail _ h ih =>
      obtain ⟨c, h1, h2⟩ := ih
      rcases h2 with rfl | h2
      · exact ⟨_, h1, .inr (.single h)⟩
      · exact ⟨_, h1, .inr (.tail h2 h)⟩
  induction h with
  | intro x hx ih =>
    intro hc
    obtain ⟨c, h1, h2⟩ := main x ⟨x, hx⟩ x hc
    rcases h2 with rfl | h2
    · exact ih _ h1 hc
    · exact ih c h1 (.tail h2 h1)
/-! ### lists with one element changed -/
theorem ix_upd {α : Type} [Inhabited α] {l : List α} {i k : Nat} {x : α} (hi : i < l.length) : ix (upd l (i : Int) x) (k : Int) = if k = i then x else ix l (k : Int) := by
  unfold ix upd
  simp only [Int.toNat_natCast, List.getD_eq_getElem?_getD, List.getElem?_set]
  by_cases h : k = i
  · subst h; simp [hi]
  · have : ¬ i = k := fun e => h e.symm
    simp [h, this]
theorem upd_length {α : Type} {l : List α} {i : Int} {x : α} : (upd l i x).length = l.length := by simp [upd]
theorem count_upd0 {l : List Int} {i : Nat} {x : Int} (hi : i < l.length) (h0 : ix l (i : Int) = 0) (hx : x ≠ 0) : (upd l (i : Int) x).count 0 + 1 = l.count 0 := by
  unfold upd
  rw [Int.toNat_natCast, List.count_set hi]
  rw [ix_nat hi] at h0
  have : 0 < l.count 0 := List.count_pos_iff.2 (h0 ▸ List.getElem_mem hi)
  simp [h0, hx]
  omega
theorem count_upd1 {l : List Int} {i : Nat} {x : Int} (hi : i < l.length) (h0 : ix l (i : Int) ≠ 0) (hx : x ≠ 0) : (upd l (i : Int) x).count 0 = l.count 0 := by
  unfold upd
  rw [Int.toNat_natCast, List.count_set hi]
  rw [ix_nat hi] at h0
  simp [h0, hx]
/-! ### more nested calls give the same -/
theorem loopV_mono {S O : Type} {f g : S → Option (S ⊕ O)} (h : ∀ s q, f s = some q → g s = some q) {s : S} {o : O} (hs : loopV f s = some o) : loopV g s = some o := by
  obtain ⟨k, hk⟩ := loopV_some.1 hs
  refine loopV_some.2 ⟨k, ?_⟩
  induction k generalizing s with
  | zero => exact hk.elim
  | succ k ih =>
    obtain ⟨q, h1, h2⟩ := hk
    refine ⟨q, h s q h1, ?_⟩
    cases q with
    | inl s' => exact ih (loopV_some.2 ⟨k, h2⟩) h2
    | inr o' => exact h2
abbrev CF := List GTreaty → Int → List Int → Option (Bool × List Int)
theorem cyc_step_mono {self self' : CF} (hs : ∀ a b c r, self a b c = some r → self' a b c = some r) {ts : List GTreaty} {i : Int} {s : List Int × Int} {q} (h : inuring_cyclic_o_l14 self ts i s = some q) : inuring_cyclic_o_l14 self' ts i s = some q := by
  unfold inuring_cyclic_o_l14 at h ⊢
  by_cases c : (decide (s.2 < ((ix ts i).Inures.length : Int))) = true
  · rw [if_pos c] at h ⊢
    obtain ⟨h1, h⟩ := chk_some h
    rw [chk_of h1]
    obtain ⟨r, hr, h⟩ := bind_some h
    rw [hr, Option.bind_some]
    by_cases c2 : (decide (0 ≤ r)) = true
    · rw [if_pos c2] at h ⊢
      obtain ⟨r2, hr2, h⟩ := bind_some h
      rw [hs _ _ _ _ hr2, Option.bind_some]
      exact h
    · rw [if_neg c2] at h ⊢
      exact h
  · rw [if_neg c] at h ⊢
    exact h
theorem cyc_F_mono {self self' : CF} (hs : ∀ a b c r, self a b c = some r → self' a b c = some r) {ts : List GTreaty} {i : Int} {st : List Int} {r} (h : inuring_cyclic_o_F self ts i st = some r) : inuring_cyclic_o_F self' ts i st = some r := by
  unfold inuring_cyclic_o_F at h ⊢
  obtain ⟨h1, h⟩ := chk_some h
  rw [chk_of h1]
  by_cases c : (!decide (ix st i = 0)) = true
  · rw [if_pos c] at h ⊢
    exact h
  · rw [if_neg c] at h ⊢
    obtain ⟨q, hq, hg⟩ := bind_some h
    obtain ⟨h2, hq⟩ := chk_some hq
    obtain ⟨q', hq', hf⟩ := bind_some hq
    rw [chk_of h2, loopV_mono (fun s q => cyc_step_mono hs) hq', Option.bind_some, hf, Option.bind_some]
    exact hg
theorem cyc_n_mono : ∀ (k : Nat) (ts : List GTreaty) (i : Int) (st : List Int) (r), inuring_cyclic_o_n k ts i st = some r → inuring_cyclic_o_n (k + 1) ts i st = some r
  | 0, _, _, _, _, h => by cases h
  | k + 1, ts, i, st, r, h => cyc_F_mono (fun a b c r => cyc_n_mono k a b c r) h
/-! ### the search -/
structure SOk (ts : List GTreaty) (st : List Int) : Prop where
  len : st.length = ts.length
  vals : ∀ k : Nat, k < ts.length → ix st (k : Int) = 0 ∨ ix st (k : Int) = 1 ∨ ix st (k : Int) = 2
  done : ∀ k : Nat, k < ts.length → ix st (k : Int) = 2 → Safe ts k
structure Went (ts : List GTreaty) (st st' : List Int) : Prop where
  ok : SOk ts st'
  opn : ∀ k : Nat, k < ts.length → (ix st' (k : Int) = 1 ↔ ix st (k : Int) = 1)
  kept : ∀ k : Nat, k < ts.length → ix st (k : Int) = 2 → ix st' (k : Int) = 2
  cnt : st'.count 0 ≤ st.count 0
theorem cyc_n {ts : List GTreaty} (hl : ts.length ≤ 1000000000) (hk : Known ts) (hil : ∀ i : Nat, i < ts.length → (ix ts (i : Int)).Inures.length ≤ 1000000000) : ∀ (m i : Nat) (st : List Int), i < ts.length → SOk ts st → (∀ k : Nat, k < ts.length → ix st (k : Int) = 1 → Relation.TransGen (Edge ts) k i) → st.count 0 < m →
    ∃ b st', inuring_cyclic_o_n m ts (i : Int) st = some (b, st') ∧ (b = true → Cyc ts) ∧ (b = false → Went ts st st' ∧ ix st' (i : Int) = 2) := by
  intro m
  induction m with
  | zero => intro i st _ _ _ h; omega
  | succ m ih =>
    intro i st hi hst hop hm
    have hsl := hst.len
    show ∃ b st', inuring_cyclic_o_F (inuring_cyclic_o_n m) ts (i : Int) st = some (b, st') ∧ _
    unfold inuring_cyclic_o_F
    rw [chk_true (inb_nat (by omega))]
    by_cases c0 : ix st (i : Int) = 0
    · rw [if_neg (by simp [c0]), chk_true (inb_nat hi)]
      have hu := upd_length (l := st) (i := (i : Int)) (x := 1)
      have hc0 := count_upd0 (x := 1) (by omega) c0 (by decide)
      -- the rounds
      obtain ⟨o, ho, hq⟩ := loopV_inv (step := inuring_cyclic_o_l14 (inuring_cyclic_o_n m) ts (i : Int))
        (fun s => ∃ q : Nat, q ≤ (ix ts (i : Int)).Inures.length ∧ s.2 = (q : Int) ∧ Went ts (upd st (i : Int) 1) s.1 ∧ ∀ p : Nat, p < q → ∀ j : Nat, idxOf ts (ix (ix ts (i : Int)).Inures (p : Int)) = (j : Int) → ix s.1 (j : Int) = 2)
        (fun s => (ix ts (i : Int)).Inures.length - s.2.toNat)
        (fun o => match o with | .inl r => r.1 = true ∧ Cyc ts | .inr s => Went ts (upd st (i : Int) 1) s ∧ ∀ j : Nat, Edge ts i j → ix s (j : Int) = 2)
        (by
          rintro ⟨s, z⟩ ⟨q, hq, rfl, hw, hd⟩
          dsimp only at hw hd
          unfold inuring_cyclic_o_l14
          dsimp only
          by_cases hc : q < (ix ts (i : Int)).Inures.length
          · have hIn : ix (ix ts (i : Int)).Inures (q : Int) ∈ (ix ts (i : Int)).Inures := by rw [ix_nat hc]; exact List.getElem_mem hc
            have h0 := hk i hi _ hIn
            rw [if_pos (by simpa using hc), chk_true (inb_nat hc), index_eq hl, Option.bind_some, if_pos (by simpa using h0), w64_succ (by have := hil i hi; omega)]
            rcases idxOf_cases ts (ix (ix ts (i : Int)).Inures (q : Int)) with ⟨h1, _⟩ | ⟨j, hj, h1, _⟩
            · omega
            · have hE : Edge ts i j := ⟨hi, hj, _, hIn, h1⟩
              rw [h1]
              obtain ⟨b, s', e1, e2, e3⟩ := ih j s hj hw.ok (fun k hk1 hk2 => by
                have hk3 := (hw.opn k hk1).1 hk2
                rw [ix_upd (by omega)] at hk3
                by_cases hki : k = i
                · subst hki; exact .single hE
                · rw [if_neg hki] at hk3
                  exact .tail (hop k hk1 hk3) hE) (by have := hw.cnt; omega)
              rw [e1, Option.bind_some]
              dsimp only
              cases b with
              | true => exact ⟨_, rfl, rfl, e2 rfl⟩
              | false =>
                obtain ⟨w2, hj2⟩ := e3 rfl
                refine ⟨_, rfl, ⟨q + 1, by omega, rfl, ⟨w2.ok, fun k hk1 => (w2.opn k hk1).trans (hw.opn k hk1), fun k hk1 h => w2.kept k hk1 (hw.kept k hk1 h), Nat.le_trans w2.cnt hw.cnt⟩, ?_⟩, by dsimp only; omega⟩
                intro p hp j' hj'
                dsimp only
                by_cases hpq : p = q
                · subst hpq
                  have : j' = j := by rw [h1] at hj'; omega
                  subst this
                  exact hj2
                · have hp' := hd p (by omega) j' hj'
                  have hj'l : j' < ts.length := by
                    rcases idxOf_cases ts (ix (ix ts (i : Int)).Inures (p : Int)) with ⟨h9, _⟩ | ⟨j9, hj9, h9, _⟩
                    · omega
                    · omega
                  exact w2.kept j' hj'l hp'
          · rw [if_neg (by simpa using hc)]
            refine ⟨_, rfl, hw, ?_⟩
            rintro j ⟨_, _, id, hid, hij⟩
            obtain ⟨p, hp, rfl⟩ := List.getElem_of_mem hid
            exact hd p (by omega) j (by rw [ix_nat hp]; exact hij))
        (upd st (i : Int) 1, 0) ⟨0, by omega, rfl, ⟨⟨by dsimp only; omega, fun k hk1 => by
          dsimp only
          rw [ix_upd (by omega)]
          split
          · exact .inr (.inl rfl)
          · exact hst.vals k hk1, fun k hk1 h => by
          dsimp only at h
          rw [ix_upd (by omega)] at h
          split at h
          · cases h
          · exact hst.done k hk1 h⟩, fun _ _ => Iff.rfl, fun _ _ h => h, Nat.le_refl _⟩, fun p hp => by omega⟩
      rw [ho]
      cases o with
      | inl r =>
        obtain ⟨r1, r2⟩ := r
        obtain ⟨hr1, hr2⟩ := hq
        dsimp only at hr1
        subst hr1
        exact ⟨true, r2, rfl, fun _ => hr2, fun h => by cases h⟩
      | inr s =>
        obtain ⟨hw, hd⟩ := hq
        have hs := hw.ok.len
        have hs1 : ix s (i : Int) = 1 := (hw.opn i hi).2 (by rw [ix_upd (by omega), if_pos rfl])
        simp only [Option.bind_some, Sum.elim_inl, Sum.elim_inr]
        rw [chk_true (inb_nat (by omega))]
        have safe : Safe ts i := ⟨i, fun j hj => hw.ok.done j hj.2.1 (hd j hj)⟩
        refine ⟨false, _, rfl, (fun h => by cases h), fun _ => ⟨⟨⟨by rw [upd_length]; exact hs, fun k hk1 => ?_, fun k hk1 h => ?_⟩, fun k hk1 => ?_, fun k hk1 h => ?_, ?_⟩, ?_⟩⟩
        · rw [ix_upd (by omega)]
          split
          · exact .inr (.inr rfl)
          · exact hw.ok.vals k hk1
        · rw [ix_upd (by omega)] at h
          split at h
          · rename_i e; subst e; exact safe
          · exact hw.ok.done k hk1 h
        · rw [ix_upd (by omega)]
          by_cases e : k = i
          · subst e
            rw [if_pos rfl, c0]
            constructor <;> intro h <;> omega
          · rw [if_neg e, hw.opn k hk1, ix_upd (by omega), if_neg e]
        · rw [ix_upd (by omega)]
          by_cases e : k = i
          · rw [if_pos e]
          · rw [if_neg e]
            exact hw.kept k hk1 (by rw [ix_upd (by omega), if_neg e]; exact h)
        · rw [count_upd1 (by omega) (by omega) (by decide)]
          have := hw.cnt
          omega
        · rw [ix_upd (by omega), if_pos rfl]
    · rw [if_pos (by simpa using c0)]
      refine ⟨_, _, rfl, fun h => ?_, fun h => ?_⟩
      · have h1 : ix st (i : Int) = 1 := by simpa using h
        exact ⟨i, hi, hop i hi h1⟩
      · have h1 : ¬ ix st (i : Int) = 1 := by simpa using h
        have h2 : ix st (i : Int) = 2 := (((hst.vals i hi).resolve_left c0).resolve_left h1)
        exact ⟨⟨hst, fun _ _ => Iff.rfl, fun _ _ h => h, Nat.le_refl _⟩, h2⟩
theorem cyc_eq {ts : List GTreaty} (hl : ts.length ≤ 1000000000) (hk : Known ts) (hil : ∀ i : Nat, i < ts.length → (ix ts (i : Int)).Inures.length ≤ 1000000000) {i : Nat} {st : List Int} (hi : i < ts.length) (hst : SOk ts st) (hop : ∀ k : Nat, k < ts.length → ix st (k : Int) ≠ 1) :
    ∃ b st', inuring_cyclic_o ts (i : Int) st = some (b, st') ∧ (b = true → Cyc ts) ∧ (b = false → Went ts st st' ∧ ix st' (i : Int) = 2) := by
  obtain ⟨b, st', h1, h2⟩ := cyc_n hl hk hil (st.count 0 + 1) i st hi hst (fun k hk1 h => absurd h (hop k hk1)) (by omega)
  exact ⟨b, st', recV_of (fun k r => cyc_n_mono k ts i st r) h1, h2⟩
/-- the loop over all treaties -/
theorem cyc_loop {ts : List GTreaty} (hl : ts.length ≤ 1000000000) (hk : Known ts) (hil : ∀ i : Nat, i < ts.length → (ix ts (i : Int)).Inures.length ≤ 1000000000) :
    (Cyc ts ∧ loopV (inuring_Validate_l76 ts) (List.replicate ts.length 0, 0) = some (.inl 10)) ∨ ((∀ k, k < ts.length → Safe ts k) ∧ loopV (inuring_Validate_l76 ts) (List.replicate ts.length 0, 0) = some (.inr ())) := by
  obtain ⟨o, ho, hq⟩ := loopV_inv (step := inuring_Validate_l76 ts)
    (fun s => ∃ q : Nat, q ≤ ts.length ∧ s.2 = (q : Int) ∧ SOk ts s.1 ∧ (∀ k : Nat, k < ts.length → ix s.1 (k : Int) ≠ 1) ∧ ∀ k : Nat, k < q → ix s.1 (k : Int) = 2)
    (fun s => ts.length - s.2.toNat)
    (fun o => (o = .inl 10 ∧ Cyc ts) ∨ (o = .inr () ∧ ∀ k, k < ts.length → Safe ts k))
    (by
      rintro ⟨s, z⟩ ⟨q, hq, rfl, hs, hop, hd⟩
      dsimp only at hs hop hd
      unfold inuring_Validate_l76
      dsimp only
      by_cases hc : q < ts.length
      · rw [if_pos (by simpa using hc), w64_succ (by omega)]
        obtain ⟨b, s', e1, e2, e3⟩ := cyc_eq hl hk hil hc hs hop
        rw [e1, Option.bind_some]
        dsimp only
        cases b with
        | true => exact ⟨_, rfl, .inl ⟨rfl, e2 rfl⟩⟩
        | false =>
          obtain ⟨w, hw⟩ := e3 rfl
          refine ⟨_, rfl, ⟨q + 1, by omega, rfl, w.ok, fun k hk1 h => hop k hk1 ((w.opn k hk1).1 h), fun k hk1 => ?_⟩, by dsimp only; omega⟩
          by_cases e : k = q
          · subst e; exact hw
          · exact w.kept k (by omega) (hd k (by omega))
      · rw [if_neg (by simpa using hc)]
        exact ⟨_, rfl, .inr ⟨rfl, fun k hk1 => hs.done k hk1 (hd k (by omega))⟩⟩)
    (List.replicate ts.length 0, 0) ⟨0, by omega, rfl, ⟨by simp, fun k hk1 => .inl (by rw [ix_nat (by simpa using hk1)]; simp), fun k hk1 h => by rw [ix_nat (by simpa using hk1)] at h; simp at h⟩, fun k hk1 => by rw [ix_nat (by simpa using hk1)]; simp, fun k h => by omega⟩
  rcases hq with ⟨rfl, h⟩ | ⟨rfl, h⟩
  · exact .inl ⟨h, ho⟩
  · exact .inr ⟨h, ho⟩
end Go.Proofs.Ytfekcgnnhjmeiaa.Pl
