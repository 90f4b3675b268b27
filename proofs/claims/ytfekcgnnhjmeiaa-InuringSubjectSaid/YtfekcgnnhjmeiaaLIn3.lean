/- Inuring (plain): the document's dependence. -/
import Derived.Test.YtfekcgnnhjmeiaaLIn2
namespace Go.Proofs.Ytfekcgnnhjmeiaa.Pl
open Go

theorem edge_iff {ts : List GTreaty} (hu : Uniq ts) {k m : Nat} (hk : k < ts.length) (hm : m < ts.length) : Edge ts k m ↔ (ix ts (m : Int)).ID ∈ (ix ts (k : Int)).Inures := by
  constructor
  · rintro ⟨_, _, id, h1, h2⟩
    rcases idxOf_cases ts id with ⟨h3, _⟩ | ⟨j, _, h3, h4⟩
    · omega
    · have : j = m := by omega
      subst this
      rw [h4]
      exact h1
  · intro h
    exact ⟨hk, hm, _, h, idxOf_id hu hm⟩
theorem ix_cons {α : Type} [Inhabited α] (x : α) (a : List α) (k : Nat) : ix (x :: a) ((k + 1 : Nat) : Int) = ix a (k : Int) := by
  unfold ix
  simp only [Int.toNat_natCast]
  simp
theorem cnt_le : ∀ (a b : List Bool), a.length = b.length → (∀ k : Nat, ix a (k : Int) = true → ix b (k : Int) = true) → a.count true ≤ b.count true ∧ (a.count true = b.count true → a = b)
  | [], [], _, _ => ⟨Nat.le_refl _, fun _ => rfl⟩
  | [], _ :: _, h, _ => by simp at h
  | _ :: _, [], h, _ => by simp at h
  | x :: a, y :: b, h, hk => by
    obtain ⟨h1, h2⟩ := cnt_le a b (by simpa using h) fun k hk1 => by
      have := hk (k + 1)
      rw [ix_cons, ix_cons] at this
      exact this hk1
    have h0 : x = true → y = true := hk 0
    cases x <;> cases y
    · refine ⟨by simpa using h1, fun e => ?_⟩
      rw [h2 (by simpa using e)]
    · refine ⟨by simp only [List.count_cons]; simp; omega, fun e => ?_⟩
      simp only [List.count_cons] at e
      simp at e
      omega
    · exact absurd (h0 rfl) (by decide)
    · refine ⟨by simpa using h1, fun e => ?_⟩
      rw [h2 (by simpa using e)]
/-- one row -/
theorem row_eq {ts : List GTreaty} (hl : ts.length ≤ 1000000) {k : Nat} (hk : k < ts.length) (hi : (ix ts (k : Int)).Inures.length ≤ 1000000000) {on : List Bool} (ho : on.length = ts.length) (z : List Bool) :
    ∃ on', loopV (treatyref25_Depends_l43 ts (z, (k : Int))) (on, 0) = some on' ∧ on'.length = ts.length ∧ ∀ m : Nat, m < ts.length → ix on' (m : Int) = (ix on (m : Int) || decide ((ix ts (m : Int)).ID ∈ (ix ts (k : Int)).Inures)) := by
  obtain ⟨o, h1, h2⟩ := loopV_inv (step := treatyref25_Depends_l43 ts (z, (k : Int)))
    (fun s => ∃ q : Nat, q ≤ ts.length ∧ s.2 = (q : Int) ∧ s.1.length = ts.length ∧ ∀ m : Nat, m < ts.length → ix s.1 (m : Int) = if m < q then (ix on (m : Int) || decide ((ix ts (m : Int)).ID ∈ (ix ts (k : Int)).Inures)) else ix on (m : Int))
    (fun s => ts.length - s.2.toNat) (fun on' => on'.length = ts.length ∧ ∀ m : Nat, m < ts.length → ix on' (m : Int) = (ix on (m : Int) || decide ((ix ts (m : Int)).ID ∈ (ix ts (k : Int)).Inures)))
    (by
      rintro ⟨s, w⟩ ⟨q, hq, rfl, hs, hm⟩
      dsimp only at hs hm
      unfold treatyref25_Depends_l43
      dsimp only
      by_cases hc : q < ts.length
      · rw [if_pos (by simpa using hc), w64_succ (by omega)]
        have hmq := hm q hc
        rw [if_neg (by omega)] at hmq
        have hv : (if (ix s (q : Int)) = true then (chk (inb s (q : Int)) <| some (upd s (q : Int) true)) else (chk (inb s (q : Int)) <| chk (inb ts (k : Int)) <| chk (inb ts (q : Int)) <| (treatyref25_Has (ix ts (k : Int)).Inures (ix ts (q : Int)).ID).bind fun r => some (upd s (q : Int) r))) = some (upd s (q : Int) (ix on (q : Int) || decide ((ix ts (q : Int)).ID ∈ (ix ts (k : Int)).Inures))) := by
          rw [← hmq]
          cases hon : ix s (q : Int) with
          | true => rw [if_pos rfl, chk_true (inb_nat (by omega)), Bool.true_or]
          | false => rw [if_neg (by decide), chk_true (inb_nat (by omega)), chk_true (inb_nat hk), chk_true (inb_nat hc), has_eq hi, Option.bind_some, Bool.false_or]
        rw [hv, Option.bind_some]
        refine ⟨_, rfl, ⟨q + 1, by omega, rfl, by dsimp only; rw [upd_length]; exact hs, fun m hm1 => ?_⟩, by dsimp only; omega⟩
        dsimp only
        rw [ix_upd (by omega)]
        by_cases e : m = q
        · subst e
          rw [if_pos rfl, if_pos (by omega)]
        · rw [if_neg e, hm m hm1]
          by_cases e2 : m < q
          · rw [if_pos e2, if_pos (by omega)]
          · rw [if_neg e2, if_neg (by omega)]
      · rw [if_neg (by simpa using hc)]
        refine ⟨_, rfl, hs, fun m hm1 => ?_⟩
        rw [hm m hm1, if_pos (by omega)]) (on, 0) ⟨0, by omega, rfl, ho, fun m _ => by rw [if_neg (by omega)]⟩
  exact ⟨o, h1, h2.1, h2.2⟩
def Sound (ts : List GTreaty) (i : Nat) (on : List Bool) : Prop := ∀ m : Nat, m < ts.length → ix on (m : Int) = true → Relation.TransGen (Edge ts) i m
def Full (ts : List GTreaty) (i : Nat) (on : List Bool) : Prop := ∀ m : Nat, m < ts.length → Relation.TransGen (Edge ts) i m → ix on (m : Int) = true
/-- one round -/
theorem round_eq {ts : List GTreaty} (hl : ts.length ≤ 1000000) (hu : Uniq ts) (hil : ∀ k : Nat, k < ts.length → (ix ts (k : Int)).Inures.length ≤ 1000000000) {i : Nat} (hi : i < ts.length) {on : List Bool} (ho : on.length = ts.length) (hs : Sound ts i on) :
    ∃ on', loopV (treatyref25_Depends_l25 ts (i : Int)) (on, 0) = some on' ∧ on'.length = ts.length ∧ Sound ts i on' ∧ (∀ m : Nat, m < ts.length → ix on (m : Int) = true → ix on' (m : Int) = true) ∧ ∀ k m : Nat, (k = i ∨ ix on (k : Int) = true) → Edge ts k m → ix on' (m : Int) = true := by
  obtain ⟨o, h1, h2⟩ := loopV_inv (step := treatyref25_Depends_l25 ts (i : Int))
    (fun s => ∃ q : Nat, q ≤ ts.length ∧ s.2 = (q : Int) ∧ s.1.length = ts.length ∧ Sound ts i s.1 ∧ (∀ m : Nat, m < ts.length → ix on (m : Int) = true → ix s.1 (m : Int) = true) ∧ ∀ k m : Nat, k < q → (k = i ∨ ix on (k : Int) = true) → Edge ts k m → ix s.1 (m : Int) = true)
    (fun s => ts.length - s.2.toNat)
    (fun on' => on'.length = ts.length ∧ Sound ts i on' ∧ (∀ m : Nat, m < ts.length → ix on (m : Int) = true → ix on' (m : Int) = true) ∧ ∀ k m : Nat, (k = i ∨ ix on (k : Int) = true) → Edge ts k m → ix on' (m : Int) = true)
    (by
      rintro ⟨s, w⟩ ⟨q, hq, rfl, hsl, hso, hmo, hcl⟩
      dsimp only at hsl hso hmo hcl
      unfold treatyref25_Depends_l25
      dsimp only
      by_cases hc : q < ts.length
      · rw [if_pos (by simpa using hc), w64_succ (by omega)]
        -- whether the row counts
        have hcond : (if (!decide ((q : Int) = (i : Int))) = true then (chk (inb s (q : Int)) <| some (!(ix s (q : Int)))) else (some false)) = some (decide (¬ (q = i ∨ ix s (q : Int) = true))) := by
          by_cases e : q = i
          · subst e; simp
          · have : ¬ (q : Int) = (i : Int) := by omega
            rw [if_pos (by simpa using this), chk_true (inb_nat (by omega))]
            cases ix s (q : Int) <;> simp [e]
        rw [hcond, Option.bind_some]
        by_cases hr : q = i ∨ ix s (q : Int) = true
        · rw [if_neg (by rw [decide_eq_true_eq]; exact not_not_intro hr)]
          obtain ⟨s', e1, e2, e3⟩ := row_eq hl hc (hil q hc) hsl s
          rw [e1, Option.bind_some]
          refine ⟨_, rfl, ⟨q + 1, by omega, rfl, e2, ?_, fun m hm h => ?_, fun k m hk hki hE => ?_⟩, by dsimp only; omega⟩
          · intro m hm h
            dsimp only at h
            rw [e3 m hm, Bool.or_eq_true] at h
            rcases h with h | h
            · exact hso m hm h
            · have hE : Edge ts q m := (edge_iff hu hc hm).2 (by simpa using h)
              rcases hr with rfl | hr
              · exact .single hE
              · exact .tail (hso q hc hr) hE
          · dsimp only
            rw [e3 m hm, hmo m hm h, Bool.true_or]
          · dsimp only
            rw [e3 m hE.2.1]
            by_cases e : k = q
            · subst e
              rw [decide_eq_true ((edge_iff hu hc hE.2.1).1 hE), Bool.or_true]
            · rw [hcl k m (by omega) hki hE, Bool.true_or]
        · rw [if_pos (by rw [decide_eq_true_eq]; exact hr), Option.bind_some]
          refine ⟨_, rfl, ⟨q + 1, by omega, rfl, hsl, hso, hmo, fun k m hk hki hE => ?_⟩, by dsimp only; omega⟩
          by_cases e : k = q
          · subst e
            exact absurd (hki.imp id fun h => hmo k hc h) hr
          · exact hcl k m (by omega) hki hE
      · rw [if_neg (by simpa using hc)]
        exact ⟨_, rfl, hsl, hso, hmo, fun k m hki hE => hcl k m (by have := hE.1; omega) hki hE⟩) (on, 0) ⟨0, by omega, rfl, ho, hs, fun _ _ h => h, fun k m h => by omega⟩
  exact ⟨o, h1, h2⟩
theorem ix_none {a : List Bool} {k : Nat} (h : a.length ≤ k) : ix a (k : Int) = false := by
  unfold ix
  rw [Int.toNat_natCast, List.getD_eq_getElem?_getD, List.getElem?_eq_none h]
  rfl
/-- all rounds -/
theorem rounds_eq {ts : List GTreaty} (hl : ts.length ≤ 1000000) (hu : Uniq ts) (hil : ∀ k : Nat, k < ts.length → (ix ts (k : Int)).Inures.length ≤ 1000000000) {i : Nat} (hi : i < ts.length) :
    ∃ on', loopV (treatyref25_Depends_l14 ts (i : Int)) (List.replicate ts.length false, 0) = some on' ∧ on'.length = ts.length ∧ Sound ts i on' ∧ Full ts i on' := by
  obtain ⟨o, h1, h2⟩ := loopV_inv (step := treatyref25_Depends_l14 ts (i : Int))
    (fun s => ∃ q : Nat, q ≤ ts.length + 1 ∧ s.2 = (q : Int) ∧ s.1.length = ts.length ∧ Sound ts i s.1 ∧ (Full ts i s.1 ∨ q ≤ s.1.count true))
    (fun s => ts.length + 1 - s.2.toNat)
    (fun on' => on'.length = ts.length ∧ Sound ts i on' ∧ Full ts i on')
    (by
      rintro ⟨s, w⟩ ⟨q, hq, rfl, hsl, hso, hf⟩
      dsimp only at hsl hso hf
      unfold treatyref25_Depends_l14
      dsimp only
      by_cases hc : q ≤ ts.length
      · rw [if_pos (by simp; omega), w64_succ (by omega)]
        obtain ⟨s', e1, e2, e3, e4, e5⟩ := round_eq hl hu hil hi hsl hso
        rw [e1, Option.bind_some]
        refine ⟨_, rfl, ⟨q + 1, by omega, rfl, e2, e3, ?_⟩, by dsimp only; omega⟩
        dsimp only
        rcases hf with hf | hf
        · exact .inl fun m hm h => e4 m hm (hf m hm h)
        · obtain ⟨c1, c2⟩ := cnt_le s s' (by omega) fun k hk => by
            by_cases hk2 : k < ts.length
            · exact e4 k hk2 hk
            · rw [ix_none (by omega)] at hk; cases hk
          by_cases ce : s.count true = s'.count true
          · have := c2 ce
            subst this
            refine .inl fun m hm h => ?_
            induction h with
            | single h => exact e5 i _ (.inl rfl) h
            | tail h1 h2 ih => exact e5 _ _ (.inr (ih h2.1)) h2
          · exact .inr (by omega)
      · rw [if_neg (by simp; omega)]
        refine ⟨_, rfl, hsl, hso, ?_⟩
        rcases hf with hf | hf
        · exact hf
        · have := List.count_le_length (a := true) (l := s)
          omega) (List.replicate ts.length false, 0) ⟨0, by omega, rfl, by simp, fun m hm h => by rw [ix_nat (by simpa using hm)] at h; simp at h, .inr (by omega)⟩
  exact ⟨o, h1, h2⟩
open Classical in
theorem rdep_eq {ts : List GTreaty} (hl : ts.length ≤ 1000000) (hu : Uniq ts) (hil : ∀ k : Nat, k < ts.length → (ix ts (k : Int)).Inures.length ≤ 1000000000) {i j : Nat} (hi : i < ts.length) (hj : j < ts.length) :
    treatyref25_Depends ts (i : Int) (j : Int) = some (decide (Relation.TransGen (Edge ts) i j)) := by
  unfold treatyref25_Depends
  rw [if_neg (by simp; omega), chk_true (by simp), chk_true (by simp; omega), Int.toNat_natCast]
  obtain ⟨on, h1, h2, h3, h4⟩ := rounds_eq hl hu hil hi
  rw [h1, Option.bind_some, chk_true (inb_nat (by omega))]
  by_cases hc : Relation.TransGen (Edge ts) i j
  · rw [h4 j hj hc, decide_eq_true hc]
  · rw [decide_eq_false hc]
    cases hb : ix on (j : Int) with
    | false => rfl
    | true => exact absurd (h3 j hj hb) hc
end Go.Proofs.Ytfekcgnnhjmeiaa.Pl
