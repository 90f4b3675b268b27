/- Inuring (plain): on which treaties a treaty depends; treaties of which one is changed; the example. -/
import Derived.Test.YtfekcgnnhjmeiaaLIn9
namespace Go.Proofs.Ytfekcgnnhjmeiaa.Pl
open Go

theorem del_get {m : List (Int × List Int)} (x : Int) : (mget m x [] = [] ∧ mdel m x = m) ∨ ∃ p ∈ m, p.1 = x ∧ mget m x [] = p.2 ∧ (mdel m x).length + 1 = m.length ∧ ∀ q ∈ mdel m x, q ∈ m := by
  induction m with
  | nil => exact .inl ⟨rfl, rfl⟩
  | cons p m ih =>
    by_cases h : p.1 = x
    · refine .inr ⟨p, by simp, h, by simp [mget, h], by simp [mdel, h], fun q hq => ?_⟩
      simp only [mdel, h, if_true] at hq
      exact List.mem_cons_of_mem _ hq
    · rcases ih with ⟨h1, h2⟩ | ⟨q, h1, h2, h3, h4, h5⟩
      · exact .inl ⟨by simp [mget, h, h1], by simp [mdel, h, h2]⟩
      · refine .inr ⟨q, List.mem_cons_of_mem _ h1, h2, by simp [mget, h, h3], by simp [mdel, h]; omega, fun r hr => ?_⟩
        simp only [mdel, h, if_false] at hr
        rcases List.mem_cons.1 hr with rfl | hr
        · simp
        · exact List.mem_cons_of_mem _ (h5 r hr)
theorem mhas_no {m : List (Int × List Int)} {x : Int} (h : ∀ p ∈ m, p.1 ≠ x) : mhas m x = false ∧ ∀ v, mset m x v = m ++ [(x, v)] := by
  induction m with
  | nil => exact ⟨rfl, fun v => rfl⟩
  | cons p m ih =>
    have hp := h p (by simp)
    obtain ⟨h1, h2⟩ := ih fun q hq => h q (List.mem_cons_of_mem _ hq)
    exact ⟨by simp [mhas, hp, h1], fun v => by simp [mset, hp, h2]⟩
abbrev Mp := List (Int × List Int)
def Ent (ts : List GTreaty) (n : Nat) (m : Mp) : Prop := ∀ p ∈ m, ∃ k : Nat, k < n ∧ p = ((ix ts (k : Int)).ID, [(k : Int)])
theorem dep_map {ts : List GTreaty} (hl : ts.length ≤ 1000000) (hu : Uniq ts) : Ok (loopV (inuring_Depends_l14 ts) ([], 0)) fun m => m.length ≤ ts.length ∧ Ent ts ts.length m := by
  refine Ok.loop (fun s : Mp × Int => ∃ q : Nat, q ≤ ts.length ∧ s.2 = (q : Int) ∧ s.1.length ≤ q ∧ Ent ts q s.1) (fun s => ts.length - s.2.toNat) ⟨0, by omega, rfl, by simp, fun p hp => by cases hp⟩ ?_
  rintro ⟨m, _⟩ ⟨q, hq, e, hm, hE⟩
  dsimp only at e hm hE
  subst e
  unfold inuring_Depends_l14
  dsimp only
  refine Ok.ite (fun hc => ?_) fun hc => ?_
  · have hc' : q < ts.length := by simpa using hc
    obtain ⟨h1, h2⟩ := mhas_no (m := m) (x := (ix ts (q : Int)).ID) fun p hp hx => by
      obtain ⟨k, hk, rfl⟩ := hE p hp
      have := hu k q (by omega) hc' hx
      omega
    refine Ok.chk (inb_nat hc') (Ok.chk (by rw [h1]; rfl) (Ok.chk (room_of (by simp)) (.some ⟨⟨q + 1, by omega, w64_succ (by omega), ?_, ?_⟩, ?_⟩)))
    · dsimp only
      rw [h2, List.length_append]
      simp
      omega
    · dsimp only
      rw [h2]
      intro p hp
      rcases List.mem_append.1 hp with hp | hp
      · obtain ⟨k, hk, e⟩ := hE p hp
        exact ⟨k, by omega, e⟩
      · exact ⟨q, by omega, List.mem_singleton.1 hp⟩
    · dsimp only
      rw [w64_succ (by omega)]
      omega
  · have : q = ts.length := by
      have : ¬ (q : Int) < ts.length := by simpa using hc
      omega
    subst this
    exact .some ⟨hm, hE⟩
def Reach (ts : List GTreaty) (i : Nat) (l : List Int) : Prop := ∀ x ∈ l, ∃ k : Nat, k < ts.length ∧ x = (k : Int) ∧ (k = i ∨ Relation.TransGen (Edge ts) i k)
theorem dep_row {ts : List GTreaty} (hu : Uniq ts) (ht : TsLen ts) {i j p : Nat} (hj : j < ts.length) (hp : p < ts.length) (hr : p = i ∨ Relation.TransGen (Edge ts) i p) (s30 : Mp × List Int) (hlast : ix s30.2 (w64 ((s30.2.length : Int) - 1)) = (p : Int)) {m : Mp} {st : List Int} (hsz : st.length + m.length ≤ 10000000) (hE : Ent ts ts.length m) (hR : Reach ts i st) :
    Ok (loopV (inuring_Depends_l46 ts (j : Int) s30) (m, st, 0)) fun o => match o with | .inl b => b = true ∧ Edge ts p j | .inr s => s.2.length + s.1.length ≤ st.length + m.length ∧ Ent ts ts.length s.1 ∧ Reach ts i s.2 ∧ ¬ Edge ts p j := by
  refine Ok.loop (fun s : Mp × List Int × Int => ∃ q : Nat, q ≤ (ix ts (p : Int)).Inures.length ∧ s.2.2 = (q : Int) ∧ s.2.1.length + s.1.length ≤ st.length + m.length ∧ Ent ts ts.length s.1 ∧ Reach ts i s.2.1 ∧ ∀ k : Nat, k < q → ix (ix ts (p : Int)).Inures (k : Int) ≠ (ix ts (j : Int)).ID) (fun s => (ix ts (p : Int)).Inures.length - s.2.2.toNat) ⟨0, by omega, rfl, Nat.le_refl _, hE, hR, fun k hk => by omega⟩ ?_
  rintro ⟨m', st', _⟩ ⟨q, hq, e, hs, hE', hR', hno⟩
  dsimp only at e hs hE' hR'
  subst e
  have hlen := (ht p hp).3
  unfold inuring_Depends_l46
  rw [hlast]
  dsimp only
  refine Ok.ite (fun hc => ?_) fun hc => ?_
  · have hc' : q < (ix ts (p : Int)).Inures.length := by simpa using hc
    refine Ok.chk (inb_nat hc') (Ok.chk (inb_nat hj) (Ok.ite (fun h1 => .some ⟨rfl, ?_⟩) fun h1 => ?_))
    · have h1' : ix (ix ts (p : Int)).Inures (q : Int) = (ix ts (j : Int)).ID := by simpa using h1
      rw [edge_iff hu hp hj, ← h1', ix_nat hc']
      exact List.getElem_mem hc'
    · have h1' : ¬ ix (ix ts (p : Int)).Inures (q : Int) = (ix ts (j : Int)).ID := by simpa using h1
      have hnew : Ent ts ts.length (mdel m' (ix (ix ts (p : Int)).Inures (q : Int))) ∧ Reach ts i (st' ++ mget m' (ix (ix ts (p : Int)).Inures (q : Int)) []) ∧ (st' ++ mget m' (ix (ix ts (p : Int)).Inures (q : Int)) []).length + (mdel m' (ix (ix ts (p : Int)).Inures (q : Int))).length ≤ st.length + m.length := by
        rcases del_get (m := m') (ix (ix ts (p : Int)).Inures (q : Int)) with ⟨e1, e2⟩ | ⟨r, hr1, hr2, hr3, hr4, hr5⟩
        · rw [e1, e2, List.append_nil]
          exact ⟨hE', hR', hs⟩
        · rw [hr3]
          obtain ⟨k, hk, e⟩ := hE' r hr1
          have e1 : r.2 = [(k : Int)] := by rw [e]
          have e2 : r.1 = (ix ts (k : Int)).ID := by rw [e]
          have hed : Edge ts p k := by
            rw [edge_iff hu hp hk, ← e2, hr2, ix_nat hc']
            exact List.getElem_mem hc'
          refine ⟨fun x hx => hE' x (hr5 x hx), fun x hx => ?_, by rw [e1]; simp; omega⟩
          rcases List.mem_append.1 hx with hx | hx
          · exact hR' x hx
          · rw [e1] at hx
            refine ⟨k, hk, List.mem_singleton.1 hx, .inr ?_⟩
            rcases hr with rfl | hr
            · exact .single hed
            · exact .tail hr hed
      refine Ok.chk (room_of (by omega)) (.some ⟨⟨q + 1, by omega, w64_succ (by omega), hnew.2.2, hnew.1, hnew.2.1, fun k hk => ?_⟩, ?_⟩)
      · by_cases c : k = q
        · subst c; exact h1'
        · exact hno k (by omega)
      · dsimp only
        rw [w64_succ (by omega)]
        omega
  · have hq' : q = (ix ts (p : Int)).Inures.length := by
      have : ¬ (q : Int) < (ix ts (p : Int)).Inures.length := by simpa using hc
      omega
    refine .some ⟨hs, hE', hR', fun he => ?_⟩
    rw [edge_iff hu hp hj] at he
    obtain ⟨k, hk, e⟩ := List.getElem_of_mem he
    exact hno k (by omega) (by rw [ix_nat hk]; exact e)
theorem scanQ {O R : Type} {l : Option (O ⊕ Unit)} {Q : O ⊕ Unit → Prop} (h : Ok l Q) {K : Option R} {J : O → Option R} {Q' : R → Prop} (h1 : Q (.inr ()) → Ok K Q') (h2 : ∀ t, Q (.inl t) → Ok (J t) Q') : Ok ((l.bind fun q => (Sum.elim (fun t => some (.inr t)) (fun t => some (.inl t))) q : Option (Unit ⊕ O)).bind fun q => (Sum.elim (fun _ => K) (fun t => J t)) q) Q' := by
  obtain ⟨a, rfl, ha⟩ := h
  cases a with
  | inl t => exact h2 t ha
  | inr u => exact h1 ha
theorem dep_ok {ts : List GTreaty} (hl : ts.length ≤ 1000000) (hu : Uniq ts) (ht : TsLen ts) {i j : Nat} (hi : i < ts.length) (hj : j < ts.length) : Ok (inuring_Depends ts (i : Int) (j : Int)) fun b => (b = true → Relation.TransGen (Edge ts) i j) ∧ (Edge ts i j → b = true) := by
  unfold inuring_Depends
  refine Ok.ite (fun hc => absurd hc (by simp; omega)) fun _ => ?_
  refine (dep_map hl hu).bind fun m hm => ?_
  have hloop : Ok (loopV (inuring_Depends_l30 ts (j : Int)) (m, [(i : Int)])) fun o => match o with | .inl b => b = true ∧ Relation.TransGen (Edge ts) i j | .inr _ => ¬ Edge ts i j := by
    refine Ok.loop (fun s : Mp × List Int => Ent ts ts.length s.1 ∧ Reach ts i s.2 ∧ s.2.length + s.1.length ≤ 2000000 ∧ (s.2 = [(i : Int)] ∨ ¬ Edge ts i j)) (fun s => s.2.length + s.1.length) ⟨hm.2, fun x hx => ⟨i, hi, List.mem_singleton.1 hx, .inl rfl⟩, by have := hm.1; simp; omega, .inl rfl⟩ ?_
    rintro ⟨m, st⟩ ⟨hE, hR, hsz, hor⟩
    dsimp only at hE hR hsz hor
    unfold inuring_Depends_l30
    dsimp only
    refine Ok.ite (fun hc => ?_) fun hc => ?_
    · have hc' : 0 < st.length := by simpa using hc
      obtain ⟨q, hq⟩ : ∃ q, q + 1 = st.length := ⟨st.length - 1, by omega⟩
      have ew : w64 ((st.length : Int) - 1) = (q : Int) := by rw [w64_id (by omega) (by omega)]; omega
      obtain ⟨p, hp, e1, hr⟩ := hR (ix st (q : Int)) (by rw [ix_nat (by omega)]; exact List.getElem_mem _)
      refine Ok.bind (P := fun o => match o with | .inr b => b = true ∧ Relation.TransGen (Edge ts) i j | .inl s => Ent ts ts.length s.1 ∧ Reach ts i s.2 ∧ s.2.length + s.1.length + 1 ≤ st.length + m.length ∧ ¬ Edge ts i j) ?_ fun o ho => ?_
      · have hrow := dep_row hu ht hj hp hr (m, st) (by dsimp only; rw [ew]; exact e1) (m := m) (st := st.take q) (by rw [List.length_take]; omega) hE (fun x hx => hR x (List.mem_of_mem_take hx))
        rw [ew, e1]
        refine Ok.chk (inb_nat (by omega)) (Ok.chk (by simp) (Ok.chk (by rw [decide_eq_true_eq]; omega) (Ok.chk (inb_nat hp) ?_)))
        rw [Int.toNat_natCast]
        refine hrow.bind fun o ho => ?_
        cases o with
        | inl b =>
          refine .some ⟨ho.1, ?_⟩
          rcases hr with rfl | hr
          · exact .single ho.2
          · exact .tail hr ho.2
        | inr s =>
          refine .some ⟨ho.2.1, ho.2.2.1, by have := ho.1; rw [List.length_take] at this; omega, ?_⟩
          rcases hor with hor | hor
          · have : p = i := by
              have h1 : q = 0 := by rw [hor] at hq; simpa using hq
              have h2 : ix st (q : Int) = (i : Int) := by rw [h1, hor]; rfl
              omega
            rw [← this]
            exact ho.2.2.2
          · exact hor
      · cases o with
        | inl s => exact .some ⟨⟨ho.1, ho.2.1, by dsimp only; omega, .inr ho.2.2.2⟩, by dsimp only; omega⟩
        | inr b => exact .some ho
    · refine .some ?_
      rcases hor with hor | hor
      · rw [hor] at hc; exact absurd hc (by simp)
      · exact hor
  refine scanQ hloop (fun h => .some ⟨fun h => (by cases h), fun he => absurd he h⟩) fun b hb => .some ⟨fun _ => hb.2, fun _ => hb.1⟩
end Go.Proofs.Ytfekcgnnhjmeiaa.Pl
