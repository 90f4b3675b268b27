/- The law AggregateTotal (plain). -/
import Derived.Test.YtoodneljjhbfhaaLAggM
namespace Go.Proofs.Ytoodneljjhbfhaa.Pl
open Go

/-! ### an order of all indices -/
theorem order_step {o : List Int} {i j : Nat} (hi : i < o.length) (hj : j ≤ i) (hp : (o.take i).Perm ((List.range i).map Int.ofNat)) : (((o.set i (o[j]'(by omega))).set j (i : Int)).take (i + 1)).Perm ((List.range (i + 1)).map Int.ofNat) := by
  have e : ((o.set i (o[j]'(by omega))).set j (i : Int)).take (i + 1) = ((o.take i ++ [o[j]'(by omega)]).set j (i : Int)) := by
    rw [List.take_set, List.take_set]
    congr 1
    rw [List.take_succ_eq_append_getElem hi, List.set_append_right _ _ (by simp; omega)]
    have : i - (o.take i).length = 0 := by simp; omega
    rw [this]
    rfl
  rw [e, List.range_succ, List.map_append]
  refine List.Perm.trans ?_ (hp.append_right _)
  rcases Nat.lt_or_eq_of_le hj with h | h
  · rw [List.set_append_left _ _ (by simp; omega)]
    have hjt : j < (o.take i).length := by simp; omega
    have e2 : o[j]'(by omega) = (o.take i)[j] := by simp
    rw [e2]
    generalize o.take i = t at hjt
    have e3 : t = t.take j ++ t[j] :: t.drop (j + 1) := by rw [← List.drop_eq_getElem_cons hjt, List.take_append_drop]
    have e4 : t.set j (i : Int) = t.take j ++ (i : Int) :: t.drop (j + 1) := by
      rw [List.set_eq_take_append_cons_drop, if_pos hjt]
    rw [e4]
    conv => rhs; rw [e3]
    simp only [List.append_assoc, List.cons_append, List.map_cons, List.map_nil]
    refine List.Perm.append_left _ ?_
    refine List.Perm.trans (List.Perm.cons _ List.perm_append_comm) ?_
    refine List.Perm.trans ?_ (List.Perm.cons _ List.perm_append_comm.symm)
    exact List.Perm.swap _ _ _
  · subst h
    rw [List.set_append_right _ _ (by simp; omega)]
    have : j - (o.take j).length = 0 := by simp; omega
    rw [this]
    exact List.Perm.refl _
theorem orderLoop {n : Nat} (hn : n ≤ 1000) : ∀ (k i : Nat) (d : GDeck) (o : List Int), i + k = n → DOk d → o.length = n → (o.take i).Perm ((List.range i).map Int.ofNat) →
    ∃ (d' : GDeck) (r : List Int), loopV (treatymade_Deck_Order_l8 (n : Int)) (d.L, d.At, o, (i : Int)) = some (d'.L, d'.At, r) ∧ DOk d' ∧ r.Perm ((List.range n).map Int.ofNat)
  | 0, i, d, o, hk, hd, ho, hp => ⟨d, o, loopV_stop (by unfold treatymade_Deck_Order_l8; rw [if_neg (by simp; omega)]), hd, by
      have : i = n := by omega
      subst this
      rwa [List.take_of_length_le (by omega)] at hp⟩
  | k + 1, i, d, o, hk, hd, ho, hp => by
    obtain ⟨j, d', e1, j0, j1, hd'⟩ := next_ok (d := ⟨d.L, d.At⟩) hd (n := (i : Int) + 1) (by omega) (by omega)
    obtain ⟨j, rfl⟩ := Int.eq_ofNat_of_zero_le j0
    have hi : i < o.length := by omega
    have hj : j < o.length := by omega
    have hst : treatymade_Deck_Order_l8 (n : Int) (d.L, d.At, o, (i : Int)) = some (.inl (d'.L, d'.At, (o.set i o[j]).set j (i : Int), ((i + 1 : Nat) : Int))) := by
      unfold treatymade_Deck_Order_l8
      dsimp only
      rw [if_pos (by simp; omega), w64_id (by omega) (by omega), e1, Option.bind_some]
      dsimp only
      rw [chk_true (inb_nat hj), chk_true (inb_nat hi), ix_nat hj, chk_true (inb_nat (by simpa [upd] using hj))]
      simp [upd]
    obtain ⟨d2, r, h1, h2, h3⟩ := orderLoop hn k (i + 1) d' ((o.set i o[j]).set j (i : Int)) (by omega) hd' (by simp [ho]) (order_step hi (by omega) hp)
    exact ⟨d2, r, by rw [loopV_next hst, h1], h2, h3⟩
theorem order_ok {d : GDeck} (h : DOk d) {n : Nat} (hn : n ≤ 1000) : ∃ r d', treatymade_Deck_Order d (n : Int) = some (r, d') ∧ r.Perm ((List.range n).map Int.ofNat) := by
  unfold treatymade_Deck_Order
  rw [chk_true (by simp), chk_true (by simp; omega)]
  obtain ⟨d', r, h1, h2, h3⟩ := orderLoop hn n 0 d (List.replicate n 0) (by omega) h (by simp) (by simp)
  simp only [Int.toNat_natCast]
  rw [show ((0 : Nat) : Int) = 0 from rfl] at h1
  rw [h1, Option.bind_some]
  exact ⟨r, _, rfl, h3⟩
theorem pick_loop {l o : List Int} {n k : Int} {d : GDeck} {d2 : GDeck} (ho : o.Perm ((List.range l.length).map Int.ofNat)) (hl : l.length ≤ 7) : ∃ m, loopV (treatylaw23_AggregateTotal_l12 (l, n, k, d) (o, d2)) ([], 0) = some m ∧ m.Perm l := by
  have hol : o.length = l.length := by rw [ho.length_eq]; simp
  refine ⟨o.map fun x => l.getD x.toNat 0, ?_, ?_⟩
  · have := loopV_done (step := treatylaw23_AggregateTotal_l12 (l, n, k, d) (o, d2)) (fun i => ((o.take i).map (fun x => l.getD x.toNat 0), (i : Int))) o.length (o.map fun x => l.getD x.toNat 0) ?_ ?_
    · simpa using this
    · intro i hi
      have hm : o[i] ∈ (List.range l.length).map Int.ofNat := ho.mem_iff.1 (List.getElem_mem hi)
      obtain ⟨j, hj, hje⟩ := List.mem_map.1 hm
      have hj' := List.mem_range.1 hj
      have e : o[i] = (j : Int) := hje.symm
      unfold treatylaw23_AggregateTotal_l12
      dsimp only
      rw [if_pos (by simp; omega), chk_true (inb_nat hi), ix_nat hi, e, chk_true (inb_nat hj'), ix_nat hj', chk_true (room_of (by simp; omega)), w64_id (by omega) (by omega), List.take_succ_eq_append_getElem hi, List.map_append, e]
      simp [hj']
    · unfold treatylaw23_AggregateTotal_l12
      dsimp only
      rw [if_neg (by simp), List.take_of_length_le (by omega)]
  · refine (ho.map _).trans ?_
    rw [List.map_map]
    have : (List.range l.length).map ((fun x : Int => l.getD x.toNat 0) ∘ Int.ofNat) = l := by
      apply List.ext_getElem
      · simp
      · intro i h1 h2
        simp [h2]
    rw [this]
/-! ### the steps -/
theorem steps_sum {l : List Int} {d m : Int} (hd : 0 ≤ d) : (steps l d m).sum = G l.sum d m := by
  have h : ∀ k, k ≤ l.length → ((List.range k).map fun i => G (P l (i + 1)) d m - G (P l i) d m).sum = G (P l k) d m := by
    intro k
    induction k with
    | zero =>
      intro _
      rw [P_zero]
      unfold G
      simp
      split <;> omega
    | succ k ih =>
      intro hk
      rw [List.range_succ, List.map_append, List.sum_append, ih (by omega)]
      simp
      omega
  have := h l.length (Nat.le_refl _)
  rw [P_all] at this
  exact this
theorem step_bounds {l : List Int} {d m : Int} (h : TOk l d m) {i : Nat} (hi : i < l.length) : 0 ≤ G (P l (i + 1)) d m - G (P l i) d m ∧ G (P l (i + 1)) d m - G (P l i) d m ≤ l[i] := by
  have h1 := h.vals _ (List.getElem_mem hi)
  have hd := h.d
  have hm := h.m
  rw [P_succ hi]
  unfold G amt at *
  split <;> omega
theorem MOk.perm {l m : List Int} {n k : Int} (h : MOk l n k) (hp : m.Perm l) : MOk m n k := ⟨by rw [hp.length_eq]; exact h.len, fun x hx => h.val x (hp.mem_iff.1 hx), h.n, h.k⟩
theorem treatylaw23_AggregateTotal_law (d o : List Int) (_ : ∀ n ∈ d, -9223372036854775808 ≤ n ∧ n ≤ 9223372036854775807) (hd : d.length ≤ 9223372036854775807) (_ : ∀ n ∈ o, -9223372036854775808 ≤ n ∧ n ≤ 9223372036854775807) (ho : o.length ≤ 9223372036854775807) : treatylaw23_AggregateTotal d o = some true := by
  unfold treatylaw23_AggregateTotal
  obtain ⟨l, n, k, d', e, hm⟩ := made_ok hd
  obtain ⟨d0, e0, h0⟩ := new_ok ho
  have hll := hm.len
  obtain ⟨q, d2, e2, hq⟩ := order_ok h0 (n := l.length) (by omega)
  obtain ⟨m, e3, hml⟩ := pick_loop (n := n) (k := k) (d := d') (d2 := d2) hq hll
  have hmm := hm.perm hml
  have ht := hm.tok
  have ht2 := hmm.tok
  have hmlen : m.length = l.length := hml.length_eq
  have ea : applyS l n k = (steps l n k, 0) := by unfold applyS; rw [ht.tot, if_pos rfl]
  have eb : applyS m n k = (steps m n k, 0) := by unfold applyS; rw [ht2.tot, if_pos rfl]
  simp only [e, e0, e2, e3, Option.bind_some, apply_eq, ea, eb, steps_length, hmlen]
  have hn0 := hm.n
  have hk0 := hm.k
  have hsl := small_le hm.val
  have hloop : loopV (treatylaw23_AggregateTotal_l38 (l, n, k, d') (steps l n k, 0) (steps m n k, 0)) (0, 0, 0, 0) = some (.inr ((steps l n k).sum, (steps m n k).sum, l.sum)) := by
    have := loopV_done (step := treatylaw23_AggregateTotal_l38 (l, n, k, d') (steps l n k, 0) (steps m n k, 0)) (fun i => (((steps l n k).take i).sum, ((steps m n k).take i).sum, (l.take i).sum, (i : Int))) l.length (.inr ((steps l n k).sum, (steps m n k).sum, l.sum)) ?_ ?_
    · simpa using this
    · intro i hi
      have hip : i < (steps l n k).length := by rw [steps_length]; exact hi
      have hiq : i < (steps m n k).length := by rw [steps_length]; omega
      have ha := step_bounds ht hi
      rw [← steps_at hi] at ha
      have hpb : ∀ x ∈ steps l n k, 0 ≤ x ∧ x ≤ 1073741824 := fun x hx => by
        obtain ⟨j, hj, rfl⟩ := List.getElem_of_mem hx
        rw [steps_length] at hj
        have a1 := step_bounds ht hj
        rw [← steps_at hj] at a1
        have a3 := hm.val _ (List.getElem_mem hj)
        omega
      have hqb : ∀ x ∈ steps m n k, 0 ≤ x ∧ x ≤ 1073741824 := fun x hx => by
        obtain ⟨j, hj, rfl⟩ := List.getElem_of_mem hx
        rw [steps_length] at hj
        have a1 := step_bounds ht2 hj
        rw [← steps_at hj] at a1
        have a3 := hmm.val _ (List.getElem_mem hj)
        omega
      have hs1 := small_le (l := (steps l n k).take i) fun x hx => hpb x (List.mem_of_mem_take hx)
      have hs2 := small_le (l := (steps m n k).take i) fun x hx => hqb x (List.mem_of_mem_take hx)
      have hs3 := small_le (l := l.take i) fun x hx => hm.val x (List.mem_of_mem_take hx)
      have hl1 : ((steps l n k).take i).length ≤ 20 := by simp [steps_length]; omega
      have hl2 : ((steps m n k).take i).length ≤ 20 := by simp [steps_length]; omega
      have hl3 : (l.take i).length ≤ 20 := by simp; omega
      have b1 := hpb _ (List.getElem_mem hip)
      have b2 := hqb _ (List.getElem_mem hiq)
      have b3 := hm.val _ (List.getElem_mem hi)
      unfold treatylaw23_AggregateTotal_l38
      dsimp only
      rw [if_pos (by simp; omega), chk_true (inb_nat hip), chk_true (inb_nat hiq), chk_true (inb_nat hi), ix_nat hip, ix_nat hiq, ix_nat hi, if_neg (by simpa using ha.1), Option.bind_some, if_neg (by simpa using ha.2), w64_id (by omega) (by omega), w64_id (by omega) (by omega), w64_id (by omega) (by omega), w64_id (by omega) (by omega), List.take_succ_eq_append_getElem hip, List.take_succ_eq_append_getElem hiq, List.take_succ_eq_append_getElem hi, List.sum_append, List.sum_append, List.sum_append]
      simp
    · unfold treatylaw23_AggregateTotal_l38
      dsimp only
      rw [if_neg (by simp [steps_length]), List.take_of_length_le (by rw [steps_length]; omega), List.take_of_length_le (by rw [steps_length]; omega), List.take_of_length_le (by omega)]
  rw [hloop, steps_sum hn0.1, steps_sum hn0.1, perm_sum hml]
  have hg : treatyref20_G l.sum n k = some (G l.sum n k) := rG_eq (by omega) ⟨hn0.1, by omega⟩
  have hfin : (decide (k = 0) || decide (G l.sum n k ≤ k)) = true := by
    by_cases hk : k = 0
    · simp [hk]
    · have : G l.sum n k ≤ k := by
        unfold G
        rw [if_pos (by omega)]
        omega
      simp [this]
  simp [hg, aggAwake_ok]
  simp at hfin
  omega
end Go.Proofs.Ytoodneljjhbfhaa.Pl
