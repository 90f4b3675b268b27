/- aggregate (plain): Spread, Left, the lists that the laws make, the sanity check. -/
import Derived.Test.YtoodneljjhbfhaaLAgg
namespace Go.Proofs.Ytoodneljjhbfhaa.Pl
open Go

def spreadS (l : List Int) (d m : Int) : List Int × Int :=
  if (totS l d m).2 ≠ 0 then ([], (totS l d m).2) else if (totS l d m).1 = 0 then (List.replicate l.length 0, 0) else splitS (min (cl m) (max 0 (cl (totS l d m).1 - cl d))) l
theorem spread_eq (l : List Int) (d m : Int) : aggregate_Spread l d m = some (spreadS l d m) := by
  unfold aggregate_Spread spreadS
  rw [total_agg, Option.bind_some]
  have hl : (totS l d m).2 = 0 → l.length ≤ 64 := fun h => by
    rcases totS_ok (l := l) (d := d) (m := m) with ⟨h, _⟩ | ⟨c, e, hc⟩
    · exact h.len
    · rw [e] at h
      exact absurd h hc
  generalize totS l d m = tt at *
  obtain ⟨t, c⟩ := tt
  dsimp only at hl ⊢
  by_cases h : c = 0
  · subst h
    have hl := hl rfl
    simp only [decide_true, Bool.not_true, Bool.false_eq_true, if_false, ne_eq, not_true_eq_false]
    by_cases h2 : t = 0
    · simp only [h2, decide_true, if_true]
      rw [chk_true (by simp), chk_true (by simp; omega)]
      simp
    · simp only [h2, decide_false, Bool.false_eq_true, if_false, layer_eq, Option.bind_some, split_eq]
  · simp [h]
theorem aggAwake_ok : treatylaw23_awake = some true := by
  unfold treatylaw23_awake
  have e1 : applyS [50, 80, 100] 60 100 = ([0, 70, 30], 0) := by decide
  have e2 : spreadS [30, 60, 10] 40 30 = ([9, 18, 3], 0) := by decide
  rw [apply_eq, e1, Option.bind_some, spread_eq, e2, Option.bind_some]
  simp only [decide_true, Bool.and_self, if_true]
  rw [sameInts_eq (by simp), sameInts_eq (by simp)]
  simp
/-! ### Left -/
def leftS (l : List Int) (d m : Int) : Int × Int × Int :=
  if (totS l d m).2 ≠ 0 then (0, 0, (totS l d m).2) else (max 0 (d - l.sum), if 0 < m then m - G l.sum d m else 0, 0)
theorem left_eq (l : List Int) (d m : Int) : aggregate_Left l d m = some (leftS l d m) := by
  unfold aggregate_Left leftS
  rw [total_agg, Option.bind_some]
  rcases totS_ok (l := l) (d := d) (m := m) with ⟨h, e⟩ | ⟨c, e, hc⟩
  · have hp := h.pre l.length
    rw [P_all] at hp
    have hd := h.d
    have hm := h.m
    have hb := G_bounds hp hd (m := m)
    rw [e]
    simp only [decide_true, Bool.not_true, Bool.false_eq_true, if_false, ne_eq, not_true_eq_false]
    by_cases h0 : 0 < m
    · simp only [h0, decide_true, if_true, paid_eq hp hd hm, Option.bind_some, maxI_eq]
      unfold amt at hp hd hm
      rw [w64_id (by omega) (by omega), w64_id (by omega) (by omega)]
    · simp only [h0, decide_false, Bool.false_eq_true, if_false, Option.bind_some, maxI_eq]
      unfold amt at hp hd hm
      rw [w64_id (by omega) (by omega)]
  · rw [e]
    simp [hc]
theorem rleft_eq (l : List Int) (d m : Int) : treatyref20_Left l d m = some (leftS l d m) := by
  unfold treatyref20_Left leftS
  rw [rapply_eq, Option.bind_some]
  unfold applyS
  rcases totS_ok (l := l) (d := d) (m := m) with ⟨h, e⟩ | ⟨c, e, hc⟩
  · have hp := h.pre l.length
    rw [P_all] at hp
    have hd := h.d
    have hm := h.m
    have hb := G_bounds hp hd (m := m)
    have hall : l.all okW = true := List.all_eq_true.2 fun w hw => okW_iff.2 (h.vals w hw)
    have hsum := h.sum
    have ht : treatyref20_total l = some (l.sum, 0) := by
      rw [rtotal_eq h.len, hall, if_pos rfl, if_neg (show ¬ 17592186044416 < l.sum by omega)]
    rw [e]
    simp only [if_true, decide_true, Bool.not_true, Bool.false_eq_true, if_false, ne_eq, not_true_eq_false, ht, Option.bind_some, maxI_eq]
    unfold amt at hp hd hm
    rw [w64_id (by omega) (by omega)]
    by_cases h0 : 0 < m
    · have h1 : ¬ m = 0 := by omega
      simp only [h0, h1, decide_false, Bool.false_eq_true, if_false, if_true]
      rw [rG_eq (by omega) h.d, Option.bind_some, w64_id (by omega) (by omega)]
      congr 2
      omega
    · have h1 : m = 0 := by omega
      simp only [h1, decide_true, if_true, Int.lt_irrefl, if_false]
      congr 2
      omega
  · rw [e]
    simp [hc]
/-! ### what the laws make -/
structure MOk (l : List Int) (n k : Int) : Prop where
  len : l.length ≤ 7
  val : ∀ x ∈ l, 0 ≤ x ∧ x ≤ 1073741824
  n : 0 ≤ n ∧ n ≤ 4294967296
  k : 0 ≤ k ∧ k ≤ 4294967296
theorem small_le {l : List Int} (h : ∀ x ∈ l, 0 ≤ x ∧ x ≤ 1073741824) : 0 ≤ l.sum ∧ l.sum ≤ 1073741824 * (l.length : Int) := by
  induction l with
  | nil => simp
  | cons x l ih =>
    have h1 := ih fun w hw => h w (List.mem_cons_of_mem _ hw)
    have h2 := h x (by simp)
    simp only [List.sum_cons, List.length_cons]
    omega
theorem MOk.tok {l : List Int} {n k : Int} (h : MOk l n k) : TOk l n k := by
  have h1 := h.len
  have h2 := small_le h.val
  have h3 := h.n
  have h4 := h.k
  exact ⟨by omega, ⟨by omega, by omega⟩, ⟨by omega, by omega⟩, fun x hx => by have := h.val x hx; exact ⟨by omega, by omega⟩, by omega⟩
theorem money_ok {d : GDeck} (h : DOk d) : ∃ v d', treatymade_Deck_Money d = some (v, d') ∧ 0 ≤ v ∧ v ≤ 1073741824 ∧ DOk d' := by
  unfold treatymade_Deck_Money
  obtain ⟨v, d1, e1, a1, b1, k1⟩ := upto_ok h (n := 1073741824) (by omega) (by omega)
  rw [e1, Option.bind_some]
  exact ⟨v, d1, rfl, a1, b1, k1⟩
theorem madeLoop : ∀ (k : Nat) (d : GDeck) (out : List Int), DOk d → out.length + k ≤ 1000 → (∀ x ∈ out, 0 ≤ x ∧ x ≤ 1073741824) →
    ∃ (d' : GDeck) (r : List Int), loopV treatylaw23_made_l12 (d.L, d.At, out, (k : Int)) = some (d'.L, d'.At, r) ∧ DOk d' ∧ r.length = out.length + k ∧ ∀ x ∈ r, 0 ≤ x ∧ x ≤ 1073741824
  | 0, d, out, hd, _, ho => ⟨d, out, loopV_stop (by unfold treatylaw23_made_l12; simp), hd, rfl, ho⟩
  | k + 1, d, out, hd, hl, ho => by
    obtain ⟨e, d', he, he1, he2, hd'⟩ := money_ok (d := ⟨d.L, d.At⟩) hd
    have hroom : room (out ++ [e]).length = true := room_of (by simp <;> omega)
    have hst : treatylaw23_made_l12 (d.L, d.At, out, ((k + 1 : Nat) : Int)) = some (.inl (d'.L, d'.At, out ++ [e], (k : Int))) := by
      unfold treatylaw23_made_l12
      have hc : decide ((0 : Int) < ((k + 1 : Nat) : Int)) = true := by simp <;> omega
      have e1 : w64 (((k + 1 : Nat) : Int) - 1) = (k : Int) := by rw [w64_id (by omega) (by omega)]; omega
      simp only [hc, if_true, he, Option.bind_some, chk_of hroom, e1]
    obtain ⟨d2, r, h1, h2, h3, h4⟩ := madeLoop k d' (out ++ [e]) hd' (by simp <;> omega) (fun x hx => by
      rcases List.mem_append.1 hx with hx | hx
      · exact ho x hx
      · simp at hx; subst hx; omega)
    exact ⟨d2, r, by rw [loopV_next hst, h1], h2, by rw [h3]; simp; omega, h4⟩
theorem made_ok {d : List Int} (hd : d.length ≤ 9223372036854775807) : ∃ l n k d', treatylaw23_made d = some (l, n, k, d') ∧ MOk l n k := by
  unfold treatylaw23_made
  obtain ⟨d0, e0, h0⟩ := new_ok hd
  obtain ⟨n, d1, e1, a1, b1, h1⟩ := upto_ok h0 (n := 4294967296) (by omega) (by omega)
  obtain ⟨k, d2, e2, a2, b2, h2⟩ := upto_ok h1 (n := 4294967296) (by omega) (by omega)
  obtain ⟨u, d3, e3, a3, b3, h3⟩ := next_ok h2 (n := 8) (by omega) (by omega)
  obtain ⟨d4, r, e4, h4, l4, v4⟩ := madeLoop u.toNat d3 [] h3 (by simp <;> omega) (fun x hx => by cases hx)
  have ev : ((u.toNat : Nat) : Int) = u := by omega
  rw [ev] at e4
  simp only [e0, e1, e2, e3, e4, Option.bind_some]
  exact ⟨r, n, k, _, rfl, ⟨by rw [l4]; simp; omega, v4, ⟨a1, b1⟩, ⟨a2, b2⟩⟩⟩
end Go.Proofs.Ytoodneljjhbfhaa.Pl
