/- What Commute computes; totals over all parties (plain). -/
import Derived.Test.YtdenliplkmjmjaaLRed
namespace Go.Proofs.Ytdenliplkmjmjaa.Pl
open Go

theorem tot_ne {l : List GEntry} {g : GEntry} (h : tot l g ≠ 0) : ∃ y ∈ l, hd y = g := by
  apply Classical.byContradiction
  intro hc
  exact h (tot_none fun e he he2 => hc ⟨e, he, he2⟩)
theorem headB_p0 {g : GEntry} {pa : Int} (h : headB (wp pa g) = true) (h0 : g.Party = 0) : headB g = true := by
  simp only [headB, wp, Bool.and_eq_true] at h ⊢
  rw [h0]
  obtain ⟨⟨⟨⟨⟨⟨a, b⟩, c⟩, d⟩, _⟩, _⟩, f⟩ := h
  exact ⟨⟨⟨⟨⟨⟨a, b⟩, c⟩, d⟩, by decide⟩, by decide⟩, f⟩
/-- what a redirected target holds -/
theorem red_entries {tr pa : Int} {t p r : List GEntry} (hC : CollT (red tr pa (tot t) (tot p)) r) (hv : ∀ e ∈ t, vE e = true) (hp : ∀ e ∈ p, vE e = true) {B : Int} (hB : B ≤ 17592186044416) (hb : ∀ g, g.Amount = 0 → -B ≤ red tr pa (tot t) (tot p) g ∧ red tr pa (tot t) (tot p) g ≤ B) :
    (∀ e ∈ r, vE e = true ∧ e.Amount ≠ 0) ∧ ((∀ e ∈ t, isR e = true) → ∀ e ∈ r, isR e = true) := by
  have hh : ∀ (l : List GEntry), (∀ e ∈ l, vE e = true) → ∀ g, tot l g ≠ 0 → headB g = true := fun l hl g hg => by
    obtain ⟨y, hy, rfl⟩ := tot_ne hg
    have := hl y hy
    simp only [vE, Bool.and_eq_true] at this
    exact this.1
  have key : ∀ e ∈ r, headB (hd e) = true ∧ (isR (hd e) = true ∨ tot t (hd e) ≠ 0) := fun e he => by
    obtain ⟨h0, h1⟩ := (hC.mem e).1 he
    have h2 : red tr pa (tot t) (tot p) (hd e) ≠ 0 := by rw [h1]; exact h0
    generalize hd e = g at h2 ⊢
    unfold red at h2
    split at h2
    · rename_i hm
      have hr : isR g = true := by
        simp only [mt, Bool.and_eq_true] at hm
        exact hm.1.1
      refine ⟨hh p hp g fun hc => h2 ?_, .inl hr⟩
      unfold st
      rw [hc]
      split <;> rfl
    · split at h2
      · rename_i hm
        simp only [cm, Bool.and_eq_true, decide_eq_true_eq] at hm
        refine ⟨?_, .inl hm.1.1⟩
        by_cases a : tot t g = 0
        · by_cases b : tot t (wp pa g) = 0
          · have c : tot p (wp pa g) ≠ 0 := fun hc => h2 (by
              unfold st
              rw [a, b, hc]
              split <;> rfl)
            exact headB_p0 (hh p hp _ c) hm.2
          · exact headB_p0 (hh t hv _ b) hm.2
        · exact hh t hv _ a
      · exact ⟨hh t hv _ h2, .inr h2⟩
  refine ⟨fun e he => ?_, fun hr e he => ?_⟩
  · obtain ⟨h0, h1⟩ := (hC.mem e).1 he
    have := hb (hd e) (hd_amount e)
    refine ⟨?_, h0⟩
    simp only [vE, Bool.and_eq_true]
    refine ⟨(key e he).1, (vAmt_iff _).2 ?_⟩
    rw [h1] at this
    omega
  · rcases (key e he).2 with h | h
    · exact h
    · obtain ⟨y, hy, hye⟩ := tot_ne h
      have := hr y hy
      rw [← isR_hd, hye] at this
      exact this
theorem red_bd {tr pa : Int} {T S : GEntry → Int} {B : Int} (hB : 0 ≤ B) (hT : ∀ g, g.Amount = 0 → -B ≤ T g ∧ T g ≤ B) (hS : ∀ g, g.Amount = 0 → -B ≤ S g ∧ S g ≤ B) : ∀ g, g.Amount = 0 → -(3 * B) ≤ red tr pa T S g ∧ red tr pa T S g ≤ 3 * B := fun g hg => by
  have b1 := hT g hg
  have b2 := hT (wp pa g) hg
  have b3 := hS g hg
  have b4 := hS (wp pa g) hg
  unfold red st
  split
  · split <;> omega
  · split
    · split <;> omega
    · omega
/-! ### DeleteFunc -/
theorem notR_eq (e : GEntry) : commute_Commute_c1 e = some (!isR e) := rfl
theorem index_none {l : List GEntry} (hl : l.length ≤ 1000000) (h : ∀ e ∈ l, isR e = true) : slices_IndexFunc_s_api_Entry_api_Entry_commute_Commute_c1 l = some (-1) := by
  unfold slices_IndexFunc_s_api_Entry_api_Entry_commute_Commute_c1
  have hloop : loopV (slices_IndexFunc_s_api_Entry_api_Entry_commute_Commute_c1_l6 l) 0 = some (.inr ()) := by
    refine loopV_done (fun k => (k : Int)) l.length _ (fun k hk => ?_) ?_
    · unfold slices_IndexFunc_s_api_Entry_api_Entry_commute_Commute_c1_l6
      rw [if_pos (decide_eq_true (by omega)), chk_of (inb_nat hk), ix_nat hk, notR_eq, Option.bind_some, h _ (List.getElem_mem hk), w64_id (n := (k : Int) + 1) (by omega) (by omega)]
      rfl
    · unfold slices_IndexFunc_s_api_Entry_api_Entry_commute_Commute_c1_l6
      rw [if_neg (by simp)]
  rw [hloop]
  rfl
theorem index_some {l : List GEntry} (hl : l.length ≤ 1000000) {i : Nat} (hi : i < l.length) (h : ∀ j (hj : j < i), isR (l[j]'(by omega)) = true) (hn : isR l[i] = false) : slices_IndexFunc_s_api_Entry_api_Entry_commute_Commute_c1 l = some (i : Int) := by
  unfold slices_IndexFunc_s_api_Entry_api_Entry_commute_Commute_c1
  have hloop : loopV (slices_IndexFunc_s_api_Entry_api_Entry_commute_Commute_c1_l6 l) 0 = some (.inl (i : Int)) := by
    refine loopV_done (fun k => (k : Int)) i _ (fun k hk => ?_) ?_
    · unfold slices_IndexFunc_s_api_Entry_api_Entry_commute_Commute_c1_l6
      have hk' : k < l.length := by omega
      rw [if_pos (decide_eq_true (by omega)), chk_of (inb_nat hk'), ix_nat hk', notR_eq, Option.bind_some, h k hk, w64_id (n := (k : Int) + 1) (by omega) (by omega)]
      rfl
    · unfold slices_IndexFunc_s_api_Entry_api_Entry_commute_Commute_c1_l6
      rw [if_pos (decide_eq_true (by omega)), chk_of (inb_nat hi), ix_nat hi, notR_eq, Option.bind_some, hn]
      rfl
  rw [hloop]
  rfl
theorem first_not (l : List GEntry) (h : ¬ ∀ e ∈ l, isR e = true) : ∃ i, ∃ hi : i < l.length, (∀ j (hj : j < i), isR (l[j]'(by omega)) = true) ∧ isR l[i] = false := by
  induction l with
  | nil => exact absurd (fun e he => by cases he) h
  | cons x l ih =>
    cases hx : isR x with
    | false => exact ⟨0, by simp, fun j hj => by omega, by simpa using hx⟩
    | true =>
      have : ¬ ∀ e ∈ l, isR e = true := fun hc => h fun e he => by
        rcases List.mem_cons.1 he with rfl | he
        · exact hx
        · exact hc e he
      obtain ⟨i, hi, h1, h2⟩ := ih this
      refine ⟨i + 1, by simp; omega, fun j hj => ?_, by simpa using h2⟩
      cases j with
      | zero => simpa using hx
      | succ j => simpa using h1 j (by omega)
theorem delete_eq (l : List GEntry) (hl : l.length ≤ 1000000) : slices_DeleteFunc_s_api_Entry_api_Entry_o_commute_Commute_c1 l = some (l.filter isR) := by
  unfold slices_DeleteFunc_s_api_Entry_api_Entry_o_commute_Commute_c1
  by_cases h : ∀ e ∈ l, isR e = true
  · rw [index_none hl h, Option.bind_some, if_pos (by simp), List.filter_eq_self.2 h]
  · obtain ⟨i, hi, h1, h2⟩ := first_not l h
    rw [index_some hl hi h1 h2, Option.bind_some, if_neg (by simp), w64_id (n := (i : Int) + 1) (by omega) (by omega)]
    have htake : (l.take i).filter isR = l.take i := List.filter_eq_self.2 fun e he => by
      obtain ⟨j, hj, rfl⟩ := List.getElem_of_mem he
      have hj' : j < i := by simp at hj; omega
      rw [List.getElem_take]
      exact h1 j hj'
    have hL : ∃ o, loopV (slices_DeleteFunc_s_api_Entry_api_Entry_o_commute_Commute_c1_l14 l) (l, (i : Int), (i : Int) + 1) = some o ∧ ∃ (xs : List GEntry) (n : Nat), o = (xs, (n : Int)) ∧ xs.length = l.length ∧ n ≤ l.length ∧ xs.take n = l.filter isR := by
      refine loopV_inv (fun s => ∃ (xs : List GEntry) (n j : Nat), s = (xs, (n : Int), (j : Int)) ∧ xs.length = l.length ∧ n < j ∧ j ≤ l.length ∧ xs.take n = (l.take j).filter isR ∧ xs.drop j = l.drop j) (fun s => ((l.length : Int) - s.2.2).toNat) (fun o => ∃ (xs : List GEntry) (n : Nat), o = (xs, (n : Int)) ∧ xs.length = l.length ∧ n ≤ l.length ∧ xs.take n = l.filter isR) ?_ _ ?_
      · rintro s ⟨xs, n, j, rfl, e1, e2, e3, e4, e5⟩
        unfold slices_DeleteFunc_s_api_Entry_api_Entry_o_commute_Commute_c1_l14
        dsimp only
        by_cases hj : j < l.length
        · have hjx : j < xs.length := by omega
          have hxj : xs[j] = l[j] := by
            have a := List.drop_eq_getElem_cons hjx
            have b := List.drop_eq_getElem_cons hj
            rw [e5, b] at a
            simp only [List.cons.injEq] at a
            exact a.1.symm
          have hd1 : xs.drop (j + 1) = l.drop (j + 1) := by
            rw [← List.drop_drop, ← List.drop_drop, e5]
          rw [if_pos (decide_eq_true (by omega)), chk_of (inb_nat hjx), ix_nat hjx, notR_eq, Option.bind_some, hxj, w64_id (n := (j : Int) + 1) (by omega) (by omega)]
          have et : (l.take (j + 1)).filter isR = (l.take j).filter isR ++ (if isR l[j] = true then [l[j]] else []) := by
            rw [List.take_succ_eq_append_getElem hj, List.filter_append]
            congr 1
            by_cases hr : isR l[j] = true
            · simp [hr]
            · simp [hr]
          cases hr : isR l[j] with
          | true =>
            have hn : n < xs.length := by omega
            rw [if_pos (by simp), chk_of (inb_nat hn), w64_id (n := (n : Int) + 1) (by omega) (by omega)]
            refine ⟨_, rfl, ⟨xs.set n l[j], n + 1, j + 1, by simp [upd], by simp [e1], by omega, by omega, ?_, ?_⟩, by dsimp only; omega⟩
            · rw [et, hr, if_pos rfl, ← e4, List.take_succ_eq_append_getElem (by simp; omega), List.take_set_of_le (Nat.le_refl _)]
              simp
            · rw [List.drop_set_of_lt (by omega), hd1]
          | false =>
            rw [if_neg (by simp)]
            refine ⟨_, rfl, ⟨xs, n, j + 1, by simp, e1, by omega, by omega, ?_, hd1⟩, by dsimp only; omega⟩
            rw [et, hr, e4]
            simp
        · have : j = l.length := by omega
          subst this
          refine ⟨.inr (xs, (n : Int)), by rw [if_neg (by simp)], xs, n, rfl, e1, by omega, ?_⟩
          rw [e4, List.take_of_length_le (Nat.le_refl _)]
      · refine ⟨l, i, i + 1, rfl, rfl, by omega, by omega, ?_, rfl⟩
        rw [List.take_succ_eq_append_getElem hi, List.filter_append, htake]
        simp [h2]
    obtain ⟨o, ho, xs, n, rfl, e1, e2, e3⟩ := hL
    rw [ho, Option.bind_some]
    dsimp only
    have e4 : (xs.take (n : Int).toNat ++ List.replicate (xs.length - (n : Int).toNat) (GEntry.mk 0 0 0 0 0)).length = xs.length := by
      simp only [Int.toNat_natCast, List.length_append, List.length_take, List.length_replicate]
      omega
    rw [chk_of (decide_eq_true (by omega)), chk_of (decide_eq_true (by omega)), chk_of (decide_eq_true (by rw [e4]; omega))]
    congr 1
    simp only [Int.toNat_natCast]
    rw [List.take_append_of_le_length (by simp; omega), List.take_take, Nat.min_self, e3]
/-! ### over all parties -/
def c0 (e : GEntry) : GEntry := ⟨e.Kind, e.Treaty, 0, e.Loss, e.Amount⟩
theorem sum_ind (a : Int) (k : Nat) : ∀ n : Nat, ((List.range n).map fun p => if k = p then a else 0).sum = if k < n then a else 0
  | 0 => by simp
  | n + 1 => by
    rw [List.range_succ, List.map_append, List.sum_append, sum_ind a k n]
    simp only [List.map_singleton, List.sum_singleton]
    by_cases h : k < n
    · rw [if_pos h, if_neg (by omega), if_pos (by omega)]; omega
    · rw [if_neg h]
      by_cases h2 : k = n
      · rw [if_pos h2, if_pos (by omega)]; omega
      · rw [if_neg h2, if_neg (by omega)]; omega
theorem sum_add {α : Type} (f g : α → Int) : ∀ l : List α, (l.map fun x => f x + g x).sum = (l.map f).sum + (l.map g).sum
  | [] => by simp
  | x :: l => by
    simp only [List.map_cons, List.sum_cons, sum_add f g l]
    omega
/-- the total over all parties -/
def psum (T : GEntry → Int) (g : GEntry) : Int := ((List.range 16).map fun p : Nat => T (wp (p : Int) g)).sum
theorem psum_congr {T T' : GEntry → Int} {g : GEntry} (h : ∀ p : Nat, T (wp (p : Int) g) = T' (wp (p : Int) g)) : psum T g = psum T' g := by
  unfold psum
  congr 1
  exact List.map_congr_left fun p _ => h p
theorem psum_add (f g : GEntry → Int) (x : GEntry) : psum (fun h => f h + g h) x = psum f x + psum g x := sum_add _ _ _
theorem merged_tot : ∀ (l : List GEntry), (∀ e ∈ l, headB e = true) → ∀ g : GEntry, g.Amount = 0 → g.Party = 0 → tot (l.map c0) g = psum (tot l) g
  | [], _, g, _, _ => by
    have : (List.map (fun _ : Nat => (0 : Int)) (List.range 16)).sum = 0 := by decide
    simp only [List.map_nil, psum, tot_nil, this]
  | x :: l, h, g, hg, hg0 => by
    rw [List.map_cons, tot_cons, merged_tot l (fun e he => h e (by simp [he])) g hg hg0]
    have e1 : psum (tot (x :: l)) g = psum (fun h => (if hd x = h then x.Amount else 0)) g + psum (tot l) g := by
      rw [← psum_add]
      exact psum_congr fun p => tot_cons _ _ _
    rw [e1]
    congr 1
    have hx := h x (by simp)
    simp only [headB, Bool.and_eq_true, decide_eq_true_eq] at hx
    have hp0 : 0 ≤ x.Party := hx.1.1.2
    have hp1 : x.Party ≤ 15 := hx.1.2
    unfold psum
    by_cases hc : hd (c0 x) = g
    · rw [if_pos hc]
      have e2 : ((List.range 16).map fun p : Nat => if hd x = wp (p : Int) g then x.Amount else 0) = (List.range 16).map fun p : Nat => if x.Party.toNat = p then x.Amount else 0 := by
        refine List.map_congr_left fun p _ => ?_
        have : (hd x = wp (p : Int) g) ↔ x.Party.toNat = p := by
          rw [← hc]
          obtain ⟨a, b, c, d, y⟩ := x
          simp only [hd, withA, wp, c0, GEntry.mk.injEq, true_and, and_true]
          simp only at hp0
          omega
        simp only [this]
      rw [e2, sum_ind, if_pos (by omega)]
      rfl
    · rw [if_neg hc]
      have e2 : ((List.range 16).map fun p : Nat => if hd x = wp (p : Int) g then x.Amount else 0) = (List.range 16).map fun _ : Nat => (0 : Int) := by
        refine List.map_congr_left fun p _ => ?_
        rw [if_neg]
        intro h2
        apply hc
        have e3 : hd (c0 x) = c0 (hd x) := rfl
        rw [e3, h2]
        obtain ⟨a, b, c, d, y⟩ := g
        simp only at hg0 hg
        subst hg0 hg
        rfl
      rw [e2]
      have : (List.map (fun _ : Nat => (0 : Int)) (List.range 16)).sum = 0 := by decide
      exact this.symm
theorem psum_red {tr pa : Int} (hp1 : 1 ≤ pa) (hp2 : pa ≤ 15) (T S : GEntry → Int) {g : GEntry} (hg0 : g.Party = 0) : psum (red tr pa T S) g = psum T g := by
  by_cases hm : cm tr g = true
  · have hm' := hm
    simp only [cm, Bool.and_eq_true, decide_eq_true_eq] at hm'
    have hwp : ∀ p : Nat, mt tr pa (wp (p : Int) g) = decide (pa.toNat = p) := fun p => by
      have : isR (wp (p : Int) g) = true := hm'.1.1
      have e : mt tr pa (wp (p : Int) g) = (isR (wp (p : Int) g) && decide (g.Treaty = tr) && decide ((p : Int) = pa)) := rfl
      rw [e, this, hm'.1.2, decide_eq_true rfl, Bool.and_self, Bool.true_and]
      congr 1
      apply propext
      omega
    have hcm : ∀ p : Nat, cm tr (wp (p : Int) g) = decide (0 = p) := fun p => by
      have : isR (wp (p : Int) g) = true := hm'.1.1
      have e : cm tr (wp (p : Int) g) = (isR (wp (p : Int) g) && decide (g.Treaty = tr) && decide ((p : Int) = 0)) := rfl
      rw [e, this, hm'.1.2, decide_eq_true rfl, Bool.and_self, Bool.true_and]
      congr 1
      apply propext
      omega
    have hww : ∀ p : Nat, wp pa (wp (p : Int) g) = wp pa g := fun p => rfl
    let d : Int := T (wp pa g) - st S (wp pa g)
    have e1 : psum (red tr pa T S) g = ((List.range 16).map fun p : Nat => (T (wp (p : Int) g) + (if 0 = p then d else 0)) + (if pa.toNat = p then -d else 0)).sum := by
      unfold psum
      congr 1
      refine List.map_congr_left fun p _ => ?_
      unfold red
      rw [hwp, hcm, hww]
      by_cases h1 : pa.toNat = p
      · have h3 : ¬ (0 = p) := by omega
        have h4 : wp (p : Int) g = wp pa g := by rw [← h1, Int.toNat_of_nonneg (by omega)]
        rw [if_pos (by simpa using h1), if_neg h3, if_pos h1, h4]
        omega
      · rw [if_neg (by simpa using h1), if_neg h1]
        by_cases h2 : 0 = p
        · rw [if_pos (by simpa using h2), if_pos h2]
          show _ + d = _
          omega
        · rw [if_neg (by simpa using h2), if_neg h2]
          omega
    rw [e1, sum_add, sum_add, sum_ind, sum_ind, if_pos (by omega), if_pos (by omega)]
    unfold psum
    omega
  · refine psum_congr fun p => ?_
    unfold red
    have e1 : mt tr pa (wp (p : Int) g) = false := by
      cases h : mt tr pa (wp (p : Int) g) with
      | false => rfl
      | true =>
        exfalso
        apply hm
        simp only [mt, Bool.and_eq_true, decide_eq_true_eq] at h
        simp only [cm, Bool.and_eq_true, decide_eq_true_eq]
        exact ⟨⟨h.1.1, h.1.2⟩, hg0⟩
    have e2 : cm tr (wp (p : Int) g) = false := by
      cases h : cm tr (wp (p : Int) g) with
      | false => rfl
      | true =>
        exfalso
        apply hm
        simp only [cm, Bool.and_eq_true, decide_eq_true_eq] at h ⊢
        exact ⟨⟨h.1.1, h.1.2⟩, hg0⟩
    rw [e1, e2]
    simp
theorem merged_p {l : List GEntry} {g : GEntry} (h : g.Party ≠ 0) : tot (l.map c0) g = 0 := tot_none fun e he hc => by
  obtain ⟨x, _, rfl⟩ := List.mem_map.1 he
  exact h (by rw [← hc]; rfl)
theorem absA_c0 (l : List GEntry) : absA (l.map c0) = absA l := by
  induction l with
  | nil => rfl
  | cons x l ih => rw [List.map_cons, absA_cons, absA_cons, ih]; rfl
theorem c0_valid {e : GEntry} (h : vE e = true) : vE (c0 e) = true := by
  simp only [vE, Bool.and_eq_true] at h ⊢
  refine ⟨?_, h.2⟩
  have h1 := h.1
  simp only [headB, c0, Bool.and_eq_true] at h1 ⊢
  obtain ⟨⟨⟨⟨⟨⟨a, b⟩, c⟩, d⟩, _⟩, _⟩, f⟩ := h1
  exact ⟨⟨⟨⟨⟨⟨a, b⟩, c⟩, d⟩, by simp⟩, by simp⟩, f⟩
theorem merged_eq (l : List GEntry) (hl : l.length ≤ 65536) : treatylaw36_merged l = treatyref33_Collect (l.map c0) := by
  unfold treatylaw36_merged
  have h := (foldLoop (step := treatylaw36_merged_l8 l) l (fun s e => s ++ [c0 e]) (fun k s => s.length = k) [] rfl (fun k hk s hs => ⟨?_, by simp [hs]⟩) (fun s => ?_)).1
  · have e : l.foldl (fun s e => s ++ [c0 e]) [] = l.map c0 := by
      have : ∀ (l s : List GEntry), l.foldl (fun s e => s ++ [c0 e]) s = s ++ l.map c0 := by
        intro l
        induction l with
        | nil => simp
        | cons x l ih => intro s; rw [List.foldl_cons, ih]; simp
      simpa using this l []
    rw [h, Option.bind_some, e]
    cases hc : treatyref33_Collect (l.map c0) with
    | none => rfl
    | some r => rfl
  · unfold treatylaw36_merged_l8
    dsimp only
    rw [if_pos (decide_eq_true (by omega)), chk_of (inb_nat hk), ix_nat hk, w64_id (n := (k : Int) + 1) (by omega) (by omega), chk_of (room_of (by simp; omega))]
    rfl
  · unfold treatylaw36_merged_l8
    dsimp only
    rw [if_neg (by simp)]
/-- two lists with the same totals over all parties -/
theorem merged_same {a b : List GEntry} (ha : ∀ e ∈ a, vE e = true) (hb : ∀ e ∈ b, vE e = true) (hla : a.length ≤ 10000) (hlb : b.length ≤ 65536) {B : Int} (hB : B ≤ 17592186044416) (hbd : absA a ≤ B) (h : ∀ g, g.Amount = 0 → g.Party = 0 → psum (tot a) g = psum (tot b) g) :
    ∃ r, treatylaw36_merged a = some (r, 0) ∧ treatylaw36_merged b = some (r, 0) ∧ r.length ≤ 10000 := by
  have hd' : ∀ {l : List GEntry}, (∀ e ∈ l, vE e = true) → ∀ e ∈ l, headB e = true := fun hl e he => by
    have := hl e he
    simp only [vE, Bool.and_eq_true] at this
    exact this.1
  have hv : ∀ {l : List GEntry}, (∀ e ∈ l, vE e = true) → ∀ e ∈ l.map c0, vE e = true := fun hl e he => by
    obtain ⟨x, hx, rfl⟩ := List.mem_map.1 he
    exact c0_valid (hl x hx)
  have e : ∀ g, g.Amount = 0 → tot (b.map c0) g = tot (a.map c0) g := fun g hg => by
    by_cases h0 : g.Party = 0
    · rw [merged_tot b (hd' hb) g hg h0, merged_tot a (hd' ha) g hg h0, h g hg h0]
    · rw [merged_p h0, merged_p h0]
  have hTa : TotB (a.map c0) B := TotB.of_abs (by rw [absA_c0]; exact hbd)
  have hTb : TotB (b.map c0) B := fun g hg => by rw [e g hg]; exact hTa g hg
  obtain ⟨r, r1, r2, r3⟩ := collect_ex (by rw [List.length_map]; omega) (hv ha) (hTa.ok hB)
  obtain ⟨q, q1, q2, _⟩ := collect_ex (by rw [List.length_map]; omega) (hv hb) (hTb.ok hB)
  have : q = r := q2.T.uniq (r2.T.congr fun g hg => (e g hg).symm)
  subst this
  rw [List.length_map] at r3
  exact ⟨q, by rw [merged_eq a (by omega)]; exact r1, by rw [merged_eq b hlb]; exact q1, by omega⟩
end Go.Proofs.Ytdenliplkmjmjaa.Pl
