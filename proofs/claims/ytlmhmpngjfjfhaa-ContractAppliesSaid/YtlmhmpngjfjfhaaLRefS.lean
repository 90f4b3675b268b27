/- treatyref01.Split (plain) answers as split.Split. -/
import Derived.Test.YtlmhmpngjfjfhaaLRefD
namespace Go.Proofs.Ytlmhmpngjfjfhaa.Pl
open Go

/-! ### the weights -/
theorem refWeights_eq {l : List Int} (hl : l.length ≤ 64) : treatyref01_weights l = some (if l.all okW then (l.sum, 0) else (0, 1)) := by
  have main : ∀ (n k : Nat), n + k = l.length → (l.take k).all okW = true → (loopV (treatyref01_weights_l8 l) ((l.take k).sum, (k : Int))) = some (if l.all okW then .inr l.sum else .inl (0, 1)) := by
    intro n
    induction n with
    | zero =>
      intro k hk ha
      have s : treatyref01_weights_l8 l ((l.take k).sum, (k : Int)) = some (.inr (.inr (l.take k).sum)) := by
        unfold treatyref01_weights_l8
        rw [if_neg (by simp; omega)]
      rw [List.take_of_length_le (by omega)] at ha s ⊢
      rw [loopV_stop s, if_pos ha]
    | succ n ih =>
      intro k hk ha
      have hkl : k < l.length := by omega
      have hs := sum_le (all_okW ha)
      have hsl : (l.take k).length ≤ 64 := by simp; omega
      by_cases hw : okW l[k] = true
      · have hw' := okW_iff.1 hw
        have e := List.take_succ_eq_append_getElem hkl
        have s : treatyref01_weights_l8 l ((l.take k).sum, (k : Int)) = some (.inl ((l.take (k + 1)).sum, ((k + 1 : Nat) : Int))) := by
          unfold treatyref01_weights_l8
          dsimp only
          rw [if_pos (by simp; omega), chk_true (inb_nat hkl), ix_nat hkl, if_neg (by simp; omega), w64_id (by omega) (by omega), w64_id (by omega) (by omega), e, List.sum_append]
          simp
        rw [loopV_next s, ih (k + 1) (by omega) (by rw [e, List.all_append, ha]; simpa using hw)]
      · have s : treatyref01_weights_l8 l ((l.take k).sum, (k : Int)) = some (.inr (.inl (0, 1))) := by
          unfold treatyref01_weights_l8
          dsimp only
          rw [if_pos (by simp; omega), chk_true (inb_nat hkl), ix_nat hkl, if_pos]
          rw [okW_iff] at hw
          simp
          omega
        rw [loopV_stop s, if_neg]
        intro h
        exact hw (List.all_eq_true.1 h _ (List.getElem_mem hkl))
  unfold treatyref01_weights
  have := main l.length 0 (by omega) (by simp)
  simp only [List.take_zero, List.sum_nil, Int.ofNat_zero] at this
  rw [this]
  by_cases h : l.all okW = true
  · simp [h]
  · simp only [h]
    simp
/-! ### quotients and remainders -/
theorem refFill {a : Int} {l : List Int} {W e : Int} (h : DivOk a l W) :
    loopV (treatyref01_Split_l43 l (W, e) a) (List.replicate l.length 0, List.replicate l.length 0, a, 0) = some (quos a l W, rems a l W, leftOf a l W) := by
  have hW := sum_le h.l0
  have hlen := h.len
  have hsum := h.sum
  have hd := loopV_done (step := treatyref01_Split_l43 l (W, e) a) (fun k => (fill (quos a l W) k, fill (rems a l W) k, a - ((quos a l W).take k).sum, (k : Int))) l.length (quos a l W, rems a l W, leftOf a l W) ?_ ?_
  · simpa [fill_zero, quos_length, rems_length] using hd
  · intro k hk
    have hkq : k < (quos a l W).length := by simpa [quos] using hk
    have hkr : k < (rems a l W).length := by simpa [rems] using hk
    have hw := h.l0 l[k] (List.getElem_mem hk)
    have eq : (quos a l W)[k] = a * l[k] / W := by simp [quos]
    have er : (rems a l W)[k] = a * l[k] % W := by simp [rems]
    have hb := quo_bounds h _ (List.getElem_mem hkq)
    have hsb := sum_le (l := (quos a l W).take k) fun q hq => quo_bounds h q (List.mem_of_mem_take hq)
    have hsl : ((quos a l W).take k).length ≤ 64 := by simp; omega
    have ha0 := h.a0
    have ha1 := h.a1
    have hp := h.pos
    have i0 : inb l (k : Int) = true := inb_nat hk
    have i1 : inb (fill (quos a l W) k) (k : Int) = true := inb_nat (by rw [fill_length]; exact hkq)
    have i2 : inb (fill (rems a l W) k) (k : Int) = true := inb_nat (by rw [fill_length]; exact hkr)
    have i4 : inb (fill (quos a l W) (k + 1)) (k : Int) = true := inb_nat (by rw [fill_length]; exact hkq)
    have u1 := upd_fill hkq
    have u2 := upd_fill hkr
    rw [eq] at u1 hb
    rw [er] at u2
    have x4 : ix (fill (quos a l W) (k + 1)) (k : Int) = a * l[k] / W := by
      rw [ix_nat (by rw [fill_length]; exact hkq), ← eq]
      simp only [fill]
      rw [List.getElem_append_left (by simp; omega)]
      simp
    unfold treatyref01_Split_l43
    dsimp only
    rw [if_pos (by simp; omega), chk_true i0, ix_nat hk, refDivide_ok ha0 (by omega) hw.1 (by omega) hp (by omega) (by omega), Option.bind_some]
    dsimp only
    rw [chk_true i1, chk_true i2, u1, u2, chk_true i4, x4, w64_id (by omega) (by omega), w64_id (by omega) (by omega), quos_sum_take a l W k hk, eq]
    congr 5
    all_goals omega
  · unfold treatyref01_Split_l43
    simp only
    rw [if_neg (by simp)]
    have e1 : fill (quos a l W) l.length = quos a l W := by rw [← quos_length a l W]; exact fill_all _
    have e2 : fill (rems a l W) l.length = rems a l W := by rw [← rems_length a l W]; exact fill_all _
    rw [e1, e2, List.take_of_length_le (by simp [quos])]
    rfl
/-! ### the greatest rest -/
theorem beats_trans {rs : List Int} {i j k : Nat} (h1 : beats rs i j = true) (h2 : beats rs j k = true) : beats rs i k = true := by
  rw [beats_iff] at *
  omega
theorem best_loop {l qs rest : List Int} {left : Int} (hl : rest.length = l.length) (h0 : 0 < l.length) (h1 : l.length ≤ 64) :
    ∃ o : Nat, loopV (treatyref01_Split_l71 l (qs, rest, left)) (0, 1) = some (o : Int) ∧ o < l.length ∧ ∀ j, j < l.length → j ≠ o → beats rest o j = true := by
  have key := loopV_inv (step := treatyref01_Split_l71 l (qs, rest, left)) (fun s => ∃ b k : Nat, s = ((b : Int), (k : Int)) ∧ b < k ∧ k ≤ l.length ∧ ∀ j, j < k → j ≠ b → beats rest b j = true) (fun s => l.length - s.2.toNat) (fun o => ∃ b : Nat, o = (b : Int) ∧ b < l.length ∧ ∀ j, j < l.length → j ≠ b → beats rest b j = true) ?_ (0, 1) ⟨0, 1, rfl, by omega, by omega, fun j h1 h2 => by omega⟩
  · obtain ⟨o, ho, b, rfl, hb, hj⟩ := key
    exact ⟨b, ho, hb, hj⟩
  rintro _ ⟨b, k, rfl, hbk, hk, hj⟩
  unfold treatyref01_Split_l71
  dsimp only
  by_cases hc : k < l.length
  · have hkr : k < rest.length := by omega
    have hbr : b < rest.length := by omega
    rw [if_pos (by simp; omega), chk_true (inb_nat hkr), chk_true (inb_nat hbr), ix_nat hkr, ix_nat hbr]
    have ek : rest.getD k 0 = rest[k] := by simp [hkr]
    have eb : rest.getD b 0 = rest[b] := by simp [hbr]
    by_cases hlt : rest[b] < rest[k]
    · rw [if_pos (by simpa using hlt), Option.bind_some, w64_id (by omega) (by omega)]
      have hkb : beats rest k b = true := by rw [beats_iff, ek, eb]; omega
      refine ⟨_, rfl, ⟨k, k + 1, rfl, by omega, by omega, fun j h1 h2 => ?_⟩, by dsimp only; omega⟩
      by_cases hjb : j = b
      · rw [hjb]; exact hkb
      · exact beats_trans hkb (hj j (by omega) hjb)
    · rw [if_neg (by simpa using hlt), Option.bind_some, w64_id (by omega) (by omega)]
      refine ⟨_, rfl, ⟨b, k + 1, rfl, by omega, by omega, fun j h1 h2 => ?_⟩, by dsimp only; omega⟩
      by_cases hjk : j = k
      · rw [hjk, beats_iff, ek, eb]; omega
      · exact hj j (by omega) h2
  · rw [if_neg (by simp; omega)]
    refine ⟨_, rfl, b, rfl, by omega, fun j h1 h2 => hj j (by omega) h2⟩
/-- the rests after k rounds -/
def restOf (rs : List Int) (k : Nat) : List Int := (List.range rs.length).map fun i => if rank rs i < k then -1 else rs.getD i 0
theorem restOf_length (rs : List Int) (k : Nat) : (restOf rs k).length = rs.length := by simp [restOf]
theorem restOf_zero (rs : List Int) : restOf rs 0 = rs := by
  apply List.ext_getElem
  · simp [restOf]
  · intro i h1 h2
    simp [restOf, h2]
theorem restOf_at {rs : List Int} {k i : Nat} (hi : i < rs.length) : (restOf rs k).getD i 0 = if rank rs i < k then -1 else rs.getD i 0 := by simp [restOf, hi]
theorem restOf_step {rs : List Int} {k i : Nat} (hr : rank rs i = k) (hinj : ∀ j, j < rs.length → rank rs j = k → j = i) : (restOf rs k).set i (-1) = restOf rs (k + 1) := by
  apply List.ext_getElem
  · simp [restOf]
  · intro j h1 h2
    rw [restOf_length] at h2
    rw [List.getElem_set]
    simp only [restOf, List.getElem_map, List.getElem_range]
    by_cases h : i = j
    · subst h
      rw [if_pos rfl, if_pos (by omega)]
    · rw [if_neg h]
      have : rank rs j ≠ k := fun e => h (hinj j (by omega) e).symm
      by_cases h3 : rank rs j < k
      · rw [if_pos h3, if_pos (by omega)]
      · rw [if_neg h3, if_neg (by omega)]
theorem give_ref {a : Int} {l : List Int} {W : Int} (h : DivOk a l W) : loopV (treatyref01_Split_l57 l) (quos a l W, rems a l W, leftOf a l W) = some (splitD a l W) := by
  obtain ⟨hb0, hb1⟩ := left_bounds h
  have hlen := h.len
  obtain ⟨L, _, hp, hs⟩ := sorted_idxs (rs := rems a l W) (by rw [rems_length]; omega)
  have hL : L.length = l.length := by rw [hp.length_eq, List.length_range, rems_length]
  obtain ⟨n, hn⟩ := Int.eq_ofNat_of_zero_le hb0
  have hr0 : ∀ i, i < l.length → 0 ≤ (rems a l W).getD i 0 := fun i hi => by
    simp only [rems, List.getD_eq_getElem?_getD, List.getElem?_map]
    simp [hi]
    exact Int.emod_nonneg _ (by have := h.pos; omega)
  have hd := loopV_done (step := treatyref01_Split_l57 l) (fun t => (given (quos a l W) (rems a l W) t, restOf (rems a l W) t, leftOf a l W - (t : Int))) n (splitD a l W) ?_ ?_
  · simpa [given_zero, restOf_zero] using hd
  · intro t ht
    have htL : t < L.length := by omega
    have hm : L[t] < l.length := by
      have := hp.mem_iff.1 (List.getElem_mem htL)
      simpa [rems_length] using this
    have hr := sorted_rank hp hs t htL
    have hat : ∀ i, i < l.length → ∃ m, ∃ hm : m < L.length, L[m] = i ∧ rank (rems a l W) i = m := by
      intro i hi
      have hi2 : i ∈ L := hp.mem_iff.2 (List.mem_range.2 (by rw [rems_length]; exact hi))
      obtain ⟨m, hm1, rfl⟩ := List.getElem_of_mem hi2
      exact ⟨m, hm1, rfl, sorted_rank hp hs m hm1⟩
    have hinj : ∀ i, i < (rems a l W).length → rank (rems a l W) i = t → i = L[t] := by
      intro i hi hri
      obtain ⟨m, hm1, e1, e2⟩ := hat i (by rwa [rems_length] at hi)
      have : m = t := by omega
      subst this
      exact e1.symm
    obtain ⟨o, ho, hol, hbest⟩ := best_loop (l := l) (qs := given (quos a l W) (rems a l W) t) (rest := restOf (rems a l W) t) (left := leftOf a l W - (t : Int)) (by rw [restOf_length, rems_length]) (by omega) hlen
    have hoL : o = L[t] := by
      refine Classical.byContradiction fun hne => ?_
      have hb := hbest L[t] hm (fun e => hne e.symm)
      obtain ⟨m, hm1, e1, e2⟩ := hat o hol
      have hne2 : m ≠ t := fun e => hne (by subst e; exact e1.symm)
      have h1 := hr0 L[t] hm
      rw [beats_iff, restOf_at (by rw [rems_length]; exact hm), restOf_at (by rw [rems_length]; exact hol), if_neg (by omega)] at hb
      by_cases hmt : m < t
      · rw [if_pos (by omega)] at hb
        omega
      · rw [if_neg (by omega), ← beats_iff] at hb
        have := List.pairwise_iff_getElem.1 hs t m htL hm1 (by omega)
        rw [e1] at this
        rw [beats_asymm this] at hb
        cases hb
    have hq : L[t] < (quos a l W).length := by rw [quos_length]; exact hm
    have hg := given_step (qs := quos a l W) (by rw [quos_length, rems_length]) hq hr hinj
    have hrs := restOf_step (rs := rems a l W) hr hinj
    have hqb := quo_bounds h _ (List.getElem_mem hq)
    unfold treatyref01_Split_l57
    dsimp only
    rw [if_pos (by simp; omega), ho, Option.bind_some, hoL, chk_true (inb_nat (by rw [given_length]; exact hq)), chk_true (inb_nat (by rw [restOf_length, rems_length]; exact hm)), Option.bind_some, ix_nat (by rw [given_length]; exact hq), given_at hq, hr, if_neg (by omega), w64_id (by omega) (by omega), w64_id (by omega) (by omega)]
    simp only [upd, Int.toNat_natCast, Int.add_zero, hg, hrs]
    congr 4
    all_goals omega
  · unfold treatyref01_Split_l57
    dsimp only
    rw [if_neg (by simp; omega)]
    unfold splitD
    rw [hn]
    rfl
/-! ### the whole -/
theorem refSplit_eq (a : Int) (l : List Int) : treatyref01_Split a l = some (splitS a l) := by
  unfold treatyref01_Split splitS
  by_cases h0 : l.length = 0
  · rw [if_pos (by simp [h0]), if_pos h0]
  · rw [if_neg (by simpa using h0), if_neg h0]
    by_cases h1 : 64 < l.length
    · rw [if_pos (by simp; omega), if_pos h1]
    · rw [if_neg (by simp; omega), if_neg h1, refWeights_eq (by omega), Option.bind_some]
      unfold treatyref01_Valid
      rw [Option.bind_some]
      by_cases hr : l.all okW = true
      · have hw := all_okW hr
        have hs := sum_le hw
        rw [hr]
        simp only [if_true]
        by_cases hv : -17592186044416 ≤ a ∧ a ≤ 17592186044416
        · have e1 : (decide (-17592186044416 ≤ a) && decide (a ≤ 17592186044416)) = true := by simp [hv]
          rw [e1]
          simp only [decide_true, Bool.not_true, Bool.false_eq_true, if_false, Option.bind_some, hv, and_self, not_true_eq_false, Bool.true_eq_false, or_self]
          by_cases hz : l.sum = 0
          · simp [hz]
          · rw [if_neg (by simpa using hz), if_neg hz]
            have c1 : decide (0 ≤ (l.length : Int)) = true := by simp
            have c2 : decide ((l.length : Int) ≤ 1000000000) = true := by simp; omega
            by_cases ha : 0 ≤ a
            · have hd : DivOk a l l.sum := ⟨ha, hv.2, hw, by omega, rfl, by omega⟩
              rw [if_neg (by simp; omega), if_pos ha, Option.bind_some, chk_true c1, chk_true c2, Option.bind_some]
              simp only [Int.toNat_natCast]
              rw [refFill hd, Option.bind_some]
              dsimp only
              rw [give_ref hd, Option.bind_some, if_neg (by simp; omega), Option.bind_some]
            · have hd : DivOk (-a) l l.sum := ⟨by omega, by omega, hw, by omega, rfl, by omega⟩
              rw [if_pos (by simp; omega), if_neg ha, w64_id (by omega) (by omega), Int.zero_sub, Option.bind_some, chk_true c1, chk_true c2, Option.bind_some]
              simp only [Int.toNat_natCast]
              rw [refFill hd, Option.bind_some]
              dsimp only
              rw [give_ref hd, Option.bind_some, if_pos (by simp; omega), negate_loop (p := splitD (-a) l l.sum) (by rw [splitD_length]; omega) (fun x hx => by have := splitD_bounds hd x hx; omega) (treatyref01_Split_l93 l) (fun q k => by
                unfold treatyref01_Split_l93
                simp [splitD_length])]
              rfl
        · have e1 : (decide (-17592186044416 ≤ a) && decide (a ≤ 17592186044416)) = false := by
            simp
            omega
          rw [e1]
          simp [hv]
      · have hr' := Bool.eq_false_iff.2 hr
        simp [hr']
end Go.Proofs.Ytlmhmpngjfjfhaa.Pl
