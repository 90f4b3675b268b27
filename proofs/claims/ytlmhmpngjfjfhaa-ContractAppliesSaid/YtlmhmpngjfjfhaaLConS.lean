/- contract (plain): signed lines; the lists that the laws make; the sanity check. -/
import Derived.Test.YtlmhmpngjfjfhaaLCon
namespace Go.Proofs.Ytlmhmpngjfjfhaa.Pl
open Go

/-! ### reduced shares -/
def redS (w : List Int) (m : Int) : List Int := if w.sum ≤ m then w else splitD m w w.sum
structure ROk (w : List Int) (m : Int) : Prop where
  len : w.length ≤ 64
  val : ∀ x ∈ w, 0 ≤ x ∧ x ≤ 17592186044416
  m0 : 0 ≤ m
  m1 : m ≤ 17592186044416
theorem ROk.div {w : List Int} {m : Int} (h : ROk w m) (hs : ¬ w.sum ≤ m) : DivOk m w w.sum := ⟨h.m0, h.m1, h.val, h.len, rfl, by have := h.m0; omega⟩
theorem ROk.sok {w : List Int} {m : Int} (h : ROk w m) (hs : ¬ w.sum ≤ m) : SOk m w := ⟨by have := h.m0; omega, h.m1, h.val, h.len, by have := h.m0; omega⟩
theorem reduce_eq {w : List Int} {m : Int} (h : ROk w m) : split_Reduce w m = some (redS w m, 0) := by
  have hl := h.len
  have m0 := h.m0
  have m1 := h.m1
  have hr : split_inRange w = some true := by
    rw [inRange_eq (by omega)]
    congr 1
    exact List.all_eq_true.2 fun x hx => okW_iff.2 (h.val x hx)
  unfold split_Reduce redS
  rw [if_neg (by simp; omega), if_neg (by simp; omega), hr]
  simp only [Option.bind_some, Bool.not_true, Bool.false_eq_true, if_false, total_eq (show w.length ≤ 1000 by omega) h.val]
  by_cases hc : w.sum ≤ m
  · rw [if_pos (by simpa using hc), if_pos hc]
    unfold slices_Clone_s_int_int
    rw [chk_true (room_of (by omega)), Option.bind_some]
  · rw [if_neg (by simpa using hc), if_neg hc, split_ok (h.sok hc), Option.bind_some]
    unfold partsS
    rw [if_pos m0]
theorem redS_length (w : List Int) (m : Int) : (redS w m).length = w.length := by
  unfold redS
  split
  · rfl
  · exact splitD_length _ _ _
theorem redS_bounds {w : List Int} {m : Int} (h : ROk w m) {i : Nat} (hi : i < w.length) : 0 ≤ (redS w m)[i]'(by rw [redS_length]; exact hi) ∧ (redS w m)[i]'(by rw [redS_length]; exact hi) ≤ w[i] := by
  unfold redS
  by_cases hc : w.sum ≤ m
  · simp only [if_pos hc]
    exact ⟨(h.val _ (List.getElem_mem hi)).1, Int.le_refl _⟩
  · simp only [if_neg hc]
    exact ⟨(splitD_bounds (h.div hc) _ (List.getElem_mem (by rw [splitD_length]; exact hi))).1, splitD_le (h.div hc) (by omega) hi⟩
theorem redS_sum {w : List Int} {m : Int} (h : ROk w m) : (redS w m).sum = min w.sum m := by
  unfold redS
  by_cases hc : w.sum ≤ m
  · rw [if_pos hc]; omega
  · rw [if_neg hc, splitD_sum (h.div hc)]; omega
/-! ### signed lines -/
def pick (l : List GPart) (red : List Int) (i : Nat) : List GPart := if 0 < red.getD i 0 then [GPart.mk (l.getD i default).Party (red.getD i 0)] else []
def col (l : List GPart) (red : List Int) (k : Nat) : List GPart := (List.range k).flatMap (pick l red)
theorem col_succ (l : List GPart) (red : List Int) (k : Nat) : col l red (k + 1) = col l red k ++ pick l red k := by simp [col, List.range_succ]
theorem pick_length (l : List GPart) (red : List Int) (i : Nat) : (pick l red i).length ≤ 1 := by unfold pick; split <;> simp
theorem col_length (l : List GPart) (red : List Int) : ∀ k, (col l red k).length ≤ k
  | 0 => by simp [col]
  | k + 1 => by
    have h1 := col_length l red k
    have h2 := pick_length l red k
    rw [col_succ, List.length_append]
    omega
def signS (l : List GPart) (m : Int) : List GPart × Int :=
  if partsE l ≠ 0 ∧ partsE l ≠ 14 then ([], partsE l) else if ¬ (0 ≤ m ∧ m ≤ 1000000) then ([], 1) else (col l (redS (shs l) m) l.length, 0)
theorem sign_step {l : List GPart} {red : List Int} (hr : red.length = l.length) (hl : l.length ≤ 12) {k : Nat} (hk : k < l.length) :
    (chk (inb red (k : Int)) <| if (decide (0 < (ix red (k : Int)))) = true then (chk (inb l (k : Int)) <| chk (room (col l red k ++ [(GPart.mk (ix l (k : Int)).Party (ix red (k : Int)))]).length) <| some (col l red k ++ [(GPart.mk (ix l (k : Int)).Party (ix red (k : Int)))])) else (some (col l red k))) = some (col l red (k + 1)) := by
  have hk2 : k < red.length := by omega
  have hc := col_length l red k
  rw [chk_true (inb_nat hk2), ix_nat hk2, col_succ]
  have e1 : red.getD k 0 = red[k] := by simp [hk2]
  have e2 : l.getD k default = l[k] := by simp [hk]
  by_cases h : 0 < red[k]
  · rw [if_pos (by simpa using h), chk_true (inb_nat hk), chk_true (room_of (by simp; omega)), ix_nat hk]
    unfold pick
    rw [e1, e2, if_pos h]
  · rw [if_neg (by simpa using h)]
    unfold pick
    rw [e1, if_neg h, List.append_nil]
theorem sign_loop {l : List GPart} {red : List Int} (hr : red.length = l.length) (hl : l.length ≤ 12) : loopV (contract_Sign_l30 l (red, 0)) ([], 0) = some (col l red l.length) := by
  refine loopV_done (step := contract_Sign_l30 l (red, 0)) (fun k => (col l red k, (k : Int))) l.length (col l red l.length) ?_ ?_
  · intro k hk
    unfold contract_Sign_l30
    dsimp only
    rw [if_pos (by simp; omega), sign_step hr hl hk, Option.bind_some, w64_id (by omega) (by omega)]
    rfl
  · unfold contract_Sign_l30
    dsimp only
    rw [if_neg (by simp; omega)]
theorem rsign_loop {l : List GPart} {red : List Int} (hr : red.length = l.length) (hl : l.length ≤ 12) : loopV (treatyref20_Sign_l40 l (red, 0)) ([], 0) = some (col l red l.length) := by
  refine loopV_done (step := treatyref20_Sign_l40 l (red, 0)) (fun k => (col l red k, (k : Int))) l.length (col l red l.length) ?_ ?_
  · intro k hk
    unfold treatyref20_Sign_l40
    dsimp only
    rw [if_pos (by simp; omega), sign_step hr hl hk, Option.bind_some, w64_id (by omega) (by omega)]
    rfl
  · unfold treatyref20_Sign_l40
    dsimp only
    rw [if_neg (by simp)]
theorem POk.rok {l : List GPart} (h : POk l) {m : Int} (hm : 0 ≤ m ∧ m ≤ 1000000) : ROk (shs l) m := by
  obtain ⟨hb, _, _⟩ := shs_bounds h.asc.ok
  have hl := h.len
  exact ⟨by rw [shs_length]; omega, fun x hx => by have := hb x hx; omega, hm.1, by omega⟩
theorem sign_eq (l : List GPart) (m : Int) : contract_Sign l m = some (signS l m) := by
  unfold contract_Sign signS
  rw [parts_eq, Option.bind_some]
  rcases partsE_cases l with ⟨h, h1, _⟩ | ⟨e, h1, _, h3, h4⟩
  · have hl := h.len
    have hne : ¬ (partsE l ≠ 0 ∧ partsE l ≠ 14) := by rw [h1]; split <;> simp
    have hne' : ((!decide (partsE l = 0)) && (!decide (partsE l = 14))) = false := by
      rw [Bool.eq_false_iff]
      simpa using hne
    rw [hne', if_neg (by simp), if_neg hne, within3, Option.bind_some]
    by_cases hm : 0 ≤ m ∧ m ≤ 1000000
    · rw [if_neg (by simp [hm]), if_neg (by simpa using hm), shares_eq (by omega), Option.bind_some, reduce_eq (h.rok hm), Option.bind_some]
      dsimp only
      rw [if_neg (by simp), sign_loop (by rw [redS_length, shs_length]) hl]
      rfl
    · rw [if_pos (by simp; omega), if_pos hm]
  · rw [h1]
    simp [h3, h4]
theorem rshares_loop {l : List GPart} (hl : l.length ≤ 100) : loopV (treatyref20_Sign_l22 l) ([], 0) = some (shs l) := by
  have hd := loopV_done (step := treatyref20_Sign_l22 l) (fun k => ((shs l).take k, (k : Int))) l.length (shs l) ?_ ?_
  · simpa using hd
  · intro k hk
    have hks : k < (shs l).length := by rw [shs_length]; exact hk
    have hsl := shs_length l
    unfold treatyref20_Sign_l22
    dsimp only
    rw [if_pos (by simp; omega), chk_true (inb_nat hk), chk_true (room_of (by simp; omega)), ix_nat hk, w64_id (by omega) (by omega), List.take_succ_eq_append_getElem hks]
    simp [shs]
  · unfold treatyref20_Sign_l22
    dsimp only
    rw [if_neg (by simp), List.take_of_length_le (by rw [shs_length]; omega)]
theorem rreduce_eq {w : List Int} {m : Int} (h : ROk w m) : treatyref01_Reduce w m = some (redS w m, 0) := by
  have hl := h.len
  have m0 := h.m0
  have m1 := h.m1
  have hall : w.all okW = true := List.all_eq_true.2 fun x hx => okW_iff.2 (h.val x hx)
  unfold treatyref01_Reduce redS
  rw [if_neg (by simp; omega), refWeights_eq hl, hall, if_pos rfl, Option.bind_some]
  dsimp only
  rw [if_neg (by simp; omega)]
  by_cases hc : w.sum ≤ m
  · rw [if_pos (by simpa using hc), if_pos hc, chk_true (room_of (by omega))]
  · rw [if_neg (by simpa using hc), if_neg hc, refSplit_eq, splitS_ok (h.sok hc), Option.bind_some]
    unfold partsS
    rw [if_pos m0]
theorem rsign_eq (l : List GPart) (m : Int) : treatyref20_Sign l m = some (signS l m) := by
  unfold treatyref20_Sign signS
  rw [rparts_eq, Option.bind_some]
  rcases partsE_cases l with ⟨h, h1, h2⟩ | ⟨e, h1, h2, h3, h4⟩
  · have hl := h.len
    have hne : ¬ (partsE l ≠ 0 ∧ partsE l ≠ 14) := by rw [h1]; split <;> simp
    rw [h2, if_neg hne]
    dsimp only
    rw [if_neg (by simp)]
    by_cases hm : 0 ≤ m ∧ m ≤ 1000000
    · rw [if_neg (by simp; omega), if_neg (by simpa using hm), rshares_loop (by omega), Option.bind_some, rreduce_eq (h.rok hm), Option.bind_some, rsign_loop (by rw [redS_length, shs_length]) hl]
      rfl
    · rw [if_pos (by simp; omega), if_pos hm]
  · rw [h2, h1]
    simp [h3, h4]
theorem signS_length (l : List GPart) (m : Int) : (signS l m).1.length ≤ 12 := by
  unfold signS
  rcases partsE_cases l with ⟨h, h1, _⟩ | ⟨e, h1, _, h3, h4⟩
  · have hne : ¬ (partsE l ≠ 0 ∧ partsE l ≠ 14) := by rw [h1]; split <;> simp
    rw [if_neg hne]
    split
    · simp
    · have := col_length l (redS (shs l) m) l.length
      have hl := h.len
      dsimp only
      omega
  · rw [h1, if_pos ⟨h3, h4⟩]
    simp
theorem divideS_length (a : Int) (l : List GPart) : (divideS a l).1.length ≤ 64 := by
  unfold divideS
  split
  · simp
  · split
    · simp
    · unfold splitS
      repeat' split
      all_goals simp [splitD_length] <;> omega
theorem samePart {p q : GPart} : ([p.Party, p.Share] = [q.Party, q.Share]) ↔ p = q := by
  cases p; cases q; simp
theorem sameParts_refl {a : List GPart} (hl : a.length ≤ 1000000) : treatyref20_SameParts a a = some true := by
  unfold treatyref20_SameParts
  rw [if_neg (by simp)]
  have hd : loopV (treatyref20_SameParts_l12 a a) 0 = some (.inr ()) := by
    refine loopV_done (step := treatyref20_SameParts_l12 a a) (fun k => (k : Int)) a.length (.inr ()) ?_ ?_
    · intro k hk
      unfold treatyref20_SameParts_l12
      rw [if_pos (by simp; omega), chk_true (inb_nat hk), chk_true (inb_nat hk), if_neg (by simp), w64_id (by omega) (by omega)]
      rfl
    · unfold treatyref20_SameParts_l12
      rw [if_neg (by simp)]
  rw [hd]
  rfl
theorem conAwake_ok : treatylaw20_awake = some true := by
  unfold treatylaw20_awake
  have e1 : divideS 100 [GPart.mk 1 300000, GPart.mk 2 300000] = ([40, 30, 30], 0) := by decide
  have e2 : signS [GPart.mk 1 600000, GPart.mk 2 600000] 1000000 = ([GPart.mk 1 500000, GPart.mk 2 500000], 0) := by decide
  rw [divide_eq, e1, Option.bind_some, sign_eq, e2, Option.bind_some]
  simp only [decide_true, if_true]
  rw [sameInts_eq (by simp)]
  simp [chk, inb, ix]
/-! ### the lists that the laws make -/
theorem Asc.snoc : ∀ {l : List GPart} {q : Option Int} {p : GPart}, Asc q l → okP p = true → (∀ x, q = some x → x < p.Party) → (∀ x ∈ l, x.Party < p.Party) → Asc q (l ++ [p])
  | [], q, p, _, h1, h2, _ => ⟨h1, h2, trivial⟩
  | y :: t, q, p, h, h1, h2, h3 => ⟨h.1, h.2.1, Asc.snoc h.2.2 h1 (fun x hx => by cases hx; exact h3 y (by simp)) (fun x hx => h3 x (List.mem_cons_of_mem _ hx))⟩
structure PMade (l : List GPart) (n : Nat) : Prop where
  len : l.length ≤ n
  asc : Asc none l
theorem partsLoop : ∀ (k : Nat) (d : GDeck) (out : List GPart) (left party : Int), DOk d → out.length + k ≤ 4 → Asc none out → (∀ x ∈ out, x.Party ≤ party) → 0 ≤ party ∧ party ≤ 3 * (out.length : Int) → 0 ≤ left → (shs out).sum + left = 1000000 →
    ∃ (d' : GDeck) (r : List GPart), loopV treatymade_Deck_Parts_l10 (d.L, d.At, out, left, party, (k : Int)) = some (d'.L, d'.At, r) ∧ DOk d' ∧ r.length ≤ 4 ∧ Asc none r ∧ (shs r).sum ≤ 1000000
  | 0, d, out, left, party, hd, hl, ha, _, _, h0, hs => ⟨d, out, loopV_stop (by unfold treatymade_Deck_Parts_l10; simp), hd, by omega, ha, by omega⟩
  | k + 1, d, out, left, party, hd, hl, ha, hp, hp2, h0, hs => by
    obtain ⟨_, hs0, _⟩ := shs_bounds ha.ok
    by_cases hc : 0 < left
    · obtain ⟨v, d1, e1, a1, b1, h1⟩ := next_ok (d := ⟨d.L, d.At⟩) hd (n := 3) (by omega) (by omega)
      obtain ⟨u, d2, e2, a2, b2, h2⟩ := upto_ok h1 (n := left - 1) (by omega) (by omega)
      have hnew : okP (GPart.mk (party + 1 + v) (1 + u)) = true := okP_iff.2 ⟨⟨by dsimp only; omega, by dsimp only; omega⟩, by dsimp only; omega, by dsimp only; omega⟩
      have hst : treatymade_Deck_Parts_l10 (d.L, d.At, out, left, party, ((k + 1 : Nat) : Int)) = some (.inl (d2.L, d2.At, out ++ [GPart.mk (party + 1 + v) (1 + u)], left - (1 + u), party + 1 + v, (k : Int))) := by
        unfold treatymade_Deck_Parts_l10
        dsimp only
        rw [if_pos (by simp; omega), e1, Option.bind_some, w64_id (n := left - 1) (by omega) (by omega)]
        dsimp only
        rw [e2, Option.bind_some]
        dsimp only
        rw [w64_id (n := party + 1) (by omega) (by omega), w64_id (n := party + 1 + v) (by omega) (by omega), w64_id (n := 1 + u) (by omega) (by omega), w64_id (n := left - (1 + u)) (by omega) (by omega), chk_true (room_of (by simp; omega)), w64_id (by omega) (by omega)]
        congr 7
        omega
      obtain ⟨d3, r, h3, h4, h5, h6, h7⟩ := partsLoop k d2 (out ++ [GPart.mk (party + 1 + v) (1 + u)]) (left - (1 + u)) (party + 1 + v) h2 (by simp; omega) (ha.snoc hnew (fun x hx => by cases hx) (fun x hx => by have := hp x hx; dsimp only; omega)) (fun x hx => by
        rcases List.mem_append.1 hx with hx | hx
        · have := hp x hx; omega
        · simp at hx; subst hx; dsimp only; omega) (by simp; omega) (by omega) (by simp [shs] at hs ⊢; omega)
      exact ⟨d3, r, by rw [loopV_next hst, h3], h4, h5, h6, h7⟩
    · exact ⟨d, out, loopV_stop (by unfold treatymade_Deck_Parts_l10; rw [if_neg (by simp; omega)]), hd, by omega, ha, by omega⟩
theorem partsMade_ok {d : GDeck} (h : DOk d) : ∃ p d', treatymade_Deck_Parts d = some (p, d') ∧ DOk d' ∧ p.length ≤ 4 ∧ Asc none p ∧ (shs p).sum ≤ 1000000 := by
  unfold treatymade_Deck_Parts
  obtain ⟨v, d1, e1, a1, b1, h1⟩ := next_ok h (n := 5) (by omega) (by omega)
  obtain ⟨d2, r, h2, h3, h4⟩ := partsLoop v.toNat d1 [] 1000000 0 h1 (by simp; omega) trivial (fun x hx => by cases hx) (by simp) (by omega) (by simp [shs])
  have ev : ((v.toNat : Nat) : Int) = v := by omega
  rw [ev] at h2
  rw [e1, Option.bind_some]
  dsimp only
  rw [h2, Option.bind_some]
  exact ⟨r, _, rfl, h3, h4⟩
theorem writtenLoop : ∀ (k : Nat) (d : GDeck) (out : List GPart) (party : Int), DOk d → out.length + k ≤ 6 → Asc none out → (∀ x ∈ out, x.Party ≤ party) → 0 ≤ party ∧ party ≤ 2 * (out.length : Int) →
    ∃ (d' : GDeck) (r : List GPart), loopV treatylaw20_written_l10 (d.L, d.At, out, party, (k : Int)) = some (d'.L, d'.At, r) ∧ DOk d' ∧ r.length ≤ 6 ∧ Asc none r
  | 0, d, out, party, hd, hl, ha, _, _ => ⟨d, out, loopV_stop (by unfold treatylaw20_written_l10; simp), hd, by omega, ha⟩
  | k + 1, d, out, party, hd, hl, ha, hp, hp2 => by
    obtain ⟨v, d1, e1, a1, b1, h1⟩ := next_ok (d := ⟨d.L, d.At⟩) hd (n := 2) (by omega) (by omega)
    obtain ⟨u, d2, e2, a2, b2, h2⟩ := upto_ok h1 (n := 999999) (by omega) (by omega)
    have hnew : okP (GPart.mk (party + 1 + v) (1 + u)) = true := okP_iff.2 ⟨⟨by dsimp only; omega, by dsimp only; omega⟩, by dsimp only; omega, by dsimp only; omega⟩
    have hst : treatylaw20_written_l10 (d.L, d.At, out, party, ((k + 1 : Nat) : Int)) = some (.inl (d2.L, d2.At, out ++ [GPart.mk (party + 1 + v) (1 + u)], party + 1 + v, (k : Int))) := by
      unfold treatylaw20_written_l10
      dsimp only
      rw [if_pos (by simp), e1, Option.bind_some]
      dsimp only
      rw [e2, Option.bind_some]
      dsimp only
      rw [w64_id (n := party + 1) (by omega) (by omega), w64_id (n := party + 1 + v) (by omega) (by omega), w64_id (n := 1 + u) (by omega) (by omega), chk_true (room_of (by simp; omega)), w64_id (by omega) (by omega)]
      congr 6
      omega
    obtain ⟨d3, r, h3, h4, h5, h6⟩ := writtenLoop k d2 (out ++ [GPart.mk (party + 1 + v) (1 + u)]) (party + 1 + v) h2 (by simp; omega) (ha.snoc hnew (fun x hx => by cases hx) (fun x hx => by have := hp x hx; dsimp only; omega)) (fun x hx => by
      rcases List.mem_append.1 hx with hx | hx
      · have := hp x hx; omega
      · simp at hx; subst hx; dsimp only; omega) (by simp; omega)
    exact ⟨d3, r, by rw [loopV_next hst, h3], h4, h5, h6⟩
theorem written_ok {d : GDeck} (h : DOk d) : ∃ p d', treatylaw20_written d = some (p, d') ∧ DOk d' ∧ p.length ≤ 6 ∧ Asc none p := by
  unfold treatylaw20_written
  obtain ⟨v, d1, e1, a1, b1, h1⟩ := next_ok h (n := 7) (by omega) (by omega)
  obtain ⟨d2, r, h2, h3, h4⟩ := writtenLoop v.toNat d1 [] 0 h1 (by simp; omega) trivial (fun x hx => by cases hx) (by simp)
  have ev : ((v.toNat : Nat) : Int) = v := by omega
  rw [ev] at h2
  rw [e1, Option.bind_some]
  dsimp only
  rw [h2, Option.bind_some]
  exact ⟨r, _, rfl, h3, h4⟩
end Go.Proofs.Ytlmhmpngjfjfhaa.Pl
