/- Inuring (plain): the made treaties. -/
import Derived.Test.YtfekcgnnhjmeiaaLIn8
namespace Go.Proofs.Ytfekcgnnhjmeiaa.Pl
open Go

theorem treaties_loop {d : GDeck} (hd : DOk d) {m : Nat} (hm : 1 ≤ m ∧ m ≤ 8) : Ok (loopV treatymade2_Treaties_l10 (d.L, d.At, [], 0, (m : Int))) fun s => DOk (GDeck.mk s.1 s.2.1) ∧ 1 ≤ s.2.2.length ∧ s.2.2.length ≤ 8 ∧ ∃ id, MOk s.2.2 id := by
  refine Ok.loop (fun s : List Int × Int × List GTreaty × Int × Int => ∃ n : Nat, s.2.2.2.2 = (n : Int) ∧ DOk (GDeck.mk s.1 s.2.1) ∧ MOk s.2.2.1 s.2.2.2.1 ∧ s.2.2.1.length + n = m) (fun s => s.2.2.2.2.toNat) ⟨m, rfl, hd, MOk.nil, by simp⟩ ?_
  rintro ⟨L, A, l, id, _⟩ ⟨n, e, hd, hl, hn⟩
  dsimp only at e hd hl hn
  subst e
  have h0 := hl.id0
  have hll : l.length ≤ 8 := by omega
  unfold treatymade2_Treaties_l10
  dsimp only
  refine Ok.ite (fun hc => ?_) fun hc => ?_
  · have hc' : 0 < n := by simpa using hc
    refine Ok.bind (P := fun s : List Int × Int × List GTreaty × Int => DOk (GDeck.mk s.1 s.2.1) ∧ MOk s.2.2.1 s.2.2.2 ∧ s.2.2.1.length = l.length + 1) ?_ fun s hs => ?_
    · refine (nextQ hd (n := 3) (by omega) (by omega)).bind fun r6 h6 => ?_
      have ei : w64 (id + w64 (1 + r6.1)) = id + (1 + r6.1) := by rw [w64_id (n := 1 + r6.1) (by omega) (by omega), w64_id (by omega) (by omega)]
      rw [ei]
      refine Ok.bind (P := fun s : List Int × Int × Bool => DOk (GDeck.mk s.1 s.2.1) ∧ (s.2.2 = true → ∃ q : Nat, q + 1 = l.length ∧ w64 ((l.length : Int) - 1) = (q : Int) ∧ ((ix l (q : Int)).Kind = 4 ∨ (ix l (q : Int)).Kind = 5) ∧ (ix l (q : Int)).Retention + (ix l (q : Int)).Limit < 536870912)) ?_ fun s23 h23 => ?_
      · refine Ok.ite (fun c1 => ?_) fun c1 => .some ⟨h6.2.2, fun hc => by cases hc⟩
        have hpos : 0 < l.length := by
          apply Nat.pos_of_ne_zero
          intro h
          rw [h] at c1
          exact absurd c1 (by decide)
        obtain ⟨q, hq⟩ : ∃ q, q + 1 = l.length := ⟨l.length - 1, by omega⟩
        have ew : w64 ((l.length : Int) - 1) = (q : Int) := by rw [w64_id (by omega) (by omega)]; omega
        have hin : inb l (w64 ((l.length : Int) - 1)) = true := by rw [ew]; exact inb_nat (by omega)
        refine Ok.ite (fun c2 => ?_) fun c2 => Ok.chk hin (.some ⟨h6.2.2, fun hc => by cases hc⟩)
        refine Ok.ite (fun c3 => ?_) fun c3 => Ok.chk hin (.some ⟨h6.2.2, fun hc => by cases hc⟩)
        refine (nextQ h6.2.2 (n := 2) (by omega) (by omega)).bind fun r8 h8 => ?_
        refine Ok.ite (fun c4 => Ok.chk hin (.some ⟨h8.2.2, fun hc => ?_⟩)) fun c4 => Ok.chk hin (.some ⟨h8.2.2, fun hc => by cases hc⟩)
        rw [ew] at c2 c3 hc
        have hk := (hl.ok q (by omega)).kind
        have hx := (hl.ok q (by omega)).ex (by simpa using c3)
        obtain ⟨_, _, _, _, x5, x6, _⟩ := hx
        have c2' : ¬ (ix l (q : Int)).Kind = 6 := by simpa using c2
        have c3' : 4 ≤ (ix l (q : Int)).Kind := by simpa using c3
        rw [w64_id (by omega) (by omega)] at hc
        exact ⟨q, hq, ew, by omega, by simpa using hc⟩
      · refine Ok.ite (fun c => ?_) fun c => ?_
        · obtain ⟨q, hq, ew, hk, hlt⟩ := h23.2 c
          rw [ew]
          have hx := (hl.ok q (by omega)).ex (by omega)
          obtain ⟨_, _, _, _, x5, x6, _⟩ := hx
          refine Ok.chk (inb_nat (by omega)) ?_
          refine (nextQ h23.1 (n := 2) (by omega) (by omega)).bind fun a ha => ?_
          refine (nextQ ha.2.2 (n := 40) (by omega) (by omega)).bind fun b hb => ?_
          refine (smallQ hb.2.2).bind fun c hc => ?_
          refine (nextQ hc.2.2 (n := 3) (by omega) (by omega)).bind fun d hd => ?_
          refine (smallQ hd.2.2).bind fun e he => ?_
          refine (nextQ he.2.2 (n := 3) (by omega) (by omega)).bind fun f hf => ?_
          refine (smallQ hf.2.2).bind fun g hg => ?_
          refine (partsQ hg.2.2).bind fun p hp => ?_
          have hab : 0 ≤ a.1 * b.1 ∧ a.1 * b.1 ≤ 39 := by
            have : a.1 = 0 ∨ a.1 = 1 := by omega
            rcases this with h | h <;> rw [h] <;> omega
          have half : ∀ x y : Int, 0 ≤ x → x < 3 → 0 ≤ y → y < 268435456 → 0 ≤ w64 (w64 (x.tdiv 2) * y) ∧ w64 (w64 (x.tdiv 2) * y) < 268435456 := by
            intro x y h1 h2 h3 h4
            have : x = 0 ∨ x = 1 ∨ x = 2 := by omega
            have e0 : w64 ((0 : Int).tdiv 2) = 0 := by decide
            have e1 : w64 ((1 : Int).tdiv 2) = 0 := by decide
            have e2 : w64 ((2 : Int).tdiv 2) = 1 := by decide
            rcases this with h | h | h <;> subst h
            · rw [e0, Int.zero_mul, w64_id (by omega) (by omega)]; omega
            · rw [e1, Int.zero_mul, w64_id (by omega) (by omega)]; omega
            · rw [e2, Int.one_mul, w64_id (by omega) (by omega)]; omega
          have h1 := half d.1 e.1 hd.1 hd.2.1 he.1 he.2.1
          have h2 := half f.1 g.1 hf.1 hf.2.1 hg.1 hg.2.1
          have er : w64 ((ix l (q : Int)).Retention + w64 ((ix l (q : Int)).Limit + w64 (a.1 * b.1))) = (ix l (q : Int)).Retention + ((ix l (q : Int)).Limit + a.1 * b.1) := by
            rw [w64_id (n := a.1 * b.1) (by omega) (by omega), w64_id (n := (ix l (q : Int)).Limit + a.1 * b.1) (by omega) (by omega), w64_id (by omega) (by omega)]
          have el : w64 (1 + c.1) = 1 + c.1 := w64_id (by omega) (by omega)
          rw [er, el]
          refine Ok.chk (room_of (by simp; omega)) (.some ⟨hp.1, ?_, by simp⟩)
          exact hl.layer hq hk ⟨by omega, by omega⟩ (by omega) ⟨by omega, by omega⟩ ⟨by omega, by omega⟩ ⟨h1.1, by omega⟩ ⟨h2.1, by omega⟩ hp.2
        · refine (nextQ h23.1 (n := 6) (by omega) (by omega)).bind fun r16 h16 => ?_
          have ek : w64 (1 + r16.1) = 1 + r16.1 := w64_id (by omega) (by omega)
          rw [ek]
          refine (treatyQ h16.2.2 (id := id + (1 + r6.1)) (kind := 1 + r16.1) (by omega)).bind fun T hT => ?_
          obtain ⟨hTd, hTb, hTp, hTx⟩ := hT
          refine Ok.bind (P := fun s : List Int × Int × Int × Int => DOk (GDeck.mk s.1 s.2.1) ∧ (1 + r16.1 ≤ 3 → s.2.2.1 = T.1.Retention ∧ s.2.2.2 = T.1.Limit) ∧ (4 ≤ 1 + r16.1 → (0 ≤ s.2.2.1 ∧ s.2.2.1 ≤ 1073741824) ∧ (1 ≤ s.2.2.2 ∧ s.2.2.2 ≤ 1073741824))) ?_ fun s45 h45 => ?_
          · refine Ok.ite (fun c => ?_) fun c => .some ⟨hTd, fun _ => ⟨rfl, rfl⟩, fun hc => absurd (by simpa using hc) c⟩
            refine (smallQ hTd).bind fun a ha => ?_
            refine (smallQ ha.2.2).bind fun b hb => ?_
            have c' : 4 ≤ 1 + r16.1 := by simpa using c
            refine .some ⟨hb.2.2, fun hc => absurd hc (by omega), fun _ => ⟨⟨by dsimp only; omega, by dsimp only; omega⟩, ?_⟩⟩
            dsimp only
            rw [w64_id (by omega) (by omega)]
            omega
          · refine Ok.bind (P := fun s : List Int × Int × List Int × List Int => DOk (GDeck.mk s.1 s.2.1) ∧ (s.2.2.1.length ≤ 3 ∧ AscI 0 15 none s.2.2.1) ∧ (s.2.2.2.length ≤ 3 ∧ AscI 0 15 none s.2.2.2)) ?_ fun s50 h50 => ?_
            · refine (nextQ h45.1 (n := 3) (by omega) (by omega)).bind fun a ha => ?_
              refine Ok.ite (fun _ => .some ⟨ha.2.2, ⟨by simp, trivial⟩, ⟨by simp, trivial⟩⟩) fun _ => .some ⟨ha.2.2, hTb.perils, hTb.areas⟩
            · rw [hTb.inu]
              refine (inures_loop hl (by omega) (L, A, l, id, (n : Int)) rfl T s45 s50 ⟨h50.2.1.1, h50.2.2.1⟩ h50.1).bind fun s hs => ?_
              refine Ok.chk (room_of (by simp; omega)) (.some ⟨hs.1, ?_, by simp⟩)
              have hid : (newT T.1 s50.2.2.1 s50.2.2.2 s45.2.2.1 s45.2.2.2 s.2.2).ID = id + (1 + r6.1) := hTb.hid
              have hto : TOk (newT T.1 s50.2.2.1 s50.2.2.2 s45.2.2.1 s45.2.2.2 s.2.2) := new_tok hTb (by omega) (by omega) hTp hTx h50.2.1 h50.2.2 ⟨by omega, hs.2.2.1, fun x hx => by
                obtain ⟨j, hj, e⟩ := hs.2.2.2.1 x hx
                have := hl.top j hj
                omega⟩ h45.2.1 h45.2.2
              have hsn := hl.snoc (t := newT T.1 s50.2.2.1 s50.2.2.2 s45.2.2.1 s45.2.2.2 s.2.2) (by omega) (by omega) hto (fun x hx => hs.2.2.2.1 x hx) (fun j hj hm => .inl (hs.2.2.2.2 j hj hm))
              rw [hid] at hsn
              exact hsn
    · refine .some ⟨⟨n - 1, ?_, hs.1, hs.2.1, by have := hs.2.2; dsimp only; omega⟩, ?_⟩
      · dsimp only
        rw [w64_id (by omega) (by omega)]
        omega
      · dsimp only
        rw [w64_id (by omega) (by omega)]
        omega
  · have : n = 0 := by
      have : ¬ 0 < n := by simpa using hc
      omega
    refine .some ⟨hd, by dsimp only; omega, by dsimp only; omega, id, hl⟩
theorem treatiesQ {d : GDeck} (hd : DOk d) : Ok (treatymade2_Treaties d 8) fun r => DOk r.2 ∧ 1 ≤ r.1.length ∧ r.1.length ≤ 8 ∧ ∃ id, MOk r.1 id := by
  unfold treatymade2_Treaties
  refine Ok.bind (P := fun s : List Int × Int × List GTreaty => DOk (GDeck.mk s.1 s.2.1) ∧ 1 ≤ s.2.2.length ∧ s.2.2.length ≤ 8 ∧ ∃ id, MOk s.2.2 id) ?_ fun s hs => .some hs
  refine (nextQ hd (n := 8) (by omega) (by omega)).bind fun r hr => ?_
  obtain ⟨m, hm⟩ := Int.eq_ofNat_of_zero_le (a := 1 + r.1) (by omega)
  have e : w64 (1 + r.1) = (m : Int) := by rw [w64_id (by omega) (by omega)]; exact hm
  rw [e]
  exact treaties_loop hr.2.2 (by omega)
/-! ### what is said of them -/
theorem MOk.uniq {l : List GTreaty} {id : Int} (h : MOk l id) : Uniq l := by
  intro i j hi hj e
  rcases Nat.lt_trichotomy i j with hc | hc | hc
  · have := h.asc i j hc hj; omega
  · exact hc
  · have := h.asc j i hc hi; omega
theorem MOk.tslen {l : List GTreaty} {id : Int} (h : MOk l id) : TsLen l := fun k hk => (h.ok k hk).len
theorem MOk.bel {l : List GTreaty} {id : Int} (h : MOk l id) : Below l := by
  intro i hi x hx
  obtain ⟨j, hj, e⟩ := h.below i hi x hx
  exact ⟨j, hj, by rw [← e]; exact idxOf_id h.uniq (by omega)⟩
theorem MOk.allOk {l : List GTreaty} {id : Int} (h : MOk l id) (hl : l.length ≤ 12) : AllOk l := by
  have hk := below_known h.bel
  refine ⟨hl, none_findSome fun k hk1 => ?_, none_findSome fun k hk1 => none_findSome fun j hj => ?_, below_acyclic h.bel, none_findSome fun i hi => none_findSome fun j hj => ?_⟩
  · unfold st1F
    rw [if_neg (not_not_intro (h.ok k hk1).valid), if_neg]
    rintro ⟨h1, h2⟩
    have := h.asc (k - 1) k (by omega) hk1
    omega
  · rw [if_neg]
    have := hk k hk1 _ (show ix (ix l (k : Int)).Inures (j : Int) ∈ _ by rw [ix_nat hj]; exact List.getElem_mem hj)
    rw [decide_eq_true_eq]
    omega
  · rw [if_neg]
    unfold clashS
    by_cases hm : meetS (ix l (i : Int)) (ix l (j : Int)) = true
    · rcases h.sep i j hj hi hm with hc | ⟨hc, hc2⟩
      · rw [decide_eq_true hc]
        simp
      · have hk4 : 4 ≤ (ix l (j : Int)).Kind := by
          unfold towerS at hc
          simp only [Bool.and_eq_true, Bool.or_eq_true, decide_eq_true_eq] at hc
          have := hc.1
          omega
        obtain ⟨_, _, _, _, x5, x6, _⟩ := (h.ok j (by omega)).ex hk4
        have : apartS (ix l (i : Int)) (ix l (j : Int)) = true := by
          unfold apartS
          rw [Bool.or_eq_true]
          right
          rw [w64_id (by omega) (by omega)]
          exact decide_eq_true hc2
        rw [hc, this]
        simp
    · rw [Bool.eq_false_iff.2 hm]
      simp
end Go.Proofs.Ytfekcgnnhjmeiaa.Pl
