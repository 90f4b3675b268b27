/- CommuteLater (plain). -/
import Derived.Test.YtdenliplkmjmjaaLComMoves
namespace Go.Proofs.Ytdenliplkmjmjaa.Pl
open Go

theorem pickLoop {step : List GEntry × Int → Option ((List GEntry × Int) ⊕ List GEntry)} (l : List GEntry) (q : GEntry → Bool) (hl : l.length ≤ 65536) (h : ∀ k (hk : k < l.length) s, s.length ≤ k → step (s, (k : Int)) = some (.inl (s ++ [l[k]].filter q, ((k + 1 : Nat) : Int)))) (hend : ∀ s, step (s, (l.length : Int)) = some (.inr s)) : loopV step ([], 0) = some (l.filter q) := by
  have _ := hl
  have h2 := (foldLoop l (fun s e => s ++ [e].filter q) (fun k s => s.length ≤ k) [] (by simp) (fun k hk s hs => ⟨h k hk s hs, by
    have := List.length_filter_le q [l[k]]
    simp only [List.length_append, List.length_singleton] at this ⊢
    omega⟩) hend).1
  rw [h2]
  have : ∀ (l s : List GEntry), l.foldl (fun s e => s ++ [e].filter q) s = s ++ l.filter q := by
    intro l
    induction l with
    | nil => simp
    | cons x l ih =>
      intro s
      have e1 : (x :: l).filter q = [x].filter q ++ l.filter q := by rw [← List.filter_append]; rfl
      rw [List.foldl_cons, ih, e1, List.append_assoc]
  rw [this]
  simp
theorem filter1 (q : GEntry → Bool) (x : GEntry) : [x].filter q = if q x = true then [x] else [] := by
  by_cases h : q x = true
  · simp [h]
  · simp [h]
theorem treatylaw36_CommuteLater_law (a0 a1 : List Int) (a2 a3 : Int) (h0 : a0.length ≤ 9223372036854775807) (h1 : a1.length ≤ 9223372036854775807) : treatylaw36_CommuteLater a0 a1 a2 a3 = some true := by
  unfold treatylaw36_CommuteLater
  obtain ⟨e1, hk1⟩ := new_ok a0 h0
  obtain ⟨l, d1, e2, _, hM⟩ := ledger_ok hk1 6 (by omega)
  rw [show ((6 : Nat) : Int) = 6 from rfl] at e2
  obtain ⟨e3, hk2⟩ := new_ok a1 h1
  obtain ⟨x, d2, e4, _, hx1, hx2⟩ := target_ok hk2 12 (by omega)
  rw [show ((12 : Nat) : Int) = 12 from rfl] at e4
  have hw := hM.way
  have wl := hw.len
  have hid := id_ok a2
  have hip := id_ok a3
  obtain ⟨cs1, cs2, l3, c1, c2, c3, c4, c5, c6, c7, c8, c9⟩ := commute_sem hw (by omega) (by omega) (by omega) (by omega) (tr := w64 ((bAnd .i64 (w64 a2) 3) + 1)) (pa := w64 ((bAnd .i64 (w64 a3) 3) + 1)) (price := 0) (by omega) (by omega) (by omega) (by omega) (by omega) (by omega)
  have loop1 : ∀ (a : List GEntry) (z : Int), a.length ≤ 65536 → loopV (treatylaw36_CommuteLater_l32 a2 a3 (a, z)) ([], 0) = some (a.filter fun e => decide (e.Treaty = w64 ((bAnd .i64 (w64 a2) 3) + 1)) && decide (e.Party = w64 ((bAnd .i64 (w64 a3) 3) + 1)) && decide (e.Kind ≤ 3)) := fun a z ha => by
    refine pickLoop a _ ha (fun k hk s hs => ?_) (fun s => ?_)
    · unfold treatylaw36_CommuteLater_l32
      dsimp only
      rw [if_pos (decide_eq_true (by omega)), chk_of (inb_nat hk), ix_nat hk, w64_id (n := (k : Int) + 1) (by omega) (by omega)]
      by_cases hc : (decide (a[k].Treaty = w64 ((bAnd .i64 (w64 a2) 3) + 1)) && decide (a[k].Party = w64 ((bAnd .i64 (w64 a3) 3) + 1)) && decide (a[k].Kind ≤ 3)) = true
      · rw [if_pos hc, chk_of (room_of (by simp; omega)), Option.bind_some, filter1, if_pos hc]
        rfl
      · rw [if_neg hc, Option.bind_some, filter1, if_neg hc, List.append_nil]
        rfl
    · unfold treatylaw36_CommuteLater_l32
      dsimp only
      rw [if_neg (by simp)]
  have loop2 : ∀ (a : List GEntry) (z : Int), a.length ≤ 65536 → loopV (treatylaw36_CommuteLater_l51 a2 a3 (a, z)) ([], 0) = some (a.filter fun e => decide (e.Treaty = w64 ((bAnd .i64 (w64 a2) 3) + 1)) && decide (e.Party = w64 ((bAnd .i64 (w64 a3) 3) + 1))) := fun a z ha => by
    refine pickLoop a _ ha (fun k hk s hs => ?_) (fun s => ?_)
    · unfold treatylaw36_CommuteLater_l51
      dsimp only
      rw [if_pos (decide_eq_true (by omega)), chk_of (inb_nat hk), ix_nat hk, w64_id (n := (k : Int) + 1) (by omega) (by omega)]
      by_cases hc : (decide (a[k].Treaty = w64 ((bAnd .i64 (w64 a2) 3) + 1)) && decide (a[k].Party = w64 ((bAnd .i64 (w64 a3) 3) + 1))) = true
      · rw [if_pos hc, chk_of (room_of (by simp; omega)), Option.bind_some, filter1, if_pos hc]
        rfl
      · rw [if_neg hc, Option.bind_some, filter1, if_neg hc, List.append_nil]
        rfl
    · unfold treatylaw36_CommuteLater_l51
      dsimp only
      rw [if_neg (by simp)]
  generalize w64 ((bAnd .i64 (w64 a2) 3) + 1) = tr at hid c1 c5 c8 loop1 loop2 ⊢
  generalize w64 ((bAnd .i64 (w64 a3) 3) + 1) = pa at hip c1 c5 c8 loop1 loop2 ⊢
  have wl3 := c4.len
  have wla3 := c4.last
  have hz : ∀ g : GEntry, tot [⟨5, tr, pa, 0, 0⟩] g = 0 := fun g => by
    rw [tot_cons, tot_nil]
    split <;> rfl
  have c5' : ∀ g, g.Amount = 0 → tot (ents l3) g = if isR g = true then red tr pa (tot (ents l)) (tot (ents l)) g else tot (ents l) g := fun g hg => by
    rw [c5 g hg, hz]; omega
  have hxv : ∀ e ∈ x, vE e = true := fun e he => (hx2 e he).1.valid
  have hab := absA_EOk (l := x) fun e he => (hx2 e he).1
  have hxB : TotB x 412316860416 := TotB.of_abs (by omega)
  have hxB' : TotB x 2473901162496 := fun g hg => by have := hxB g hg; omega
  have hLB : TotB (ents l3) 1649267441664 := fun g hg => by have := c4.bd g hg; omega
  have hLB' : TotB (ents l3) 2473901162496 := fun g hg => by have := hLB g hg; omega
  -- u
  obtain ⟨u, u1, u2, u3⟩ := redirect_sem c4.ok hxv (by omega) (B := 2473901162496) (by omega) (by omega) hxB' hLB' (by omega) (tr := tr) (pa := pa) (by omega) (by omega) (by omega) (by omega)
  have hbd := red_bd2 (tr := tr) (pa := pa) (A := 412316860416) (B := 1649267441664) (by omega) hxB hLB
  obtain ⟨uv, ur⟩ := red_entries u2 hxv (ents_valid c4.ok) (show (2 * 412316860416 + 1649267441664 : Int) ≤ 17592186044416 by omega) hbd
  have huv : ∀ e ∈ u, vE e = true := fun e he => (uv e he).1
  have hur := ur fun e he => (hx2 e he).2
  have hut : ∀ g, g.Amount = 0 → tot u g = red tr pa (tot x) (tot (ents l3)) g := fun g hg => collT_tot u2 hg
  have huB : TotB u 2473901162496 := fun g hg => by
    rw [hut g hg]
    have := hbd g hg
    omega
  -- v
  obtain ⟨v, v1, v2, v3⟩ := redirect_sem c4.ok huv (by omega) (B := 2473901162496) (by omega) (by omega) huB hLB' (by omega) (tr := tr) (pa := pa) (by omega) (by omega) (by omega) (by omega)
  have hmw : ∀ g : GEntry, cm tr g = true → mt tr pa (wp pa g) = true := fun g hc => by
    simp only [cm, Bool.and_eq_true, decide_eq_true_eq] at hc
    simp only [mt, Bool.and_eq_true, decide_eq_true_eq]
    exact ⟨⟨hc.1.1, hc.1.2⟩, rfl⟩
  have huv2 : v = u := by
    refine v2.uniq (u2.congr fun g hg => ?_)
    have q1 := hut g hg
    have q2 := hut (wp pa g) hg
    have q3 : cm tr g = true → tot u (wp pa g) = st (tot (ents l3)) (wp pa g) := fun hc => by
      rw [q2]
      unfold red
      rw [if_pos (hmw g hc)]
    show red tr pa (tot x) (tot (ents l3)) g = red tr pa (tot u) (tot (ents l3)) g
    rw [← q1]
    unfold red
    by_cases hm : mt tr pa g = true
    · rw [if_pos hm, q1]
      unfold red
      rw [if_pos hm]
    · rw [if_neg hm]
      by_cases hc : cm tr g = true
      · rw [if_pos hc, q3 hc]
        omega
      · rw [if_neg hc]
  -- k
  obtain ⟨cs, s1, s2, s3, s4, s5⟩ := restate_sem c4.ok (by have := hw.closed; rw [c2]; omega) hur huv (by omega) (B := 2473901162496) (by omega) huB hLB' (by omega) (by omega)
  have hkt : ∀ g, g.Amount = 0 → tot (ents l3 ++ cs) g = if isR g = true then tot u g else tot (ents l3) g := fun g hg => by
    rw [tot_append, s4 g hg]
    split <;> omega
  have hkw := way_post c4 s2 (n := 374 + 169) (by omega) (by omega) (B' := 2473901162496) (fun g hg => by
    rw [hkt g hg]
    have q1 := huB g hg
    have q2 := hLB' g hg
    split <;> omega)
  have wlk := hkw.len
  obtain ⟨w, w1, w2, w3⟩ := redirect_sem hkw.ok hxv (by omega) (B := 2473901162496) (by omega) (by omega) hxB' hkw.bd (by omega) (tr := tr) (pa := pa) (by omega) (by omega) (by omega) (by omega)
  have hst : ∀ g, g.Amount = 0 → mt tr pa g = true → st (tot (ents l3 ++ cs)) g = st (tot (ents l3)) g := fun g hg hm => by
    have hr : isR g = true := by
      simp only [mt, Bool.and_eq_true] at hm
      exact hm.1.1
    unfold st
    by_cases h2 : g.Kind = 2
    · rw [if_pos h2, if_pos h2]
    · rw [if_neg h2, if_neg h2, hkt g hg, if_pos hr, hut g hg]
      unfold red st
      rw [if_pos hm, if_neg h2]
  have hwu : w = u := by
    refine w2.uniq (u2.congr fun g hg => ?_)
    rw [ents_post]
    unfold red
    by_cases hm : mt tr pa g = true
    · rw [if_pos hm, if_pos hm, hst g hg hm]
    · rw [if_neg hm, if_neg hm]
      by_cases hc : cm tr g = true
      · rw [if_pos hc, if_pos hc, hst (wp pa g) hg (hmw g hc)]
      · rw [if_neg hc, if_neg hc]
  -- a
  obtain ⟨a, b1, b2, b3⟩ := collect_ex (by rw [ents_len]; omega) (ents_valid c4.ok) (c4.bd.ok (by omega))
  rw [ents_len] at b3
  have ta := (ptotals_all c4.ok).trans b1
  have hbv := b2.valid (ents_valid c4.ok) (c4.bd.ok (by omega))
  have hsame : (a.filter fun e => decide (e.Treaty = tr) && decide (e.Party = pa) && decide (e.Kind ≤ 3)) = u.filter fun e => decide (e.Treaty = tr) && decide (e.Party = pa) := by
    refine strict_ext (b2.strict.filter _) (u2.strict.filter _) fun e => ?_
    rw [List.mem_filter, List.mem_filter, b2.T.mem, u2.mem]
    have hmt : isR e = true → e.Treaty = tr → e.Party = pa → mt tr pa (hd e) = true := fun q1 q2 q3 => by
      have q1' : isR (hd e) = true := q1
      have q2' : (hd e).Treaty = tr := q2
      have q3' : (hd e).Party = pa := q3
      simp [mt, q1', q2', q3']
    have hval : isR e = true → e.Treaty = tr → e.Party = pa → red tr pa (tot x) (tot (ents l3)) (hd e) = tot (ents l3) (hd e) := fun q1 q2 q3 => by
      unfold red st
      rw [if_pos (hmt q1 q2 q3)]
      by_cases h2 : (hd e).Kind = 2
      · rw [if_pos h2, c5' _ (hd_amount e), if_pos (show isR (hd e) = true from q1)]
        unfold red st
        rw [if_pos (hmt q1 q2 q3), if_pos h2]
      · rw [if_neg h2]
    constructor
    · rintro ⟨⟨p1, p2⟩, p3⟩
      simp only [Bool.and_eq_true, decide_eq_true_eq] at p3
      have hin : e ∈ a := (b2.T.mem e).2 ⟨p1, p2⟩
      have hh := (hbv e hin).1
      simp only [vE, headB, Bool.and_eq_true, decide_eq_true_eq] at hh
      have hk1 : 1 ≤ e.Kind := hh.1.1.1.1.1.1.1
      have hr : isR e = true := by
        have := p3.2
        have : e.Kind = 1 ∨ e.Kind = 2 ∨ e.Kind = 3 := by omega
        rcases this with h | h | h <;> simp [isR, h]
      refine ⟨⟨p1, ?_⟩, by simp [p3.1.1, p3.1.2]⟩
      rw [hval hr p3.1.1 p3.1.2]
      exact p2
    · rintro ⟨⟨p1, p2⟩, p3⟩
      simp only [Bool.and_eq_true, decide_eq_true_eq] at p3
      have hin : e ∈ u := (u2.mem e).2 ⟨p1, p2⟩
      have hr := hur e hin
      rw [hval hr p3.1 p3.2] at p2
      refine ⟨⟨p1, p2⟩, ?_⟩
      have hk3 : e.Kind ≤ 3 := by
        simp only [isR, Bool.or_eq_true, decide_eq_true_eq] at hr
        omega
      simp [p3.1, p3.2, hk3]
  have f1 := loop1 a 0 (by omega)
  have f2 := loop2 u 0 (by omega)
  rw [hsame] at f1
  subst huv2
  subst hwu
  have hul : (w.filter fun e => decide (e.Treaty = tr) && decide (e.Party = pa)).length ≤ w.length := List.length_filter_le _ _
  have e5 := sameEntries_refl w (by omega)
  have e6 := sameEntries_refl (w.filter fun e => decide (e.Treaty = tr) && decide (e.Party = pa)) (by omega)
  simp only [e1, e2, e3, e4, c1, u1, v1, s1, w1, ta, f1, f2, Option.bind_some, decide_true, Bool.not_true, Bool.or_self, Bool.false_eq_true, if_false, if_true, e5, e6, awake36]
end Go.Proofs.Ytdenliplkmjmjaa.Pl
