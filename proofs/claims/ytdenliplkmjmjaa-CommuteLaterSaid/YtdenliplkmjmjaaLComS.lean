/- What Commute does to the totals; the chapter's example (plain). -/
import Derived.Test.YtdenliplkmjmjaaLCom
namespace Go.Proofs.Ytdenliplkmjmjaa.Pl
open Go

theorem red_bd2 {tr pa : Int} {T S : GEntry → Int} {A B : Int} (_hA : 0 ≤ A) (hT : ∀ g, g.Amount = 0 → -A ≤ T g ∧ T g ≤ A) (hS : ∀ g, g.Amount = 0 → -B ≤ S g ∧ S g ≤ B) : ∀ g, g.Amount = 0 → -(2 * A + B) ≤ red tr pa T S g ∧ red tr pa T S g ≤ 2 * A + B := fun g hg => by
  have b1 := hT g hg
  have b2 := hT (wp pa g) hg
  have b3 := hS g hg
  have b4 := hS (wp pa g) hg
  unfold red st
  split
  · split <;> omega
  · split
    · split <;> omega
    · omega
theorem red_self_bd {tr pa : Int} {S : GEntry → Int} {B : Int} (hB : 0 ≤ B) (hS : ∀ g, g.Amount = 0 → -B ≤ S g ∧ S g ≤ B) : ∀ g, g.Amount = 0 → -(2 * B) ≤ red tr pa S S g ∧ red tr pa S S g ≤ 2 * B := fun g hg => by
  have b3 := hS g hg
  have b4 := hS (wp pa g) hg
  unfold red st
  split
  · split <;> omega
  · split
    · split <;> omega
    · omega
theorem red_congr {tr pa : Int} {T T' S : GEntry → Int} (h : ∀ g, g.Amount = 0 → isR g = true → T g = T' g) {g : GEntry} (hg : g.Amount = 0) (hr : isR g = true) : red tr pa T S g = red tr pa T' S g := by
  have e1 := h g hg hr
  have e2 := h (wp pa g) hg hr
  unfold red
  rw [e1, e2]
theorem coll_single {e : GEntry} : Coll [e] (if e.Amount = 0 then [] else [e]) := by
  by_cases h : e.Amount = 0
  · rw [if_pos h]
    refine ⟨List.Pairwise.nil, fun x => ?_⟩
    simp only [List.not_mem_nil, false_iff, not_and]
    intro h0 hc
    rw [tot_cons, tot_nil] at hc
    split at hc <;> omega
  · rw [if_neg h]
    exact coll_one h
/-- Commute -/
theorem commute_sem {l : GLedger} {P : Nat} {B c : Int} (h : Way l P B c) (hc : c < 100) (hP : P ≤ 200) (hB0 : 0 ≤ B) (hB : B ≤ 1099511627776) {tr pa price : Int} (ht1 : 1 ≤ tr) (ht2 : tr ≤ 1048576) (hp1 : 1 ≤ pa) (hp2 : pa ≤ 15) (hq1 : 0 ≤ price) (hq2 : price ≤ 1099511627776) :
    ∃ cs1 cs2 l3, commute_Commute l tr pa price = some (l3, mkPost l.Closed (lastNo l.Postings + 1) cs1 ++ mkPost l.Closed (lastNo l.Postings + cs1.length + 1) cs2, 0) ∧ l3.Closed = l.Closed ∧ ents l3 = ents l ++ cs1 ++ cs2 ∧ Way l3 (7 * P + 1) (2 * B + price) c ∧
      (∀ g, g.Amount = 0 → tot (ents l3) g = (if isR g = true then red tr pa (tot (ents l)) (tot (ents l)) g else tot (ents l) g) + tot [⟨5, tr, pa, 0, price⟩] g) ∧
      StrictE cs1 ∧ (∀ e ∈ cs1, e.Amount ≠ 0) ∧ (∀ g, g.Amount = 0 → tot cs1 g = if isR g = true then red tr pa (tot (ents l)) (tot (ents l)) g - tot (ents l) g else 0) ∧ cs2 = (if price = 0 then [] else [⟨5, tr, pa, 0, price⟩]) := by
  have h0 := h.closed
  have h1 := h.len
  have h2 := h.last
  have hev := ents_valid h.ok
  have hel := ents_len l
  obtain ⟨T0, t1, t2, t3⟩ := collect_ex (by omega) hev (h.bd.ok (by omega))
  have htv := t2.valid hev (h.bd.ok (by omega))
  have hfl := List.length_filter_le isR T0
  have hft : ∀ g, g.Amount = 0 → tot (T0.filter isR) g = if isR g = true then tot (ents l) g else 0 := fun g hg => by
    rw [tot_isR, coll_tot t2 g hg]
  have hfv : ∀ e ∈ T0.filter isR, vE e = true := fun e he => (htv e (List.mem_filter.1 he).1).1
  have hfr : ∀ e ∈ T0.filter isR, isR e = true := fun e he => (List.mem_filter.1 he).2
  have hfB : TotB (T0.filter isR) B := fun g hg => by
    rw [hft g hg]
    have := h.bd g hg
    split <;> omega
  obtain ⟨r, r1, r2, r3⟩ := redirect_sem h.ok hfv (by omega) hB0 (by omega) hfB h.bd (by omega) ht1 ht2 hp1 hp2
  have hbd := red_bd2 (tr := tr) (pa := pa) hB0 hfB h.bd
  obtain ⟨rv, rr⟩ := red_entries r2 hfv hev (show 2 * B + B ≤ 17592186044416 by omega) hbd
  have hred : ∀ g, g.Amount = 0 → isR g = true → red tr pa (tot (T0.filter isR)) (tot (ents l)) g = red tr pa (tot (ents l)) (tot (ents l)) g := fun g hg hr => red_congr (fun x hx hxr => by rw [hft x hx, if_pos hxr]) hg hr
  have hrt : TotB r (3 * B) := fun g hg => by
    rw [collT_tot r2 hg]
    have := hbd g hg
    omega
  have hL3 : TotB (ents l) (3 * B) := fun g hg => by have := h.bd g hg; omega
  obtain ⟨cs1, s1, s2, s3, s4, s5⟩ := restate_sem h.ok (by omega) (rr hfr) (fun e he => (rv e he).1) (by omega) (B := 3 * B) (by omega) hrt hL3 (by omega) (by omega)
  have s4' : ∀ g, g.Amount = 0 → tot cs1 g = if isR g = true then red tr pa (tot (ents l)) (tot (ents l)) g - tot (ents l) g else 0 := fun g hg => by
    rw [s4 g hg]
    split
    · rename_i hr
      rw [collT_tot r2 hg, hred g hg hr]
    · rfl
  have hself := red_self_bd (tr := tr) (pa := pa) hB0 h.bd
  have hsum : ∀ g, g.Amount = 0 → tot (ents l ++ cs1) g = if isR g = true then red tr pa (tot (ents l)) (tot (ents l)) g else tot (ents l) g := fun g hg => by
    rw [tot_append, s4' g hg]
    split <;> omega
  have hw2 := way_post h s2 (n := 6 * P) (by omega) (by omega) (B' := 2 * B) (fun g hg => by
    rw [hsum g hg]
    have a := hself g hg
    have b := h.bd g hg
    split <;> omega)
  have hev5 : vE ⟨5, tr, pa, 0, price⟩ = true := by
    simp only [vE, headB, vAmt, Bool.and_eq_true, decide_eq_true_eq]
    refine ⟨⟨⟨⟨⟨⟨⟨by omega, by omega⟩, by omega⟩, by omega⟩, by omega⟩, by omega⟩, ?_⟩, by omega, by omega⟩
    rw [if_neg (by omega)]
    simp
  have h5 : TotB [⟨5, tr, pa, 0, price⟩] price := fun g hg => by
    rw [tot_cons, tot_nil]
    have : (GEntry.mk 5 tr pa 0 price).Amount = price := rfl
    rw [this]
    split <;> omega
  have w2 := hw2.len
  have w3 := hw2.last
  obtain ⟨cs2, p1, p2, p3, p4⟩ := post_sem hw2.ok (by show l.Closed ≠ 100; omega) (es := [⟨5, tr, pa, 0, price⟩]) (fun e he => by rw [List.mem_singleton.1 he]; exact hev5) (by simp) (h5.ok (by omega)) (by omega) (by omega)
  have hcs2 : cs2 = (if price = 0 then [] else [⟨5, tr, pa, 0, price⟩]) := p4.uniq coll_single
  have hw3 := way_post hw2 p2 (n := 1) (by simpa using p3) (by omega) (B' := 2 * B + price) (fun g hg => by
    rw [tot_append, coll_tot p4 g hg]
    have a := hw2.bd g hg
    have b := h5 g hg
    omega)
  rw [show lastNo (GLedger.mk l.Closed (l.Postings ++ mkPost l.Closed (lastNo l.Postings + 1) cs1)).Postings = lastNo l.Postings + cs1.length from lastNo_post h.ok cs1] at p1 hw3
  have hE : ents ⟨l.Closed, (l.Postings ++ mkPost l.Closed (lastNo l.Postings + 1) cs1) ++ mkPost l.Closed (lastNo l.Postings + cs1.length + 1) cs2⟩ = ents l ++ cs1 ++ cs2 := by
    simp only [ents, List.map_append, mkPost_entries]
  refine ⟨cs1, cs2, ⟨l.Closed, (l.Postings ++ mkPost l.Closed (lastNo l.Postings + 1) cs1) ++ mkPost l.Closed (lastNo l.Postings + cs1.length + 1) cs2⟩, ?_, rfl, hE, hw3.mono (by omega) (by omega) (by omega), fun g hg => ?_, s5, fun e he => (s2 e he).2, s4', hcs2⟩
  · unfold commute_Commute
    rw [pvalidate_ok h.ok, Option.bind_some, if_neg (by simp), if_neg (by simp; omega), ptotals_all h.ok, t1, Option.bind_some]
    dsimp only
    rw [if_neg (by simp), delete_eq T0 (by omega), Option.bind_some, r1, Option.bind_some]
    dsimp only
    rw [if_neg (by simp), s1, Option.bind_some]
    dsimp only
    rw [if_neg (by simp), p1, Option.bind_some]
    dsimp only
    rw [if_neg (by simp), chk_of (decide_eq_true (by omega)), chk_of (decide_eq_true (by simp; omega))]
    unfold slices_Clone_s_api_Posting_api_Posting
    have e1 : ((l.Postings ++ mkPost l.Closed (lastNo l.Postings + 1) cs1) ++ mkPost l.Closed (lastNo l.Postings + cs1.length + 1) cs2).drop (l.Postings.length : Int).toNat = mkPost l.Closed (lastNo l.Postings + 1) cs1 ++ mkPost l.Closed (lastNo l.Postings + cs1.length + 1) cs2 := by
      rw [Int.toNat_natCast, List.append_assoc, List.drop_left]
    rw [e1, chk_of (room_of (by simp [mkPost_length] at s3 p3 ⊢; omega))]
    rfl
  · rw [hE, tot_append, hsum g hg, coll_tot p4 g hg]
/-! ### the example -/
theorem collT_of_tot {D : GEntry → Int} {r : List GEntry} (hs : StrictE r) (h0 : ∀ e ∈ r, e.Amount ≠ 0) (h : ∀ g, g.Amount = 0 → tot r g = D g) : CollT D r := by
  refine ⟨hs, fun e => ⟨fun he => ⟨h0 e he, ?_⟩, fun ⟨h1, h2⟩ => ?_⟩⟩
  · rw [← h _ (hd_amount e), tot_strict hs he]
  · rw [← h _ (hd_amount e)] at h2
    obtain ⟨y, hy, hye⟩ := tot_ne (l := r) (g := hd e) (by rw [h2]; exact h1)
    have h3 := tot_strict hs hy
    rw [hye, h2] at h3
    have : y = e := by rw [← withA_hd y, ← withA_hd e, hye, h3]
    exact this ▸ hy
theorem collT_dec {D : GEntry → Int} {r cand : List GEntry} (hs : StrictE r) (h1 : ∀ e ∈ r, e.Amount ≠ 0 ∧ D (hd e) = e.Amount) (h2 : ∀ g, g.Amount = 0 → D g ≠ 0 → g ∈ cand) (h3 : ∀ g ∈ cand, D g ≠ 0 → ∃ e ∈ r, hd e = g) : CollT D r := by
  refine ⟨hs, fun e => ⟨h1 e, fun ⟨a, b⟩ => ?_⟩⟩
  have hD : D (hd e) ≠ 0 := by rw [b]; exact a
  obtain ⟨y, hy, hye⟩ := h3 _ (h2 _ (hd_amount e) hD) hD
  have h4 := (h1 y hy).2
  rw [hye, b] at h4
  have : y = e := by rw [← withA_hd y, ← withA_hd e, hye, h4]
  exact this ▸ hy
theorem red_supp {tr pa : Int} {t p : List GEntry} {g : GEntry} (hg : g.Amount = 0) (h : red tr pa (tot t) (tot p) g ≠ 0) : g ∈ (t ++ p).map hd ++ (t ++ p).map (fun e => c0 (hd e)) := by
  have hin : ∀ x : GEntry, tot t x ≠ 0 ∨ tot p x ≠ 0 → ∃ y ∈ t ++ p, hd y = x := fun x hx => by
    rcases hx with hx | hx
    · obtain ⟨y, hy, e⟩ := tot_ne hx
      exact ⟨y, List.mem_append_left _ hy, e⟩
    · obtain ⟨y, hy, e⟩ := tot_ne hx
      exact ⟨y, List.mem_append_right _ hy, e⟩
  have h1 : tot t g ≠ 0 ∨ tot p g ≠ 0 → g ∈ (t ++ p).map hd ++ (t ++ p).map (fun e => c0 (hd e)) := fun hx => by
    obtain ⟨y, hy, e⟩ := hin g hx
    exact List.mem_append_left _ (List.mem_map.2 ⟨y, hy, e⟩)
  unfold red at h
  split at h
  · refine h1 (.inr fun hc => h ?_)
    unfold st
    rw [hc]
    split <;> rfl
  · split at h
    · rename_i hm
      simp only [cm, Bool.and_eq_true, decide_eq_true_eq] at hm
      by_cases a : tot t g = 0
      · have b : tot t (wp pa g) ≠ 0 ∨ tot p (wp pa g) ≠ 0 := by
          apply Classical.byContradiction
          intro hc
          simp only [not_or, Classical.not_not] at hc
          apply h
          unfold st
          rw [a, hc.1, hc.2]
          split <;> rfl
        obtain ⟨y, hy, e⟩ := hin _ b
        refine List.mem_append_right _ (List.mem_map.2 ⟨y, hy, ?_⟩)
        rw [e]
        obtain ⟨a1, a2, a3, a4, a5⟩ := g
        simp only at hm
        simp only [c0, wp, hm.2]
      · exact h1 (.inl a)
    · exact h1 (.inl h)
theorem awake36 : treatylaw36_awake = some true := by
  unfold treatylaw36_awake
  have hx : ∀ e ∈ [(GEntry.mk 1 5 2 7 30), (GEntry.mk 2 5 2 7 20)], vE e = true := by decide
  have hC : Coll [(GEntry.mk 1 5 2 7 30), (GEntry.mk 2 5 2 7 20)] [(GEntry.mk 1 5 2 7 30), (GEntry.mk 2 5 2 7 20)] := by
    have := collT_dec (D := tot [(GEntry.mk 1 5 2 7 30), (GEntry.mk 2 5 2 7 20)]) (r := [(GEntry.mk 1 5 2 7 30), (GEntry.mk 2 5 2 7 20)]) (cand := [(GEntry.mk 1 5 2 7 30), (GEntry.mk 2 5 2 7 20)].map hd) (by unfold StrictE; decide) (by decide) (fun g _ hg => by
      obtain ⟨y, hy, e⟩ := tot_ne hg
      exact List.mem_map.2 ⟨y, hy, e⟩) (by decide)
    exact ⟨this.strict, this.mem⟩
  have hT : TotB [(GEntry.mk 1 5 2 7 30), (GEntry.mk 2 5 2 7 20)] 50 := TotB.of_abs (by decide)
  have h1 := collect_fine (by simp) hx (hT.ok (by omega)) hC
  have hp := ppost_eq lok_nil h1 (by simp)
  have hp' : ledger_Post ⟨0, []⟩ [(GEntry.mk 1 5 2 7 30), (GEntry.mk 2 5 2 7 20)] = some (⟨0, mkPost 0 1 [(GEntry.mk 1 5 2 7 30), (GEntry.mk 2 5 2 7 20)]⟩, 0) := by
    rw [hp]
    rfl
  have hw : Way ⟨0, mkPost 0 1 [(GEntry.mk 1 5 2 7 30), (GEntry.mk 2 5 2 7 20)]⟩ 2 50 0 := by
    have w0 : Way ⟨0, []⟩ 0 50 0 := ⟨lok_nil, by decide, by decide, by decide, fun g _ => by simp [ents, tot_nil]⟩
    exact way_post w0 (cs := [(GEntry.mk 1 5 2 7 30), (GEntry.mk 2 5 2 7 20)]) (by decide) (n := 2) (by simp) (by omega) (B' := 50) hT
  obtain ⟨cs1, cs2, l3, c1, c2, c3, c4, c5, c6, c7, c8, c9⟩ := commute_sem hw (by omega) (by omega) (by omega) (by omega) (tr := 5) (pa := 2) (price := 18) (by omega) (by omega) (by omega) (by omega) (by omega) (by omega)
  have hE : ents ⟨0, mkPost 0 1 [(GEntry.mk 1 5 2 7 30), (GEntry.mk 2 5 2 7 20)]⟩ = [(GEntry.mk 1 5 2 7 30), (GEntry.mk 2 5 2 7 20)] := mkPost_entries _ _ _
  rw [hE] at c3 c5 c8
  have hcs1 : cs1 = [(GEntry.mk 2 5 0 7 20), (GEntry.mk 2 5 2 7 (-20))] := by
    refine (collT_of_tot c6 c7 c8).uniq (collT_dec (cand := ([(GEntry.mk 1 5 2 7 30), (GEntry.mk 2 5 2 7 20)] ++ [(GEntry.mk 1 5 2 7 30), (GEntry.mk 2 5 2 7 20)]).map hd ++ ([(GEntry.mk 1 5 2 7 30), (GEntry.mk 2 5 2 7 20)] ++ [(GEntry.mk 1 5 2 7 30), (GEntry.mk 2 5 2 7 20)]).map (fun e => c0 (hd e))) (by unfold StrictE; decide) (by decide) (fun g hg hD => ?_) (by decide))
    by_cases hr : isR g = true
    · rw [if_pos hr] at hD
      by_cases h0 : red 5 2 (tot [(GEntry.mk 1 5 2 7 30), (GEntry.mk 2 5 2 7 20)]) (tot [(GEntry.mk 1 5 2 7 30), (GEntry.mk 2 5 2 7 20)]) g = 0
      · have hS : tot [(GEntry.mk 1 5 2 7 30), (GEntry.mk 2 5 2 7 20)] g ≠ 0 := fun hc => hD (by rw [h0, hc]; rfl)
        obtain ⟨y, hy, e⟩ := tot_ne hS
        exact List.mem_append_left _ (List.mem_map.2 ⟨y, List.mem_append_left _ hy, e⟩)
      · exact red_supp hg h0
    · rw [if_neg hr] at hD
      exact absurd rfl hD
  have hcs2 : cs2 = [⟨5, 5, 2, 0, 18⟩] := by rw [c9]; decide
  subst hcs1 hcs2
  -- the last Redirect
  have hy : ∀ e ∈ [(GEntry.mk 1 5 2 7 30), (GEntry.mk 2 5 2 7 30)], vE e = true := by decide
  have hTy : TotB [(GEntry.mk 1 5 2 7 30), (GEntry.mk 2 5 2 7 30)] 118 := TotB.of_abs (by decide)
  have d1 := c4.len
  obtain ⟨r, r1, r2, r3⟩ := redirect_sem c4.ok hy (by simp) (B := 118) (by omega) (by omega) hTy c4.bd (by omega) (tr := 5) (pa := 2) (by omega) (by omega) (by omega) (by omega)
  have hr : r = [(GEntry.mk 1 5 2 7 30), (GEntry.mk 2 5 0 7 30)] := by
    refine r2.uniq ?_
    rw [c3]
    exact collT_dec (by unfold StrictE; decide) (by decide) (fun g hg hD => red_supp hg hD) (by decide)
  rw [hp', Option.bind_some]
  dsimp only
  rw [c1, Option.bind_some]
  dsimp only
  rw [r1, Option.bind_some, hr]
  have e4 := sameEntries_refl [(GEntry.mk 1 5 2 7 30), (GEntry.mk 2 5 0 7 30)] (by simp)
  simp [mkPost, ix, inb, chk, e4]
end Go.Proofs.Ytdenliplkmjmjaa.Pl
