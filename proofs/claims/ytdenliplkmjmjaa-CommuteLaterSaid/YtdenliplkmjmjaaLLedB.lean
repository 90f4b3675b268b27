/- The program's ledger functions, as plain functions of lists (plain). -/
import Derived.Test.YtdenliplkmjmjaaLColl
import Derived.Test.YtdenliplkmjmjaaLMade
namespace Go.Proofs.Ytdenliplkmjmjaa.Pl
open Go

/-! ### which ledgers are valid -/
theorem validate_full (l : GLedger) : ∃ e, treatyref33_Validate l = some e ∧ (e = 0 → LOk l) := by
  unfold treatyref33_Validate
  by_cases h : l.Closed < 0 ∨ 100 < l.Closed ∨ 65536 < l.Postings.length
  · refine ⟨4, by rw [if_pos (by simp; omega)], fun h => absurd h (by decide)⟩
  · rw [if_neg (by simp; omega)]
    have key := loopV_inv (step := treatyref33_Validate_l12 l) (fun s => ∃ k : Nat, s = (k : Int) ∧ k ≤ l.Postings.length ∧ (∀ j (hj : j < l.Postings.length), j < k → vE l.Postings[j].Entry = true ∧ l.Postings[j].Entry.Amount ≠ 0 ∧ 1 ≤ l.Postings[j].Number ∧ l.Postings[j].Number ≤ 65536 ∧ 0 ≤ l.Postings[j].Period ∧ l.Postings[j].Period ≤ l.Closed) ∧ ∀ j (hj : j + 1 < l.Postings.length), j + 1 < k → (l.Postings[j]).Number < (l.Postings[j + 1]).Number ∧ (l.Postings[j]).Period ≤ (l.Postings[j + 1]).Period)
      (fun s => l.Postings.length - s.toNat) (fun o => (∃ e, o = .inl e ∧ e ≠ 0) ∨ (o = .inr () ∧ LOk l)) ?_ 0 ⟨0, rfl, by omega, fun j _ h => by omega, fun j _ h => by omega⟩
    · obtain ⟨o, ho, hq⟩ := key
      rw [ho]
      rcases hq with ⟨e, rfl, he⟩ | ⟨rfl, hp⟩
      · exact ⟨e, rfl, fun h => absurd h he⟩
      · exact ⟨0, rfl, fun _ => hp⟩
    rintro _ ⟨k, rfl, hk, hj, ho⟩
    unfold treatyref33_Validate_l12
    by_cases hkl : k < l.Postings.length
    · rw [if_pos (by simp; omega), chk_of (inb_nat hkl), ix_nat hkl, rvalid_eq, Option.bind_some]
      by_cases hb : ((((((!vE l.Postings[k].Entry) || (decide (l.Postings[k].Entry.Amount = 0))) || (decide (l.Postings[k].Number < 1))) || (decide (65536 < l.Postings[k].Number))) || (decide (l.Postings[k].Period < 0))) || (decide (l.Closed < l.Postings[k].Period))) = true
      · rw [if_pos hb]
        exact ⟨_, rfl, .inl ⟨1, rfl, by decide⟩⟩
      · rw [if_neg hb]
        have hfa : vE l.Postings[k].Entry = true ∧ l.Postings[k].Entry.Amount ≠ 0 ∧ 1 ≤ l.Postings[k].Number ∧ l.Postings[k].Number ≤ 65536 ∧ 0 ≤ l.Postings[k].Period ∧ l.Postings[k].Period ≤ l.Closed := by
          simp at hb
          exact ⟨hb.1.1.1.1.1, hb.1.1.1.1.2, by omega, by omega, by omega, by omega⟩
        have hs : ∃ b : Bool, (if (decide (0 < (k : Int))) = true then (if (decide (l.Postings[k].Number ≤ (ix l.Postings (w64 ((k : Int) - 1))).Number)) = true then (chk (inb l.Postings (w64 ((k : Int) - 1))) <| some true) else (chk (inb l.Postings (w64 ((k : Int) - 1))) <| some (decide (l.Postings[k].Period < (ix l.Postings (w64 ((k : Int) - 1))).Period)))) else (some false)) = some b ∧ (b = false → ∀ h0 : 0 < k, (l.Postings[k - 1]).Number < (l.Postings[k]).Number ∧ (l.Postings[k - 1]).Period ≤ (l.Postings[k]).Period) := by
          by_cases h0 : 0 < k
          · have hin : inb l.Postings (w64 ((k : Int) - 1)) = true := by
              rw [w64_pred k h0 (by omega)]
              exact inb_nat (by omega)
            rw [if_pos (by simp; omega), chk_of hin, chk_of hin]
            have hix : ix l.Postings (w64 ((k : Int) - 1)) = l.Postings[k - 1] := by rw [w64_pred k h0 (by omega), ix_nat (by omega)]
            rw [hix]
            by_cases hn : l.Postings[k].Number ≤ l.Postings[k - 1].Number
            · exact ⟨true, by rw [if_pos (by simpa using hn)], fun h => by cases h⟩
            · refine ⟨decide (l.Postings[k].Period < l.Postings[k - 1].Period), by rw [if_neg (by simpa using hn)], fun h _ => ?_⟩
              have : ¬ l.Postings[k].Period < l.Postings[k - 1].Period := by simpa using h
              omega
          · exact ⟨false, by rw [if_neg (by simp; omega)], fun _ h => absurd h h0⟩
        obtain ⟨b, eb, hbf⟩ := hs
        rw [eb, Option.bind_some]
        cases b
        · rw [if_neg (by simp), w64_id (by omega) (by omega)]
          refine ⟨_, rfl, ⟨k + 1, rfl, by omega, fun j hj1 hj2 => ?_, fun j hj1 hj2 => ?_⟩, by omega⟩
          · by_cases e : j = k
            · subst e; exact hfa
            · exact hj j hj1 (by omega)
          · by_cases e : j + 1 = k
            · subst e
              exact hbf rfl (by omega)
            · exact ho j hj1 (by omega)
        · rw [if_pos rfl]
          exact ⟨_, rfl, .inl ⟨13, rfl, by decide⟩⟩
    · rw [if_neg (by simp; omega)]
      refine ⟨_, rfl, .inr ⟨rfl, ⟨by omega, by omega, by omega, fun p hp => ?_, fun i hi => ho i hi (by omega)⟩⟩⟩
      obtain ⟨j, hj1, rfl⟩ := List.getElem_of_mem hp
      exact hj j hj1 (by omega)

/-! ### totals -/
def upto (l : GLedger) (p : Int) : List GEntry := (l.Postings.filter fun x => decide (x.Period < p)).map (·.Entry)
def ents (l : GLedger) : List GEntry := l.Postings.map (·.Entry)
theorem upto_all {l : GLedger} (h : LOk l) : upto l (l.Closed + 1) = ents l := by
  unfold upto ents
  rw [List.filter_eq_self.2 fun p hp => by have := (h.ent p hp).2.2.2.2.2; simp; omega]
theorem upto_len (l : GLedger) (p : Int) : (upto l p).length ≤ l.Postings.length := by
  unfold upto
  rw [List.length_map]
  exact List.length_filter_le _ _
theorem totLoop (l : GLedger) (p : Int) (hl : l.Postings.length ≤ 65536) : loopV (ledger_Totals_l22 l p) ([], 0) = some (upto l p) := by
  have hd := loopV_done (step := ledger_Totals_l22 l p) (fun k => (((l.Postings.take k).filter fun x => decide (x.Period < p)).map (·.Entry), (k : Int))) l.Postings.length (upto l p) (fun k hk => ?_) ?_
  · simpa using hd
  · have hlen : (((l.Postings.take k).filter fun x => decide (x.Period < p)).map (·.Entry)).length ≤ 65536 := by
      rw [List.length_map]
      have h1 := List.length_filter_le (fun x : GPosting => decide (x.Period < p)) (l.Postings.take k)
      have h2 : (l.Postings.take k).length ≤ 65536 := by simp; omega
      omega
    unfold ledger_Totals_l22
    dsimp only
    rw [if_pos (by simp; omega), chk_of (inb_nat hk), ix_nat hk, w64_id (n := (k : Int) + 1) (by omega) (by omega), List.take_succ_eq_append_getElem hk, List.filter_append]
    by_cases hf : l.Postings[k].Period < p
    · rw [if_pos (by simpa using hf), chk_of (room_of (by simp at hlen ⊢; omega)), Option.bind_some]
      simp [hf]
    · rw [if_neg (by simpa using hf), Option.bind_some]
      simp [hf]
  · unfold ledger_Totals_l22
    dsimp only
    rw [if_neg (by simp), List.take_of_length_le (Nat.le_refl _)]
    rfl
theorem ptotals_ok {l : GLedger} (h : LOk l) {p : Int} (h0 : 0 ≤ p) (h1 : p ≤ l.Closed + 1) : ledger_Totals l p = treatyref33_Collect (upto l p) := by
  unfold ledger_Totals
  have hc0 := h.c0
  have hc1 := h.c1
  rw [pvalidate_ok h, Option.bind_some, if_neg (by simp), w64_id (by omega) (by omega), if_neg (by simp; omega), totLoop l p h.len, Option.bind_some, collect_same]
  obtain ⟨r, e, hr, _⟩ := collect_tot (upto l p)
  rw [hr]
  rfl
theorem ptotals_all {l : GLedger} (h : LOk l) : ledger_Totals l (w64 (l.Closed + 1)) = treatyref33_Collect (ents l) := by
  have hc0 := h.c0
  have hc1 := h.c1
  rw [w64_id (by omega) (by omega), ptotals_ok h (by omega) (by omega), upto_all h]
/-- Collect, where it is fine -/
theorem collect_fine {l r : List GEntry} (hl : l.length ≤ 65536) (hv : ∀ e ∈ l, vE e = true) (hT : TotOk l) (hC : Coll l r) : treatyref33_Collect l = some (r, 0) := by
  rw [collect_all hl hv]
  have hg := grp_msort l
  cases hgr : grp (msort l) with
  | none => rw [hgr] at hg; exact absurd hT hg
  | some r' =>
    rw [hgr] at hg
    rw [hg.2.uniq hC]
theorem collect_ex {l : List GEntry} (hl : l.length ≤ 65536) (hv : ∀ e ∈ l, vE e = true) (hT : TotOk l) : ∃ r, treatyref33_Collect l = some (r, 0) ∧ Coll l r ∧ r.length ≤ l.length := by
  rw [collect_all hl hv]
  have hg := grp_msort l
  cases hgr : grp (msort l) with
  | none => rw [hgr] at hg; exact absurd hT hg
  | some r =>
    rw [hgr] at hg
    have := grp_len _ (msort l) rfl r hgr
    rw [msort_length] at this
    exact ⟨r, rfl, hg.2, this⟩
/-- every element of a collected list has a heading of the list -/
theorem Coll.from {l r : List GEntry} (h : Coll l r) {e : GEntry} (he : e ∈ r) : ∃ y ∈ l, hd y = hd e := by
  obtain ⟨h1, h2⟩ := (h.mem e).1 he
  apply Classical.byContradiction
  intro hno
  have := tot_none (l := l) (h := hd e) (fun y hy hc => hno ⟨y, hy, hc⟩)
  omega
theorem headB_hd (e : GEntry) : headB (hd e) = headB e := rfl
theorem Coll.valid {l r : List GEntry} (h : Coll l r) (hv : ∀ e ∈ l, vE e = true) (hT : TotOk l) : ∀ e ∈ r, vE e = true ∧ e.Amount ≠ 0 := fun e he => by
  obtain ⟨y, hy, hye⟩ := h.from he
  obtain ⟨h1, h2⟩ := (h.mem e).1 he
  refine ⟨?_, h1⟩
  have hb : headB e = true := by
    rw [← headB_hd, ← hye, headB_hd]
    have := hv y hy
    simp only [vE, Bool.and_eq_true] at this
    exact this.1
  have ha := hT y hy
  rw [hye, h2] at ha
  simp [vE, hb, ha]
/-- the totals of a collected list are the totals -/
theorem coll_tot {l r : List GEntry} (h : Coll l r) (g : GEntry) (hg : g.Amount = 0) : tot r g = tot l g := by
  by_cases h0 : tot l g = 0
  · rw [h0]
    apply tot_none
    intro e he hc
    obtain ⟨h1, h2⟩ := (h.mem e).1 he
    rw [hc] at h2
    omega
  · have hmem : withA g (tot l g) ∈ r := (h.mem _).2 ⟨h0, by
      have : hd (withA g (tot l g)) = g := by
        obtain ⟨a, b, c, d, x⟩ := g
        simp only at hg
        subst hg
        rfl
      rw [this]
      rfl⟩
    have hstrict := h.strict
    have hgg : hd g = g := by
      obtain ⟨a, b, c, d, x⟩ := g
      simp only at hg
      subst hg
      rfl
    clear h
    have key : ∀ {r : List GEntry}, StrictE r → ∀ {e : GEntry}, e ∈ r → tot r (hd e) = e.Amount := by
      intro r
      induction r with
      | nil => intro _ e he; cases he
      | cons x r ih =>
        intro hs e he
        have hs' := List.pairwise_cons.1 hs
        rw [tot_cons]
        rcases List.mem_cons.1 he with rfl | he
        · rw [if_pos rfl, tot_none]
          · omega
          · intro y hy hc
            have := hs'.1 y hy
            rw [((hd_eq_iff y e).1 hc).2] at this
            cases this
        · have hne : hd x ≠ hd e := fun hc => by
            have := hs'.1 e he
            rw [((hd_eq_iff x e).1 hc).1] at this
            cases this
          rw [if_neg hne, ih hs'.2 he]
          omega
    have := key hstrict hmem
    rw [show hd (withA g (tot l g)) = hd g from rfl, hgg] at this
    exact this

/-! ### posting -/
def lastNo (l : List GPosting) : Int := match l.getLast? with | some p => p.Number | none => 0
theorem lastNo_at {l : List GPosting} (h : 0 < l.length) : lastNo l = (l[l.length - 1]).Number := by
  unfold lastNo
  rw [List.getLast?_eq_getElem?, List.getElem?_eq_getElem (by omega)]
theorem lastNo_nil : lastNo [] = 0 := rfl
theorem LOk.last {l : GLedger} (h : LOk l) : 0 ≤ lastNo l.Postings ∧ lastNo l.Postings ≤ 65536 := by
  by_cases h0 : 0 < l.Postings.length
  · rw [lastNo_at h0]
    have := (h.ent _ (List.getElem_mem (show l.Postings.length - 1 < l.Postings.length by omega)))
    omega
  · have : l.Postings = [] := List.eq_nil_of_length_eq_zero (by omega)
    rw [this, lastNo_nil]
    omega
theorem mkPost_snoc (c n : Int) (l : List GEntry) (x : GEntry) : mkPost c n (l ++ [x]) = mkPost c n l ++ [⟨n + l.length, c, x⟩] := by
  induction l generalizing n with
  | nil => simp [mkPost]
  | cons e l ih =>
    simp only [List.cons_append, mkPost, ih]
    congr 4
    simp only [List.length_cons]
    omega
theorem ppostLoop (a : GLedger) (cs : List GEntry) (z : Int) (s : Int) (hs0 : 0 ≤ s) (hs : s ≤ 100000) (hc : cs.length ≤ 65536) : loopV (ledger_Post_l45 a (cs, z) s) (List.replicate cs.length (GPosting.mk 0 0 (GEntry.mk 0 0 0 0 0)), 0) = some (mkPost a.Closed (s + 1) cs) := by
  have hd := loopV_done (step := ledger_Post_l45 a (cs, z) s) (fun k => (mkPost a.Closed (s + 1) (cs.take k) ++ List.replicate (cs.length - k) (GPosting.mk 0 0 (GEntry.mk 0 0 0 0 0)), (k : Int))) cs.length (mkPost a.Closed (s + 1) cs) (fun k hk => ?_) ?_
  · simpa [mkPost] using hd
  · unfold ledger_Post_l45
    have hlt : (mkPost a.Closed (s + 1) (cs.take k)).length = k := by rw [mkPost_length, List.length_take]; omega
    have hin : inb (mkPost a.Closed (s + 1) (cs.take k) ++ List.replicate (cs.length - k) (GPosting.mk 0 0 (GEntry.mk 0 0 0 0 0))) (k : Int) = true := inb_nat (by rw [List.length_append, hlt, List.length_replicate]; omega)
    have e1 : w64 ((k : Int) + 1) = ((k + 1 : Nat) : Int) := by rw [w64_id (by omega) (by omega)]; rfl
    have e2 : w64 (s + 1) = s + 1 := w64_id (by omega) (by omega)
    have e3 : w64 (s + 1 + (k : Int)) = s + 1 + (k : Int) := w64_id (by omega) (by omega)
    dsimp only
    rw [if_pos (by simp; omega), chk_of (inb_nat hk), chk_of hin, e1, e2, e3, ix_nat hk]
    congr 3
    rw [List.take_succ_eq_append_getElem hk, mkPost_snoc]
    have hrep : List.replicate (cs.length - k) (GPosting.mk 0 0 (GEntry.mk 0 0 0 0 0)) = GPosting.mk 0 0 (GEntry.mk 0 0 0 0 0) :: List.replicate (cs.length - (k + 1)) (GPosting.mk 0 0 (GEntry.mk 0 0 0 0 0)) := by
      rw [show cs.length - k = (cs.length - (k + 1)) + 1 by omega, List.replicate_succ]
    rw [hrep]
    unfold upd
    rw [Int.toNat_natCast, List.set_append_right _ _ (by omega), hlt, Nat.sub_self, List.set_cons_zero, List.append_assoc, List.length_take]
    congr 4
    omega
  · unfold ledger_Post_l45
    dsimp only
    rw [if_neg (by simp), List.take_of_length_le (Nat.le_refl _)]
    simp
theorem ppost_eq {l : GLedger} (h : LOk l) {es cs : List GEntry} (hcol : treatyref33_Collect es = some (cs, 0)) (hcs : cs.length ≤ 65536) : ledger_Post l es = some (if l.Closed = 100 then (⟨0, []⟩, 18) else if 65536 < (l.Postings.length : Int) + cs.length ∨ 65536 < lastNo l.Postings + cs.length then (⟨0, []⟩, 4) else (⟨l.Closed, l.Postings ++ mkPost l.Closed (lastNo l.Postings + 1) cs⟩, 0)) := by
  unfold ledger_Post
  have hl := h.len
  have hla := h.last
  rw [pvalidate_ok h, Option.bind_some, if_neg (by simp), collect_same, hcol, Option.bind_some, if_neg (by simp)]
  by_cases hc : l.Closed = 100
  · rw [if_pos (by simpa using hc), if_pos hc]
  · rw [if_neg (by simpa using hc), if_neg hc]
    have hlast : (if decide (0 < (l.Postings.length : Int)) = true then chk (inb l.Postings (w64 ((l.Postings.length : Int) - 1))) (some (ix l.Postings (w64 ((l.Postings.length : Int) - 1))).Number) else some 0) = some (lastNo l.Postings) := by
      by_cases h0 : 0 < l.Postings.length
      · have hk1 : l.Postings.length - 1 < l.Postings.length := by omega
        rw [if_pos (by simp; omega), w64_pred _ h0 hl, chk_of (inb_nat hk1), ix_nat hk1, lastNo_at h0]
      · have : l.Postings = [] := List.eq_nil_of_length_eq_zero (by omega)
        rw [if_neg (by simp; omega), this, lastNo_nil]
    rw [hlast, Option.bind_some, w64_id (n := (l.Postings.length : Int) + (cs.length : Int)) (by omega) (by omega), w64_id (n := lastNo l.Postings + (cs.length : Int)) (by omega) (by omega)]
    by_cases hb : 65536 < (l.Postings.length : Int) + cs.length ∨ 65536 < lastNo l.Postings + cs.length
    · rw [if_pos (by simpa using hb), if_pos hb]
    · rw [if_neg (by simpa using hb), if_neg hb, chk_of (by simp), chk_of (by simp; omega)]
      dsimp only
      rw [Int.toNat_natCast, ppostLoop l cs 0 _ (by omega) (by omega) hcs, Option.bind_some]
      unfold ledger_clone
      rw [chk_of (room_of (by omega)), Option.bind_some, chk_of (room_of (by rw [List.length_append, mkPost_length]; omega))]
theorem lok_post {l : GLedger} (h : LOk l) {cs : List GEntry} (hcs : ∀ e ∈ cs, vE e = true ∧ e.Amount ≠ 0) (h1 : l.Postings.length + cs.length ≤ 65536) (h2 : lastNo l.Postings + cs.length ≤ 65536) : LOk ⟨l.Closed, l.Postings ++ mkPost l.Closed (lastNo l.Postings + 1) cs⟩ := by
  have hla := h.last
  refine ⟨h.c0, h.c1, by show (l.Postings ++ mkPost l.Closed (lastNo l.Postings + 1) cs).length ≤ 65536; rw [List.length_append, mkPost_length]; exact h1, fun p hp => ?_, fun i hi => ?_⟩
  · rcases List.mem_append.1 (show p ∈ l.Postings ++ mkPost l.Closed (lastNo l.Postings + 1) cs from hp) with hp | hp
    · exact h.ent p hp
    · obtain ⟨i, hi, rfl⟩ := List.mem_iff_getElem.1 hp
      obtain ⟨g1, g2, g3⟩ := mkPost_get l.Closed (lastNo l.Postings + 1) cs i hi
      rw [mkPost_length] at hi
      obtain ⟨v1, v2⟩ := hcs _ (List.getElem_mem hi)
      rw [g1, g2, g3]
      exact ⟨v1, v2, by omega, by omega, h.c0, Int.le_refl _⟩
  · have hi' : i + 1 < (l.Postings ++ mkPost l.Closed (lastNo l.Postings + 1) cs).length := hi
    have hall : (l.Postings ++ mkPost l.Closed (lastNo l.Postings + 1) cs).length = l.Postings.length + cs.length := by rw [List.length_append, mkPost_length]
    show ((l.Postings ++ mkPost l.Closed (lastNo l.Postings + 1) cs)[i]).Number < ((l.Postings ++ mkPost l.Closed (lastNo l.Postings + 1) cs)[i + 1]).Number ∧ ((l.Postings ++ mkPost l.Closed (lastNo l.Postings + 1) cs)[i]).Period ≤ ((l.Postings ++ mkPost l.Closed (lastNo l.Postings + 1) cs)[i + 1]).Period
    by_cases hA : i + 1 < l.Postings.length
    · rw [List.getElem_append_left (by omega), List.getElem_append_left hA]
      exact h.ord i hA
    · by_cases hB : i < l.Postings.length
      · rw [List.getElem_append_left hB, List.getElem_append_right (by omega)]
        obtain ⟨g1, g2, _⟩ := mkPost_get l.Closed (lastNo l.Postings + 1) cs (i + 1 - l.Postings.length) (by rw [mkPost_length]; omega)
        rw [g1, g2]
        have hil : i = l.Postings.length - 1 := by omega
        have hlt : lastNo l.Postings = (l.Postings[i]).Number := by
          subst hil
          exact lastNo_at (by omega)
        exact ⟨by omega, (h.ent _ (List.getElem_mem hB)).2.2.2.2.2⟩
      · rw [List.getElem_append_right (by omega), List.getElem_append_right (by omega)]
        obtain ⟨g1, g2, _⟩ := mkPost_get l.Closed (lastNo l.Postings + 1) cs (i - l.Postings.length) (by rw [mkPost_length]; omega)
        obtain ⟨k1, k2, _⟩ := mkPost_get l.Closed (lastNo l.Postings + 1) cs (i + 1 - l.Postings.length) (by rw [mkPost_length]; omega)
        rw [g1, g2, k1, k2]
        exact ⟨by omega, Int.le_refl _⟩
theorem lastNo_post {l : GLedger} (_h : LOk l) (cs : List GEntry) : lastNo (l.Postings ++ mkPost l.Closed (lastNo l.Postings + 1) cs) = lastNo l.Postings + cs.length := by
  by_cases h0 : 0 < cs.length
  · have hlen : (l.Postings ++ mkPost l.Closed (lastNo l.Postings + 1) cs).length = l.Postings.length + cs.length := by rw [List.length_append, mkPost_length]
    rw [lastNo_at (by omega), List.getElem_append_right (by omega)]
    obtain ⟨g1, _, _⟩ := mkPost_get l.Closed (lastNo l.Postings + 1) cs ((l.Postings ++ mkPost l.Closed (lastNo l.Postings + 1) cs).length - 1 - l.Postings.length) (by rw [mkPost_length]; omega)
    rw [g1]
    omega
  · have : cs = [] := List.eq_nil_of_length_eq_zero (by omega)
    subst this
    simp [mkPost]
theorem ents_post (l : GLedger) (cs : List GEntry) : ents ⟨l.Closed, l.Postings ++ mkPost l.Closed (lastNo l.Postings + 1) cs⟩ = ents l ++ cs := by
  unfold ents
  simp only [List.map_append, mkPost_entries]
theorem lok_close {l : GLedger} (h : LOk l) (hc : l.Closed ≠ 100) : LOk ⟨l.Closed + 1, l.Postings⟩ := by
  have hc0 := h.c0
  have hc1 := h.c1
  refine ⟨by show 0 ≤ l.Closed + 1; omega, by show l.Closed + 1 ≤ 100; omega, h.len, fun p hp => ?_, h.ord⟩
  obtain ⟨a1, a2, a3, a4, a5, a6⟩ := h.ent p hp
  exact ⟨a1, a2, a3, a4, a5, by show p.Period ≤ l.Closed + 1; omega⟩
/-! ### restating -/
def isR (e : GEntry) : Bool := ((decide (e.Kind = 1)) || (decide (e.Kind = 2))) || (decide (e.Kind = 3))
def neg (e : GEntry) : GEntry := withA e (-e.Amount)
theorem restLoop (r : List GEntry) (z : Int) (c : List GEntry) (hr : r.length ≤ 65536) (hc : c.length ≤ 65536) (hA : Amts r) : loopV (ledger_Restate_l50 (r, z)) (c, 0) = some (c ++ (r.filter isR).map neg) := by
  have hd := loopV_done (step := ledger_Restate_l50 (r, z)) (fun k => (c ++ ((r.take k).filter isR).map neg, (k : Int))) r.length (c ++ (r.filter isR).map neg) (fun k hk => ?_) ?_
  · simpa using hd
  · have hlen : (((r.take k).filter isR).map neg).length ≤ 65536 := by
      rw [List.length_map]
      have h1 := List.length_filter_le isR (r.take k)
      have h2 : (r.take k).length ≤ 65536 := by simp; omega
      omega
    have hx := hA r[k] (List.getElem_mem hk)
    unfold ledger_Restate_l50 ledger_restated
    dsimp only
    rw [if_pos (by simp; omega), chk_of (inb_nat hk), ix_nat hk, Option.bind_some, w64_id (n := (k : Int) + 1) (by omega) (by omega), w64_id (n := 0 - r[k].Amount) (by omega) (by omega), List.take_succ_eq_append_getElem hk, List.filter_append]
    have hi : (((decide (r[k].Kind = 1)) || (decide (r[k].Kind = 2))) || (decide (r[k].Kind = 3))) = isR r[k] := rfl
    rw [hi]
    cases hf : isR r[k] with
    | true =>
      rw [if_pos rfl, chk_of (room_of (by simp at hlen ⊢; omega)), Option.bind_some]
      simp [hf, neg, withA]
    | false =>
      rw [if_neg (by simp), Option.bind_some]
      simp [hf]
  · unfold ledger_Restate_l50
    dsimp only
    rw [if_neg (by simp), List.take_of_length_le (Nat.le_refl _)]
theorem kindLoop {t : List GEntry} (ht : t.length ≤ 65536) (h : ∀ e ∈ t, isR e = true) : loopV (ledger_Restate_l22 t) 0 = some (.inr ()) := by
  refine loopV_done (fun k => (k : Int)) t.length _ (fun k hk => ?_) ?_
  · unfold ledger_Restate_l22 ledger_restated
    have hi : (((decide (t[k].Kind = 1)) || (decide (t[k].Kind = 2))) || (decide (t[k].Kind = 3))) = isR t[k] := rfl
    rw [if_pos (by simp; omega), chk_of (inb_nat hk), ix_nat hk, Option.bind_some, hi, h _ (List.getElem_mem hk), w64_id (by omega) (by omega)]
    simp
  · unfold ledger_Restate_l22
    rw [if_neg (by simp)]
/-- Restate, where the target and the totals are fine -/
theorem prestate_eq {l : GLedger} (h : LOk l) {t c T cs : List GEntry} (hk : ∀ e ∈ t, isR e = true) (hc : treatyref33_Collect t = some (c, 0)) (hT : treatyref33_Collect (ents l) = some (T, 0)) (hA : Amts T) (hp : treatyref33_Collect (c ++ (T.filter isR).map neg) = some (cs, 0))
    (h100 : l.Closed ≠ 100) (h1 : (l.Postings.length : Int) + cs.length ≤ 65536) (h2 : lastNo l.Postings + cs.length ≤ 65536) :
    ledger_Restate l t = some (⟨l.Closed, l.Postings ++ mkPost l.Closed (lastNo l.Postings + 1) cs⟩, mkPost l.Closed (lastNo l.Postings + 1) cs, 0) := by
  have hl := h.len
  obtain ⟨_, _, ec, hcl, hcf⟩ := collect_tot t
  rw [hc] at ec
  cases ec
  obtain ⟨htl, _⟩ := hcf rfl
  obtain ⟨_, _, eT, hTl, _⟩ := collect_tot (ents l)
  rw [hT] at eT
  cases eT
  obtain ⟨_, _, ep, hpl, _⟩ := collect_tot (c ++ (T.filter isR).map neg)
  rw [hp] at ep
  cases ep
  unfold ledger_Restate
  rw [pvalidate_ok h, Option.bind_some, if_neg (by simp), collect_same, hc, Option.bind_some, if_neg (by simp), kindLoop htl hk]
  simp only [Option.bind_some, Sum.elim_inr, Sum.elim_inl]
  rw [ptotals_all h, hT, Option.bind_some, if_neg (by simp), restLoop T 0 c hTl hcl hA, Option.bind_some, ppost_eq h hp hpl, if_neg h100, if_neg (by omega), Option.bind_some, if_neg (by simp), chk_of (by simp), chk_of (by simp; omega)]
  unfold slices_Clone_s_api_Posting_api_Posting
  rw [Int.toNat_natCast, List.drop_left, chk_of (room_of (by rw [mkPost_length]; omega)), Option.bind_some]
end Go.Proofs.Ytdenliplkmjmjaa.Pl
