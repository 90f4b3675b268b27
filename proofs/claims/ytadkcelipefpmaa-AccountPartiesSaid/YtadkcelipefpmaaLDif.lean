/- account.Extract and account.Differences are the reference's (plain). -/
import Derived.Test.YtadkcelipefpmaaLLw
namespace Go.Proofs.Ytadkcelipefpmaa.Pl
open Go

theorem bld_collect {b : GEntry × Int → List GEntry → Option (List GEntry ⊕ (List GEntry × Int))} (hb : RoundOk b) {c : GEntry → GEntry → Option Int} (hc : ∀ x y, c x y = some (cmpE x y)) {l : List GEntry} (hl : l.length ≤ 65536) (hA : Amts l)
    {k : List GEntry ⊕ (List GEntry × Int) → Option (List GEntry × Int)} (hk1 : ∀ s, k (.inl s) = (sortV c s).bind fun r => some (r, 0)) (hk2 : ∀ t, k (.inr t) = some t) {s0 : List GEntry} (hs0 : s0 = []) :
    rangeP b (l.foldl bld []) s0 k = some (match grp (msort l) with | none => ([], 3) | some r => (r, 0)) := by
  obtain ⟨hM, hlen⟩ := bld_of (by omega) hA l.length (Nat.le_refl _)
  rw [List.take_of_length_le (Nat.le_refl _)] at hM hlen
  have hcm := collect_map (M := l.foldl bld []) hb hc hM (by omega) hk1 hk2 hs0
  have hkeys : ∀ e ∈ l, hd e ∈ keys (l.foldl bld []) := by
    have key : ∀ (l : List GEntry) (m : List (GEntry × Int)) (g : GEntry), (g ∈ keys m ∨ ∃ e ∈ l, hd e = g) → g ∈ keys (l.foldl bld m) := by
      intro l
      induction l with
      | nil =>
        intro m g hg
        rcases hg with hg | ⟨e, he, _⟩
        · exact hg
        · cases he
      | cons x l ih =>
        intro m g hg
        rw [List.foldl_cons]
        apply ih
        rcases hg with hg | ⟨e, he, rfl⟩
        · exact .inl (keys_mset.2 (.inr hg))
        · rcases List.mem_cons.1 he with rfl | he
          · exact .inl (keys_mset.2 (.inl rfl))
          · exact .inr ⟨e, he, rfl⟩
    exact fun e he => key l [] (hd e) (.inr ⟨e, he, rfl⟩)
  have hfrom : ∀ p ∈ l.foldl bld [], ∃ e ∈ l, hd e = p.1 := by
    have key : ∀ (l : List GEntry) (m : List (GEntry × Int)) (g : GEntry), g ∈ keys (l.foldl bld m) → g ∈ keys m ∨ ∃ e ∈ l, hd e = g := by
      intro l
      induction l with
      | nil => intro m g hg; exact .inl hg
      | cons x l ih =>
        intro m g hg
        rw [List.foldl_cons] at hg
        rcases ih _ g hg with hg | ⟨e, he, rfl⟩
        · rcases keys_mset.1 hg with rfl | hg
          · exact .inr ⟨x, by simp, rfl⟩
          · exact .inl hg
        · exact .inr ⟨e, by simp [he], rfl⟩
    intro p hp
    rcases key l [] p.1 (List.mem_map_of_mem hp) with h1 | h1
    · simp [keys] at h1
    · exact h1
  have hg := grp_msort l
  cases hgr : grp (msort l) with
  | none =>
    rw [hgr] at hg
    refine hcm.2 ?_
    apply Classical.byContradiction
    intro hno
    apply hg
    intro e he
    obtain ⟨p, hp, hpk⟩ := List.mem_map.1 (hkeys e he)
    cases hv : vAmt (tot l (hd e)) with
    | true => rfl
    | false =>
      exfalso
      refine hno ⟨p, hp, ?_⟩
      rw [(hM.key p hp).2, hpk, hv]
  | some r =>
    rw [hgr] at hg
    obtain ⟨r', h1, h2⟩ := hcm.1 fun p hp => by
      obtain ⟨e, he, hpe⟩ := hfrom p hp
      rw [(hM.key p hp).2, ← hpe]
      exact hg.1 e he
    rw [h1, h2.uniq hg.2.T]
theorem dround : RoundOk account_Differences_l58 := by
  intro p s hs
  unfold account_Differences_l58 amount_Valid
  rw [Option.bind_some]
  have e2 : (decide (-17592186044416 ≤ p.2) && decide (p.2 ≤ 17592186044416)) = vAmt p.2 := rfl
  rw [e2]
  cases hv : vAmt p.2 with
  | false => simp
  | true =>
    by_cases h0 : p.2 = 0
    · simp [mkE, h0]
    · have hr : room (s ++ [GEntry.mk p.1.Kind p.1.Treaty p.1.Party p.1.Loss p.2]).length = true := room_of (by simp; omega)
      rw [chk_of hr]
      simp [mkE, h0, withA]
theorem acompare_eq (a b : GEntry) : account_compare a b = some (cmpE a b) := by
  unfold account_compare
  simp only [compare_i, Option.bind_some]
  rw [or_eq _ (by simp)]
  rfl
theorem difLoop1 (t : List GEntry) (z : Int) (ht : t.length ≤ 65536) : loopV (account_Differences_l24 (t, z)) ([], 0) = some (t.foldl bld []) := by
  have hd := loopV_done (step := account_Differences_l24 (t, z)) (fun k => ((t.take k).foldl bld [], (k : Int))) t.length (t.foldl bld []) (fun k hk => ?_) ?_
  · simpa using hd
  · unfold account_Differences_l24 account_heading
    dsimp only
    rw [if_pos (by simp; omega), chk_of (inb_nat hk), ix_nat hk, Option.bind_some, List.take_succ_eq_append_getElem hk, List.foldl_append]
    have e1 : w64 ((k : Int) + 1) = ((k + 1 : Nat) : Int) := by rw [w64_id (by omega) (by omega)]; rfl
    rw [e1]
    rfl
  · unfold account_Differences_l24
    dsimp only
    rw [if_neg (by simp), List.take_of_length_le (Nat.le_refl _)]
theorem difLoop2 (u : List GEntry) (z : Int) (hu : u.length ≤ 65536) (m : List (GEntry × Int)) : loopV (account_Differences_l40 (u, z)) (m, 0) = some ((u.map neg).foldl bld m) := by
  have hd := loopV_done (step := account_Differences_l40 (u, z)) (fun k => (((u.take k).map neg).foldl bld m, (k : Int))) u.length ((u.map neg).foldl bld m) (fun k hk => ?_) ?_
  · simpa using hd
  · unfold account_Differences_l40 account_heading
    dsimp only
    rw [if_pos (by simp; omega), chk_of (inb_nat hk), ix_nat hk, Option.bind_some, List.take_succ_eq_append_getElem hk, List.map_append, List.foldl_append]
    have e1 : w64 ((k : Int) + 1) = ((k + 1 : Nat) : Int) := by rw [w64_id (by omega) (by omega)]; rfl
    rw [e1]
    rfl
  · unfold account_Differences_l40
    dsimp only
    rw [if_neg (by simp), List.take_of_length_le (Nat.le_refl _)]
theorem rdifLoop (u : List GEntry) (z : Int) (hu : u.length ≤ 65536) (hA : Amts u) (t : List GEntry) (ht : t.length ≤ 65536) : loopV (treatyref33_Differences_l22 (u, z)) (t, 0) = some (t ++ u.map neg) := by
  have hd := loopV_done (step := treatyref33_Differences_l22 (u, z)) (fun k => (t ++ (u.take k).map neg, (k : Int))) u.length (t ++ u.map neg) (fun k hk => ?_) ?_
  · simpa using hd
  · have hx := hA u[k] (List.getElem_mem hk)
    unfold treatyref33_Differences_l22
    dsimp only
    have e1 : w64 ((k : Int) + 1) = ((k + 1 : Nat) : Int) := by rw [w64_id (by omega) (by omega)]; rfl
    rw [if_pos (by simp; omega), chk_of (inb_nat hk), ix_nat hk, List.take_succ_eq_append_getElem hk, List.map_append, e1, w64_id (n := 0 - u[k].Amount) (by omega) (by omega), chk_of (room_of (by simp; omega))]
    simp [neg, withA]
  · unfold treatyref33_Differences_l22
    dsimp only
    rw [if_neg (by simp), List.take_of_length_le (Nat.le_refl _)]
/-- what Totals gives -/
theorem totals_tot2 (l : GLedger) (p : Int) : ∃ r e, treatyref33_Totals l p = some (r, e) ∧ r.length ≤ l.Postings.length ∧ Amts r := by
  obtain ⟨e, he, hok⟩ := validate_full l
  by_cases h0 : e = 0
  · have hL := hok h0
    by_cases hp : p < 0 ∨ l.Closed + 1 < p
    · refine ⟨[], 12, ?_, by simp, fun e he => by cases he⟩
      unfold treatyref33_Totals
      have hc0 := hL.c0
      have hc1 := hL.c1
      rw [rvalidate_ok hL, Option.bind_some, if_neg (by simp), w64_id (by omega) (by omega), if_pos (by simp; omega)]
    · rw [rtotals_ok hL (by omega) (by omega)]
      have hul := upto_len l p
      have hl := hL.len
      have hv : ∀ e ∈ upto l p, vE e = true := fun e he => by
        obtain ⟨x, hx, rfl⟩ := List.mem_map.1 he
        exact (hL.ent x (List.mem_filter.1 hx).1).1
      by_cases hT : TotOk (upto l p)
      · obtain ⟨r, h1, h2, h3⟩ := collect_ex (by omega) hv hT
        exact ⟨r, 0, h1, by omega, Amts.of_valid fun e he => (h2.valid hv hT e he).1⟩
      · refine ⟨[], 3, ?_, by simp, fun e he => by cases he⟩
        rw [collect_all (by omega) hv]
        have hg := grp_msort (upto l p)
        cases hgr : grp (msort (upto l p)) with
        | none => rfl
        | some r => rw [hgr] at hg; exact absurd hg.1 hT
  · refine ⟨[], e, ?_, by simp, fun e he => by cases he⟩
    unfold treatyref33_Totals
    rw [he, Option.bind_some, if_pos (by simpa using h0)]
theorem neg_amts {u : List GEntry} (h : Amts u) : Amts (u.map neg) := fun e he => by
  obtain ⟨x, hx, rfl⟩ := List.mem_map.1 he
  have := h x hx
  show -17592186044416 ≤ -x.Amount ∧ -x.Amount ≤ 17592186044416
  omega
theorem differ_same (a b : GLedger) (ha : a.Postings.length ≤ 10000) (hb : b.Postings.length ≤ 10000) : ∃ r e, account_Differences a b = some (r, e) ∧ treatyref33_Differences a b = some (r, e) ∧ r.length ≤ 20000 := by
  unfold account_Differences treatyref33_Differences
  simp only [totals_same]
  obtain ⟨t, e1, h1, l1, A1⟩ := totals_tot2 a (w64 (a.Closed + 1))
  obtain ⟨u, e2, h2, l2, A2⟩ := totals_tot2 b (w64 (b.Closed + 1))
  simp only [h1, h2, Option.bind_some]
  by_cases c1 : e1 = 0
  · have c1' : (!decide (e1 = 0)) = false := by simpa using c1
    simp only [c1', Bool.false_eq_true, if_false]
    by_cases c2 : e2 = 0
    · have c2' : (!decide (e2 = 0)) = false := by simpa using c2
      simp only [c2', Bool.false_eq_true, if_false]
      rw [difLoop1 t e1 (by omega), Option.bind_some, difLoop2 u e2 (by omega), Option.bind_some, ← List.foldl_append, rdifLoop u e2 (by omega) A2 t (by omega), Option.bind_some]
      have hA : Amts (t ++ u.map neg) := fun e he => by
        rcases List.mem_append.1 he with he | he
        · exact A1 e he
        · exact neg_amts A2 e he
      have hl : (t ++ u.map neg).length ≤ 20000 := by rw [List.length_append, List.length_map]; omega
      have hlen := (bld_of (by omega) hA _ (Nat.le_refl _)).2
      rw [List.take_of_length_le (Nat.le_refl _)] at hlen
      rw [chk_of (by simp), chk_of (by simp only [decide_eq_true_eq]; omega)]
      rw [bld_collect dround acompare_eq (by omega) hA (k := Sum.elim (fun s58 => (slices_SortFunc_s_api_Entry_api_Entry_o_account_compare s58).bind fun r27_1 => some (r27_1, 0)) (fun t58 => some t58)) (s0 := List.replicate (0 : Int).toNat (GEntry.mk 0 0 0 0 0)) (fun s => rfl) (fun t => rfl) rfl, sums_eq _ (by omega) hA, Option.bind_some]
      cases hgr : grp (msort (t ++ u.map neg)) with
      | none => exact ⟨_, _, rfl, rfl, by simp⟩
      | some r =>
        refine ⟨_, _, rfl, rfl, ?_⟩
        have := grp_len _ (msort (t ++ u.map neg)) rfl r hgr
        rw [msort_length] at this
        omega
    · have c2' : (!decide (e2 = 0)) = true := by simpa using c2
      simp only [c2', if_true]
      exact ⟨_, _, rfl, rfl, by simp⟩
  · have c1' : (!decide (e1 = 0)) = true := by simpa using c1
    simp only [c1', if_true]
    exact ⟨_, _, rfl, rfl, by simp⟩
/-! ### extracts -/
def ofParty (l : GLedger) (p : Int) : GLedger := ⟨l.Closed, l.Postings.filter fun x => decide (x.Entry.Party = p)⟩
theorem exLoop (l : GLedger) (p : Int) (hl : l.Postings.length ≤ 65536) : loopV (account_Extract_l16 l p) ([], 0) = some (ofParty l p).Postings := by
  have hd := loopV_done (step := account_Extract_l16 l p) (fun k => ((l.Postings.take k).filter (fun x => decide (x.Entry.Party = p)), (k : Int))) l.Postings.length (ofParty l p).Postings (fun k hk => ?_) ?_
  · simpa using hd
  · have hlen : ((l.Postings.take k).filter (fun x => decide (x.Entry.Party = p))).length ≤ 65536 := by
      have h1 := List.length_filter_le (fun x : GPosting => decide (x.Entry.Party = p)) (l.Postings.take k)
      have h2 : (l.Postings.take k).length ≤ 65536 := by simp; omega
      omega
    unfold account_Extract_l16
    dsimp only
    rw [if_pos (by simp; omega), chk_of (inb_nat hk), ix_nat hk, w64_id (n := (k : Int) + 1) (by omega) (by omega), List.take_succ_eq_append_getElem hk, List.filter_append]
    by_cases hf : l.Postings[k].Entry.Party = p
    · rw [if_pos (by simpa using hf), chk_of (room_of (by simp at hlen ⊢; omega)), Option.bind_some]
      simp [hf]
    · rw [if_neg (by simpa using hf), Option.bind_some]
      simp [hf]
  · unfold account_Extract_l16
    dsimp only
    rw [if_neg (by simp), List.take_of_length_le (Nat.le_refl _)]
    rfl
theorem extract_same (l : GLedger) (p : Int) : account_Extract l p = treatyref33_Extract l p := by
  unfold account_Extract treatyref33_Extract
  rw [validate_same]
  have e : ∀ s, account_Extract_l16 l p s = treatyref33_Extract_l16 l p s := fun s => rfl
  rw [loopV_congr e]
theorem extract_ok {l : GLedger} (h : LOk l) (p : Int) : account_Extract l p = some (ofParty l p, 0) := by
  unfold account_Extract
  rw [pvalidate_ok h, Option.bind_some, if_neg (by simp), exLoop l p h.len, Option.bind_some]
  rfl
theorem extract_tot (l : GLedger) (p : Int) : ∃ r e, treatyref33_Extract l p = some (r, e) ∧ r.Postings.length ≤ 65536 := by
  rw [← extract_same]
  obtain ⟨e, he, hok⟩ := validate_full l
  by_cases h0 : e = 0
  · rw [extract_ok (hok h0)]
    refine ⟨_, _, rfl, ?_⟩
    have h1 := List.length_filter_le (fun x : GPosting => decide (x.Entry.Party = p)) l.Postings
    have h2 := (hok h0).len
    show (l.Postings.filter fun x => decide (x.Entry.Party = p)).length ≤ 65536
    omega
  · refine ⟨⟨0, []⟩, e, ?_, by simp⟩
    unfold account_Extract
    rw [validate_same, he, Option.bind_some, if_pos (by simpa using h0)]
end Go.Proofs.Ytadkcelipefpmaa.Pl
