/- The law AccountSame (plain). -/
import Derived.Test.YtadkcelipefpmaaLSem
import Derived.Test.YtadkcelipefpmaaLDif
import Derived.Test.YtadkcelipefpmaaLAcc
namespace Go.Proofs.Ytadkcelipefpmaa.Pl
open Go

theorem sameEntries_dec (a b : List GEntry) (ha : a.length ≤ 1000000) : treatyref33_SameEntries a b = some (decide (a = b)) := by
  by_cases h : a = b
  · subst h
    rw [sameEntries_refl a ha]
    simp
  · unfold treatyref33_SameEntries
    by_cases hl : a.length = b.length
    · rw [if_neg (by simp; omega)]
      have key := loopV_inv (step := treatyref33_SameEntries_l12 a b) (fun s => ∃ k : Nat, s = (k : Int) ∧ k ≤ a.length ∧ ∀ j (h1 : j < a.length) (h2 : j < b.length), j < k → a[j] = b[j]) (fun s => a.length - s.toNat) (fun o => o = .inl false) ?_ 0 ⟨0, rfl, by omega, fun j _ _ h => by omega⟩
      · obtain ⟨o, ho, rfl⟩ := key
        rw [ho]
        simp [h]
      · rintro _ ⟨k, rfl, hk, hj⟩
        unfold treatyref33_SameEntries_l12
        by_cases hkl : k < a.length
        · have hkb : k < b.length := by omega
          rw [if_pos (by simp; omega), chk_of (inb_nat hkl), chk_of (inb_nat hkb), ix_nat hkl, ix_nat hkb]
          by_cases he : a[k] = b[k]
          · rw [if_neg (by simp [he]), w64_id (by omega) (by omega)]
            refine ⟨_, rfl, ⟨k + 1, by simp, by omega, fun j h1 h2 h3 => ?_⟩, by omega⟩
            by_cases e : j = k
            · subst e; exact he
            · exact hj j h1 h2 (by omega)
          · have hne : (!(decide ([a[k].Kind, a[k].Treaty, a[k].Party, a[k].Loss, a[k].Amount] = [b[k].Kind, b[k].Treaty, b[k].Party, b[k].Loss, b[k].Amount]))) = true := by
              simp only [Bool.not_eq_true', decide_eq_false_iff_not]
              intro hc
              apply he
              generalize a[k] = x at hc
              generalize b[k] = y at hc
              cases x
              cases y
              simp_all
            rw [if_pos hne]
            exact ⟨_, rfl, rfl⟩
        · exfalso
          apply h
          apply List.ext_getElem hl
          intro j h1 h2
          exact hj j h1 h2 (by omega)
    · rw [if_pos (by simp; omega)]
      simp [h]
/-- the differences of two ledgers -/
theorem differ_ok {a b : GLedger} {Pa Pb : Nat} {Ba Bb ca cb : Int} (ha : Way a Pa Ba ca) (hb : Way b Pb Bb cb) (hPa : Pa ≤ 10000) (hPb : Pb ≤ 10000) (hB : Ba + Bb ≤ 17592186044416) (h0 : 0 ≤ Ba) (h1 : 0 ≤ Bb) :
    ∃ r, account_Differences a b = some (r, 0) ∧ CollT (fun g => tot (ents a) g - tot (ents b) g) r ∧ r.length ≤ Pa + Pb ∧ ∀ e ∈ r, vE e = true ∧ e.Amount ≠ 0 := by
  have la := ha.len
  have lb := hb.len
  obtain ⟨t, ht, hCt, htl⟩ := collect_ex (l := ents a) (by rw [ents_len]; omega) (ents_valid ha.ok) (ha.bd.ok (by omega))
  obtain ⟨u, hu, hCu, hul⟩ := collect_ex (l := ents b) (by rw [ents_len]; omega) (ents_valid hb.ok) (hb.bd.ok (by omega))
  rw [ents_len] at htl hul
  have htv := hCt.valid (ents_valid ha.ok) (ha.bd.ok (by omega))
  have huv := hCu.valid (ents_valid hb.ok) (hb.bd.ok (by omega))
  have hLv : ∀ e ∈ t ++ u.map neg, vE e = true := fun e he => by
    rcases List.mem_append.1 he with he | he
    · exact (htv e he).1
    · obtain ⟨x, hx, rfl⟩ := List.mem_map.1 he
      exact neg_valid (huv x hx).1
  have hLt : ∀ g, g.Amount = 0 → tot (t ++ u.map neg) g = tot (ents a) g - tot (ents b) g := fun g hg => by
    rw [tot_append, tot_neg, coll_tot hCt g hg, coll_tot hCu g hg]
    omega
  have hLB : TotB (t ++ u.map neg) 17592186044416 := fun g hg => by
    rw [hLt g hg]
    have x := ha.bd g hg
    have y := hb.bd g hg
    omega
  have hlen : (t ++ u.map neg).length ≤ Pa + Pb := by rw [List.length_append, List.length_map]; omega
  obtain ⟨r, hr, hCr, hrl⟩ := collect_ex (by omega) hLv (hLB.ok (by omega))
  have hA := Amts.of_valid hLv
  refine ⟨r, ?_, hCr.T.congr hLt, by omega, hCr.valid hLv (hLB.ok (by omega))⟩
  have hg : grp (msort (t ++ u.map neg)) = some r := by
    rw [collect_all (by omega) hLv] at hr
    cases hq : grp (msort (t ++ u.map neg)) with
    | none => rw [hq] at hr; simp at hr
    | some r' => rw [hq] at hr; simp at hr; rw [hr]
  have hbl := (bld_of (by omega) hA _ (Nat.le_refl _)).2
  rw [List.take_of_length_le (Nat.le_refl _)] at hbl
  unfold account_Differences
  rw [ptotals_all ha.ok, ht, Option.bind_some, if_neg (by simp), ptotals_all hb.ok, hu, Option.bind_some, if_neg (by simp), difLoop1 t 0 (by omega), Option.bind_some, difLoop2 u 0 (by omega), Option.bind_some, ← List.foldl_append, chk_of (by simp), chk_of (by simp only [decide_eq_true_eq]; omega), bld_collect dround acompare_eq (by omega) hA (k := Sum.elim (fun s58 => (slices_SortFunc_s_api_Entry_api_Entry_o_account_compare s58).bind fun r27_1 => some (r27_1, 0)) (fun t58 => some t58)) (s0 := List.replicate (0 : Int).toNat (GEntry.mk 0 0 0 0 0)) (fun s => rfl) (fun t => rfl) rfl, hg]
theorem treatylaw34_AccountSame_law (d o : List Int) (hdd : d.length ≤ 9223372036854775807) (ho : o.length ≤ 9223372036854775807) : treatylaw34_AccountSame d o = some true := by
  unfold treatylaw34_AccountSame
  obtain ⟨e1, hk⟩ := new_ok d hdd
  obtain ⟨a, d1, e2, _, hma⟩ := ledger_ok hk 5 (by omega)
  obtain ⟨e3, hk2⟩ := new_ok o ho
  obtain ⟨b, d2, e4, _, hmb⟩ := ledger_ok hk2 5 (by omega)
  rw [show ((5 : Nat) : Int) = 5 from rfl] at e2 e4
  have wa := hma.way
  have wb := hmb.way
  obtain ⟨r, e5, hCr, hrl, hrv⟩ := differ_ok wa wb (by omega) (by omega) (by omega) (by omega) (by omega)
  have la := wa.len
  have lb := wb.len
  obtain ⟨x, e6, hCx, hxl⟩ := collect_ex (l := ents a) (by rw [ents_len]; omega) (ents_valid wa.ok) (wa.bd.ok (by omega))
  obtain ⟨y, e7, hCy, hyl⟩ := collect_ex (l := ents b) (by rw [ents_len]; omega) (ents_valid wb.ok) (wb.bd.ok (by omega))
  rw [ents_len] at hxl hyl
  -- r is collected already
  have hrr : Coll r r := by
    have key : ∀ {r : List GEntry}, StrictE r → ∀ e, e ∈ r → tot r (hd e) = e.Amount := by
      intro r
      induction r with
      | nil => intro _ e he; cases he
      | cons z r ih =>
        intro hs e he
        have hs' := List.pairwise_cons.1 hs
        rw [tot_cons]
        rcases List.mem_cons.1 he with rfl | he
        · rw [if_pos rfl, tot_none]
          · omega
          · intro y hy hc
            have := hs'.1 y hy
            rw [((hd_eq_iff y e).1 hc).2] at this
            cases this
        · have hne : hd z ≠ hd e := fun hc => by
            have := hs'.1 e he
            rw [((hd_eq_iff z e).1 hc).1] at this
            cases this
          rw [if_neg hne, ih hs'.2 e he]
          omega
    refine ⟨hCr.strict, fun e => ⟨fun he => ⟨(hrv e he).2, key hCr.strict e he⟩, fun ⟨h1, h2⟩ => ?_⟩⟩
    have hex : ∃ y ∈ r, hd y = hd e := by
      apply Classical.byContradiction
      intro hno
      have := tot_none (l := r) (h := hd e) (fun y hy hc => hno ⟨y, hy, hc⟩)
      omega
    obtain ⟨y, hy, hye⟩ := hex
    have h3 := key hCr.strict y hy
    rw [hye, h2] at h3
    have : y = e := by rw [← withA_hd y, ← withA_hd e, hye, h3]
    rw [← this]
    exact hy
  have hrT : ∀ g, g.Amount = 0 → tot r g = tot (ents a) g - tot (ents b) g := fun g hg => by
    by_cases h0 : tot (ents a) g - tot (ents b) g = 0
    · rw [h0]
      apply tot_none
      intro e he hc
      obtain ⟨h1, h2⟩ := (hCr.mem e).1 he
      simp only [hc] at h2
      omega
    · have hgg : hd (withA g (tot (ents a) g - tot (ents b) g)) = g := by
        obtain ⟨p, q, s, t, x⟩ := g
        simp only at hg
        subst hg
        rfl
      have hm : withA g (tot (ents a) g - tot (ents b) g) ∈ r := (hCr.mem _).2 ⟨h0, by rw [hgg]; rfl⟩
      have := ((hrr.mem _).1 hm).2
      rw [hgg] at this
      exact this
  have hrB : TotB r 17592186044416 := fun g hg => by
    rw [hrT g hg]
    have p := wa.bd g hg
    have q := wb.bd g hg
    omega
  have e8 : ledger_Post b r = some (⟨b.Closed, b.Postings ++ mkPost b.Closed (lastNo b.Postings + 1) r⟩, 0) := by
    have hc := wb.closed
    have hl := wb.last
    rw [ppost_eq wb.ok (collect_fine (by omega) (fun e he => (hrv e he).1) (hrB.ok (by omega)) hrr) (by omega), if_neg (by omega), if_neg (by omega)]
  have wc : Way ⟨b.Closed, b.Postings ++ mkPost b.Closed (lastNo b.Postings + 1) r⟩ (4 * 5 + 40) (137438953472 * ((5 : Nat) : Int)) ((5 : Nat) : Int) := way_post wb hrv (by omega) (by omega) fun g hg => by
    rw [tot_append, hrT g hg]
    have p := wa.bd g hg
    omega
  obtain ⟨z, e9, hCz, _, _⟩ := differ_ok wa wc (by omega) (by omega) (by omega) (by omega) (by omega)
  have hz : z = [] := by
    refine hCz.uniq ⟨List.Pairwise.nil, fun e => ?_⟩
    simp only [List.not_mem_nil, false_iff]
    rintro ⟨h1, h2⟩
    rw [ents_post, tot_append, hrT _ (hd_amount e)] at h2
    omega
  subst hz
  have hiff : decide ((r.length : Int) = 0) = decide (x = y) := by
    apply decide_eq_decide.2
    constructor
    · intro h
      have hr0 : r = [] := List.eq_nil_of_length_eq_zero (by omega)
      refine hCx.T.uniq (hCy.T.congr fun g hg => ?_)
      have := hrT g hg
      rw [hr0, tot_nil] at this
      omega
    · intro h
      subst h
      have : r = [] := by
        refine hCr.uniq ⟨List.Pairwise.nil, fun e => ?_⟩
        simp only [List.not_mem_nil, false_iff]
        rintro ⟨h1, h2⟩
        rw [← coll_tot hCx _ (hd_amount e), ← coll_tot hCy _ (hd_amount e)] at h2
        omega
      rw [this]
      rfl
  have t1 := (ptotals_all wa.ok).trans e6
  have t2 := (ptotals_all wb.ok).trans e7
  simp only [e1, e2, e3, e4, e5, t1, t2, e8, e9, Option.bind_some, decide_true, Bool.and_self, List.length_nil, Int.natCast_zero, if_true, sameEntries_dec x y (by omega), hiff, BEq.rfl, awake34]
end Go.Proofs.Ytadkcelipefpmaa.Pl
