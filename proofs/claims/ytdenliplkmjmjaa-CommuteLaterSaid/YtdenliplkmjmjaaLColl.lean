/- ledger.Collect is the reference's Collect (plain). -/
import Derived.Test.YtdenliplkmjmjaaLMap
namespace Go.Proofs.Ytdenliplkmjmjaa.Pl
open Go

theorem lround : RoundOk ledger_Collect_l42 := by
  intro p s hs
  unfold ledger_Collect_l42 amount_Valid
  rw [Option.bind_some]
  have e2 : (decide (-17592186044416 ≤ p.2) && decide (p.2 ≤ 17592186044416)) = vAmt p.2 := rfl
  rw [e2]
  cases hv : vAmt p.2 with
  | false => simp
  | true =>
    by_cases h0 : p.2 = 0
    · simp [mkE, h0]
    · have hr : room (s ++ [GEntry.mk p.1.Kind p.1.Treaty p.1.Party p.1.Loss p.2]).length = true := room_of (by simp; omega)
      rw [chk_of hr]
      simp [mkE, h0, withA]
/-- the map that is built -/
def bld (m : List (GEntry × Int)) (e : GEntry) : List (GEntry × Int) := mset m (hd e) (w64 (mget m (hd e) 0 + e.Amount))
theorem bld_of {l : List GEntry} (hl : l.length ≤ 100000) (hA : Amts l) : ∀ k, k ≤ l.length → MapOf ((l.take k).foldl bld []) (tot (l.take k)) ∧ ((l.take k).foldl bld []).length ≤ k := by
  intro k
  induction k with
  | zero => intro _; exact ⟨MapOf.nil.congr fun g _ => by simp [tot_nil], by simp⟩
  | succ k ih =>
    intro hk
    obtain ⟨h1, h2⟩ := ih (by omega)
    have hkl : k < l.length := by omega
    rw [List.take_succ_eq_append_getElem hkl, List.foldl_append]
    simp only [List.foldl_cons, List.foldl_nil]
    have hr := tot_range (hA.sub (m := l.take k) fun e he => List.mem_of_mem_take he) (hd l[k])
    have hx := hA l[k] (List.getElem_mem hkl)
    have hlen : (l.take k).length = k := by rw [List.length_take]; omega
    rw [hlen] at hr
    have e1 : w64 (mget ((l.take k).foldl bld []) (hd l[k]) 0 + l[k].Amount) = tot (l.take k) (hd l[k]) + l[k].Amount := by
      rw [h1.get (hd_amount _), w64_id (by omega) (by omega)]
    have e2 : bld ((l.take k).foldl bld []) l[k] = mset ((l.take k).foldl bld []) (hd l[k]) (tot (l.take k) (hd l[k]) + l[k].Amount) := by
      rw [← e1]
      rfl
    rw [e2]
    refine ⟨?_, ?_⟩
    · refine h1.set (hd_amount _) ?_ fun g hg => ?_
      · rw [tot_append, tot_cons, if_pos rfl, tot_nil]
        omega
      · rw [tot_append, tot_cons, if_neg (fun hc => hg hc.symm), tot_nil]
        omega
    · have := length_mset ((l.take k).foldl bld []) (hd l[k]) (tot (l.take k) (hd l[k]) + l[k].Amount)
      omega
theorem lcollect_valid {l : List GEntry} (hl : l.length ≤ 65536) (h : ∀ e ∈ l, vE e = true) : ledger_Collect l = treatyref33_Collect l := by
  rw [collect_all hl h]
  unfold ledger_Collect
  have hA := Amts.of_valid h
  have hloop : loopV (ledger_Collect_l14 l) ([], 0) = some (.inr (l.foldl bld [])) := by
    have hd := loopV_done (step := ledger_Collect_l14 l) (fun k => ((l.take k).foldl bld [], (k : Int))) l.length (.inr (l.foldl bld [])) (fun k hk => ?_) ?_
    · simpa using hd
    · unfold ledger_Collect_l14
      have e1 : w64 ((k : Int) + 1) = ((k + 1 : Nat) : Int) := by rw [w64_id (by omega) (by omega)]; rfl
      dsimp only
      rw [if_pos (by simp; omega), chk_of (inb_nat hk), ix_nat hk, pvalid_eq, Option.bind_some, h _ (List.getElem_mem hk), e1, List.take_succ_eq_append_getElem hk, List.foldl_append]
      simp only [Bool.not_true, Bool.false_eq_true, if_false, List.foldl_cons, List.foldl_nil]
      rfl
    · unfold ledger_Collect_l14
      dsimp only
      rw [if_neg (by simp), List.take_of_length_le (Nat.le_refl _)]
  rw [if_neg (by simp; omega), hloop]
  simp only [Option.bind_some, Sum.elim_inr, Sum.elim_inl]
  obtain ⟨hM, hlen⟩ := bld_of (by omega) hA l.length (Nat.le_refl _)
  rw [List.take_of_length_le (Nat.le_refl _)] at hM hlen
  rw [chk_of (by simp), chk_of (by simp; omega)]
  have hcm := collect_map (M := l.foldl bld []) lround compare_eq hM (by omega) (k := Sum.elim (fun s42 => (slices_SortFunc_s_api_Entry_api_Entry_o_ledger_compare s42).bind fun r22_1 => some (r22_1, 0)) (fun t42 => some t42)) (fun s => rfl) (fun t => rfl) (s0 := List.replicate (0 : Int).toNat (GEntry.mk 0 0 0 0 0)) rfl
  have hkeys : ∀ e ∈ l, hd e ∈ keys (l.foldl bld []) := by
    have key : ∀ (l : List GEntry) (m : List (GEntry × Int)) (g : GEntry), (g ∈ keys m ∨ ∃ e ∈ l, hd e = g) → g ∈ keys (l.foldl bld m) := by
      intro l
      induction l with
      | nil =>
        intro m g hg
        rcases hg with hg | ⟨e, he, _⟩
        · exact hg
        · cases he
      | cons x l ih =>
        intro m g hg
        rw [List.foldl_cons]
        apply ih
        rcases hg with hg | ⟨e, he, rfl⟩
        · exact .inl (keys_mset.2 (.inr hg))
        · rcases List.mem_cons.1 he with rfl | he
          · exact .inl (keys_mset.2 (.inl rfl))
          · exact .inr ⟨e, he, rfl⟩
    exact fun e he => key l [] (hd e) (.inr ⟨e, he, rfl⟩)
  have hfrom : ∀ p ∈ l.foldl bld [], ∃ e ∈ l, hd e = p.1 := by
    have key : ∀ (l : List GEntry) (m : List (GEntry × Int)) (g : GEntry), g ∈ keys (l.foldl bld m) → g ∈ keys m ∨ ∃ e ∈ l, hd e = g := by
      intro l
      induction l with
      | nil => intro m g hg; exact .inl hg
      | cons x l ih =>
        intro m g hg
        rw [List.foldl_cons] at hg
        rcases ih _ g hg with hg | ⟨e, he, rfl⟩
        · rcases keys_mset.1 hg with rfl | hg
          · exact .inr ⟨x, by simp, rfl⟩
          · exact .inl hg
        · exact .inr ⟨e, by simp [he], rfl⟩
    intro p hp
    rcases key l [] p.1 (List.mem_map_of_mem hp) with h1 | h1
    · simp [keys] at h1
    · exact h1
  have hg := grp_msort l
  cases hgr : grp (msort l) with
  | none =>
    rw [hgr] at hg
    refine hcm.2 ?_
    apply Classical.byContradiction
    intro hno
    apply hg
    intro e he
    obtain ⟨p, hp, hpk⟩ := List.mem_map.1 (hkeys e he)
    cases hv : vAmt (tot l (hd e)) with
    | true => rfl
    | false =>
      exfalso
      refine hno ⟨p, hp, ?_⟩
      rw [(hM.key p hp).2, hpk, hv]
  | some r =>
    rw [hgr] at hg
    obtain ⟨r', h1, h2⟩ := hcm.1 fun p hp => by
      obtain ⟨e, he, hpe⟩ := hfrom p hp
      rw [(hM.key p hp).2, ← hpe]
      exact hg.1 e he
    rw [h1, h2.uniq hg.2.T]
theorem collect_inv1 {l : List GEntry} (hl : l.length ≤ 65536) (h : ¬ ∀ e ∈ l, vE e = true) : ledger_Collect l = some ([], 1) := by
  unfold ledger_Collect
  have key := loopV_inv (step := ledger_Collect_l14 l) (fun s => ∃ k : Nat, s.2 = (k : Int) ∧ k ≤ l.length ∧ ∀ j (hj : j < l.length), j < k → vE l[j] = true) (fun s => l.length - s.2.toNat) (fun o => o = .inl ([], 1)) ?_ ([], 0) ⟨0, rfl, by omega, fun j _ h => by omega⟩
  · obtain ⟨o, ho, rfl⟩ := key
    rw [if_neg (by simp; omega), ho]
    simp
  · rintro ⟨m, i⟩ ⟨k, hk0, hk, hj⟩
    dsimp only at hk0
    subst hk0
    unfold ledger_Collect_l14
    dsimp only
    by_cases hkl : k < l.length
    · have ek : w64 ((k : Int) + 1) = (k : Int) + 1 := w64_id (by omega) (by omega)
      rw [if_pos (by simp; omega), chk_of (inb_nat hkl), ix_nat hkl, pvalid_eq, Option.bind_some, ek]
      cases hv : vE l[k] with
      | false => exact ⟨_, rfl, rfl⟩
      | true =>
        refine ⟨_, rfl, ⟨k + 1, by simp, by omega, fun j hj1 hj2 => ?_⟩, by simp; omega⟩
        by_cases e : j = k
        · subst e; exact hv
        · exact hj j hj1 (by omega)
    · exfalso
      apply h
      intro e he
      obtain ⟨j, hj1, rfl⟩ := List.getElem_of_mem he
      exact hj j hj1 (by omega)
theorem collect_inv2 {l : List GEntry} (hl : l.length ≤ 65536) (h : ¬ ∀ e ∈ l, vE e = true) : treatyref33_Collect l = some ([], 1) := by
  unfold treatyref33_Collect
  have key := loopV_inv (step := treatyref33_Collect_l12 l) (fun s => ∃ k : Nat, s = (k : Int) ∧ k ≤ l.length ∧ ∀ j (hj : j < l.length), j < k → vE l[j] = true) (fun s => l.length - s.toNat) (fun o => o = .inl ([], 1)) ?_ 0 ⟨0, rfl, by omega, fun j _ h => by omega⟩
  · obtain ⟨o, ho, rfl⟩ := key
    rw [if_neg (by simp; omega), ho]
    simp
  · rintro _ ⟨k, rfl, hk, hj⟩
    unfold treatyref33_Collect_l12
    by_cases hkl : k < l.length
    · rw [if_pos (by simp; omega), chk_of (inb_nat hkl), ix_nat hkl, rvalid_eq, Option.bind_some, w64_id (by omega) (by omega)]
      cases hv : vE l[k] with
      | false => exact ⟨_, rfl, rfl⟩
      | true =>
        refine ⟨_, rfl, ⟨k + 1, by simp, by omega, fun j hj1 hj2 => ?_⟩, by omega⟩
        by_cases e : j = k
        · subst e; exact hv
        · exact hj j hj1 (by omega)
    · exfalso
      apply h
      intro e he
      obtain ⟨j, hj1, rfl⟩ := List.getElem_of_mem he
      exact hj j hj1 (by omega)
/-- the program collects as the reference does -/
theorem collect_same (l : List GEntry) : ledger_Collect l = treatyref33_Collect l := by
  by_cases hl : l.length ≤ 65536
  · by_cases h : ∀ e ∈ l, vE e = true
    · exact lcollect_valid hl h
    · rw [collect_inv1 hl h, collect_inv2 hl h]
  · unfold ledger_Collect treatyref33_Collect
    rw [if_pos (by simp; omega), if_pos (by simp; omega)]
theorem grp_len (n : Nat) : ∀ s : List GEntry, s.length = n → ∀ r, grp s = some r → r.length ≤ s.length := by
  induction n using Nat.strongRecOn with
  | _ n ih =>
    intro s hn r hr
    match s with
    | [] =>
      unfold grp at hr
      cases hr
      simp
    | x :: l =>
      unfold grp at hr
      simp only at hr
      have hle := (List.dropWhile_suffix (fun y => !kLt x y) (l := l)).length_le
      simp only [List.length_cons] at hn
      split at hr
      · obtain ⟨r', h1, h2⟩ := Option.map_eq_some_iff.1 hr
        have := ih _ (by omega) _ rfl r' h1
        simp only [List.length_cons]
        split at h2
        · subst h2; omega
        · subst h2; simp only [List.length_cons]; omega
      · cases hr
/-- what Collect gives, for every list -/
theorem collect_tot (l : List GEntry) : ∃ r e, treatyref33_Collect l = some (r, e) ∧ r.length ≤ 65536 ∧ (e = 0 → l.length ≤ 65536 ∧ (∀ x ∈ l, vE x = true) ∧ TotOk l ∧ Coll l r) := by
  by_cases hl : l.length ≤ 65536
  · by_cases h : ∀ e ∈ l, vE e = true
    · rw [collect_all hl h]
      have hg := grp_msort l
      cases hgr : grp (msort l) with
      | none => exact ⟨_, _, rfl, by simp, fun h => by cases h⟩
      | some r =>
        rw [hgr] at hg
        refine ⟨r, 0, rfl, ?_, fun _ => ⟨hl, h, hg.1, hg.2⟩⟩
        have := grp_len _ (msort l) rfl r hgr
        rw [msort_length] at this
        omega
    · exact ⟨_, _, collect_inv2 hl h, by simp, fun h => by cases h⟩
  · refine ⟨[], 4, ?_, by simp, fun h => by cases h⟩
    unfold treatyref33_Collect
    rw [if_pos (by simp; omega)]
end Go.Proofs.Ytdenliplkmjmjaa.Pl
