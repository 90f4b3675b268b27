/- Shares: which are valid, their entries, and those that the laws make (plain). -/
import Derived.Test.YtadkcelipefpmaaLSem
import Derived.Test.YtadkcelipefpmaaLDif
namespace Go.Proofs.Ytadkcelipefpmaa.Pl
open Go

def vS (x : GShare) : Bool := decide (1 ≤ x.Loss) && decide (x.Loss ≤ 1048576) && decide (0 ≤ x.Treaty) && decide (x.Treaty ≤ 1048576) && decide (0 ≤ x.Party) && decide (x.Party ≤ 15) && (decide (x.Treaty ≠ 0) || decide (x.Party = 0)) && decide (1 ≤ x.Amount) && decide (x.Amount ≤ 68719476736) && decide (0 ≤ x.Paid) && decide (x.Paid ≤ x.Amount)
theorem vS_iff (x : GShare) : vS x = true ↔ (1 ≤ x.Loss ∧ x.Loss ≤ 1048576 ∧ 0 ≤ x.Treaty ∧ x.Treaty ≤ 1048576 ∧ 0 ≤ x.Party ∧ x.Party ≤ 15 ∧ (x.Treaty = 0 → x.Party = 0) ∧ 1 ≤ x.Amount ∧ x.Amount ≤ 68719476736 ∧ 0 ≤ x.Paid ∧ x.Paid ≤ x.Amount) := by
  unfold vS
  simp only [Bool.and_eq_true, Bool.or_eq_true, decide_eq_true_eq]
  omega
theorem cvalid_eq (x : GShare) : cession_valid x = some (vS x) := by
  unfold cession_valid
  by_cases h1 : (((decide (x.Loss < 1) || decide (1048576 < x.Loss)) || decide (x.Treaty < 0)) || decide (1048576 < x.Treaty)) = true
  · rw [if_pos h1]
    congr 1
    symm
    rw [Bool.eq_false_iff]
    intro hc
    rw [vS_iff] at hc
    simp only [Bool.or_eq_true, decide_eq_true_eq] at h1
    omega
  · rw [if_neg h1]
    by_cases h2 : ((decide (x.Party < 0) || decide (15 < x.Party)) || (decide (x.Treaty = 0) && (!decide (x.Party = 0)))) = true
    · rw [if_pos h2]
      congr 1
      symm
      rw [Bool.eq_false_iff]
      intro hc
      rw [vS_iff] at hc
      simp only [Bool.or_eq_true, Bool.and_eq_true, Bool.not_eq_true', decide_eq_false_iff_not, decide_eq_true_eq] at h2
      omega
    · rw [if_neg h2]
      congr 1
      rw [Bool.eq_iff_iff, vS_iff]
      simp only [Bool.or_eq_true, Bool.and_eq_true, Bool.not_eq_true', decide_eq_false_iff_not, decide_eq_true_eq] at h1 h2 ⊢
      omega
def sLt (a b : GShare) : Bool := decide (a.Loss < b.Loss) || (decide (a.Loss = b.Loss) && (decide (a.Treaty < b.Treaty) || (decide (a.Treaty = b.Treaty) && decide (a.Party < b.Party))))
theorem sLt_iff (a b : GShare) : sLt a b = true ↔ (a.Loss < b.Loss ∨ (a.Loss = b.Loss ∧ (a.Treaty < b.Treaty ∨ (a.Treaty = b.Treaty ∧ a.Party < b.Party)))) := by
  simp [sLt]
theorem sbefore_eq (a b : GShare) : treatyref30_Before a b = some (sLt a b) := by
  unfold treatyref30_Before sLt
  by_cases h1 : a.Loss = b.Loss
  · by_cases h2 : a.Treaty = b.Treaty <;> simp [h1, h2]
  · simp [h1]
theorem scompare_eq (a b : GShare) : ∃ r, cession_compare a b = some r ∧ (decide (r ≤ 0) = !sLt b a) := by
  unfold cession_compare
  simp only [compare_i, Option.bind_some]
  rw [or_eq _ (by simp)]
  refine ⟨_, rfl, ?_⟩
  rw [Bool.eq_iff_iff]
  simp only [decide_eq_true_eq, Bool.not_eq_true']
  have e : (sLt b a = false) ↔ ¬ sLt b a = true := by simp
  rw [e, sLt_iff]
  unfold fstNZ fstNZ fstNZ fstNZ cmp3
  by_cases h1 : a.Loss < b.Loss
  · simp [h1]; omega
  · by_cases h2 : b.Loss < a.Loss
    · simp [h1, h2]
    · by_cases h3 : a.Treaty < b.Treaty
      · simp [h1, h2, h3]; omega
      · by_cases h4 : b.Treaty < a.Treaty
        · simp [h1, h2, h3, h4]; omega
        · by_cases h5 : a.Party < b.Party
          · simp [h1, h2, h3, h4, h5]; omega
          · by_cases h6 : b.Party < a.Party
            · simp [h1, h2, h3, h4, h5, h6]; omega
            · simp [h1, h2, h3, h4, h5, h6]
/-- the shares are valid and in order -/
structure SOk (l : List GShare) : Prop where
  len : l.length ≤ 10048
  ent : ∀ x ∈ l, vS x = true
  ord : ∀ (i : Nat) (h : i + 1 < l.length), sLt l[i] l[i + 1] = true
theorem shares_step (l : List GShare) (s : Int) : cession_Validate_l12 l s = treatyref30_Shares_l12 l s := by
  unfold cession_Validate_l12 treatyref30_Shares_l12
  cases decide (s < (l.length : Int)) with
  | false => rfl
  | true =>
    simp only [if_true, chk]
    cases inb l s with
    | false => rfl
    | true =>
      simp only [if_true, cvalid_eq, Option.bind_some]
      have hv : (((((((((((decide ((ix l s).Loss < 1)) || (decide (1048576 < (ix l s).Loss))) || (decide ((ix l s).Treaty < 0))) || (decide (1048576 < (ix l s).Treaty))) || (decide ((ix l s).Party < 0))) || (decide (15 < (ix l s).Party))) || ((decide ((ix l s).Treaty = 0)) && (!decide ((ix l s).Party = 0)))) || (decide ((ix l s).Amount < 1))) || (decide (68719476736 < (ix l s).Amount))) || (decide ((ix l s).Paid < 0))) || (decide ((ix l s).Amount < (ix l s).Paid))) = !vS (ix l s) := by
        rw [Bool.eq_iff_iff]
        have e : ((!vS (ix l s)) = true) ↔ ¬ vS (ix l s) = true := by simp
        rw [e, vS_iff]
        simp only [Bool.or_eq_true, Bool.and_eq_true, Bool.not_eq_true', decide_eq_false_iff_not, decide_eq_true_eq]
        omega
      rw [hv]
      split
      · rfl
      · obtain ⟨r, hr, hr2⟩ := scompare_eq (ix l s) (ix l (w64 (s - 1)))
        simp only [hr, Option.bind_some, sbefore_eq, hr2]
theorem shares_same (l : List GShare) : cession_Validate l = treatyref30_Shares l := by
  unfold cession_Validate treatyref30_Shares
  rw [loopV_congr (shares_step l)]
theorem shares_full (l : List GShare) : ∃ e, treatyref30_Shares l = some e ∧ (e = 0 → SOk l) := by
  rw [← shares_same]
  unfold cession_Validate
  by_cases h : 10048 < l.length
  · exact ⟨4, by rw [if_pos (by simp; omega)], fun h => absurd h (by decide)⟩
  · rw [if_neg (by simp; omega)]
    have key := loopV_inv (step := cession_Validate_l12 l) (fun s => ∃ k : Nat, s = (k : Int) ∧ k ≤ l.length ∧ (∀ j (hj : j < l.length), j < k → vS l[j] = true) ∧ ∀ j (hj : j + 1 < l.length), j + 1 < k → sLt l[j] l[j + 1] = true)
      (fun s => l.length - s.toNat) (fun o => (∃ e, o = .inl e ∧ e ≠ 0) ∨ (o = .inr () ∧ SOk l)) ?_ 0 ⟨0, rfl, by omega, fun j _ h => by omega, fun j _ h => by omega⟩
    · obtain ⟨o, ho, hq⟩ := key
      rw [ho]
      rcases hq with ⟨e, rfl, he⟩ | ⟨rfl, hp⟩
      · exact ⟨e, rfl, fun h => absurd h he⟩
      · exact ⟨0, rfl, fun _ => hp⟩
    rintro _ ⟨k, rfl, hk, hj, ho⟩
    unfold cession_Validate_l12
    by_cases hkl : k < l.length
    · rw [if_pos (by simp; omega), chk_of (inb_nat hkl), ix_nat hkl, cvalid_eq, Option.bind_some]
      cases hv : vS l[k] with
      | false => exact ⟨_, rfl, .inl ⟨1, rfl, by decide⟩⟩
      | true =>
        rw [if_neg (by simp)]
        have hs : ∃ b : Bool, (if (decide (0 < (k : Int))) = true then (chk (inb l (w64 ((k : Int) - 1))) <| (cession_compare l[k] (ix l (w64 ((k : Int) - 1)))).bind fun r8_9 => some (decide (r8_9 ≤ 0))) else (some false)) = some b ∧ (b = false → ∀ h0 : 0 < k, sLt l[k - 1] l[k] = true) := by
          by_cases h0 : 0 < k
          · have hin : inb l (w64 ((k : Int) - 1)) = true := by
              rw [w64_pred k h0 (by omega)]
              exact inb_nat (by omega)
            have hix : ix l (w64 ((k : Int) - 1)) = l[k - 1] := by rw [w64_pred k h0 (by omega), ix_nat (by omega)]
            obtain ⟨r, hr, hr2⟩ := scompare_eq l[k] l[k - 1]
            rw [if_pos (by simp; omega), chk_of hin, hix, hr, Option.bind_some, hr2]
            exact ⟨_, rfl, fun h _ => by simpa using h⟩
          · exact ⟨false, by rw [if_neg (by simp; omega)], fun _ h => absurd h h0⟩
        obtain ⟨b, eb, hbf⟩ := hs
        rw [eb, Option.bind_some]
        cases b
        · rw [if_neg (by simp), w64_id (by omega) (by omega)]
          refine ⟨_, rfl, ⟨k + 1, rfl, by omega, fun j hj1 hj2 => ?_, fun j hj1 hj2 => ?_⟩, by omega⟩
          · by_cases e : j = k
            · subst e; exact hv
            · exact hj j hj1 (by omega)
          · by_cases e : j + 1 = k
            · subst e
              exact hbf rfl (by omega)
            · exact ho j hj1 (by omega)
        · rw [if_pos rfl]
          exact ⟨_, rfl, .inl ⟨13, rfl, by decide⟩⟩
    · rw [if_neg (by simp; omega)]
      refine ⟨_, rfl, .inr ⟨rfl, ⟨by omega, fun p hp => ?_, fun i hi => ho i hi (by omega)⟩⟩⟩
      obtain ⟨j, hj1, rfl⟩ := List.getElem_of_mem hp
      exact hj j hj1 (by omega)
theorem shares_ok {l : List GShare} (h : SOk l) : treatyref30_Shares l = some 0 := by
  rw [← shares_same]
  unfold cession_Validate
  have hl := h.len
  have hloop : loopV (cession_Validate_l12 l) 0 = some (.inr ()) := by
    refine loopV_done (fun k => (k : Int)) l.length _ (fun k hk => ?_) ?_
    · unfold cession_Validate_l12
      have e1 : w64 ((k : Int) + 1) = ((k + 1 : Nat) : Int) := by rw [w64_id (by omega) (by omega)]; rfl
      rw [if_pos (by simp; omega), chk_of (inb_nat hk), ix_nat hk, cvalid_eq, Option.bind_some, h.ent _ (List.getElem_mem hk), if_neg (by simp), e1]
      by_cases hk0 : 0 < k
      · have hin : inb l (w64 ((k : Int) - 1)) = true := by
          rw [w64_pred k hk0 (by omega)]
          exact inb_nat (by omega)
        have hix : ix l (w64 ((k : Int) - 1)) = l[k - 1] := by rw [w64_pred k hk0 (by omega), ix_nat (by omega)]
        obtain ⟨r, hr, hr2⟩ := scompare_eq l[k] l[k - 1]
        have ho := h.ord (k - 1) (by omega)
        have ek : k - 1 + 1 = k := by omega
        simp only [ek] at ho
        rw [if_pos (by simp; omega), chk_of hin, hix, hr, Option.bind_some, hr2, ho]
        simp
      · rw [if_neg (by simp; omega)]
        simp
    · unfold cession_Validate_l12
      rw [if_neg (by simp)]
  rw [if_neg (by simp; omega), hloop]
  rfl
/-! ### their entries -/
def ofS (x : GShare) : List GEntry := [⟨1, x.Treaty, x.Party, x.Loss, x.Paid⟩, ⟨2, x.Treaty, x.Party, x.Loss, x.Amount - x.Paid⟩]
theorem flat_len (l : List GShare) : (l.flatMap ofS).length = 2 * l.length := by
  induction l with
  | nil => rfl
  | cons x l ih => simp only [List.flatMap_cons, List.length_append, ih, ofS, List.length_cons, List.length_nil]; omega
theorem ofS_valid {x : GShare} (h : vS x = true) : ∀ e ∈ ofS x, vE e = true := by
  rw [vS_iff] at h
  intro e he
  simp only [ofS, List.mem_cons, List.not_mem_nil, or_false] at he
  rcases he with rfl | rfl
  all_goals
    unfold vE headB vAmt
    simp
    omega
theorem pentLoop {l : List GShare} (h : SOk l) : loopV (ledger_Entries_l16 l) (List.replicate (0 : Int).toNat (GEntry.mk 0 0 0 0 0), 0) = some (l.flatMap ofS) := by
  have hl := h.len
  have hd := loopV_done (step := ledger_Entries_l16 l) (fun k => ((l.take k).flatMap ofS, (k : Int))) l.length (l.flatMap ofS) (fun k hk => ?_) ?_
  · simpa using hd
  · have hx := (vS_iff _).1 (h.ent _ (List.getElem_mem hk))
    have hfl := flat_len (l.take k)
    have htl : (l.take k).length = k := by rw [List.length_take]; omega
    unfold ledger_Entries_l16
    dsimp only
    have e1 : w64 ((k : Int) + 1) = ((k + 1 : Nat) : Int) := by rw [w64_id (by omega) (by omega)]; rfl
    rw [if_pos (by simp; omega), chk_of (inb_nat hk), ix_nat hk, e1, w64_id (n := l[k].Amount - l[k].Paid) (by omega) (by omega), chk_of (room_of (by rw [List.length_append]; simp only [List.length_cons, List.length_nil]; omega)), chk_of (room_of (by simp only [List.length_append, List.length_cons, List.length_nil]; omega)), List.take_succ_eq_append_getElem hk, List.flatMap_append]
    simp [ofS]
  · unfold ledger_Entries_l16
    dsimp only
    rw [if_neg (by simp), List.take_of_length_le (Nat.le_refl _)]
theorem rentLoop {l : List GShare} (h : SOk l) : loopV (treatyref33_Entries_l16 l) ([], 0) = some (l.flatMap ofS) := by
  have hl := h.len
  have hd := loopV_done (step := treatyref33_Entries_l16 l) (fun k => ((l.take k).flatMap ofS, (k : Int))) l.length (l.flatMap ofS) (fun k hk => ?_) ?_
  · simpa using hd
  · have hx := (vS_iff _).1 (h.ent _ (List.getElem_mem hk))
    have hfl := flat_len (l.take k)
    have htl : (l.take k).length = k := by rw [List.length_take]; omega
    unfold treatyref33_Entries_l16
    dsimp only
    have e1 : w64 ((k : Int) + 1) = ((k + 1 : Nat) : Int) := by rw [w64_id (by omega) (by omega)]; rfl
    rw [if_pos (by simp; omega), chk_of (inb_nat hk), ix_nat hk, e1, w64_id (n := l[k].Amount - l[k].Paid) (by omega) (by omega), chk_of (room_of (by simp only [List.length_append, List.length_cons, List.length_nil]; omega)), List.take_succ_eq_append_getElem hk, List.flatMap_append]
    simp [ofS]
  · unfold treatyref33_Entries_l16
    dsimp only
    rw [if_neg (by simp), List.take_of_length_le (Nat.le_refl _)]
theorem abs_flat {l : List GShare} (h : ∀ x ∈ l, vS x = true) : absA (l.flatMap ofS) ≤ 68719476736 * (l.length : Int) := by
  induction l with
  | nil => simp [absA]
  | cons x l ih =>
    have hx := (vS_iff _).1 (h x (by simp))
    have := ih fun y hy => h y (by simp [hy])
    simp only [List.flatMap_cons, absA_append, ofS, absA_cons, List.length_cons]
    simp only [absA, List.map_nil, List.sum_nil] at this ⊢
    omega
theorem entries_same (l : List GShare) (hl : l.length ≤ 100) : ∃ r e, ledger_Entries l = some (r, e) ∧ treatyref33_Entries l = some (r, e) ∧ r.length ≤ 1000 ∧ (SOk l → e = 0) := by
  unfold ledger_Entries treatyref33_Entries
  rw [shares_same]
  obtain ⟨e, he, hok⟩ := shares_full l
  rw [he, Option.bind_some, Option.bind_some]
  by_cases h0 : e = 0
  · have hS := hok h0
    have hfl := flat_len l
    have hv : ∀ y ∈ l.flatMap ofS, vE y = true := fun y hy => by
      obtain ⟨x, hx, hyx⟩ := List.mem_flatMap.1 hy
      exact ofS_valid (hS.ent x hx) y hyx
    have habs := abs_flat hS.ent
    obtain ⟨r, hr, hC, hrl⟩ := collect_ex (by omega) hv ((TotB.of_abs (B := 17592186044416) (by omega)).ok (by omega))
    rw [if_neg (by simpa using h0), if_neg (by simpa using h0), w64_id (by omega) (by omega), chk_of (by simp only [decide_eq_true_eq]; omega), chk_of (by simp only [decide_eq_true_eq]; omega), pentLoop hS, Option.bind_some, rentLoop hS, Option.bind_some, collect_same, hr, Option.bind_some, sums_eq _ (by omega) (Amts.of_valid hv)]
    have hg : grp (msort (l.flatMap ofS)) = some r := by
      rw [collect_all (by omega) hv] at hr
      cases hq : grp (msort (l.flatMap ofS)) with
      | none => rw [hq] at hr; simp at hr
      | some r' => rw [hq] at hr; simp at hr; rw [hr]
    rw [hg]
    exact ⟨r, 0, rfl, rfl, by omega, fun _ => rfl⟩
  · rw [if_pos (by simpa using h0), if_pos (by simpa using h0)]
    refine ⟨_, _, rfl, rfl, by simp, fun hS => ?_⟩
    rw [shares_ok hS] at he
    simp at he
    exact absurd he.symm h0
end Go.Proofs.Ytadkcelipefpmaa.Pl
