/- The law LedgerKeeps (plain). -/
import Derived.Test.YtadkcelipefpmaaLSem
namespace Go.Proofs.Ytadkcelipefpmaa.Pl
open Go

/-- k comes out of l by operations -/
structure Keeps (l k : GLedger) (j : Nat) : Prop where
  way : Way k (30 * 2 ^ j - 6) (824633720832 + 206158430208 * (j : Int)) (6 + j)
  closed : l.Closed ≤ k.Closed
  ext : ∃ x, k.Postings = l.Postings ++ x ∧ ∀ p ∈ x, l.Closed ≤ p.Period
theorem mkPost_period (c n : Int) (l : List GEntry) : ∀ p ∈ mkPost c n l, p.Period = c := fun p hp => by
  obtain ⟨i, hi, rfl⟩ := List.mem_iff_getElem.1 hp
  exact (mkPost_get c n l i hi).2.1
theorem two_pow_le {j : Nat} (h : j ≤ 5) : 30 * 2 ^ j ≤ 960 := by
  have : 2 ^ j ≤ 2 ^ 5 := Nat.pow_le_pow_right (by omega) h
  omega
theorem Keeps.post {l k : GLedger} {j : Nat} (h : Keeps l k j) {cs : List GEntry} {P : Nat} {B : Int} (hw : Way ⟨k.Closed, k.Postings ++ mkPost k.Closed (lastNo k.Postings + 1) cs⟩ P B (6 + j)) (hP : P ≤ 30 * 2 ^ (j + 1) - 6) (hB : B ≤ 824633720832 + 206158430208 * ((j + 1 : Nat) : Int)) : Keeps l ⟨k.Closed, k.Postings ++ mkPost k.Closed (lastNo k.Postings + 1) cs⟩ (j + 1) := by
  obtain ⟨x, hx, hp⟩ := h.ext
  have hc := h.closed
  refine ⟨hw.mono hP hB (by omega), hc, x ++ mkPost k.Closed (lastNo k.Postings + 1) cs, ?_, fun p hpx => ?_⟩
  · show k.Postings ++ mkPost k.Closed (lastNo k.Postings + 1) cs = _
    rw [hx, List.append_assoc]
  · rcases List.mem_append.1 hpx with hpx | hpx
    · exact hp p hpx
    · rw [mkPost_period _ _ _ p hpx]
      exact hc
theorem keepsLoop (l : GLedger) : ∀ (n : Nat) (j : Nat) (d : GDeck) (k : GLedger), DOk d → Keeps l k j → j + n ≤ 5 → ∃ k', loopV treatylaw33_LedgerKeeps_l12 (d.L, d.At, k.Closed, k.Postings, (n : Int)) = some (.inr (k'.Closed, k'.Postings)) ∧ Keeps l k' (j + n)
  | 0, j, d, k, _, hk, _ => ⟨k, loopV_stop (by unfold treatylaw33_LedgerKeeps_l12; simp), hk⟩
  | n + 1, j, d, k, hd, hk, hj => by
    have hP := two_pow_le (show j ≤ 5 by omega)
    obtain ⟨v, d1, e1, a1, b1, h1⟩ := next_ok (d := ⟨d.L, d.At⟩) hd (n := 3) (by omega) (by omega)
    have hc : decide ((0 : Int) < ((n + 1 : Nat) : Int)) = true := by simp <;> omega
    have ew : w64 (((n + 1 : Nat) : Int) - 1) = (n : Int) := by rw [w64_id (by omega) (by omega)]; omega
    have key : ∃ d2 k2, treatylaw33_LedgerKeeps_l12 (d.L, d.At, k.Closed, k.Postings, ((n + 1 : Nat) : Int)) = some (.inl (d2.L, d2.At, k2.Closed, k2.Postings, (n : Int))) ∧ DOk d2 ∧ Keeps l k2 (j + 1) := by
      unfold treatylaw33_LedgerKeeps_l12
      by_cases hv : v = 0
      · have hv' : decide (v = 0) = true := by simpa using hv
        obtain ⟨e2, hw⟩ := hk.way.close (by omega)
        have hpow : 2 ^ (j + 1) = 2 ^ j * 2 := Nat.pow_succ ..
        refine ⟨d1, ⟨k.Closed + 1, k.Postings⟩, ?_, h1, ⟨hw.mono (by omega) (by omega) (by omega), ?_, hk.ext⟩⟩
        · have e2' : ledger_Close ⟨k.Closed, k.Postings⟩ = some (⟨k.Closed + 1, k.Postings⟩, 0) := e2
          simp only [hc, if_true, e1, Option.bind_some, hv', e2', ew, decide_true, Bool.not_true, Bool.false_eq_true, if_false]
        · have := hk.closed
          show l.Closed ≤ k.Closed + 1
          omega
      · have hv' : decide (v = 0) = false := by simpa using hv
        have hpow : 2 ^ (j + 1) = 2 ^ j * 2 := Nat.pow_succ ..
        have hpos : 1 ≤ 2 ^ j := Nat.one_le_two_pow
        by_cases hv1 : v = 1
        · have hv1' : decide (v = 1) = true := by simpa using hv1
          obtain ⟨es, d2, e2, h2, h3, h4⟩ := entries_ok h1 4 (by omega)
          rw [show ((4 : Nat) : Int) = 4 from rfl] at e2
          obtain ⟨cs, e5, hw⟩ := hk.way.post (by omega) (by omega) h4 h3 (by omega)
          refine ⟨d2, _, ?_, h2, hk.post hw (by omega) (by omega)⟩
          have e5' : ledger_Post ⟨k.Closed, k.Postings⟩ es = some (⟨k.Closed, k.Postings ++ mkPost k.Closed (lastNo k.Postings + 1) cs⟩, 0) := e5
          simp only [hc, if_true, e1, Option.bind_some, hv', hv1', Bool.false_eq_true, if_false, e2, e5', decide_true, Bool.not_true, ew]
        · have hv1' : decide (v = 1) = false := by simpa using hv1
          obtain ⟨t, d2, e2, h2, h3, h4⟩ := target_ok h1 6 (by omega)
          rw [show ((6 : Nat) : Int) = 6 from rfl] at e2
          obtain ⟨cs, e5, hw, _⟩ := hk.way.restate (by omega) (by omega) (by omega) h4 h3 (by omega) (by omega)
          refine ⟨d2, _, ?_, h2, hk.post hw (by omega) (by omega)⟩
          have e5' : ledger_Restate ⟨k.Closed, k.Postings⟩ t = some (⟨k.Closed, k.Postings ++ mkPost k.Closed (lastNo k.Postings + 1) cs⟩, mkPost k.Closed (lastNo k.Postings + 1) cs, 0) := e5
          simp only [hc, if_true, e1, Option.bind_some, hv', hv1', Bool.false_eq_true, if_false, e2, e5', decide_true, Bool.not_true, ew]
    obtain ⟨d2, k2, hst, hd2, hk2⟩ := key
    obtain ⟨k3, h3, h4⟩ := keepsLoop l n (j + 1) d2 k2 hd2 hk2 (by omega)
    exact ⟨k3, (loopV_next hst).trans h3, by rw [show j + (n + 1) = j + 1 + n by omega]; exact h4⟩
theorem upto_valid {l : GLedger} (h : LOk l) (p : Int) : ∀ e ∈ upto l p, vE e = true := fun e he => by
  obtain ⟨x, hx, rfl⟩ := List.mem_map.1 he
  exact (h.ent x (List.mem_filter.1 hx).1).1
theorem absA_filter (l : List GPosting) (f : GPosting → Bool) : absA ((l.filter f).map (·.Entry)) ≤ absA (l.map (·.Entry)) := by
  induction l with
  | nil => simp
  | cons x l ih =>
    by_cases hx : f x = true
    · rw [List.filter_cons_of_pos hx, List.map_cons, List.map_cons, absA_cons, absA_cons]
      omega
    · rw [List.filter_cons_of_neg hx, List.map_cons, absA_cons]
      omega
theorem keeps_upto {l k : GLedger} {j : Nat} (h : Keeps l k j) {p : Int} (hp : p ≤ l.Closed) : upto k p = upto l p := by
  obtain ⟨x, hx, hper⟩ := h.ext
  unfold upto
  rw [hx, List.filter_append, List.map_append]
  have : x.filter (fun y => decide (y.Period < p)) = [] := by
    rw [List.filter_eq_nil_iff]
    intro y hy
    have := hper y hy
    simp
    omega
  rw [this]
  simp
theorem treatylaw33_LedgerKeeps_law (d o : List Int) (hd : d.length ≤ 9223372036854775807) (ho : o.length ≤ 9223372036854775807) : treatylaw33_LedgerKeeps d o = some true := by
  unfold treatylaw33_LedgerKeeps
  obtain ⟨e1, hk⟩ := new_ok d hd
  obtain ⟨l, d', e2, _, hm⟩ := ledger_ok hk 6 (by omega)
  rw [show ((6 : Nat) : Int) = 6 from rfl] at e2
  obtain ⟨e3, hk2⟩ := new_ok o ho
  obtain ⟨v, d1, e4, a1, b1, h1⟩ := next_ok hk2 (n := 6) (by omega) (by omega)
  have hK : Keeps l l 0 := ⟨hm.way.mono (by omega) (by omega) (by omega), Int.le_refl _, [], by simp, fun p hp => by cases hp⟩
  obtain ⟨k, e5, hKk⟩ := keepsLoop l v.toNat 0 d1 l h1 hK (by omega)
  have ev : ((v.toNat : Nat) : Int) = v := by omega
  rw [ev] at e5
  have hfew := hm.few
  have hcl := hKk.closed
  have hc0 := hm.ok.c0
  have hc1 := hm.ok.c1
  obtain ⟨x, hx, hper⟩ := hKk.ext
  have htake : k.Postings.take (l.Postings.length : Int).toNat = l.Postings := by rw [Int.toNat_natCast, hx, List.take_left]
  have hlen : (l.Postings.length : Int) ≤ (k.Postings.length : Int) := by rw [hx, List.length_append]; omega
  have hloop : loopV (treatylaw33_LedgerKeeps_l55 (l, d') (k.Closed, k.Postings)) 0 = some (.inr ()) := by
    have hfin := loopV_done (step := treatylaw33_LedgerKeeps_l55 (l, d') (k.Closed, k.Postings)) (fun n => (n : Int)) (l.Closed + 1).toNat (.inr ()) (fun n hn => ?_) ?_
    · exact hfin
    · unfold treatylaw33_LedgerKeeps_l55
      have hn' : (n : Int) ≤ l.Closed := by omega
      have hul := upto_len l n
      obtain ⟨r, hr, _, hrl⟩ := collect_ex (l := upto l (n : Int)) (by omega) (upto_valid hm.ok _) ((TotB.of_abs (B := 17592186044416) (by
        have := absA_filter l.Postings (fun x => decide (x.Period < (n : Int)))
        have h2 := hm.small
        unfold upto
        omega)).ok (by omega))
      have t1 : ledger_Totals l (n : Int) = some (r, 0) := by rw [ptotals_ok hm.ok (by omega) (by omega), hr]
      have t2 : ledger_Totals ⟨k.Closed, k.Postings⟩ (n : Int) = some (r, 0) := by
        have : ledger_Totals k (n : Int) = some (r, 0) := by rw [ptotals_ok hKk.way.ok (by omega) (by omega), keeps_upto hKk hn', hr]
        exact this
      rw [if_pos (by simpa using hn')]
      simp only [t1, t2, Option.bind_some, decide_true, Bool.not_true, Bool.or_self, Bool.false_eq_true, if_false, sameEntries_refl r (by omega)]
      rw [w64_id (by omega) (by omega)]
      rfl
    · unfold treatylaw33_LedgerKeeps_l55
      rw [if_neg (by simp; omega)]
  have hval : ledger_Validate ⟨k.Closed, k.Postings⟩ = some 0 := pvalidate_ok hKk.way.ok
  have c1 : decide ((k.Postings.length : Int) < (l.Postings.length : Int)) = false := by simp; omega
  have c2 : decide (k.Closed < l.Closed) = false := by simp; omega
  rw [e1, Option.bind_some, e2, Option.bind_some, e3, Option.bind_some, e4, Option.bind_some]
  dsimp only
  rw [e5]
  simp only [Option.bind_some, Sum.elim_inr, Sum.elim_inl, c1, Bool.false_eq_true, if_false, htake, sameP_refl l.Postings (by omega), Bool.not_true, c2]
  rw [chk_of (by simp), chk_of (by simpa using hlen), Option.bind_some, if_neg (by simp), hloop]
  simp only [Option.bind_some, Sum.elim_inr, Sum.elim_inl, hval, decide_true, if_true, awake33]
end Go.Proofs.Ytadkcelipefpmaa.Pl
