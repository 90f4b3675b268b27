/- The law LedgerLast (plain). -/
import Derived.Test.YtadkcelipefpmaaLSem
namespace Go.Proofs.Ytadkcelipefpmaa.Pl
open Go

/-- after i rounds: the totals are those of the last target -/
structure Lst (l : GLedger) (t : List GEntry) (i : Nat) : Prop where
  way : Way l (8 * 2 ^ i - 8) 274877906944 i
  few : t.length ≤ 8
  ent : ∀ e ∈ t, EOk e ∧ isR e = true
  tot : ∀ g, g.Amount = 0 → tot (ents l) g = tot t g
theorem eight_pow_le {j : Nat} (h : j ≤ 8) : 8 * 2 ^ j ≤ 2048 := by
  have : 2 ^ j ≤ 2 ^ 8 := Nat.pow_le_pow_right (by omega) h
  omega
theorem lst_restate {l : GLedger} {t u : List GEntry} {i : Nat} (h : Lst l t i) (hi : i < 8) (hu : ∀ e ∈ u, EOk e ∧ isR e = true) (hl : u.length ≤ 8) : ∃ cs, ledger_Restate l u = some (⟨l.Closed, l.Postings ++ mkPost l.Closed (lastNo l.Postings + 1) cs⟩, mkPost l.Closed (lastNo l.Postings + 1) cs, 0) ∧ (∀ c', l.Closed ≤ c' → c' ≤ i + 1 → LOk ⟨c', l.Postings ++ mkPost l.Closed (lastNo l.Postings + 1) cs⟩ → Lst ⟨c', l.Postings ++ mkPost l.Closed (lastNo l.Postings + 1) cs⟩ u (i + 1)) ∧ LOk ⟨l.Closed, l.Postings ++ mkPost l.Closed (lastNo l.Postings + 1) cs⟩ ∧ l.Closed ≤ i := by
  have hP := eight_pow_le (show i ≤ 8 by omega)
  have hpow : 2 ^ (i + 1) = 2 ^ i * 2 := Nat.pow_succ ..
  have hpos : 1 ≤ 2 ^ i := Nat.one_le_two_pow
  obtain ⟨cs, e1, hw, ht⟩ := h.way.restate (by omega) (by omega) (by omega) hu hl (by omega) (by omega)
  refine ⟨cs, e1, fun c' hc1 hc2 hok => ⟨?_, hl, hu, fun g hg => ?_⟩, hw.ok, h.way.closed⟩
  · have hm := hw.mono (P' := 8 * 2 ^ (i + 1) - 8) (B' := 274877906944) (c' := (i : Int) + 1) (by
      have := h.way.len
      omega) (by omega) (by omega)
    exact ⟨hok, hc2, hm.len, hm.last, hm.bd⟩
  · show Pl.tot (ents ⟨l.Closed, l.Postings ++ mkPost l.Closed (lastNo l.Postings + 1) cs⟩) g = _
    rw [ents_post, ht g hg]
    split
    · rfl
    · rename_i hr
      rw [h.tot g hg, tot_allR (fun e he => (h.ent e he).2) hr, tot_allR (fun e he => (hu e he).2) hr]
theorem lastLoop (ds : List (List Int)) (cl : List Bool) (hds : ∀ x ∈ ds, x.length ≤ 9223372036854775807) : ∀ (n : Nat) (i : Nat) (l : GLedger) (t : List GEntry), Lst l t i → i ≤ ds.length → i ≤ 8 → 8 - i = n → ∃ l' t' j, loopV (treatylaw33_LedgerLast_l10 ds cl) (l.Closed, l.Postings, t, (i : Int)) = some (.inr (l'.Closed, l'.Postings, t')) ∧ Lst l' t' j ∧ j ≤ 8 := by
  intro n
  induction n with
  | zero =>
    intro i l t h hi h8 hn
    refine ⟨l, t, i, loopV_stop ?_, h, h8⟩
    unfold treatylaw33_LedgerLast_l10
    dsimp only
    rw [if_neg (by simp; omega)]
  | succ n ih =>
    intro i l t h hi h8 hn
    by_cases hlt : i < ds.length
    · obtain ⟨e1, hk⟩ := new_ok ds[i] (hds _ (List.getElem_mem hlt))
      obtain ⟨u, d2, e2, _, h3, h4⟩ := target_ok hk 8 (by omega)
      rw [show ((8 : Nat) : Int) = 8 from rfl] at e2
      obtain ⟨cs, e5, hL, hok, hcl⟩ := lst_restate h (by omega) h4 h3
      have e5' : ledger_Restate ⟨l.Closed, l.Postings⟩ u = some (⟨l.Closed, l.Postings ++ mkPost l.Closed (lastNo l.Postings + 1) cs⟩, mkPost l.Closed (lastNo l.Postings + 1) cs, 0) := e5
      have hq : ∃ b : Bool, (if (decide ((i : Int) < (cl.length : Int))) = true then (chk (inb cl (i : Int)) <| some (ix cl (i : Int))) else (some false)) = some b := by
        by_cases hc : i < cl.length
        · exact ⟨_, by rw [if_pos (by simp; omega), chk_of (inb_nat hc)]⟩
        · exact ⟨false, by rw [if_neg (by simp; omega)]⟩
      obtain ⟨b, hb⟩ := hq
      have ew : w64 ((i : Int) + 1) = ((i + 1 : Nat) : Int) := by rw [w64_id (by omega) (by omega)]; rfl
      have hc : (decide ((i : Int) < (ds.length : Int)) && decide ((i : Int) < 8)) = true := by simp; omega
      cases b with
      | true =>
        have e6 := pclose_eq hok
        rw [if_neg (show l.Closed ≠ 100 by omega)] at e6
        have hst : treatylaw33_LedgerLast_l10 ds cl (l.Closed, l.Postings, t, (i : Int)) = some (.inl (l.Closed + 1, l.Postings ++ mkPost l.Closed (lastNo l.Postings + 1) cs, u, ((i + 1 : Nat) : Int))) := by
          unfold treatylaw33_LedgerLast_l10
          dsimp only
          rw [if_pos hc, chk_of (inb_nat hlt), ix_nat hlt, e1, Option.bind_some, e2, Option.bind_some]
          dsimp only
          rw [e5', Option.bind_some]
          dsimp only
          rw [if_neg (by simp), hb, Option.bind_some, if_pos rfl, e6, Option.bind_some]
          dsimp only
          rw [if_neg (by simp), Option.bind_some, ew]
          rfl
        obtain ⟨l', t', j, h1, h2, h3⟩ := ih (i + 1) ⟨l.Closed + 1, l.Postings ++ mkPost l.Closed (lastNo l.Postings + 1) cs⟩ u (hL _ (by omega) (by omega) (lok_close hok (show l.Closed ≠ 100 by omega))) (by omega) (by omega) (by omega)
        exact ⟨l', t', j, (loopV_next hst).trans h1, h2, h3⟩
      | false =>
        have hst : treatylaw33_LedgerLast_l10 ds cl (l.Closed, l.Postings, t, (i : Int)) = some (.inl (l.Closed, l.Postings ++ mkPost l.Closed (lastNo l.Postings + 1) cs, u, ((i + 1 : Nat) : Int))) := by
          unfold treatylaw33_LedgerLast_l10
          dsimp only
          rw [if_pos hc, chk_of (inb_nat hlt), ix_nat hlt, e1, Option.bind_some, e2, Option.bind_some]
          dsimp only
          rw [e5', Option.bind_some]
          dsimp only
          rw [if_neg (by simp), hb, Option.bind_some, if_neg (by simp), Option.bind_some, ew]
          rfl
        obtain ⟨l', t', j, h1, h2, h3⟩ := ih (i + 1) ⟨l.Closed, l.Postings ++ mkPost l.Closed (lastNo l.Postings + 1) cs⟩ u (hL _ (by omega) (by omega) hok) (by omega) (by omega) (by omega)
        exact ⟨l', t', j, (loopV_next hst).trans h1, h2, h3⟩
    · refine ⟨l, t, i, loopV_stop ?_, h, h8⟩
      unfold treatylaw33_LedgerLast_l10
      dsimp only
      rw [if_neg (by simp; omega)]
theorem way_nil : Way ⟨0, []⟩ 0 274877906944 0 := ⟨lok_nil, by decide, by decide, by decide, fun g _ => by simp [ents, tot_nil]⟩
theorem treatylaw33_LedgerLast_law (ds : List (List Int)) (cl : List Bool) (hds : ∀ x ∈ ds, x.length ≤ 9223372036854775807) : treatylaw33_LedgerLast ds cl = some true := by
  unfold treatylaw33_LedgerLast
  have h0 : Lst ⟨0, []⟩ [] 0 := ⟨way_nil, by simp, fun e he => (by cases he), fun g _ => (by simp [ents])⟩
  obtain ⟨l, t, j, e1, hL, hj⟩ := lastLoop ds cl hds 8 0 ⟨0, []⟩ [] h0 (by omega) (by omega) (by omega)
  rw [show ((0 : Nat) : Int) = 0 from rfl] at e1
  rw [e1]
  simp only [Option.bind_some, Sum.elim_inr, Sum.elim_inl]
  obtain ⟨cs, e2, hw, ht⟩ := way_nil.restate (by omega) (by omega) (by omega) hL.ent hL.few (by omega) (by omega)
  have hPl := eight_pow_le hj
  have hlen := hL.way.len
  obtain ⟨a, ha, hCa, hal⟩ := collect_ex (l := ents l) (by rw [ents_len]; omega) (ents_valid hL.way.ok) (hL.way.bd.ok (by omega))
  have hlen2 := hw.len
  obtain ⟨b, hb, hCb, hbl⟩ := collect_ex (by rw [ents_len]; omega) (ents_valid hw.ok) (hw.bd.ok (by omega))
  have hab : a = b := by
    refine hCa.T.uniq (hCb.T.congr fun g hg => ?_)
    rw [ents_post, ht g hg, hL.tot g hg]
    split
    · rfl
    · rename_i hr
      rw [tot_allR (fun e he => (hL.ent e he).2) hr]
      rfl
  have t1 : ledger_Totals ⟨l.Closed, l.Postings⟩ (w64 (l.Closed + 1)) = some (a, 0) := (ptotals_all hL.way.ok).trans ha
  have t2 := (ptotals_all hw.ok).trans hb
  rw [ents_len] at hal
  subst hab
  simp only [e2, Option.bind_some, t1, t2, decide_true, Bool.and_self, if_true, sameEntries_refl a (by omega), awake33]
end Go.Proofs.Ytadkcelipefpmaa.Pl
