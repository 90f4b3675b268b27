/- What posting and restating do to the totals; made targets (plain). -/
import Derived.Test.YtdenliplkmjmjaaLLwB
namespace Go.Proofs.Ytdenliplkmjmjaa.Pl
open Go

theorem tot_neg (u : List GEntry) (h : GEntry) : tot (u.map neg) h = - tot u h := by
  induction u with
  | nil => rfl
  | cons x u ih =>
    rw [List.map_cons, tot_cons, tot_cons, ih]
    have : hd (neg x) = hd x := rfl
    rw [this]
    split
    · show -x.Amount + _ = _
      omega
    · omega
theorem isR_hd (e : GEntry) : isR (hd e) = isR e := rfl
theorem tot_isR (u : List GEntry) (h : GEntry) : tot (u.filter isR) h = if isR h = true then tot u h else 0 := by
  induction u with
  | nil => simp [tot_nil]
  | cons x u ih =>
    by_cases hx : isR x = true
    · rw [List.filter_cons_of_pos hx, tot_cons, tot_cons, ih]
      by_cases he : hd x = h
      · have : isR h = true := by rw [← he, isR_hd]; exact hx
        rw [if_pos this, if_pos he, if_pos this]
      · rw [if_neg he]
        split <;> omega
    · rw [List.filter_cons_of_neg hx, tot_cons, ih]
      by_cases he : hd x = h
      · have : ¬ isR h = true := by rw [← he, isR_hd]; exact hx
        rw [if_neg this, if_neg this]
      · rw [if_neg he]
        split <;> omega
theorem tot_allR {u : List GEntry} (hu : ∀ e ∈ u, isR e = true) {h : GEntry} (hh : isR h ≠ true) : tot u h = 0 := tot_none fun e he hc => hh (by rw [← hc, isR_hd]; exact hu e he)
theorem tot_abs (l : List GEntry) (h : GEntry) : tot l h ≤ absA l ∧ -(absA l) ≤ tot l h := by
  induction l with
  | nil => simp [tot_nil, absA]
  | cons x l ih =>
    rw [tot_cons, absA_cons]
    split <;> omega
/-- bounded totals -/
def TotB (l : List GEntry) (B : Int) : Prop := ∀ g, g.Amount = 0 → -B ≤ tot l g ∧ tot l g ≤ B
theorem TotB.ok {l : List GEntry} {B : Int} (h : TotB l B) (hB : B ≤ 17592186044416) : TotOk l := fun e _ => (vAmt_iff _).2 (by have := h (hd e) (hd_amount e); omega)
theorem TotB.of_abs {l : List GEntry} {B : Int} (h : absA l ≤ B) : TotB l B := fun g _ => by have := tot_abs l g; omega
theorem neg_valid {e : GEntry} (h : vE e = true) : vE (neg e) = true := by
  have h1 := vE_amt h
  simp only [vE, Bool.and_eq_true] at h ⊢
  refine ⟨h.1, (vAmt_iff _).2 ?_⟩
  show -17592186044416 ≤ -e.Amount ∧ -e.Amount ≤ 17592186044416
  omega
theorem ents_valid {l : GLedger} (h : LOk l) : ∀ e ∈ ents l, vE e = true := fun e he => by
  obtain ⟨p, hp, rfl⟩ := List.mem_map.1 he
  exact (h.ent p hp).1
theorem ents_len (l : GLedger) : (ents l).length = l.Postings.length := by simp [ents]
theorem post_sem {l : GLedger} (h : LOk l) (hc : l.Closed ≠ 100) {es : List GEntry} (hv : ∀ e ∈ es, vE e = true) (hl : es.length ≤ 1000) (hT : TotOk es) (h1 : l.Postings.length ≤ 10000) (h2 : lastNo l.Postings ≤ 10000) :
    ∃ cs, ledger_Post l es = some (⟨l.Closed, l.Postings ++ mkPost l.Closed (lastNo l.Postings + 1) cs⟩, 0) ∧ (∀ e ∈ cs, vE e = true ∧ e.Amount ≠ 0) ∧ cs.length ≤ es.length ∧ Coll es cs := by
  obtain ⟨cs, hcs, hC, hle⟩ := collect_ex (by omega) hv hT
  refine ⟨cs, ?_, hC.valid hv hT, hle, hC⟩
  rw [ppost_eq h hcs (by omega), if_neg hc, if_neg (by omega)]
theorem restate_sem {l : GLedger} (h : LOk l) (hc : l.Closed ≠ 100) {t : List GEntry} (hk : ∀ e ∈ t, isR e = true) (hv : ∀ e ∈ t, vE e = true) (hl : t.length ≤ 1000) {B : Int} (hB : B ≤ 4398046511104) (hT : TotB t B) (hL : TotB (ents l) B) (h1 : l.Postings.length ≤ 10000) (h2 : lastNo l.Postings ≤ 10000) :
    ∃ cs, ledger_Restate l t = some (⟨l.Closed, l.Postings ++ mkPost l.Closed (lastNo l.Postings + 1) cs⟩, mkPost l.Closed (lastNo l.Postings + 1) cs, 0) ∧ (∀ e ∈ cs, vE e = true ∧ e.Amount ≠ 0) ∧ cs.length ≤ t.length + l.Postings.length ∧ (∀ g, g.Amount = 0 → tot cs g = if isR g = true then tot t g - tot (ents l) g else 0) ∧ StrictE cs := by
  obtain ⟨c, hcc, hC, hcl⟩ := collect_ex (by omega) hv (hT.ok (by omega))
  have hev := ents_valid h
  have hel := ents_len l
  obtain ⟨T, hTc, hTC, hTl⟩ := collect_ex (by omega) hev (hL.ok (by omega))
  have hTv := hTC.valid hev (hL.ok (by omega))
  have hcv := hC.valid hv (hT.ok (by omega))
  have hfl := List.length_filter_le isR T
  have hLv : ∀ e ∈ c ++ (T.filter isR).map neg, vE e = true := fun e he => by
    rcases List.mem_append.1 he with he | he
    · exact (hcv e he).1
    · obtain ⟨x, hx, rfl⟩ := List.mem_map.1 he
      exact neg_valid (hTv x (List.mem_filter.1 hx).1).1
  have hLt : ∀ g, g.Amount = 0 → tot (c ++ (T.filter isR).map neg) g = if isR g = true then tot t g - tot (ents l) g else 0 := fun g hg => by
    rw [tot_append, tot_neg, tot_isR, coll_tot hC g hg]
    split
    · rw [coll_tot hTC g hg]; omega
    · rename_i hr
      rw [tot_allR hk hr]
      omega
  have hLB : TotB (c ++ (T.filter isR).map neg) 17592186044416 := fun g hg => by
    rw [hLt g hg]
    have a := hT g hg
    have b := hL g hg
    split <;> omega
  have hlen : (c ++ (T.filter isR).map neg).length ≤ t.length + l.Postings.length := by rw [List.length_append, List.length_map]; omega
  obtain ⟨cs, hcs, hCC, hcsl⟩ := collect_ex (by omega) hLv (hLB.ok (by omega))
  refine ⟨cs, prestate_eq h hk hcc hTc (Amts.of_valid fun e he => (hTv e he).1) hcs hc (by omega) (by omega), hCC.valid hLv (hLB.ok (by omega)), by omega, fun g hg => ?_, hCC.strict⟩
  rw [coll_tot hCC g hg, hLt g hg]
/-! ### targets -/
theorem target_ok {d : GDeck} (h : DOk d) (n : Nat) (hn : n ≤ 50) : ∃ r d', treatymade2_Target d (n : Int) = some (r, d') ∧ DOk d' ∧ r.length ≤ n ∧ ∀ e ∈ r, EOk e ∧ isR e = true := by
  unfold treatymade2_Target
  obtain ⟨es, d', e1, h1, h2, h3⟩ := entries_ok h n hn
  rw [e1, Option.bind_some]
  have hloop : loopV (treatymade2_Target_l8 (es, d')) ([], 0) = some (d'.L, d'.At, es.filter fun e => decide (e.Kind ≤ 3)) := by
    have hd := loopV_done (step := treatymade2_Target_l8 (es, d')) (fun k => ((es.take k).filter (fun e => decide (e.Kind ≤ 3)), (k : Int))) es.length (d'.L, d'.At, es.filter fun e => decide (e.Kind ≤ 3)) (fun k hk => ?_) ?_
    · simpa using hd
    · have hlen : ((es.take k).filter (fun e => decide (e.Kind ≤ 3))).length ≤ 100 := by
        have a1 := List.length_filter_le (fun e : GEntry => decide (e.Kind ≤ 3)) (es.take k)
        have a2 : (es.take k).length ≤ 50 := by simp; omega
        omega
      unfold treatymade2_Target_l8
      dsimp only
      rw [if_pos (by simp; omega), chk_of (inb_nat hk), ix_nat hk, w64_id (n := (k : Int) + 1) (by omega) (by omega), List.take_succ_eq_append_getElem hk, List.filter_append]
      by_cases hf : es[k].Kind ≤ 3
      · rw [if_pos (by simpa using hf), chk_of (room_of (by simp at hlen ⊢; omega)), Option.bind_some]
        simp [hf]
      · rw [if_neg (by simpa using hf), Option.bind_some]
        simp [hf]
    · unfold treatymade2_Target_l8
      dsimp only
      rw [if_neg (by simp), List.take_of_length_le (Nat.le_refl _)]
  rw [hloop, Option.bind_some]
  refine ⟨_, d', rfl, h1, ?_, fun e he => ?_⟩
  · have := List.length_filter_le (fun e : GEntry => decide (e.Kind ≤ 3)) es
    show (es.filter fun e => decide (e.Kind ≤ 3)).length ≤ n
    omega
  · have he' : e ∈ es.filter fun e => decide (e.Kind ≤ 3) := he
    obtain ⟨a1, a2⟩ := List.mem_filter.1 he'
    refine ⟨h3 e a1, ?_⟩
    have hh := (h3 e a1).head
    have a3 : e.Kind ≤ 3 := by simpa using a2
    unfold headB at hh
    simp only [Bool.and_eq_true, decide_eq_true_eq] at hh
    have a4 : 1 ≤ e.Kind := hh.1.1.1.1.1.1
    unfold isR
    simp
    omega
theorem totB_E {t : List GEntry} (h : ∀ e ∈ t, EOk e) : TotB t (34359738368 * (t.length : Int)) := TotB.of_abs (absA_EOk h)
/-- a ledger under way: sizes and totals -/
structure Way (l : GLedger) (P : Nat) (B c : Int) : Prop where
  ok : LOk l
  closed : l.Closed ≤ c
  len : l.Postings.length ≤ P
  last : lastNo l.Postings ≤ P
  bd : TotB (ents l) B
theorem Made.way {l : GLedger} {j : Nat} (h : Made l j) : Way l (4 * j) (137438953472 * (j : Int)) (j : Int) := by
  refine ⟨h.ok, h.closed, h.few, ?_, TotB.of_abs h.small⟩
  by_cases h0 : 0 < l.Postings.length
  · rw [lastNo_at h0]
    have := h.nums _ (List.getElem_mem (show l.Postings.length - 1 < l.Postings.length by omega))
    omega
  · have : l.Postings = [] := List.eq_nil_of_length_eq_zero (by omega)
    rw [this, lastNo_nil]
    omega
theorem Way.mono {l : GLedger} {P P' : Nat} {B B' c c' : Int} (h : Way l P B c) (hP : P ≤ P') (hB : B ≤ B') (hc : c ≤ c') : Way l P' B' c' := by
  have h1 := h.closed
  have h2 := h.len
  have h3 := h.last
  exact ⟨h.ok, by omega, by omega, by omega, fun g hg => by have := h.bd g hg; omega⟩
theorem way_post {l : GLedger} {P : Nat} {B c : Int} (h : Way l P B c) {cs : List GEntry} (hcs : ∀ e ∈ cs, vE e = true ∧ e.Amount ≠ 0) {n : Nat} (hn : cs.length ≤ n) (hP : P + n ≤ 65536) {B' : Int} (hB : TotB (ents l ++ cs) B') : Way ⟨l.Closed, l.Postings ++ mkPost l.Closed (lastNo l.Postings + 1) cs⟩ (P + n) B' c := by
  have h1 := h.len
  have h2 := h.last
  refine ⟨lok_post h.ok hcs (by omega) (by omega), h.closed, ?_, ?_, ?_⟩
  · show (l.Postings ++ mkPost l.Closed (lastNo l.Postings + 1) cs).length ≤ P + n
    rw [List.length_append, mkPost_length]
    omega
  · show lastNo (l.Postings ++ mkPost l.Closed (lastNo l.Postings + 1) cs) ≤ _
    rw [lastNo_post h.ok]
    omega
  · rw [ents_post]
    exact hB
theorem Way.post {l : GLedger} {P : Nat} {B c : Int} (h : Way l P B c) (hc : c < 100) (hP : P ≤ 10000) {es : List GEntry} (he : ∀ e ∈ es, EOk e) {n : Nat} (hn : es.length ≤ n) (hn2 : n ≤ 100) :
    ∃ cs, ledger_Post l es = some (⟨l.Closed, l.Postings ++ mkPost l.Closed (lastNo l.Postings + 1) cs⟩, 0) ∧ Way ⟨l.Closed, l.Postings ++ mkPost l.Closed (lastNo l.Postings + 1) cs⟩ (P + n) (B + 34359738368 * (n : Int)) c := by
  have h0 := h.closed
  have h1 := h.len
  have h2 := h.last
  have hb := totB_E he
  obtain ⟨cs, e1, e2, e3, e4⟩ := post_sem h.ok (by omega) (fun e hx => (he e hx).valid) (by omega) (hb.ok (by omega)) (by omega) (by omega)
  refine ⟨cs, e1, way_post h e2 (by omega) (by omega) fun g hg => ?_⟩
  rw [tot_append, coll_tot e4 g hg]
  have a := hb g hg
  have b := h.bd g hg
  omega
theorem Way.restate {l : GLedger} {P : Nat} {B c : Int} (h : Way l P B c) (hc : c < 100) (hP : P ≤ 10000) (hB : B ≤ 4398046511104) {t : List GEntry} (he : ∀ e ∈ t, EOk e ∧ isR e = true) {n : Nat} (hn : t.length ≤ n) (hn2 : n ≤ 100) (hB2 : 34359738368 * (n : Int) ≤ B) :
    ∃ cs, ledger_Restate l t = some (⟨l.Closed, l.Postings ++ mkPost l.Closed (lastNo l.Postings + 1) cs⟩, mkPost l.Closed (lastNo l.Postings + 1) cs, 0) ∧ Way ⟨l.Closed, l.Postings ++ mkPost l.Closed (lastNo l.Postings + 1) cs⟩ (P + (n + P)) B c ∧
      (∀ g, g.Amount = 0 → tot (ents l ++ cs) g = if isR g = true then tot t g else tot (ents l) g) := by
  have h0 := h.closed
  have h1 := h.len
  have h2 := h.last
  have hb := totB_E (t := t) fun e hx => (he e hx).1
  have hb2 : TotB t B := fun g hg => by have := hb g hg; omega
  obtain ⟨cs, e1, e2, e3, e4, _⟩ := restate_sem h.ok (by omega) (fun e hx => (he e hx).2) (fun e hx => (he e hx).1.valid) (by omega) hB hb2 h.bd (by omega) (by omega)
  have e5 : ∀ g, g.Amount = 0 → tot (ents l ++ cs) g = if isR g = true then tot t g else tot (ents l) g := fun g hg => by
    rw [tot_append, e4 g hg]
    split <;> omega
  refine ⟨cs, e1, way_post h e2 (by omega) (by omega) fun g hg => ?_, e5⟩
  rw [e5 g hg]
  have a := hb2 g hg
  have b := h.bd g hg
  split <;> omega
end Go.Proofs.Ytdenliplkmjmjaa.Pl
