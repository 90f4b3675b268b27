/- The ledgers that the laws make out of a deck: valid, with few and small postings. -/
import Derived.Test.YtdenliplkmjmjaaLGen
namespace Go.Proofs.Ytdenliplkmjmjaa.Pl

/-! ### the deck -/
structure DOk (d : GDeck) : Prop where
  at0 : 0 ≤ d.At
  len : d.L.length ≤ 9223372036854775807
theorem next_ok {d : GDeck} (h : DOk d) {n : Int} (h1 : 1 ≤ n) (h2 : n ≤ 4611686018427387904) : ∃ v d', treatymade_Deck_Next d n = some (v, d') ∧ 0 ≤ v ∧ v < n ∧ DOk d' := by
  unfold treatymade_Deck_Next
  have hl := h.len
  have h0 := h.at0
  by_cases hc : (d.L.length : Int) ≤ d.At
  · have hc' : decide ((d.L.length : Int) ≤ d.At) = true := by simpa using hc
    exact ⟨0, d, by simp only [hc', if_true], by omega, by omega, h⟩
  · have hc' : decide ((d.L.length : Int) ≤ d.At) = false := by simpa using hc
    have e1 : w64 (d.At + 1) = d.At + 1 := w64_id (by omega) (by omega)
    have e2 : w64 (d.At + 1 - 1) = d.At := by rw [w64_id (by omega) (by omega)]; omega
    have hin : inb d.L d.At = true := inb_of h0 (by omega)
    have hn : (!decide (n = 0)) = true := by simp <;> omega
    simp only [hc', Bool.false_eq_true, if_false, e1, e2, chk_of hin, chk_of hn]
    generalize ix d.L d.At = x
    have hm1 : -n < x.tmod n ∧ x.tmod n < n := by
      have a1 := Int.tmod_lt_of_pos x (show 0 < n by omega)
      have a2 := Int.lt_tmod_of_pos x (show 0 < n by omega)
      omega
    have e3 : w64 (x.tmod n + n) = x.tmod n + n := w64_id (by omega) (by omega)
    rw [e3]
    have hnn : 0 ≤ x.tmod n + n := by omega
    refine ⟨_, _, rfl, Int.tmod_nonneg _ hnn, Int.tmod_lt_of_pos _ (by omega), ⟨?_, hl⟩⟩
    show 0 ≤ d.At + 1
    omega
/-- entries that are made: small and valid -/
structure EOk (e : GEntry) : Prop where
  head : headB e = true
  lo : -34359738368 ≤ e.Amount
  hi : e.Amount ≤ 34359738368
  tre : e.Treaty ≤ 3
  par : e.Party ≤ 3
theorem EOk.valid {e : GEntry} (h : EOk e) : vE e = true := by
  have h1 := h.lo
  have h2 := h.hi
  simp only [vE, h.head, Bool.true_and]
  exact (vAmt_iff _).2 (by omega)
theorem entry_ok {d : GDeck} (h : DOk d) : ∃ e d', treatymade2_Entry d = some (e, d') ∧ EOk e ∧ DOk d' := by
  unfold treatymade2_Entry
  obtain ⟨v1, d1, e1, a1, b1, h1⟩ := next_ok h (n := 5) (by omega) (by omega)
  obtain ⟨v2, d2, e2, a2, b2, h2⟩ := next_ok h1 (n := 4) (by omega) (by omega)
  obtain ⟨v3, d3, e3, a3, b3, h3⟩ := next_ok h2 (n := 4) (by omega) (by omega)
  obtain ⟨v4, d4, e4, a4, b4, h4⟩ := next_ok h3 (n := 400) (by omega) (by omega)
  simp only [e1, e2, e3, e4, Option.bind_some]
  have w1 : w64 (1 + v1) = 1 + v1 := w64_id (by omega) (by omega)
  rw [w1]
  have step : ∃ loss d5, (if decide (1 + v1 ≤ 2) = true then (treatymade_Deck_Next d4 3).bind fun r3_1 => some (r3_1.2.L, r3_1.2.At, w64 (1 + r3_1.1)) else some (d4.L, d4.At, 0)) = some (d5.L, d5.At, loss) ∧ DOk d5 ∧ (if 1 + v1 ≤ 2 then 1 ≤ loss ∧ loss ≤ 3 else loss = 0) := by
    by_cases hk : 1 + v1 ≤ 2
    · have hk' : decide (1 + v1 ≤ 2) = true := by simpa using hk
      obtain ⟨v5, d5, e5, a5, b5, h5⟩ := next_ok h4 (n := 3) (by omega) (by omega)
      refine ⟨1 + v5, d5, ?_, h5, ?_⟩
      · simp only [hk', if_true, e5, Option.bind_some, w64_id (show -9223372036854775808 ≤ 1 + v5 by omega) (by omega)]
      · rw [if_pos hk]; omega
    · have hk' : decide (1 + v1 ≤ 2) = false := by simpa using hk
      exact ⟨0, d4, by simp only [hk', Bool.false_eq_true, if_false], h4, by rw [if_neg hk]⟩
  obtain ⟨loss, d5, hs, h5, hloss⟩ := step
  rw [hs]
  simp only [Option.bind_some]
  obtain ⟨v6, d6, e6, a6, b6, h6⟩ := next_ok (d := ⟨d5.L, d5.At⟩) h5 (n := 8) (by omega) (by omega)
  simp only [e6, Option.bind_some]
  have hhead : ∀ am, headB (GEntry.mk (1 + v1) v2 v3 loss am) = true := fun am => by
    unfold headB
    by_cases hk : 1 + v1 ≤ 2
    · rw [if_pos hk] at hloss
      have : (1 + v1 = 1 ∨ 1 + v1 = 2) := by omega
      simp only [this, if_true]
      simp <;> omega
    · rw [if_neg hk] at hloss
      have : ¬ (1 + v1 = 1 ∨ 1 + v1 = 2) := by omega
      simp only [this, if_false]
      simp <;> omega
  by_cases hv : v6 = 0
  · have hv' : decide (v6 = 0) = true := by simpa using hv
    obtain ⟨v7, d7, e7, a7, b7, h7⟩ := next_ok h6 (n := 68719476736) (by omega) (by omega)
    simp only [hv', if_true, e7, Option.bind_some]
    refine ⟨_, _, rfl, ⟨hhead _, ?_, ?_, by show v2 ≤ 3; omega, by show v3 ≤ 3; omega⟩, h7⟩
    all_goals
      show _ ≤ _
      dsimp only
      rw [w64_id (by omega) (by omega)]
      omega
  · have hv' : decide (v6 = 0) = false := by simpa using hv
    simp only [hv', Bool.false_eq_true, if_false, Option.bind_some]
    refine ⟨_, _, rfl, ⟨hhead _, ?_, ?_, by show v2 ≤ 3; omega, by show v3 ≤ 3; omega⟩, h6⟩
    all_goals
      show _ ≤ _
      dsimp only
      rw [w64_id (by omega) (by omega)]
      omega
theorem entriesLoop : ∀ (k : Nat) (d : GDeck) (out : List GEntry), DOk d → out.length + k ≤ 100 → (∀ e ∈ out, EOk e) →
    ∃ d' r, loopV treatymade2_Entries_l8 (d.L, d.At, out, (k : Int)) = some (d'.L, d'.At, r) ∧ DOk d' ∧ r.length = out.length + k ∧ ∀ e ∈ r, EOk e
  | 0, d, out, hd, _, ho => ⟨d, out, loopV_stop (by unfold treatymade2_Entries_l8; simp), hd, by simp, ho⟩
  | k + 1, d, out, hd, hl, ho => by
    obtain ⟨e, d', he, hok, hd'⟩ := entry_ok (d := ⟨d.L, d.At⟩) hd
    have hroom : room (out ++ [e]).length = true := room_of (by simp <;> omega)
    have hst : treatymade2_Entries_l8 (d.L, d.At, out, ((k + 1 : Nat) : Int)) = some (.inl (d'.L, d'.At, out ++ [e], (k : Int))) := by
      unfold treatymade2_Entries_l8
      have hc : decide ((0 : Int) < ((k + 1 : Nat) : Int)) = true := by simp <;> omega
      have e1 : w64 (((k + 1 : Nat) : Int) - 1) = (k : Int) := by rw [w64_id (by omega) (by omega)]; omega
      simp only [hc, if_true, he, Option.bind_some, chk_of hroom, e1]
    obtain ⟨d2, r, h1, h2, h3, h4⟩ := entriesLoop k d' (out ++ [e]) hd' (by simp <;> omega) (fun x hx => by
      rcases List.mem_append.1 hx with hx | hx
      · exact ho x hx
      · simp at hx; subst hx; exact hok)
    exact ⟨d2, r, (loopV_next hst).trans h1, h2, by rw [h3]; simp <;> omega, h4⟩
theorem entries_ok {d : GDeck} (h : DOk d) (n : Nat) (hn : n ≤ 50) : ∃ r d', treatymade2_Entries d (n : Int) = some (r, d') ∧ DOk d' ∧ r.length ≤ n ∧ ∀ e ∈ r, EOk e := by
  unfold treatymade2_Entries
  have e1 : w64 ((n : Int) + 1) = (n : Int) + 1 := w64_id (by omega) (by omega)
  obtain ⟨v, d1, e2, a1, b1, h1⟩ := next_ok h (n := (n : Int) + 1) (by omega) (by omega)
  obtain ⟨d2, r, h2, h3, h4, h5⟩ := entriesLoop v.toNat d1 [] h1 (by simp <;> omega) (fun e he => by cases he)
  have ev : ((v.toNat : Nat) : Int) = v := by omega
  rw [ev] at h2
  simp only [e1, e2, Option.bind_some, h2]
  exact ⟨r, d2, rfl, h3, by rw [h4]; simp <;> omega, h5⟩
theorem absA_EOk {l : List GEntry} (h : ∀ e ∈ l, EOk e) : absA l ≤ 34359738368 * (l.length : Int) := by
  induction l with
  | nil => simp [absA]
  | cons x l ih =>
    have h1 := ih fun e he => h e (by simp [he])
    have h2 := (h x (by simp)).lo
    have h3 := (h x (by simp)).hi
    rw [absA_cons, List.length_cons]
    omega

theorem grp_from (n : Nat) : ∀ s : List GEntry, s.length = n → ∀ r, grp s = some r → ∀ e ∈ r, ∃ y ∈ s, y.Treaty = e.Treaty ∧ y.Party = e.Party := by
  induction n using Nat.strongRecOn with
  | _ n ih =>
    intro s hn r hr e he
    match s with
    | [] =>
      unfold grp at hr
      cases hr
      cases he
    | x :: l =>
      unfold grp at hr
      simp only at hr
      have hle := (List.dropWhile_suffix (fun y => !kLt x y) (l := l)).length_le
      simp only [List.length_cons] at hn
      split at hr
      · obtain ⟨r', h1, h2⟩ := Option.map_eq_some_iff.1 hr
        have hrec : ∀ e ∈ r', ∃ y ∈ x :: l, y.Treaty = e.Treaty ∧ y.Party = e.Party := fun e he => by
          obtain ⟨y, hy, hy2⟩ := ih _ (by omega) _ rfl r' h1 e he
          exact ⟨y, List.mem_cons_of_mem _ ((List.dropWhile_suffix _).subset hy), hy2⟩
        split at h2
        · subst h2; exact hrec e he
        · subst h2
          rcases List.mem_cons.1 he with rfl | he
          · exact ⟨x, by simp, rfl, rfl⟩
          · exact hrec e he
      · cases hr
theorem collect_from {l r : List GEntry} (hl : l.length ≤ 65536) (h : ∀ e ∈ l, vE e = true) (hr : treatyref33_Collect l = some (r, 0)) : ∀ e ∈ r, ∃ y ∈ l, y.Treaty = e.Treaty ∧ y.Party = e.Party := fun e he => by
  rw [collect_all hl h] at hr
  cases hq : grp (msort l) with
  | none => rw [hq] at hr; simp at hr
  | some r' =>
    rw [hq] at hr
    simp at hr
    subst hr
    obtain ⟨y, hy, hy2⟩ := grp_from _ (msort l) rfl r' hq e he
    exact ⟨y, (msort_perm l).mem_iff.1 hy, hy2⟩
/-! ### posting -/
def mkPost (c n : Int) : List GEntry → List GPosting
  | [] => []
  | e :: l => ⟨n, c, e⟩ :: mkPost c (n + 1) l
theorem mkPost_length (c n : Int) (l : List GEntry) : (mkPost c n l).length = l.length := by
  induction l generalizing n with
  | nil => rfl
  | cons e l ih => simp [mkPost, ih]
theorem mkPost_get (c n : Int) (l : List GEntry) (i : Nat) (h : i < (mkPost c n l).length) : (mkPost c n l)[i].Number = n + i ∧ (mkPost c n l)[i].Period = c ∧ (mkPost c n l)[i].Entry = l[i]'(by rw [mkPost_length] at h; exact h) := by
  induction l generalizing n i with
  | nil => simp [mkPost] at h
  | cons e l ih =>
    cases i with
    | zero => simp [mkPost]
    | succ i =>
      have := ih (n + 1) i (by simpa [mkPost] using h)
      simp only [mkPost, List.getElem_cons_succ]
      refine ⟨by rw [this.1]; omega, this.2.1, this.2.2⟩
theorem mkPost_entries (c n : Int) (l : List GEntry) : (mkPost c n l).map (·.Entry) = l := by
  induction l generalizing n with
  | nil => rfl
  | cons e l ih => simp [mkPost, ih]
theorem postLoop (a : GLedger) (cs : List GEntry) (z : Int) (s : Int) (hs0 : 0 ≤ s) (hs : s ≤ 100000) (hc : cs.length ≤ 65536) : ∀ (l : List GEntry) (i : Nat) (out : List GPosting), cs.drop i = l → i ≤ cs.length → out.length ≤ 200000 + i →
    loopV (treatyref33_Post_l45 a (cs, z) s) (out, (i : Int)) = some (out ++ mkPost a.Closed (s + i) l) := by
  intro l
  induction l with
  | nil =>
    intro i out hl hi ho
    have hjl : cs.length ≤ i := by simpa [List.drop_eq_nil_iff] using hl
    refine loopV_stop ?_
    unfold treatyref33_Post_l45
    have h1 : decide ((i : Int) < (cs.length : Int)) = false := by simp <;> omega
    simp only [h1, Bool.false_eq_true, if_false]
    simp [mkPost]
  | cons x l ih =>
    intro i out hl hi ho
    obtain ⟨hk, hx, hd⟩ := drop_cons hl
    have hcc : decide ((i : Int) < (cs.length : Int)) = true := by simp <;> omega
    have hx2 : ix cs (i : Int) = x := ix_get hx
    have e1 : w64 ((i : Int) + 1) = ((i + 1 : Nat) : Int) := by rw [w64_id (by omega) (by omega)]; rfl
    have e2 : w64 (s + (i : Int)) = s + (i : Int) := w64_id (by omega) (by omega)
    have hroom : room (out ++ [GPosting.mk (s + (i : Int)) a.Closed x]).length = true := room_of (by simp <;> omega)
    have hst : treatyref33_Post_l45 a (cs, z) s (out, (i : Int)) = some (.inl (out ++ [GPosting.mk (s + (i : Int)) a.Closed x], ((i + 1 : Nat) : Int))) := by
      unfold treatyref33_Post_l45
      simp only [hcc, if_true, chk_of (inb_nat hk), hx2, e1, e2, chk_of hroom]
    rw [loopV_next hst, ih (i + 1) _ hd (by omega) (by simp <;> omega)]
    simp only [mkPost, List.append_assoc, List.cons_append, List.nil_append]
    rw [show s + ((i + 1 : Nat) : Int) = s + (i : Int) + 1 by omega]
/-- ledgers made in j rounds -/
structure Made (l : GLedger) (j : Nat) : Prop where
  ok : LOk l
  closed : l.Closed ≤ j
  few : l.Postings.length ≤ 4 * j
  nums : ∀ p ∈ l.Postings, p.Number ≤ 4 * (j : Int)
  small : absA (l.Postings.map (·.Entry)) ≤ 137438953472 * (j : Int)
  tre : ∀ p ∈ l.Postings, p.Entry.Treaty ≤ 3 ∧ p.Entry.Party ≤ 3
theorem close_made {l : GLedger} {j : Nat} (h : Made l j) (hj : j < 50) : ∃ l', treatyref33_Close l = some (l', 0) ∧ Made l' (j + 1) := by
  unfold treatyref33_Close
  have h1 := h.closed
  have h2 := h.few
  have h3 := h.ok.c0
  have hc : decide (l.Closed = 100) = false := by simp <;> omega
  have hr : room l.Postings.length = true := room_of (by omega)
  simp only [rvalidate_ok h.ok, Option.bind_some, decide_true, Bool.not_true, Bool.false_eq_true, if_false, hc, chk_of hr, w64_id (show -9223372036854775808 ≤ l.Closed + 1 by omega) (by omega)]
  refine ⟨_, rfl, ⟨⟨by show 0 ≤ l.Closed + 1; omega, by show l.Closed + 1 ≤ 100; omega, h.ok.len, fun p hp => ?_, h.ok.ord⟩, by show l.Closed + 1 ≤ _; omega, by show l.Postings.length ≤ _; omega, fun p hp => ?_, ?_, h.tre⟩⟩
  · obtain ⟨a1, a2, a3, a4, a5, a6⟩ := h.ok.ent p hp
    exact ⟨a1, a2, a3, a4, a5, by show p.Period ≤ l.Closed + 1; omega⟩
  · have := h.nums p hp; omega
  · have := h.small
    show absA (l.Postings.map (·.Entry)) ≤ _
    omega
theorem post_made {l : GLedger} {j : Nat} (h : Made l j) (hj : j < 50) {es : List GEntry} (he : ∀ e ∈ es, EOk e) (hl : es.length ≤ 4) : ∃ l', treatyref33_Post l es = some (l', 0) ∧ Made l' (j + 1) := by
  unfold treatyref33_Post
  have h1 := h.closed
  have h2 := h.few
  have h3 := h.ok.c0
  have habs := absA_EOk he
  obtain ⟨cs, hcs, hcl, hca, hce⟩ := collect_ok (l := es) (by omega) (fun e hx => (he e hx).valid) (by omega)
  have hc : decide (l.Closed = 100) = false := by simp <;> omega
  have hr : room l.Postings.length = true := room_of (by omega)
  have hlast : ∃ s : Int, (if decide (0 < (l.Postings.length : Int)) = true then chk (inb l.Postings (w64 ((l.Postings.length : Int) - 1))) (some (w64 ((ix l.Postings (w64 ((l.Postings.length : Int) - 1))).Number + 1))) else some 1) = some s ∧ 1 ≤ s ∧ s ≤ 4 * (j : Int) + 1 ∧ (∀ p ∈ l.Postings.getLast?, p.Number < s) := by
    by_cases h0 : 0 < l.Postings.length
    · have hd : decide (0 < (l.Postings.length : Int)) = true := by simp <;> omega
      have hk1 : l.Postings.length - 1 < l.Postings.length := by omega
      have hn := h.nums _ (List.getElem_mem hk1)
      have hn2 := (h.ok.ent _ (List.getElem_mem hk1)).2.2.1
      refine ⟨(l.Postings[l.Postings.length - 1]).Number + 1, ?_, by omega, by omega, fun p hp => ?_⟩
      · simp only [hd, if_true, w64_pred _ h0 (by have := h.ok.len; omega), chk_of (inb_nat hk1), ix_nat hk1]
        rw [w64_id (by omega) (by omega)]
      · rw [List.getLast?_eq_getElem?, List.getElem?_eq_getElem hk1] at hp
        simp at hp
        subst hp
        omega
    · have hd : decide (0 < (l.Postings.length : Int)) = false := decide_eq_false (by omega)
      refine ⟨1, by simp only [hd, Bool.false_eq_true, if_false], by omega, by omega, fun p hp => ?_⟩
      have : l.Postings = [] := List.eq_nil_of_length_eq_zero (by omega)
      rw [this] at hp
      simp at hp
  obtain ⟨s, hs, hs1, hs2, hs3⟩ := hlast
  have hloop := postLoop l cs 0 s (by omega) (by omega) (by omega) cs 0 l.Postings rfl (Nat.zero_le _) (by omega)
  have e1 : w64 ((l.Postings.length : Int) + (cs.length : Int)) = (l.Postings.length : Int) + (cs.length : Int) := w64_id (by omega) (by omega)
  have e2 : w64 (s - 1) = s - 1 := w64_id (by omega) (by omega)
  have e3 : w64 (s - 1 + (cs.length : Int)) = s - 1 + (cs.length : Int) := w64_id (by omega) (by omega)
  have hb : (decide (65536 < (l.Postings.length : Int) + (cs.length : Int)) || decide (65536 < s - 1 + (cs.length : Int))) = false := by simp <;> omega
  simp only [rvalidate_ok h.ok, Option.bind_some, decide_true, Bool.not_true, Bool.false_eq_true, if_false, hcs, hc, hs, e1, e2, e3, hb, chk_of hr]
  rw [show ((0 : Nat) : Int) = 0 from rfl] at hloop
  simp only [Int.add_zero] at hloop
  simp only [hloop, Option.bind_some]
  refine ⟨_, rfl, ⟨⟨h3, by show l.Closed ≤ 100; omega, ?_, fun p hp => ?_, fun i hi => ?_⟩, by show l.Closed ≤ _; omega, ?_, fun p hp => ?_, ?_, fun p hp => ?_⟩⟩
  · show (l.Postings ++ mkPost l.Closed s cs).length ≤ 65536
    rw [List.length_append, mkPost_length]; omega
  · rcases List.mem_append.1 (show p ∈ l.Postings ++ mkPost l.Closed s cs from hp) with hp | hp
    · exact h.ok.ent p hp
    · obtain ⟨i, hi, rfl⟩ := List.mem_iff_getElem.1 hp
      obtain ⟨g1, g2, g3⟩ := mkPost_get l.Closed s cs i hi
      rw [mkPost_length] at hi
      obtain ⟨v1, v2⟩ := hce _ (List.getElem_mem hi)
      rw [g1, g2, g3]
      exact ⟨v1, v2, by omega, by omega, h3, Int.le_refl _⟩
  · have hi' : i + 1 < (l.Postings ++ mkPost l.Closed s cs).length := hi
    have hall : (l.Postings ++ mkPost l.Closed s cs).length = l.Postings.length + cs.length := by rw [List.length_append, mkPost_length]
    show ((l.Postings ++ mkPost l.Closed s cs)[i]).Number < ((l.Postings ++ mkPost l.Closed s cs)[i + 1]).Number ∧ ((l.Postings ++ mkPost l.Closed s cs)[i]).Period ≤ ((l.Postings ++ mkPost l.Closed s cs)[i + 1]).Period
    by_cases hA : i + 1 < l.Postings.length
    · rw [List.getElem_append_left (by omega), List.getElem_append_left hA]
      exact h.ok.ord i hA
    · by_cases hB : i < l.Postings.length
      · rw [List.getElem_append_left hB, List.getElem_append_right (by omega)]
        obtain ⟨g1, g2, _⟩ := mkPost_get l.Closed s cs (i + 1 - l.Postings.length) (by rw [mkPost_length]; omega)
        rw [g1, g2]
        have hil : i = l.Postings.length - 1 := by omega
        have hlt : (l.Postings[i]).Number < s := hs3 _ (by rw [List.getLast?_eq_getElem?, ← hil, List.getElem?_eq_getElem hB]; rfl)
        exact ⟨by omega, (h.ok.ent _ (List.getElem_mem hB)).2.2.2.2.2⟩
      · rw [List.getElem_append_right (by omega), List.getElem_append_right (by omega)]
        obtain ⟨g1, g2, _⟩ := mkPost_get l.Closed s cs (i - l.Postings.length) (by rw [mkPost_length]; omega)
        obtain ⟨k1, k2, _⟩ := mkPost_get l.Closed s cs (i + 1 - l.Postings.length) (by rw [mkPost_length]; omega)
        rw [g1, g2, k1, k2]
        exact ⟨by omega, Int.le_refl _⟩
  · show (l.Postings ++ mkPost l.Closed s cs).length ≤ _
    rw [List.length_append, mkPost_length]; omega
  · rcases List.mem_append.1 (show p ∈ l.Postings ++ mkPost l.Closed s cs from hp) with hp | hp
    · have := h.nums p hp; omega
    · obtain ⟨i, hi, rfl⟩ := List.mem_iff_getElem.1 hp
      obtain ⟨g1, g2, g3⟩ := mkPost_get l.Closed s cs i hi
      rw [mkPost_length] at hi
      rw [g1]; omega
  · show absA ((l.Postings ++ mkPost l.Closed s cs).map (·.Entry)) ≤ _
    rw [List.map_append, mkPost_entries, absA_append]
    have := h.small
    omega
  · rcases List.mem_append.1 (show p ∈ l.Postings ++ mkPost l.Closed s cs from hp) with hp | hp
    · exact h.tre p hp
    · obtain ⟨i, hi, rfl⟩ := List.mem_iff_getElem.1 hp
      obtain ⟨_, _, g3⟩ := mkPost_get l.Closed s cs i hi
      rw [mkPost_length] at hi
      rw [g3]
      obtain ⟨y, hy, y1, y2⟩ := collect_from (by omega) (fun e hx => (he e hx).valid) hcs _ (List.getElem_mem hi)
      rw [← y1, ← y2]
      exact ⟨(he y hy).tre, (he y hy).par⟩
theorem ledgerLoop : ∀ (k : Nat) (d : GDeck) (l : GLedger) (j : Nat), DOk d → Made l j → j + k ≤ 50 → ∃ d' l', loopV treatymade2_Ledger_l8 (d.L, d.At, l.Closed, l.Postings, (k : Int)) = some (d'.L, d'.At, l'.Closed, l'.Postings) ∧ DOk d' ∧ Made l' (j + k)
  | 0, d, l, j, hd, hm, _ => ⟨d, l, loopV_stop (by unfold treatymade2_Ledger_l8; simp), hd, hm⟩
  | k + 1, d, l, j, hd, hm, hj => by
    obtain ⟨v, d1, e1, a1, b1, h1⟩ := next_ok (d := ⟨d.L, d.At⟩) hd (n := 3) (by omega) (by omega)
    have hc : decide ((0 : Int) < ((k + 1 : Nat) : Int)) = true := by simp <;> omega
    have ew : w64 (((k + 1 : Nat) : Int) - 1) = (k : Int) := by rw [w64_id (by omega) (by omega)]; omega
    have key : ∃ d2 l2, treatymade2_Ledger_l8 (d.L, d.At, l.Closed, l.Postings, ((k + 1 : Nat) : Int)) = some (.inl (d2.L, d2.At, l2.Closed, l2.Postings, (k : Int))) ∧ DOk d2 ∧ Made l2 (j + 1) := by
      unfold treatymade2_Ledger_l8
      by_cases hv : v = 0
      · have hv' : decide (v = 0) = true := by simpa using hv
        obtain ⟨l2, e2, h2⟩ := close_made (l := ⟨l.Closed, l.Postings⟩) hm (by omega)
        simp only [hc, if_true, e1, Option.bind_some, hv', e2, ew]
        exact ⟨d1, l2, rfl, h1, h2⟩
      · have hv' : decide (v = 0) = false := by simpa using hv
        obtain ⟨es, d2, e2, h2, h3, h4⟩ := entries_ok h1 4 (by omega)
        obtain ⟨l2, e5, h5⟩ := post_made (l := ⟨l.Closed, l.Postings⟩) hm (by omega) h4 h3
        rw [show ((4 : Nat) : Int) = 4 from rfl] at e2
        simp only [hc, if_true, e1, Option.bind_some, hv', Bool.false_eq_true, if_false, e2, e5, decide_true, ew]
        exact ⟨d2, l2, rfl, h2, h5⟩
    obtain ⟨d2, l2, hst, hd2, hm2⟩ := key
    obtain ⟨d3, l3, h3, h4, h5⟩ := ledgerLoop k d2 l2 (j + 1) hd2 hm2 (by omega)
    exact ⟨d3, l3, (loopV_next hst).trans h3, h4, by rw [show j + (k + 1) = j + 1 + k by omega]; exact h5⟩
theorem made_empty : Made ⟨0, []⟩ 0 := ⟨⟨by decide, by decide, by decide, fun p hp => (by cases hp), fun i hi => (by simp at hi)⟩, by decide, by decide, fun p hp => (by cases hp), by decide, fun p hp => (by cases hp)⟩
theorem Made.mono {l : GLedger} {j k : Nat} (h : Made l j) (hk : j ≤ k) : Made l k := by
  have h1 := h.closed
  have h2 := h.few
  have h3 := h.small
  exact ⟨h.ok, by omega, by omega, fun p hp => by have := h.nums p hp; omega, by omega, h.tre⟩
theorem ledger_ok {d : GDeck} (h : DOk d) (n : Nat) (hn : n ≤ 40) : ∃ l d', treatymade2_Ledger d (n : Int) = some (l, d') ∧ DOk d' ∧ Made l n := by
  unfold treatymade2_Ledger
  have e1 : w64 ((n : Int) + 1) = (n : Int) + 1 := w64_id (by omega) (by omega)
  obtain ⟨v, d1, e2, a1, b1, h1⟩ := next_ok h (n := (n : Int) + 1) (by omega) (by omega)
  obtain ⟨d2, l, h2, h3, h4⟩ := ledgerLoop v.toNat d1 ⟨0, []⟩ 0 h1 made_empty (by omega)
  have ev : ((v.toNat : Nat) : Int) = v := by omega
  rw [ev] at h2
  simp only at h2
  simp only [e1, e2, Option.bind_some, h2]
  exact ⟨l, d2, rfl, h3, h4.mono (by omega)⟩
theorem new_ok (l : List Int) (h : l.length ≤ 9223372036854775807) : treatymade2_New l = some ⟨l, 0⟩ ∧ DOk ⟨l, 0⟩ := ⟨by simp [treatymade2_New, treatymade_New], ⟨by simp, h⟩⟩
end Go.Proofs.Ytdenliplkmjmjaa.Pl
