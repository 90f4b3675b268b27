/- Inuring (plain): the order of the treaties is the document's. -/
import Derived.Test.YtfekcgnnhjmeiaaLIn5
namespace Go.Proofs.Ytfekcgnnhjmeiaa.Pl
open Go

theorem indexC_eq {w : List Int} {x : Int} (hl : w.length ≤ 1000000) : (∃ k : Nat, ∃ h : k < w.length, slices_IndexFunc_s_int_int_inuring_Order_c1 w x = some (k : Int) ∧ w[k] = x ∧ ∀ p (hp : p < k), w[p]'(by omega) ≠ x) ∨ (slices_IndexFunc_s_int_int_inuring_Order_c1 w x = some (-1) ∧ x ∉ w) := by
  obtain ⟨o, h1, h2⟩ := loopV_inv (step := slices_IndexFunc_s_int_int_inuring_Order_c1_l6 w x)
    (fun s => ∃ k : Nat, s = (k : Int) ∧ k ≤ w.length ∧ ∀ p (hp : p < k) (hw : p < w.length), w[p] ≠ x) (fun s => w.length - s.toNat)
    (fun o => (∃ k : Nat, ∃ h : k < w.length, o = .inl (k : Int) ∧ w[k] = x ∧ ∀ p (hp : p < k), w[p]'(by omega) ≠ x) ∨ (o = .inr () ∧ x ∉ w))
    (by
      rintro _ ⟨k, rfl, hk, hp⟩
      unfold slices_IndexFunc_s_int_int_inuring_Order_c1_l6 inuring_Order_c1
      by_cases hc : k < w.length
      · rw [if_pos (by simpa using hc), chk_true (inb_nat hc), Option.bind_some, ix_nat hc, w64_succ (by omega)]
        by_cases e : w[k] = x
        · rw [if_pos (by simpa using e)]
          exact ⟨_, rfl, .inl ⟨k, hc, rfl, e, fun p hp1 => hp p hp1 (by omega)⟩⟩
        · rw [if_neg (by simpa using e)]
          refine ⟨_, rfl, ⟨k + 1, rfl, by omega, fun p hp1 hp2 => ?_⟩, by omega⟩
          by_cases e2 : p = k
          · subst e2; exact e
          · exact hp p (by omega) hp2
      · rw [if_neg (by simpa using hc)]
        refine ⟨_, rfl, .inr ⟨rfl, fun hx => ?_⟩⟩
        obtain ⟨p, hp1, hp2⟩ := List.getElem_of_mem hx
        exact hp p (by omega) hp1 hp2) 0 ⟨0, rfl, by omega, fun p hp => by omega⟩
  unfold slices_IndexFunc_s_int_int_inuring_Order_c1
  rw [h1]
  rcases h2 with ⟨k, h, rfl, h3⟩ | ⟨rfl, h3⟩
  · exact .inl ⟨k, h, rfl, h3⟩
  · exact .inr ⟨rfl, h3⟩
theorem delete_eq {w : List Int} {x : Int} (hl : w.length ≤ 1000000) : slices_DeleteFunc_s_int_int_o_inuring_Order_c1 w x = some (w.filter fun y => !decide (y = x)) := by
  unfold slices_DeleteFunc_s_int_int_o_inuring_Order_c1
  rcases indexC_eq (w := w) (x := x) hl with ⟨r, hr, h1, h2, h3⟩ | ⟨h1, h2⟩
  · rw [h1, Option.bind_some, if_neg (by simp <;> omega), w64_succ (by omega)]
    obtain ⟨o, e1, e2⟩ := loopV_inv (step := slices_DeleteFunc_s_int_int_o_inuring_Order_c1_l14 w x)
      (fun s => ∃ i j : Nat, s.2 = ((i : Int), (j : Int)) ∧ i < j ∧ j ≤ w.length ∧ s.1.length = w.length ∧ s.1.take i = (w.take j).filter (fun y => !decide (y = x)) ∧ ∀ k, j ≤ k → s.1[k]? = w[k]?)
      (fun s => w.length - s.2.2.toNat)
      (fun o => ∃ i : Nat, o.2 = (i : Int) ∧ i ≤ w.length ∧ o.1.length = w.length ∧ o.1.take i = w.filter fun y => !decide (y = x))
      (by
        rintro ⟨l, _, _⟩ ⟨i, j, he, hij, hj, hlen, htk, hdr⟩
        cases he
        dsimp only at hlen htk hdr
        unfold slices_DeleteFunc_s_int_int_o_inuring_Order_c1_l14 inuring_Order_c1
        dsimp only
        by_cases hc : j < w.length
        · have hjl : j < l.length := by omega
          have hx : l[j] = w[j] := by
            have := hdr j (Nat.le_refl _)
            rw [List.getElem?_eq_getElem hjl, List.getElem?_eq_getElem hc] at this
            exact Option.some.inj this
          rw [if_pos (by simpa using hc), chk_true (inb_nat hjl), Option.bind_some, ix_nat hjl, hx, w64_succ (k := j) (by omega)]
          have hf : (w.take (j + 1)).filter (fun y => !decide (y = x)) = (w.take j).filter (fun y => !decide (y = x)) ++ (if w[j] = x then [] else [w[j]]) := by
            rw [List.take_succ_eq_append_getElem hc, List.filter_append]
            by_cases e : w[j] = x <;> simp [e]
          by_cases e : w[j] = x
          · rw [if_neg (by simpa using e), Option.bind_some]
            refine ⟨_, rfl, ⟨i, j + 1, rfl, by omega, by omega, hlen, ?_, fun k hk => hdr k (by omega)⟩, by dsimp only; omega⟩
            dsimp only
            rw [hf, if_pos e, List.append_nil, htk]
          · rw [if_pos (by simpa using e), chk_true (inb_nat (by omega)), Option.bind_some, w64_succ (k := i) (by omega)]
            refine ⟨_, rfl, ⟨i + 1, j + 1, rfl, by omega, by omega, by dsimp only; rw [upd_length]; exact hlen, ?_, fun k hk => ?_⟩, by dsimp only; omega⟩
            · dsimp only
              have hil : i < (upd l (i : Int) w[j]).length := by rw [upd_length]; omega
              rw [List.take_succ_eq_append_getElem hil, hf, if_neg e, ← htk]
              unfold upd
              simp only [Int.toNat_natCast, List.getElem_set_self]
              congr 1
              apply List.ext_getElem?
              intro k
              rw [List.getElem?_take, List.getElem?_take]
              split
              · rw [List.getElem?_set_ne (by omega)]
              · rfl
            · dsimp only
              unfold upd
              rw [Int.toNat_natCast, List.getElem?_set, if_neg (by omega)]
              exact hdr k (by omega)
        · rw [if_neg (by simpa using hc)]
          refine ⟨_, rfl, i, rfl, by omega, hlen, ?_⟩
          dsimp only
          rw [htk, List.take_of_length_le (by omega)]) (w, (r : Int), ((r + 1 : Nat) : Int)) ⟨r, r + 1, rfl, by omega, by omega, rfl, by
        rw [List.take_succ_eq_append_getElem hr, List.filter_append, h2]
        have : (w.take r).filter (fun y => !decide (y = x)) = w.take r := by
          rw [List.filter_eq_self]
          intro y hy
          obtain ⟨p, hp, rfl⟩ := List.getElem_of_mem hy
          rw [List.length_take] at hp
          rw [List.getElem_take]
          simpa using h3 p (by omega)
        rw [this]
        simp, fun _ _ => rfl⟩
    obtain ⟨l, z⟩ := o
    obtain ⟨i, hz, hi, hlen, htk⟩ := e2
    dsimp only at hz hlen htk
    subst hz
    rw [e1, Option.bind_some]
    dsimp only
    rw [chk_true (by simp), chk_true (by simp; omega), Int.toNat_natCast, chk_true (by simp; omega), List.take_append_of_le_length (by simp; omega), List.take_take, Nat.min_self, htk]
  · rw [h1, Option.bind_some, if_pos (by decide)]
    congr 1
    symm
    rw [List.filter_eq_self]
    intro y hy
    have : y ≠ x := fun e => h2 (e ▸ hy)
    simpa using this
/-- all indexes -/
def idxs (n : Nat) : List Int := (List.range n).map fun k : Nat => (k : Int)
theorem mem_idxs {n k : Nat} : (k : Int) ∈ idxs n ↔ k < n := by
  unfold idxs
  rw [List.mem_map]
  constructor
  · rintro ⟨a, h1, h2⟩
    have := List.mem_range.1 h1
    omega
  · intro h
    exact ⟨k, List.mem_range.2 h, rfl⟩
theorem idxs_mem {n : Nat} {x : Int} (h : x ∈ idxs n) : ∃ a : Nat, a < n ∧ x = (a : Int) := by
  unfold idxs at h
  obtain ⟨a, h1, h2⟩ := List.mem_map.1 h
  exact ⟨a, List.mem_range.1 h1, h2.symm⟩
theorem l20_eq {ts : List GTreaty} (hl : ts.length ≤ 1000000) : loopV (inuring_Order_l20 ts) (List.replicate ts.length 0, 0) = some (idxs ts.length) := by
  obtain ⟨o, h1, h2, h3⟩ := loopV_inv (step := inuring_Order_l20 ts) (fun s => ∃ q : Nat, q ≤ ts.length ∧ s.2 = (q : Int) ∧ s.1.length = ts.length ∧ ∀ k : Nat, k < q → ix s.1 (k : Int) = (k : Int)) (fun s => ts.length - s.2.toNat) (fun o => o.length = ts.length ∧ ∀ k : Nat, k < ts.length → ix o (k : Int) = (k : Int))
    (by
      rintro ⟨s, _⟩ ⟨q, hq, he, hs, hk⟩
      dsimp only at he hs hk
      subst he
      unfold inuring_Order_l20
      dsimp only
      by_cases hc : q < ts.length
      · rw [if_pos (by simpa using hc), chk_true (inb_nat (by omega)), w64_succ (by omega)]
        refine ⟨_, rfl, ⟨q + 1, by omega, rfl, by dsimp only; rw [upd_length]; exact hs, fun k hk1 => ?_⟩, by dsimp only; omega⟩
        dsimp only
        rw [ix_upd (by omega)]
        by_cases e : k = q
        · rw [if_pos e, e]
        · rw [if_neg e, hk k (by omega)]
      · rw [if_neg (by simpa using hc)]
        exact ⟨_, rfl, hs, fun k hk1 => hk k (by omega)⟩) (List.replicate ts.length 0, 0) ⟨0, by omega, rfl, by simp, fun k h => by omega⟩
  rw [h1]
  congr 1
  apply ext_ix
  · rw [h2]; simp [idxs]
  · intro k hk
    rw [h3 k (by omega), ix_nat (by simp [idxs]; omega)]
    simp [idxs]
/-- the state of the program's loop -/
structure QOk (ts : List GTreaty) (s : List Bool × List Int × List Int) : Prop where
  clen : s.1.length = ts.length
  come : ∀ k : Nat, k < ts.length → ix s.1 (k : Int) = decide ((k : Int) ∈ s.2.2)
  wait : s.2.1 = (idxs ts.length).filter fun x => !decide (x ∈ s.2.2)
  few : s.2.2.length + s.2.1.length = ts.length
theorem wait_mem {ts : List GTreaty} {s} (h : QOk ts s) {k : Nat} : (k : Int) ∈ s.2.1 ↔ k < ts.length ∧ (k : Int) ∉ s.2.2 := by
  rw [h.wait, List.mem_filter, mem_idxs]
  simp
theorem filter_len {w : List Int} {x : Int} (hn : w.Nodup) (hx : x ∈ w) : (w.filter fun y => !decide (y = x)).length + 1 = w.length := by
  induction w with
  | nil => cases hx
  | cons a w ih =>
    rw [List.nodup_cons] at hn
    by_cases e : a = x
    · subst e
      have : w.filter (fun y => !decide (y = a)) = w := by
        rw [List.filter_eq_self]
        intro y hy
        have : y ≠ a := fun e => hn.1 (e ▸ hy)
        simpa using this
      simp [this]
    · rcases List.mem_cons.1 hx with rfl | hx
      · exact absurd rfl e
      · have := ih hn.2 hx
        simp only [List.filter_cons, e, decide_false, Bool.not_false, if_true, List.length_cons]
        omega
theorem idxs_nodup (n : Nat) : (idxs n).Nodup := by
  unfold idxs
  rw [List.nodup_iff_pairwise_ne, List.pairwise_map]
  exact List.nodup_range.imp fun h e => h (by omega)
theorem l36_step {ts : List GTreaty} (hl : ts.length ≤ 1000000) (ht : TsLen ts) (hk : Known ts) {come : List Bool} {w out : List Int} (h : QOk ts (come, w, out)) {i : Nat} (hi : Least ts out i) :
    inuring_Order_l36 ts (come, w, out) = some (.inl (upd come (i : Int) true, w.filter (fun y => !decide (y = (i : Int))), out ++ [(i : Int)])) ∧ QOk ts (upd come (i : Int) true, w.filter (fun y => !decide (y = (i : Int))), out ++ [(i : Int)]) := by
  obtain ⟨h1, h2, h3⟩ := hi
  have hno : (i : Int) ∉ out := by
    unfold readyB at h2
    rw [Bool.and_eq_true] at h2
    simpa using h2.1
  have hiw : (i : Int) ∈ w := (wait_mem h).2 ⟨h1, hno⟩
  have hfew := h.few
  have hcl := h.clen
  dsimp only at hfew hcl
  obtain ⟨m, e1, e2, e3⟩ := min_eq (out := out) hl ht hk h.clen h.come (w := w) (fun x hx => by
    have hx' : x ∈ idxs ts.length := by
      have hw := h.wait
      dsimp only at hw
      rw [hw, List.mem_filter] at hx
      exact hx.1
    exact idxs_mem hx') (List.ne_nil_of_mem hiw) (by omega)
  have hmi : m = i := by
    have hml := (wait_mem h).1 e2
    have hlx := e3 i hiw
    have hbi : blk ts out i = 0 := by
      unfold blk
      unfold readyB at h2
      rw [Bool.and_eq_true] at h2
      rw [if_pos h2.2]
    have hbm : blk ts out m = 0 := by
      have h01 : blk ts out m = 0 ∨ blk ts out m = 1 := by unfold blk; split <;> simp
      unfold Lex at hlx
      omega
    have hrm : readyB ts out m = true := by
      unfold readyB
      rw [decide_eq_false hml.2, Bool.not_false, Bool.true_and]
      unfold blk at hbm
      split at hbm
      · assumption
      · cases hbm
    have hle : m ≤ i := by unfold Lex at hlx; omega
    by_cases hlt : m < i
    · rw [h3 m hlt] at hrm; cases hrm
    · omega
  subst hmi
  constructor
  · unfold inuring_Order_l36
    dsimp only
    have hpos : 0 < w.length := List.length_pos_of_mem e2
    rw [if_pos (by simp; omega), e1, Option.bind_some, chk_true (inb_nat (by omega)), chk_true (room_of (by simp; omega)), delete_eq (by omega), Option.bind_some]
  · refine ⟨by dsimp only; rw [upd_length]; exact hcl, fun k hk1 => ?_, ?_, ?_⟩
    · dsimp only
      rw [ix_upd (by omega)]
      have hc := h.come k hk1
      dsimp only at hc
      by_cases e : k = m
      · subst e; simp
      · rw [if_neg e, hc]
        have : ¬ (k : Int) = (m : Int) := by omega
        simp [this]
    · dsimp only
      have hw := h.wait
      dsimp only at hw
      rw [hw, List.filter_filter]
      apply List.filter_congr
      intro x _
      simp only [List.mem_append, List.mem_singleton]
      by_cases c1 : x ∈ out <;> by_cases c2 : x = (m : Int) <;> simp [c1, c2]
    · dsimp only
      have hn : w.Nodup := by have hw := h.wait; dsimp only at hw; rw [hw]; exact (idxs_nodup _).filter _
      have := filter_len hn e2
      simp only [List.length_append, List.length_singleton]
      omega
theorem q_start (ts : List GTreaty) : QOk ts (List.replicate ts.length false, idxs ts.length, []) := by
  refine ⟨by simp, fun k hk => ?_, ?_, by simp [idxs]⟩
  · dsimp only
    rw [ix_nat (by simpa using hk)]
    simp
  · dsimp only
    symm
    rw [List.filter_eq_self]
    simp
/-- both loops come to the same end -/
theorem both {ts : List GTreaty} (hl : ts.length ≤ 1000000) (ht : TsLen ts) (hk : Known ts) (hs : ∀ k, k < ts.length → Safe ts k) : ∀ (n : Nat) (come : List Bool) (w out : List Int), w.length = n → QOk ts (come, w, out) → ∃ r, loopV (inuring_Order_l36 ts) (come, w, out) = some r ∧ loopV (treatyref25_Order_l14 ts) out = some r ∧ r.length = ts.length := by
  intro n
  induction n with
  | zero =>
    intro come w out hn h
    have hfew := h.few
    dsimp only at hfew
    refine ⟨out, loopV_stop ?_, loopV_stop ?_, by omega⟩
    · unfold inuring_Order_l36
      rw [if_neg (by dsimp only; rw [decide_eq_true_eq]; omega)]
    · unfold treatyref25_Order_l14
      rw [if_neg (by simp; omega)]
  | succ n ih =>
    intro come w out hn h
    have hfew := h.few
    dsimp only at hfew
    obtain ⟨x, hx⟩ := List.exists_mem_of_length_pos (l := w) (by omega)
    have hx2 : ∃ k : Nat, k < ts.length ∧ (k : Int) ∉ out := by
      have hw := h.wait
      dsimp only at hw
      have hx' := hx
      rw [hw, List.mem_filter] at hx'
      obtain ⟨k, _, rfl⟩ := idxs_mem hx'.1
      exact ⟨k, (wait_mem h).1 hx⟩
    obtain ⟨k, hk1, hk2⟩ := hx2
    obtain ⟨i, hi1, hi2⟩ := ready_ex hk (hs k hk1) hk1 hk2
    obtain ⟨i, hi⟩ := least_of hi1 hi2
    obtain ⟨s1, s2⟩ := l36_step hl ht hk h hi
    have hfew2 := s2.few
    simp only [List.length_append, List.length_singleton] at hfew2
    obtain ⟨r, r1, r2, r3⟩ := ih _ _ _ (by omega) s2
    refine ⟨r, (loopV_next s1).trans r1, (loopV_next ?_).trans r2, r3⟩
    unfold treatyref25_Order_l14
    rw [if_pos (by simp; omega), l24o_eq hl ht (by omega) hi]
    rfl
/-- the order is the document's -/
theorem order_same {ts : List GTreaty} (hl : ts.length ≤ 1000000) (ht : TsLen ts) : ∃ r e, inuring_Order ts = some (r, e) ∧ treatyref25_Order ts = some (r, e) ∧ r.length ≤ 1000000 := by
  unfold inuring_Order treatyref25_Order
  rw [validateAll hl ht, treatiesAll hl ht, Option.bind_some, Option.bind_some]
  by_cases c : vOf ts = 0
  · have ok := vOf_zero c
    rw [if_neg (by simp [c]), if_neg (by simp [c]), chk_true (by simp), chk_true (by simp; omega), Int.toNat_natCast, l20_eq hl, Option.bind_some]
    obtain ⟨r, h1, h2, h3⟩ := both hl ht (st2_known ok.s2) (fun k hk => safe_all ht ok hk) _ _ _ _ rfl (q_start ts)
    refine ⟨r, 0, ?_, ?_, by omega⟩
    · have e : List.replicate (0 : Int).toNat (0 : Int) = [] := rfl
      rw [e, h1]
      rfl
    · rw [h2]
      rfl
  · rw [if_pos (by simp [c]), if_pos (by simp [c])]
    exact ⟨[], vOf ts, rfl, rfl, by simp⟩
/-! ### treaties that only name earlier ones -/
def Below (ts : List GTreaty) : Prop := ∀ i : Nat, i < ts.length → ∀ id ∈ (ix ts (i : Int)).Inures, ∃ j : Nat, j < i ∧ idxOf ts id = (j : Int)
theorem below_known {ts : List GTreaty} (h : Below ts) : Known ts := fun i hi id hid => by obtain ⟨j, _, h2⟩ := h i hi id hid; omega
theorem below_edge {ts : List GTreaty} (h : Below ts) {i j : Nat} (he : Edge ts i j) : j < i := by
  obtain ⟨h1, _, id, h2, h3⟩ := he
  obtain ⟨k, hk, h4⟩ := h i h1 id h2
  omega
theorem below_reach {ts : List GTreaty} (h : Below ts) {i j : Nat} (he : Relation.TransGen (Edge ts) i j) : j < i := by
  induction he with
  | single he => exact below_edge h he
  | tail _ he ih => have := below_edge h he; omega
theorem below_acyclic {ts : List GTreaty} (h : Below ts) : ¬ Cyc ts := fun ⟨_, _, hc⟩ => Nat.lt_irrefl _ (below_reach h hc)
theorem mem_idxs' {n : Nat} {x : Int} : x ∈ idxs n ↔ 0 ≤ x ∧ x < n := by
  constructor
  · intro h
    obtain ⟨a, h1, rfl⟩ := idxs_mem h
    omega
  · rintro ⟨h1, h2⟩
    obtain ⟨a, rfl⟩ := Int.eq_ofNat_of_zero_le h1
    exact mem_idxs.2 (by omega)
theorem order_below {ts : List GTreaty} (hl : ts.length ≤ 1000000) (ht : TsLen ts) (hb : Below ts) (hv : vOf ts = 0) : inuring_Order ts = some (idxs ts.length, 0) := by
  have hkn := below_known hb
  have run : ∀ (n q : Nat) (come : List Bool) (w : List Int), n + q = ts.length → QOk ts (come, w, idxs q) → loopV (inuring_Order_l36 ts) (come, w, idxs q) = some (idxs ts.length) := by
    intro n
    induction n with
    | zero =>
      intro q come w hn h
      have hfew := h.few
      simp only [idxs, List.length_map, List.length_range] at hfew
      have : q = ts.length := by omega
      subst this
      apply loopV_stop
      unfold inuring_Order_l36
      rw [if_neg (by dsimp only; rw [decide_eq_true_eq]; omega)]
    | succ n ih =>
      intro q come w hn h
      have hq : q < ts.length := by omega
      have hle : Least ts (idxs q) q := by
        refine ⟨hq, ?_, fun j hj => ?_⟩
        · unfold readyB
          rw [decide_eq_false (by rw [mem_idxs]; omega), Bool.not_false, Bool.true_and, List.all_eq_true]
          intro id hid
          obtain ⟨j, hj, he⟩ := hb q hq id hid
          rw [he, decide_eq_true (mem_idxs.2 hj)]
        · unfold readyB
          rw [decide_eq_true (mem_idxs.2 hj)]
          rfl
      obtain ⟨s1, s2⟩ := l36_step hl ht hkn h hle
      have e : idxs q ++ [(q : Int)] = idxs (q + 1) := by unfold idxs; rw [List.range_succ, List.map_append]; rfl
      rw [e] at s1 s2
      exact (loopV_next s1).trans (ih (q + 1) _ _ (by omega) s2)
  unfold inuring_Order
  rw [validateAll hl ht, Option.bind_some, if_neg (by simp [hv]), chk_true (by simp), chk_true (by simp; omega), Int.toNat_natCast, l20_eq hl, Option.bind_some]
  have e : List.replicate (0 : Int).toNat (0 : Int) = idxs 0 := rfl
  rw [e, run ts.length 0 _ _ (by omega) (q_start ts)]
  rfl
end Go.Proofs.Ytfekcgnnhjmeiaa.Pl
