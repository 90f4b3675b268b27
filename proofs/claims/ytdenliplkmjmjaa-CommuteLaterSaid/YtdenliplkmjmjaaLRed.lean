/- What Redirect computes (plain): the totals of the redirected target. -/
import Derived.Test.YtdenliplkmjmjaaLHead
namespace Go.Proofs.Ytdenliplkmjmjaa.Pl
open Go

theorem hcompare_eq (a b : Gheading) : commute_compare a b = some (cmpE (eh a) (eh b)) := by
  unfold commute_compare
  simp only [compare_i, Option.bind_some, or_eq [cmp3 a.kind b.kind, cmp3 a.treaty b.treaty, cmp3 a.party b.party, cmp3 a.loss b.loss] (by simp)]
  rfl
theorem sorted_keys {M : List (Gheading × Int)} (hn : (keys M).Nodup) (hl : M.length ≤ 1000000) : ∃ ks, slices_SortedFunc_commute_heading_maps_Keys_map_commute_heading_int_commute_heading_int_1_commute_compare M = some ks ∧ ks.Perm (keys M) ∧ StrictE (ks.map eh) := by
  obtain ⟨r, h1, h2, h3⟩ := sortH_all (c := fun x y => commute_compare x y) hcompare_eq hn (by unfold keys; rw [List.length_map]; omega)
  refine ⟨r, ?_, h2, h3⟩
  unfold slices_SortedFunc_commute_heading_maps_Keys_map_commute_heading_int_commute_heading_int_1_commute_compare slices_SortFunc_s_commute_heading_commute_heading_o_commute_compare
  rw [chk_of (room_of (by omega)), permP_some]
  intro l hl
  rw [h1 l hl]
  rfl
theorem orderLoop {S O : Type} (M : List (Gheading × Int)) (Y : Gheading × Int → S → Option (S ⊕ O)) (ks : List Gheading) (hl : ks.length ≤ 1000000) : ∀ (n : Nat) (k : Nat) (s : S) (q : S ⊕ O), ks.length - k = n → k ≤ ks.length → rangeV Y ((ks.drop k).map fun x => (x, mget M x 0)) s = some q → loopV (commute_inOrder_c1_l3 M Y ks) ((k : Int), s) = some q := by
  intro n
  induction n with
  | zero =>
    intro k s q hn hk h
    have : k = ks.length := by omega
    subst this
    rw [List.drop_of_length_le (Nat.le_refl _)] at h
    simp only [List.map_nil, rangeV, Option.some.injEq] at h
    subst h
    refine loopV_stop ?_
    unfold commute_inOrder_c1_l3
    dsimp only
    rw [if_neg (by simp)]
  | succ n ih =>
    intro k s q hn hk h
    have hk' : k < ks.length := by omega
    rw [List.drop_eq_getElem_cons hk', List.map_cons] at h
    unfold rangeV at h
    have hs : commute_inOrder_c1_l3 M Y ks ((k : Int), s) = (Y (ks[k], mget M ks[k] 0) s).bind (Sum.elim (fun s' => some (.inl (((k + 1 : Nat) : Int), s'))) (fun o => some (.inr (.inr o)))) := by
      unfold commute_inOrder_c1_l3
      dsimp only
      rw [if_pos (decide_eq_true (by omega)), chk_of (inb_nat hk'), ix_nat hk', w64_id (n := (k : Int) + 1) (by omega) (by omega)]
      rfl
    cases hY : Y (ks[k], mget M ks[k] 0) s with
    | none => rw [hY] at h; cases h
    | some r =>
      rw [hY] at h hs
      cases r with
      | inl s' => exact (loopV_next hs).trans (ih (k + 1) s' q (by omega) (by omega) h)
      | inr o =>
        simp only [Option.bind_some] at h
        cases h
        exact loopV_stop hs
theorem inOrder_run {S O : Type} {M : List (Gheading × Int)} {Y : Gheading × Int → S → Option (S ⊕ O)} {ks : List Gheading} (hk : slices_SortedFunc_commute_heading_maps_Keys_map_commute_heading_int_commute_heading_int_1_commute_compare M = some ks) (hl : ks.length ≤ 1000000) {s : S} {q : S ⊕ O} (h : rangeV Y (ks.map fun x => (x, mget M x 0)) s = some q) : commute_inOrder_c1 M Y s = some q := by
  unfold commute_inOrder_c1 maps_Keys_map_commute_heading_int_commute_heading_int
  have := orderLoop M Y ks hl ks.length 0 s q (by omega) (by omega) (by simpa using h)
  rw [show ((0 : Nat) : Int) = 0 from rfl] at this
  rw [Option.bind_some, hk, Option.bind_some, this]
  rfl
theorem collRange {T : GEntry → Int} : ∀ (ks : List Gheading) (s : List GEntry), s.length + ks.length ≤ 1000000 → (∀ k ∈ ks, vAmt (T (eh k)) = true) → rangeV commute_collected_l8 (ks.map fun k => (k, T (eh k))) s = some (.inl (s ++ ks.filterMap fun k => mkE (eh k, T (eh k))))
  | [], s, _, _ => by simp [rangeV]
  | k :: ks, s, hl, hv => by
    simp only [List.length_cons] at hl
    have hv0 := hv k (by simp)
    have hb : commute_collected_l8 (k, T (eh k)) s = some (.inl (s ++ (mkE (eh k, T (eh k))).toList)) := by
      unfold commute_collected_l8 amount_Valid
      dsimp only
      have e1 : ((decide ((-17592186044416) ≤ T (eh k))) && (decide (T (eh k) ≤ 17592186044416))) = true := hv0
      rw [Option.bind_some, e1]
      simp only [Bool.not_true, Bool.false_eq_true, if_false]
      by_cases h0 : T (eh k) = 0
      · rw [if_neg (by simp [h0])]
        simp [mkE, h0]
      · rw [if_pos (by simp [h0]), chk_of (room_of (by simp; omega))]
        have e2 : mkE (eh k, T (eh k)) = some (withA (eh k) (T (eh k))) := by
          unfold mkE
          rw [if_neg h0]
        rw [e2]
        rfl
    rw [List.map_cons]
    unfold rangeV
    rw [hb, Option.bind_some]
    dsimp only
    have hlen : (mkE (eh k, T (eh k))).toList.length ≤ 1 := by unfold mkE; split <;> simp
    rw [collRange ks _ (by rw [List.length_append]; omega) fun q hq => hv q (by simp [hq])]
    congr 2
    rw [List.append_assoc]
    congr 1
    cases h : mkE (eh k, T (eh k)) <;> simp [h]
theorem collected_ok {M : List (Gheading × Int)} {T : GEntry → Int} (hM : MapH M T) (hl : M.length ≤ 1000000) (hv : ∀ g, g.Amount = 0 → vAmt (T g) = true) : ∃ r, commute_collected M = some (r, 0) ∧ CollT T r ∧ r.length ≤ M.length := by
  obtain ⟨ks, h1, h2, h3⟩ := sorted_keys hM.nodup hl
  have hkl : ks.length = M.length := by rw [h2.length_eq]; simp [keys]
  refine ⟨ks.filterMap fun k => mkE (eh k, T (eh k)), ?_, coll_keys hM h2 h3, by rw [← hkl]; exact List.length_filterMap_le _ _⟩
  unfold commute_collected commute_inOrder
  have e : (ks.map fun x => (x, mget M x 0)) = ks.map fun k => (k, T (eh k)) := List.map_congr_left fun x _ => by rw [hM.get]
  have := collRange (T := T) ks [] (by simp; omega) fun k _ => hv _ (eh_amount k)
  rw [← e, List.nil_append] at this
  rw [Option.bind_some, inOrder_run h1 (by omega) this]
  rfl
/-! ### the totals -/
section
variable (tr pa : Int)
/-- of the participation -/
def mt (g : GEntry) : Bool := isR g && decide (g.Treaty = tr) && decide (g.Party = pa)
/-- with the cedent -/
def cm (g : GEntry) : Bool := isR g && decide (g.Treaty = tr) && decide (g.Party = 0)
def wp (g : GEntry) : GEntry := ⟨g.Kind, g.Treaty, pa, g.Loss, g.Amount⟩
/-- what stays -/
def st (S : GEntry → Int) (g : GEntry) : Int := if g.Kind = 2 then 0 else S g
/-- the totals of the redirected target -/
def red (T S : GEntry → Int) (g : GEntry) : Int := if mt tr pa g = true then st S g else if cm tr g = true then T g + (T (wp pa g) - st S (wp pa g)) else T g
/-- .. where some headings are done -/
def redP (T S : GEntry → Int) (D : List Gheading) (g : GEntry) : Int := if mt tr pa g = true ∧ he g ∈ D then st S g else if cm tr g = true ∧ he (wp pa g) ∈ D then T g + (T (wp pa g) - st S (wp pa g)) else T g
theorem mt_hd (e : GEntry) : mt tr pa (hd e) = mt tr pa e := rfl
theorem mt_eh (e : GEntry) : mt tr pa (eh (he e)) = mt tr pa e := rfl
/-- the headings that are frozen -/
structure Frz (F : List (Gheading × Int)) (T S : GEntry → Int) : Prop where
  nodup : (keys F).Nodup
  ofm : ∀ k ∈ keys F, mt tr pa (eh k) = true
  val : ∀ k ∈ keys F, mget F k 0 = st S (eh k)
  all : ∀ k, mt tr pa (eh k) = true → T (eh k) ≠ 0 ∨ S (eh k) ≠ 0 → k ∈ keys F
end
def f1 (tr pa : Int) (M : List (Gheading × Int)) (e : GEntry) : List (Gheading × Int) := if mt tr pa e = true then mset M (he e) 0 else M
def f2 (tr pa : Int) (M : List (Gheading × Int)) (e : GEntry) : List (Gheading × Int) := if mt tr pa e = true then mset M (he e) (if e.Kind = 2 then 0 else e.Amount) else M
theorem f1_loop (w : List GEntry) (tr pa : Int) (hl : w.length ≤ 65536) : loopV (commute_frozen_l8 w tr pa) ([], 0) = some (w.foldl (f1 tr pa) []) := by
  refine (foldLoop w (f1 tr pa) (fun _ _ => True) [] trivial (fun k hk s _ => ⟨?_, trivial⟩) (fun s => ?_)).1
  · unfold commute_frozen_l8 commute_restated commute_headingOf f1
    dsimp only
    rw [if_pos (decide_eq_true (by omega)), chk_of (inb_nat hk), ix_nat hk, w64_id (n := (k : Int) + 1) (by omega) (by omega)]
    simp only [Option.bind_some]
    have e : ((((decide (w[k].Kind = 1)) || (decide (w[k].Kind = 2))) || (decide (w[k].Kind = 3))) && (decide (w[k].Treaty = tr)) && (decide (w[k].Party = pa))) = mt tr pa w[k] := rfl
    rw [e]
    split <;> rfl
  · unfold commute_frozen_l8
    dsimp only
    rw [if_neg (by simp)]
theorem f2_loop (p : List GEntry) (tr pa : Int) (M : List (Gheading × Int)) (hl : p.length ≤ 65536) : loopV (commute_frozen_l27 p tr pa) (M, 0) = some (p.foldl (f2 tr pa) M) := by
  refine (foldLoop p (f2 tr pa) (fun _ _ => True) M trivial (fun k hk s _ => ⟨?_, trivial⟩) (fun s => ?_)).1
  · unfold commute_frozen_l27 commute_restated commute_headingOf f2
    dsimp only
    rw [if_pos (decide_eq_true (by omega)), chk_of (inb_nat hk), ix_nat hk, w64_id (n := (k : Int) + 1) (by omega) (by omega)]
    simp only [Option.bind_some]
    have e : ((((decide (p[k].Kind = 1)) || (decide (p[k].Kind = 2))) || (decide (p[k].Kind = 3))) && (decide (p[k].Treaty = tr)) && (decide (p[k].Party = pa))) = mt tr pa p[k] := rfl
    rw [e]
    by_cases hm : mt tr pa p[k] = true
    · simp only [hm, if_true]
      by_cases h2 : p[k].Kind = 2
      · simp [h2, he]
      · simp [h2, he, mset_mset]
    · simp [hm]
  · unfold commute_frozen_l27
    dsimp only
    rw [if_neg (by simp)]
/-- behind the first list -/
theorem f1_inv (tr pa : Int) : ∀ (w : List GEntry) (M : List (Gheading × Int)), (keys M).Nodup → (∀ k ∈ keys M, mt tr pa (eh k) = true) → (∀ k, mget M k 0 = 0) →
    (keys (w.foldl (f1 tr pa) M)).Nodup ∧ (∀ k ∈ keys (w.foldl (f1 tr pa) M), mt tr pa (eh k) = true) ∧ (∀ k, mget (w.foldl (f1 tr pa) M) k 0 = 0) ∧ (∀ k, k ∈ keys M ∨ (mt tr pa (eh k) = true ∧ ∃ e ∈ w, he e = k) → k ∈ keys (w.foldl (f1 tr pa) M)) ∧ (w.foldl (f1 tr pa) M).length ≤ M.length + w.length
  | [], M, h1, h2, h3 => ⟨h1, h2, h3, fun k hk => hk.elim id fun ⟨_, e, he, _⟩ => (by cases he), Nat.le_refl _⟩
  | e :: w, M, h1, h2, h3 => by
    rw [List.foldl_cons]
    by_cases hm : mt tr pa e = true
    · have ef : f1 tr pa M e = mset M (he e) 0 := by simp [f1, hm]
      rw [ef]
      obtain ⟨a1, a2, a3, a4, a5⟩ := f1_inv tr pa w (mset M (he e) 0) (nodup_mset h1) (fun k hk => by
        rcases keys_mset.1 hk with rfl | hk
        · rw [mt_eh]; exact hm
        · exact h2 k hk) (fun k => by rw [mget_mset]; split <;> simp [h3])
      refine ⟨a1, a2, a3, fun k hk => a4 k ?_, ?_⟩
      · rcases hk with hk | ⟨hk, y, hy, rfl⟩
        · exact .inl (keys_mset.2 (.inr hk))
        · rcases List.mem_cons.1 hy with rfl | hy
          · exact .inl (keys_mset.2 (.inl rfl))
          · exact .inr ⟨hk, y, hy, rfl⟩
      · have := length_mset M (he e) 0
        simp only [List.length_cons]
        omega
    · have ef : f1 tr pa M e = M := by simp [f1, hm]
      rw [ef]
      obtain ⟨a1, a2, a3, a4, a5⟩ := f1_inv tr pa w M h1 h2 h3
      refine ⟨a1, a2, a3, fun k hk => a4 k ?_, by simp only [List.length_cons]; omega⟩
      rcases hk with hk | ⟨hk, y, hy, rfl⟩
      · exact .inl hk
      · rcases List.mem_cons.1 hy with rfl | hy
        · rw [mt_eh] at hk; exact absurd hk hm
        · exact .inr ⟨hk, y, hy, rfl⟩
/-- behind the second list -/
theorem f2_inv (tr pa : Int) : ∀ (p : List GEntry) (M : List (Gheading × Int)) (q : List GEntry), StrictE (q ++ p) → (keys M).Nodup → (∀ k ∈ keys M, mt tr pa (eh k) = true) → (∀ k, mt tr pa (eh k) = true → mget M k 0 = st (tot q) (eh k)) →
    (keys (p.foldl (f2 tr pa) M)).Nodup ∧ (∀ k ∈ keys (p.foldl (f2 tr pa) M), mt tr pa (eh k) = true) ∧ (∀ k, mt tr pa (eh k) = true → mget (p.foldl (f2 tr pa) M) k 0 = st (tot (q ++ p)) (eh k)) ∧ (∀ k, k ∈ keys M ∨ (mt tr pa (eh k) = true ∧ ∃ e ∈ p, he e = k) → k ∈ keys (p.foldl (f2 tr pa) M)) ∧ (p.foldl (f2 tr pa) M).length ≤ M.length + p.length
  | [], M, q, _, h1, h2, h3 => ⟨h1, h2, fun k hk => by rw [List.append_nil]; exact h3 k hk, fun k hk => hk.elim id fun ⟨_, e, he, _⟩ => (by cases he), Nat.le_refl _⟩
  | e :: p, M, q, hs, h1, h2, h3 => by
    rw [List.foldl_cons]
    have hs2 : StrictE ((q ++ [e]) ++ p) := by rw [List.append_assoc]; exact hs
    have he0 : tot q (hd e) = 0 := tot_none fun y hy hc => by
      have := (List.pairwise_append.1 hs).2.2 y hy e (by simp)
      rw [((hd_eq_iff y e).1 hc).1] at this
      cases this
    have etot : ∀ k, tot (q ++ [e]) k = tot q k + (if hd e = k then e.Amount else 0) := fun k => by
      rw [tot_append, tot_cons, tot_nil]; omega
    have eapp : q ++ e :: p = (q ++ [e]) ++ p := by simp
    rw [eapp]
    by_cases hm : mt tr pa e = true
    · have ef : f2 tr pa M e = mset M (he e) (if e.Kind = 2 then 0 else e.Amount) := by simp [f2, hm]
      rw [ef]
      obtain ⟨a1, a2, a3, a4, a5⟩ := f2_inv tr pa p (mset M (he e) (if e.Kind = 2 then 0 else e.Amount)) (q ++ [e]) hs2 (nodup_mset h1) (fun k hk => by
        rcases keys_mset.1 hk with rfl | hk
        · rw [mt_eh]; exact hm
        · exact h2 k hk) (fun k hk => by
          rw [mget_mset]
          by_cases hke : he e = k
          · subst hke
            rw [if_pos rfl, eh_he]
            unfold st
            have : (hd e).Kind = e.Kind := rfl
            rw [this, etot, he0, if_pos rfl]
            split <;> omega
          · rw [if_neg hke, h3 k hk]
            unfold st
            have : hd e ≠ eh k := fun hc => hke (eh_inj (by rw [eh_he]; exact hc))
            rw [etot, if_neg this]
            split <;> omega)
      refine ⟨a1, a2, a3, fun k hk => a4 k ?_, ?_⟩
      · rcases hk with hk | ⟨hk, y, hy, rfl⟩
        · exact .inl (keys_mset.2 (.inr hk))
        · rcases List.mem_cons.1 hy with rfl | hy
          · exact .inl (keys_mset.2 (.inl rfl))
          · exact .inr ⟨hk, y, hy, rfl⟩
      · have := length_mset M (he e) (if e.Kind = 2 then 0 else e.Amount)
        simp only [List.length_cons]
        omega
    · have ef : f2 tr pa M e = M := by simp [f2, hm]
      rw [ef]
      obtain ⟨a1, a2, a3, a4, a5⟩ := f2_inv tr pa p M (q ++ [e]) hs2 h1 h2 (fun k hk => by
        rw [h3 k hk]
        unfold st
        have : hd e ≠ eh k := fun hc => hm (by rw [← mt_hd, hc]; exact hk)
        rw [etot, if_neg this]
        split <;> omega)
      refine ⟨a1, a2, a3, fun k hk => a4 k ?_, by simp only [List.length_cons]; omega⟩
      rcases hk with hk | ⟨hk, y, hy, rfl⟩
      · exact .inl hk
      · rcases List.mem_cons.1 hy with rfl | hy
        · rw [mt_eh] at hk; exact absurd hk hm
        · exact .inr ⟨hk, y, hy, rfl⟩
theorem collT_head {T : GEntry → Int} {w : List GEntry} (h : CollT T w) {k : Gheading} (hk : T (eh k) ≠ 0) : ∃ e ∈ w, he e = k := ⟨withA (eh k) (T (eh k)), (h.mem _).2 ⟨hk, rfl⟩, rfl⟩
theorem collT_tot {T : GEntry → Int} {w : List GEntry} (h : CollT T w) {g : GEntry} (hg : g.Amount = 0) : tot w g = T g := by
  by_cases h0 : T g = 0
  · rw [h0]
    refine tot_none fun e he hc => ?_
    obtain ⟨a, b⟩ := (h.mem e).1 he
    rw [hc, h0] at b
    exact a b.symm
  · have hm : withA g (T g) ∈ w := (h.mem _).2 ⟨h0, by rw [hd_withA, hd0 hg]; rfl⟩
    have := tot_strict h.strict hm
    rw [hd_withA, hd0 hg] at this
    exact this
theorem frozen_ok {T S : GEntry → Int} {w p : List GEntry} (hw : CollT T w) (hp : CollT S p) (tr pa : Int) (hl : w.length ≤ 65536) (hl2 : p.length ≤ 65536) : ∃ F, commute_frozen w p tr pa = some F ∧ Frz tr pa F T S ∧ F.length ≤ w.length + p.length := by
  obtain ⟨a1, a2, a3, a4, a5⟩ := f1_inv tr pa w [] (by simp [keys]) (fun k hk => by simp [keys] at hk) (fun k => rfl)
  obtain ⟨b1, b2, b3, b4, b5⟩ := f2_inv tr pa p (w.foldl (f1 tr pa) []) [] (by simpa using hp.strict) a1 a2 (fun k _ => by
    rw [a3]
    unfold st
    rw [tot_nil]
    split <;> rfl)
  refine ⟨p.foldl (f2 tr pa) (w.foldl (f1 tr pa) []), ?_, ⟨b1, b2, fun k hk => ?_, fun k hk hc => b4 k ?_⟩, by simp at a5; omega⟩
  · unfold commute_frozen
    rw [f1_loop w tr pa hl, Option.bind_some, f2_loop p tr pa _ hl2]
    rfl
  · rw [b3 k (b2 k hk)]
    unfold st
    rw [List.nil_append, collT_tot hp (eh_amount k)]
  · rcases hc with hc | hc
    · exact .inl (a4 k (.inr ⟨hk, collT_head hw hc⟩))
    · exact .inr ⟨hk, collT_head hp hc⟩
/-! ### moving -/
theorem redRange {tr pa : Int} {T S : GEntry → Int} {B : Int} (hpa : pa ≠ 0) (hB : 0 ≤ B) (hB2 : B ≤ 4398046511104) (hT : ∀ g, g.Amount = 0 → -B ≤ T g ∧ T g ≤ B) (hS : ∀ g, g.Amount = 0 → -B ≤ S g ∧ S g ≤ B) : ∀ (ks D : List Gheading) (M : List (Gheading × Int)), (D ++ ks).Nodup → (∀ k ∈ D ++ ks, mt tr pa (eh k) = true) → MapH M (redP tr pa T S D) →
    ∃ M', rangeV commute_Redirect_l54 (ks.map fun k => (k, st S (eh k))) M = some (.inl M') ∧ MapH M' (redP tr pa T S (D ++ ks)) ∧ M'.length ≤ M.length + 2 * ks.length
  | [], D, M, _, _, hM => ⟨M, rfl, by rw [List.append_nil]; exact hM, by simp⟩
  | k :: ks, D, M, hn, hm, hM => by
    have hk : mt tr pa (eh k) = true := hm k (by simp)
    have hkD : k ∉ D := fun hc => by
      have := (List.nodup_append.1 hn).2.2 k hc k (by simp)
      exact this rfl
    have eapp : D ++ k :: ks = (D ++ [k]) ++ ks := by simp
    rw [eapp] at hn hm ⊢
    have hmk : isR (eh k) = true ∧ k.treaty = tr ∧ k.party = pa := by
      simp only [mt, Bool.and_eq_true, decide_eq_true_eq] at hk
      exact ⟨hk.1.1, hk.1.2, hk.2⟩
    let c : Gheading := ⟨k.kind, k.treaty, 0, k.loss⟩
    have hcR : cm tr (eh c) = true := by
      simp only [cm, Bool.and_eq_true, decide_eq_true_eq]
      exact ⟨⟨hmk.1, hmk.2.1⟩, rfl⟩
    have hcN : mt tr pa (eh c) = false := by
      have : ¬ ((0 : Int) = pa) := fun h => hpa h.symm
      simp [mt, eh, c, this]
    have hwp : wp pa (eh c) = eh k := by
      simp only [wp, eh, c, hmk.2.2]
    have hcK : cm tr (eh k) = false := by
      have : ¬ (k.party = 0) := by rw [hmk.2.2]; exact hpa
      simp [cm, eh, this]
    have hck : c ≠ k := fun hc => by
      have h1 : c.party = k.party := by rw [hc]
      rw [hmk.2.2] at h1
      exact hpa h1.symm
    -- the values now
    have v1 : mget M k 0 = T (eh k) := by
      rw [hM.get]
      unfold redP
      rw [if_neg (fun h => hkD h.2), if_neg (fun h => by rw [hcK] at h; cases h.1)]
    have v2 : mget M c 0 = T (eh c) := by
      rw [hM.get]
      unfold redP
      rw [if_neg (fun h => by rw [hcN] at h; cases h.1), if_neg (fun h => hkD (by rw [hwp] at h; exact h.2))]
    have bs : -B ≤ st S (eh k) ∧ st S (eh k) ≤ B := by
      have := hS (eh k) (eh_amount k)
      unfold st
      split <;> omega
    have b1 := hT (eh k) (eh_amount k)
    have b2 := hT (eh c) (eh_amount c)
    have e1 : w64 (T (eh k) - st S (eh k)) = T (eh k) - st S (eh k) := w64_id (by omega) (by omega)
    have e2 : w64 (T (eh c) + (T (eh k) - st S (eh k))) = T (eh c) + (T (eh k) - st S (eh k)) := w64_id (by omega) (by omega)
    have hstep : commute_Redirect_l54 (k, st S (eh k)) M = some (.inl (mset (mset M c (T (eh c) + (T (eh k) - st S (eh k)))) k (st S (eh k)))) := by
      show some (Sum.inl (mset (mset M c (w64 (mget M c 0 + w64 (mget M k 0 - st S (eh k))))) k (st S (eh k)))) = _
      rw [v1, v2, e1, e2]
    -- the totals behind
    have hM1 : MapH (mset M c (T (eh c) + (T (eh k) - st S (eh k)))) (fun g => if g = eh c then T (eh c) + (T (eh k) - st S (eh k)) else redP tr pa T S D g) :=
      hM.set (by simp) fun g hg => by rw [if_neg fun h => hg (eh_inj h)]
    have hM2 : MapH (mset (mset M c (T (eh c) + (T (eh k) - st S (eh k)))) k (st S (eh k))) (redP tr pa T S (D ++ [k])) := by
      refine hM1.set ?_ fun g hg => ?_
      · unfold redP
        rw [if_pos ⟨hk, by simp [he_eh]⟩]
      · by_cases hgc : g = c
        · subst hgc
          rw [if_pos rfl]
          unfold redP
          rw [if_neg (fun h => by rw [hcN] at h; cases h.1), if_pos ⟨hcR, by rw [hwp]; simp [he_eh]⟩, hwp]
        · rw [if_neg fun h => hgc (eh_inj h)]
          unfold redP
          have m1 : he (eh g) ∈ D ++ [k] ↔ he (eh g) ∈ D := by
            rw [he_eh]; simp [hg]
          have m2 : cm tr (eh g) = true → (he (wp pa (eh g)) ∈ D ++ [k] ↔ he (wp pa (eh g)) ∈ D) := fun hcg => by
            have : he (wp pa (eh g)) ≠ k := fun h => hgc (by
              simp only [cm, Bool.and_eq_true, decide_eq_true_eq] at hcg
              have hp0 : g.party = 0 := hcg.2
              obtain ⟨ga, gb, gc, gd⟩ := g
              simp only at hp0
              subst hp0
              simp only [he, wp, eh] at h
              subst h
              rfl)
            simp [this]
          by_cases hcg : cm tr (eh g) = true
          · simp only [m1, m2 hcg]
          · simp only [m1, hcg, false_and, Bool.false_eq_true, if_false]
    obtain ⟨M', r1, r2, r3⟩ := redRange hpa hB hB2 hT hS ks (D ++ [k]) _ hn hm hM2
    refine ⟨M', ?_, r2, ?_⟩
    · rw [List.map_cons]
      unfold rangeV
      rw [hstep, Option.bind_some]
      exact r1
    · have l1 := length_mset M c (T (eh c) + (T (eh k) - st S (eh k)))
      have l2 := length_mset (mset M c (T (eh c) + (T (eh k) - st S (eh k)))) k (st S (eh k))
      simp only [List.length_cons]
      omega
theorem redP_all {tr pa : Int} {T S : GEntry → Int} {F : List (Gheading × Int)} (hF : Frz tr pa F T S) {ks : List Gheading} (hp : ks.Perm (keys F)) {g : GEntry} (hg : g.Amount = 0) : redP tr pa T S ks g = red tr pa T S g := by
  have key : ∀ k, mt tr pa (eh k) = true → k ∉ ks → T (eh k) = 0 ∧ st S (eh k) = 0 := fun k hk hn => by
    have h1 : ¬ (T (eh k) ≠ 0 ∨ S (eh k) ≠ 0) := fun h => hn (hp.mem_iff.2 (hF.all k hk h))
    have h2 : T (eh k) = 0 := Classical.byContradiction fun h => h1 (.inl h)
    have h3 : S (eh k) = 0 := Classical.byContradiction fun h => h1 (.inr h)
    refine ⟨h2, ?_⟩
    unfold st
    rw [h3]
    split <;> rfl
  have eg := eh_he0 hg
  unfold redP red
  by_cases hm : mt tr pa g = true
  · by_cases hk : he g ∈ ks
    · rw [if_pos ⟨hm, hk⟩, if_pos hm]
    · obtain ⟨k1, k2⟩ := key (he g) (by rw [eg]; exact hm) hk
      rw [eg] at k1 k2
      rw [if_neg (fun h => hk h.2), if_pos hm, k2]
      by_cases hc : cm tr g = true
      · -- party 0 and party pa at once
        have hpa : pa = 0 := by
          simp only [mt, cm, Bool.and_eq_true, decide_eq_true_eq] at hm hc
          rw [← hm.2, hc.2]
        have ew : wp pa g = g := by
          obtain ⟨a, b, c, d, x⟩ := g
          simp only [mt, Bool.and_eq_true, decide_eq_true_eq] at hm
          simp only [wp, hm.2]
        rw [ew]
        split
        · omega
        · exact k1
      · rw [if_neg (fun h => hc h.1)]
        exact k1
  · rw [if_neg (fun h => hm h.1), if_neg hm]
    by_cases hc : cm tr g = true
    · rw [if_pos hc]
      by_cases hk : he (wp pa g) ∈ ks
      · rw [if_pos ⟨hc, hk⟩]
      · rw [if_neg (fun h => hk h.2)]
        have ew : eh (he (wp pa g)) = wp pa g := eh_he0 hg
        have hmw : mt tr pa (wp pa g) = true := by
          simp only [cm, Bool.and_eq_true, decide_eq_true_eq] at hc
          simp only [mt, Bool.and_eq_true, decide_eq_true_eq]
          exact ⟨⟨hc.1.1, hc.1.2⟩, rfl⟩
        obtain ⟨k1, k2⟩ := key (he (wp pa g)) (by rw [ew]; exact hmw) hk
        rw [ew] at k1 k2
        rw [k1, k2]
        omega
    · rw [if_neg (fun h => hc h.1), if_neg hc]
def g1 (M : List (Gheading × Int)) (e : GEntry) : List (Gheading × Int) := mset M (he e) e.Amount
theorem g1_loop (w : List GEntry) (z : Int) (hl : w.length ≤ 65536) : loopV (commute_Redirect_l38 (w, z)) ([], 0) = some (w.foldl g1 []) := by
  refine (foldLoop w g1 (fun _ _ => True) [] trivial (fun k hk s _ => ⟨?_, trivial⟩) (fun s => ?_)).1
  · unfold commute_Redirect_l38 commute_headingOf g1
    dsimp only
    rw [if_pos (decide_eq_true (by omega)), chk_of (inb_nat hk), ix_nat hk, w64_id (n := (k : Int) + 1) (by omega) (by omega)]
    rfl
  · unfold commute_Redirect_l38
    dsimp only
    rw [if_neg (by simp)]
theorem g1_inv : ∀ (w : List GEntry) (M : List (Gheading × Int)) (q : List GEntry), StrictE (q ++ w) → MapH M (tot q) → MapH (w.foldl g1 M) (tot (q ++ w)) ∧ (w.foldl g1 M).length ≤ M.length + w.length
  | [], M, q, _, h => by
    rw [List.append_nil]
    exact ⟨h, Nat.le_refl _⟩
  | e :: w, M, q, hs, h => by
    rw [List.foldl_cons, show q ++ e :: w = (q ++ [e]) ++ w by simp]
    have hs2 : StrictE ((q ++ [e]) ++ w) := by rw [List.append_assoc]; exact hs
    have he0 : tot q (hd e) = 0 := tot_none fun y hy hc => by
      have := (List.pairwise_append.1 hs).2.2 y hy e (by simp)
      rw [((hd_eq_iff y e).1 hc).1] at this
      cases this
    obtain ⟨a1, a2⟩ := g1_inv w (g1 M e) (q ++ [e]) hs2 (h.set (by
      rw [eh_he, tot_append, tot_cons, tot_nil, he0, if_pos rfl]; omega) fun g hg => by
        have : hd e ≠ eh g := fun hc => hg (eh_inj (by rw [← hc, eh_he]))
        rw [tot_append, tot_cons, tot_nil, if_neg this]; omega)
    refine ⟨a1, ?_⟩
    have : (g1 M e).length ≤ M.length + 1 := length_mset _ _ _
    simp only [List.length_cons]
    omega
/-- Redirect, where all is fine -/
theorem redirect_sem {l : GLedger} (h : LOk l) {t : List GEntry} (hv : ∀ e ∈ t, vE e = true) (hl : t.length ≤ 10000) {B : Int} (hB : 0 ≤ B) (hB2 : B ≤ 4398046511104) (hT : TotB t B) (hL : TotB (ents l) B) (h1 : l.Postings.length ≤ 10000) {tr pa : Int} (ht1 : 1 ≤ tr) (ht2 : tr ≤ 1048576) (hp1 : 1 ≤ pa) (hp2 : pa ≤ 15) :
    ∃ r, commute_Redirect l t tr pa = some (r, 0) ∧ CollT (red tr pa (tot t) (tot (ents l))) r ∧ r.length ≤ 3 * t.length + 2 * l.Postings.length := by
  obtain ⟨w, hw, hwC, hwl⟩ := collect_ex (by omega) hv (hT.ok (by omega))
  have hel := ents_len l
  obtain ⟨p, hp, hpC, hpl⟩ := collect_ex (by omega) (ents_valid h) (hL.ok (by omega))
  obtain ⟨F, hF, hFz, hFl⟩ := frozen_ok hwC.T hpC.T tr pa (by omega) (by omega)
  obtain ⟨ks, k1, k2, k3⟩ := sorted_keys hFz.nodup (by omega)
  have hkl : ks.length = F.length := by rw [k2.length_eq]; simp [keys]
  obtain ⟨g1a, g1b⟩ := g1_inv w [] [] (by simpa using hwC.strict) (MapH.nil.congr fun g _ => (tot_nil g).symm)
  have hM0 : MapH (w.foldl g1 []) (redP tr pa (tot t) (tot (ents l)) []) := by
    refine g1a.congr fun g hg => ?_
    unfold redP
    rw [if_neg (by simp), if_neg (by simp), List.nil_append, coll_tot hwC g hg]
  obtain ⟨M', r1, r2, r3⟩ := redRange (tr := tr) (pa := pa) (T := tot t) (S := tot (ents l)) (by omega) hB hB2 hT hL ks [] (w.foldl g1 []) (by simpa using (k2.nodup_iff).2 hFz.nodup) (fun k hk => hFz.ofm k (k2.mem_iff.1 (by simpa using hk))) hM0
  have r2' : MapH M' (red tr pa (tot t) (tot (ents l))) := r2.congr fun g hg => by rw [List.nil_append, redP_all hFz k2 hg]
  have hbd : ∀ g, g.Amount = 0 → vAmt (red tr pa (tot t) (tot (ents l)) g) = true := fun g hg => by
    rw [vAmt_iff]
    have b1 := hT g hg
    have b2 := hT (wp pa g) hg
    have b3 := hL g hg
    have b4 := hL (wp pa g) hg
    unfold red st
    split
    · split <;> omega
    · split
      · split <;> omega
      · omega
  simp only [List.length_nil, Nat.zero_add] at g1b
  obtain ⟨r, c1, c2, c3⟩ := collected_ok r2' (by omega) hbd
  refine ⟨r, ?_, c2, by omega⟩
  unfold commute_Redirect commute_inOrder
  have e : (ks.map fun x => (x, mget F x 0)) = ks.map fun k => (k, st (tot (ents l)) (eh k)) := List.map_congr_left fun x hx => by rw [hFz.val x (k2.mem_iff.1 hx)]
  rw [← e] at r1
  rw [pvalidate_ok h, Option.bind_some, if_neg (by simp), collect_same, hw, Option.bind_some]
  dsimp only
  rw [if_neg (by simp), if_neg (by simp; omega), ptotals_all h, hp, Option.bind_some]
  dsimp only
  rw [if_neg (by simp), g1_loop w 0 (by omega), Option.bind_some, hF, Option.bind_some, Option.bind_some, inOrder_run k1 (by omega) r1, Option.bind_some, Sum.elim_inl, c1]
  rfl
end Go.Proofs.Ytdenliplkmjmjaa.Pl
