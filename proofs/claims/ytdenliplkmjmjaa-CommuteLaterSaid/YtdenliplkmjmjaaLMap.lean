/- Maps of headings to sums, and what is collected out of them, in whatever order (plain). -/
import Derived.Test.YtdenliplkmjmjaaLOrd
namespace Go.Proofs.Ytdenliplkmjmjaa.Pl
open Go

section
variable {K V : Type} [DecidableEq K]
def keys (m : List (K × V)) : List K := m.map Prod.fst
theorem mem_mset {m : List (K × V)} (hn : (keys m).Nodup) {k : K} {v : V} {p : K × V} : p ∈ mset m k v ↔ p = (k, v) ∨ (p ∈ m ∧ p.1 ≠ k) := by
  induction m with
  | nil => simp [mset]
  | cons q m ih =>
    simp only [keys, List.map_cons, List.nodup_cons] at hn
    unfold mset
    by_cases hq : q.1 = k
    · rw [if_pos hq]
      simp only [List.mem_cons]
      constructor
      · rintro (rfl | h)
        · left; rw [← hq]
        · right
          refine ⟨.inr h, fun hc => hn.1 ?_⟩
          rw [hq, ← hc]
          exact List.mem_map_of_mem h
      · rintro (rfl | ⟨rfl | h, h2⟩)
        · left; rw [hq]
        · exact absurd hq h2
        · exact .inr h
    · rw [if_neg hq]
      simp only [List.mem_cons, ih hn.2]
      constructor
      · rintro (rfl | rfl | ⟨h, h2⟩)
        · exact .inr ⟨.inl rfl, hq⟩
        · exact .inl rfl
        · exact .inr ⟨.inr h, h2⟩
      · rintro (rfl | ⟨rfl | h, h2⟩)
        · exact .inr (.inl rfl)
        · exact .inl rfl
        · exact .inr (.inr ⟨h, h2⟩)
theorem keys_mset {m : List (K × V)} {k : K} {v : V} {x : K} : x ∈ keys (mset m k v) ↔ x = k ∨ x ∈ keys m := by
  induction m with
  | nil => simp [mset, keys]
  | cons q m ih =>
    unfold mset
    by_cases hq : q.1 = k
    · rw [if_pos hq]
      simp only [keys, List.map_cons, List.mem_cons]
      constructor
      · rintro (rfl | h)
        · exact .inl hq
        · exact .inr (.inr h)
      · rintro (rfl | rfl | h)
        · exact .inl hq.symm
        · exact .inl rfl
        · exact .inr h
    · rw [if_neg hq]
      simp only [keys, List.map_cons, List.mem_cons] at ih ⊢
      rw [ih]
      constructor
      · rintro (h | h | h)
        · exact .inr (.inl h)
        · exact .inl h
        · exact .inr (.inr h)
      · rintro (h | h | h)
        · exact .inr (.inl h)
        · exact .inl h
        · exact .inr (.inr h)
theorem nodup_mset {m : List (K × V)} (hn : (keys m).Nodup) {k : K} {v : V} : (keys (mset m k v)).Nodup := by
  induction m with
  | nil => simp [mset, keys]
  | cons q m ih =>
    have hn' := hn
    simp only [keys, List.map_cons, List.nodup_cons] at hn'
    unfold mset
    by_cases hq : q.1 = k
    · rw [if_pos hq]
      exact hn
    · rw [if_neg hq]
      simp only [keys, List.map_cons, List.nodup_cons]
      refine ⟨fun h => ?_, ih hn'.2⟩
      rcases keys_mset.1 h with h | h
      · exact hq h
      · exact hn'.1 h
theorem mget_mem {m : List (K × V)} (hn : (keys m).Nodup) {k : K} {v d : V} (h : (k, v) ∈ m) : mget m k d = v := by
  induction m with
  | nil => cases h
  | cons q m ih =>
    simp only [keys, List.map_cons, List.nodup_cons] at hn
    unfold mget
    rcases List.mem_cons.1 h with rfl | h
    · rw [if_pos rfl]
    · rw [if_neg fun hc => hn.1 (by rw [hc]; exact List.mem_map_of_mem (f := Prod.fst) h)]
      exact ih hn.2 h
theorem mget_not {m : List (K × V)} {k : K} {d : V} (h : k ∉ keys m) : mget m k d = d := by
  induction m with
  | nil => rfl
  | cons q m ih =>
    simp only [keys, List.map_cons, List.mem_cons, not_or] at h
    unfold mget
    rw [if_neg fun hc => h.1 hc.symm]
    exact ih h.2
theorem length_mset (m : List (K × V)) (k : K) (v : V) : (mset m k v).length ≤ m.length + 1 := by
  induction m with
  | nil => simp [mset]
  | cons q m ih =>
    unfold mset
    split
    · simp
    · simp only [List.length_cons]; omega
end
theorem keys_perm {K V : Type} {a b : List (K × V)} (h : a.Perm b) : (keys a).Perm (keys b) := h.map _

/-- a map of headings to the totals T -/
structure MapOf (M : List (GEntry × Int)) (T : GEntry → Int) : Prop where
  nodup : (keys M).Nodup
  key : ∀ p ∈ M, p.1.Amount = 0 ∧ p.2 = T p.1
  all : ∀ h : GEntry, h.Amount = 0 → T h ≠ 0 → h ∈ keys M
theorem MapOf.nil : MapOf [] (fun _ => 0) := ⟨by simp [keys], fun p hp => (by cases hp), fun h _ h2 => absurd rfl h2⟩
theorem MapOf.get {M : List (GEntry × Int)} {T : GEntry → Int} (hM : MapOf M T) {h : GEntry} (h0 : h.Amount = 0) : mget M h 0 = T h := by
  by_cases hk : h ∈ keys M
  · obtain ⟨p, hp, rfl⟩ := List.mem_map.1 hk
    rw [mget_mem hM.nodup (v := p.2) hp, (hM.key p hp).2]
  · rw [mget_not hk]
    apply Classical.byContradiction
    intro hne
    exact hk (hM.all h h0 fun hc => hne hc.symm)
theorem MapOf.set {M : List (GEntry × Int)} {T T' : GEntry → Int} (hM : MapOf M T) {h : GEntry} (h0 : h.Amount = 0) {v : Int} (hv : v = T' h) (hT : ∀ g, g ≠ h → T' g = T g) : MapOf (mset M h v) T' := by
  refine ⟨nodup_mset hM.nodup, fun p hp => ?_, fun g hg hne => ?_⟩
  · rcases (mem_mset hM.nodup).1 hp with rfl | ⟨hp, hk⟩
    · exact ⟨h0, hv⟩
    · rw [hT _ hk]
      exact hM.key p hp
  · rw [keys_mset]
    by_cases hgh : g = h
    · exact .inl hgh
    · right
      refine hM.all g hg ?_
      rw [← hT g hgh]
      exact hne
theorem MapOf.congr {M : List (GEntry × Int)} {T T' : GEntry → Int} (hM : MapOf M T) (h : ∀ g, g.Amount = 0 → T g = T' g) : MapOf M T' :=
  ⟨hM.nodup, fun p hp => ⟨(hM.key p hp).1, by rw [(hM.key p hp).2, h _ (hM.key p hp).1]⟩, fun g hg hne => hM.all g hg (by rw [h g hg]; exact hne)⟩
def mkE (p : GEntry × Int) : Option GEntry := if p.2 = 0 then none else some (withA p.1 p.2)
/-- a round of the walk through a map: an invalid sum ends it, 0 is left out -/
def RoundOk (b : GEntry × Int → List GEntry → Option (List GEntry ⊕ (List GEntry × Int))) : Prop :=
  ∀ p s, s.length ≤ 1000000 → b p s = if vAmt p.2 = true then (some (.inl (s ++ (mkE p).toList))) else some (.inr ([], 3))
theorem range_ok {b : GEntry × Int → List GEntry → Option (List GEntry ⊕ (List GEntry × Int))} (hb : RoundOk b) : ∀ (ys : List (GEntry × Int)) (s : List GEntry), s.length + ys.length ≤ 1000000 → (∀ p ∈ ys, vAmt p.2 = true) → rangeV b ys s = some (.inl (s ++ ys.filterMap mkE))
  | [], s, _, _ => by simp [rangeV]
  | p :: ys, s, hl, hv => by
    simp only [List.length_cons] at hl
    have hlen : (mkE p).toList.length ≤ 1 := by unfold mkE; split <;> simp
    unfold rangeV
    rw [hb p s (by omega), if_pos (hv p (by simp)), Option.bind_some]
    dsimp only
    rw [range_ok hb ys _ (by rw [List.length_append]; omega) fun q hq => hv q (by simp [hq])]
    congr 2
    rw [List.append_assoc]
    congr 1
    cases h : mkE p <;> simp [h]
theorem range_bad {b : GEntry × Int → List GEntry → Option (List GEntry ⊕ (List GEntry × Int))} (hb : RoundOk b) : ∀ (ys : List (GEntry × Int)) (s : List GEntry), s.length + ys.length ≤ 1000000 → (∃ p ∈ ys, vAmt p.2 = false) → rangeV b ys s = some (.inr ([], 3))
  | [], s, _, h => by obtain ⟨p, hp, _⟩ := h; cases hp
  | p :: ys, s, hl, h => by
    simp only [List.length_cons] at hl
    have hlen : (mkE p).toList.length ≤ 1 := by unfold mkE; split <;> simp
    unfold rangeV
    rw [hb p s (by omega)]
    cases hv : vAmt p.2 with
    | false => simp
    | true =>
      simp only [if_true, Option.bind_some]
      obtain ⟨q, hq, hqv⟩ := h
      rcases List.mem_cons.1 hq with rfl | hq
      · rw [hv] at hqv; cases hqv
      · exact range_bad hb ys _ (by rw [List.length_append]; omega) ⟨q, hq, hqv⟩
/-- r is the collected list of the totals T -/
structure CollT (T : GEntry → Int) (r : List GEntry) : Prop where
  strict : StrictE r
  mem : ∀ e, e ∈ r ↔ (e.Amount ≠ 0 ∧ T (hd e) = e.Amount)
theorem CollT.uniq {T : GEntry → Int} {a b : List GEntry} (ha : CollT T a) (hb : CollT T b) : a = b := strict_ext ha.strict hb.strict fun e => by rw [ha.mem, hb.mem]
theorem Coll.T {l r : List GEntry} (h : Coll l r) : CollT (tot l) r := ⟨h.strict, h.mem⟩
theorem CollT.congr {T T' : GEntry → Int} {r : List GEntry} (h : CollT T r) (hT : ∀ g, g.Amount = 0 → T g = T' g) : CollT T' r := ⟨h.strict, fun e => by rw [h.mem, hT _ (hd_amount e)]⟩
theorem sort_collT {c : GEntry → GEntry → Option Int} (hc : ∀ a b, c a b = some (cmpE a b)) {M ys : List (GEntry × Int)} {T : GEntry → Int} (hM : MapOf M T) (hp : ys.Perm M) (hl : M.length ≤ 1000000) : ∃ r, sortV c (ys.filterMap mkE) = some r ∧ CollT T r := by
  have hlen : (ys.filterMap mkE).length ≤ ys.length := List.length_filterMap_le _ _
  have hyl := hp.length_eq
  obtain ⟨r, hr, hperm, hsort⟩ := sortV_ok (orders_of hc (xs := ys.filterMap mkE) (by omega))
  refine ⟨r, hr, ?_⟩
  have hmem : ∀ e, e ∈ r ↔ (e.Amount ≠ 0 ∧ T (hd e) = e.Amount) := by
    intro e
    rw [hperm.mem_iff, List.mem_filterMap]
    constructor
    · rintro ⟨p, hpm, hpe⟩
      have hpM := hp.mem_iff.1 hpm
      unfold mkE at hpe
      split at hpe
      · cases hpe
      · rename_i h0
        cases hpe
        obtain ⟨k1, k2⟩ := hM.key p hpM
        refine ⟨h0, ?_⟩
        have : hd (withA p.1 p.2) = p.1 := by
          obtain ⟨⟨a, b, c, d, x⟩, v⟩ := p
          simp only at k1
          subst k1
          rfl
        rw [this, ← k2]
        rfl
    · rintro ⟨h0, hT⟩
      have hk := hM.all (hd e) (hd_amount e) (by rw [hT]; exact h0)
      obtain ⟨p, hpM, hpk⟩ := List.mem_map.1 hk
      have h2 := (hM.key p hpM).2
      rw [hpk, hT] at h2
      refine ⟨p, hp.mem_iff.2 hpM, ?_⟩
      unfold mkE
      rw [if_neg (by rw [h2]; exact h0), hpk, h2]
      rfl
  refine ⟨?_, hmem⟩
  -- keys are apart
  have hap : (ys.filterMap mkE).Pairwise fun a b => hd a ≠ hd b := by
    have h1 : ys.Pairwise fun p q => p.1 ≠ q.1 := by
      have := ((keys_perm hp).nodup_iff).2 hM.nodup
      unfold keys at this
      exact List.pairwise_map.1 this
    have hz : ∀ p ∈ ys, p.1.Amount = 0 := fun p hpm => (hM.key p (hp.mem_iff.1 hpm)).1
    clear hmem hsort hperm hr hyl hlen hp
    induction ys with
    | nil => exact List.Pairwise.nil
    | cons p ys ih =>
      have h1' := List.pairwise_cons.1 h1
      have ih' := ih h1'.2 (fun q hq => hz q (by simp [hq]))
      cases hpe : mkE p with
      | none => rw [List.filterMap_cons_none hpe]; exact ih'
      | some e =>
        rw [List.filterMap_cons_some hpe]
        refine List.pairwise_cons.2 ⟨fun e' he' => ?_, ih'⟩
        obtain ⟨q, hq, hqe⟩ := List.mem_filterMap.1 he'
        have hh : ∀ {q : GEntry × Int} {e : GEntry}, q.1.Amount = 0 → mkE q = some e → hd e = q.1 := by
          intro q e hq0 hqe
          unfold mkE at hqe
          split at hqe
          · cases hqe
          · cases hqe
            obtain ⟨⟨a, b, c, d, x⟩, v⟩ := q
            simp only at hq0
            subst hq0
            rfl
        rw [hh (hz p (by simp)) hpe, hh (hz q (by simp [hq])) hqe]
        exact h1'.1 q hq
  have hap2 : r.Pairwise fun a b => hd a ≠ hd b := (hperm.pairwise_iff (fun {x y} h => fun hc => h hc.symm)).2 hap
  have hboth := hsort.and hap2
  refine hboth.imp ?_
  rintro a b ⟨h1, h2⟩
  have h3 := h1 _ (hc b a)
  rw [cmpE_lt] at h3
  cases h4 : kLt a b with
  | true => rfl
  | false => exact absurd ((hd_eq_iff a b).2 ⟨h4, by simpa using h3⟩) h2
/-- the walk through the map, and the sort -/
theorem collect_map {b : GEntry × Int → List GEntry → Option (List GEntry ⊕ (List GEntry × Int))} (hb : RoundOk b) {c : GEntry → GEntry → Option Int} (hc : ∀ x y, c x y = some (cmpE x y)) {M : List (GEntry × Int)} {T : GEntry → Int} (hM : MapOf M T) (hl : M.length ≤ 1000000)
    {k : List GEntry ⊕ (List GEntry × Int) → Option (List GEntry × Int)} (hk1 : ∀ s, k (.inl s) = (sortV c s).bind fun r => some (r, 0)) (hk2 : ∀ t, k (.inr t) = some t) {s0 : List GEntry} (hs0 : s0 = []) :
    ((∀ p ∈ M, vAmt p.2 = true) → ∃ r, rangeP b M s0 k = some (r, 0) ∧ CollT T r) ∧ ((∃ p ∈ M, vAmt p.2 = false) → rangeP b M s0 k = some ([], 3)) := by
  subst hs0
  constructor
  · intro hv
    obtain ⟨r, _, hr⟩ := sort_collT hc hM (List.Perm.refl M) hl
    refine ⟨r, rangeP_some.2 fun ys hy => ?_, hr⟩
    rw [range_ok hb ys [] (by have := hy.length_eq; simp; omega) fun p hp => hv p (hy.mem_iff.1 hp), Option.bind_some, hk1]
    obtain ⟨r', h1, h2⟩ := sort_collT hc hM hy hl
    rw [List.nil_append, h1, Option.bind_some, h2.uniq hr]
  · rintro ⟨p, hp, hv⟩
    refine rangeP_some.2 fun ys hy => ?_
    rw [range_bad hb ys [] (by have := hy.length_eq; simp; omega) ⟨p, hy.mem_iff.2 hp, hv⟩, Option.bind_some, hk2]
end Go.Proofs.Ytdenliplkmjmjaa.Pl
