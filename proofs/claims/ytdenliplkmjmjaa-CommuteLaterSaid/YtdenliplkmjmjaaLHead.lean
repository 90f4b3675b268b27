/- Maps of headings, their keys in order (plain). -/
import Derived.Test.YtdenliplkmjmjaaLSemB
namespace Go.Proofs.Ytdenliplkmjmjaa.Pl
open Go

def eh (h : Gheading) : GEntry := ⟨h.kind, h.treaty, h.party, h.loss, 0⟩
def he (e : GEntry) : Gheading := ⟨e.Kind, e.Treaty, e.Party, e.Loss⟩
theorem eh_he (e : GEntry) : eh (he e) = hd e := rfl
theorem he_eh (h : Gheading) : he (eh h) = h := rfl
theorem eh_inj {a b : Gheading} (h : eh a = eh b) : a = b := by rw [← he_eh a, h, he_eh]
theorem eh_amount (h : Gheading) : (eh h).Amount = 0 := rfl
theorem eh_he0 {g : GEntry} (h : g.Amount = 0) : eh (he g) = g := by
  obtain ⟨a, b, c, d, x⟩ := g
  simp only at h
  subst h
  rfl
theorem hd0 {g : GEntry} (h : g.Amount = 0) : hd g = g := eh_he0 h
/-- a map of headings to the totals T -/
structure MapH (M : List (Gheading × Int)) (T : GEntry → Int) : Prop where
  nodup : (keys M).Nodup
  key : ∀ p ∈ M, p.2 = T (eh p.1)
  all : ∀ h : Gheading, T (eh h) ≠ 0 → h ∈ keys M
theorem MapH.nil : MapH [] (fun _ => 0) := ⟨by simp [keys], fun p hp => (by cases hp), fun h h2 => absurd rfl h2⟩
theorem MapH.get {M : List (Gheading × Int)} {T : GEntry → Int} (hM : MapH M T) (h : Gheading) : mget M h 0 = T (eh h) := by
  by_cases hk : h ∈ keys M
  · obtain ⟨p, hp, rfl⟩ := List.mem_map.1 hk
    rw [mget_mem hM.nodup (v := p.2) hp, hM.key p hp]
  · rw [mget_not hk]
    apply Classical.byContradiction
    intro hne
    exact hk (hM.all h fun hc => hne hc.symm)
theorem MapH.set {M : List (Gheading × Int)} {T T' : GEntry → Int} (hM : MapH M T) {h : Gheading} {v : Int} (hv : v = T' (eh h)) (hT : ∀ g, g ≠ h → T' (eh g) = T (eh g)) : MapH (mset M h v) T' := by
  refine ⟨nodup_mset hM.nodup, fun p hp => ?_, fun g hne => ?_⟩
  · rcases (mem_mset hM.nodup).1 hp with rfl | ⟨hp, hk⟩
    · exact hv
    · rw [hT _ hk]
      exact hM.key p hp
  · rw [keys_mset]
    by_cases hgh : g = h
    · exact .inl hgh
    · right
      refine hM.all g ?_
      rw [← hT g hgh]
      exact hne
theorem MapH.congr {M : List (Gheading × Int)} {T T' : GEntry → Int} (hM : MapH M T) (h : ∀ g : GEntry, g.Amount = 0 → T g = T' g) : MapH M T' :=
  ⟨hM.nodup, fun p hp => by rw [hM.key p hp, h _ (eh_amount _)], fun g hne => hM.all g (by rw [h _ (eh_amount _)]; exact hne)⟩
/-! ### the keys in order -/
theorem ordersH {c : Gheading → Gheading → Option Int} (hc : ∀ a b, c a b = some (cmpE (eh a) (eh b))) {xs : List Gheading} (hl : xs.length ≤ 100000000) : Orders c xs where
  len := by omega
  def_ := fun x _ y _ => ⟨_, hc x y⟩
  irr := fun x _ r hr => by
    rw [hc] at hr
    cases hr
    rw [cmpE_lt, kLt_irrefl]
    simp
  trans := fun x _ y _ z _ r s t h1 h2 h3 h4 h5 => by
    rw [hc] at h1 h2 h3
    cases h1; cases h2; cases h3
    rw [cmpE_lt] at *
    exact kLt_trans h4 h5
  ntrans := fun x _ y _ z _ r s t h1 h2 h3 h4 h5 => by
    rw [hc] at h1 h2 h3
    cases h1; cases h2; cases h3
    rw [cmpE_lt] at *
    have h4' : kLt (eh x) (eh y) = false := by simpa using h4
    have h5' : kLt (eh y) (eh z) = false := by simpa using h5
    have := kLe_trans h5' h4'
    simp [this]
theorem sortH {c : Gheading → Gheading → Option Int} (hc : ∀ a b, c a b = some (cmpE (eh a) (eh b))) {xs : List Gheading} (hn : xs.Nodup) (hl : xs.length ≤ 100000000) : ∃ r, sortV c xs = some r ∧ r.Perm xs ∧ StrictE (r.map eh) := by
  obtain ⟨r, hr, hp, hs⟩ := sortV_ok (ordersH hc hl)
  refine ⟨r, hr, hp, ?_⟩
  have hn2 : r.Pairwise fun a b => a ≠ b := (hp.nodup_iff).2 hn
  unfold StrictE
  rw [List.pairwise_map]
  refine (hs.and hn2).imp ?_
  rintro a b ⟨h1, h2⟩
  have h3 := h1 _ (hc b a)
  rw [cmpE_lt] at h3
  cases h4 : kLt (eh a) (eh b) with
  | true => rfl
  | false => exact absurd (eh_inj ((hd_eq_iff (eh a) (eh b)).2 ⟨h4, by simpa using h3⟩)) h2
theorem map_eh_inj : ∀ {a b : List Gheading}, a.map eh = b.map eh → a = b
  | [], [], _ => rfl
  | [], _ :: _, h => by simp at h
  | _ :: _, [], h => by simp at h
  | x :: a, y :: b, h => by
    simp only [List.map_cons, List.cons.injEq] at h
    rw [eh_inj h.1, map_eh_inj h.2]
theorem sortH_all {c : Gheading → Gheading → Option Int} (hc : ∀ a b, c a b = some (cmpE (eh a) (eh b))) {xs : List Gheading} (hn : xs.Nodup) (hl : xs.length ≤ 100000000) : ∃ r, (∀ ys : List Gheading, ys.Perm xs → sortV c ys = some r) ∧ r.Perm xs ∧ StrictE (r.map eh) := by
  obtain ⟨r, _, hp, hs⟩ := sortH hc hn hl
  refine ⟨r, fun ys hy => ?_, hp, hs⟩
  obtain ⟨r', h1, h2, h3⟩ := sortH hc ((hy.nodup_iff).2 hn) (by rw [hy.length_eq]; exact hl)
  rw [h1]
  congr 1
  refine map_eh_inj (strict_ext h3 hs fun e => ?_)
  rw [List.mem_map, List.mem_map]
  constructor
  · rintro ⟨x, hx, rfl⟩
    exact ⟨x, hp.mem_iff.2 (hy.mem_iff.1 (h2.mem_iff.1 hx)), rfl⟩
  · rintro ⟨x, hx, rfl⟩
    exact ⟨x, h2.mem_iff.2 (hy.mem_iff.2 (hp.mem_iff.1 hx)), rfl⟩
/-- the entries of a map, its keys in order -/
theorem coll_keys {M : List (Gheading × Int)} {T : GEntry → Int} (hM : MapH M T) {ks : List Gheading} (hp : ks.Perm (keys M)) (hs : StrictE (ks.map eh)) : CollT T (ks.filterMap fun k => mkE (eh k, T (eh k))) := by
  refine ⟨?_, fun e => ?_⟩
  · unfold StrictE at hs ⊢
    rw [List.pairwise_map] at hs
    refine List.pairwise_filterMap.2 (hs.imp ?_)
    intro a b hab x hx y hy
    unfold mkE at hx hy
    split at hx
    · cases hx
    · split at hy
      · cases hy
      · cases hx
        cases hy
        exact hab
  · rw [List.mem_filterMap]
    constructor
    · rintro ⟨k, _, hk⟩
      unfold mkE at hk
      split at hk
      · cases hk
      · rename_i h0
        cases hk
        exact ⟨h0, rfl⟩
    · rintro ⟨h0, hT⟩
      have hk : he e ∈ keys M := hM.all _ (by rw [eh_he, hT]; exact h0)
      refine ⟨he e, hp.mem_iff.2 hk, ?_⟩
      unfold mkE
      dsimp only
      rw [eh_he, hT, if_neg h0]
      rfl
/-- a loop over a list that folds -/
theorem foldLoop {α S : Type} {step : S × Int → Option ((S × Int) ⊕ S)} (l : List α) (f : S → α → S) (I : Nat → S → Prop) (s0 : S) (h0 : I 0 s0) (h : ∀ k (hk : k < l.length) s, I k s → step (s, (k : Int)) = some (.inl (f s l[k], ((k + 1 : Nat) : Int))) ∧ I (k + 1) (f s l[k])) (hend : ∀ s, step (s, (l.length : Int)) = some (.inr s)) :
    loopV step (s0, 0) = some (l.foldl f s0) ∧ I l.length (l.foldl f s0) := by
  have key : ∀ n k s, l.length - k = n → k ≤ l.length → I k s → loopV step (s, (k : Int)) = some ((l.drop k).foldl f s) ∧ I l.length ((l.drop k).foldl f s) := by
    intro n
    induction n with
    | zero =>
      intro k s hn hk hI
      have : k = l.length := by omega
      subst this
      rw [List.drop_of_length_le (Nat.le_refl _)]
      exact ⟨loopV_stop (hend s), hI⟩
    | succ n ih =>
      intro k s hn hk hI
      have hk' : k < l.length := by omega
      obtain ⟨h1, h2⟩ := h k hk' s hI
      obtain ⟨h3, h4⟩ := ih (k + 1) (f s l[k]) (by omega) (by omega) h2
      rw [List.drop_eq_getElem_cons hk', List.foldl_cons]
      exact ⟨(loopV_next h1).trans h3, h4⟩
  have := key l.length 0 s0 rfl (Nat.zero_le _) h0
  simpa using this
theorem tot_strict {p : List GEntry} (hs : StrictE p) {e : GEntry} (he : e ∈ p) : tot p (hd e) = e.Amount := by
  induction p with
  | nil => cases he
  | cons x p ih =>
    obtain ⟨h1, h2⟩ := List.pairwise_cons.1 hs
    rw [tot_cons]
    rcases List.mem_cons.1 he with rfl | he
    · rw [if_pos rfl, tot_none fun y hy hc => ?_]
      · omega
      · have := h1 y hy
        rw [((hd_eq_iff y e).1 hc).2] at this
        cases this
    · have hne : hd x ≠ hd e := fun hc => by
        have := h1 e he
        rw [((hd_eq_iff x e).1 hc).1] at this
        cases this
      rw [if_neg hne, ih h2 he]
      omega
end Go.Proofs.Ytdenliplkmjmjaa.Pl
