/- Maps as plain data: lists of keys and values; a loop over a map, in every order. Generic: names no function of the program. -/
import Derived.Test.YtfekcgnnhjmeiaaKPure
namespace Go.Proofs.Ytfekcgnnhjmeiaa

section
variable {K V : Type} [DecidableEq K]
def mget : List (K × V) → K → V → V
  | [], _, d => d
  | p :: m, x, d => if p.1 = x then p.2 else mget m x d
def mset : List (K × V) → K → V → List (K × V)
  | [], x, v => [(x, v)]
  | p :: m, x, v => if p.1 = x then (p.1, v) :: m else p :: mset m x v
def mhas : List (K × V) → K → Bool
  | [], _ => false
  | p :: m, x => if p.1 = x then true else mhas m x
/-- the place of a key -/
def mfi : List (K × V) → K → Option Nat
  | [], _ => none
  | p :: m, x => if p.1 = x then some 0 else (mfi m x).map (· + 1)

theorem mset_mset (m : List (K × V)) (x : K) (u v : V) : mset (mset m x u) x v = mset m x v := by
  induction m with
  | nil => simp [mset]
  | cons p m ih =>
    by_cases h : p.1 = x
    · simp [mset, h]
    · simp [mset, h, ih]
theorem mget_mset_same (m : List (K × V)) (x y : K) (d : V) : mget (mset m x (mget m x d)) y d = mget m y d := by
  induction m with
  | nil => simp [mset, mget]
  | cons p m ih =>
    simp only [mset, mget]
    by_cases h : p.1 = x
    · simp only [h, if_true]
      simp only [mget]
    · simp only [h, if_false]
      simp only [mget, ih]
theorem mget_mset (m : List (K × V)) (x y : K) (v d : V) : mget (mset m x v) y d = if x = y then v else mget m y d := by
  induction m with
  | nil => simp [mset, mget]
  | cons p m ih =>
    simp only [mset, mget]
    by_cases h : p.1 = x
    · subst h
      simp only [if_true, mget]
      split <;> simp_all
    · simp only [h, if_false, mget, ih]
      by_cases h2 : x = y
      · subst h2; simp [h]
      · simp [h2]
theorem mfi_lt {m : List (K × V)} {x : K} {i : Nat} (h : mfi m x = some i) : i < m.length := by
  induction m generalizing i with
  | nil => cases h
  | cons p m ih =>
    unfold mfi at h
    split at h
    · simp at h; subst h; simp
    · obtain ⟨j, hj, rfl⟩ := Option.map_eq_some_iff.1 h
      have := ih hj
      simp; omega
theorem mfi_at {m : List (K × V)} {x : K} {i : Nat} (h : mfi m x = some i) : ∃ v, m[i]? = some (x, v) ∧ ∀ d, mget m x d = v := by
  induction m generalizing i with
  | nil => cases h
  | cons p m ih =>
    unfold mfi at h
    split at h
    · rename_i hp
      simp at h; subst h
      exact ⟨p.2, by simp [← hp], fun d => by simp [mget, hp]⟩
    · rename_i hp
      obtain ⟨j, hj, rfl⟩ := Option.map_eq_some_iff.1 h
      obtain ⟨v, h1, h2⟩ := ih hj
      exact ⟨v, by simpa using h1, fun d => by simp [mget, hp, h2]⟩
theorem mfi_none {m : List (K × V)} {x : K} (h : mfi m x = none) : (∀ d, mget m x d = d) ∧ ∀ v, mset m x v = m ++ [(x, v)] := by
  induction m with
  | nil => exact ⟨fun d => rfl, fun v => rfl⟩
  | cons p m ih =>
    unfold mfi at h
    split at h
    · cases h
    · rename_i hp
      have := ih (by simpa using h)
      exact ⟨fun d => by simp [mget, hp, this.1], fun v => by simp [mset, hp, this.2]⟩
theorem mfi_set {m : List (K × V)} {x : K} {i : Nat} (h : mfi m x = some i) (v : V) : mset m x v = m.set i (x, v) := by
  induction m generalizing i with
  | nil => cases h
  | cons p m ih =>
    unfold mfi at h
    split at h
    · rename_i hp
      simp at h; subst h
      simp [mset, hp]
    · rename_i hp
      obtain ⟨j, hj, rfl⟩ := Option.map_eq_some_iff.1 h
      simp [mset, hp, ih hj]
theorem mfi_mset (m : List (K × V)) (x : K) (v : V) : ∃ i, mfi (mset m x v) x = some i := by
  induction m with
  | nil => exact ⟨0, by simp [mset, mfi]⟩
  | cons p m ih =>
    unfold mset
    split
    · rename_i hp; exact ⟨0, by simp [mfi, hp]⟩
    · rename_i hp
      obtain ⟨i, hi⟩ := ih
      exact ⟨i + 1, by simp [mfi, hp, hi]⟩
end

/-- a loop over entries, in the order in which they come -/
def rangeV {E S O : Type} (body : E → S → Option (S ⊕ O)) : List E → S → Option (S ⊕ O)
  | [], s => some (.inl s)
  | e :: l, s => (body e s).bind fun q => match q with
    | .inl s' => rangeV body l s'
    | .inr o => some (.inr o)
/-- whatever the order: what follows computes r -/
def RAll {E S O R : Type} (body : E → S → Option (S ⊕ O)) (k : S ⊕ O → Option R) (xs : List E) (s : S) (r : R) : Prop := ∀ ys, ys.Perm xs → (rangeV body ys s).bind k = some r
open Classical in
noncomputable def rangeP {E S O R : Type} (body : E → S → Option (S ⊕ O)) (xs : List E) (s : S) (k : S ⊕ O → Option R) : Option R := if h : ∃ r, RAll body k xs s r then some h.choose else none
theorem rangeP_some {E S O R : Type} {body : E → S → Option (S ⊕ O)} {xs : List E} {s : S} {k : S ⊕ O → Option R} {r : R} : rangeP body xs s k = some r ↔ RAll body k xs s r := by
  unfold rangeP
  split
  · rename_i h
    have h1 := h.choose_spec
    constructor
    · intro e
      simp only [Option.some.injEq] at e
      exact e ▸ h1
    · intro h2
      have a := h1 xs (List.Perm.refl _)
      have b := h2 xs (List.Perm.refl _)
      rw [a] at b
      exact b
  · rename_i h
    constructor
    · intro e; cases e
    · intro e; exact absurd ⟨r, e⟩ h
/-- what is left behind a round -/
def RNext {E S O R : Type} (body : E → S → Option (S ⊕ O)) (k : S ⊕ O → Option R) (xs : List E) (r : R) : S ⊕ O → Prop
  | .inl s' => RAll body k xs s' r
  | .inr o => k (.inr o) = some r
theorem RAll.nil {E S O R : Type} {body : E → S → Option (S ⊕ O)} {k : S ⊕ O → Option R} {s : S} {r : R} (h : RAll body k [] s r) : k (.inl s) = some r := h [] (List.Perm.refl _)
theorem RAll.cons {E S O R : Type} {body : E → S → Option (S ⊕ O)} {k : S ⊕ O → Option R} {xs xs' : List E} {s : S} {r : R} {e : E} (h : RAll body k xs s r) (hp : xs.Perm (e :: xs')) : ∃ q, body e s = some q ∧ RNext body k xs' r q := by
  have h0 := h (e :: xs') hp.symm
  unfold rangeV at h0
  cases hb : body e s with
  | none => rw [hb] at h0; cases h0
  | some q =>
    refine ⟨q, rfl, ?_⟩
    cases q with
    | inl s' =>
      intro ys hy
      have h1 := h (e :: ys) ((List.Perm.cons e hy).trans hp.symm)
      unfold rangeV at h1
      rw [hb] at h1
      exact h1
    | inr o =>
      rw [hb] at h0
      exact h0
theorem rnextL {E S O R : Type} {body : E → S → Option (S ⊕ O)} {k : S ⊕ O → Option R} {xs : List E} {r : R} {s : S} (h : RNext body k xs r (.inl s)) : RAll body k xs s r := h
theorem rnextR {E S O R : Type} {body : E → S → Option (S ⊕ O)} {k : S ⊕ O → Option R} {xs : List E} {r : R} {o : O} (h : RNext body k xs r (.inr o)) : k (.inr o) = some r := h
open Classical in
/-- whatever the order of the elements -/
noncomputable def permP {α R : Type} (xs : List α) (k : List α → Option R) : Option R := if h : ∃ r, ∀ l : List α, l.Perm xs → k l = some r then some h.choose else none
theorem permP_some {α R : Type} {xs : List α} {k : List α → Option R} {r : R} : permP xs k = some r ↔ ∀ l : List α, l.Perm xs → k l = some r := by
  unfold permP
  split
  · rename_i h
    have h1 := h.choose_spec
    constructor
    · intro e
      simp only [Option.some.injEq] at e
      exact e ▸ h1
    · intro h2
      have a := h1 xs (List.Perm.refl _)
      have b := h2 xs (List.Perm.refl _)
      rw [a] at b
      exact b
  · rename_i h
    constructor
    · intro e; cases e
    · intro e; exact absurd ⟨r, e⟩ h
/-- the keys that are still to come -/
def eraseY {K : Type} [DecidableEq K] (x : K) (s : List K) : Option (List K ⊕ Empty) := if x ∈ s then some (.inl (s.erase x)) else none
theorem eraseY_some {K : Type} [DecidableEq K] {x : K} {s : List K} {r : List K ⊕ Empty} (h : eraseY x s = some r) : x ∈ s ∧ r = .inl (s.erase x) := by
  unfold eraseY at h
  split at h
  · rename_i hx
    simp only [Option.some.injEq] at h
    exact ⟨hx, h.symm⟩
  · cases h
theorem rangeV_keys {K V O : Type} [DecidableEq K] (body : K × V → List K → Option (List K ⊕ O)) (hb : ∀ p s, p.1 ∈ s → body p s = some (.inl (s.erase p.1))) : ∀ (ys : List (K × V)) (s : List K), (ys.map Prod.fst).Perm s → rangeV body ys s = some (.inl [])
  | [], s, h => by
    have : s = [] := List.perm_nil.1 (by simpa using h.symm)
    subst this
    rfl
  | p :: ys, s, h => by
    have hp : p.1 ∈ s := h.subset (by simp)
    unfold rangeV
    rw [hb p s hp]
    refine rangeV_keys body hb ys _ ?_
    have h2 : (p.1 :: ys.map Prod.fst).Perm s := by simpa using h
    exact (List.cons_perm_iff_perm_erase.1 h2).2
theorem erase_perm {K : Type} [DecidableEq K] {l s keys : List K} {x : K} (h : (l ++ s).Perm keys) (hx : x ∈ s) : ((l ++ [x]) ++ s.erase x).Perm keys := by
  refine List.Perm.trans ?_ h
  rw [List.append_assoc]
  exact List.Perm.append_left l (List.perm_cons_erase hx).symm
theorem room_perm {K V : Type} [DecidableEq K] {l s : List K} {m : List (K × V)} {x : K} (hr : room m.length = true) (h : (l ++ s).Perm (m.map Prod.fst)) (hx : x ∈ s) : room (l ++ [x]).length = true := by
  have h1 := h.length_eq
  have h2 := List.length_pos_of_mem hx
  simp only [room, decide_eq_true_eq, List.length_append, List.length_map, List.length_cons, List.length_nil] at hr h1 ⊢
  omega
open Classical in
/-- a function whose result hangs on the order of a walk: what holds of each result -/
noncomputable def gd (p : Prop) : Option Unit := if p then some () else none
theorem gd_of {p : Prop} {u : Unit} (h : gd p = some u) : p := by
  unfold gd at h
  split at h
  · assumption
  · cases h
theorem gd_true {p : Prop} (h : p) : gd p = some () := by unfold gd; rw [if_pos h]
open Classical in
/-- go on with whatever result -/
noncomputable def relP {R X : Type} (F : (R → Prop) → Option Unit) (k : R → Option X) : Option X := if h : ∃ x, F (fun r => k r = some x) = some () then some h.choose else none
theorem relP_some {R X : Type} {F : (R → Prop) → Option Unit} {k : R → Option X} {x : X} (h : relP F k = some x) : F (fun r => k r = some x) = some () := by
  unfold relP at h
  split at h
  · rename_i hx
    simp only [Option.some.injEq] at h
    exact h ▸ hx.choose_spec
  · cases h
theorem relP_of {R X : Type} {F : (R → Prop) → Option Unit} {k : R → Option X} {x : X} (hF : ∀ G G', F G = some () → F G' = some () → ∃ r, G r ∧ G' r) (h : F (fun r => k r = some x) = some ()) : relP F k = some x := by
  unfold relP
  have hx : ∃ x, F (fun r => k r = some x) = some () := ⟨x, h⟩
  rw [dif_pos hx]
  obtain ⟨r, h1, h2⟩ := hF _ _ hx.choose_spec h
  rw [h1] at h2
  exact h2
end Go.Proofs.Ytfekcgnnhjmeiaa
