/- What slices.SortFunc computes, as a plain function: the library's own twin of Go's pdqsort, at elements that the comparison orders. Generic: names no function of the program. -/
import Derived.Sort.AssemblyPlain
import Derived.Shelf.SlSortCmp.Insertion
import Derived.Test.YtdenliplkmjmjaaKPure
namespace Go.Proofs.Ytdenliplkmjmjaa
open Go.Sort

/-- the comparison orders these elements -/
structure Orders {α : Type} (c : α → α → Option Int) (xs : List α) : Prop where
  len : xs.length < 4611686018427387904
  def_ : ∀ x ∈ xs, ∀ y ∈ xs, ∃ r, c x y = some r
  irr : ∀ x ∈ xs, ∀ r, c x x = some r → ¬ r < 0
  trans : ∀ x ∈ xs, ∀ y ∈ xs, ∀ z ∈ xs, ∀ r s t, c x y = some r → c y z = some s → c x z = some t → r < 0 → s < 0 → t < 0
  ntrans : ∀ x ∈ xs, ∀ y ∈ xs, ∀ z ∈ xs, ∀ r s t, c x y = some r → c y z = some s → c x z = some t → ¬ r < 0 → ¬ s < 0 → ¬ t < 0

/-- the comparison at members -/
def cfOf {α : Type} (c : α → α → Option Int) (xs : List α) (x y : {x // x ∈ xs}) : Int := (c x.1 y.1).getD 0
theorem cfOf_eq {α : Type} {c : α → α → Option Int} {xs : List α} (h : Orders c xs) (x y : {x // x ∈ xs}) : c x.1 y.1 = some (cfOf c xs x y) := by
  obtain ⟨r, hr⟩ := h.def_ x.1 x.2 y.1 y.2
  simp [cfOf, hr]
theorem cfOf_swo {α : Type} {c : α → α → Option Int} {xs : List α} (h : Orders c xs) : SWO (ltOf (cfOf c xs)) where
  irrefl x := by
    have := h.irr x.1 x.2 _ (cfOf_eq h x x)
    simpa [ltOf] using this
  trans x y z h1 h2 := by
    have := h.trans x.1 x.2 y.1 y.2 z.1 z.2 _ _ _ (cfOf_eq h x y) (cfOf_eq h y z) (cfOf_eq h x z)
    simp only [ltOf, decide_eq_true_eq] at h1 h2 ⊢
    exact this h1 h2
  ntrans x y z h1 h2 := by
    have := h.ntrans x.1 x.2 y.1 y.2 z.1 z.2 _ _ _ (cfOf_eq h x y) (cfOf_eq h y z) (cfOf_eq h x z)
    simp only [ltOf, decide_eq_false_iff_not] at h1 h2 ⊢
    exact this h1 h2

theorem ne_inh {α : Type} {xs : List α} (h : xs ≠ []) : Nonempty {x // x ∈ xs} := by
  cases xs with
  | nil => exact (h rfl).elim
  | cons a l => exact ⟨⟨a, by simp⟩⟩
/-- the sorted members -/
noncomputable def sortedA {α : Type} (c : α → α → Option Int) (xs : List α) (h : xs ≠ []) : Array {x // x ∈ xs} :=
  letI : Inhabited {x // x ∈ xs} := ⟨Classical.choice (ne_inh h)⟩
  pdq (ltOf (cfOf c xs)) xs.attach.toArray 0 xs.attach.toArray.size (Lib.bitLen xs.attach.toArray.size) true true
open Classical in
noncomputable def sortV {α : Type} (c : α → α → Option Int) (xs : List α) : Option (List α) :=
  if h : xs = [] then some [] else if Orders c xs then some ((sortedA c xs h).toList.map Subtype.val) else none

theorem sortV_nil {α : Type} (c : α → α → Option Int) : sortV c [] = some [] := by simp [sortV]
theorem sortV_inv {α : Type} {c : α → α → Option Int} {xs ys : List α} (h : sortV c xs = some ys) (hx : xs ≠ []) : Orders c xs ∧ ys = (sortedA c xs hx).toList.map Subtype.val := by
  unfold sortV at h
  rw [dif_neg hx] at h
  split at h
  · rename_i ho
    exact ⟨ho, by simpa using h.symm⟩
  · cases h
theorem sortedA_spec {α : Type} {c : α → α → Option Int} {xs : List α} (hx : xs ≠ []) (ho : Orders c xs) :
    (sortedA c xs hx).size = xs.length ∧ ((sortedA c xs hx).toList.map Subtype.val).Perm xs ∧ ((sortedA c xs hx).toList.map Subtype.val).Pairwise fun a b => ∀ r, c b a = some r → ¬ r < 0 := by
  letI : Inhabited {x // x ∈ xs} := ⟨Classical.choice (ne_inh hx)⟩
  have h := pdq_sorts (ltOf (cfOf c xs)) (cfOf_swo ho) xs.attach.toArray 0 xs.attach.toArray.size (Lib.bitLen xs.attach.toArray.size) true true (Nat.zero_le _) (Nat.le_refl _) (Or.inl rfl)
  have he : sortedA c xs hx = pdq (ltOf (cfOf c xs)) xs.attach.toArray 0 xs.attach.toArray.size (Lib.bitLen xs.attach.toArray.size) true true := rfl
  rw [← he] at h
  generalize sortedA c xs hx = d at h ⊢
  obtain ⟨⟨h1, _, h2⟩, h3⟩ := h
  have hs : d.size = xs.length := by simpa using h1
  refine ⟨hs, ?_, ?_⟩
  · have h4 : d.toList.Perm xs.attach := by
      have e1 : d.extract 0 xs.attach.toArray.size = d := by
        rw [← h1]
        simp
      have e2 : xs.attach.toArray.extract 0 xs.attach.toArray.size = xs.attach.toArray := Array.extract_size
      rw [e1, e2] at h2
      simpa using h2
    have h5 := h4.map Subtype.val
    rwa [List.attach_map_subtype_val] at h5
  · rw [List.pairwise_map, List.pairwise_iff_getElem]
    intro i j hi hj hij r hr
    have h4 := h3 i j (Nat.zero_le _) hij (by simpa [hs] using hj)
    simp only [ltOf, decide_eq_false_iff_not] at h4
    have hi' : i < d.size := by simpa using hi
    have hj' : j < d.size := by simpa using hj
    rw [getElem!_pos d i hi', getElem!_pos d j hj'] at h4
    have h5 := cfOf_eq ho d[j] d[i]
    simp only [Array.getElem_toList] at hr
    rw [hr] at h5
    cases h5
    exact h4
theorem sortV_spec {α : Type} {c : α → α → Option Int} {xs ys : List α} (h : sortV c xs = some ys) : ys.Perm xs ∧ ys.Pairwise fun a b => ∀ r, c b a = some r → ¬ r < 0 := by
  by_cases hx : xs = []
  · subst hx
    rw [sortV_nil] at h
    cases h
    simp
  · obtain ⟨ho, rfl⟩ := sortV_inv h hx
    exact (sortedA_spec hx ho).2
theorem sortV_ok {α : Type} {c : α → α → Option Int} {xs : List α} (ho : Orders c xs) : ∃ ys, sortV c xs = some ys ∧ ys.Perm xs ∧ ys.Pairwise fun a b => ∀ r, c b a = some r → ¬ r < 0 := by
  have : ∃ ys, sortV c xs = some ys := by
    by_cases hx : xs = []
    · subst hx
      exact ⟨_, sortV_nil c⟩
    · unfold sortV
      rw [dif_neg hx, if_pos ho]
      exact ⟨_, rfl⟩
  obtain ⟨ys, hy⟩ := this
  exact ⟨ys, hy, sortV_spec hy⟩
end Go.Proofs.Ytdenliplkmjmjaa
