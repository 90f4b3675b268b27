/- What the frame of a row's proof tells of a slice that came in, whatever the layout of its elements. Generic: names no function of the program. -/
import Derived.Test.YtfekcgnnhjmeiaaKOpen
namespace Go.Proofs.Ytfekcgnnhjmeiaa
open Go.RowKit Go.ChangeShapes Go.WideShapes

theorem rows_factL {H : Type} {enc : TypeId × Value → H} {P : Program} {w : World} {spare : Nat → Bool} {held : Bool} {t e : TypeId} {fuel : Nat} {cs : List Value} {x : DataW H × List MemPlace} {α : Type} [Inhabited α] {L : Lay α} {R : α → Prop}
    (ht : P.underlying t = some (.slice e)) (hz : P.cellsOf e = L.size) (hz0 : 0 < L.size)
    (hel : ∀ n cs' y, DataW.trod enc P w 0 spare held n e cs' = some y → ∃ a : α, L.R w (fun b => b < w.heap.size) cs' a ∧ R a)
    (h : DataW.trod enc P w 0 spare held fuel t cs = some x) :
    ∃ A len cap, ∃ xs : List α, cs = [.slice A len cap] ∧ (fV (lSlice L) (.slice A len cap) xs).R w (fun b => b < w.heap.size) ∧ xs.length = len ∧ len ≤ maxLen ∧ ∀ a ∈ xs, R a := by
  rcases Go.Deep.open_slice ht h with ⟨rfl, _⟩ | ⟨a, len, cap, m, n, D, Pl, rfl, _, hl', hm, hmm, _, hx⟩
  · exact ⟨none, 0, 0, [], rfl, ⟨none, 0, 0, rfl, rfl, Nat.zero_le _, .inl rfl⟩, rfl, Nat.zero_le _, fun a ha => by cases ha⟩
  have hlm : len ≤ m := by rw [hmm]; split <;> omega
  have each : ∀ i, i < len → ∃ y : α × List Value, w.cells? 0 (a.add (i * L.size)) L.size = some y.2 ∧ L.R w (fun b => b < w.heap.size) y.2 y.1 ∧ R y.1 := fun i hi => by
    obtain ⟨cs', h2, h3⟩ := hx i (by omega)
    rw [hz] at h2
    obtain ⟨y, hy1, hy⟩ := hel _ _ _ h3
    exact ⟨(y, cs'), h2, hy1, hy⟩
  obtain ⟨f, hf⟩ := Go.Deep.choose_lt each
  refine ⟨some a, len, cap, (List.range len).map fun i => (f i).1, rfl, ⟨some a, len, cap, rfl, by simp, hl', ?_⟩, by simp, by omega, fun y hy => ?_⟩
  · rcases Nat.eq_zero_or_pos len with h0 | h0
    · subst h0
      exact .inl rfl
    · right
      have hlen := L.len (hf 0 h0).2.1
      have hc0 := (World.cells?_some (hf 0 h0).1).2.2 0 hz0
      have hv : ((f 0).2)[0]? = some (((f 0).2)[0]'(by omega)) := List.getElem?_eq_getElem (by omega)
      rw [hv, Nat.zero_mul] at hc0
      have hc : w.cell? a = some (((f 0).2)[0]'(by omega)) := by simpa [Addr.add] using hc0
      have ha := addr_plain hc
      obtain ⟨b, o, sp⟩ := a
      simp only [Addr.mk.injEq, true_and] at ha
      subst ha
      have hadd : ∀ i, (⟨b, o, none⟩ : Addr).add i = ⟨b, o + i, none⟩ := fun i => by
        unfold Addr.add
        split <;> simp_all
      refine ⟨b, o, rfl, World.block_lt_of_cell? w ⟨b, o, none⟩ hc, fun i y hy => ?_⟩
      have hi : i < len := by
        have := (List.getElem?_eq_some_iff.1 hy).1
        simpa using this
      have hyf : (f i).1 = y := by simpa [hi] using hy
      subst hyf
      refine ⟨(f i).2, (hf i hi).2.1, fun j u hu => ?_⟩
      have hj : j < L.size := by
        have := (List.getElem?_eq_some_iff.1 hu).1
        rw [L.len (hf i hi).2.1] at this
        exact this
      have h2 := (World.cells?_some (hf i hi).1).2.2 j hj
      rw [hu, Go.Deep.add_add, hadd] at h2
      rw [Nat.add_assoc]
      exact h2
  · obtain ⟨i, hi, rfl⟩ := List.mem_map.1 hy
    exact (hf i (List.mem_range.1 hi)).2.2
theorem el_bool {H : Type} {enc : TypeId × Value → H} {P : Program} {w : World} {spare : Nat → Bool} {held : Bool} {e : TypeId} (he : P.underlying e = some .bool) : ∀ n cs' y, DataW.trod enc P w 0 spare held n e cs' = some y → ∃ a : Bool, cs' = encB a ∧ True := fun n cs' y h => by
  obtain ⟨m, rfl, _⟩ := DataW.trod_bool he h
  exact ⟨m, rfl, trivial⟩
/-- a slice of slices of flat elements -/
theorem el_slice {H : Type} {enc : TypeId × Value → H} {P : Program} {w : World} {spare : Nat → Bool} {held : Bool} {t e : TypeId} {z : Nat} {α : Type} [Inhabited α] {en : α → List Value} {hl : ∀ x, (en x).length = z} {h1 : ∀ x, ∀ u ∈ en x, u.oneCell' = true} {R : α → Prop}
    (ht : P.underlying t = some (.slice e)) (hz : P.cellsOf e = z) (hz0 : 0 < z) (hel : ∀ n cs' y, DataW.trod enc P w 0 spare held n e cs' = some y → ∃ a : α, cs' = en a ∧ R a) :
    ∀ n cs' y, DataW.trod enc P w 0 spare held n t cs' = some y → ∃ a : List α, (lSlice (lFlat en z hl h1)).R w (fun b => b < w.heap.size) cs' a ∧ (a.length ≤ maxLen ∧ ∀ x ∈ a, R x) := fun n cs' y h => by
  obtain ⟨A, len, cap, xs, rfl, h2, h3, h4, h5⟩ := rows_fact (en := en) (z := z) (hl := hl) (h1 := h1) (R := R) ht hz hz0 hel h
  exact ⟨xs, h2, by rw [h3]; exact h4, h5⟩
end Go.Proofs.Ytfekcgnnhjmeiaa
