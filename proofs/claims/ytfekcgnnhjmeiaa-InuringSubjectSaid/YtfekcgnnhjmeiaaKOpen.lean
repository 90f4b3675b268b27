/- What the frame of a row's proof tells of a slice that came in, as a fact of the logic of symbolic states: elements of whatever flat type. Generic: names no function of the program. -/
import Derived.Deep.Slices
import Derived.Lib.SmallJoins
import Derived.Test.YtfekcgnnhjmeiaaKTop
namespace Go.Proofs.Ytfekcgnnhjmeiaa
open Go.RowKit Go.ChangeShapes Go.WideShapes

theorem addr_plain {w : World} {a : Addr} {v : Value} (h : w.cell? a = some v) : a = ⟨a.block, a.off, none⟩ := by
  obtain ⟨b, o, sp⟩ := a
  cases sp with
  | none => rfl
  | some s =>
    exfalso
    unfold World.cell? at h
    split at h
    · simp at h
    · cases h
theorem rows_fact {H : Type} {enc : TypeId × Value → H} {P : Program} {w : World} {spare : Nat → Bool} {held : Bool} {t e : TypeId} {fuel z : Nat} {cs : List Value} {x : DataW H × List MemPlace} {α : Type} [Inhabited α] {en : α → List Value} {hl : ∀ x, (en x).length = z} {h1 : ∀ x, ∀ u ∈ en x, u.oneCell' = true} {R : α → Prop}
    (ht : P.underlying t = some (.slice e)) (hz : P.cellsOf e = z) (hz0 : 0 < z)
    (hel : ∀ n cs' y, DataW.trod enc P w 0 spare held n e cs' = some y → ∃ a : α, cs' = en a ∧ R a)
    (h : DataW.trod enc P w 0 spare held fuel t cs = some x) :
    ∃ A len cap, ∃ xs : List α, cs = [.slice A len cap] ∧ (fV (lSlice (lFlat en z hl h1)) (.slice A len cap) xs).R w (fun b => b < w.heap.size) ∧ xs.length = len ∧ len ≤ maxLen ∧ ∀ a ∈ xs, R a := by
  rcases Go.Deep.open_slice ht h with ⟨rfl, _⟩ | ⟨a, len, cap, m, n, D, Pl, rfl, _, hl', hm, hmm, _, hx⟩
  · exact ⟨none, 0, 0, [], rfl, ⟨none, 0, 0, rfl, rfl, Nat.zero_le _, .inl rfl⟩, rfl, Nat.zero_le _, fun a ha => by cases ha⟩
  have hlm : len ≤ m := by rw [hmm]; split <;> omega
  have each : ∀ i, i < len → ∃ y : α, w.cells? 0 (a.add (i * z)) z = some (en y) ∧ R y := fun i hi => by
    obtain ⟨cs', h2, h3⟩ := hx i (by omega)
    rw [hz] at h2
    obtain ⟨y, rfl, hy⟩ := hel _ _ _ h3
    exact ⟨y, h2, hy⟩
  obtain ⟨f, hf⟩ := Go.Deep.choose_lt each
  refine ⟨some a, len, cap, (List.range len).map f, rfl, ⟨some a, len, cap, rfl, by simp, hl', ?_⟩, by simp, by omega, fun y hy => ?_⟩
  · rcases Nat.eq_zero_or_pos len with h0 | h0
    · subst h0
      exact .inl rfl
    · right
      have hlen := hl (f 0)
      have hc0 := (World.cells?_some (hf 0 h0).1).2.2 0 hz0
      have hv : (en (f 0))[0]? = some ((en (f 0))[0]'(by omega)) := List.getElem?_eq_getElem (by omega)
      rw [hv, Nat.zero_mul] at hc0
      have hc : w.cell? a = some ((en (f 0))[0]'(by omega)) := by simpa [Addr.add] using hc0
      have ha := addr_plain hc
      obtain ⟨b, o, sp⟩ := a
      simp only [Addr.mk.injEq, true_and] at ha
      subst ha
      have hadd : ∀ i, (⟨b, o, none⟩ : Addr).add i = ⟨b, o + i, none⟩ := fun i => by
        unfold Addr.add
        split <;> simp_all
      refine ⟨b, o, rfl, World.block_lt_of_cell? w ⟨b, o, none⟩ hc, fun i y hy => ?_⟩
      have hi : i < len := by
        have := (List.getElem?_eq_some_iff.1 hy).1
        simpa using this
      have hyf : f i = y := by simpa [hi] using hy
      subst hyf
      refine ⟨en (f i), rfl, fun j u hu => ?_⟩
      have hj : j < z := by
        have := (List.getElem?_eq_some_iff.1 hu).1
        rw [hl] at this
        exact this
      have h2 := (World.cells?_some (hf i hi).1).2.2 j hj
      rw [hu, Go.Deep.add_add, hadd] at h2
      rw [Nat.add_assoc]
      exact h2
  · obtain ⟨i, hi, rfl⟩ := List.mem_map.1 hy
    exact (hf i (List.mem_range.1 hi)).2
theorem el_int {H : Type} {enc : TypeId × Value → H} {P : Program} {w : World} {spare : Nat → Bool} {held : Bool} {e : TypeId} {k : IntKind} (he : P.underlying e = some (.int k)) : ∀ n cs' y, DataW.trod enc P w 0 spare held n e cs' = some y → ∃ a : Int, cs' = encI k a ∧ (Lit.int k a).wf = true := fun n cs' y h => by
  obtain ⟨m, rfl, _, hw⟩ := DataW.trod_int he h
  exact ⟨m, rfl, hw⟩
end Go.Proofs.Ytfekcgnnhjmeiaa
