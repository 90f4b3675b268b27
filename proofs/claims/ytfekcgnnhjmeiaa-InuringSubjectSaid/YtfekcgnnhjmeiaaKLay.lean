/- How plain data lie in memory: layouts (integers, bools, slices, records) and what keeps them. Generic: names no function of the program. -/
import Derived.Below
import Derived.Laws.OwnMore
import Derived.Laws.Rows
import Derived.Deep.Draws
import Derived.OwnWalk
import Derived.Deep.OwnRows
import Derived.Lib.Hide
import Derived.IntWalk
namespace Go.Proofs.Ytfekcgnnhjmeiaa
open Go.RowKit

/-- the blocks of a set read in w' as in w -/
def Same (S : Nat → Prop) (w w' : World) : Prop := ∀ b, S b → w'.heap[b]? = w.heap[b]?

theorem Same.refl (S : Nat → Prop) (w : World) : Same S w w := fun _ _ => rfl
theorem Same.trans {S : Nat → Prop} {a b c : World} (h : Same S a b) (k : Same S b c) : Same S a c := fun i hi => (k i hi).trans (h i hi)
theorem Same.sub {S T : Nat → Prop} {w w' : World} (h : Same S w w') (hs : ∀ b, T b → S b) : Same T w w' := fun b hb => h b (hs b hb)
theorem Same.cell {S : Nat → Prop} {w w' : World} (h : Same S w w') {p : Addr} (hp : S p.block) : w'.cell? p = w.cell? p := World.cell?_of_block (h _ hp)
theorem Same.of_below {S : Nat → Prop} {B : Nat} {w w' : World} (h : Below B w w') (hs : ∀ b, S b → b < B) : Same S w w' := fun b hb => h.block b (hs b hb)
theorem Same.drew {S : Nat → Prop} {a w : World} (h : Same S a w) : Same S a w.drew := h
theorem Same.drewN {S : Nat → Prop} {a w : World} (h : Same S a w) (n : Nat) : Same S a (w.drewN n) := h
theorem Same.alloc {S : Nat → Prop} {a w : World} (h : Same S a w) (o : Obj) (hs : ∀ b, S b → b < w.heap.size) : Same S a (w.alloc o) :=
  h.trans fun b hb => Below.heap_alloc w o b (hs b hb)
theorem Same.setCell {S : Nat → Prop} {a w : World} (h : Same S a w) (p : Addr) (u : Value) (hs : ¬ S p.block) : Same S a (w.setCell p u) :=
  h.trans fun b hb => Below.heap_setCell w p u b (fun e => hs (e ▸ hb))
theorem Same.grown {S : Nat → Prop} {a w w' : World} {row : Option Nat} (h : Same S a w) (hg : w.grownBy w' row) (hs : ∀ b, S b → b < w.heap.size) (hr : ∀ g, row = some g → ¬ S g) : Same S a w' :=
  h.trans fun b hb => hg.block b (hs b hb) (fun e => hr b e.symm hb)

/-- a layout: so many cells; when they stand for x in w, what they point to lying in the blocks of S -/
structure Lay (α : Type) where
  size : Nat
  R : World → (Nat → Prop) → List Value → α → Prop
  len : ∀ {w S cs x}, R w S cs x → cs.length = size
  one : ∀ {w S cs x}, R w S cs x → ∀ u ∈ cs, u.oneCell' = true
  keep : ∀ {w w' : World} {S cs x}, R w S cs x → Same S w w' → R w' S cs x
  sub : ∀ {w} {S T : Nat → Prop} {cs x}, R w S cs x → (∀ b, S b → T b) → R w T cs x

/-- data of so many plain cells -/
def lFlat {α : Type} (enc : α → List Value) (z : Nat) (hl : ∀ x, (enc x).length = z) (h1 : ∀ x, ∀ u ∈ enc x, u.oneCell' = true) : Lay α where
  size := z
  R := fun _ _ cs x => cs = enc x
  len := fun h => by rw [h]; exact hl _
  one := fun h u hu => by rw [h] at hu; exact h1 _ u hu
  keep := fun h _ => h
  sub := fun h _ => h

def encI (k : IntKind) (n : Int) : List Value := [.int k n]
def encB (b : Bool) : List Value := [.bool b]
def lInt (k : IntKind) : Lay Int := lFlat (encI k) 1 (fun _ => rfl) (fun _ u hu => by simp [encI] at hu; subst hu; rfl)
def lBool : Lay Bool := lFlat encB 1 (fun _ => rfl) (fun _ u hu => by simp [encB] at hu; subst hu; rfl)
def lStr : Lay ByteArray := lFlat (fun s => [.string s]) 1 (fun _ => rfl) (fun _ u hu => by simp at hu; subst hu; rfl)

/-- the cells lie in block b from off on -/
def At (w : World) (b off : Nat) (cs : List Value) : Prop := ∀ j u, cs[j]? = some u → w.cell? ⟨b, off + j, none⟩ = some u

theorem At.keep {w w' : World} {b off : Nat} {cs : List Value} (h : At w b off cs) (hb : w'.heap[b]? = w.heap[b]?) : At w' b off cs :=
  fun j u hu => (World.cell?_of_block (a := ⟨b, off + j, none⟩) hb).trans (h j u hu)
theorem At.zero {w : World} {b off : Nat} {c : Value} {cs : List Value} (h : At w b off (c :: cs)) : w.cell? ⟨b, off, none⟩ = some c := by simpa using h 0 c rfl

/-- the elements that a slice of xs.length elements has from its address on -/
def Els {α : Type} (L : Lay α) (w : World) (S : Nat → Prop) (A : Option Addr) (xs : List α) : Prop :=
  xs = [] ∨ ∃ b off, A = some ⟨b, off, none⟩ ∧ S b ∧ ∀ i x, xs[i]? = some x → ∃ cs, L.R w S cs x ∧ At w b (off + i * L.size) cs

theorem Els.keep {α : Type} {L : Lay α} {w w' : World} {S : Nat → Prop} {A : Option Addr} {xs : List α} (h : Els L w S A xs) (k : Same S w w') : Els L w' S A xs := by
  rcases h with h | ⟨b, off, hA, hb, h⟩
  · exact .inl h
  · refine .inr ⟨b, off, hA, hb, fun i x hx => ?_⟩
    obtain ⟨cs, hr, hc⟩ := h i x hx
    exact ⟨cs, L.keep hr k, hc.keep (k b hb)⟩
theorem Els.sub {α : Type} {L : Lay α} {w : World} {S T : Nat → Prop} {A : Option Addr} {xs : List α} (h : Els L w S A xs) (k : ∀ b, S b → T b) : Els L w T A xs := by
  rcases h with h | ⟨b, off, hA, hb, h⟩
  · exact .inl h
  · refine .inr ⟨b, off, hA, k b hb, fun i x hx => ?_⟩
    obtain ⟨cs, hr, hc⟩ := h i x hx
    exact ⟨cs, L.sub hr k, hc⟩

def lSlice {α : Type} (L : Lay α) : Lay (List α) where
  size := 1
  R := fun w S cs xs => ∃ A n c, cs = [.slice A n c] ∧ n = xs.length ∧ n ≤ c ∧ Els L w S A xs
  len := fun ⟨_, _, _, h, _⟩ => by rw [h]; rfl
  one := fun ⟨_, _, _, h, _⟩ u hu => by rw [h] at hu; simp at hu; subst hu; rfl
  keep := fun ⟨A, n, c, h, h0, h1, h2⟩ k => ⟨A, n, c, h, h0, h1, h2.keep k⟩
  sub := fun ⟨A, n, c, h, h0, h1, h2⟩ k => ⟨A, n, c, h, h0, h1, h2.sub k⟩

/-- two layouts, one behind the other -/
def lPair {α β : Type} (L : Lay α) (M : Lay β) : Lay (α × β) where
  size := L.size + M.size
  R := fun w S cs x => ∃ c d, cs = c ++ d ∧ L.R w S c x.1 ∧ M.R w S d x.2
  len := fun ⟨_, _, h, h1, h2⟩ => by rw [h, List.length_append, L.len h1, M.len h2]
  one := fun ⟨_, _, h, h1, h2⟩ u hu => by
    rw [h, List.mem_append] at hu
    rcases hu with hu | hu
    · exact L.one h1 u hu
    · exact M.one h2 u hu
  keep := fun ⟨c, d, h, h1, h2⟩ k => ⟨c, d, h, L.keep h1 k, M.keep h2 k⟩
  sub := fun ⟨c, d, h, h1, h2⟩ k => ⟨c, d, h, L.sub h1 k, M.sub h2 k⟩

/-- a record, seen as nested pairs -/
def lMap {α β : Type} (f : β → α) (L : Lay α) : Lay β where
  size := L.size
  R := fun w S cs y => L.R w S cs (f y)
  len := fun h => L.len h
  one := fun h => L.one h
  keep := fun h k => L.keep h k
  sub := fun h k => L.sub h k

/-- a value of one cell -/
abbrev Lay.V {α : Type} (L : Lay α) (w : World) (S : Nat → Prop) (v : Value) (x : α) : Prop := L.R w S [v] x

/-- the blocks made between two worlds -/
def Fresh (w w' : World) : Nat → Prop := fun b => w.heap.size ≤ b ∧ b < w'.heap.size

theorem lSlice_of {α : Type} {L : Lay α} {w : World} {S : Nat → Prop} {A : Option Addr} {n c : Nat} {xs : List α} (h : (lSlice L).R w S [.slice A n c] xs) : n = xs.length ∧ n ≤ c ∧ Els L w S A xs := by
  obtain ⟨A', n', c', h1, h2, h3, h4⟩ := h
  simp only [List.cons.injEq, and_true, Value.slice.injEq] at h1
  obtain ⟨rfl, rfl, rfl⟩ := h1
  exact ⟨h2, h3, h4⟩
theorem Els.nil {α : Type} {L : Lay α} {w : World} {S : Nat → Prop} {A : Option Addr} : Els L w S A [] := .inl rfl
theorem Els.at_ {α : Type} {L : Lay α} {w : World} {S : Nat → Prop} {A : Option Addr} {xs : List α} (h : Els L w S A xs) {i : Nat} (hi : i < xs.length) :
    ∃ b off cs, A = some ⟨b, off, none⟩ ∧ S b ∧ L.R w S cs xs[i] ∧ At w b (off + i * L.size) cs := by
  rcases h with h | ⟨b, off, hA, hb, h⟩
  · subst h; simp at hi
  · obtain ⟨cs, hr, hc⟩ := h i xs[i] (List.getElem?_eq_getElem hi)
    exact ⟨b, off, cs, hA, hb, hr, hc⟩
theorem Els.take {α : Type} {L : Lay α} {w : World} {S : Nat → Prop} {A : Option Addr} {xs : List α} (h : Els L w S A xs) (n : Nat) : Els L w S A (xs.take n) := by
  rcases h with h | ⟨b, off, hA, hb, h⟩
  · subst h; exact .inl (by simp)
  · refine .inr ⟨b, off, hA, hb, fun i x hx => h i x ?_⟩
    rw [List.getElem?_take] at hx
    split at hx
    · exact hx
    · cases hx

theorem Addr.add_at (b o k : Nat) : (⟨b, o, none⟩ : Addr).add k = ⟨b, o + k, none⟩ := by unfold Addr.add; split <;> simp_all
theorem Els.drop {α : Type} {L : Lay α} {w : World} {S : Nat → Prop} {A : Option Addr} {xs : List α} (h : Els L w S A xs) (n : Nat) : Els L w S (A.map (·.add (n * L.size))) (xs.drop n) := by
  rcases h with h | ⟨b, off, hA, hb, h⟩
  · subst h; exact .inl (by simp)
  · refine .inr ⟨b, off + n * L.size, by rw [hA, Option.map_some, Addr.add_at], hb, fun i x hx => ?_⟩
    rw [List.getElem?_drop] at hx
    obtain ⟨cs, h1, h2⟩ := h _ x hx
    refine ⟨cs, h1, ?_⟩
    rw [show off + n * L.size + i * L.size = off + (n + i) * L.size by rw [Nat.add_mul]; omega]
    exact h2

/-- cells that stand for a list -/
def Cells {α : Type} (L : Lay α) (w : World) (S : Nat → Prop) (cs : List Value) (xs : List α) : Prop :=
  cs.length = xs.length * L.size ∧ ∀ i x, xs[i]? = some x → L.R w S ((cs.drop (i * L.size)).take L.size) x
theorem Cells.keep {α : Type} {L : Lay α} {w w' : World} {S : Nat → Prop} {cs : List Value} {xs : List α} (h : Cells L w S cs xs) (k : Same S w w') : Cells L w' S cs xs := ⟨h.1, fun i x hx => L.keep (h.2 i x hx) k⟩
theorem Cells.sub {α : Type} {L : Lay α} {w : World} {S T : Nat → Prop} {cs : List Value} {xs : List α} (h : Cells L w S cs xs) (k : ∀ b, S b → T b) : Cells L w T cs xs := ⟨h.1, fun i x hx => L.sub (h.2 i x hx) k⟩
theorem Cells.nil {α : Type} {L : Lay α} {w : World} {S : Nat → Prop} : Cells L w S [] [] := ⟨by simp, fun i x hx => by simp at hx⟩
theorem Cells.one {α : Type} {L : Lay α} {w : World} {S : Nat → Prop} {cs : List Value} {x : α} (h : L.R w S cs x) : Cells L w S cs [x] := by
  have hl := L.len h
  refine ⟨by simp [hl], fun i y hy => ?_⟩
  match i, hy with
  | 0, hy =>
    simp at hy
    subst hy
    rw [Nat.zero_mul, List.drop_zero, ← hl, List.take_length]
    exact h
  | i + 1, hy => simp at hy
theorem Cells.cat {α : Type} {L : Lay α} {w : World} {S : Nat → Prop} {cs ds : List Value} {xs ys : List α} (h : Cells L w S cs xs) (k : Cells L w S ds ys) : Cells L w S (cs ++ ds) (xs ++ ys) := by
  refine ⟨by rw [List.length_append, List.length_append, h.1, k.1, Nat.add_mul], fun i x hx => ?_⟩
  by_cases hi : i < xs.length
  · rw [List.getElem?_append_left hi] at hx
    have h2 := h.2 i x hx
    have hle : i * L.size + L.size ≤ cs.length := by
      rw [h.1, ← Nat.succ_mul]
      exact Nat.mul_le_mul_right _ hi
    rw [List.drop_append_of_le_length (by omega), List.take_append_of_le_length (by rw [List.length_drop]; omega)]
    exact h2
  · rw [List.getElem?_append_right (by omega)] at hx
    have h2 := k.2 _ x hx
    have e : i * L.size = cs.length + (i - xs.length) * L.size := by
      rw [h.1, ← Nat.add_mul]
      congr 1
      omega
    rw [e, ← List.drop_drop, List.drop_left]
    exact h2
theorem Cells.ones {α : Type} {L : Lay α} {w : World} {S : Nat → Prop} {cs : List Value} {xs : List α} (h : Cells L w S cs xs) : ∀ u ∈ cs, u.oneCell' = true := by
  intro u hu
  obtain ⟨j, hj, rfl⟩ := List.mem_iff_getElem.1 hu
  have hz : 0 < L.size := by
    rcases Nat.eq_zero_or_pos L.size with h0 | h0
    · rw [h.1, h0] at hj; simp at hj
    · exact h0
  have hi : j / L.size < xs.length := by
    rw [h.1] at hj
    exact Nat.div_lt_of_lt_mul (by rw [Nat.mul_comm]; exact hj)
  have h2 := L.one (h.2 (j / L.size) _ (List.getElem?_eq_getElem hi))
  apply h2
  rw [List.mem_iff_getElem?]
  refine ⟨j % L.size, ?_⟩
  rw [List.getElem?_take, if_pos (Nat.mod_lt _ hz), List.getElem?_drop]
  rw [show j / L.size * L.size + j % L.size = j by rw [Nat.mul_comm]; exact Nat.div_add_mod j L.size]
  exact List.getElem?_eq_getElem hj
/-- the cells of the element i -/
theorem Cells.at_ {α : Type} {L : Lay α} {w : World} {S : Nat → Prop} {cs : List Value} {xs : List α} (h : Cells L w S cs xs) {i : Nat} (hi : i < xs.length) : L.R w S ((cs.drop (i * L.size)).take L.size) xs[i] := h.2 i _ (List.getElem?_eq_getElem hi)
/-- other cells for the element i -/
theorem Cells.set {α : Type} {L : Lay α} {w : World} {S : Nat → Prop} {cs ds : List Value} {xs : List α} {x : α} {i : Nat} (h : Cells L w S cs xs) (hi : i < xs.length) (hx : L.R w S ds x) : Cells L w S (cs.take (i * L.size) ++ ds ++ cs.drop (i * L.size + L.size)) (xs.set i x) := by
  have hd := L.len hx
  have hle : i * L.size + L.size ≤ cs.length := by
    rw [h.1, ← Nat.succ_mul]
    exact Nat.mul_le_mul_right _ hi
  have h1 : Cells L w S (cs.take (i * L.size)) (xs.take i) := by
    refine ⟨by rw [List.length_take, List.length_take]; rw [Nat.min_eq_left (by omega), Nat.min_eq_left (by omega)], fun j y hy => ?_⟩
    rw [List.getElem?_take] at hy
    split at hy
    · rename_i hj
      have h2 := h.2 j y hy
      have hle2 : j * L.size + L.size ≤ i * L.size := by
        rw [← Nat.succ_mul]
        exact Nat.mul_le_mul_right _ hj
      rw [List.drop_take, List.take_take, Nat.min_eq_left (by omega)]
      exact h2
    · cases hy
  have h3 : Cells L w S (cs.drop (i * L.size + L.size)) (xs.drop (i + 1)) := by
    refine ⟨by rw [List.length_drop, List.length_drop, h.1, Nat.sub_mul, Nat.succ_mul], fun j y hy => ?_⟩
    rw [List.getElem?_drop] at hy
    have h2 := h.2 _ y hy
    rw [List.drop_drop]
    rw [show i * L.size + L.size + j * L.size = (i + 1 + j) * L.size by rw [Nat.add_mul, Nat.succ_mul]]
    exact h2
  rw [List.set_eq_take_append_cons_drop, if_pos hi]
  have h4 := (h1.cat (Cells.one hx)).cat h3
  rw [List.append_assoc (xs.take i)] at h4
  exact h4
theorem Cells.take {α : Type} {L : Lay α} {w : World} {S : Nat → Prop} {cs : List Value} {xs : List α} (h : Cells L w S cs xs) (n : Nat) (hn : n ≤ xs.length) : Cells L w S (cs.take (n * L.size)) (xs.take n) := by
  have hle : n * L.size ≤ cs.length := by rw [h.1]; exact Nat.mul_le_mul_right _ hn
  refine ⟨by rw [List.length_take, List.length_take]; rw [Nat.min_eq_left hle, Nat.min_eq_left hn], fun j y hy => ?_⟩
  rw [List.getElem?_take] at hy
  split at hy
  · rename_i hj
    have h2 := h.2 j y hy
    have hle2 : j * L.size + L.size ≤ n * L.size := by
      rw [← Nat.succ_mul]
      exact Nat.mul_le_mul_right _ hj
    rw [List.drop_take, List.take_take, Nat.min_eq_left (by omega)]
    exact h2
  · cases hy
theorem Cells.flat {α : Type} {L : Lay α} {w : World} {S : Nat → Prop} {enc : α → List Value} (hR : ∀ x, L.R w S (enc x) x) : ∀ xs : List α, Cells L w S (xs.flatMap enc) xs
  | [] => Cells.nil
  | x :: xs => by
    have h := (Cells.one (hR x)).cat (Cells.flat hR xs)
    simpa using h
/-- what a slice that reads as xs reads -/
theorem Els.cells {α : Type} {L : Lay α} {w : World} {S : Nat → Prop} {A : Option Addr} {xs : List α} (h : Els L w S A xs) (hne : xs ≠ []) : ∃ b off cs, A = some ⟨b, off, none⟩ ∧ S b ∧ Cells L w S cs xs ∧ At w b off cs := by
  rcases h with h | ⟨b, off, hA, hb, hel⟩
  · exact absurd h hne
  · have key : ∀ k, k ≤ xs.length → ∃ cs : List Value, At w b off cs ∧ Cells L w S cs (xs.take k) := by
      intro k
      induction k with
      | zero => intro _; exact ⟨[], fun j u hu => by simp at hu, by simpa using Cells.nil⟩
      | succ k ih =>
        intro hk
        obtain ⟨cs, hat, hc⟩ := ih (by omega)
        obtain ⟨ds, hd, hda⟩ := hel k xs[k] (List.getElem?_eq_getElem (by omega))
        have hl : cs.length = k * L.size := by rw [hc.1, List.length_take, Nat.min_eq_left (by omega)]
        refine ⟨cs ++ ds, fun j u hu => ?_, ?_⟩
        · by_cases hj : j < cs.length
          · rw [List.getElem?_append_left hj] at hu
            exact hat j u hu
          · rw [List.getElem?_append_right (by omega)] at hu
            have := hda _ u hu
            rw [show off + j = off + k * L.size + (j - cs.length) by omega]
            exact this
        · rw [List.take_succ_eq_append_getElem (by omega)]
          exact hc.cat (Cells.one hd)
    obtain ⟨cs, h1, h2⟩ := key xs.length (Nat.le_refl _)
    exact ⟨b, off, cs, hA, hb, by simpa using h2, h1⟩
theorem Els.of_cells {α : Type} {L : Lay α} {w : World} {S : Nat → Prop} {b off : Nat} {cs : List Value} {xs : List α} (hb : S b) (hc : Cells L w S cs xs) (ha : At w b off cs) : Els L w S (some ⟨b, off, none⟩) xs := by
  refine .inr ⟨b, off, rfl, hb, fun i x hx => ⟨_, hc.2 i x hx, fun j u hu => ?_⟩⟩
  rw [List.getElem?_take] at hu
  split at hu
  · rw [List.getElem?_drop] at hu
    have := ha _ u hu
    rw [show off + i * L.size + j = off + (i * L.size + j) by omega]
    exact this
  · cases hu

end Go.Proofs.Ytfekcgnnhjmeiaa
