/- Blocks that hold an array, in the logic of symbolic states: a list of elements of a flat type. Generic: names no function of the program. -/
import Derived.Test.YtfekcgnnhjmeiaaKDet
namespace Go.Proofs.Ytfekcgnnhjmeiaa
open Go.RowKit
section
variable {P : Program} {C : Cx} {σ : List (Nat × Value)} {η : List Ent} {ι : List Fact}
variable {d : Option Tmp} {ty : TypeId} {pos : String} {af : Array Edge} {gd : Option (Nat × Bool)}

/-- the cells of a list of elements -/
def aC {α : Type} (enc : α → List Value) (xs : List α) : List Value := xs.flatMap enc
theorem aC_len {α : Type} {enc : α → List Value} {z : Nat} (hl : ∀ x, (enc x).length = z) : ∀ xs : List α, (aC enc xs).length = xs.length * z
  | [] => by simp [aC]
  | x :: t => by
    have ih := aC_len hl t
    simp only [aC, List.flatMap_cons, List.length_append, List.length_cons, hl] at ih ⊢
    rw [ih, Nat.add_mul, Nat.one_mul, Nat.add_comm]
theorem aC_part {α : Type} {enc : α → List Value} {z : Nat} (hl : ∀ x, (enc x).length = z) : ∀ (xs : List α) (i : Nat) (h : i < xs.length), aC enc xs = aC enc (xs.take i) ++ (enc xs[i] ++ aC enc (xs.drop (i + 1))) ∧ (aC enc (xs.take i)).length = i * z := fun xs i h => by
  refine ⟨?_, by rw [aC_len hl, List.length_take, Nat.min_eq_left (by omega)]⟩
  have e : xs = xs.take i ++ xs[i] :: xs.drop (i + 1) := by rw [← List.drop_eq_getElem_cons h, List.take_append_drop]
  unfold aC
  conv => lhs; rw [e, List.flatMap_append, List.flatMap_cons]
theorem ixA_eq {α : Type} [Inhabited α] {xs : List α} {i : Int} (h : inb xs i = true) : ∃ h : i.toNat < xs.length, ix xs i = xs[i.toNat] := by
  obtain ⟨h0, h1⟩ := inb_spec h
  exact ⟨h1, by simp [ix, h1]⟩
theorem aC_get {α : Type} [Inhabited α] {enc : α → List Value} {z o : Nat} {xs : List α} {i : Int} {v : Value} (hl : ∀ x, (enc x).length = z) (hi : inb xs i = true) (hv : (enc (ix xs i))[o]? = some v) : (aC enc xs)[i.toNat * z + o]? = some v := by
  obtain ⟨h, e⟩ := ixA_eq hi
  obtain ⟨h1, h2⟩ := aC_part hl xs i.toNat h
  have ho : o < (enc xs[i.toNat]).length := by
    rw [e] at hv
    exact (List.getElem?_eq_some_iff.1 hv).1
  rw [h1, List.getElem?_append_right (by omega), h2, Nat.add_sub_cancel_left, List.getElem?_append_left ho, ← e]
  exact hv
theorem aC_cut {α : Type} [Inhabited α] {enc : α → List Value} {z o : Nat} {xs : List α} {i : Int} {cells : List Value} (hl : ∀ x, (enc x).length = z) (hi : inb xs i = true) (hv : ((enc (ix xs i)).drop o).take cells.length = cells) (ho : Nat.ble (o + cells.length) z = true) : ((aC enc xs).drop (i.toNat * z + o)).take cells.length = cells := by
  obtain ⟨h, e⟩ := ixA_eq hi
  obtain ⟨h1, h2⟩ := aC_part hl xs i.toNat h
  have ho := Nat.le_of_ble_eq_true ho
  have hz := hl xs[i.toNat]
  have ha : ∀ (A E T : List Value), A.length = i.toNat * z → E.length = z → ((A ++ (E ++ T)).drop (i.toNat * z + o)).take cells.length = (E.drop o).take cells.length := by
    intro A E T hA hE
    rw [List.drop_append, hA, List.drop_eq_nil_of_le (by omega), List.nil_append, Nat.add_sub_cancel_left, List.drop_append_of_le_length (by omega), List.take_append_of_le_length (by rw [List.length_drop]; omega)]
  rw [h1, ha _ _ _ h2 hz, ← e]
  exact hv
theorem aC_set {α : Type} [Inhabited α] {enc : α → List Value} {z o : Nat} {xs : List α} {i : Int} {cells : List Value} {x' : α} (hl : ∀ x, (enc x).length = z) (hi : inb xs i = true) (ho : Nat.ble (o + cells.length) z = true) (hv : (enc (ix xs i)).take o ++ cells ++ (enc (ix xs i)).drop (o + cells.length) = enc x') :
    (aC enc xs).take (i.toNat * z + o) ++ cells ++ (aC enc xs).drop (i.toNat * z + o + cells.length) = aC enc (upd xs i x') := by
  obtain ⟨h, e⟩ := ixA_eq hi
  obtain ⟨h1, h2⟩ := aC_part hl xs i.toNat h
  have ho := Nat.le_of_ble_eq_true ho
  have hz := hl xs[i.toNat]
  have e3 : aC enc (upd xs i x') = aC enc (xs.take i.toNat) ++ (enc x' ++ aC enc (xs.drop (i.toNat + 1))) := by
    have : upd xs i x' = xs.take i.toNat ++ x' :: xs.drop (i.toNat + 1) := by
      unfold upd
      rw [List.set_eq_take_append_cons_drop, if_pos h]
    rw [this]
    simp [aC]
  rw [e3, ← hv, e, h1]
  have ha : ∀ (A E T : List Value), A.length = i.toNat * z → E.length = z → (A ++ (E ++ T)).take (i.toNat * z + o) ++ cells ++ (A ++ (E ++ T)).drop (i.toNat * z + o + cells.length) = A ++ ((E.take o ++ cells ++ E.drop (o + cells.length)) ++ T) := by
    intro A E T hA hE
    rw [List.take_append, List.drop_append, hA, List.take_of_length_le (by omega), List.drop_eq_nil_of_le (by omega), Nat.add_sub_cancel_left, Nat.add_assoc, Nat.add_sub_cancel_left, List.take_append_of_le_length (by omega), List.drop_append_of_le_length (by omega)]
    simp
  exact ha _ _ _ h2 hz
theorem aC_le {α : Type} {enc : α → List Value} {z o k : Nat} {xs : List α} {i : Int} (hl : ∀ x, (enc x).length = z) (hi : inb xs i = true) (ho : Nat.ble (o + k) z = true) : i.toNat * z + o + k ≤ (aC enc xs).length := by
  obtain ⟨_, h1⟩ := inb_spec hi
  have ho := Nat.le_of_ble_eq_true ho
  rw [aC_len hl]
  have := Nat.mul_le_mul_right z (show i.toNat + 1 ≤ xs.length by omega)
  rw [Nat.add_mul, Nat.one_mul] at this
  omega
theorem aC_ones {α : Type} {enc : α → List Value} (h1 : ∀ x, ∀ u ∈ enc x, u.oneCell' = true) : ∀ xs : List α, Ones (aC enc xs) := fun xs => by
  have : ∀ l : List Value, (∀ u ∈ l, u.oneCell' = true) → Ones l := fun l => by
    induction l with
    | nil => intro _; trivial
    | cons x t ih => intro h; exact ⟨h x (by simp), ih fun u hu => h u (List.mem_cons_of_mem _ hu)⟩
  refine this _ fun u hu => ?_
  obtain ⟨x, _, hx⟩ := List.mem_flatMap.1 hu
  exact h1 x u hx
theorem sz_aC {α : Type} {enc : α → List Value} {z n k : Nat} {t : TypeId} {xs : List α} (hs : sizeB P t = some k) (hl : ∀ x, (enc x).length = z) (hn : decide (xs.length = n) = true) (hk : Nat.beq (n * z) k = true) : sizeB P t = some (aC enc xs).length := by
  rw [aC_len hl, hs]
  simp only [decide_eq_true_eq] at hn
  rw [hn, Nat.eq_of_beq_eq_true hk]
theorem aC_over {α : Type} {enc : α → List Value} {z n : Nat} {xs ys : List α} (hl : ∀ x, (enc x).length = z) (hx : decide (xs.length = n) = true) (hy : decide (ys.length = n) = true) : (aC enc xs).take 0 ++ aC enc ys ++ (aC enc xs).drop (0 + (aC enc ys).length) = aC enc ys := by
  simp only [decide_eq_true_eq] at hx hy
  rw [List.drop_eq_nil_of_le (by rw [Nat.zero_add, aC_len hl, aC_len hl, hx, hy]; exact Nat.le_refl _)]
  simp
theorem aC_fits {α : Type} {enc : α → List Value} {z n : Nat} {xs ys : List α} (hl : ∀ x, (enc x).length = z) (hx : decide (xs.length = n) = true) (hy : decide (ys.length = n) = true) : 0 + (aC enc ys).length ≤ (aC enc xs).length := by
  simp only [decide_eq_true_eq] at hx hy
  rw [Nat.zero_add, aC_len hl, aC_len hl, hx, hy]
  exact Nat.le_refl _
theorem aC_whole {l : List Value} : (l.drop 0).take l.length = l := by simp
theorem det_indexA {x y : Operand} {t e : TypeId} {kd : IntKind} {b n z : Nat} {i : Int} (hx : ev σ x = some (.pointer (some ⟨b, 0, none⟩))) (hy : ev σ y = some (.int kd i)) (h0 : decide (0 ≤ i) = true) (h1 : decide (i < (n : Int)) = true) (ht : P.underlying t = some (.array n e)) (hz : sizeB P e = some z) :
    Det P C ⟨d, .indexAddr t x y, ty, pos, af, gd⟩ σ η ι (.pointer (some ⟨b, i.toNat * z, none⟩)) := fun ρ w hρ _ => by
  simp only [decide_eq_true_eq] at h0 h1
  obtain ⟨q, hq, rfl⟩ : ∃ q, P.info? e = some q ∧ q.size = z := by simpa [sizeB] using hz
  simp [execOp, hρ _ _ hx, hρ _ _ hy, Instr.indexAt, asIntOf, run_underlying ht, Instr.sureAddr, h0, h1, Go.sizeOf, typeInfo, hq, Addr.add_at]
/-! ### tables of pointers -/
theorem act_litB {t e : TypeId} {len bytes : Nat} {zv : Value} {ps : List (Nat × Operand)} {vs cs : List Value} (hu : P.underlying t = some (.slice e)) (hi : (P.info? e).map (fun i => (i.zero, i.size, i.bytes)) = some (some zv, 1, bytes)) (hp : evVals σ 0 ps = some vs) (hl : vs.length = len) (hpos : Nat.blt 0 len = true) (hsm : Nat.ble len 16777216 = true) (hsz : Sized 1 vs) (hc : flatV vs = cs) :
    ActOk P C ⟨d, .buildSlice t len ps.toArray, ty, pos, af, gd⟩ σ η ι (fun v θ κ => ∃ b, v = .slice (some ⟨b, 0, none⟩) len len ∧ θ = eBlk b e cs :: η ∧ κ = ι) := fun ρ w hρ hst => by
  have hm := evVals_map hρ hp
  subst hc
  obtain ⟨i, hi0, hi1⟩ := Option.map_eq_some_iff.1 hi
  simp only [Prod.mk.injEq] at hi1
  obtain ⟨hz0, hz1, _⟩ := hi1
  have hpos' : 0 < len := by simpa [Nat.blt_eq] using hpos
  have hs1 : len ≤ 16777216 := by simpa using hsm
  have hr : (execOp ρ ⟨d, .buildSlice t len ps.toArray, ty, pos, af, gd⟩).run P w = .ok (.value (.slice (some ⟨w.heap.size, 0, none⟩) len len)) (w.alloc (.cells (flatV vs).toArray e)) := by
    have h := run_buildSlice (P := P) w t e len (ps.toArray.map fun p => (p.1, ρ p.2)) (flatV vs).toArray i zv hu hi0 hz0 (by rw [hz1]; omega) (by rw [hz1]; omega) (by
      rw [Array.toList_map, hm, flatV_eq, hz1, ← hl]
      exact _root_.Go.Great.fill_whole (by omega) vs _ hsz.all (by simp))
    simp only [execOp, Sem.run_bind, h, Result.andThen_ok]
    rfl
  rw [hr]
  exact ⟨_, _, ⟨_, rfl, rfl, rfl⟩, hst.alloc e (flatV vs)⟩
theorem ixT {b n : Nat} {i : Int} (h0 : decide (0 ≤ i) = true) (h1 : decide (i < (n : Int)) = true) : IxOk (some ⟨b, 0, none⟩) n i := by
  simp only [decide_eq_true_eq] at h0 h1
  exact ⟨b, 0, rfl, h0, by omega⟩
theorem det_loadT {x : Operand} {t b k : Nat} {i : Int} {tt : TypeId} {cs : List Value} {v : Value} (hx : ev σ x = some (pAt (some ⟨b, 0, none⟩) (i.toNat * 1))) (he : eBlk b tt cs ∈ η) (hk : decide (i = (k : Int)) = true) (hc : cs[k]? = some v)
    (ha : isAggB P t = false) (hu : (P.underlying t).isSome = true) : Det P C ⟨d, .load t x, ty, pos, af, gd⟩ σ η ι v := by
  simp only [decide_eq_true_eq] at hk
  subst hk
  have e : pAt (some ⟨b, 0, none⟩) ((k : Int).toNat * 1) = .pointer (some ⟨b, k, none⟩) := by simp [pAt, Addr.add_at]
  rw [e] at hx
  exact det_load hx he hc ha hu
theorem oneF {α : Type} {L : Lay α} {w : World} {cs : List Value} {x : α} (h : St C η ι w) (hf : fC L cs x ∈ ι) : Cells L w (Im C η w) cs [x] := Cells.one (h.facts _ hf)
theorem oneV {α : Type} {L : Lay α} {w : World} {v : Value} {x : α} (h : St C η ι w) (hf : fV L v x ∈ ι) : Cells L w (Im C η w) [v] [x] := Cells.one (h.facts _ hf)
end
end Go.Proofs.Ytfekcgnnhjmeiaa
