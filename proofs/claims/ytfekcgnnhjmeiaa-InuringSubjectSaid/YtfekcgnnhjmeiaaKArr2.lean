/- Arrays as values: literals, elements, and slices of them. Generic: names no function of the program. -/
import Derived.Test.YtfekcgnnhjmeiaaKArr
import Derived.Test.YtfekcgnnhjmeiaaKFun
namespace Go.Proofs.Ytfekcgnnhjmeiaa
open Go.RowKit
/-- a literal of an array: each part at its place -/
def fillA (z : Nat) : List Value → List (Nat × Value) → Option (List Value)
  | zs, [] => some zs
  | zs, (i, v) :: r => bif Nat.beq v.cells.size z && Nat.ble (i * z + z) zs.length then fillA z (putL zs (i * z) v.cells.toList) r else none
theorem fillA_eq {z : Nat} : ∀ {ps : List (Nat × Value)} {zs cs : List Value}, fillA z zs ps = some cs → Instr.fill (fun i => some (i * z, z)) zs.toArray ps = some cs.toArray
  | [], zs, cs, h => by
    simp only [fillA, Option.some.injEq] at h
    subst h
    rfl
  | (i, v) :: r, zs, cs, h => by
    unfold fillA at h
    cases hb : (Nat.beq v.cells.size z && Nat.ble (i * z + z) zs.length) with
    | false => simp only [hb] at h; cases h
    | true =>
      simp only [hb, cond_true] at h
      rw [Bool.and_eq_true] at hb
      have h1 := Nat.eq_of_beq_eq_true hb.1
      have h2 := Nat.le_of_ble_eq_true hb.2
      have ih := fillA_eq h
      have hpl := putL_eq v.cells.toList zs (i * z) 0
      unfold Instr.fill
      dsimp only
      rw [if_neg (by simp; omega)]
      have hz : Array.foldl (fun (cs : Array Value) (x : Value × Nat) => cs.setIfInBounds (i * z + x.2) x.1) zs.toArray v.cells.zipIdx = (putL zs (i * z) v.cells.toList).toArray := by
        rw [← Array.foldl_toList, Array.toList_zipIdx]
        exact hpl
      rw [show (Array.foldl (fun cs x => match x with | (c, j) => cs.setIfInBounds (i * z + j) c) zs.toArray v.cells.zipIdx) = (putL zs (i * z) v.cells.toList).toArray from hz]
      exact ih
section
variable {P : Program} {C : Cx} {σ : List (Nat × Value)} {η : List Ent} {ι : List Fact}
variable {d : Option Tmp} {ty : TypeId} {pos : String} {af : Array Edge} {gd : Option (Nat × Bool)}
theorem det_buildA {t e : TypeId} {n z : Nat} {zv : Value} {zs cs : List Value} {ps : List (Nat × Operand)} {vs : List (Nat × Value)} (ht : P.underlying t = some (.array n e)) (hs : sizeB P e = some z) (hz : zeroB P t = some zv) (hc : zv.cells = zs.toArray) (hv : evParts σ ps = some vs) (hf : fillA z zs vs = some cs) :
    Det P C ⟨d, .build t ps.toArray, ty, pos, af, gd⟩ σ η ι (.agg cs.toArray) := fun ρ w hρ _ => by
  have hm := evParts_map hρ hv
  obtain ⟨i, hi, hiz⟩ := Option.bind_eq_some_iff.1 hz
  obtain ⟨q, hq, rfl⟩ : ∃ q, P.info? e = some q ∧ q.size = z := by simpa [sizeB] using hs
  have hfill := fillA_eq hf
  have e0 : (ps.toArray.map fun p => (p.1, ρ p.2)) = vs.toArray := by rw [List.map_toArray, hm]
  have e' : (ps.toArray.map fun (p : Nat × Operand) => match p with | (i, x) => (i, ρ x)) = vs.toArray := e0
  simp only [execOp, e']
  simp [Instr.build, zeroValue, typeInfo, hi, hiz, hc, run_underlying ht, Go.sizeOf, hq, hfill]
/-- an element of an array that is a value -/
theorem det_indexAV {α : Type} [Inhabited α] {enc : α → List Value} {x y : Operand} {t e : TypeId} {kd : IntKind} {n : Nat} {i : Int} {xs : List α} {v : Value} (hl : ∀ x, (enc x).length = 1) (hx : ev σ x = some (.agg (aC enc xs).toArray)) (hy : ev σ y = some (.int kd i)) (h0 : decide (0 ≤ i) = true) (h1 : decide (i < (n : Int)) = true) (hi : inb xs i = true) (hv : (enc (ix xs i))[0]? = some v) (ht : P.underlying t = some (.array n e)) (hs : sizeB P e = some 1) (ha : isAggB P e = false) (hu : (P.underlying e).isSome = true) :
    Det P C ⟨d, .index t x y, ty, pos, af, gd⟩ σ η ι v := fun ρ w hρ _ => by
  simp only [decide_eq_true_eq] at h0 h1
  obtain ⟨q, hq, hq1⟩ : ∃ q, P.info? e = some q ∧ q.size = 1 := by simpa [sizeB] using hs
  have hg := aC_get (enc := enc) (z := 1) (o := 0) hl hi hv
  simp only [Nat.mul_one, Nat.add_zero] at hg
  obtain ⟨dd, hd⟩ := Option.isSome_iff_exists.1 hu
  simp only [isAggB, hd] at ha
  have h2 : (isAgg e).run P w = .ok false w := by
    simp only [isAgg, Sem.run_bind, run_underlying hd, Result.andThen_ok]
    cases dd <;> simp_all
  simp [execOp, hρ _ _ hx, hρ _ _ hy, Instr.index, asIntOf, run_underlying ht, h0, h1, part, h2, Go.sizeOf, typeInfo, hq, hq1, hg]
/-- an array that nobody changes any more, as a slice -/
theorem St.shutArr {α : Type} {enc : α → List Value} {z n b : Nat} {t : TypeId} {hl : ∀ x, (enc x).length = z} {h1 : ∀ x, ∀ u ∈ enc x, u.oneCell' = true} {xs : List α} {θ : List Ent} {w : World} (h : St C η ι w) (hr : Rem η (eBlk b t (aC enc xs)) θ) (hn : decide (xs.length = n) = true) : St C θ (fV (lSlice (lFlat enc z hl h1)) (.slice (some ⟨b, 0, none⟩) n n) xs :: ι) w := by
  simp only [decide_eq_true_eq] at hn
  refine (h.subEnts hr.sub).fact ⟨_, _, _, rfl, hn.symm, Nat.le_refl _, .inr ⟨b, 0, rfl, h.freed hr rfl, fun i x hx => ⟨enc x, rfl, fun j u hu => ?_⟩⟩⟩
  have hk : w.heap[b]? = some (.cells (aC enc xs).toArray t (0, 0)) := h.ents _ hr.mem
  obtain ⟨hi, hxi⟩ := List.getElem?_eq_some_iff.1 hx
  obtain ⟨e1, e2⟩ := aC_part hl xs i hi
  have hj : j < (enc x).length := (List.getElem?_eq_some_iff.1 hu).1
  have hg : (aC enc xs)[i * z + j]? = some u := by
    rw [e1, List.getElem?_append_right (by omega), e2, Nat.add_sub_cancel_left, hxi, List.getElem?_append_left hj]
    exact hu
  show w.cell? ⟨b, 0 + i * z + j, none⟩ = some u
  rw [Nat.zero_add]
  simp [World.cell?, hk, hg]
theorem act_sliceA {x : Operand} {t e : TypeId} {n b z : Nat} (hx : ev σ x = some (.pointer (some ⟨b, 0, none⟩))) (ht : P.underlying t = some (.array n e)) (hs : sizeB P e = some z) :
    ActOk P C ⟨d, .slice t x none none none, ty, pos, af, gd⟩ σ η ι (fun v θ κ => v = .slice (some ⟨b, 0, none⟩) n n ∧ θ = η ∧ κ = ι) := fun ρ w hρ hst => by
  obtain ⟨q, hq, rfl⟩ : ∃ q, P.info? e = some q ∧ q.size = z := by simpa [sizeB] using hs
  have hr : (execOp ρ ⟨d, .slice t x none none none, ty, pos, af, gd⟩).run P w = .ok (.value (.slice (some ⟨b, 0, none⟩) n n)) w := by
    simp [execOp, hρ _ _ hx, Instr.sliceAt, run_underlying ht, Instr.sureAddr, Instr.sliceBounds, Go.sizeOf, typeInfo, hq, Addr.add_at]
  rw [hr]
  exact ⟨_, _, ⟨rfl, rfl, rfl⟩, hst⟩
theorem det_minI3 {x y x3 : Operand} {t u t3 : TypeId} {k : IntKind} {i j l : Int} (hx : ev σ x = some (.int k i)) (hy : ev σ y = some (.int k j)) (hz : ev σ x3 = some (.int k l)) :
    Det P C ⟨d, .call { callee := .builtin .min, args := #[x, y, x3], argTypes := #[t, u, t3] }, ty, pos, af, gd⟩ σ η ι (.int k (minI (minI i j) l)) := fun ρ w hρ _ => by
  unfold minI
  simp [execOp, resolve, invoke, builtin, Builtin.min_, Builtin.min2, hρ _ _ hx, hρ _ _ hy, hρ _ _ hz]
end
end Go.Proofs.Ytfekcgnnhjmeiaa
