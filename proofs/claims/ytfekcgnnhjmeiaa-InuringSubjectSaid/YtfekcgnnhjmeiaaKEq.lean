/- Comparing structs of which all parts are integers. Generic. -/
import Derived.Test.YtfekcgnnhjmeiaaKFun
import Derived.Laws.StructEq
namespace Go.Proofs.Ytfekcgnnhjmeiaa
open Go.RowKit

def fieldsB (P : Program) (rec : TypeId → Option Nat) : Nat → List Field → Option Nat
  | off, [] => some off
  | off, f :: fs => bif f.name == "_" || !(Nat.beq f.offset off) then none else match rec f.type with
    | some m => if sizeB P f.type = some m then fieldsB P rec (off + m) fs else none
    | none => none
/-- how many cells a type has of which all parts are of the type int -/
def flatB (P : Program) : Nat → TypeId → Option Nat
  | 0, _ => none
  | d + 1, t => match P.underlying t with
    | some (.int .i64) => some 1
    | some (.struct fs) => bif P.stoodInHeld t then none else fieldsB P (flatB P d) 0 fs.toList
    | _ => none
def cellsI (xs : List Int) : List Value := xs.map (.int .i64)
def PackOf (P : Program) (t : TypeId) (xs : List Int) (u : Value) : Prop := (isAggB P t = true ∧ u = .agg (cellsI xs).toArray) ∨ (isAggB P t = false ∧ ∃ x, xs = [x] ∧ u = .int .i64 x)

section
variable {P : Program} {w : World}

theorem flat_isAgg {d : Nat} {t : TypeId} {n : Nat} (h : flatB P d t = some n) : (isAggB P t = true ∧ (isAgg t).run P w = .ok true w) ∨ (isAggB P t = false ∧ (isAgg t).run P w = .ok false w ∧ n = 1) := by
  cases d with
  | zero => cases h
  | succ d =>
    unfold flatB at h
    cases hu : P.underlying t with
    | none => rw [hu] at h; cases h
    | some k =>
      rw [hu] at h
      cases k with
      | int k =>
        cases k <;> simp at h
        exact .inr ⟨by simp [isAggB, hu], by simp [isAgg, run_underlying hu], h.symm⟩
      | struct fs => exact .inl ⟨by simp [isAggB, hu], by simp [isAgg, run_underlying hu]⟩
      | _ => simp at h
theorem run_size_of {t : TypeId} {m : Nat} (h : sizeB P t = some m) : (Go.sizeOf t).run P w = .ok m w := by
  unfold sizeB at h
  obtain ⟨i, hi, rfl⟩ := Option.map_eq_some_iff.1 h
  simp [Go.sizeOf, typeInfo, hi]
theorem part_flat {d : Nat} {t : TypeId} {m off : Nat} {xs : List Int} (h : flatB P d t = some m) (hs : sizeB P t = some m) (hl : off + m ≤ xs.length) :
    ∃ u, (part t (cellsI xs).toArray off).run P w = .ok u w ∧ PackOf P t ((xs.drop off).take m) u := by
  rcases flat_isAgg (w := w) h with ⟨ha, hr⟩ | ⟨ha, hr, rfl⟩
  · refine ⟨.agg (cellsI ((xs.drop off).take m)).toArray, ?_, .inl ⟨ha, rfl⟩⟩
    simp only [part, Sem.run_bind, hr, Result.andThen_ok, if_true, run_size_of hs, Sem.run_pure]
    congr 2
    simp [cellsI, List.extract]
  · have hx : off < xs.length := by omega
    refine ⟨.int .i64 xs[off], ?_, .inr ⟨ha, xs[off], ?_, rfl⟩⟩
    · simp only [part, Sem.run_bind, hr, Result.andThen_ok, Bool.false_eq_true, if_false]
      simp [cellsI, hx]
    · rw [List.drop_eq_getElem_cons hx]
      rfl
theorem drop_split {xs ys : List Int} {off m : Nat} : (xs.drop off = ys.drop off) ↔ ((xs.drop off).take m = (ys.drop off).take m ∧ xs.drop (off + m) = ys.drop (off + m)) := by
  constructor
  · intro h
    exact ⟨by rw [h], by rw [← List.drop_drop, ← List.drop_drop, h]⟩
  · rintro ⟨h1, h2⟩
    rw [← List.take_append_drop m (xs.drop off), ← List.take_append_drop m (ys.drop off), h1, List.drop_drop, List.drop_drop, h2]
theorem eqFields_flat {rec : TypeId → Option Nat} {D n : Nat} {xs ys : List Int} (hx : xs.length = n) (hy : ys.length = n)
    (hd : ∀ t m, rec t = some m → ∃ d, flatB P d t = some m)
    (hrec : ∀ t m, rec t = some m → ∀ a b u v, PackOf P t a u → PackOf P t b v → a.length = m → b.length = m → (Op.equalIn D t u v).run P w = .ok (decide (a = b)) w) :
    ∀ (fs : List Field) (off : Nat), fieldsB P rec off fs = some n → (Op.eqFields D (cellsI xs).toArray (cellsI ys).toArray fs).run P w = .ok (decide (xs.drop off = ys.drop off)) w
  | [], off, h => by
    simp only [fieldsB, Option.some.injEq] at h
    subst h
    simp [Op.eqFields, hx, hy, List.drop_eq_nil_of_le]
  | f :: fs, off, h => by
    unfold fieldsB at h
    cases hb : (f.name == "_" || !(Nat.beq f.offset off)) with
    | true => rw [hb] at h; cases h
    | false =>
      rw [hb, cond_false] at h
      rw [Bool.or_eq_false_iff] at hb
      have ho : f.offset = off := Nat.eq_of_beq_eq_true (by simpa using hb.2)
      have hn : f.name ≠ "_" := by simpa using hb.1
      cases hr : rec f.type with
      | none => rw [hr] at h; cases h
      | some m =>
        rw [hr] at h
        simp only at h
        split at h
        · rename_i hs
          have hle : ∀ (fs : List Field) (o : Nat), fieldsB P rec o fs = some n → o ≤ n := by
            intro fs
            induction fs with
            | nil => intro o h; simp only [fieldsB, Option.some.injEq] at h; omega
            | cons g gs ih =>
              intro o h
              unfold fieldsB at h
              cases hb2 : (g.name == "_" || !(Nat.beq g.offset o)) with
              | true => rw [hb2] at h; cases h
              | false =>
                rw [hb2, cond_false] at h
                cases hr2 : rec g.type with
                | none => rw [hr2] at h; cases h
                | some m2 =>
                  rw [hr2] at h
                  simp only at h
                  split at h
                  · have := ih _ h
                    omega
                  · cases h
          have h1 := hle fs _ h
          obtain ⟨d, hfl⟩ := hd _ _ hr
          obtain ⟨u, hu, hpu⟩ := part_flat (w := w) (xs := xs) (off := off) hfl hs (by omega)
          obtain ⟨v, hv, hpv⟩ := part_flat (w := w) (xs := ys) (off := off) hfl hs (by omega)
          have he := hrec _ _ hr _ _ _ _ hpu hpv (by simp; omega) (by simp; omega)
          have ih := eqFields_flat hx hy hd hrec fs _ h
          unfold Op.eqFields
          rw [if_pos hn, ho]
          simp only [Sem.run_bind, hu, hv, he, Result.andThen_ok]
          have hsp := drop_split (xs := xs) (ys := ys) (off := off) (m := m)
          by_cases hq : (xs.drop off).take m = (ys.drop off).take m
          · simp only [hq, decide_true, Bool.not_true, Bool.false_eq_true, if_false, ih]
            congr 1
            exact decide_eq_decide.2 ⟨fun e => hsp.2 ⟨hq, e⟩, fun e => (hsp.1 e).2⟩
          · simp only [hq, decide_false, Bool.not_false, if_true, Sem.run_pure]
            congr 1
            exact (decide_eq_false fun e => hq (hsp.1 e).1).symm
        · cases h
theorem equal_flat : ∀ (d : Nat) (t : TypeId) (n D : Nat), flatB P d t = some n → d ≤ D → ∀ a b u v, PackOf P t a u → PackOf P t b v → a.length = n → b.length = n → (Op.equalIn D t u v).run P w = .ok (decide (a = b)) w
  | 0, _, _, _, h, _ => by cases h
  | d + 1, t, n, D, h, hD => by
    intro a b u v hu hv ha hb
    obtain ⟨D, rfl⟩ : ∃ E, D = E + 1 := ⟨D - 1, by omega⟩
    have h0 := h
    unfold flatB at h
    cases hk : P.underlying t with
    | none => rw [hk] at h; cases h
    | some k =>
      rw [hk] at h
      cases k with
      | int k =>
        have hag : isAggB P t = false := by simp [isAggB, hk]
        rcases hu with ⟨h1, _⟩ | ⟨_, x, rfl, rfl⟩
        · rw [hag] at h1; cases h1
        rcases hv with ⟨h1, _⟩ | ⟨_, y, rfl, rfl⟩
        · rw [hag] at h1; cases h1
        rw [run_equalIn_int w D t .i64 k x y hk]
        congr 1
        by_cases e : x = y <;> simp [e]
      | struct fs =>
        have hag : isAggB P t = true := by simp [isAggB, hk]
        rcases hu with ⟨_, rfl⟩ | ⟨h1, _⟩
        case inr => rw [hag] at h1; cases h1
        rcases hv with ⟨_, rfl⟩ | ⟨h1, _⟩
        case inr => rw [hag] at h1; cases h1
        cases hst : P.stoodInHeld t with
        | true => simp only [hst, cond_true] at h; cases h
        | false =>
          simp only [hst, cond_false] at h
          have hf : P.fieldsOf t = fs := by simp [Program.fieldsOf, hk]
          rw [run_equalIn_struct w D t _ _ (by rw [hf]; exact hk) hst, hf]
          have := eqFields_flat (P := P) (w := w) (D := D) (rec := flatB P d) ha hb (fun t m h => ⟨d, h⟩) (fun t m h a b u v hu hv ha hb => equal_flat d t m D h (by omega) a b u v hu hv ha hb) fs.toList 0 h
          simpa using this
      | _ => simp at h

variable {C : Cx} {σ : List (Nat × Value)} {η : List Ent} {ι : List Fact}
variable {d : Option Tmp} {ty : TypeId} {pos : String} {af : Array Edge} {gd : Option (Nat × Bool)}
/-- the type's parts are all of the type int: reckoned by the kernel -/
def eqOkB (P : Program) (t : TypeId) (n : Nat) : Bool := (flatB P 6 t == some n) && isAggB P t && !(P.eqGuardType P.depth t)
theorem det_eqlS {x y : Operand} {t u : TypeId} {n : Nat} (as bs : List Int) (h : eqOkB P t n = true) (ha : Nat.beq as.length n = true) (hb : Nat.beq bs.length n = true) (hx : ev σ x = some (.agg (cellsI as).toArray)) (hy : ev σ y = some (.agg (cellsI bs).toArray)) :
    Det P C ⟨d, .binOp .eql t x y u, ty, pos, af, gd⟩ σ η ι (.bool (decide (as = bs))) := fun ρ w hρ _ => by
  simp only [eqOkB, Bool.and_eq_true, beq_iff_eq, Bool.not_eq_true'] at h
  have he := equal_flat (P := P) (w := w) 6 t n 10000 h.1.1 (by omega) as bs _ _ (.inl ⟨h.1.2, rfl⟩) (.inl ⟨h.1.2, rfl⟩) (Nat.eq_of_beq_eq_true ha) (Nat.eq_of_beq_eq_true hb)
  simp only [execOp, hρ _ _ hx, hρ _ _ hy]
  simp [run_eqGuard_agg w .eql t x y _ _ h.2, run_eql_struct, he]
theorem det_neqS {x y : Operand} {t u : TypeId} {n : Nat} (as bs : List Int) (h : eqOkB P t n = true) (ha : Nat.beq as.length n = true) (hb : Nat.beq bs.length n = true) (hx : ev σ x = some (.agg (cellsI as).toArray)) (hy : ev σ y = some (.agg (cellsI bs).toArray)) :
    Det P C ⟨d, .binOp .neq t x y u, ty, pos, af, gd⟩ σ η ι (.bool (!decide (as = bs))) := fun ρ w hρ _ => by
  simp only [eqOkB, Bool.and_eq_true, beq_iff_eq, Bool.not_eq_true'] at h
  have he := equal_flat (P := P) (w := w) 6 t n 10000 h.1.1 (by omega) as bs _ _ (.inl ⟨h.1.2, rfl⟩) (.inl ⟨h.1.2, rfl⟩) (Nat.eq_of_beq_eq_true ha) (Nat.eq_of_beq_eq_true hb)
  simp only [execOp, hρ _ _ hx, hρ _ _ hy]
  simp [run_eqGuard_agg w .neq t x y _ _ h.2, run_neq_struct, he]
end
end Go.Proofs.Ytfekcgnnhjmeiaa
