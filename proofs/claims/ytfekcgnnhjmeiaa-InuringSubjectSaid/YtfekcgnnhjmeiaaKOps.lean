/- The logic of symbolic states: operations that only reckon and read. Generic: names no function of the program. -/
import Derived.Test.YtfekcgnnhjmeiaaKRule
import Derived.IntWalk
import Derived.Laws.Slices
import Derived.Laws.Entries
import Derived.Laws.Small
import Derived.Laws.Cover3
namespace Go.Proofs.Ytfekcgnnhjmeiaa
open Go.RowKit

/-! ### what the program's tables say of a type -/
def isAggB (P : Program) (t : TypeId) : Bool := match P.underlying t with | some (.struct _) => true | some (.array _ _) => true | _ => false
def sizeB (P : Program) (t : TypeId) : Option Nat := (P.info? t).map (·.size)
def fieldB (P : Program) (s f : Nat) : Option (Nat × Nat) := match P.underlying s with
  | some (.struct fs) => (fs[f]?).bind fun x => (sizeB P x.type).map fun z => (x.offset, z)
  | _ => none

/-- a load, whatever the type: of one cell, or of a record -/
theorem run_load1 {P : Program} {w : World} {t : TypeId} {a : Addr} {v : Value} (ha : isAggB P t = false) (hu : (P.underlying t).isSome = true) (hc : w.cell? a = some v) : (Instr.loadAt t (.pointer (some a))).run P w = .ok v w := by
  obtain ⟨d, hd⟩ := Option.isSome_iff_exists.1 hu
  simp only [isAggB, hd] at ha
  have h1 : (isAgg t).run P w = .ok false w := by
    simp only [isAgg, Sem.run_bind, run_underlying hd, Result.andThen_ok]
    cases d <;> simp_all
  simp [Instr.loadAt, Instr.sureAddr, loadVar, h1, hc]
theorem run_loadN {P : Program} {w : World} {t : TypeId} {b o : Nat} {cs : List Value} (ha : isAggB P t = true) (hz : sizeB P t = some cs.length) (hc : ∀ j v, cs[j]? = some v → w.cell? ⟨b, o + j, none⟩ = some v) :
    (Instr.loadAt t (.pointer (some ⟨b, o, none⟩))).run P w = .ok (.agg cs.toArray) w := by
  obtain ⟨i, hi, hsz⟩ : ∃ i, P.info? t = some i ∧ i.size = cs.length := by
    simp only [sizeB, Option.map_eq_some_iff] at hz
    exact hz
  have h1 : (isAgg t).run P w = .ok true w := by
    simp only [isAggB] at ha
    cases hd : P.underlying t with
    | none => simp [hd] at ha
    | some d =>
      simp only [hd] at ha
      simp only [isAgg, Sem.run_bind, run_underlying hd, Result.andThen_ok]
      cases d <;> simp_all
  have h2 : (Go.sizeOf t).run P w = .ok cs.length w := by simp [Go.sizeOf, typeInfo, hi, hsz]
  have h3 := run_loadCells_list (P := P) (w := w) ⟨b, o, none⟩ cs (fun j v hv => by
    have := hc j v hv
    rw [show (⟨b, o, none⟩ : Addr).add j = ⟨b, o + j, none⟩ by unfold Addr.add; split <;> simp_all]
    exact this)
  simp [Instr.loadAt, Instr.sureAddr, loadVar, h1, h2, h3]

section
variable {P : Program} {C : Cx} {n : FN} {Q : Exit → Act → World → Prop} {σ : List (Nat × Value)} {η : List Ent} {ι : List Fact}
variable {d : Option Tmp} {ty : TypeId} {pos : String} {af : Array Edge} {gd : Option (Nat × Bool)}

theorem det_move {x : Operand} {v : Value} (hx : ev σ x = some v) : Det P C ⟨d, .move x, ty, pos, af, gd⟩ σ η ι v := fun ρ w hρ _ => by simp [execOp, hρ _ _ hx]
theorem det_assign {x : Operand} {v : Value} (hx : ev σ x = some v) : Det P C ⟨d, .assign x, ty, pos, af, gd⟩ σ η ι v := fun ρ w hρ _ => by simp [execOp, hρ _ _ hx]
theorem det_pick {c x y : Operand} {b : Bool} {u v : Value} (hc : ev σ c = some (.bool b)) (hx : ev σ x = some u) (hy : ev σ y = some v) : Det P C ⟨d, .pick c x y, ty, pos, af, gd⟩ σ η ι (if b then u else v) :=
  fun ρ w hρ _ => by simp [execOp, hρ _ _ hc, hρ _ _ hx, hρ _ _ hy, asBool]
theorem det_pick_on {c x y : Operand} {p : Bool} {u v : Value} (hc : ev σ c = some (.bool p)) (hp : p = true) (hx : ev σ x = some u) (hy : ev σ y = some v) : Det P C ⟨d, .pick c x y, ty, pos, af, gd⟩ σ η ι u := by
  subst hp; simpa using det_pick (P := P) (C := C) (d := d) (ty := ty) (pos := pos) (af := af) (gd := gd) (η := η) (ι := ι) hc hx hy
theorem det_pick_off {c x y : Operand} {p : Bool} {u v : Value} (hc : ev σ c = some (.bool p)) (hp : p = false) (hx : ev σ x = some u) (hy : ev σ y = some v) : Det P C ⟨d, .pick c x y, ty, pos, af, gd⟩ σ η ι v := by
  subst hp; simpa using det_pick (P := P) (C := C) (d := d) (ty := ty) (pos := pos) (af := af) (gd := gd) (η := η) (ι := ι) hc hx hy
theorem det_and_on {c x y : Operand} {p q r : Bool} (hc : ev σ c = some (.bool p)) (hx : ev σ x = some (.bool q)) (hy : ev σ y = some (.bool r)) (hp : p = true) : Det P C ⟨d, .pick c x y, ty, pos, af, gd⟩ σ η ι (.bool (p && q)) := by
  subst hp; simpa using det_pick (P := P) (C := C) (d := d) (ty := ty) (pos := pos) (af := af) (gd := gd) (η := η) (ι := ι) hc hx hy
theorem det_and_off {c x y : Operand} {p q : Bool} {u : Value} (hc : ev σ c = some (.bool p)) (hx : ev σ x = some u) (hy : ev σ y = some (.bool false)) (hp : p = false) : Det P C ⟨d, .pick c x y, ty, pos, af, gd⟩ σ η ι (.bool (p && q)) := by
  subst hp; simpa using det_pick (P := P) (C := C) (d := d) (ty := ty) (pos := pos) (af := af) (gd := gd) (η := η) (ι := ι) hc hx hy
theorem det_or_off {c x y : Operand} {p q r : Bool} (hc : ev σ c = some (.bool p)) (hx : ev σ x = some (.bool q)) (hy : ev σ y = some (.bool r)) (hp : p = false) : Det P C ⟨d, .pick c x y, ty, pos, af, gd⟩ σ η ι (.bool (p || r)) := by
  subst hp; simpa using det_pick (P := P) (C := C) (d := d) (ty := ty) (pos := pos) (af := af) (gd := gd) (η := η) (ι := ι) hc hx hy
theorem det_or_on {c x y : Operand} {p r : Bool} {u : Value} (hc : ev σ c = some (.bool p)) (hx : ev σ x = some (.bool true)) (hy : ev σ y = some u) (hp : p = true) : Det P C ⟨d, .pick c x y, ty, pos, af, gd⟩ σ η ι (.bool (p || r)) := by
  subst hp; simpa using det_pick (P := P) (C := C) (d := d) (ty := ty) (pos := pos) (af := af) (gd := gd) (η := η) (ι := ι) hc hx hy
theorem det_field {x : Operand} {s f b o off z : Nat} (hx : ev σ x = some (.pointer (some ⟨b, o, none⟩))) (hf : fieldB P s f = some (off, z)) (hz : Nat.blt 0 z = true) :
    Det P C ⟨d, .fieldAddr s x f, ty, pos, af, gd⟩ σ η ι (.pointer (some ⟨b, o + off, none⟩)) := fun ρ w hρ _ => by
  unfold fieldB at hf
  cases hu : P.underlying s with
  | none => simp [hu] at hf
  | some ds =>
    simp only [hu] at hf
    split at hf
    · rename_i fs hds
      obtain rfl : ds = .struct fs := by simpa using hds
      obtain ⟨fl, hfl, h2⟩ := Option.bind_eq_some_iff.1 hf
      obtain ⟨z', hz', h3⟩ := Option.map_eq_some_iff.1 h2
      simp only [Prod.mk.injEq] at h3
      obtain ⟨rfl, rfl⟩ := h3
      obtain ⟨i, hi, rfl⟩ : ∃ i, P.info? fl.type = some i ∧ i.size = z' := by simpa [sizeB] using hz'
      have hne : i.size ≠ 0 := by intro e; rw [e] at hz; cases hz
      have hadd : (⟨b, o, none⟩ : Addr).add fl.offset = ⟨b, o + fl.offset, none⟩ := by unfold Addr.add; split <;> simp_all
      simp [execOp, hρ _ _ hx, Instr.fieldAt, run_underlying hu, hfl, Instr.sureAddr, fieldPlace, Go.sizeOf, typeInfo, hi, hne, hadd]
    · cases hf
theorem det_load {x : Operand} {t b o : Nat} {tt : TypeId} {cs : List Value} {v : Value} (hx : ev σ x = some (.pointer (some ⟨b, o, none⟩))) (he : eBlk b tt cs ∈ η) (hc : cs[o]? = some v)
    (ha : isAggB P t = false) (hu : (P.underlying t).isSome = true) : Det P C ⟨d, .load t x, ty, pos, af, gd⟩ σ η ι v := fun ρ w hρ hst => by
  have hk : w.heap[b]? = some (.cells cs.toArray tt (0, 0)) := hst.ent he
  have hcell : w.cell? ⟨b, o, none⟩ = some v := by simp [World.cell?, hk, hc]
  simp [execOp, hρ _ _ hx, run_load1 ha hu hcell]
theorem det_loadN {x : Operand} {t b o : Nat} {tt : TypeId} {cs cells : List Value} (hx : ev σ x = some (.pointer (some ⟨b, o, none⟩))) (he : eBlk b tt cs ∈ η) (hc : (cs.drop o).take cells.length = cells)
    (ha : isAggB P t = true) (hz : sizeB P t = some cells.length) : Det P C ⟨d, .load t x, ty, pos, af, gd⟩ σ η ι (.agg cells.toArray) := fun ρ w hρ hst => by
  have hk : w.heap[b]? = some (.cells cs.toArray tt (0, 0)) := hst.ent he
  have hr := run_loadN (P := P) (w := w) (b := b) (o := o) (cs := cells) ha hz (fun j v hv => by
    rw [← hc, List.getElem?_take] at hv
    split at hv
    · rw [List.getElem?_drop] at hv; simp [World.cell?, hk, hv]
    · cases hv)
  simp [execOp, hρ _ _ hx, hr]
/-- the cells lie there, for good -/
def fAt (b off : Nat) (cs : List Value) : Fact := ⟨fun w S => S b ∧ At w b off cs, fun h k => ⟨h.1, h.2.keep (k _ h.1)⟩, fun h k => ⟨k _ h.1, h.2⟩⟩
theorem det_loadF {x : Operand} {t b o : Nat} {v : Value} (hx : ev σ x = some (.pointer (some ⟨b, o, none⟩))) (he : fAt b o [v] ∈ ι) (ha : isAggB P t = false) (hu : (P.underlying t).isSome = true) :
    Det P C ⟨d, .load t x, ty, pos, af, gd⟩ σ η ι v := fun ρ w hρ hst => by
  have hk : w.cell? ⟨b, o, none⟩ = some v := (hst.facts _ he).2 0 v rfl
  simp [execOp, hρ _ _ hx, run_load1 ha hu hk]
/-- a field of a record that lies there -/
theorem det_loadFi {x : Operand} {t b o j : Nat} {cs : List Value} {v : Value} (hx : ev σ x = some (.pointer (some ⟨b, o + j, none⟩))) (he : fAt b o cs ∈ ι) (hc : cs[j]? = some v) (ha : isAggB P t = false) (hu : (P.underlying t).isSome = true) :
    Det P C ⟨d, .load t x, ty, pos, af, gd⟩ σ η ι v := fun ρ w hρ hst => by
  have hk : w.cell? ⟨b, o + j, none⟩ = some v := (hst.facts _ he).2 j v hc
  simp [execOp, hρ _ _ hx, run_load1 ha hu hk]
theorem det_loadFN {x : Operand} {t b o : Nat} {cs : List Value} (hx : ev σ x = some (.pointer (some ⟨b, o, none⟩))) (he : fAt b o cs ∈ ι) (ha : isAggB P t = true) (hz : sizeB P t = some cs.length) :
    Det P C ⟨d, .load t x, ty, pos, af, gd⟩ σ η ι (.agg cs.toArray) := fun ρ w hρ hst => by
  simp [execOp, hρ _ _ hx, run_loadN (P := P) ha hz (hst.facts _ he).2]
/-! integers -/
theorem det_add {x y : Operand} {t u : TypeId} {k : IntKind} {i j : Int} (hx : ev σ x = some (.int k i)) (hy : ev σ y = some (.int k j)) : Det P C ⟨d, .binOp .add t x y u, ty, pos, af, gd⟩ σ η ι (.int k (k.wrap (i + j))) :=
  fun ρ w hρ _ => by simp [execOp, hρ _ _ hx, hρ _ _ hy, eqGuard, binOp, Op.intArith]
theorem det_sub {x y : Operand} {t u : TypeId} {k : IntKind} {i j : Int} (hx : ev σ x = some (.int k i)) (hy : ev σ y = some (.int k j)) : Det P C ⟨d, .binOp .sub t x y u, ty, pos, af, gd⟩ σ η ι (.int k (k.wrap (i - j))) :=
  fun ρ w hρ _ => by simp [execOp, hρ _ _ hx, hρ _ _ hy, eqGuard, binOp, Op.intArith]
theorem det_mul {x y : Operand} {t u : TypeId} {k : IntKind} {i j : Int} (hx : ev σ x = some (.int k i)) (hy : ev σ y = some (.int k j)) : Det P C ⟨d, .binOp .mul t x y u, ty, pos, af, gd⟩ σ η ι (.int k (k.wrap (i * j))) :=
  fun ρ w hρ _ => by simp [execOp, hρ _ _ hx, hρ _ _ hy, eqGuard, binOp, Op.intArith]
theorem det_addw {x y : Operand} {t u : TypeId} {i j : Int} (hx : ev σ x = some (.int .i64 i)) (hy : ev σ y = some (.int .i64 j)) (h : -9223372036854775808 ≤ i + j ∧ i + j ≤ 9223372036854775807) : Det P C ⟨d, .binOp .add t x y u, ty, pos, af, gd⟩ σ η ι (.int .i64 (i + j)) := by
  have := det_add (P := P) (C := C) (d := d) (ty := ty) (pos := pos) (af := af) (gd := gd) (η := η) (ι := ι) (t := t) (u := u) hx hy
  rwa [IntWalk.i64_in _ h] at this
theorem det_subw {x y : Operand} {t u : TypeId} {i j : Int} (hx : ev σ x = some (.int .i64 i)) (hy : ev σ y = some (.int .i64 j)) (h : -9223372036854775808 ≤ i - j ∧ i - j ≤ 9223372036854775807) : Det P C ⟨d, .binOp .sub t x y u, ty, pos, af, gd⟩ σ η ι (.int .i64 (i - j)) := by
  have := det_sub (P := P) (C := C) (d := d) (ty := ty) (pos := pos) (af := af) (gd := gd) (η := η) (ι := ι) (t := t) (u := u) hx hy
  rwa [IntWalk.i64_in _ h] at this
theorem det_mulw {x y : Operand} {t u : TypeId} {i j : Int} (hx : ev σ x = some (.int .i64 i)) (hy : ev σ y = some (.int .i64 j)) (h : -9223372036854775808 ≤ i * j ∧ i * j ≤ 9223372036854775807) : Det P C ⟨d, .binOp .mul t x y u, ty, pos, af, gd⟩ σ η ι (.int .i64 (i * j)) := by
  have := det_mul (P := P) (C := C) (d := d) (ty := ty) (pos := pos) (af := af) (gd := gd) (η := η) (ι := ι) (t := t) (u := u) hx hy
  rwa [IntWalk.i64_in _ h] at this
theorem det_subN {x y : Operand} {t u : TypeId} (i j : Nat) (hx : ev σ x = some (.int .i64 (i : Int))) (hy : ev σ y = some (.int .i64 (j : Int))) (h : j ≤ i) (h2 : i ≤ 9223372036854775807) : Det P C ⟨d, .binOp .sub t x y u, ty, pos, af, gd⟩ σ η ι (.int .i64 ((i - j : Nat) : Int)) := by
  have := det_subw (P := P) (C := C) (d := d) (ty := ty) (pos := pos) (af := af) (gd := gd) (η := η) (ι := ι) (t := t) (u := u) hx hy (by omega)
  rwa [show (i : Int) - (j : Int) = ((i - j : Nat) : Int) by omega] at this
theorem det_negw {x : Operand} {t : TypeId} {i : Int} (hx : ev σ x = some (.int .i64 i)) (h : -9223372036854775808 < i ∧ i ≤ 9223372036854775807) : Det P C ⟨d, .unOp .neg t x, ty, pos, af, gd⟩ σ η ι (.int .i64 (-i)) :=
  fun ρ w hρ _ => by
    have e : IntKind.i64.wrap (-i) = -i := IntWalk.i64_in _ ⟨by omega, by omega⟩
    simp [execOp, hρ _ _ hx, Op.unary, Op.intArith, e]
/-- a number of a small kind as an int -/
theorem det_convw {x : Operand} {s t : TypeId} {k' : IntKind} {i : Int} (hx : ev σ x = some (.int k' i)) (hs : (P.underlying s).isSome = true) (ht : P.underlying t = some (.int .i64)) (h : -9223372036854775808 ≤ i ∧ i ≤ 9223372036854775807) : Det P C ⟨d, .convert s t x, ty, pos, af, gd⟩ σ η ι (.int .i64 i) :=
  fun ρ w hρ _ => by
    obtain ⟨ds, hds⟩ := Option.isSome_iff_exists.1 hs
    simp [execOp, hρ _ _ hx, convert, run_underlying hds, run_underlying ht, Conv.intToInt, IntWalk.i64_in _ h]
theorem det_beql {x y : Operand} {t u : TypeId} {i j : Bool} (hx : ev σ x = some (.bool i)) (hy : ev σ y = some (.bool j)) (ht : P.underlying t = some .bool) : Det P C ⟨d, .binOp .eql t x y u, ty, pos, af, gd⟩ σ η ι (.bool (i == j)) :=
  fun ρ w hρ _ => by simp [execOp, hρ _ _ hx, hρ _ _ hy, eqGuard, binOp, run_equal_bool w t i j ht]
theorem det_bneq {x y : Operand} {t u : TypeId} {i j : Bool} (hx : ev σ x = some (.bool i)) (hy : ev σ y = some (.bool j)) (ht : P.underlying t = some .bool) : Det P C ⟨d, .binOp .neq t x y u, ty, pos, af, gd⟩ σ η ι (.bool (!(i == j))) :=
  fun ρ w hρ _ => by simp [execOp, hρ _ _ hx, hρ _ _ hy, eqGuard, binOp, run_equal_bool w t i j ht]
theorem det_lss {x y : Operand} {t u : TypeId} {k : IntKind} {i j : Int} (hx : ev σ x = some (.int k i)) (hy : ev σ y = some (.int k j)) : Det P C ⟨d, .binOp .lss t x y u, ty, pos, af, gd⟩ σ η ι (.bool (decide (i < j))) :=
  fun ρ w hρ _ => by simp [execOp, hρ _ _ hx, hρ _ _ hy, eqGuard, binOp, Op.intCmp]
theorem det_leq {x y : Operand} {t u : TypeId} {k : IntKind} {i j : Int} (hx : ev σ x = some (.int k i)) (hy : ev σ y = some (.int k j)) : Det P C ⟨d, .binOp .leq t x y u, ty, pos, af, gd⟩ σ η ι (.bool (decide (i ≤ j))) :=
  fun ρ w hρ _ => by simp [execOp, hρ _ _ hx, hρ _ _ hy, eqGuard, binOp, Op.intCmp]
theorem det_gtr {x y : Operand} {t u : TypeId} {k : IntKind} {i j : Int} (hx : ev σ x = some (.int k i)) (hy : ev σ y = some (.int k j)) : Det P C ⟨d, .binOp .gtr t x y u, ty, pos, af, gd⟩ σ η ι (.bool (decide (j < i))) :=
  fun ρ w hρ _ => by simp [execOp, hρ _ _ hx, hρ _ _ hy, eqGuard, binOp, Op.intCmp]
theorem det_geq {x y : Operand} {t u : TypeId} {k : IntKind} {i j : Int} (hx : ev σ x = some (.int k i)) (hy : ev σ y = some (.int k j)) : Det P C ⟨d, .binOp .geq t x y u, ty, pos, af, gd⟩ σ η ι (.bool (decide (j ≤ i))) :=
  fun ρ w hρ _ => by simp [execOp, hρ _ _ hx, hρ _ _ hy, eqGuard, binOp, Op.intCmp]
theorem det_eql {x y : Operand} {t u : TypeId} {k : IntKind} {i j : Int} (hx : ev σ x = some (.int k i)) (hy : ev σ y = some (.int k j)) : Det P C ⟨d, .binOp .eql t x y u, ty, pos, af, gd⟩ σ η ι (.bool (decide (i = j))) :=
  fun ρ w hρ _ => by simp [execOp, hρ _ _ hx, hρ _ _ hy, eqGuard, binOp, Op.intCmp]; rfl
theorem det_neq {x y : Operand} {t u : TypeId} {k : IntKind} {i j : Int} (hx : ev σ x = some (.int k i)) (hy : ev σ y = some (.int k j)) : Det P C ⟨d, .binOp .neq t x y u, ty, pos, af, gd⟩ σ η ι (.bool (!decide (i = j))) :=
  fun ρ w hρ _ => by simp [execOp, hρ _ _ hx, hρ _ _ hy, eqGuard, binOp, Op.intCmp, bne]; rfl
theorem det_quo {x y : Operand} {t u : TypeId} {k : IntKind} {i j : Int} (hx : ev σ x = some (.int k i)) (hy : ev σ y = some (.int k j)) (h0 : j ≠ 0) : Det P C ⟨d, .binOp .quo t x y u, ty, pos, af, gd⟩ σ η ι (.int k (k.wrap (i.tdiv j))) :=
  fun ρ w hρ _ => by simp [execOp, hρ _ _ hx, hρ _ _ hy, eqGuard, binOp, Op.intDiv, h0]
theorem det_rem {x y : Operand} {t u : TypeId} {k : IntKind} {i j : Int} (hx : ev σ x = some (.int k i)) (hy : ev σ y = some (.int k j)) (h0 : j ≠ 0) : Det P C ⟨d, .binOp .rem t x y u, ty, pos, af, gd⟩ σ η ι (.int k (i.tmod j)) :=
  fun ρ w hρ _ => by simp [execOp, hρ _ _ hx, hρ _ _ hy, eqGuard, binOp, Op.intDiv, h0]
theorem det_not {x : Operand} {t : TypeId} {b : Bool} (hx : ev σ x = some (.bool b)) : Det P C ⟨d, .unOp .not t x, ty, pos, af, gd⟩ σ η ι (.bool (!b)) :=
  fun ρ w hρ _ => by simp [execOp, hρ _ _ hx, Op.unary]
theorem det_neg {x : Operand} {t : TypeId} {k : IntKind} {i : Int} (hx : ev σ x = some (.int k i)) : Det P C ⟨d, .unOp .neg t x, ty, pos, af, gd⟩ σ η ι (.int k (k.wrap (0 - i))) :=
  fun ρ w hρ _ => by simp [execOp, hρ _ _ hx, Op.unary, Op.intArith]
theorem det_conv {x : Operand} {s t : TypeId} {k k' : IntKind} {i : Int} (hx : ev σ x = some (.int k' i)) (hs : (P.underlying s).isSome = true) (ht : P.underlying t = some (.int k)) : Det P C ⟨d, .convert s t x, ty, pos, af, gd⟩ σ η ι (.int k (k.wrap i)) :=
  fun ρ w hρ _ => by
    obtain ⟨ds, hds⟩ := Option.isSome_iff_exists.1 hs
    simp [execOp, hρ _ _ hx, convert, run_underlying hds, run_underlying ht, Conv.intToInt]
/-! slices -/
theorem det_len {x : Operand} {t e : TypeId} {A : Option Addr} {m c : Nat} (hx : ev σ x = some (.slice A m c)) (ht : P.underlying t = some (.slice e)) :
    Det P C ⟨d, .call { callee := .builtin .len, args := #[x], argTypes := #[t] }, ty, pos, af, gd⟩ σ η ι (.int .i64 (m : Int)) := fun ρ w hρ _ => by
  simp [execOp, resolve, invoke, builtin, Builtin.len_, hρ _ _ hx, run_underlying ht, goInt]
theorem det_min {x y : Operand} {t u : TypeId} {k : IntKind} {i j : Int} (hx : ev σ x = some (.int k i)) (hy : ev σ y = some (.int k j)) :
    Det P C ⟨d, .call { callee := .builtin .min, args := #[x, y], argTypes := #[t, u] }, ty, pos, af, gd⟩ σ η ι (.int k (if j < i then j else i)) := fun ρ w hρ _ => by
  simp [execOp, resolve, invoke, builtin, Builtin.min_, Builtin.min2, hρ _ _ hx, hρ _ _ hy]
theorem det_minN {x y : Operand} {t u : TypeId} {k : IntKind} (i j : Nat) (hx : ev σ x = some (.int k (i : Int))) (hy : ev σ y = some (.int k (j : Int))) :
    Det P C ⟨d, .call { callee := .builtin .min, args := #[x, y], argTypes := #[t, u] }, ty, pos, af, gd⟩ σ η ι (.int k ((min i j : Nat) : Int)) := by
  have e : (if (j : Int) < (i : Int) then (j : Int) else (i : Int)) = ((min i j : Nat) : Int) := by split <;> omega
  have := det_min (P := P) (C := C) (d := d) (ty := ty) (pos := pos) (af := af) (gd := gd) (η := η) (ι := ι) (t := t) (u := u) hx hy
  rwa [e] at this
theorem det_max {x y : Operand} {t u : TypeId} {k : IntKind} {i j : Int} (hx : ev σ x = some (.int k i)) (hy : ev σ y = some (.int k j)) :
    Det P C ⟨d, .call { callee := .builtin .max, args := #[x, y], argTypes := #[t, u] }, ty, pos, af, gd⟩ σ η ι (.int k (if i < j then j else i)) := fun ρ w hρ _ => by
  simp [execOp, resolve, invoke, builtin, Builtin.max_, Builtin.max2, hρ _ _ hx, hρ _ _ hy]
theorem det_index {x y : Operand} {t e : TypeId} {kd : IntKind} {b o m c z k : Nat} (hx : ev σ x = some (.slice (some ⟨b, o, none⟩) m c)) (hy : ev σ y = some (.int kd (k : Int))) (hk : k < m) (ht : P.underlying t = some (.slice e)) (hz : sizeB P e = some z) :
    Det P C ⟨d, .indexAddr t x y, ty, pos, af, gd⟩ σ η ι (.pointer (some ⟨b, o + k * z, none⟩)) := fun ρ w hρ _ => by
  obtain ⟨i, hi, rfl⟩ : ∃ i, P.info? e = some i ∧ i.size = z := by simpa [sizeB] using hz
  have hadd : (⟨b, o, none⟩ : Addr).add (k * i.size) = ⟨b, o + k * i.size, none⟩ := by unfold Addr.add; split <;> simp_all
  simp [execOp, hρ _ _ hx, hρ _ _ hy, Instr.indexAt, asIntOf, run_underlying ht, Go.sizeOf, typeInfo, hi, hk, hadd]
theorem det_isNil {x y : Operand} {t u e : TypeId} {A : Option Addr} {m c : Nat} (hx : ev σ x = some (.slice A m c)) (hy : ev σ y = some (.slice none 0 0)) (ht : P.underlying t = some (.slice e)) : Det P C ⟨d, .binOp .eql t x y u, ty, pos, af, gd⟩ σ η ι (.bool A.isNone) :=
  fun ρ w hρ _ => by simp [execOp, hρ _ _ hx, hρ _ _ hy, eqGuard, binOp, run_equal_slice_nil w t e A m c ht]
/-- x[:h] -/
theorem det_sliceH {x y : Operand} {t e : TypeId} {A : Option Addr} {m c h : Nat} {k : IntKind} (hx : ev σ x = some (.slice A m c)) (hy : ev σ y = some (.int k (h : Int))) (hh : h ≤ c) (ht : P.underlying t = some (.slice e)) (hz : (P.info? e).isSome = true) :
    Det P C ⟨d, .slice t x none (some y) none, ty, pos, af, gd⟩ σ η ι (.slice A h c) := fun ρ w hρ _ => by
  obtain ⟨i, hi⟩ := Option.isSome_iff_exists.1 hz
  have e1 : (if c = 0 then A else A.map (·.add 0)) = A := by cases A <;> simp [Addr.add]
  simp [execOp, hρ _ _ hx, hρ _ _ hy, Instr.sliceAt, Instr.slice, Instr.sliceBounds, Instr.sliceBound, asIntOf, run_underlying ht, Go.sizeOf, typeInfo, hi, hh, e1]
theorem det_extract {x : Operand} {vs : List Value} {i : Nat} {v : Value} (hx : ev σ x = some (.tuple vs.toArray)) (hv : vs[i]? = some v) : Det P C ⟨d, .extract x i, ty, pos, af, gd⟩ σ η ι v :=
  fun ρ w hρ _ => by simp [execOp, hρ _ _ hx, Instr.extract, hv]
end
end Go.Proofs.Ytfekcgnnhjmeiaa
