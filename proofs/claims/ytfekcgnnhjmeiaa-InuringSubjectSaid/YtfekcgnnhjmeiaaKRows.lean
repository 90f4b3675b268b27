/- The logic of symbolic states: slices, those that nobody changes and those of the call's own: elements, append, make, literals, parts. Generic: names no function of the program. -/
import Derived.Test.YtfekcgnnhjmeiaaKDraw
namespace Go.Proofs.Ytfekcgnnhjmeiaa
open Go.RowKit

def pAt (A : Option Addr) (k : Nat) : Value := .pointer (A.map (·.add k))
/-- these cells lie there for good -/
def fPt (A : Option Addr) (k : Nat) (cs : List Value) : Fact where
  R := fun w S => ∃ b o, A = some ⟨b, o, none⟩ ∧ S b ∧ At w b (o + k) cs
  keep := fun ⟨b, o, h1, h2, h3⟩ hs => ⟨b, o, h1, h2, h3.keep (hs b h2)⟩
  sub := fun ⟨b, o, h1, h2, h3⟩ hs => ⟨b, o, h1, hs b h2, h3⟩

theorem inb_spec {α : Type} {xs : List α} {i : Int} (h : inb xs i = true) : 0 ≤ i ∧ i.toNat < xs.length := by
  simp only [inb, Bool.and_eq_true, decide_eq_true_eq] at h
  omega
theorem ix_eq {α : Type} [Inhabited α] {xs : List α} {i : Int} (h : i.toNat < xs.length) : ix xs i = xs[i.toNat] := by
  simp [ix, h]

section
variable {P : Program} {C : Cx} {n : FN} {Q : Exit → Act → World → Prop} {σ : List (Nat × Value)} {η : List Ent} {ι : List Fact}

theorem St.lenF {α : Type} {L : Lay α} {w : World} {A : Option Addr} {m c : Nat} {xs : List α} (h : St C η ι w) (hf : fV (lSlice L) (.slice A m c) xs ∈ ι) : m = xs.length := (lSlice_of (h.facts _ hf)).1
theorem St.lenO {α : Type} {L : Lay α} {w : World} {e : TypeId} {A : Option Addr} {m c : Nat} {xs : List α} (h : St C η ι w) (hf : eS L e A m c xs ∈ η) : m = xs.length := (h.ents _ hf).1
/-- the element i of a slice, opened -/
theorem St.openE {α : Type} [Inhabited α] {L : Lay α} {w : World} {A : Option Addr} {m c : Nat} {xs : List α} (h : St C η ι w) (hf : fV (lSlice L) (.slice A m c) xs ∈ ι) {i : Int} (hi : inb xs i = true) :
    ∃ cs, St C η (fPt A (i.toNat * L.size) cs :: fC L cs (ix xs i) :: ι) w := by
  obtain ⟨h0, h1⟩ := inb_spec hi
  obtain ⟨b, o, cs, hA, hb, hr, hat⟩ := (lSlice_of (h.facts _ hf)).2.2.at_ h1
  refine ⟨cs, (h.fact (f := fC L cs (ix xs i)) ?_).fact ⟨b, o, hA, hb, hat⟩⟩
  rw [ix_eq h1]
  exact hr
theorem St.openF {α : Type} [Inhabited α] {enc : α → List Value} {z : Nat} {hl : ∀ x, (enc x).length = z} {h1 : ∀ x, ∀ u ∈ enc x, u.oneCell' = true} {w : World} {A : Option Addr} {m c : Nat} {xs : List α} (h : St C η ι w) (hf : fV (lSlice (lFlat enc z hl h1)) (.slice A m c) xs ∈ ι) {i : Int} (hi : inb xs i = true) :
    St C η (fPt A (i.toNat * z) (enc (ix xs i)) :: ι) w := by
  obtain ⟨cs, hs⟩ := h.openE hf hi
  have hc : cs = enc (ix xs i) := hs.facts _ (ms m0)
  subst hc
  exact hs.subFacts fun f hf => by
    rcases List.mem_cons.1 hf with rfl | hf
    · exact m0
    · exact ms (ms hf)

variable {d : Option Tmp} {ty : TypeId} {pos : String} {af : Array Edge} {gd : Option (Nat × Bool)}

theorem run_index {t e : TypeId} {kd : IntKind} {b o m c z : Nat} {i : Int} {w : World} (h0 : 0 ≤ i) (hm : i.toNat < m) (ht : P.underlying t = some (.slice e)) (hz : sizeB P e = some z) :
    (Instr.indexAt t (.slice (some ⟨b, o, none⟩) m c) (.int kd i)).run P w = .ok (.pointer (some ⟨b, o + i.toNat * z, none⟩)) w := by
  obtain ⟨q, hq, rfl⟩ : ∃ q, P.info? e = some q ∧ q.size = z := by simpa [sizeB] using hz
  have hi : i = (i.toNat : Int) := by omega
  have hadd := Addr.add_at b o (i.toNat * q.size)
  rw [hi] at h0 ⊢
  generalize i.toNat = k at *
  simp [Instr.indexAt, asIntOf, run_underlying ht, Go.sizeOf, typeInfo, hq, hm, hadd]
theorem det_indexP {α : Type} {L : Lay α} {x y : Operand} {t e : TypeId} {kd : IntKind} {A : Option Addr} {m c z : Nat} {i : Int} {xs : List α} {cs : List Value} (hx : ev σ x = some (.slice A m c)) (hy : ev σ y = some (.int kd i)) (hf : fV (lSlice L) (.slice A m c) xs ∈ ι) (hi : inb xs i = true) (hp : fPt A (i.toNat * z) cs ∈ ι) (ht : P.underlying t = some (.slice e)) (hz : sizeB P e = some z) :
    Det P C ⟨d, .indexAddr t x y, ty, pos, af, gd⟩ σ η ι (pAt A (i.toNat * z)) := fun ρ w hρ hst => by
  obtain ⟨h0, h1⟩ := inb_spec hi
  have hm := hst.lenF hf
  obtain ⟨b, o, rfl, _, _⟩ := hst.facts _ hp
  simp [execOp, hρ _ _ hx, hρ _ _ hy, run_index h0 (hm ▸ h1) ht hz, pAt, Addr.add_at]
theorem St.ownAt {α : Type} {L : Lay α} {e : TypeId} {w : World} {A : Option Addr} {m c : Nat} {xs : List α} (h : St C η ι w) (hf : eS L e A m c xs ∈ η) (hne : 0 < xs.length) : ∃ g cur cs, A = some ⟨g, 0, none⟩ ∧ c ≠ 0 ∧ w.heap[g]? = some (.cells cur e (0, 0)) ∧ m ≤ c ∧ c ≤ maxLen ∧ c * L.size ≤ cur.size ∧ cur.toList.take (m * L.size) = cs ∧ Cells L w (Im C η w) cs xs ∧ m = xs.length := by
  obtain ⟨hn, ⟨_, h0⟩ | ⟨hc0, cs, hk, hc⟩⟩ := h.ents _ hf
  · subst h0; simp at hne
  · rcases hk.2 with ⟨hv, h0⟩ | ⟨g, cap, cur, hv, _, hg, hnc, hcm, hcs, htk⟩
    · omega
    · simp only [Value.slice.injEq, true_and] at hv
      obtain ⟨rfl, rfl⟩ := hv
      exact ⟨g, cur, cs, rfl, hc0, hg, hnc, hcm, hcs, htk, hc, hn⟩
theorem own_cell {w : World} {g : Nat} {cur : Array Value} {e : TypeId} {k : Nat} {cs : List Value} {j : Nat} {u : Value} (hg : w.heap[g]? = some (.cells cur e (0, 0))) (htk : cur.toList.take k = cs) (hu : cs[j]? = some u) : w.cell? ⟨g, j, none⟩ = some u := by
  have hu2 : cur[j]? = some u := by
    rw [← htk, List.getElem?_take] at hu
    split at hu
    · simpa using hu
    · cases hu
  simp [World.cell?, hg, hu2]
theorem det_indexO {α : Type} {L : Lay α} {x y : Operand} {t e e' : TypeId} {kd : IntKind} {A : Option Addr} {m c z : Nat} {i : Int} {xs : List α} (hx : ev σ x = some (.slice A m c)) (hy : ev σ y = some (.int kd i)) (hf : eS L e' A m c xs ∈ η) (hi : inb xs i = true) (ht : P.underlying t = some (.slice e)) (hz : sizeB P e = some z) :
    Det P C ⟨d, .indexAddr t x y, ty, pos, af, gd⟩ σ η ι (pAt A (i.toNat * z)) := fun ρ w hρ hst => by
  obtain ⟨h0, h1⟩ := inb_spec hi
  obtain ⟨g, cur, cs, rfl, _, _, _, _, _, _, _, hm⟩ := hst.ownAt hf (by omega)
  simp [execOp, hρ _ _ hx, hρ _ _ hy, run_index h0 (hm ▸ h1) ht hz, pAt, Addr.add_at]
/-- a place of a slice: told once, it holds whatever is written -/
def IxOk (A : Option Addr) (m : Nat) (i : Int) : Prop := ∃ b o, A = some ⟨b, o, none⟩ ∧ 0 ≤ i ∧ i.toNat < m
theorem St.ixA {α : Type} {L : Lay α} {w : World} {e : TypeId} {A : Option Addr} {m c : Nat} {i : Int} {xs : List α} (h : St C η ι w) (hf : eS L e A m c xs ∈ η) (hi : inb xs i = true) : IxOk A m i := by
  obtain ⟨h0, h1⟩ := inb_spec hi
  obtain ⟨g, cur, cs, rfl, _, _, _, _, _, _, _, hm⟩ := h.ownAt hf (by omega)
  exact ⟨_, _, rfl, h0, hm ▸ h1⟩
theorem det_indexV {x y : Operand} {t e : TypeId} {kd : IntKind} {A : Option Addr} {m c z : Nat} {i : Int} (hx : ev σ x = some (.slice A m c)) (hy : ev σ y = some (.int kd i)) (hk : IxOk A m i) (ht : P.underlying t = some (.slice e)) (hz : sizeB P e = some z) :
    Det P C ⟨d, .indexAddr t x y, ty, pos, af, gd⟩ σ η ι (pAt A (i.toNat * z)) := fun ρ w hρ hst => by
  obtain ⟨b, o, rfl, h0, h1⟩ := hk
  simp [execOp, hρ _ _ hx, hρ _ _ hy, run_index h0 h1 ht hz, pAt, Addr.add_at]
theorem run_field {s f o z k b : Nat} {w : World} (hf : fieldB P s f = some (o, z)) (hz : Nat.blt 0 z = true) : (Instr.fieldAt s (.pointer (some ⟨b, k, none⟩)) f).run P w = .ok (.pointer (some ⟨b, k + o, none⟩)) w := by
  have hz' : z ≠ 0 := by intro e; rw [e] at hz; cases hz
  unfold fieldB at hf
  split at hf
  · rename_i fs hu
    obtain ⟨x, hx, hx2⟩ := Option.bind_eq_some_iff.1 hf
    obtain ⟨z', hz1, hz2⟩ := Option.map_eq_some_iff.1 hx2
    simp only [Prod.mk.injEq] at hz2
    obtain ⟨rfl, rfl⟩ := hz2
    obtain ⟨i, hi, hiz⟩ : ∃ i, P.info? x.type = some i ∧ i.size = z' := by simpa [sizeB] using hz1
    have hadd := Addr.add_at b k x.offset
    have hne : i.size ≠ 0 := by rw [hiz]; exact hz'
    simp [Instr.fieldAt, run_underlying hu, hx, Instr.sureAddr, fieldPlace, Go.sizeOf, typeInfo, hi, hne, hadd]
  · cases hf
/-- a field of a record in a slice -/
theorem det_fieldP {x : Operand} {s f o z k k' : Nat} {A : Option Addr} {cs : List Value} (hx : ev σ x = some (pAt A k)) (hp : fPt A k' cs ∈ ι) (hf : fieldB P s f = some (o, z)) (hz : Nat.blt 0 z = true) : Det P C ⟨d, .fieldAddr s x f, ty, pos, af, gd⟩ σ η ι (pAt A (k + o)) := fun ρ w hρ hst => by
  obtain ⟨b, o', rfl, _, _⟩ := hst.facts _ hp
  simp only [pAt, Option.map_some, Addr.add_at] at hx ⊢
  simp [execOp, hρ _ _ hx, run_field hf hz, Nat.add_assoc]
theorem det_fieldO {α : Type} {L : Lay α} {e : TypeId} {x : Operand} {s f o z k m c : Nat} {A : Option Addr} {xs : List α} {i : Int} (hx : ev σ x = some (pAt A k)) (he : eS L e A m c xs ∈ η) (hi : inb xs i = true) (hf : fieldB P s f = some (o, z)) (hz : Nat.blt 0 z = true) : Det P C ⟨d, .fieldAddr s x f, ty, pos, af, gd⟩ σ η ι (pAt A (k + o)) := fun ρ w hρ hst => by
  obtain ⟨h0, h1⟩ := inb_spec hi
  obtain ⟨g, cur, cs, rfl, _⟩ := hst.ownAt he (by omega)
  simp only [pAt, Option.map_some, Addr.add_at] at hx ⊢
  simp [execOp, hρ _ _ hx, run_field hf hz]
/-- what a load of so many cells gives -/
def Loaded (P : Program) (t : TypeId) (cells : List Value) (v : Value) : Prop := (isAggB P t = true ∧ sizeB P t = some cells.length ∧ v = .agg cells.toArray) ∨ (isAggB P t = false ∧ (P.underlying t).isSome = true ∧ cells = [v])
theorem loaded_n {t : TypeId} {cells : List Value} (ha : isAggB P t = true) (hz : sizeB P t = some cells.length) : Loaded P t cells (.agg cells.toArray) := .inl ⟨ha, hz, rfl⟩
theorem loaded_1 {t : TypeId} {v : Value} (ha : isAggB P t = false) (hu : (P.underlying t).isSome = true) : Loaded P t [v] v := .inr ⟨ha, hu, rfl⟩
theorem Loaded.run {t : TypeId} {cells : List Value} {v : Value} {w : World} {b o : Nat} (h : Loaded P t cells v) (hc : ∀ j u, cells[j]? = some u → w.cell? ⟨b, o + j, none⟩ = some u) : (Instr.loadAt t (.pointer (some ⟨b, o, none⟩))).run P w = .ok v w := by
  rcases h with ⟨ha, hz, rfl⟩ | ⟨ha, hu, rfl⟩
  · exact run_loadN ha hz hc
  · exact run_load1 ha hu (by simpa using hc 0 v rfl)
theorem det_loadP {x : Operand} {t k k' off : Nat} {A : Option Addr} {cs cells : List Value} {v : Value} (hx : ev σ x = some (pAt A k)) (hp : fPt A k' cs ∈ ι) (hk : k = k' + off) (hc : (cs.drop off).take cells.length = cells) (hl : Loaded P t cells v) : Det P C ⟨d, .load t x, ty, pos, af, gd⟩ σ η ι v := fun ρ w hρ hst => by
  obtain ⟨b, o', rfl, _, hat⟩ := hst.facts _ hp
  subst hk
  simp only [pAt, Option.map_some, Addr.add_at] at hx
  have hr := hl.run (w := w) (b := b) (o := o' + (k' + off)) fun j u hu => by
    rw [← hc, List.getElem?_take] at hu
    split at hu
    · rw [List.getElem?_drop] at hu
      have := hat _ u hu
      rw [show o' + (k' + off) + j = o' + k' + (off + j) by omega]
      exact this
    · cases hu
  simp [execOp, hρ _ _ hx, hr]
theorem take_drop_cell {cs cells : List Value} {off : Nat} (hc : (cs.drop off).take cells.length = cells) {j : Nat} {u : Value} (hu : cells[j]? = some u) : cs[off + j]? = some u := by
  rw [← hc, List.getElem?_take] at hu
  split at hu
  · rwa [List.getElem?_drop] at hu
  · cases hu
theorem det_loadO {α : Type} [Inhabited α] {enc : α → List Value} {z : Nat} {hl : ∀ x, (enc x).length = z} {h1 : ∀ x, ∀ u ∈ enc x, u.oneCell' = true} {e : TypeId} {x : Operand} {t k off m c : Nat} {A : Option Addr} {xs : List α} {i : Int} {cells : List Value} {v : Value} (hx : ev σ x = some (pAt A k)) (he : eS (lFlat enc z hl h1) e A m c xs ∈ η) (hi : inb xs i = true) (hk : k = i.toNat * z + off)
    (hc : ((enc (ix xs i)).drop off).take cells.length = cells) (hld : Loaded P t cells v) : Det P C ⟨d, .load t x, ty, pos, af, gd⟩ σ η ι v := fun ρ w hρ hst => by
  obtain ⟨h0, h2⟩ := inb_spec hi
  obtain ⟨g, cur, cs, rfl, _, hg, _, _, _, htk, hcs, hm⟩ := hst.ownAt he (by omega)
  subst hk
  simp only [pAt, Option.map_some, Addr.add_at, Nat.zero_add] at hx
  have hel : (cs.drop (i.toNat * z)).take z = enc (ix xs i) := by
    have := hcs.at_ h2
    rw [ix_eq h2]
    exact this
  have hr := hld.run (w := w) (b := g) (o := i.toNat * z + off) fun j u hu => by
    have h3 := take_drop_cell hc hu
    rw [← hel, List.getElem?_take] at h3
    split at h3
    · rw [List.getElem?_drop] at h3
      rw [show i.toNat * z + off + j = i.toNat * z + (off + j) by omega]
      exact own_cell hg htk h3
    · cases h3
  simp [execOp, hρ _ _ hx, hr]
/-- a load of a part without slices, of an element that may hold slices -/
theorem det_loadOX {α : Type} [Inhabited α] {L : Lay α} {e : TypeId} {x : Operand} {t k off z m c : Nat} {A : Option Addr} {xs : List α} {i : Int} {cells : List Value} {v : Value} (hx : ev σ x = some (pAt A k)) (he : eS L e A m c xs ∈ η) (hi : inb xs i = true) (hz : L.size = z) (hk : k = i.toNat * z + off)
    (hc : ∀ (w : World) (S : Nat → Prop) (cs : List Value), L.R w S cs (ix xs i) → (cs.drop off).take cells.length = cells) (hld : Loaded P t cells v) : Det P C ⟨d, .load t x, ty, pos, af, gd⟩ σ η ι v := fun ρ w hρ hst => by
  obtain ⟨h0, h2⟩ := inb_spec hi
  obtain ⟨g, cur, cs, rfl, _, hg, _, _, _, htk, hcs, hm⟩ := hst.ownAt he (by omega)
  subst hz hk
  simp only [pAt, Option.map_some, Addr.add_at, Nat.zero_add] at hx
  have hel := hcs.at_ h2
  rw [← ix_eq h2] at hel
  have hr := hld.run (w := w) (b := g) (o := i.toNat * L.size + off) fun j u hu => by
    have h3 := take_drop_cell (hc _ _ _ hel) hu
    rw [List.getElem?_take] at h3
    split at h3
    · rw [List.getElem?_drop] at h3
      rw [show i.toNat * L.size + off + j = i.toNat * L.size + (off + j) by omega]
      exact own_cell hg htk h3
    · cases h3
  simp [execOp, hρ _ _ hx, hr]
/-- a load of a whole element that holds slices -/
theorem act_loadO {α : Type} [Inhabited α] {L : Lay α} {e : TypeId} {x : Operand} {t m c z : Nat} {A : Option Addr} {xs : List α} {i : Int} (hx : ev σ x = some (pAt A (i.toNat * z))) (he : eS L e A m c xs ∈ η) (hi : inb xs i = true) (hz : L.size = z) (hld : ∀ cs : List Value, cs.length = z → ∃ v, Loaded P t cs v) :
    ActOk P C ⟨d, .load t x, ty, pos, af, gd⟩ σ η ι (fun v θ κ => ∃ cs, Loaded P t cs v ∧ θ = η ∧ κ = fC L cs (ix xs i) :: ι) := fun ρ w hρ hst => by
  obtain ⟨h0, h2⟩ := inb_spec hi
  subst hz
  obtain ⟨g, cur, cs, rfl, _, hg, _, _, _, htk, hcs, hm⟩ := hst.ownAt he (by omega)
  simp only [pAt, Option.map_some, Addr.add_at, Nat.zero_add] at hx
  have hel := hcs.at_ h2
  obtain ⟨v, hv⟩ := hld _ (L.len hel)
  have hr := hv.run (w := w) (b := g) (o := i.toNat * L.size) fun j u hu => by
    rw [List.getElem?_take] at hu
    split at hu
    · rw [List.getElem?_drop] at hu
      exact own_cell hg htk hu
    · cases hu
  have hr2 : (execOp ρ ⟨d, .load t x, ty, pos, af, gd⟩).run P w = .ok (.value v) w := by simp [execOp, hρ _ _ hx, hr]
  rw [hr2]
  refine ⟨_, _, ⟨_, hv, rfl, rfl⟩, hst.fact (f := fC L _ (ix xs i)) ?_⟩
  rw [ix_eq h2]
  exact hel
theorem setRow_same {w : World} {b b' : Nat} {cs : Array Value} (h : b ≠ b') : (w.setRow b cs).heap[b']? = w.heap[b']? := by simp [World.setRow, Array.getElem?_modify, h]
theorem eS_block {α : Type} {L : Lay α} {e : TypeId} {g o m c : Nat} {sp : Option Nat} {xs : List α} (hc : c ≠ 0) : (eS L e (some ⟨g, o, sp⟩) m c xs).own = (fun x => some g = some x) := by simp [eS, hc, Value.ownBlock]
theorem splice_eq {A B R cells : List Value} {off k : Nat} (h : off + cells.length ≤ B.length) :
    ((A ++ B ++ R).take (A.length + off) ++ cells ++ (A ++ B ++ R).drop (A.length + off + cells.length)).take (A.length + B.length + k) = A ++ (B.take off ++ cells ++ B.drop (off + cells.length)) ++ R.take k := by
  have e1 : (A ++ B ++ R).take (A.length + off) = A ++ B.take off := by
    rw [List.append_assoc, List.take_length_add_append, List.take_append_of_le_length (by omega)]
  have e2 : (A ++ B ++ R).drop (A.length + off + cells.length) = B.drop (off + cells.length) ++ R := by
    rw [List.append_assoc, Nat.add_assoc, ← List.drop_drop, List.drop_left, List.drop_append_of_le_length h]
  rw [e1, e2]
  have e3 : A.length + B.length + k = (A ++ (B.take off ++ cells ++ B.drop (off + cells.length))).length + k := by
    simp only [List.length_append, List.length_take, List.length_drop]
    omega
  rw [e3, show A ++ List.take off B ++ cells ++ (List.drop (off + cells.length) B ++ R) = (A ++ (List.take off B ++ cells ++ List.drop (off + cells.length) B)) ++ R by simp only [List.append_assoc], List.take_length_add_append]
theorem splice_row {cur cells : List Value} {iz z off mz : Nat} (h1 : iz + z ≤ mz) (h2 : mz ≤ cur.length) (h : off + cells.length ≤ z) :
    (cur.take (iz + off) ++ cells ++ cur.drop (iz + off + cells.length)).take mz =
      (cur.take mz).take iz ++ ((((cur.take mz).drop iz).take z).take off ++ cells ++ (((cur.take mz).drop iz).take z).drop (off + cells.length)) ++ (cur.take mz).drop (iz + z) := by
  have hA : (cur.take mz).take iz = cur.take iz := by rw [List.take_take, Nat.min_eq_left (by omega)]
  have hB : ((cur.take mz).drop iz).take z = (cur.drop iz).take z := by rw [List.drop_take, List.take_take, Nat.min_eq_left (by omega)]
  have hC : (cur.take mz).drop (iz + z) = (cur.drop (iz + z)).take (mz - (iz + z)) := by rw [List.drop_take]
  have hall : cur = cur.take iz ++ (cur.drop iz).take z ++ cur.drop (iz + z) := by
    rw [← List.drop_drop, List.append_assoc, List.take_append_drop, List.take_append_drop]
  have la : (cur.take iz).length = iz := by rw [List.length_take, Nat.min_eq_left (by omega)]
  have lb : ((cur.drop iz).take z).length = z := by rw [List.length_take, List.length_drop, Nat.min_eq_left (by omega)]
  have key := splice_eq (A := cur.take iz) (B := (cur.drop iz).take z) (R := cur.drop (iz + z)) (cells := cells) (off := off) (k := mz - (iz + z)) (by rw [lb]; exact h)
  rw [← hall, la, lb, show iz + z + (mz - (iz + z)) = mz by omega] at key
  rw [hA, hB, hC]
  exact key
/-- a store into an element of a slice of the call's own -/
theorem act_storeO {α : Type} [Inhabited α] {L : Lay α} {e : TypeId} {x y : Operand} {t k off m c : Nat} {A : Option Addr} {xs : List α} {i : Int} {cells : List Value} {v : Value} {F : Ent → List Ent} (x' : α) (hx : ev σ x = some (pAt A k)) (hy : ev σ y = some v) (hv : v.cells = cells.toArray) (hs : SwF η (eS L e A m c xs) F) (hi : inb xs i = true) (hk : k = i.toNat * L.size + off) (hz : sizeB P t = some cells.length) (h1 : ∀ u ∈ cells, u.oneCell' = true)
    (hR : ∀ w cs, St C η ι w → L.R w (Im C η w) cs (ix xs i) → off + cells.length ≤ L.size ∧ L.R w (Im C η w) (cs.take off ++ cells ++ cs.drop (off + cells.length)) x') :
    ActOk P C ⟨d, .store t x y, ty, pos, af, gd⟩ σ η ι (fun _ θ κ => θ = F (eS L e A m c (upd xs i x')) ∧ κ = ι) := fun ρ w hρ hst => by
  obtain ⟨h0, h2⟩ := inb_spec hi
  obtain ⟨g, cur, cs, rfl, hc0, hg, hmc, hcm, hcs, htk, hcl, hm⟩ := hst.ownAt hs.mem (by omega)
  subst hk
  simp only [pAt, Option.map_some, Addr.add_at, Nat.zero_add] at hx
  have hel := hcl.at_ h2
  rw [← ix_eq h2] at hel
  obtain ⟨hoff, hR'⟩ := hR w _ hst hel
  obtain ⟨q, hq, hqz⟩ : ∃ q, P.info? t = some q ∧ q.size = cells.length := by simpa [sizeB] using hz
  have hle : i.toNat * L.size + L.size ≤ m * L.size := by
    rw [← Nat.succ_mul, hm]
    exact Nat.mul_le_mul_right _ h2
  have hle2 : m * L.size ≤ cur.size := Nat.le_trans (Nat.mul_le_mul_right _ hmc) hcs
  have hst2 := run_storeCells_at (P := P) g (i.toNat * L.size + off) e cells 0 cur w hg (by omega) h1
  simp only [Nat.add_zero] at hst2
  have hr : (execOp ρ ⟨d, .store t x y, ty, pos, af, gd⟩).run P w = .ok .skip (w.setRow g (cur.toList.take (i.toNat * L.size + off) ++ cells ++ cur.toList.drop (i.toNat * L.size + off + cells.length)).toArray) := by
    simp [execOp, hρ _ _ hx, hρ _ _ hy, Instr.storeAt, Instr.sureAddr, storeVar, Go.sizeOf, typeInfo, hq, hqz, hv, hst2]
  rw [hr]
  refine ⟨_, ι, ⟨rfl, rfl⟩, hst.sw (hs _) rfl rfl ⟨rfl, Nat.le_refl _⟩ (by simp [World.setRow]) (fun b' _ hne => ?_) ?_ (fun b' h => .inl ?_)⟩
  · rw [eS_block hc0] at hne
    exact setRow_same fun e => hne (by rw [e])
  · refine ⟨by simp [upd, hm], .inr ⟨hc0, _, ⟨?_, .inr ⟨g, c, _, rfl, Nat.zero_le _, setRow_heap w g cur _ e _ hg, hmc, hcm, ?_, rfl⟩⟩, ?_⟩⟩
    · simp only [List.length_take, List.length_append, List.length_drop, Array.length_toList]
      omega
    · simp only [List.size_toArray, List.length_take, List.length_append, List.length_drop, Array.length_toList]
      omega
    · have hsame : Same (Im C η w) w (w.setRow g (cur.toList.take (i.toNat * L.size + off) ++ cells ++ cur.toList.drop (i.toNat * L.size + off + cells.length)).toArray) := fun b hb => setRow_same fun e => hb.2.2 _ hs.mem (by rw [eS_block hc0, e])
      have hfin := (hcl.set h2 hR').keep hsame
      have hcsl : cs.length = m * L.size := by rw [hcl.1, hm]
      have e1 := splice_row (cur := cur.toList) (cells := cells) (iz := i.toNat * L.size) (z := L.size) (off := off) (mz := m * L.size) hle (by simpa using hle2) hoff
      rw [htk] at e1
      rw [← e1] at hfin
      exact hfin
  · rw [eS_block hc0] at h ⊢
    exact h

/-! ### slices of the call's own: making, freezing, lengthening -/
/-- a slice without capacity owns nothing -/
theorem St.zeroS {α : Type} (L : Lay α) (e : TypeId) (A : Option Addr) {w : World} (h : St C η ι w) : St C (eS L e A 0 0 [] :: η) ι w := by
  have hsub : ∀ b, Im C η w b → Im C (eS L e A 0 0 ([] : List α) :: η) w b := fun b hb => ⟨hb.1, hb.2.1, fun x hx => by
    rcases List.mem_cons.1 hx with rfl | hx
    · simp [eS]
    · exact hb.2.2 x hx⟩
  refine ⟨h.os, h.tape, h.output, h.size, h.old, fun x hx => ?_, fun x hx b hb => ?_, List.pairwise_cons.2 ⟨fun x hx b hb => ?_, h.apart⟩, fun f hf => f.sub (h.facts f hf) hsub⟩
  · rcases List.mem_cons.1 hx with rfl | hx
    · exact ⟨rfl, .inl ⟨rfl, rfl⟩⟩
    · exact x.sub (h.ents x hx) hsub
  · rcases List.mem_cons.1 hx with rfl | hx
    · simp [eS] at hb
    · exact h.place x hx b hb
  · simp [eS] at hb
theorem St.zeroF {α : Type} (L : Lay α) (A : Option Addr) (c : Nat) {w : World} (h : St C η ι w) : St C η (fV (lSlice L) (.slice A 0 c) [] :: ι) w := h.fact ⟨A, 0, c, rfl, rfl, Nat.zero_le _, .inl rfl⟩
theorem St.freed {w : World} {e : Ent} {θ : List Ent} (h : St C η ι w) (hr : Rem η e θ) {b : Nat} (hb : e.own b) : Im C θ w b := by
  refine ⟨e.lt (h.ents e hr.mem) hb, (h.place e hr.mem b hb).imp id fun hm => .inr hm, fun x hx hxb => ?_⟩
  have hp := h.perm hr.perm
  exact (List.pairwise_cons.1 hp.apart).1 x hx b hb hxb
theorem Im.rem {w : World} {e : Ent} {θ : List Ent} (hr : Rem η e θ) {b : Nat} (h : Im C η w b) : Im C θ w b := ⟨h.1, h.2.1, fun x hx => h.2.2 x (hr.sub.subset hx)⟩
/-- a slice that nobody changes any more -/
theorem St.shutS {α : Type} {L : Lay α} {e : TypeId} {A : Option Addr} {m c : Nat} {xs : List α} {θ : List Ent} {w : World} (h : St C η ι w) (hr : Rem η (eS L e A m c xs) θ) : St C θ (fV (lSlice L) (.slice A m c) xs :: ι) w := by
  refine (h.subEnts hr.sub).fact ?_
  refine (fV (lSlice L) (.slice A m c) xs).sub (lent_eS w _ (h.ents _ hr.mem)) fun b hb => ?_
  rcases hb with hb | hb
  · exact hb.rem hr
  · exact h.freed hr hb
/-- a block that nobody changes any more -/
theorem St.shutBlk {b : Nat} {t : TypeId} {cs : List Value} {θ : List Ent} {w : World} (h : St C η ι w) (hr : Rem η (eBlk b t cs) θ) : St C θ (fPt (some ⟨b, 0, none⟩) 0 cs :: ι) w := by
  refine (h.subEnts hr.sub).fact ⟨b, 0, rfl, h.freed hr rfl, fun j u hu => ?_⟩
  have hk : w.heap[b]? = some (.cells cs.toArray t (0, 0)) := h.ents _ hr.mem
  simp [World.cell?, hk, hu]
/-- the first elements alone -/
theorem St.truncS {α : Type} {L : Lay α} {e : TypeId} {A : Option Addr} {m c : Nat} {xs : List α} {θ : List Ent} {w : World} (h : St C η ι w) (hr : Rem η (eS L e A m c xs) θ) (k : Nat) (hk : k ≤ xs.length) : St C (eS L e A k c (xs.take k) :: θ) ι w := by
  have hp := h.perm hr.perm
  have hbl : (eS L e A k c (xs.take k)).own = (eS L e A m c xs).own := by cases A <;> simp [eS, Value.ownBlock]
  refine hp.turn (θ₁ := []) (e' := eS L e A k c (xs.take k)) rfl rfl ⟨rfl, Nat.le_refl _⟩ (Nat.le_refl _) (fun _ _ _ => rfl) ?_ (fun b hb => .inl (hbl ▸ hb))
  obtain ⟨hn, ⟨h0, h1⟩ | ⟨hc0, cs, hk', hc⟩⟩ := hp.ents _ m0
  · subst h1
    exact ⟨by simpa using hk, .inl ⟨h0, by simp⟩⟩
  · refine ⟨by rw [List.length_take]; omega, .inr ⟨hc0, cs.take (k * L.size), ⟨?_, ?_⟩, hc.take k hk⟩⟩
    · rw [List.length_take, hc.1, Nat.min_eq_left (Nat.mul_le_mul_right _ hk)]
    · rcases hk'.2 with ⟨hv, h0⟩ | ⟨g, cap, cur, hv, hb, hg, hnc, hcm, hcs, htk⟩
      · simp only [Value.slice.injEq] at hv
        exact absurd hv.2.2 hc0
      · simp only [Value.slice.injEq, true_and] at hv
        obtain ⟨rfl, rfl⟩ := hv
        refine .inr ⟨g, c, cur, rfl, hb, hg, by omega, hcm, hcs, ?_⟩
        rw [← htk, List.take_take, Nat.min_eq_left (Nat.mul_le_mul_right _ (by omega))]
/-- where the elements of a slice are read -/
def Src {α : Type} (C : Cx) (η : List Ent) (ι : List Fact) (L : Lay α) (A : Option Addr) (k : Nat) (xs : List α) : Prop :=
  ∀ w, St C η ι w → k = xs.length ∧ (xs = [] ∨ ∃ b o cs, A = some ⟨b, o, none⟩ ∧ At w b o cs ∧ Cells L w (Im C η w) cs xs)
theorem src_F {α : Type} {L : Lay α} {A : Option Addr} {k c : Nat} {xs : List α} (hf : fV (lSlice L) (.slice A k c) xs ∈ ι) : Src C η ι L A k xs := fun w h => by
  obtain ⟨h1, _, h3⟩ := lSlice_of (h.facts _ hf)
  refine ⟨h1, ?_⟩
  by_cases hx : xs = []
  · exact .inl hx
  · obtain ⟨b, o, cs, hA, _, hc, ha⟩ := h3.cells hx
    exact .inr ⟨b, o, cs, hA, ha, hc⟩
theorem src_O {α : Type} {L : Lay α} {e : TypeId} {A : Option Addr} {k c : Nat} {xs : List α} (hf : eS L e A k c xs ∈ η) : Src C η ι L A k xs := fun w h => by
  refine ⟨h.lenO hf, ?_⟩
  by_cases hx : xs = []
  · exact .inl hx
  · obtain ⟨g, cur, cs, rfl, _, hg, _, _, _, htk, hc, _⟩ := h.ownAt hf (List.length_pos_iff.2 hx)
    refine .inr ⟨g, 0, cs, rfl, fun j u hu => ?_, hc⟩
    rw [Nat.zero_add]
    exact own_cell hg htk hu
theorem run_append_none {w : World} {t ty e : TypeId} {A B : Option Addr} {m c c' : Nat} (hm : m ≤ c) (ht : P.underlying t = some (.slice e)) (he : (P.info? e).isSome = true) : (Builtin.append_ #[t, t] ty #[.slice A m c, .slice B 0 c']).run P w = .ok (.slice A m c) w := by
  obtain ⟨i, hi⟩ := Option.isSome_iff_exists.1 he
  cases A <;> cases B <;> simp [Builtin.append_, run_underlying ht, Go.sizeOf, typeInfo, hi, Builtin.lenOf, hm, Builtin.firstCells, loadCells, loadCellsFrom, storeCells]
theorem run_append_cap0 (w : World) (t ty e : TypeId) (i : TypeInfo) (ht : P.underlying t = some (.slice e)) (hi : P.info? e = some i) (A : Option Addr) (b : Addr) (k c : Nat) (hk : 0 < k) (hm : k ≤ 9223372036854775807) (hb : k * i.bytes ≤ 140737488355328) :
    (Builtin.append_ #[t, t] ty #[.slice A 0 0, .slice (some b) k c]).run P w = (Builtin.append_ #[t, t] ty #[.slice none 0 0, .slice (some b) k c]).run P w := by
  have hne : ¬ k = 0 := by omega
  cases A with
  | none => rfl
  | some a =>
    have hc : Builtin.nextslicecap k 0 = k := by unfold Builtin.nextslicecap; rw [if_pos (by omega)]
    have h1 : ¬ ((9223372036854775807 : Int) < (k : Int) ∧ i.bytes = 0) := by omega
    have h2 : ¬ 281474976710656 < Builtin.nextslicecap k 0 * i.bytes := by rw [hc]; omega
    simp [Builtin.append_, run_underlying ht, Go.sizeOf, typeInfo, hi, Builtin.lenOf, hne, Builtin.firstCells, loadCells, loadCellsFrom, h1, h2]
/-- append(x, y...), x of the call's own -/
theorem act_appendAt {α : Type} {L : Lay α} {x y : Operand} {t e : TypeId} {z : Value} {A A0 : Option Addr} {bytes m c0 k c : Nat} {xs ys : List α} {F : Ent → List Ent} (hx : ev σ x = some (.slice A0 m c0)) (hy : ev σ y = some (.slice A k c)) (hs : SwF η (eS L e A0 m c0 xs) F) {ρ : Operand → Value} {w : World} (hρ : ∀ x u, ev σ x = some u → ρ x = u) (hst : St C η ι w) (hsrc : k = ys.length ∧ (ys = [] ∨ ∃ b o cs, A = some ⟨b, o, none⟩ ∧ At w b o cs ∧ Cells L w (Im C η w) cs ys))
    (ht : P.underlying t = some (.slice e)) (hi : (P.info? e).map (fun i => (i.zero, i.size, i.bytes)) = some (some z, L.size, bytes)) (hz : z.cells.size = L.size) (hsz : Nat.blt 0 L.size = true) (hby : Nat.ble bytes 100000 = true) (hroom : room (xs ++ ys).length = true) :
    resOk P (fun v' w' => ∃ θ κ, (∃ A' c', v' = .slice A' (xs ++ ys).length c' ∧ θ = F (eS L e A' (xs ++ ys).length c' (xs ++ ys)) ∧ κ = ι) ∧ St C θ κ w') ((execOp ρ ⟨d, .call { callee := .builtin .append, args := #[x, y], argTypes := #[t, t] }, ty, pos, af, gd⟩).run P w) := by
  obtain ⟨i, hi0, hi1⟩ := Option.map_eq_some_iff.1 hi
  simp only [Prod.mk.injEq] at hi1
  obtain ⟨hz0, hz1, hz2⟩ := hi1
  have hsz' : 0 < L.size := by simpa [Nat.blt_eq] using hsz
  have hby' : bytes ≤ 100000 := by simpa using hby
  obtain ⟨hkl, h0⟩ := hsrc
  have hml := hst.lenO hs.mem
  have hmc : m ≤ c0 := by
    obtain ⟨hn, ⟨h1, h2⟩ | ⟨_, cs, hk, _⟩⟩ := hst.ents _ hs.mem
    · subst h2; simp at hn; omega
    · rcases hk.2 with ⟨h1, h2⟩ | ⟨g, cap, cur, h1, _, _, h2, _⟩
      · omega
      · simp only [Value.slice.injEq] at h1
        omega
  have hroom' : xs.length + ys.length ≤ 1000000000 := by simpa [room] using hroom
  by_cases hys : ys = []
  · subst hys
    have hk0 : k = 0 := by simpa using hkl
    subst hk0
    have hr : (execOp ρ ⟨d, .call { callee := .builtin .append, args := #[x, y], argTypes := #[t, t] }, ty, pos, af, gd⟩).run P w = .ok (.value (.slice A0 m c0)) w := by
      simp [execOp, resolve, invoke, builtin, hρ _ _ hx, hρ _ _ hy, run_append_none (P := P) (w := w) hmc ht (by simp [hi0])]
    rw [hr]
    obtain ⟨θ₁, θ₂, h3, h4⟩ := hs (eS L e A0 m c0 xs)
    refine ⟨_, ι, ⟨A0, c0, by simp [hml], rfl, rfl⟩, ?_⟩
    have e1 : eS L e A0 (xs ++ []).length c0 (xs ++ []) = eS L e A0 m c0 xs := by rw [List.append_nil, ← hml]
    rw [e1, h4, ← h3]
    exact hst
  · obtain ⟨b, o, news, rfl, hat, hcn⟩ : ∃ b o cs, A = some ⟨b, o, none⟩ ∧ At w b o cs ∧ Cells L w (Im C η w) cs ys := h0.resolve_left hys
    have hkp : 0 < k := by rw [hkl]; exact List.length_pos_iff.2 hys
    have hnl : news.length = k * L.size := by rw [hcn.1, hkl]
    have hmb : (m + k) * bytes ≤ 140737488355328 := by
      have : (m + k) * bytes ≤ 1000000000 * 100000 := Nat.mul_le_mul (by omega) hby'
      omega
    obtain ⟨cs, hown, hcl, hok⟩ : ∃ cs, ownsT w e L.size (if c0 = 0 then .slice none 0 0 else .slice A0 m c0) m cs ∧ Cells L w (Im C η w) cs xs ∧ (c0 = 0 → m = 0) := by
      obtain ⟨hn, ⟨h1, h2⟩ | ⟨hc0, cs, hk, hc⟩⟩ := hst.ents _ hs.mem
      · subst h2
        rw [if_pos h1]
        simp at hn
        exact ⟨[], by rw [hn]; exact ownsT_of (World.ownsRow_nil w 0 e L.size), Cells.nil, fun _ => hn⟩
      · rw [if_neg hc0]
        exact ⟨cs, hk, hc, fun h => absurd h hc0⟩
    obtain ⟨v', w', hrun, h2, h3, h5⟩ := run_append_ownT (P := P) w t ty e i z L.size bytes ht hi0 hz0 hz1 hz2 hz hsz' _ m cs hown ⟨b, o, none⟩ k c news hnl (fun j u hu => by rw [Addr.add_at]; exact hat j u hu) hcn.ones (by simp only [maxLen]; omega) hmb
    have hr : (execOp ρ ⟨d, .call { callee := .builtin .append, args := #[x, y], argTypes := #[t, t] }, ty, pos, af, gd⟩).run P w = .ok (.value v') w' := by
      by_cases hc0 : c0 = 0
      · subst hc0
        have hm0 := hok rfl
        subst hm0
        simp only [if_true] at hrun
        have := run_append_cap0 (P := P) w t ty e i ht hi0 A0 ⟨b, o, none⟩ k c hkp (by omega) (by rw [hz2]; simpa using hmb)
        simp [execOp, resolve, invoke, builtin, hρ _ _ hx, hρ _ _ hy, this, hrun]
      · simp only [hc0, if_false] at hrun
        simp [execOp, resolve, invoke, builtin, hρ _ _ hx, hρ _ _ hy, hrun]
    rw [hr]
    have hlen : m + k = (xs ++ ys).length := by rw [List.length_append]; omega
    obtain ⟨g, cap, cur, rfl, hgb, hgh, hgc, hgm, hgs, hgt⟩ : ∃ g cap cur, v' = .slice (some ⟨g, 0, none⟩) (m + k) cap ∧ 0 ≤ g ∧ w'.heap[g]? = some (.cells cur e (0, 0)) ∧ m + k ≤ cap ∧ cap ≤ maxLen ∧ cap * L.size ≤ cur.size ∧ cur.toList.take ((m + k) * L.size) = cs ++ news := by
      rcases h2.2 with ⟨_, h0⟩ | h
      · omega
      · exact h
    have hcap : cap ≠ 0 := by omega
    have hold : ∀ b', b' < w.heap.size → ¬ (eS L e A0 m c0 xs).own b' → w'.heap[b']? = w.heap[b']? := fun b' hb' hne => h3.block b' hb' fun e1 => hne (by
      by_cases hc0 : c0 = 0
      · rw [if_pos hc0] at e1; cases e1
      · rw [if_neg hc0] at e1; simp only [eS, if_neg hc0]; exact e1.symm)
    have hS : Same (Im C η w) w w' := fun b' hb' => hold b' hb'.1 (hb'.2.2 _ hs.mem)
    rw [hlen] at h2
    refine ⟨_, _, ⟨_, cap, by rw [hlen], rfl, rfl⟩, hst.sw (hs _) h3.os h3.tape ⟨h3.output, run_drawn _ _ hrun⟩ h3.size hold ⟨rfl, .inr ⟨hcap, _, ?_, (hcl.cat hcn).keep hS⟩⟩ (fun b' hb' => ?_)⟩
    · rw [← hlen] at h2 ⊢
      exact h2
    · simp only [eS, if_neg hcap] at hb'
      have hb2 : g = b' := by simpa [Value.ownBlock] using hb'
      subst hb2
      rcases h5 g (by simp [Value.ownBlock]) with h5 | h5
      · left
        by_cases hc0 : c0 = 0
        · rw [if_pos hc0] at h5; cases h5
        · rw [if_neg hc0] at h5; simp only [eS, if_neg hc0]; exact h5
      · exact .inr h5
/-- append(x, y...), x of the call's own -/
theorem act_appendS {α : Type} {L : Lay α} {x y : Operand} {t e : TypeId} {z : Value} {A A0 : Option Addr} {bytes m c0 k c : Nat} {xs ys : List α} {F : Ent → List Ent} (hx : ev σ x = some (.slice A0 m c0)) (hy : ev σ y = some (.slice A k c)) (hs : SwF η (eS L e A0 m c0 xs) F) (hsrc : Src C η ι L A k ys)
    (ht : P.underlying t = some (.slice e)) (hi : (P.info? e).map (fun i => (i.zero, i.size, i.bytes)) = some (some z, L.size, bytes)) (hz : z.cells.size = L.size) (hsz : Nat.blt 0 L.size = true) (hby : Nat.ble bytes 100000 = true) (hroom : room (xs ++ ys).length = true) :
    ActOk P C ⟨d, .call { callee := .builtin .append, args := #[x, y], argTypes := #[t, t] }, ty, pos, af, gd⟩ σ η ι (fun v' θ κ => ∃ A' c', v' = .slice A' (xs ++ ys).length c' ∧ θ = F (eS L e A' (xs ++ ys).length c' (xs ++ ys)) ∧ κ = ι) := fun _ w hρ hst => act_appendAt hx hy hs hρ hst (hsrc w hst) ht hi hz hsz hby hroom
end
end Go.Proofs.Ytfekcgnnhjmeiaa
