/- The logic of symbolic states: operations that make or write memory, calls, returns. Generic: names no function of the program. -/
import Derived.Test.YtfekcgnnhjmeiaaKOps
import Derived.Laws.MakeOwn
import Derived.Great.BuildSlice
namespace Go.Proofs.Ytfekcgnnhjmeiaa
open Go.RowKit

def resOk (P : Program) (K : Value → World → Prop) : Result Next → Prop
  | .ok (.value v) w => K v w
  | .ok .skip w => K undef w
  | .ok (.enter f args) w => Calls P f args w fun e w' => ∃ v, e = .returned v ∧ K v w'
  | .ok (.round l f tmps assign body) w => RoundIn Fence.wide 0 P l f tmps assign body w fun e w' => ∃ v, e = .returned v ∧ K v w'
  | _ => False

/-- an operation that acts: R: which value, entries and facts it may leave -/
def ActOk (P : Program) (C : Cx) (o : Oper) (σ : List (Nat × Value)) (η : List Ent) (ι : List Fact) (R : Value → List Ent → List Fact → Prop) : Prop :=
  ∀ (ρ : Operand → Value) (w : World), (∀ x u, ev σ x = some u → ρ x = u) → St C η ι w → resOk P (fun v w' => ∃ θ κ, R v θ κ ∧ St C θ κ w') ((execOp ρ o).run P w)

section
variable {P : Program} {C : Cx} {n : FN} {Q : Exit → Act → World → Prop} {σ : List (Nat × Value)} {η : List Ent} {ι : List Fact}

theorem upon_of_resOk {ro : Option Nat} {o : Oper} {a : Act} {next : Act → World → Prop} {r : Result Next} {K : Value → World → Prop} (h : resOk P K r) (hk : ∀ v w, K v w → next (a.put o.dst v) w) : o.uponIn (FW ro) 0 P a next Q r := by
  cases r with
  | ok x w =>
    cases x <;> simp only [resOk] at h
    · exact hk _ _ h
    · exact hk _ _ h
    · exact ⟨fun h => (by cases h), CallsIn.mono (F := Fence.wide) (callsIn_wide.2 h) (fun e w' ⟨v, he, hv⟩ => by subst he; exact hk _ _ hv)⟩
    · exact ⟨fun h => (by cases h), RoundIn.mono (F := Fence.wide) h (fun e w' ⟨v, he, hv⟩ => by subst he; exact hk _ _ hv)⟩
  | halt x w => exact h.elim
theorem semAt_resOk {ro : Option Nat} {o : Oper} {ρ : Operand → Value} {w : World} {K : Value → World → Prop} (h : resOk P K ((execOp ρ o).run P w)) : resOk P K ((o.semAt ro ρ).run P w) := by
  cases ro with
  | none => exact h
  | some l =>
    by_cases hd : ∀ c, o.op ≠ .defer c
    · rw [Oper.semAt_some l ρ o hd]
      exact h
    · exfalso
      obtain ⟨c, hc⟩ := Classical.not_forall.1 hd
      simp only [ne_eq, Classical.not_not] at hc
      simp only [execOp, hc, Sem.run_bind] at h
      cases hr : (resolve ρ c o.type).run P w <;> simp [hr, Result.andThen, resOk] at h

theorem wl_act {ops : Array Oper} {o : Oper} {rest : List Oper} {d : Nat} {R : Value → List Ent → List Fact → Prop} (h : ActOk P C o σ η ι R) (hd : o.dst = some d) (hg : o.guard = none) (hn : Nat.blt d n.sz = true)
    (k : ∀ v θ κ, R v θ κ → WL P C n ops Q rest ((d, v) :: σ) θ κ) : WL P C n ops Q (o :: rest) σ η ι := by
  intro a w hf hst
  refine wpListIn_plain hg fun K hK => ⟨fun _ _ => trivial, ?_⟩
  refine upon_of_resOk (semAt_resOk (h a.eval w (fun x u hx => hf.eval hx) hst)) ?_
  rintro v w' ⟨θ, κ, hr, hs⟩
  rw [hd]
  exact hK _ _ (k v θ κ hr _ _ (hf.put (by simpa [Nat.blt_eq] using hn) v) hs)
theorem wl_act0 {ops : Array Oper} {o : Oper} {rest : List Oper} {R : Value → List Ent → List Fact → Prop} (h : ActOk P C o σ η ι R) (hd : o.dst = none) (hg : o.guard = none)
    (k : ∀ v θ κ, R v θ κ → WL P C n ops Q rest σ θ κ) : WL P C n ops Q (o :: rest) σ η ι := by
  intro a w hf hst
  refine wpListIn_plain hg fun K hK => ⟨fun _ _ => trivial, ?_⟩
  refine upon_of_resOk (semAt_resOk (h a.eval w (fun x u hx => hf.eval hx) hst)) ?_
  rintro v w' ⟨θ, κ, hr, hs⟩
  rw [hd]
  exact hK _ _ (k v θ κ hr _ _ hf hs)

variable {d : Option Tmp} {ty : TypeId} {pos : String} {af : Array Edge} {gd : Option (Nat × Bool)}

/-- a new block that is the call's own -/
def Made (η : List Ent) (ι : List Fact) (t : TypeId) (cs : List Value) (f : Nat → Value) (v : Value) (θ : List Ent) (κ : List Fact) : Prop := ∃ b, v = f b ∧ θ = eBlk b t cs :: η ∧ κ = ι

theorem act_box {t : TypeId} {x : Operand} {v : Value} {cs : List Value} (hx : ev σ x = some v) (hc : v.cells = cs.toArray) :
    ActOk P C ⟨d, .box t x, ty, pos, af, gd⟩ σ η ι (Made η ι t cs fun b => .pointer (some ⟨b, 0, none⟩)) := fun ρ w hρ hst => by
  have hr : (execOp ρ ⟨d, .box t x, ty, pos, af, gd⟩).run P w = .ok (.value (.pointer (some ⟨w.heap.size, 0, none⟩))) (w.alloc (.cells cs.toArray t)) := by
    simp [execOp, hρ _ _ hx, Instr.box, newVar, newRow, hc]
  rw [hr]
  exact ⟨_, _, ⟨_, rfl, rfl, rfl⟩, hst.alloc t cs⟩
def zeroB (P : Program) (t : TypeId) : Option Value := (P.info? t).bind (·.zero)
theorem act_alloc {t : TypeId} {z : Value} {cs : List Value} (hz : zeroB P t = some z) (hc : z.cells = cs.toArray) :
    ActOk P C ⟨d, .alloc t, ty, pos, af, gd⟩ σ η ι (Made η ι t cs fun b => .pointer (some ⟨b, 0, none⟩)) := fun ρ w _ hst => by
  obtain ⟨i, hi, hiz⟩ := Option.bind_eq_some_iff.1 hz
  have hr : (execOp ρ ⟨d, .alloc t, ty, pos, af, gd⟩).run P w = .ok (.value (.pointer (some ⟨w.heap.size, 0, none⟩))) (w.alloc (.cells cs.toArray t)) := by
    simp [execOp, Instr.alloc, zeroValue, typeInfo, hi, hiz, newVar, newRow, hc]
  rw [hr]
  exact ⟨_, _, ⟨_, rfl, rfl, rfl⟩, hst.alloc t cs⟩
/-- the parts of a literal, every place in its turn -/
def evParts (σ : List (Nat × Value)) : List (Nat × Operand) → Option (List (Nat × Value))
  | [] => some []
  | (i, x) :: l => match ev σ x, evParts σ l with
    | some v, some r => some ((i, v) :: r)
    | _, _ => none
theorem evParts_map {ρ : Operand → Value} (hρ : ∀ x u, ev σ x = some u → ρ x = u) : ∀ {l : List (Nat × Operand)} {r : List (Nat × Value)}, evParts σ l = some r → l.map (fun p => (p.1, ρ p.2)) = r
  | [], r, h => by simp [evParts] at h; simp [h]
  | (i, x) :: l, r, h => by
    unfold evParts at h
    split at h
    · rename_i v r' hv hr
      simp only [Option.some.injEq] at h
      subst h
      simp [hρ _ _ hv, evParts_map hρ hr]
    · cases h
def fillB (P : Program) (e : TypeId) (len : Nat) (parts : List (Nat × Value)) : Option (Array Value) :=
  match P.info? e with
  | some i => if len * i.size = 0 then none else match i.zero with
    | some z => if len * i.size > 2 ^ 24 then none else Instr.fill (fun k => some (k * i.size, i.size)) ((Array.range (len * i.size)).map (z.cells[· % z.cells.size]!)) parts
    | none => none
  | none => none
theorem act_build0 {t e : TypeId} (hu : P.underlying t = some (.slice e)) (he : (P.info? e).isSome = true) :
    ActOk P C ⟨d, .buildSlice t 0 #[], ty, pos, af, gd⟩ σ η ι (Made η ι e [] fun b => .slice (some ⟨b, 0, none⟩) 0 0) := fun ρ w _ hst => by
  obtain ⟨i, hi⟩ := Option.isSome_iff_exists.1 he
  have hr : (execOp ρ ⟨d, .buildSlice t 0 #[], ty, pos, af, gd⟩).run P w = .ok (.value (.slice (some ⟨w.heap.size, 0, none⟩) 0 0)) (w.alloc (.cells #[] e)) := by
    simp [execOp, Instr.buildSlice, run_underlying hu, Go.sizeOf, typeInfo, hi, Instr.fill, newRow]
    congr 2
    apply Array.ext <;> simp
  rw [hr]
  exact ⟨_, _, ⟨_, rfl, rfl, rfl⟩, hst.alloc e []⟩
theorem act_buildSlice {t e : TypeId} {len : Nat} {ps : List (Nat × Operand)} {vs : List (Nat × Value)} {cs : List Value} (hu : P.underlying t = some (.slice e)) (hp : evParts σ ps = some vs) (hf : fillB P e len vs = some cs.toArray) :
    ActOk P C ⟨d, .buildSlice t len ps.toArray, ty, pos, af, gd⟩ σ η ι (Made η ι e cs fun b => .slice (some ⟨b, 0, none⟩) len len) := fun ρ w hρ hst => by
  have hm := evParts_map hρ hp
  have hr : (execOp ρ ⟨d, .buildSlice t len ps.toArray, ty, pos, af, gd⟩).run P w = .ok (.value (.slice (some ⟨w.heap.size, 0, none⟩) len len)) (w.alloc (.cells cs.toArray e)) := by
    unfold fillB at hf
    cases hi : P.info? e with
    | none => simp [hi] at hf
    | some i =>
      simp only [hi] at hf
      by_cases h0 : len * i.size = 0
      · rw [if_pos h0] at hf
        cases hf
      · rw [if_neg h0] at hf
        cases hz : i.zero with
        | none => simp [hz] at hf
        | some z =>
          simp only [hz] at hf
          split at hf
          · cases hf
          · rename_i hbig
            have h := run_buildSlice (P := P) w t e len (ps.toArray.map fun p => (p.1, ρ p.2)) cs.toArray i z hu hi hz hbig h0 (by rw [Array.toList_map, hm]; exact hf)
            simp only [execOp, Sem.run_bind, h, Result.andThen_ok]
            rfl
  rw [hr]
  exact ⟨_, _, ⟨_, rfl, rfl, rfl⟩, hst.alloc e cs⟩
def evVals (σ : List (Nat × Value)) : Nat → List (Nat × Operand) → Option (List Value)
  | _, [] => some []
  | k, (i, x) :: l => bif Nat.beq i k then (match ev σ x, evVals σ (k + 1) l with
    | some v, some r => some (v :: r)
    | _, _ => none) else none
theorem evVals_map {ρ : Operand → Value} (hρ : ∀ x u, ev σ x = some u → ρ x = u) : ∀ {l : List (Nat × Operand)} {k : Nat} {r : List Value}, evVals σ k l = some r → l.map (fun p => (p.1, ρ p.2)) = (r.zipIdx k).map fun x => (x.2, x.1)
  | [], k, r, h => by simp [evVals] at h; simp [h]
  | (i, x) :: l, k, r, h => by
    unfold evVals at h
    cases hb : Nat.beq i k with
    | false => rw [hb] at h; cases h
    | true =>
      rw [hb] at h
      have hik := Nat.eq_of_beq_eq_true hb
      subst hik
      simp only [cond_true] at h
      split at h
      · rename_i v r' hv hr
        simp only [Option.some.injEq] at h
        subst h
        simp [hρ _ _ hv, evVals_map hρ hr, List.zipIdx_cons]
      · cases h
def flatV : List Value → List Value
  | [] => []
  | v :: l => v.cells.toList ++ flatV l
theorem flatV_eq : ∀ l : List Value, flatV l = l.flatMap fun v => v.cells.toList
  | [] => rfl
  | v :: l => by simp [flatV, flatV_eq l]
def Sized (z : Nat) : List Value → Prop
  | [] => True
  | v :: l => v.cells.size = z ∧ Sized z l
theorem Sized.all {z : Nat} : ∀ {l : List Value}, Sized z l → ∀ v ∈ l, v.cells.size = z
  | [], _, _, h => by cases h
  | x :: l, h, v, hv => by
    rcases List.mem_cons.1 hv with rfl | hv
    · exact h.1
    · exact Sized.all h.2 v hv
/-- a slice literal that names every element -/
theorem act_lit {t e : TypeId} {len z bytes : Nat} {zv : Value} {ps : List (Nat × Operand)} {vs cs : List Value} (hu : P.underlying t = some (.slice e)) (hi : (P.info? e).map (fun i => (i.zero, i.size, i.bytes)) = some (some zv, z, bytes)) (hp : evVals σ 0 ps = some vs) (hl : vs.length = len) (hz : Nat.blt 0 z = true) (hpos : Nat.blt 0 len = true) (hsm : Nat.ble (len * z) 16777216 = true) (hsz : Sized z vs) (hc : flatV vs = cs) :
    ActOk P C ⟨d, .buildSlice t len ps.toArray, ty, pos, af, gd⟩ σ η ι (Made η ι e cs fun b => .slice (some ⟨b, 0, none⟩) len len) := fun ρ w hρ hst => by
  have hm := evVals_map hρ hp
  subst hl hc
  obtain ⟨i, hi0, hi1⟩ := Option.map_eq_some_iff.1 hi
  simp only [Prod.mk.injEq] at hi1
  obtain ⟨hz0, rfl, _⟩ := hi1
  have hz' : 0 < i.size := by simpa [Nat.blt_eq] using hz
  have hpos' : 0 < vs.length := by simpa [Nat.blt_eq] using hpos
  have hr : (execOp ρ ⟨d, .buildSlice t vs.length ps.toArray, ty, pos, af, gd⟩).run P w = .ok (.value (.slice (some ⟨w.heap.size, 0, none⟩) vs.length vs.length)) (w.alloc (.cells (flatV vs).toArray e)) := by
    have hs1 : vs.length * i.size ≤ 16777216 := by simpa using hsm
    have hs2 := Nat.mul_pos hpos' hz'
    have h := run_buildSlice (P := P) w t e vs.length (ps.toArray.map fun p => (p.1, ρ p.2)) (flatV vs).toArray i zv hu hi0 hz0 (by omega) (by omega) (by
      rw [Array.toList_map, hm, flatV_eq]
      exact _root_.Go.Great.fill_whole hz' vs _ hsz.all (by simp))
    simp only [execOp, Sem.run_bind, h, Result.andThen_ok]
    rfl
  rw [hr]
  exact ⟨_, _, ⟨_, rfl, rfl, rfl⟩, hst.alloc e _⟩
theorem act_make {t e : TypeId} {x : Operand} {k : IntKind} {m bytes : Nat} {z : Value} (hx : ev σ x = some (.int k (m : Int))) (hu : P.underlying t = some (.slice e)) (hi : (P.info? e).map (fun i => (i.zero, i.size, i.bytes)) = some (some z, 1, bytes)) (hz : z.cells = #[z]) (hb : bytes * m ≤ 281474976710656) (hm : m ≤ 9223372036854775807) :
    ActOk P C ⟨d, .makeSlice t x x, ty, pos, af, gd⟩ σ η ι (Made η ι e (List.replicate m z) fun b => .slice (some ⟨b, 0, none⟩) m m) := fun ρ w hρ hst => by
  have hr : (execOp ρ ⟨d, .makeSlice t x x, ty, pos, af, gd⟩).run P w = .ok (.value (.slice (some ⟨w.heap.size, 0, none⟩) m m)) (w.alloc (.cells (List.replicate m z).toArray e)) := by
    obtain ⟨i, hi0, hi1⟩ := Option.map_eq_some_iff.1 hi
    simp only [Prod.mk.injEq] at hi1
    obtain ⟨hz0, hz1, hz2⟩ := hi1
    have hbb : (i.bytes : Int) * (m : Int) ≤ 281474976710656 := by
      have h : ((i.bytes * m : Nat) : Int) ≤ 281474976710656 := by rw [hz2]; omega
      rwa [Int.natCast_mul] at h
    have h := run_make (P := P) w t e i z hu hi0 hz0 k k (m : Int) (m : Int) (by omega) (by omega) hbb (by omega)
    have hmade : madeCells z.cells (m * i.size) = (List.replicate m z).toArray := by
      rw [hz1, Nat.mul_one, hz]
      apply Array.ext
      · simp [madeCells]
      · intro j h1 h2
        simp [madeCells, Nat.mod_one]
    simp only [Int.toNat_natCast, hmade] at h
    simp [execOp, hρ _ _ hx, h]
  rw [hr]
  exact ⟨_, _, ⟨_, rfl, rfl, rfl⟩, hst.alloc e _⟩

def Ones : List Value → Prop
  | [] => True
  | u :: l => u.oneCell' = true ∧ Ones l
theorem Ones.all : ∀ {l : List Value}, Ones l → ∀ u ∈ l, u.oneCell' = true
  | [], _, _, h => by cases h
  | x :: l, h, u, hu => by
    rcases List.mem_cons.1 hu with rfl | hu
    · exact h.1
    · exact Ones.all h.2 u hu
/-- a store into a block of the call's own -/
theorem act_store {t b o : Nat} {tt : TypeId} {x y : Operand} {v : Value} {cs cells cs' : List Value} {F : Ent → List Ent} (hx : ev σ x = some (.pointer (some ⟨b, o, none⟩))) (hy : ev σ y = some v) (hv : v.cells = cells.toArray)
    (hs : SwF η (eBlk b tt cs) F) (hc : cs.take o ++ cells ++ cs.drop (o + cells.length) = cs') (hl : o + cells.length ≤ cs.length) (hz : sizeB P t = some cells.length) (h1 : Ones cells) :
    ActOk P C ⟨d, .store t x y, ty, pos, af, gd⟩ σ η ι (fun _ θ κ => θ = F (eBlk b tt cs') ∧ κ = ι) := fun ρ w hρ hst => by
  have hk : w.heap[b]? = some (.cells cs.toArray tt (0, 0)) := hst.ent hs.mem
  obtain ⟨i, hi, hsz⟩ : ∃ i, P.info? t = some i ∧ i.size = cells.length := by simpa [sizeB] using hz
  have hst2 := run_storeCells_at (P := P) b o tt cells 0 cs.toArray w hk (by simpa using hl) h1.all
  have hr : (execOp ρ ⟨d, .store t x y, ty, pos, af, gd⟩).run P w = .ok .skip (w.setRow b cs'.toArray) := by
    simp only [Nat.add_zero, hc] at hst2
    simp [execOp, hρ _ _ hx, hρ _ _ hy, Instr.storeAt, Instr.sureAddr, storeVar, Go.sizeOf, typeInfo, hi, hsz, hv, hst2]
  rw [hr]
  refine ⟨_, ι, ⟨rfl, rfl⟩, hst.sw (hs (eBlk b tt cs')) rfl rfl ⟨rfl, Nat.le_refl _⟩ (by simp [World.setRow]) (fun b' _ hne => ?_) ?_ (fun b' h => .inl h)⟩
  · have hne' : b ≠ b' := fun e => hne (by simp [eBlk, e])
    simp [World.setRow, Array.getElem?_modify, hne']
  · exact setRow_heap w b cs.toArray _ tt _ hk
theorem take_set {cs : List Value} {o : Nat} {v : Value} (h : o < cs.length) : cs.take o ++ [v] ++ cs.drop (o + 1) = cs.set o v := by
  rw [List.set_eq_take_append_cons_drop]
  simp [h]
/-- a store of one cell, the place a number that is not written out -/
theorem act_storeI {t b o : Nat} {tt : TypeId} {x y : Operand} {v : Value} {cs : List Value} {F : Ent → List Ent} (hx : ev σ x = some (.pointer (some ⟨b, o, none⟩))) (hy : ev σ y = some v) (hv : v.cells = #[v])
    (hs : SwF η (eBlk b tt cs) F) (hl : o < cs.length) (hz : sizeB P t = some 1) (h1 : v.oneCell' = true) :
    ActOk P C ⟨d, .store t x y, ty, pos, af, gd⟩ σ η ι (fun _ θ κ => θ = F (eBlk b tt (cs.set o v)) ∧ κ = ι) :=
  act_store (cells := [v]) hx hy hv hs (take_set hl) hl hz ⟨h1, trivial⟩

/-! ### calls and returns -/
def Blocks (η : List Ent) : Nat → Prop := fun b => ∃ h ∈ η, h.own b
/-- what a function is good for: called at values of which η, ι speak -/
def Spec (P : Program) (f : FuncId) (args : List Value) (η : List Ent) (ι : List Fact) (Post : Value → List Ent → List Fact → Prop) : Prop :=
  ∀ C : Cx, (∀ b, C.M b ↔ Blocks η b) → St C η ι C.W0 → Calls P f args.toArray C.W0 fun e w' => ∃ v θ κ, e = .returned v ∧ Post v θ κ ∧ St C θ κ w'

/-- the same of whatever runs -/
def SpecT (T : World → (Ending → World → Prop) → Prop) (η : List Ent) (ι : List Fact) (Post : Value → List Ent → List Fact → Prop) : Prop :=
  ∀ C : Cx, (∀ b, C.M b ↔ Blocks η b) → St C η ι C.W0 → T C.W0 fun e w' => ∃ v θ κ, e = .returned v ∧ Post v θ κ ∧ St C θ κ w'
theorem Spec.mono {f : FuncId} {args : List Value} {Post Post' : Value → List Ent → List Fact → Prop} (h : Spec P f args η ι Post) (hp : ∀ v θ κ, Post v θ κ → Post' v θ κ) : Spec P f args η ι Post' :=
  fun C hM hst => (h C hM hst).mono fun _ _ ⟨v, θ, κ, he, hq, hs⟩ => ⟨v, θ, κ, he, hp v θ κ hq, hs⟩

/-- e, while nobody changes it, is good for g -/
def Lent (e : Ent) (g : Fact) : Prop := ∀ w S, e.ok w S → g.R w (fun b => S b ∨ e.own b)
theorem lent_eS {α : Type} {L : Lay α} {e : TypeId} {A : Option Addr} {m c : Nat} {xs : List α} : Lent (eS L e A m c xs) (fV (lSlice L) (.slice A m c) xs) := by
  rintro w S ⟨hn, ⟨h0, hx⟩ | ⟨hc0, cs, hk, hc⟩⟩
  · subst h0 hx
    exact ⟨A, m, 0, rfl, hn, by rw [hn]; exact Nat.le_refl _, .inl rfl⟩
  rcases hk.2 with ⟨hv, h0⟩ | ⟨g, cap, cur, hv, _, hg, hnc, _, hcs, htk⟩
  · simp only [Value.slice.injEq] at hv
    exact ⟨A, m, c, rfl, hn, by omega, .inl (List.eq_nil_of_length_eq_zero (by omega))⟩
  · simp only [Value.slice.injEq, true_and] at hv
    obtain ⟨rfl, rfl⟩ := hv
    refine ⟨_, _, _, rfl, hn, hnc, Els.of_cells (cs := cs) (.inr (if_neg hc0)) (hc.sub fun b hb => .inl hb) fun q u hu => ?_⟩
    have hu2 : cur[q]? = some u := by
      rw [← htk, List.getElem?_take] at hu
      split at hu
      · simpa using hu
      · cases hu
    simp [World.cell?, hg, hu2]
/-- what a callee gets: facts that stand, or entries that are lent -/
def LendIn (ι : List Fact) (lam : List Ent) : List Fact → Prop
  | [] => True
  | g :: κ => (g ∈ ι ∨ ∃ e ∈ lam, Lent e g) ∧ LendIn ι lam κ
theorem LendIn.all {lam : List Ent} : ∀ {κ : List Fact}, LendIn ι lam κ → ∀ g ∈ κ, g ∈ ι ∨ ∃ e ∈ lam, Lent e g
  | [], _, _, h => by cases h
  | x :: κ, h, g, hg => by
    rcases List.mem_cons.1 hg with rfl | hg
    · exact h.1
    · exact LendIn.all h.2 g hg
def AllE : List Ent → List Ent → Prop
  | [], _ => True
  | e :: l, η => e ∈ η ∧ AllE l η
theorem AllE.all : ∀ {l η : List Ent}, AllE l η → ∀ f ∈ l, f ∈ η
  | [], _, _, _, h => by cases h
  | x :: l, η, h, f, hf => by
    rcases List.mem_cons.1 hf with rfl | hf
    · exact h.1
    · exact AllE.all h.2 f hf
/-- what an entry says leans on no other memory -/
def Ent.Plain (e : Ent) : Prop := ∀ w S T, e.ok w S → e.ok w T
theorem plain_eBlk {b : Nat} {t : TypeId} {cs : List Value} : (eBlk b t cs).Plain := fun _ _ _ h => h
theorem plain_eS {α : Type} {enc : α → List Value} {z : Nat} {hl : ∀ x, (enc x).length = z} {h1 : ∀ x, ∀ u ∈ enc x, u.oneCell' = true} {e : TypeId} {A : Option Addr} {m c : Nat} {xs : List α} : (eS (lFlat enc z hl h1) e A m c xs).Plain := fun _ _ _ ⟨hn, hk⟩ => ⟨hn, hk.imp id fun ⟨h0, cs, hk, hc⟩ => ⟨h0, cs, hk, hc.1, hc.2⟩⟩
def Plains : List Ent → Prop
  | [] => True
  | e :: l => e.Plain ∧ Plains l
theorem Plains.all : ∀ {l : List Ent}, Plains l → ∀ f ∈ l, f.Plain
  | [], _, _, h => by cases h
  | x :: l, h, f, hf => by
    rcases List.mem_cons.1 hf with rfl | hf
    · exact h.1
    · exact Plains.all h.2 f hf
/-- a call at a state: what is handed over is θ₀, κ₀; what is lent is lam; the rest stays -/
theorem St.callT {T : World → (Ending → World → Prop) → Prop} (hT : ∀ {w : World} {R R' : Ending → World → Prop}, T w R → (∀ e w', R e w' → R' e w') → T w R') {θ₀ ηr : List Ent} {κ₀ : List Fact} {Post : Value → List Ent → List Fact → Prop} (hc : SpecT T θ₀ κ₀ Post) {w : World} (hst : St C (θ₀ ++ ηr) ι w) (lam : List Ent) (hl : ∀ e ∈ lam, e ∈ ηr) (hk : ∀ g ∈ κ₀, g ∈ ι ∨ ∃ e ∈ lam, Lent e g) :
    T w fun e w' => ∃ v θ κ, e = .returned v ∧ Post v θ κ ∧ ((lam = [] ∨ ∀ h ∈ θ, h.Plain) → St C (θ ++ ηr) ι w') ∧ (lam = [] → St C (θ ++ ηr) (κ ++ ι) w') := by
  have hap := List.pairwise_append.1 hst.apart
  have hlamlt : ∀ b, Blocks lam b → b < w.heap.size := fun b ⟨e, he, heb⟩ => e.lt (hst.ents e (List.mem_append_right _ (hl e he))) heb
  have hlam0 : ∀ b, Blocks lam b → ∀ h ∈ θ₀, ¬ h.own b := fun b ⟨e, he, heb⟩ h hh hhb => hap.2.2 h hh e (hl e he) b hhb heb
  have hst0 : St ⟨w, fun b => Im C (θ₀ ++ ηr) w b ∨ Blocks lam b, Blocks θ₀⟩ θ₀ κ₀ w := by
    have hin : ∀ b, Im C (θ₀ ++ ηr) w b → Im ⟨w, fun b => Im C (θ₀ ++ ηr) w b ∨ Blocks lam b, Blocks θ₀⟩ θ₀ w b := fun b hb => ⟨hb.1, .inr (.inl (.inl hb)), fun h hh => hb.2.2 h (List.mem_append_left _ hh)⟩
    refine ⟨rfl, rfl, ⟨rfl, Nat.le_refl _⟩, Nat.le_refl _, fun _ _ _ => rfl, fun h hh => h.sub (hst.ents h (List.mem_append_left _ hh)) hin, fun h hh b hb => .inr ⟨h, hh, hb⟩, hap.1, fun g hg => ?_⟩
    rcases hk g hg with h1 | ⟨e, he, h1⟩
    · exact g.sub (hst.facts g h1) hin
    · refine g.sub (h1 w _ (hst.ents e (List.mem_append_right _ (hl e he)))) fun b hb => ?_
      rcases hb with hb | hb
      · exact hin b hb
      · exact ⟨hlamlt b ⟨e, he, hb⟩, .inr (.inl (.inr ⟨e, he, hb⟩)), hlam0 b ⟨e, he, hb⟩⟩
  refine hT (hc _ (fun _ => Iff.rfl) hst0) ?_
  rintro e w' ⟨v, θ, κ, he, hp, hs⟩
  refine ⟨v, θ, κ, he, hp, ?_⟩
  have hsz : w.heap.size ≤ w'.heap.size := hs.size
  have hold : ∀ b, b < w.heap.size → ¬ Blocks θ₀ b → w'.heap[b]? = w.heap[b]? := hs.old
  have hplace : ∀ h ∈ θ, ∀ b, h.own b → w.heap.size ≤ b ∨ Blocks θ₀ b := hs.place
  have hr : ∀ h ∈ ηr, ∀ b, h.own b → b < w.heap.size ∧ ¬ Blocks θ₀ b := fun h hh b hb =>
    ⟨h.lt (hst.ents h (List.mem_append_right _ hh)) hb, fun ⟨g, hg, hgb⟩ => hap.2.2 g hg h hh b hgb hb⟩
  have hB : ∀ b, Blocks θ₀ b → C.W0.heap.size ≤ b ∨ C.M b := fun b ⟨g, hg, hgb⟩ => hst.place g (List.mem_append_left _ hg) b hgb
  have hsame : Same (Im C (θ₀ ++ ηr) w) w w' := fun b hb => hold b hb.1 fun ⟨g', hg', hgb⟩ => hb.2.2 g' (List.mem_append_left _ hg') hgb
  have hsub1 : ∀ b, Im C (θ₀ ++ ηr) w b → Im C (θ ++ ηr) w' b := fun b hb => ⟨Nat.lt_of_lt_of_le hb.1 hsz, hb.2.1, fun h hh hbb => by
    rcases List.mem_append.1 hh with hh | hh
    · rcases hplace h hh b hbb with h3 | h3
      · have := hb.1
        omega
      · obtain ⟨g', hg', hgb⟩ := h3
        exact hb.2.2 g' (List.mem_append_left _ hg') hgb
    · exact hb.2.2 h (List.mem_append_right _ hh) hbb⟩
  have hsub2 : lam = [] → ∀ b, Im ⟨w, fun b => Im C (θ₀ ++ ηr) w b ∨ Blocks lam b, Blocks θ₀⟩ θ w' b → Im C (θ ++ ηr) w' b := fun hlam b hb => ⟨hb.1, by
      rcases hb.2.1 with h1 | h1 | h1
      · exact .inl (Nat.le_trans hst.size h1)
      · rcases h1 with h1 | ⟨e, he, _⟩
        · exact h1.2.1
        · rw [hlam] at he; cases he
      · rcases hB b h1 with h4 | h4
        · exact .inl h4
        · exact .inr (.inr h4), fun h hh => by
      rcases List.mem_append.1 hh with hh | hh
      · exact hb.2.2 h hh
      · intro hbb
        obtain ⟨h1, h2⟩ := hr h hh b hbb
        rcases hb.2.1 with h3 | h3 | h3
        · have h4 : w.heap.size ≤ b := h3
          omega
        · rcases h3 with h3 | ⟨e, he, _⟩
          · exact h3.2.2 h (List.mem_append_right _ hh) hbb
          · rw [hlam] at he; cases he
        · exact h2 h3⟩
  have main : (lam = [] ∨ ∀ h ∈ θ, h.Plain) → St C (θ ++ ηr) ι w' := by
    intro hpl
    refine ⟨hs.os.trans hst.os, hs.tape.trans hst.tape, ⟨hs.output.1.trans hst.output.1, Nat.le_trans hst.output.2 hs.output.2⟩, Nat.le_trans hst.size hsz, fun b hb hm => ?_, fun h hh => ?_, fun h hh b hb => ?_, ?_, fun g hg => g.sub (g.keep (hst.facts g hg) hsame) hsub1⟩
    · refine (hold b (Nat.lt_of_lt_of_le hb hst.size) fun hB' => ?_).trans (hst.old b hb hm)
      rcases hB b hB' with h1 | h1
      · omega
      · exact hm h1
    · rcases List.mem_append.1 hh with hh | hh
      · rcases hpl with h0 | hpl
        · exact h.sub (hs.ents h hh) (hsub2 h0)
        · exact hpl h hh _ _ _ (hs.ents h hh)
      · exact h.sub (h.keep (hst.ents h (List.mem_append_right _ hh)) (fun b hb => hold b (hr h hh b hb).1 (hr h hh b hb).2) hsame) hsub1
    · rcases List.mem_append.1 hh with hh | hh
      · rcases hplace h hh b hb with h1 | h1
        · exact .inl (Nat.le_trans hst.size h1)
        · exact hB b h1
      · exact hst.place h (List.mem_append_right _ hh) b hb
    · refine List.pairwise_append.2 ⟨hs.apart, hap.2.1, fun h hh g hg b hb hgb => ?_⟩
      obtain ⟨h1, h2⟩ := hr g hg b hgb
      rcases hplace h hh b hb with h3 | h3
      · omega
      · exact h2 h3
  refine ⟨main, fun hlam => ?_⟩
  have hm := main (.inl hlam)
  refine ⟨hm.os, hm.tape, hm.output, hm.size, hm.old, hm.ents, hm.place, hm.apart, fun g hg => ?_⟩
  rcases List.mem_append.1 hg with hg | hg
  · exact g.sub (hs.facts g hg) (hsub2 hlam)
  · exact hm.facts g hg
theorem St.callL {f : FuncId} {args : List Value} {θ₀ ηr : List Ent} {κ₀ : List Fact} {Post : Value → List Ent → List Fact → Prop} (hc : Spec P f args θ₀ κ₀ Post) {w : World} (hst : St C (θ₀ ++ ηr) ι w) (lam : List Ent) (hl : ∀ e ∈ lam, e ∈ ηr) (hk : ∀ g ∈ κ₀, g ∈ ι ∨ ∃ e ∈ lam, Lent e g) :
    Calls P f args.toArray w fun e w' => ∃ v θ κ, e = .returned v ∧ Post v θ κ ∧ ((lam = [] ∨ ∀ h ∈ θ, h.Plain) → St C (θ ++ ηr) ι w') ∧ (lam = [] → St C (θ ++ ηr) (κ ++ ι) w') :=
  St.callT (T := fun w R => Calls P f args.toArray w R) (fun h hr => h.mono hr) hc hst lam hl hk
theorem St.call {f : FuncId} {args : List Value} {θ₀ ηr : List Ent} {κ₀ : List Fact} {Post : Value → List Ent → List Fact → Prop} (hc : Spec P f args θ₀ κ₀ Post) {w : World} (hst : St C (θ₀ ++ ηr) ι w) (hk : ∀ g ∈ κ₀, g ∈ ι) :
    Calls P f args.toArray w fun e w' => ∃ v θ κ, e = .returned v ∧ Post v θ κ ∧ St C (θ ++ ηr) (κ ++ ι) w' :=
  (hst.callL hc [] (fun _ h => by cases h) fun g hg => .inl (hk g hg)).mono fun _ _ ⟨v, θ, κ, he, hp, _, h⟩ => ⟨v, θ, κ, he, hp, h rfl⟩

def evL (σ : List (Nat × Value)) : List Operand → Option (List Value)
  | [] => some []
  | x :: l => match ev σ x, evL σ l with
    | some v, some r => some (v :: r)
    | _, _ => none
theorem evL_map {ρ : Operand → Value} (hρ : ∀ x u, ev σ x = some u → ρ x = u) : ∀ {l : List Operand} {r : List Value}, evL σ l = some r → l.map ρ = r
  | [], r, h => by simp [evL] at h; simp [h]
  | x :: l, r, h => by
    unfold evL at h
    split at h
    · rename_i v r' hv hr
      simp only [Option.some.injEq] at h
      subst h
      simp [hρ _ _ hv, evL_map hρ hr]
    · cases h
def bodyB (P : Program) (f : FuncId) : Bool := match P.funcs[f]? with
  | some fn => !(fn.name == "runtime.NumGoroutine") && fn.body.isSome
  | none => false
theorem run_callFunc {f : FuncId} {args : Array Value} {w : World} (hb : bodyB P f = true) : (callFunc f args).run P w = .ok (.enter f args) w := by
  unfold bodyB at hb
  cases hf : P.funcs[f]? with
  | none => simp [hf] at hb
  | some fn =>
    simp [hf] at hb
    obtain ⟨h1, h2⟩ := hb
    cases hx : fn.body with
    | none => simp [hx] at h2
    | some c => simp [callFunc, hf, h1, hx]
/-- the entries of θ₀ taken out of η, one after the other -/
def Rems (η : List Ent) : List Ent → List Ent → Prop
  | [], ηr => η = ηr
  | e :: θ₀, ηr => ∃ η', Rem η e η' ∧ Rems η' θ₀ ηr
theorem Rems.perm : ∀ {θ₀ η ηr : List Ent}, Rems η θ₀ ηr → η.Perm (θ₀ ++ ηr)
  | [], _, _, h => by cases h; exact List.Perm.refl _
  | e :: θ₀, η, ηr, ⟨η', h1, h2⟩ => h1.perm.trans (List.Perm.cons e (Rems.perm h2))
/-- a call of a function by its name, or of a function value that has captured `cap` -/
theorem act_call {f : FuncId} {x : Operand} {xs : List Operand} {ts : Array TypeId} {cap : List Value} {args vs : List Value} {θ₀ ηr : List Ent} {κ₀ : List Fact} {Post : Value → List Ent → List Fact → Prop}
    (hc : Spec P f args θ₀ κ₀ Post) (hx : ev σ x = some (.func (.func f) #[] cap.toArray)) (hvs : evL σ xs = some vs) (hargs : vs ++ cap = args) (hb : bodyB P f = true) (hη : θ₀ ++ ηr = η) (hk : AllIn κ₀ ι) :
    ActOk P C ⟨d, .call { callee := .value x, args := xs.toArray, argTypes := ts }, ty, pos, af, gd⟩ σ η ι (fun v θ' κ' => ∃ θ κ, Post v θ κ ∧ θ' = θ ++ ηr ∧ κ' = κ ++ ι) := fun ρ w hρ hst => by
  subst hη hargs
  have hr : (execOp ρ ⟨d, .call { callee := .value x, args := xs.toArray, argTypes := ts }, ty, pos, af, gd⟩).run P w = .ok (.enter f (vs ++ cap).toArray) w := by
    have hm := evL_map hρ hvs
    simp [execOp, resolve, hρ _ _ hx, Deferred.ofValue, invoke, hm, run_callFunc hb]
  rw [hr]
  refine (hst.call hc hk.all).mono ?_
  rintro e w' ⟨v, θ, κ, rfl, hp, hs⟩
  exact ⟨v, rfl, _, _, ⟨θ, κ, hp, rfl, rfl⟩, hs⟩

/-- the entries of θ₀ are handed over, wherever they stand; those of lam are lent -/
theorem act_callS {f : FuncId} {x : Operand} {xs : List Operand} {ts : Array TypeId} {cap : List Value} {args vs : List Value} {θ₀ ηr : List Ent} {κ₀ : List Fact} {Post : Value → List Ent → List Fact → Prop}
    (hc : Spec P f args θ₀ κ₀ Post) (hx : ev σ x = some (.func (.func f) #[] cap.toArray)) (hvs : evL σ xs = some vs) (hargs : vs ++ cap = args) (hb : bodyB P f = true) (hη : Rems η θ₀ ηr) (hk : AllIn κ₀ ι) :
    ActOk P C ⟨d, .call { callee := .value x, args := xs.toArray, argTypes := ts }, ty, pos, af, gd⟩ σ η ι (fun v θ' κ' => ∃ θ κ, Post v θ κ ∧ θ' = θ ++ ηr ∧ κ' = κ ++ ι) := fun ρ w hρ hst =>
  act_call hc hx hvs hargs hb rfl hk ρ w hρ (hst.perm hη.perm)
theorem act_callL {f : FuncId} {x : Operand} {xs : List Operand} {ts : Array TypeId} {cap : List Value} {args vs : List Value} {θ₀ ηr : List Ent} {κ₀ : List Fact} {Post : Value → List Ent → List Fact → Prop} (lam : List Ent)
    (hc : Spec P f args θ₀ κ₀ Post) (hpl : ∀ v θ κ, Post v θ κ → Plains θ) (hx : ev σ x = some (.func (.func f) #[] cap.toArray)) (hvs : evL σ xs = some vs) (hargs : vs ++ cap = args) (hb : bodyB P f = true) (hη : Rems η θ₀ ηr) (hl : AllE lam ηr) (hk : LendIn ι lam κ₀) :
    ActOk P C ⟨d, .call { callee := .value x, args := xs.toArray, argTypes := ts }, ty, pos, af, gd⟩ σ η ι (fun v θ' κ' => ∃ θ κ, Post v θ κ ∧ θ' = θ ++ ηr ∧ κ' = ι) := fun ρ w hρ hst => by
  subst hargs
  have hr : (execOp ρ ⟨d, .call { callee := .value x, args := xs.toArray, argTypes := ts }, ty, pos, af, gd⟩).run P w = .ok (.enter f (vs ++ cap).toArray) w := by
    have hm := evL_map hρ hvs
    simp [execOp, resolve, hρ _ _ hx, Deferred.ofValue, invoke, hm, run_callFunc hb]
  rw [hr]
  refine ((hst.perm hη.perm).callL hc lam hl.all hk.all).mono ?_
  rintro e w' ⟨v, θ, κ, rfl, hp, hs, _⟩
  exact ⟨v, rfl, _, _, ⟨θ, κ, hp, rfl, rfl⟩, hs (.inr (hpl v θ κ hp).all)⟩

def RetQ (C : Cx) (Post : Value → List Ent → List Fact → Prop) (e : Ending) (w' : World) : Prop := ∃ v θ κ, e = .returned v ∧ Post v θ κ ∧ St C θ κ w'
def argσ : Nat → List Value → List (Nat × Value)
  | _, [] => []
  | i, v :: l => (i, v) :: argσ (i + 1) l
theorem argσ_look : ∀ (l : List Value) (k i : Nat) (v : Value), look (argσ k l) i = some v → k ≤ i ∧ l[i - k]? = some v
  | [], _, _, _, h => by cases h
  | u :: l, k, i, v, h => by
    simp only [argσ, look] at h
    cases hb : Nat.beq k i with
    | true =>
      rw [hb] at h
      have := Nat.eq_of_beq_eq_true hb
      subst this
      simp only [cond_true, Option.some.injEq] at h
      exact ⟨Nat.le_refl _, by simp [h]⟩
    | false =>
      rw [hb] at h
      have hne : k ≠ i := fun e => by subst e; simp at hb
      obtain ⟨h1, h2⟩ := argσ_look l (k + 1) i v h
      refine ⟨by omega, ?_⟩
      rw [show i - k = (i - (k + 1)) + 1 by omega]
      simpa using h2
theorem spec_of {f : FuncId} {fn : Func} {c : Code} {args : List Value} {Post : Value → List Ent → List Fact → Prop} {σ : List (Nat × Value)} {n : Nat} (hf : P.funcs[f]? = some fn) (hb : fn.body = some c) (hn : fn.ntmps = n) (hl : Nat.ble args.length n = true) (hσ : argσ 0 args = σ)
    (h : ∀ C : Cx, WC P C ⟨n, [], none⟩ c (bodyPostM Fence.wide 0 P fn (RetQ C Post)) σ η ι) : Spec P f args η ι Post := by
  subst hσ
  intro C hM hst
  refine callsIn_wide.1 (callsIn_of_wp_marks (F := Fence.wide) hf hb trivial (h C _ _ ?_ hst))
  rw [hn]
  refine Fr.start (by simpa using hl) fun i v hv => ?_
  have := argσ_look args 0 i v hv
  simpa using this.2

/-- what a result variable holds -/
def ResOk (P : Program) (C : Cx) (σ : List (Nat × Value)) (η : List Ent) (ι : List Fact) : List ResultVar → List Value → Prop
  | [], [] => True
  | .tmp t :: rs, v :: vs => look σ t = some v ∧ ResOk P C σ η ι rs vs
  | .cell t ty :: rs, v :: vs => (∃ b tt cs, look σ t = some (.pointer (some ⟨b, 0, none⟩)) ∧ eBlk b tt cs ∈ η ∧ ((isAggB P ty = true ∧ sizeB P ty = some cs.length ∧ v = .agg cs.toArray) ∨ (isAggB P ty = false ∧ (P.underlying ty).isSome = true ∧ cs = [v]))) ∧ ResOk P C σ η ι rs vs
  | _, _ => False
theorem ResOk.run {a : Act} {w : World} (hf : Fr n σ a) (hst : St C η ι w) : ∀ {rs : List ResultVar} {vs : List Value}, ResOk P C σ η ι rs vs →
    (rs.mapM (m := Sem) fun | .tmp t => pure (a.tmps.getD t undef) | .cell x t => do loadVar t (← asAddr (a.tmps.getD x undef))).run P w = .ok vs w
  | [], [], _ => by simp
  | .tmp t :: rs, v :: vs, h => by
    have := ResOk.run hf hst h.2
    have ht := hf.at_ _ _ h.1
    simp only [List.mapM_cons, Sem.run_bind, Sem.run_pure, Result.andThen_ok, this, ht]
  | .cell t ty :: rs, v :: vs, h => by
    obtain ⟨⟨b, tt, cs, hl, he, hv⟩, h2⟩ := h
    have h3 := ResOk.run hf hst h2
    have ht := hf.at_ _ _ hl
    have hk : w.heap[b]? = some (.cells cs.toArray tt (0, 0)) := hst.ent he
    have hr' : (loadVar ty ⟨b, 0, none⟩).run P w = .ok v w := by
      rcases hv with ⟨ha, hz, rfl⟩ | ⟨ha, hu, rfl⟩
      · have hr := run_loadN (P := P) (w := w) (t := ty) (b := b) (o := 0) (cs := cs) ha hz (fun j u hu => by simp [World.cell?, hk, hu])
        simpa [Instr.loadAt, Instr.sureAddr] using hr
      · have hr := run_load1 (P := P) (w := w) (t := ty) (a := ⟨b, 0, none⟩) (v := v) ha hu (by simp [World.cell?, hk])
        simpa [Instr.loadAt, Instr.sureAddr] using hr
    have has : (asAddr (.pointer (some ⟨b, 0, none⟩))).run P w = .ok ⟨b, 0, none⟩ w := rfl
    simp only [List.mapM_cons, Sem.run_bind, Sem.run_pure, Result.andThen_ok, h3, ht, has, hr']
  | [], _ :: _, h => h.elim
  | .tmp _ :: _, [], h => h.elim
  | .cell _ _ :: _, [], h => h.elim
def retV : List Value → Value
  | [v] => v
  | vs => .tuple vs.toArray
theorem pn_ret {sz : Nat} {ro : Option Nat} {fn : Func} {rs : List ResultVar} {vs : List Value} {Post : Value → List Ent → List Fact → Prop} {θ : List Ent} {κ : List Fact} (hrs : fn.results = rs.toArray) (hr : ResOk P C σ η ι rs vs) (hp : Post (retV vs) θ κ) (hs : ∀ w, St C η ι w → St C θ κ w) :
    PN C ⟨sz, [], ro⟩ (bodyPostM Fence.wide 0 P fn (RetQ C Post)) .ret σ η ι := by
  intro a w hf hst
  show LeavesInM Fence.wide 0 P fn a.tmps _ a.defers .returning w
  rw [hf.defers]
  refine ⟨retV vs, ?_, _, _, _, rfl, hp, hs w hst⟩
  have h := ResOk.run hf hst hr
  have hm : (fn.results.mapM (m := Sem) fun | .tmp t => pure (a.tmps.getD t undef) | .cell x t => do loadVar t (← asAddr (a.tmps.getD x undef))).run P w = .ok vs.toArray w := by
    rw [hrs, List.mapM_toArray]
    simp only [Sem.run_map, h]
    rfl
  have e : (results fn a.tmps).run P w = ((fn.results.mapM (m := Sem) fun | .tmp t => pure (a.tmps.getD t undef) | .cell x t => do loadVar t (← asAddr (a.tmps.getD x undef))).run P w).andThen
      fun vs w' => .ok (if h : vs.size = 1 then vs[0] else .tuple vs) w' := by
    unfold results
    simp only [Sem.run_bind, Sem.run_pure]
    rfl
  rw [e, hm, Result.andThen_ok]
  match vs with
  | [] => rfl
  | [v] => rfl
  | v :: u :: vs => simp [retV]
theorem pn_fall {fn : Func} {R : Ending → World → Prop} (h : PN C n (bodyPostM Fence.wide 0 P fn R) .ret σ η ι) : PN C n (bodyPostM Fence.wide 0 P fn R) .normal σ η ι := h
theorem St.bare {w : World} (h : St C η ι w) : St C [] [] w := (h.subEnts (List.nil_sublist η)).subFacts fun _ hf => by cases hf
theorem St.only {w : World} {κ : List Fact} (h : St C η ι w) (hk : AllIn κ ι) : St C [] κ w := (h.subEnts (List.nil_sublist η)).subFacts hk.all
end
end Go.Proofs.Ytfekcgnnhjmeiaa
