/- Composite literals of structs, function values, freezing a block, lists of facts. Generic. -/
import Derived.Test.YtfekcgnnhjmeiaaKMake
namespace Go.Proofs.Ytfekcgnnhjmeiaa
open Go.RowKit

def placesB (P : Program) (t : TypeId) : Option (List (Nat × Nat)) := match P.underlying t with
  | some (.struct fs) => fs.toList.mapM (fun f => (P.info? f.type).map fun i => (f.offset, i.size))
  | _ => none
def putL : List Value → Nat → List Value → List Value
  | zs, _, [] => zs
  | zs, o, c :: cs => putL (zs.set o c) (o + 1) cs
theorem putL_length : ∀ (cs zs : List Value) (o : Nat), (putL zs o cs).length = zs.length
  | [], _, _ => rfl
  | c :: cs, zs, o => by simp [putL, putL_length cs]
theorem putL_eq : ∀ (cs : List Value) (zs : List Value) (o k : Nat), (cs.zipIdx k).foldl (fun (a : Array Value) (p : Value × Nat) => a.setIfInBounds (o + p.2) p.1) zs.toArray = (putL zs (o + k) cs).toArray
  | [], _, _, _ => rfl
  | c :: cs, zs, o, k => by
    have h := putL_eq cs (zs.set (o + k) c) o (k + 1)
    simp only [List.zipIdx_cons, List.foldl_cons, List.setIfInBounds_toArray, putL]
    rw [show o + k + 1 = o + (k + 1) by omega]
    exact h
def fillL (pl : List (Nat × Nat)) : List Value → List (Nat × Value) → Option (List Value)
  | zs, [] => some zs
  | zs, (i, v) :: r => match pl[i]? with
    | none => none
    | some (o, s) => bif Nat.beq v.cells.size s && Nat.ble (o + s) zs.length then fillL pl (putL zs o v.cells.toList) r else none
theorem fillL_eq {pl : List (Nat × Nat)} : ∀ {ps : List (Nat × Value)} {zs cs : List Value}, fillL pl zs ps = some cs → Instr.fill (pl.toArray[·]?) zs.toArray ps = some cs.toArray
  | [], zs, cs, h => by
    simp only [fillL, Option.some.injEq] at h
    subst h
    rfl
  | (i, v) :: r, zs, cs, h => by
    unfold fillL at h
    cases hp : pl[i]? with
    | none => rw [hp] at h; cases h
    | some q =>
      obtain ⟨o, s⟩ := q
      rw [hp] at h
      cases hb : (Nat.beq v.cells.size s && Nat.ble (o + s) zs.length) with
      | false => simp only [hb] at h; cases h
      | true =>
        simp only [hb, cond_true] at h
        rw [Bool.and_eq_true] at hb
        have h1 := Nat.eq_of_beq_eq_true hb.1
        have h2 := Nat.le_of_ble_eq_true hb.2
        have ih := fillL_eq h
        have hpl := putL_eq v.cells.toList zs o 0
        unfold Instr.fill
        have hp' : (pl.toArray)[i]? = some (o, s) := by simpa using hp
        simp only [hp']
        rw [if_neg (by simp; omega)]
        have hz : Array.foldl (fun (cs : Array Value) (x : Value × Nat) => cs.setIfInBounds (o + x.2) x.1) zs.toArray v.cells.zipIdx = (putL zs o v.cells.toList).toArray := by
          rw [← Array.foldl_toList, Array.toList_zipIdx]
          exact hpl
        rw [show (Array.foldl (fun cs x => match x with | (c, j) => cs.setIfInBounds (o + j) c) zs.toArray v.cells.zipIdx) = (putL zs o v.cells.toList).toArray from hz]
        exact ih

section
variable {P : Program} {C : Cx} {n : FN} {Q : Exit → Act → World → Prop} {σ : List (Nat × Value)} {η : List Ent} {ι : List Fact}
variable {d : Option Tmp} {ty : TypeId} {pos : String} {af : Array Edge} {gd : Option (Nat × Bool)}

theorem det_build {t : TypeId} {pl : List (Nat × Nat)} {z : Value} {zs cs : List Value} {ps : List (Nat × Operand)} {vs : List (Nat × Value)} (hp : placesB P t = some pl) (hz : zeroB P t = some z) (hc : z.cells = zs.toArray) (hv : evParts σ ps = some vs) (hf : fillL pl zs vs = some cs) :
    Det P C ⟨d, .build t ps.toArray, ty, pos, af, gd⟩ σ η ι (.agg cs.toArray) := fun ρ w hρ _ => by
  have hm := evParts_map hρ hv
  obtain ⟨i, hi, hiz⟩ := Option.bind_eq_some_iff.1 hz
  have hb : P.built t vs = some cs.toArray := by
    unfold placesB at hp
    unfold Program.built
    split at hp
    · rename_i fs hu
      simp only [hi, hu, hiz, hp, hc]
      exact fillL_eq hf
    · cases hp
  have hr := run_build (P := P) w t (vs.toArray) cs.toArray (by simpa using hb)
  have e : (ps.toArray.map fun p => (p.1, ρ p.2)) = vs.toArray := by rw [List.map_toArray, hm]
  have e' : (ps.toArray.map fun (p : Nat × Operand) => match p with | (i, x) => (i, ρ x)) = vs.toArray := e
  simp only [execOp, e']
  simp [hr]
theorem det_makeFunc {f : FuncId} {xs : List Operand} {vs : List Value} (h : evL σ xs = some vs) : Det P C ⟨d, .makeFunc (.func f) #[] xs.toArray, ty, pos, af, gd⟩ σ η ι (.func (.func f) #[] vs.toArray) := fun ρ w hρ _ => by
  have hm := evL_map hρ h
  simp [execOp, Instr.makeFunc, hm]

/-- a block of the call's own that is not changed any more -/
theorem St.freeze {w : World} {b : Nat} {e : TypeId} {cs : List Value} {θ : List Ent} (h : St C η ι w) (hr : Rem η (eBlk b e cs) θ) : St C θ (fAt b 0 cs :: ι) w := by
  refine (h.subEnts hr.sub).fact ?_
  have hk : w.heap[b]? = some (.cells cs.toArray e (0, 0)) := h.ents _ hr.mem
  refine ⟨h.freed hr rfl, fun j u hu => ?_⟩
  simp [World.cell?, hk, hu]
theorem allIn_of : ∀ {κ ι : List Fact}, (∀ f ∈ κ, f ∈ ι) → AllIn κ ι
  | [], _, _ => trivial
  | f :: _, _, h => ⟨h f List.mem_cons_self, allIn_of fun g hg => h g (List.mem_cons_of_mem _ hg)⟩
theorem allIn_self {κ : List Fact} : AllIn κ κ := allIn_of fun _ h => h
theorem allIn_skip {κ ι : List Fact} {f : Fact} (h : AllIn κ ι) : AllIn κ (f :: ι) := allIn_of fun _ hg => List.mem_cons_of_mem _ (h.all _ hg)
end
end Go.Proofs.Ytfekcgnnhjmeiaa
