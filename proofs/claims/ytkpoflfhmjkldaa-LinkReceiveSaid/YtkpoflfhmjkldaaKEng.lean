/- A small logic of symbolic states over the model's own weakest preconditions: what the slots hold, which blocks are the call's own, which facts on data stand. Generic: names no function of the program. -/
import Derived.Test.YtkpoflfhmjkldaaKLay
import Derived.Test.YtkpoflfhmjkldaaKDr
import Derived.Calls
import Derived.RangeFuncRecord
import Derived.OrdersIn
import Derived.TacticsIn
import Derived.Sort.LoopGhostIn
import Derived.Tactics
import Derived.Maps.AppendAt
import Derived.Laws.Tables
import Derived.Laws.Cells
import Derived.Laws.CopyRow
import Derived.Laws.Entries
namespace Go.Proofs.Ytkpoflfhmjkldaa
open Go.RowKit

/-! ### slots -/
def look : List (Nat × Value) → Nat → Option Value
  | [], _ => none
  | (j, v) :: σ, i => bif Nat.beq j i then some v else look σ i
def ev (σ : List (Nat × Value)) : Operand → Option Value
  | .tmp t => look σ t
  | .const v => some v
  | .global g => some (.pointer (some ⟨g, 0, none⟩))
  | .func f => some (.func (.func f) #[] #[])

/-- what is known of a frame beside its slots: how many there are, the marks of the ranges over functions that it has entered, the loop whose round it is -/
structure FN where
  sz : Nat
  ms : List Nat
  ro : Option Nat
def markD (r : Nat) : Deferred := { target := .collected r, args := #[] }
abbrev FW (ro : Option Nat) : Fence := { Fence.wide with round := ro }
structure Fr (n : FN) (σ : List (Nat × Value)) (a : Act) : Prop where
  defers : a.defers = n.ms.map markD
  size : a.tmps.size = n.sz
  at_ : ∀ i v, look σ i = some v → a.tmps.getD i undef = v

theorem Fr.eval {n : FN} {σ : List (Nat × Value)} {a : Act} (h : Fr n σ a) {x : Operand} {v : Value} (hx : ev σ x = some v) : a.eval x = v := by
  cases x <;> simp only [ev, Option.some.injEq] at hx <;> simp only [Act.eval]
  · exact h.at_ _ _ hx
  · exact hx
  · exact hx
  · exact hx
theorem Fr.put {n : FN} {σ : List (Nat × Value)} {a : Act} (h : Fr n σ a) {d : Nat} (hd : d < n.sz) (v : Value) : Fr n ((d, v) :: σ) (a.put (some d) v) := by
  refine ⟨h.defers, by simp [Act.put, h.size], fun i u hu => ?_⟩
  simp only [look] at hu
  cases hb : Nat.beq d i with
  | true =>
    rw [hb] at hu
    have := Nat.eq_of_beq_eq_true hb
    subst this
    simp only [cond_true, Option.some.injEq] at hu
    simp [Act.put, h.size, hd, hu]
  | false =>
    rw [hb] at hu
    have hne : d ≠ i := fun e => by subst e; simp at hb
    have := h.at_ i u hu
    simpa [Act.put, Array.getElem?_setIfInBounds_ne hne] using this
theorem Fr.put_none {n : FN} {σ : List (Nat × Value)} {a : Act} (h : Fr n σ a) (v : Value) : Fr n σ (a.put none v) := h
/-- fewer slots, each as it stands -/
theorem Fr.sub {n : FN} {σ τ : List (Nat × Value)} {a : Act} (h : Fr n σ a) (hs : ∀ p ∈ τ, look σ p.1 = some p.2) : Fr n τ a := by
  refine ⟨h.defers, h.size, fun i v hv => h.at_ i v ?_⟩
  induction τ with
  | nil => cases hv
  | cons p τ ih =>
    obtain ⟨j, u⟩ := p
    simp only [look] at hv
    cases hb : Nat.beq j i with
    | true =>
      rw [hb] at hv
      have := Nat.eq_of_beq_eq_true hb
      subst this
      simp only [cond_true, Option.some.injEq] at hv
      subst hv
      exact hs (j, u) (by simp)
    | false =>
      rw [hb] at hv
      exact ih (fun p hp => hs p (List.mem_cons_of_mem _ hp)) hv
theorem Fr.start {n : Nat} {args : Array Value} {σ : List (Nat × Value)} (hl : args.size ≤ n) (hs : ∀ i v, look σ i = some v → args[i]? = some v) :
    Fr ⟨n, [], none⟩ σ { tmps := args ++ Array.replicate (n - args.size) undef, defers := [] } := by
  refine ⟨rfl, by simp; omega, fun i v hv => ?_⟩
  have h := hs i v hv
  have hi : i < args.size := (Array.getElem?_eq_some_iff.1 h).1
  simp [Array.getElem?_append_left hi, h]

/-! ### blocks of the call's own -/
structure Ent where
  own : Nat → Prop
  ok : World → (Nat → Prop) → Prop
  lt : ∀ {w : World} {S : Nat → Prop} {b : Nat}, ok w S → own b → b < w.heap.size
  keep : ∀ {w w' : World} {S : Nat → Prop}, ok w S → (∀ b, own b → w'.heap[b]? = w.heap[b]?) → Same S w w' → ok w' S
  sub : ∀ {w : World} {S T : Nat → Prop}, ok w S → (∀ b, S b → T b) → ok w T

/-- a block known whole -/
def eBlk (b : Nat) (t : TypeId) (cs : List Value) : Ent where
  own := fun x => some b = some x
  ok := fun w _ => w.heap[b]? = some (.cells cs.toArray t (0, 0))
  lt := fun hk hb => by
    simp only [Option.some.injEq] at hb
    subst hb
    exact (Array.getElem?_eq_some_iff.1 hk).1
  keep := fun hk hs _ => (hs b rfl).trans hk
  sub := fun hk _ => hk

/-- a slice of n elements in memory of its own, maybe with spare capacity, that reads as xs (a slice without capacity owns nothing) -/
def eS {α : Type} (L : Lay α) (e : TypeId) (A : Option Addr) (n c : Nat) (xs : List α) : Ent where
  own := fun x => (if c = 0 then none else (Value.slice A n c).ownBlock) = some x
  ok := fun w S => n = xs.length ∧ ((c = 0 ∧ xs = []) ∨ (c ≠ 0 ∧ ∃ cs, w.ownsRow 0 e L.size (.slice A n c) n cs ∧ Cells L w S cs xs))
  lt := fun ⟨_, hk⟩ hb => by
    rcases hk with ⟨hc, _⟩ | ⟨hc, cs, hk, _⟩
    · rw [if_pos hc] at hb; cases hb
    · rw [if_neg hc] at hb; exact (hk.lt _ hb).2
  keep := fun ⟨hn, hk⟩ hs hS => by
    refine ⟨hn, ?_⟩
    rcases hk with hk | ⟨h0, cs, hk, hc⟩
    · exact .inl hk
    · refine .inr ⟨h0, cs, ⟨hk.1, ?_⟩, hc.keep hS⟩
      rcases hk.2 with hn | ⟨g, cap, cur, hv, hg0, hg, rest⟩
      · exact .inl hn
      · refine .inr ⟨g, cap, cur, hv, hg0, (hs g ?_).trans hg, rest⟩
        rw [if_neg h0, hv]
        rfl
  sub := fun ⟨hn, hk⟩ h => ⟨hn, hk.imp id fun ⟨h0, cs, hk, hc⟩ => ⟨h0, cs, hk, hc.sub h⟩⟩

/-! ### facts on data that nobody changes -/
structure Fact where
  R : World → (Nat → Prop) → Prop
  keep : ∀ {w w' : World} {S : Nat → Prop}, R w S → Same S w w' → R w' S
  sub : ∀ {w : World} {S T : Nat → Prop}, R w S → (∀ b, S b → T b) → R w T

/-- these cells stand for x -/
def fC {α : Type} (L : Lay α) (cs : List Value) (x : α) : Fact := ⟨fun w S => L.R w S cs x, fun h k => L.keep h k, fun h k => L.sub h k⟩
/-- this value of one cell stands for x -/
abbrev fV {α : Type} (L : Lay α) (v : Value) (x : α) : Fact := fC L [v] x

/-! ### states -/
structure Cx where
  W0 : World
  S : Nat → Prop
  M : Nat → Prop

def Im (C : Cx) (η : List Ent) (w : World) : Nat → Prop := fun b => b < w.heap.size ∧ (C.W0.heap.size ≤ b ∨ C.S b ∨ C.M b) ∧ ∀ h ∈ η, ¬ h.own b

structure St (C : Cx) (η : List Ent) (ι : List Fact) (w : World) : Prop where
  os : w.os = C.W0.os
  tape : w.tape = C.W0.tape
  output : w.output = C.W0.output ∧ C.W0.drawn ≤ w.drawn
  size : C.W0.heap.size ≤ w.heap.size
  old : ∀ b, b < C.W0.heap.size → ¬ C.M b → w.heap[b]? = C.W0.heap[b]?
  ents : ∀ h ∈ η, h.ok w (Im C η w)
  place : ∀ h ∈ η, ∀ b, h.own b → C.W0.heap.size ≤ b ∨ C.M b
  apart : η.Pairwise fun h k => ∀ b, h.own b → ¬ k.own b
  facts : ∀ f ∈ ι, f.R w (Im C η w)

section
variable {C : Cx} {η : List Ent} {ι : List Fact} {w w' : World}

theorem St.ext (h : St C η ι w) (hb : Below w.heap.size w w') (hd : w.drawn ≤ w'.drawn) : St C η ι w' := by
  refine ⟨hb.os.trans h.os, hb.tape.trans h.tape, ⟨hb.output.trans h.output.1, Nat.le_trans h.output.2 hd⟩, Nat.le_trans h.size hb.size, fun b hlt hm => (hb.block b (Nat.lt_of_lt_of_le hlt h.size)).trans (h.old b hlt hm), fun e he => ?_, h.place, h.apart, fun f hf => ?_⟩
  · exact e.sub (e.keep (h.ents e he) (fun b hbk => hb.block b (e.lt (h.ents e he) hbk)) fun b hb' => hb.block b hb'.1) fun b hb' => ⟨Nat.lt_of_lt_of_le hb'.1 hb.size, hb'.2⟩
  · refine f.sub (f.keep (h.facts f hf) fun b hb' => hb.block b hb'.1) fun b hb' => ⟨Nat.lt_of_lt_of_le hb'.1 hb.size, hb'.2⟩
theorem St.drew (h : St C η ι w) : St C η ι w.drew := ⟨h.os, h.tape, ⟨h.output.1, Nat.le_succ_of_le h.output.2⟩, h.size, h.old, fun e he => e.keep (h.ents e he) (fun _ _ => rfl) fun _ _ => rfl, h.place, h.apart, fun f hf => f.keep (h.facts f hf) fun _ _ => rfl⟩
theorem St.tail {e : Ent} (h : St C (e :: η) ι w) : St C η ι w :=
  ⟨h.os, h.tape, h.output, h.size, h.old, fun x hx => x.sub (h.ents x (List.mem_cons_of_mem _ hx)) fun _ hb => ⟨hb.1, hb.2.1, fun x hx => hb.2.2 x (List.mem_cons_of_mem _ hx)⟩, fun x hx => h.place x (List.mem_cons_of_mem _ hx), (List.pairwise_cons.1 h.apart).2,
    fun f hf => f.sub (h.facts f hf) fun _ hb => ⟨hb.1, hb.2.1, fun x hx => hb.2.2 x (List.mem_cons_of_mem _ hx)⟩⟩
theorem St.subFacts {κ : List Fact} (h : St C η ι w) (hs : ∀ f ∈ κ, f ∈ ι) : St C η κ w := ⟨h.os, h.tape, h.output, h.size, h.old, h.ents, h.place, h.apart, fun f hf => h.facts f (hs f hf)⟩
theorem St.fact {f : Fact} (h : St C η ι w) (hf : f.R w (Im C η w)) : St C η (f :: ι) w :=
  ⟨h.os, h.tape, h.output, h.size, h.old, h.ents, h.place, h.apart, fun g hg => by
    rcases List.mem_cons.1 hg with rfl | hg
    · exact hf
    · exact h.facts g hg⟩
theorem St.subEnts {θ : List Ent} (h : St C η ι w) (hs : List.Sublist θ η) : St C θ ι w :=
  ⟨h.os, h.tape, h.output, h.size, h.old, fun x hx => x.sub (h.ents x (hs.subset hx)) fun _ hb => ⟨hb.1, hb.2.1, fun x hx => hb.2.2 x (hs.subset hx)⟩, fun x hx => h.place x (hs.subset hx), h.apart.sublist hs,
    fun f hf => f.sub (h.facts f hf) fun _ hb => ⟨hb.1, hb.2.1, fun x hx => hb.2.2 x (hs.subset hx)⟩⟩
/-- a new block -/
theorem St.alloc (h : St C η ι w) (t : TypeId) (cs : List Value) : St C (eBlk w.heap.size t cs :: η) ι (w.alloc (.cells cs.toArray t)) := by
  have hb : Below w.heap.size w (w.alloc (.cells cs.toArray t)) := (Below.refl _ _).alloc (Nat.le_refl _) _
  have hx := h.ext hb (Nat.le_refl _)
  have hsub : ∀ b, Im C η w b → Im C (eBlk w.heap.size t cs :: η) (w.alloc (.cells cs.toArray t)) b := fun b hb' => ⟨Nat.lt_of_lt_of_le hb'.1 hb.size, hb'.2.1, fun e he => by
    rcases List.mem_cons.1 he with rfl | he
    · simp only [eBlk, Option.some.injEq]
      have := hb'.1
      omega
    · exact hb'.2.2 e he⟩
  refine ⟨hx.os, hx.tape, hx.output, hx.size, hx.old, fun e he => ?_, fun e he b hbk => ?_, List.pairwise_cons.2 ⟨fun e he b hbk hk => ?_, h.apart⟩, fun f hf => ?_⟩
  · rcases List.mem_cons.1 he with rfl | he
    · exact heap_alloc_new w _
    · exact e.sub (e.keep (h.ents e he) (fun b hbk => hb.block b (e.lt (h.ents e he) hbk)) fun b hb' => hb.block b hb'.1) (hsub)
  · rcases List.mem_cons.1 he with rfl | he
    · simp only [eBlk, Option.some.injEq] at hbk
      subst hbk
      exact .inl h.size
    · exact h.place e he b hbk
  · simp only [eBlk, Option.some.injEq] at hbk
    subst hbk
    have := e.lt (h.ents e he) hk
    omega
  · refine f.sub (f.keep (h.facts f hf) fun b hb' => hb.block b hb'.1) fun b hb' => ⟨Nat.lt_of_lt_of_le hb'.1 hb.size, hb'.2.1, fun e he => ?_⟩
    rcases List.mem_cons.1 he with rfl | he
    · simp only [eBlk, Option.some.injEq]
      have := hb'.1
      omega
    · exact hb'.2.2 e he

/-- the entry e of η has turned into e', which lies in the same block or in a new one -/
theorem St.turn {θ₁ θ₂ : List Ent} {e e' : Ent} (h : St C (θ₁ ++ e :: θ₂) ι w) (hos : w'.os = w.os) (ht : w'.tape = w.tape) (ho : w'.output = w.output ∧ w.drawn ≤ w'.drawn) (hsz : w.heap.size ≤ w'.heap.size)
    (hsame : ∀ b, b < w.heap.size → ¬ e.own b → w'.heap[b]? = w.heap[b]?) (hok : e'.ok w' (Im C (θ₁ ++ e :: θ₂) w)) (hbk : ∀ b, e'.own b → e.own b ∨ w.heap.size ≤ b) : St C (θ₁ ++ e' :: θ₂) ι w' := by
  have hin : e ∈ θ₁ ++ e :: θ₂ := by simp
  have hap := h.apart
  rw [List.pairwise_append, List.pairwise_cons] at hap
  have hother : ∀ x, x ∈ θ₁ ∨ x ∈ θ₂ → ∀ b, x.own b → ¬ e.own b := by
    intro x hx b hb he
    rcases hx with hx | hx
    · exact hap.2.2 x hx e (by simp) b hb he
    · exact hap.2.1.1 x hx b he hb
  have hin' : ∀ x, x ∈ θ₁ ∨ x ∈ θ₂ → x ∈ θ₁ ++ e :: θ₂ := by
    intro x hx
    rcases hx with hx | hx <;> simp [hx]
  have hsub : ∀ b, Im C (θ₁ ++ e :: θ₂) w b → Im C (θ₁ ++ e' :: θ₂) w' b := fun b hb' => ⟨Nat.lt_of_lt_of_le hb'.1 hsz, hb'.2.1, fun x hx he => by
    rw [List.mem_append, List.mem_cons] at hx
    rcases hx with hx | rfl | hx
    · exact hb'.2.2 x (hin' x (.inl hx)) he
    · rcases hbk b he with h1 | h1
      · exact hb'.2.2 e hin h1
      · have := hb'.1
        omega
    · exact hb'.2.2 x (hin' x (.inr hx)) he⟩
  have hS : Same (Im C (θ₁ ++ e :: θ₂) w) w w' := fun b hb' => hsame b hb'.1 (hb'.2.2 e hin)
  refine ⟨hos.trans h.os, ht.trans h.tape, ⟨ho.1.trans h.output.1, Nat.le_trans h.output.2 ho.2⟩, Nat.le_trans h.size hsz, fun b hlt hm => ?_, fun x hx => ?_, fun x hx b hb => ?_, ?_, fun f hf => f.sub (f.keep (h.facts f hf) hS) hsub⟩
  · refine (hsame b (Nat.lt_of_lt_of_le hlt h.size) fun he => ?_).trans (h.old b hlt hm)
    rcases h.place e hin b he with h1 | h1
    · omega
    · exact hm h1
  · rw [List.mem_append, List.mem_cons] at hx
    rcases hx with hx | rfl | hx
    · have hk := h.ents x (hin' x (.inl hx))
      exact x.sub (x.keep hk (fun b hb => hsame b (x.lt hk hb) (hother x (.inl hx) b hb)) hS) hsub
    · exact x.sub hok hsub
    · have hk := h.ents x (hin' x (.inr hx))
      exact x.sub (x.keep hk (fun b hb => hsame b (x.lt hk hb) (hother x (.inr hx) b hb)) hS) hsub
  · rw [List.mem_append, List.mem_cons] at hx
    rcases hx with hx | rfl | hx
    · exact h.place x (hin' x (.inl hx)) b hb
    · rcases hbk b hb with h1 | h1
      · exact h.place e hin b h1
      · exact .inl (Nat.le_trans h.size h1)
    · exact h.place x (hin' x (.inr hx)) b hb
  · have hnew : ∀ x, x ∈ θ₁ ∨ x ∈ θ₂ → ∀ b, x.own b → ¬ e'.own b := by
      intro x hx b hb he
      rcases hbk b he with h1 | h1
      · exact hother x hx b hb h1
      · have := x.lt (h.ents x (hin' x hx)) hb
        omega
    rw [List.pairwise_append, List.pairwise_cons]
    refine ⟨hap.1, ⟨fun x hx b hb hx' => hnew x (.inr hx) b hx' hb, hap.2.1.2⟩, fun x hx y hy b hb hy' => ?_⟩
    rcases List.mem_cons.1 hy with rfl | hy
    · exact hnew x (.inl hx) b hb hy'
    · exact hap.2.2 x hx y (List.mem_cons_of_mem _ hy) b hb hy'
end

/-! ### finding an entry, a fact -/
/-- η with the entry e; θ: with e' in its place -/
def Sw (η : List Ent) (e e' : Ent) (θ : List Ent) : Prop := ∃ θ₁ θ₂, η = θ₁ ++ e :: θ₂ ∧ θ = θ₁ ++ e' :: θ₂
theorem Sw.head {e e' : Ent} {η : List Ent} : Sw (e :: η) e e' (e' :: η) := ⟨[], η, rfl, rfl⟩
theorem Sw.tail {e e' h : Ent} {η θ : List Ent} (k : Sw η e e' θ) : Sw (h :: η) e e' (h :: θ) := by
  obtain ⟨a, b, rfl, rfl⟩ := k
  exact ⟨h :: a, b, rfl, rfl⟩
theorem Sw.mem {η θ : List Ent} {e e' : Ent} (h : Sw η e e' θ) : e ∈ η := by
  obtain ⟨a, b, rfl, _⟩ := h
  simp

/-- η holds e; F e': η with e' in its place -/
def SwF (η : List Ent) (e : Ent) (F : Ent → List Ent) : Prop := ∀ e', Sw η e e' (F e')
theorem SwF.head {e : Ent} {η : List Ent} : SwF (e :: η) e (fun e' => e' :: η) := fun _ => Sw.head
theorem SwF.tail {e h : Ent} {η : List Ent} {F : Ent → List Ent} (k : SwF η e F) : SwF (h :: η) e (fun e' => h :: F e') := fun e' => (k e').tail
theorem SwF.mem {η : List Ent} {e : Ent} {F : Ent → List Ent} (h : SwF η e F) : e ∈ η := (h e).mem

theorem St.sw {C : Cx} {η θ : List Ent} {ι : List Fact} {e e' : Ent} {w w' : World} (hs : Sw η e e' θ) (h : St C η ι w) (hos : w'.os = w.os) (ht : w'.tape = w.tape) (ho : w'.output = w.output ∧ w.drawn ≤ w'.drawn) (hsz : w.heap.size ≤ w'.heap.size)
    (hsame : ∀ b, b < w.heap.size → ¬ e.own b → w'.heap[b]? = w.heap[b]?) (hok : e'.ok w' (Im C η w)) (hbk : ∀ b, e'.own b → e.own b ∨ w.heap.size ≤ b) : St C θ ι w' := by
  obtain ⟨a, b, rfl, rfl⟩ := hs
  exact h.turn hos ht ho hsz hsame hok hbk
theorem St.ent {C : Cx} {η : List Ent} {ι : List Fact} {e : Ent} {w : World} (h : St C η ι w) (hs : e ∈ η) : e.ok w (Im C η w) := h.ents e hs

end Go.Proofs.Ytkpoflfhmjkldaa
