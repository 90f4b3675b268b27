/- A small logic of symbolic states over the model's own weakest preconditions: what the slots hold, which blocks are the call's own, which facts on data stand. Generic: names no function of the program. -/
import Derived.Test.YtfekcgnnhjmeiaaKLay
import Derived.Test.YtfekcgnnhjmeiaaKDr
import Derived.Calls
import Derived.RangeFuncRecord
import Derived.OrdersIn
import Derived.TacticsIn
import Derived.Sort.LoopGhostIn
import Derived.Tactics
import Derived.Maps.AppendAt
import Derived.Laws.Tables
import Derived.Laws.Cells
import Derived.Laws.CopyRow
import Derived.ArgAppend
import Derived.Laws.Entries
namespace Go.Proofs.Ytfekcgnnhjmeiaa
open Go.RowKit

/-! ### slots -/
def look : List (Nat × Value) → Nat → Option Value
  | [], _ => none
  | (j, v) :: σ, i => bif Nat.beq j i then some v else look σ i
def ev (σ : List (Nat × Value)) : Operand → Option Value
  | .tmp t => look σ t
  | .const v => some v
  | .global g => some (.pointer (some ⟨g, 0, none⟩))
  | .func f => some (.func (.func f) #[] #[])

/-- what is known of a frame beside its slots: how many there are, the marks of the ranges over functions that it has entered, the loop whose round it is -/
structure FN where
  sz : Nat
  ms : List Nat
  ro : Option Nat
def markD (r : Nat) : Deferred := { target := .collected r, args := #[] }
abbrev FW (ro : Option Nat) : Fence := { Fence.wide with round := ro }
structure Fr (n : FN) (σ : List (Nat × Value)) (a : Act) : Prop where
  defers : a.defers = n.ms.map markD
  size : a.tmps.size = n.sz
  at_ : ∀ i v, look σ i = some v → a.tmps.getD i undef = v

theorem Fr.eval {n : FN} {σ : List (Nat × Value)} {a : Act} (h : Fr n σ a) {x : Operand} {v : Value} (hx : ev σ x = some v) : a.eval x = v := by
  cases x <;> simp only [ev, Option.some.injEq] at hx <;> simp only [Act.eval]
  · exact h.at_ _ _ hx
  · exact hx
  · exact hx
  · exact hx
theorem Fr.put {n : FN} {σ : List (Nat × Value)} {a : Act} (h : Fr n σ a) {d : Nat} (hd : d < n.sz) (v : Value) : Fr n ((d, v) :: σ) (a.put (some d) v) := by
  refine ⟨h.defers, by simp [Act.put, h.size], fun i u hu => ?_⟩
  simp only [look] at hu
  cases hb : Nat.beq d i with
  | true =>
    rw [hb] at hu
    have := Nat.eq_of_beq_eq_true hb
    subst this
    simp only [cond_true, Option.some.injEq] at hu
    simp [Act.put, h.size, hd, hu]
  | false =>
    rw [hb] at hu
    have hne : d ≠ i := fun e => by subst e; simp at hb
    have := h.at_ i u hu
    simpa [Act.put, Array.getElem?_setIfInBounds_ne hne] using this
theorem Fr.put_none {n : FN} {σ : List (Nat × Value)} {a : Act} (h : Fr n σ a) (v : Value) : Fr n σ (a.put none v) := h
/-- fewer slots, each as it stands -/
theorem Fr.sub {n : FN} {σ τ : List (Nat × Value)} {a : Act} (h : Fr n σ a) (hs : ∀ p ∈ τ, look σ p.1 = some p.2) : Fr n τ a := by
  refine ⟨h.defers, h.size, fun i v hv => h.at_ i v ?_⟩
  induction τ with
  | nil => cases hv
  | cons p τ ih =>
    obtain ⟨j, u⟩ := p
    simp only [look] at hv
    cases hb : Nat.beq j i with
    | true =>
      rw [hb] at hv
      have := Nat.eq_of_beq_eq_true hb
      subst this
      simp only [cond_true, Option.some.injEq] at hv
      subst hv
      exact hs (j, u) (by simp)
    | false =>
      rw [hb] at hv
      exact ih (fun p hp => hs p (List.mem_cons_of_mem _ hp)) hv
theorem Fr.start {n : Nat} {args : Array Value} {σ : List (Nat × Value)} (hl : args.size ≤ n) (hs : ∀ i v, look σ i = some v → args[i]? = some v) :
    Fr ⟨n, [], none⟩ σ { tmps := args ++ Array.replicate (n - args.size) undef, defers := [] } := by
  refine ⟨rfl, by simp; omega, fun i v hv => ?_⟩
  have h := hs i v hv
  have hi : i < args.size := (Array.getElem?_eq_some_iff.1 h).1
  simp [Array.getElem?_append_left hi, h]

/-! ### blocks of the call's own -/
structure Ent where
  own : Nat → Prop
  ok : World → (Nat → Prop) → Prop
  lt : ∀ {w : World} {S : Nat → Prop} {b : Nat}, ok w S → own b → b < w.heap.size
  keep : ∀ {w w' : World} {S : Nat → Prop}, ok w S → (∀ b, own b → w'.heap[b]? = w.heap[b]?) → Same S w w' → ok w' S
  sub : ∀ {w : World} {S T : Nat → Prop}, ok w S → (∀ b, S b → T b) → ok w T

/-- a block known whole -/
def eBlk (b : Nat) (t : TypeId) (cs : List Value) : Ent where
  own := fun x => some b = some x
  ok := fun w _ => w.heap[b]? = some (.cells cs.toArray t (0, 0))
  lt := fun hk hb => by
    simp only [Option.some.injEq] at hb
    subst hb
    exact (Array.getElem?_eq_some_iff.1 hk).1
  keep := fun hk hs _ => (hs b rfl).trans hk
  sub := fun hk _ => hk

/-- a row in a block of one's own, which may be longer than the row's capacity -/
def ownsT (w : World) (e : TypeId) (size : Nat) (v : Value) (n : Nat) (xs : List Value) : Prop :=
  xs.length = n * size ∧ ((v = .slice none 0 0 ∧ n = 0) ∨ ∃ g cap cur, v = .slice (some ⟨g, 0, none⟩) n cap ∧ 0 ≤ g ∧ w.heap[g]? = some (.cells cur e (0, 0)) ∧ n ≤ cap ∧ cap ≤ maxLen ∧ cap * size ≤ cur.size ∧ cur.toList.take (n * size) = xs)
theorem ownsT_of {w : World} {base : Nat} {e : TypeId} {size : Nat} {v : Value} {n : Nat} {xs : List Value} (h : w.ownsRow base e size v n xs) : ownsT w e size v n xs :=
  ⟨h.1, h.2.imp id fun ⟨g, cap, cur, h1, _, h3, h4, h5, h6, h7⟩ => ⟨g, cap, cur, h1, Nat.zero_le _, h3, h4, h5, Nat.le_of_eq h6.symm, h7⟩⟩
theorem ownsT_lt {w : World} {e : TypeId} {size : Nat} {v : Value} {n : Nat} {xs : List Value} (h : ownsT w e size v n xs) {b : Nat} (hb : v.ownBlock = some b) : b < w.heap.size := by
  rcases h.2 with ⟨rfl, _⟩ | ⟨g, _, _, rfl, _, hg, _⟩
  · cases hb
  · simp only [Value.ownBlock, Option.some.injEq] at hb
    subst hb
    exact (Array.getElem?_eq_some_iff.1 hg).1
theorem run_append_ownT {P : Program} (w : World) (t ty e : TypeId) (i : TypeInfo) (z : Value) (size bytes : Nat) (ht : P.underlying t = some (.slice e)) (hi : P.info? e = some i) (hz : i.zero = some z)
    (hsize : i.size = size) (hby : i.bytes = bytes) (hzs : z.cells.size = size) (hsz : 0 < size) (v : Value) (n : Nat) (xs : List Value) (hown : ownsT w e size v n xs)
    (a : Addr) (m c : Nat) (news : List Value) (hl : news.length = m * size) (hnews : ∀ j u, news[j]? = some u → w.cell? (a.add j) = some u) (h1 : ∀ u ∈ news, u.oneCell' = true)
    (h63 : n + m ≤ maxLen) (hbytes : (n + m) * bytes ≤ 140737488355328) :
    ∃ v' w', (Builtin.append_ #[t, t] ty #[v, .slice (some a) m c]).run P w = .ok v' w' ∧ ownsT w' e size v' (n + m) (xs ++ news) ∧ w.grownBy w' v.ownBlock ∧ (∀ b, v'.ownBlock = some b → v.ownBlock = some b ∨ w.heap.size ≤ b) := by
  obtain ⟨hxl, ⟨rfl, rfl⟩ | ⟨g, cap, cur, rfl, _, hg, hnc, hcm, hcs, htk⟩⟩ := hown
  · have hx0 : xs = [] := List.eq_nil_of_length_eq_zero (by simpa using hxl)
    subst hx0
    obtain ⟨v', w', h2, h3, h4, _, h6⟩ := run_append_own_at (P := P) w 0 t ty e i z size bytes ht hi hz hsize hby hzs hsz (.slice none 0 0) 0 [] (World.ownsRow_nil w 0 e size) a m c news hl hnews h1 h63 hbytes (Nat.zero_le _)
    refine ⟨v', w', h2, ownsT_of h3, h4, fun b hb => ?_⟩
    rcases h6 with h6 | h6
    · exact .inl (h6 ▸ hb)
    · rw [h6] at hb
      simp only [Option.some.injEq] at hb
      exact .inr (by omega)
  · by_cases hroom : n + m ≤ cap
    · subst hsize
      have hfc := run_firstCells_some (P := P) w i.size m a m c news hl hnews
      have hle : n * i.size + news.length ≤ cur.size := by
        rw [hl, ← Nat.add_mul]
        exact Nat.le_trans (Nat.mul_le_mul_right _ hroom) hcs
      have hst := run_storeCells_at (P := P) g (n * i.size) e news 0 cur w hg (by simpa using hle) h1
      simp only [Nat.add_zero] at hst
      have hr : (Builtin.append_ #[t, t] ty #[.slice (some ⟨g, 0, none⟩) n cap, .slice (some a) m c]).run P w = .ok (.slice (some ⟨g, 0, none⟩) (n + m) cap) (w.setRow g (cur.toList.take (n * i.size) ++ news ++ cur.toList.drop (n * i.size + news.length)).toArray) := by
        simp [Builtin.append_, run_underlying ht, Go.sizeOf, typeInfo, hi, Builtin.lenOf, hroom, hfc, Addr.add_lit, hst]
      refine ⟨_, _, hr, ⟨by rw [List.length_append, hxl, hl, Nat.add_mul], .inr ⟨g, cap, _, rfl, Nat.zero_le _, setRow_heap w g cur _ e _ hg, hroom, hcm, ?_, ?_⟩⟩, ⟨rfl, rfl, rfl, by simp, fun k _ hk => setRow_other w g k _ (fun e => hk (by simp [Value.ownBlock, e]))⟩, fun b hb => .inl hb⟩
      · simp only [List.size_toArray, List.length_append, List.length_take, List.length_drop, Array.length_toList]
        omega
      · have e1 : (cur.toList.take (n * i.size)).length = n * i.size := by simp; omega
        rw [htk] at e1 ⊢
        simp only [List.append_assoc]
        rw [show (n + m) * i.size = xs.length + news.length by rw [Nat.add_mul, hl, hxl], ← List.append_assoc, ← List.length_append]
        exact List.take_left
    · obtain ⟨v', w', h2, h3, h4⟩ := run_append_arg_grows (P := P) w t ty e i z size bytes ht hi hz hsize hby hzs hsz ⟨g, 0, none⟩ n cap xs hxl (fun j u hu => by
        rw [Addr.add_at, Nat.zero_add]
        have hu2 : cur[j]? = some u := by
          rw [← htk, List.getElem?_take] at hu
          split at hu
          · simpa using hu
          · cases hu
        simp [World.cell?, hg, hu2]) a m c news hl hnews (by omega) h63 hbytes
      refine ⟨v', w', h2, ownsT_of h3, ⟨h4.os, h4.tape, h4.output, h4.size, fun k hk _ => h4.block k hk (by simp)⟩, fun b hb => .inr ?_⟩
      rcases h3.2 with ⟨rfl, _⟩ | ⟨g', _, _, rfl, hg', _⟩
      · cases hb
      · simp only [Value.ownBlock, Option.some.injEq] at hb
        omega
/-- a slice of n elements in memory of its own, maybe with spare capacity, that reads as xs (a slice without capacity owns nothing) -/
def eS {α : Type} (L : Lay α) (e : TypeId) (A : Option Addr) (n c : Nat) (xs : List α) : Ent where
  own := fun x => (if c = 0 then none else (Value.slice A n c).ownBlock) = some x
  ok := fun w S => n = xs.length ∧ ((c = 0 ∧ xs = []) ∨ (c ≠ 0 ∧ ∃ cs, ownsT w e L.size (.slice A n c) n cs ∧ Cells L w S cs xs))
  lt := fun ⟨_, hk⟩ hb => by
    rcases hk with ⟨hc, _⟩ | ⟨hc, cs, hk, _⟩
    · rw [if_pos hc] at hb; cases hb
    · rw [if_neg hc] at hb; exact ownsT_lt hk hb
  keep := fun ⟨hn, hk⟩ hs hS => by
    refine ⟨hn, ?_⟩
    rcases hk with hk | ⟨h0, cs, hk, hc⟩
    · exact .inl hk
    · refine .inr ⟨h0, cs, ⟨hk.1, ?_⟩, hc.keep hS⟩
      rcases hk.2 with hn | ⟨g, cap, cur, hv, hg0, hg, rest⟩
      · exact .inl hn
      · refine .inr ⟨g, cap, cur, hv, hg0, (hs g ?_).trans hg, rest⟩
        rw [if_neg h0, hv]
        rfl
  sub := fun ⟨hn, hk⟩ h => ⟨hn, hk.imp id fun ⟨h0, cs, hk, hc⟩ => ⟨h0, cs, hk, hc.sub h⟩⟩

/-! ### facts on data that nobody changes -/
structure Fact where
  R : World → (Nat → Prop) → Prop
  keep : ∀ {w w' : World} {S : Nat → Prop}, R w S → Same S w w' → R w' S
  sub : ∀ {w : World} {S T : Nat → Prop}, R w S → (∀ b, S b → T b) → R w T

/-- these cells stand for x -/
def fC {α : Type} (L : Lay α) (cs : List Value) (x : α) : Fact := ⟨fun w S => L.R w S cs x, fun h k => L.keep h k, fun h k => L.sub h k⟩
/-- this value of one cell stands for x -/
abbrev fV {α : Type} (L : Lay α) (v : Value) (x : α) : Fact := fC L [v] x

/-! ### states -/
structure Cx where
  W0 : World
  S : Nat → Prop
  M : Nat → Prop

def Im (C : Cx) (η : List Ent) (w : World) : Nat → Prop := fun b => b < w.heap.size ∧ (C.W0.heap.size ≤ b ∨ C.S b ∨ C.M b) ∧ ∀ h ∈ η, ¬ h.own b

structure St (C : Cx) (η : List Ent) (ι : List Fact) (w : World) : Prop where
  os : w.os = C.W0.os
  tape : w.tape = C.W0.tape
  output : w.output = C.W0.output ∧ C.W0.drawn ≤ w.drawn
  size : C.W0.heap.size ≤ w.heap.size
  old : ∀ b, b < C.W0.heap.size → ¬ C.M b → w.heap[b]? = C.W0.heap[b]?
  ents : ∀ h ∈ η, h.ok w (Im C η w)
  place : ∀ h ∈ η, ∀ b, h.own b → C.W0.heap.size ≤ b ∨ C.M b
  apart : η.Pairwise fun h k => ∀ b, h.own b → ¬ k.own b
  facts : ∀ f ∈ ι, f.R w (Im C η w)

section
variable {C : Cx} {η : List Ent} {ι : List Fact} {w w' : World}

theorem St.ext (h : St C η ι w) (hb : Below w.heap.size w w') (hd : w.drawn ≤ w'.drawn) : St C η ι w' := by
  refine ⟨hb.os.trans h.os, hb.tape.trans h.tape, ⟨hb.output.trans h.output.1, Nat.le_trans h.output.2 hd⟩, Nat.le_trans h.size hb.size, fun b hlt hm => (hb.block b (Nat.lt_of_lt_of_le hlt h.size)).trans (h.old b hlt hm), fun e he => ?_, h.place, h.apart, fun f hf => ?_⟩
  · exact e.sub (e.keep (h.ents e he) (fun b hbk => hb.block b (e.lt (h.ents e he) hbk)) fun b hb' => hb.block b hb'.1) fun b hb' => ⟨Nat.lt_of_lt_of_le hb'.1 hb.size, hb'.2⟩
  · refine f.sub (f.keep (h.facts f hf) fun b hb' => hb.block b hb'.1) fun b hb' => ⟨Nat.lt_of_lt_of_le hb'.1 hb.size, hb'.2⟩
theorem St.drew (h : St C η ι w) : St C η ι w.drew := ⟨h.os, h.tape, ⟨h.output.1, Nat.le_succ_of_le h.output.2⟩, h.size, h.old, fun e he => e.keep (h.ents e he) (fun _ _ => rfl) fun _ _ => rfl, h.place, h.apart, fun f hf => f.keep (h.facts f hf) fun _ _ => rfl⟩
theorem St.tail {e : Ent} (h : St C (e :: η) ι w) : St C η ι w :=
  ⟨h.os, h.tape, h.output, h.size, h.old, fun x hx => x.sub (h.ents x (List.mem_cons_of_mem _ hx)) fun _ hb => ⟨hb.1, hb.2.1, fun x hx => hb.2.2 x (List.mem_cons_of_mem _ hx)⟩, fun x hx => h.place x (List.mem_cons_of_mem _ hx), (List.pairwise_cons.1 h.apart).2,
    fun f hf => f.sub (h.facts f hf) fun _ hb => ⟨hb.1, hb.2.1, fun x hx => hb.2.2 x (List.mem_cons_of_mem _ hx)⟩⟩
theorem St.subFacts {κ : List Fact} (h : St C η ι w) (hs : ∀ f ∈ κ, f ∈ ι) : St C η κ w := ⟨h.os, h.tape, h.output, h.size, h.old, h.ents, h.place, h.apart, fun f hf => h.facts f (hs f hf)⟩
theorem St.fact {f : Fact} (h : St C η ι w) (hf : f.R w (Im C η w)) : St C η (f :: ι) w :=
  ⟨h.os, h.tape, h.output, h.size, h.old, h.ents, h.place, h.apart, fun g hg => by
    rcases List.mem_cons.1 hg with rfl | hg
    · exact hf
    · exact h.facts g hg⟩
theorem St.subEnts {θ : List Ent} (h : St C η ι w) (hs : List.Sublist θ η) : St C θ ι w :=
  ⟨h.os, h.tape, h.output, h.size, h.old, fun x hx => x.sub (h.ents x (hs.subset hx)) fun _ hb => ⟨hb.1, hb.2.1, fun x hx => hb.2.2 x (hs.subset hx)⟩, fun x hx => h.place x (hs.subset hx), h.apart.sublist hs,
    fun f hf => f.sub (h.facts f hf) fun _ hb => ⟨hb.1, hb.2.1, fun x hx => hb.2.2 x (hs.subset hx)⟩⟩
/-- a new block -/
theorem St.alloc (h : St C η ι w) (t : TypeId) (cs : List Value) : St C (eBlk w.heap.size t cs :: η) ι (w.alloc (.cells cs.toArray t)) := by
  have hb : Below w.heap.size w (w.alloc (.cells cs.toArray t)) := (Below.refl _ _).alloc (Nat.le_refl _) _
  have hx := h.ext hb (Nat.le_refl _)
  have hsub : ∀ b, Im C η w b → Im C (eBlk w.heap.size t cs :: η) (w.alloc (.cells cs.toArray t)) b := fun b hb' => ⟨Nat.lt_of_lt_of_le hb'.1 hb.size, hb'.2.1, fun e he => by
    rcases List.mem_cons.1 he with rfl | he
    · simp only [eBlk, Option.some.injEq]
      have := hb'.1
      omega
    · exact hb'.2.2 e he⟩
  refine ⟨hx.os, hx.tape, hx.output, hx.size, hx.old, fun e he => ?_, fun e he b hbk => ?_, List.pairwise_cons.2 ⟨fun e he b hbk hk => ?_, h.apart⟩, fun f hf => ?_⟩
  · rcases List.mem_cons.1 he with rfl | he
    · exact heap_alloc_new w _
    · exact e.sub (e.keep (h.ents e he) (fun b hbk => hb.block b (e.lt (h.ents e he) hbk)) fun b hb' => hb.block b hb'.1) (hsub)
  · rcases List.mem_cons.1 he with rfl | he
    · simp only [eBlk, Option.some.injEq] at hbk
      subst hbk
      exact .inl h.size
    · exact h.place e he b hbk
  · simp only [eBlk, Option.some.injEq] at hbk
    subst hbk
    have := e.lt (h.ents e he) hk
    omega
  · refine f.sub (f.keep (h.facts f hf) fun b hb' => hb.block b hb'.1) fun b hb' => ⟨Nat.lt_of_lt_of_le hb'.1 hb.size, hb'.2.1, fun e he => ?_⟩
    rcases List.mem_cons.1 he with rfl | he
    · simp only [eBlk, Option.some.injEq]
      have := hb'.1
      omega
    · exact hb'.2.2 e he

/-- the entry e of η has turned into e', which lies in the same block or in a new one -/
theorem St.turn {θ₁ θ₂ : List Ent} {e e' : Ent} (h : St C (θ₁ ++ e :: θ₂) ι w) (hos : w'.os = w.os) (ht : w'.tape = w.tape) (ho : w'.output = w.output ∧ w.drawn ≤ w'.drawn) (hsz : w.heap.size ≤ w'.heap.size)
    (hsame : ∀ b, b < w.heap.size → ¬ e.own b → w'.heap[b]? = w.heap[b]?) (hok : e'.ok w' (Im C (θ₁ ++ e :: θ₂) w)) (hbk : ∀ b, e'.own b → e.own b ∨ w.heap.size ≤ b) : St C (θ₁ ++ e' :: θ₂) ι w' := by
  have hin : e ∈ θ₁ ++ e :: θ₂ := by simp
  have hap := h.apart
  rw [List.pairwise_append, List.pairwise_cons] at hap
  have hother : ∀ x, x ∈ θ₁ ∨ x ∈ θ₂ → ∀ b, x.own b → ¬ e.own b := by
    intro x hx b hb he
    rcases hx with hx | hx
    · exact hap.2.2 x hx e (by simp) b hb he
    · exact hap.2.1.1 x hx b he hb
  have hin' : ∀ x, x ∈ θ₁ ∨ x ∈ θ₂ → x ∈ θ₁ ++ e :: θ₂ := by
    intro x hx
    rcases hx with hx | hx <;> simp [hx]
  have hsub : ∀ b, Im C (θ₁ ++ e :: θ₂) w b → Im C (θ₁ ++ e' :: θ₂) w' b := fun b hb' => ⟨Nat.lt_of_lt_of_le hb'.1 hsz, hb'.2.1, fun x hx he => by
    rw [List.mem_append, List.mem_cons] at hx
    rcases hx with hx | rfl | hx
    · exact hb'.2.2 x (hin' x (.inl hx)) he
    · rcases hbk b he with h1 | h1
      · exact hb'.2.2 e hin h1
      · have := hb'.1
        omega
    · exact hb'.2.2 x (hin' x (.inr hx)) he⟩
  have hS : Same (Im C (θ₁ ++ e :: θ₂) w) w w' := fun b hb' => hsame b hb'.1 (hb'.2.2 e hin)
  refine ⟨hos.trans h.os, ht.trans h.tape, ⟨ho.1.trans h.output.1, Nat.le_trans h.output.2 ho.2⟩, Nat.le_trans h.size hsz, fun b hlt hm => ?_, fun x hx => ?_, fun x hx b hb => ?_, ?_, fun f hf => f.sub (f.keep (h.facts f hf) hS) hsub⟩
  · refine (hsame b (Nat.lt_of_lt_of_le hlt h.size) fun he => ?_).trans (h.old b hlt hm)
    rcases h.place e hin b he with h1 | h1
    · omega
    · exact hm h1
  · rw [List.mem_append, List.mem_cons] at hx
    rcases hx with hx | rfl | hx
    · have hk := h.ents x (hin' x (.inl hx))
      exact x.sub (x.keep hk (fun b hb => hsame b (x.lt hk hb) (hother x (.inl hx) b hb)) hS) hsub
    · exact x.sub hok hsub
    · have hk := h.ents x (hin' x (.inr hx))
      exact x.sub (x.keep hk (fun b hb => hsame b (x.lt hk hb) (hother x (.inr hx) b hb)) hS) hsub
  · rw [List.mem_append, List.mem_cons] at hx
    rcases hx with hx | rfl | hx
    · exact h.place x (hin' x (.inl hx)) b hb
    · rcases hbk b hb with h1 | h1
      · exact h.place e hin b h1
      · exact .inl (Nat.le_trans h.size h1)
    · exact h.place x (hin' x (.inr hx)) b hb
  · have hnew : ∀ x, x ∈ θ₁ ∨ x ∈ θ₂ → ∀ b, x.own b → ¬ e'.own b := by
      intro x hx b hb he
      rcases hbk b he with h1 | h1
      · exact hother x hx b hb h1
      · have := x.lt (h.ents x (hin' x hx)) hb
        omega
    rw [List.pairwise_append, List.pairwise_cons]
    refine ⟨hap.1, ⟨fun x hx b hb hx' => hnew x (.inr hx) b hx' hb, hap.2.1.2⟩, fun x hx y hy b hb hy' => ?_⟩
    rcases List.mem_cons.1 hy with rfl | hy
    · exact hnew x (.inl hx) b hb hy'
    · exact hap.2.2 x hx y (List.mem_cons_of_mem _ hy) b hb hy'
end

/-! ### finding an entry, a fact -/
/-- η with the entry e; θ: with e' in its place -/
def Sw (η : List Ent) (e e' : Ent) (θ : List Ent) : Prop := ∃ θ₁ θ₂, η = θ₁ ++ e :: θ₂ ∧ θ = θ₁ ++ e' :: θ₂
theorem Sw.head {e e' : Ent} {η : List Ent} : Sw (e :: η) e e' (e' :: η) := ⟨[], η, rfl, rfl⟩
theorem Sw.tail {e e' h : Ent} {η θ : List Ent} (k : Sw η e e' θ) : Sw (h :: η) e e' (h :: θ) := by
  obtain ⟨a, b, rfl, rfl⟩ := k
  exact ⟨h :: a, b, rfl, rfl⟩
theorem Sw.mem {η θ : List Ent} {e e' : Ent} (h : Sw η e e' θ) : e ∈ η := by
  obtain ⟨a, b, rfl, _⟩ := h
  simp

/-- η holds e; F e': η with e' in its place -/
def SwF (η : List Ent) (e : Ent) (F : Ent → List Ent) : Prop := ∀ e', Sw η e e' (F e')
theorem SwF.head {e : Ent} {η : List Ent} : SwF (e :: η) e (fun e' => e' :: η) := fun _ => Sw.head
theorem SwF.tail {e h : Ent} {η : List Ent} {F : Ent → List Ent} (k : SwF η e F) : SwF (h :: η) e (fun e' => h :: F e') := fun e' => (k e').tail
theorem SwF.mem {η : List Ent} {e : Ent} {F : Ent → List Ent} (h : SwF η e F) : e ∈ η := (h e).mem

theorem St.sw {C : Cx} {η θ : List Ent} {ι : List Fact} {e e' : Ent} {w w' : World} (hs : Sw η e e' θ) (h : St C η ι w) (hos : w'.os = w.os) (ht : w'.tape = w.tape) (ho : w'.output = w.output ∧ w.drawn ≤ w'.drawn) (hsz : w.heap.size ≤ w'.heap.size)
    (hsame : ∀ b, b < w.heap.size → ¬ e.own b → w'.heap[b]? = w.heap[b]?) (hok : e'.ok w' (Im C η w)) (hbk : ∀ b, e'.own b → e.own b ∨ w.heap.size ≤ b) : St C θ ι w' := by
  obtain ⟨a, b, rfl, rfl⟩ := hs
  exact h.turn hos ht ho hsz hsame hok hbk
theorem St.ent {C : Cx} {η : List Ent} {ι : List Fact} {e : Ent} {w : World} (h : St C η ι w) (hs : e ∈ η) : e.ok w (Im C η w) := h.ents e hs

end Go.Proofs.Ytfekcgnnhjmeiaa
