/- The logic of symbolic states: maps. Generic: names no function of the program. -/
import Derived.Test.YtfekcgnnhjmeiaaKDet
import Derived.Test.YtfekcgnnhjmeiaaKMapP
import Derived.Maps.RangeRun
namespace Go.Proofs.Ytfekcgnnhjmeiaa
open Go.RowKit
open Go.ChangeMaps (setBlock)

/-! ### keys -/
structure KeyOk (P : Program) (kt : TypeId) {K : Type} [DecidableEq K] (encK : K → Value) : Prop where
  check : ∀ (e : Bool) (x : K) (w : World), (Instr.checkKey e 10000 kt (encK x)).run P w = .ok () w
  eq : ∀ (x y : K) (w : World), (Op.equal kt (encK x) (encK y)).run P w = .ok (decide (x = y)) w
  now : ∃ d, P.underlying kt = some d ∧ ∀ x y : K, Instr.sameNow d (encK x) (encK y) = none ∨ Instr.sameNow d (encK x) (encK y) = some (decide (x = y))
  bits : ∀ x : K, Instr.sameBits 10000 (encK x) (encK x) = true

section
variable {K V : Type} [DecidableEq K] {P : Program} {kt : TypeId} {encK : K → Value} {encV : V → Value} {w : World}
def kv (e : MapEntry) : Value × Value := (e.key, e.val)
def ans (encV : V → Value) (m : List (K × V)) (x : K) (i : Nat) : Option (Nat × Value) := (mfi m x).bind fun j => (m[j]?).map fun p => (i + j, encV p.2)
theorem ans_cons {p : K × V} {m : List (K × V)} {x : K} {i : Nat} : ans encV (p :: m) x i = if p.1 = x then some (i, encV p.2) else ans encV m x (i + 1) := by
  by_cases hp : p.1 = x
  · simp [ans, mfi, hp]
  · cases h : mfi m x with
    | none => simp [ans, mfi, hp, h]
    | some j => simp [ans, mfi, hp, h, show i + (j + 1) = i + 1 + j by omega]
theorem findAsking_run (hk : KeyOk P kt encK) (x : K) : ∀ (es : List MapEntry) (m : List (K × V)) (i : Nat), es.map kv = m.map (fun p => (encK p.1, encV p.2)) → (Instr.findAsking kt (encK x) es i).run P w = .ok (ans encV m x i) w
  | [], [], i, _ => by simp [Instr.findAsking, ans, mfi]
  | [], _ :: _, i, h => by simp at h
  | _ :: _, [], i, h => by simp at h
  | e :: es, p :: m, i, h => by
    simp only [List.map_cons, List.cons.injEq, kv, Prod.mk.injEq] at h
    obtain ⟨⟨h1, h2⟩, h3⟩ := h
    unfold Instr.findAsking
    rw [h1]
    simp only [Sem.run_bind, hk.eq, Result.andThen_ok]
    rw [ans_cons]
    by_cases hx : x = p.1
    · simp [hx, h2]
    · have hx' : ¬ p.1 = x := fun e => hx e.symm
      simp only [hx, decide_false, Bool.false_eq_true, if_false, hx']
      exact findAsking_run hk x es m (i + 1) h3
theorem findNow_run {d : TypeDesc} (hk : ∀ x y : K, Instr.sameNow d (encK x) (encK y) = none ∨ Instr.sameNow d (encK x) (encK y) = some (decide (x = y))) (x : K) : ∀ (es : List MapEntry) (m : List (K × V)) (i : Nat), es.map kv = m.map (fun p => (encK p.1, encV p.2)) → Instr.findNow d (encK x) es i = none ∨ Instr.findNow d (encK x) es i = some (ans encV m x i)
  | [], [], i, _ => by simp [Instr.findNow, ans, mfi]
  | [], _ :: _, i, h => by simp at h
  | _ :: _, [], i, h => by simp at h
  | e :: es, p :: m, i, h => by
    simp only [List.map_cons, List.cons.injEq, kv, Prod.mk.injEq] at h
    obtain ⟨⟨h1, h2⟩, h3⟩ := h
    unfold Instr.findNow
    rw [h1, ans_cons]
    rcases hk x p.1 with h0 | h0
    · rw [h0]; exact .inl rfl
    · rw [h0]
      by_cases hx : x = p.1
      · simp [hx, h2]
      · have hx' : ¬ p.1 = x := fun e => hx e.symm
        simp only [hx, decide_false, hx', if_false]
        exact findNow_run hk x es m (i + 1) h3
theorem findKey_run (hk : KeyOk P kt encK) (x : K) {es : List MapEntry} {m : List (K × V)} (h : es.map kv = m.map (fun p => (encK p.1, encV p.2))) : (Instr.findKey kt (encK x) es).run P w = .ok (ans encV m x 0) w := by
  obtain ⟨d, hd, hn⟩ := hk.now
  unfold Instr.findKey
  simp only [Sem.run_bind, run_underlying hd, Result.andThen_ok]
  rcases findNow_run (encV := encV) hn x es m 0 h with h1 | h1
  · rw [h1]
    exact findAsking_run hk x es m 0 h
  · rw [h1]
    simp
end

def encKI (x : Int) : Value := .int .i64 x
def encVB (b : Bool) : Value := .bool b

/-! ### maps in memory -/
/-- the entries of a map, as they lie there -/
structure Rep {K V : Type} (encK : K → Value) (encV : V → Value) (es : Array MapEntry) (clock : Nat) (m : List (K × V)) : Prop where
  kvs : es.toList.map kv = m.map (fun p => (encK p.1, encV p.2))
  born : (es.toList.map (·.born)).Nodup
  old : ∀ e ∈ es.toList, e.born < clock

/-- a map of the call's own -/
def eM {K V : Type} (encK : K → Value) (encV : V → Value) (b : Nat) (m : List (K × V)) : Ent where
  own := fun x => some b = some x
  ok := fun w _ => ∃ es clock, w.heap[b]? = some (.map es clock) ∧ Rep encK encV es clock m
  lt := fun ⟨_, _, hk, _⟩ hb => by
    simp only [Option.some.injEq] at hb
    subst hb
    exact (Array.getElem?_eq_some_iff.1 hk).1
  keep := fun ⟨es, c, hk, hr⟩ hs _ => ⟨es, c, (hs b rfl).trans hk, hr⟩
  sub := fun h _ => h
/-- .. of which only look-ups are known -/
def eMW {K V : Type} [DecidableEq K] (encK : K → Value) (encV : V → Value) (z : V) (b : Nat) (m : List (K × V)) : Ent where
  own := fun x => some b = some x
  ok := fun w _ => ∃ es clock m', w.heap[b]? = some (.map es clock) ∧ Rep encK encV es clock m' ∧ ∀ x, mget m' x z = mget m x z
  lt := fun ⟨_, _, _, hk, _⟩ hb => by
    simp only [Option.some.injEq] at hb
    subst hb
    exact (Array.getElem?_eq_some_iff.1 hk).1
  keep := fun ⟨es, c, m', hk, hr⟩ hs _ => ⟨es, c, m', (hs b rfl).trans hk, hr⟩
  sub := fun h _ => h
/-- .. with an entry at hand, which has the stamp n -/
def eMP {K V : Type} [DecidableEq K] (encK : K → Value) (encV : V → Value) (z : V) (b : Nat) (m : List (K × V)) (x : K) (n : Nat) : Ent where
  own := fun x => some b = some x
  ok := fun w _ => ∃ es clock i, w.heap[b]? = some (.map es clock) ∧ Rep encK encV es clock (mset m x (mget m x z)) ∧ mfi (mset m x (mget m x z)) x = some i ∧ (es.toList[i]?).map (·.born) = some n
  lt := fun ⟨_, _, _, hk, _⟩ hb => by
    simp only [Option.some.injEq] at hb
    subst hb
    exact (Array.getElem?_eq_some_iff.1 hk).1
  keep := fun ⟨es, c, i, hk, hr⟩ hs _ => ⟨es, c, i, (hs b rfl).trans hk, hr⟩
  sub := fun h _ => h
/-- a map that nobody changes any more -/
def fM {K V : Type} (encK : K → Value) (encV : V → Value) (b : Nat) (m : List (K × V)) : Fact :=
  ⟨fun w S => S b ∧ ∃ es clock, w.heap[b]? = some (.map es clock) ∧ Rep encK encV es clock m, fun ⟨hS, es, c, h, hr⟩ k => ⟨hS, es, c, (k b hS).trans h, hr⟩, fun ⟨hS, h⟩ k => ⟨k b hS, h⟩⟩
/-- a walk through a map that nobody changes: what is still to come; cur: the entry at hand -/
def eIt {K V : Type} (encK : K → Value) (encV : V → Value) (r : Nat) (cur : Option (K × V)) (left : List (K × V)) : Ent where
  own := fun x => some r = some x
  ok := fun w S => ∃ b es clock seen, S b ∧ w.heap[r]? = some (.mapIter (some b) clock seen clock) ∧ w.heap[b]? = some (.map es clock) ∧ (es.toList.map (·.born)).Nodup ∧ (∀ e ∈ es.toList, e.born < clock) ∧
    ((leftOf es seen).toList.map kv).Perm (left.map (fun p => (encK p.1, encV p.2))) ∧
    ∀ p, cur = some p → ∃ e ∈ es.toList, seen.back? = some e.born ∧ e.key = encK p.1 ∧ e.val = encV p.2
  lt := fun ⟨_, _, _, _, _, hk, _⟩ hb => by
    simp only [Option.some.injEq] at hb
    subst hb
    exact (Array.getElem?_eq_some_iff.1 hk).1
  keep := fun ⟨b, es, c, seen, hS, hk, hb, hr⟩ hs hS' => ⟨b, es, c, seen, hS, (hs r rfl).trans hk, (hS' b hS).trans hb, hr⟩
  sub := fun ⟨b, es, c, seen, hS, h⟩ k => ⟨b, es, c, seen, k b hS, h⟩

/-- a walk through a map: the states of its head -/
theorem wc_range {P : Program} {C : Cx} {n : FN} {Q : Exit → Act → World → Prop} {σ : List (Nat × Value)} {η : List Ent} {ι : List Fact} {c : Code} {E S O R : Type} {G : Type} {body : E → S → Option (S ⊕ O)} {kont : S ⊕ O → Option R} {rr : R} (τ : List E × S × G → List (Nat × Value)) (θ : List E × S × G → List Ent) (κ : List E × S × G → List Fact) (g : List E × S × G) (hI : RAll body kont g.1 g.2.1 rr) (hs : Subs (τ g) σ) (he : ∀ w, St C η ι w → St C (θ g) (κ g) w)
    (round : ∀ g : List E × S × G, RAll body kont g.1 g.2.1 rr → WC P C n c (Exit.then (Some C n (fun g' => RAll body kont g'.1 g'.2.1 rr ∧ g'.1.length < g.1.length) τ θ κ) Q) (τ g) (θ g) (κ g)) : WC P C n (.loop c) Q σ η ι :=
  wc_loop (fun g => RAll body kont g.1 g.2.1 rr) (fun g => g.1.length) τ θ κ g hI hs he round
/-- the same with a condition on the states -/
theorem wc_rangeE {P : Program} {C : Cx} {n : FN} {Q : Exit → Act → World → Prop} {σ : List (Nat × Value)} {η : List Ent} {ι : List Fact} {c : Code} {E S O R : Type} {G : Type} {body : E → S → Option (S ⊕ O)} {kont : S ⊕ O → Option R} {rr : R} (J : S × G → Prop) (τ : List E × S × G → List (Nat × Value)) (θ : List E × S × G → List Ent) (κ : List E × S × G → List Fact) (g : List E × S × G) (hI : RAll body kont g.1 g.2.1 rr ∧ J g.2) (hs : Subs (τ g) σ) (he : ∀ w, St C η ι w → St C (θ g) (κ g) w)
    (round : ∀ g : List E × S × G, (RAll body kont g.1 g.2.1 rr ∧ J g.2) → WC P C n c (Exit.then (Some C n (fun g' => (RAll body kont g'.1 g'.2.1 rr ∧ J g'.2) ∧ g'.1.length < g.1.length) τ θ κ) Q) (τ g) (θ g) (κ g)) : WC P C n (.loop c) Q σ η ι :=
  wc_loop (fun g => RAll body kont g.1 g.2.1 rr ∧ J g.2) (fun g => g.1.length) τ θ κ g hI hs he round
theorem plain_eM {K V : Type} {encK : K → Value} {encV : V → Value} {b : Nat} {m : List (K × V)} : (eM encK encV b m).Plain := fun _ _ _ h => h
theorem perm_lt {E : Type} {l l' : List E} {p : E} (h : l.Perm (p :: l')) : l'.length < l.length := by
  have := h.length_eq
  simp only [List.length_cons] at this
  omega
theorem wc_condT {P : Program} {C : Cx} {n : FN} {Q : Exit → Act → World → Prop} {σ : List (Nat × Value)} {η : List Ent} {ι : List Fact} {c : Operand} {x y : Code} (hc : ev σ c = some (.bool true)) (ht : WC P C n x Q σ η ι) : WC P C n (.cond c x y) Q σ η ι := wc_cond hc (fun _ => ht) (fun e => by cases e)
theorem wc_condF {P : Program} {C : Cx} {n : FN} {Q : Exit → Act → World → Prop} {σ : List (Nat × Value)} {η : List Ent} {ι : List Fact} {c : Operand} {x y : Code} (hc : ev σ c = some (.bool false)) (hf : WC P C n y Q σ η ι) : WC P C n (.cond c x y) Q σ η ι := wc_cond hc (fun e => by cases e) (fun _ => hf)
theorem setBlock_heap_ne {w : World} {b b' : Nat} {o : Obj} (h : b ≠ b') : (setBlock w b o).heap[b']? = w.heap[b']? := by
  simp [setBlock, Array.getElem?_setIfInBounds_ne h]
theorem setBlock_heap_eq {w : World} {b : Nat} {o : Obj} (h : b < w.heap.size) : (setBlock w b o).heap[b]? = some o := by
  simp [setBlock, h]
theorem run_setMap {P : Program} {w : World} {r : Nat} {es : Array MapEntry} {c : Nat} (hr : w.heap[r]? = some (.map es c)) (o' : Obj) : (setObj r o').run P w = .ok () (setBlock w r o') := by
  simp [setObj, Sem.run, hr, setBlock]
theorem run_getObj {P : Program} {w : World} {r : Nat} {es : Array MapEntry} {c : Nat} (hr : w.heap[r]? = some (.map es c)) : (getObj r).run P w = .ok (.map es c) w := by
  simp [getObj, Sem.run, hr]

section
variable {P : Program} {C : Cx} {n : FN} {Q : Exit → Act → World → Prop} {σ : List (Nat × Value)} {η : List Ent} {ι : List Fact}
variable {d : Option Tmp} {ty : TypeId} {pos : String} {af : Array Edge} {gd : Option (Nat × Bool)}
variable {K V : Type} {encK : K → Value} {encV : V → Value}

theorem Rep.size {es : Array MapEntry} {clock : Nat} {m : List (K × V)} (h : Rep encK encV es clock m) : es.size = m.length := by
  have := congrArg List.length h.kvs
  simpa using this
theorem Rep.at_ {es : Array MapEntry} {clock : Nat} {m : List (K × V)} (h : Rep encK encV es clock m) {i : Nat} {p : K × V} (hi : m[i]? = some p) : ∃ e, es[i]? = some e ∧ e.key = encK p.1 ∧ e.val = encV p.2 := by
  have h1 := congrArg (fun l => l[i]?) h.kvs
  simp only [List.getElem?_map, hi, Option.map_some] at h1
  obtain ⟨e, he, h2⟩ := Option.map_eq_some_iff.1 h1
  simp only [kv, Prod.mk.injEq] at h2
  exact ⟨e, by simpa using he, h2.1, h2.2⟩
/-- another value at a place -/
theorem Rep.set {es : Array MapEntry} {clock : Nat} {m : List (K × V)} (h : Rep encK encV es clock m) {i : Nat} {x : K} {v : V} (f : MapEntry → MapEntry) (hf : ∀ e, es[i]? = some e → (f e).key = encK x ∧ (f e).val = encV v ∧ (f e).born = e.born) (hi : i < m.length) : Rep encK encV (es.modify i f) clock (m.set i (x, v)) := by
  have hsz := h.size
  have hie : i < es.size := by omega
  have hlist : (es.modify i f).toList = es.toList.set i (f es[i]) := by
    apply List.ext_getElem?
    intro j
    by_cases hj : i = j
    · subst hj
      simp [hie]
    · simp [hj]
  obtain ⟨h1, h2, h3⟩ := hf es[i] (by simp [hie])
  refine ⟨?_, ?_, ?_⟩
  · rw [hlist, List.map_set, List.map_set, h.kvs]
    congr 1
    simp [kv, h1, h2]
  · have : (es.modify i f).toList.map (·.born) = es.toList.map (·.born) := by
      rw [hlist, List.map_set, h3]
      apply List.ext_getElem?
      intro j
      by_cases hj : i = j
      · subst hj; simp [hie]
      · simp [hj]
    rw [this]
    exact h.born
  · intro e he
    rw [hlist] at he
    rcases List.mem_or_eq_of_mem_set he with he | rfl
    · exact h.old e he
    · rw [h3]
      exact h.old _ (by simp)
theorem Rep.push {es : Array MapEntry} {clock : Nat} {m : List (K × V)} (h : Rep encK encV es clock m) (x : K) (v : V) : Rep encK encV (es.push { key := encK x, val := encV v, born := clock }) (clock + 1) (m ++ [(x, v)]) := by
  refine ⟨by simp [h.kvs, kv], ?_, ?_⟩
  · simp only [Array.toList_push, List.map_append, List.map_cons, List.map_nil]
    rw [List.nodup_append]
    refine ⟨h.born, by simp, ?_⟩
    intro a ha b hb
    simp only [List.mem_cons, List.not_mem_nil, or_false] at hb
    subst hb
    obtain ⟨e, he, rfl⟩ := List.mem_map.1 ha
    have := h.old e he
    omega
  · intro e he
    simp only [Array.toList_push, List.mem_append, List.mem_cons, List.not_mem_nil, or_false] at he
    rcases he with he | rfl
    · have := h.old e he; omega
    · simp

theorem St.setMap {C : Cx} {η : List Ent} {ι : List Fact} {e e' : Ent} {w : World} {F : Ent → List Ent} {b : Nat} {es : Array MapEntry} {clock : Nat} (hst : St C η ι w) (hs : SwF η e F) (hb : e.own = fun x => some b = some x) (hb' : e'.own = fun x => some b = some x) (hok : e'.ok (setBlock w b (.map es clock)) (Im C η w)) : St C (F e') ι (setBlock w b (.map es clock)) := by
  refine hst.sw (hs e') rfl rfl ⟨rfl, Nat.le_refl _⟩ (by simp [setBlock]) (fun b' _ hne => setBlock_heap_ne fun e => hne (by rw [hb, e])) hok (fun b' h => .inl ?_)
  rw [hb'] at h
  rw [hb]
  exact h

theorem St.allocO {w : World} (h : St C η ι w) (o : Obj) (e : Ent) (hb : e.own = fun x => some w.heap.size = some x) (hok : e.ok (w.alloc o) (Im C η w)) : St C (e :: η) ι (w.alloc o) := by
  have hbl : Below w.heap.size w (w.alloc o) := (Below.refl _ _).alloc (Nat.le_refl _) _
  have hx := h.ext hbl (Nat.le_refl _)
  have hsub : ∀ b, Im C η w b → Im C (e :: η) (w.alloc o) b := fun b hb' => ⟨Nat.lt_of_lt_of_le hb'.1 hbl.size, hb'.2.1, fun x hx => by
    rcases List.mem_cons.1 hx with rfl | hx
    · rw [hb]
      simp only [Option.some.injEq]
      have := hb'.1
      omega
    · exact hb'.2.2 x hx⟩
  refine ⟨hx.os, hx.tape, hx.output, hx.size, hx.old, fun x hxm => ?_, fun x hxm b hbk => ?_, List.pairwise_cons.2 ⟨fun x hxm b hbk hk => ?_, h.apart⟩, fun f hf => ?_⟩
  · rcases List.mem_cons.1 hxm with rfl | hxm
    · exact x.sub hok hsub
    · exact x.sub (x.keep (h.ents x hxm) (fun b hbk => hbl.block b (x.lt (h.ents x hxm) hbk)) fun b hb' => hbl.block b hb'.1) hsub
  · rcases List.mem_cons.1 hxm with rfl | hxm
    · rw [hb] at hbk
      simp only [Option.some.injEq] at hbk
      subst hbk
      exact .inl h.size
    · exact h.place x hxm b hbk
  · rw [hb] at hbk
    simp only [Option.some.injEq] at hbk
    subst hbk
    have := x.lt (h.ents x hxm) hk
    omega
  · exact f.sub (f.keep (h.facts f hf) fun b hb' => hbl.block b hb'.1) hsub

/-- make(map[K]V) -/
theorem act_makeMap {t : TypeId} (encK : K → Value) (encV : V → Value) : ActOk P C ⟨d, .makeMap t none, ty, pos, af, gd⟩ σ η ι (fun v θ κ => ∃ b, v = .map (some b) ∧ θ = eM encK encV b [] :: η ∧ κ = ι) := fun ρ w _ hst => by
  have hr : (execOp ρ ⟨d, .makeMap t none, ty, pos, af, gd⟩).run P w = .ok (.value (.map (some w.heap.size))) (w.alloc (.map #[] 0)) := by
    simp [execOp, Instr.makeMap, newObj, Sem.run]
  rw [hr]
  exact ⟨_, _, ⟨_, rfl, rfl, rfl⟩, hst.allocO _ _ rfl ⟨#[], 0, heap_alloc_new w _, rfl, by simp, by simp⟩⟩
theorem act_makeMapN {t kt vt : TypeId} {x : Operand} {k : IntKind} {i : Int} (encK : K → Value) (encV : V → Value) (hx : ev σ x = some (.int k i)) (ht : P.underlying t = some (.map kt vt)) : ActOk P C ⟨d, .makeMap t (some x), ty, pos, af, gd⟩ σ η ι (fun v θ κ => ∃ b, v = .map (some b) ∧ θ = eM encK encV b [] :: η ∧ κ = ι) := fun ρ w hρ hst => by
  have hr : (execOp ρ ⟨d, .makeMap t (some x), ty, pos, af, gd⟩).run P w = .ok (.value (.map (some w.heap.size))) (w.alloc (.map #[] 0)) := by
    simp [execOp, Instr.makeMap, newObj, Sem.run, run_underlying ht, hρ _ _ hx, asInt, asIntOf]
  rw [hr]
  exact ⟨_, _, ⟨_, rfl, rfl, rfl⟩, hst.allocO _ _ rfl ⟨#[], 0, heap_alloc_new w _, rfl, by simp, by simp⟩⟩

theorem run_lenMap {w : World} {t kt vt : TypeId} {b : Nat} {es : Array MapEntry} {clock : Nat} {m : List (K × V)} (hb : w.heap[b]? = some (.map es clock)) (hr : Rep encK encV es clock m) (ht : P.underlying t = some (.map kt vt)) (u : TypeId) : (Builtin.len_ #[t] u #[.map (some b)]).run P w = .ok (.int .i64 (m.length : Int)) w := by
  simp [Builtin.len_, run_underlying ht, run_getObj hb, hr.size, goInt]
theorem det_lenM {t kt vt : TypeId} {x : Operand} {b : Nat} {m : List (K × V)} (hx : ev σ x = some (.map (some b))) (he : eM encK encV b m ∈ η) (ht : P.underlying t = some (.map kt vt)) :
    Det P C ⟨d, .call { callee := .builtin .len, args := #[x], argTypes := #[t] }, ty, pos, af, gd⟩ σ η ι (.int .i64 (m.length : Int)) := fun ρ w hρ hst => by
  obtain ⟨es, clock, hb, hr⟩ := hst.ent he
  simp [execOp, resolve, invoke, builtin, hρ _ _ hx, run_lenMap hb hr ht]
theorem det_lenF {t kt vt : TypeId} {x : Operand} {b : Nat} {m : List (K × V)} (hx : ev σ x = some (.map (some b))) (he : fM encK encV b m ∈ ι) (ht : P.underlying t = some (.map kt vt)) :
    Det P C ⟨d, .call { callee := .builtin .len, args := #[x], argTypes := #[t] }, ty, pos, af, gd⟩ σ η ι (.int .i64 (m.length : Int)) := fun ρ w hρ hst => by
  obtain ⟨_, es, clock, hb, hr⟩ := hst.facts _ he
  simp [execOp, resolve, invoke, builtin, hρ _ _ hx, run_lenMap hb hr ht]

/-- nobody changes it any more -/
theorem St.shutM {w : World} {b : Nat} {m : List (K × V)} {θ : List Ent} (h : St C η ι w) (hs : Rem η (eM encK encV b m) θ) : St C θ (fM encK encV b m :: ι) w := by
  have hmem := hs.mem
  obtain ⟨es, clock, hb, hr⟩ := h.ent hmem
  have hlt : b < w.heap.size := (Array.getElem?_eq_some_iff.1 hb).1
  have h2 := h.perm hs.perm
  have hap := List.pairwise_cons.1 h2.apart
  refine h2.tail.fact ⟨⟨hlt, ?_, fun x hx hxb => hap.1 x hx b rfl hxb⟩, es, clock, hb, hr⟩
  rcases h.place _ hmem b rfl with h3 | h3
  · exact .inl h3
  · exact .inr (.inr h3)

/-! ### a walk through a map -/
theorem act_range {t kt vt : TypeId} {x : Operand} {b : Nat} {m : List (K × V)} (hx : ev σ x = some (.map (some b))) (he : fM encK encV b m ∈ ι) (ht : P.underlying t = some (.map kt vt)) :
    ActOk P C ⟨d, .range t x, ty, pos, af, gd⟩ σ η ι (fun v θ κ => ∃ r, v = .pointer (some ⟨r, 0, none⟩) ∧ θ = eIt encK encV r none m :: η ∧ κ = ι) := fun ρ w hρ hst => by
  obtain ⟨hS, es, clock, hb, hr⟩ := hst.facts _ he
  have hlt : b < w.heap.size := (Array.getElem?_eq_some_iff.1 hb).1
  have hrun : (execOp ρ ⟨d, .range t x, ty, pos, af, gd⟩).run P w = .ok (.value (.pointer (some ⟨w.heap.size, 0, none⟩))) (w.alloc (.mapIter (some b) clock #[] clock)) := by
    simp [execOp, hρ _ _ hx, Instr.range, run_underlying ht, run_getObj hb, newObj, Sem.run]
  rw [hrun]
  refine ⟨_, _, ⟨_, rfl, rfl, rfl⟩, hst.allocO _ _ rfl ⟨b, es, clock, #[], hS, heap_alloc_new w _, (Below.heap_alloc w _ b hlt).trans hb, hr.born, hr.old, ?_, fun p hp => by cases hp⟩⟩
  have : leftOf es #[] = es := by
    unfold leftOf
    apply Array.filter_eq_self.2
    intro e _
    simp
  rw [this, hr.kvs]
theorem St.it {w : World} {r : Nat} {cur : Option (K × V)} {left : List (K × V)} (h : St C η ι w) (he : eIt encK encV r cur left ∈ η) : (eIt encK encV r cur left).ok w (Im C η w) := h.ent he
/-- nothing is left -/
theorem act_next0 {x : Operand} {r : Nat} {cur : Option (K × V)} (hx : ev σ x = some (.pointer (some ⟨r, 0, none⟩))) (he : eIt encK encV r cur [] ∈ η) :
    ActOk P C ⟨d, .next x false, ty, pos, af, gd⟩ σ η ι (fun v θ κ => v = .tuple #[.bool false] ∧ θ = η ∧ κ = ι) := fun ρ w hρ hst => by
  obtain ⟨b, es, clock, seen, hS, hk, hb, hn, ho, hl, _⟩ := hst.ent he
  have h0 : (leftOf es seen).size = 0 := by
    have := hl.length_eq
    simpa using this
  rcases run_next_at (P := P) w ty r b clock clock seen es clock hk hb ho (Nat.le_refl _) with ⟨_, hrun⟩ | ⟨e, he, _⟩
  · have : (execOp ρ ⟨d, .next x false, ty, pos, af, gd⟩).run P w = .ok (.value (.tuple #[.bool false])) w := by
      simp [execOp, hρ _ _ hx, hrun]
    rw [this]
    exact ⟨_, _, ⟨rfl, rfl, rfl⟩, hst⟩
  · have := Array.eq_empty_of_size_eq_zero h0
    rw [this] at he
    simp at he
theorem leftOf_push {es : Array MapEntry} {seen : Array Nat} {e : MapEntry} (hn : (es.toList.map (·.born)).Nodup) (he : e ∈ (leftOf es seen).toList) : (leftOf es seen).toList.Perm (e :: (leftOf es (seen.push e.born)).toList) := by
  have hnl : ((leftOf es seen).toList.map (·.born)).Nodup := by
    have hsub : List.Sublist (leftOf es seen).toList es.toList := by
      unfold leftOf
      rw [Array.toList_filter]
      exact List.filter_sublist
    exact (hsub.map _).nodup hn
  have hf : (leftOf es (seen.push e.born)).toList = (leftOf es seen).toList.filter (fun x => !(x.born == e.born)) := by
    unfold leftOf
    rw [Array.toList_filter, Array.toList_filter, List.filter_filter]
    apply List.filter_congr
    intro x _
    by_cases hx : x.born = e.born <;> simp [hx]
  rw [hf]
  generalize (leftOf es seen).toList = l at he hnl
  clear hf hn
  induction l with
  | nil => cases he
  | cons a l ih =>
    simp only [List.map_cons, List.nodup_cons] at hnl
    rcases List.mem_cons.1 he with rfl | he
    · rw [List.filter_cons]
      simp only [BEq.rfl, Bool.not_true, Bool.false_eq_true, if_false]
      have : l.filter (fun x => !(x.born == e.born)) = l := by
        apply List.filter_eq_self.2
        intro x hx
        have : ¬ x.born = e.born := fun h => hnl.1 (h ▸ List.mem_map_of_mem hx)
        simpa using this
      rw [this]
    · have hne : ¬ a.born = e.born := fun h => hnl.1 (h ▸ List.mem_map_of_mem he)
      rw [List.filter_cons]
      have : (!(a.born == e.born)) = true := by simpa using hne
      rw [if_pos this]
      exact (List.Perm.cons a (ih he hnl.2)).trans (List.Perm.swap e a _)
/-- one of what is left -/
theorem act_next1 {x : Operand} {r : Nat} {cur : Option (K × V)} {left : List (K × V)} {F : Ent → List Ent} (hx : ev σ x = some (.pointer (some ⟨r, 0, none⟩))) (hs : SwF η (eIt encK encV r cur left) F) (hne : left ≠ []) :
    ActOk P C ⟨d, .next x false, ty, pos, af, gd⟩ σ η ι (fun v θ κ => ∃ p left', left.Perm (p :: left') ∧ v = .tuple #[.bool true, encK p.1, encV p.2] ∧ θ = F (eIt encK encV r (some p) left') ∧ κ = ι) := fun ρ w hρ hst => by
  obtain ⟨b, es, clock, seen, hS, hk, hb, hn, ho, hl, _⟩ := hst.ent hs.mem
  rcases run_next_at (P := P) w ty r b clock clock seen es clock hk hb ho (Nat.le_refl _) with ⟨h0, _⟩ | ⟨e, he, w1, hw1, hrun⟩
  · have := hl.length_eq
    simp only [List.length_map, Array.length_toList, h0] at this
    exact absurd (List.eq_nil_of_length_eq_zero this.symm) hne
  · have hex : (execOp ρ ⟨d, .next x false, ty, pos, af, gd⟩).run P w = .ok (.value (.tuple #[.bool true, e.key, e.val])) (setBlock w1 r (.mapIter (some b) clock (seen.push e.born) clock)) := by
      simp [execOp, hρ _ _ hx, hrun]
    rw [hex]
    have hin : (e.key, e.val) ∈ left.map (fun p => (encK p.1, encV p.2)) := (hl.mem_iff).1 (List.mem_map_of_mem (f := kv) he)
    obtain ⟨p, hp, hpe⟩ := List.mem_map.1 hin
    simp only [Prod.mk.injEq] at hpe
    obtain ⟨l1, l2, rfl⟩ := List.append_of_mem hp
    have hst1 : St C η ι w1 := by rcases hw1 with rfl | rfl; exact hst; exact hst.drew
    have hk1 : w1.heap[r]? = some (.mapIter (some b) clock seen clock) := by rcases hw1 with rfl | rfl <;> exact hk
    have hb1 : w1.heap[b]? = some (.map es clock) := by rcases hw1 with rfl | rfl <;> exact hb
    have hrb : r ≠ b := fun h => by subst h; rw [hk] at hb; cases hb
    have hlt : r < w1.heap.size := (Array.getElem?_eq_some_iff.1 hk1).1
    have hS1 : Im C η w1 b := by rcases hw1 with rfl | rfl <;> exact hS
    refine ⟨_, _, ⟨p, l1 ++ l2, List.perm_middle, by rw [hpe.1, hpe.2], rfl, rfl⟩, ?_⟩
    refine hst1.sw (hs _) rfl rfl ⟨rfl, Nat.le_refl _⟩ (by simp [setBlock]) (fun b' _ hne => setBlock_heap_ne fun e => hne (by rw [← e]; rfl)) ?_ (fun b' h => .inl h)
    refine ⟨b, es, clock, seen.push e.born, hS1, setBlock_heap_eq hlt, (setBlock_heap_ne hrb).trans hb1, hn, ho, ?_, ?_⟩
    · have h1 := (leftOf_push hn he).map kv
      simp only [List.map_cons] at h1
      have h2 := h1.symm.trans hl
      have h3 : (List.map (fun p : K × V => (encK p.1, encV p.2)) (l1 ++ p :: l2)).Perm ((encK p.1, encV p.2) :: List.map (fun p => (encK p.1, encV p.2)) (l1 ++ l2)) := by
        have := (List.perm_middle (a := p) (l₁ := l1) (l₂ := l2)).map (fun p : K × V => (encK p.1, encV p.2))
        simp only [List.map_cons] at this
        exact this
      have h4 := h2.trans h3
      have h5 : kv e = (encK p.1, encV p.2) := by simp [kv, hpe.1, hpe.2]
      rw [h5] at h4
      exact (List.perm_cons _).1 h4
    · intro q hq
      cases hq
      refine ⟨e, ?_, by simp, hpe.1.symm, hpe.2.symm⟩
      unfold leftOf at he
      rw [Array.toList_filter] at he
      exact (List.mem_filter.1 he).1
theorem det_entry {x : Operand} {r : Nat} {p : K × V} {left : List (K × V)} {vk vv : Value} (hx : ev σ x = some (.pointer (some ⟨r, 0, none⟩))) (he : eIt encK encV r (some p) left ∈ η) (hvk : encK p.1 = vk) (hvv : encV p.2 = vv) :
    Det P C ⟨d, .entry x, ty, pos, af, gd⟩ σ η ι (.tuple #[vk, vv]) := fun ρ w hρ hst => by
  subst hvk hvv
  obtain ⟨b, es, clock, seen, hS, hk, hb, hn, ho, hl, hc⟩ := hst.ent he
  obtain ⟨e, hem, hbk, h1, h2⟩ := hc p rfl
  have hsz : 0 < seen.size := by
    rcases Nat.eq_zero_or_pos seen.size with h0 | h0
    · have := Array.eq_empty_of_size_eq_zero h0
      rw [this] at hbk
      simp at hbk
    · exact h0
  have hpush : seen = seen.pop.push e.born := by
    have h3 : seen.back? = some seen[seen.size - 1] := by
      simp [Array.back?]
    rw [h3] at hbk
    simp only [Option.some.injEq] at hbk
    rw [← hbk]
    apply Array.ext
    · simp; omega
    · intro i hi1 hi2
      by_cases hi : i < seen.size - 1
      · rw [Array.getElem_push_lt (by simpa using hi)]
        simp
      · have : i = seen.size - 1 := by omega
        subst this
        simp [Array.getElem_push]
  rw [hpush] at hk
  have := run_entry_at (P := P) w r b clock seen.pop es clock e hk hb hem hn
  simp [execOp, hρ _ _ hx, this, h1, h2]

end

section
variable {P : Program} {C : Cx} {n : FN} {Q : Exit → Act → World → Prop} {σ : List (Nat × Value)} {η : List Ent} {ι : List Fact}
variable {d : Option Tmp} {ty : TypeId} {pos : String} {af : Array Edge} {gd : Option (Nat × Bool)}
variable {K V : Type} [DecidableEq K] {encK : K → Value} {encV : V → Value}
theorem run_zero {w : World} {t : TypeId} {z : Value} (h : zeroB P t = some z) : (zeroValue t).run P w = .ok z w := by
  obtain ⟨i, hi, hz⟩ := Option.bind_eq_some_iff.1 h
  simp [zeroValue, typeInfo, hi, hz]
theorem ans_get {m : List (K × V)} {x : K} (z : V) : (match ans encV m x 0 with | some (_, v) => v | none => encV z) = encV (mget m x z) := by
  unfold ans
  cases h : mfi m x with
  | none => simp [(mfi_none h).1]
  | some i =>
    obtain ⟨v, h1, h2⟩ := mfi_at h
    simp [h1, h2]
theorem run_lookup {w : World} {t kt vt : TypeId} {b : Nat} {es : Array MapEntry} {clock : Nat} {m : List (K × V)} {x : K} {z : V} (hb : w.heap[b]? = some (.map es clock)) (hr : Rep encK encV es clock m) (hk : KeyOk P kt encK) (ht : P.underlying t = some (.map kt vt)) (hz : zeroB P vt = some (encV z)) :
    (Instr.lookup t (.map (some b)) (encK x) false).run P w = .ok (encV (mget m x z)) w := by
  simp only [Instr.lookup, Sem.run_bind, run_underlying ht, Result.andThen_ok, run_getObj hb, Sem.run_pure, hk.check, findKey_run (encV := encV) hk x hr.kvs]
  rw [← ans_get (encV := encV) z]
  cases ans encV m x 0 with
  | none => simp [run_zero hz]
  | some p => simp
theorem run_lookupOk {w : World} {t kt vt : TypeId} {b : Nat} {es : Array MapEntry} {clock : Nat} {m : List (K × V)} {x : K} {z : V} (hb : w.heap[b]? = some (.map es clock)) (hr : Rep encK encV es clock m) (hk : KeyOk P kt encK) (ht : P.underlying t = some (.map kt vt)) (hz : zeroB P vt = some (encV z)) :
    (Instr.lookup t (.map (some b)) (encK x) true).run P w = .ok (.tuple #[encV (mget m x z), .bool (mfi m x).isSome]) w := by
  simp only [Instr.lookup, Sem.run_bind, run_underlying ht, Result.andThen_ok, run_getObj hb, Sem.run_pure, hk.check, findKey_run (encV := encV) hk x hr.kvs]
  rw [← ans_get (encV := encV) z]
  unfold ans
  cases h : mfi m x with
  | none => simp [run_zero hz]
  | some i =>
    obtain ⟨v, h1, h2⟩ := mfi_at h
    simp [h1]

theorem det_lookupM {t kt vt : TypeId} {x y : Operand} {b : Nat} {m : List (K × V)} {k : K} {z : V} {vk vr : Value} (hx : ev σ x = some (.map (some b))) (hy : ev σ y = some vk) (hv : vk = encK k) (he : eM encK encV b m ∈ η) (hk : KeyOk P kt encK) (ht : P.underlying t = some (.map kt vt)) (hz : zeroB P vt = some (encV z)) (hvr : encV (mget m k z) = vr) :
    Det P C ⟨d, .lookup t x y false, ty, pos, af, gd⟩ σ η ι vr := fun ρ w hρ hst => by
  subst hv hvr
  obtain ⟨es, clock, hb, hr⟩ := hst.ent he
  simp [execOp, hρ _ _ hx, hρ _ _ hy, run_lookup hb hr hk ht hz]
theorem det_lookupW {t kt vt : TypeId} {x y : Operand} {b : Nat} {m : List (K × V)} {k : K} {z : V} {vk vr : Value} (hx : ev σ x = some (.map (some b))) (hy : ev σ y = some vk) (hv : vk = encK k) (he : eMW encK encV z b m ∈ η) (hk : KeyOk P kt encK) (ht : P.underlying t = some (.map kt vt)) (hz : zeroB P vt = some (encV z)) (hvr : encV (mget m k z) = vr) :
    Det P C ⟨d, .lookup t x y false, ty, pos, af, gd⟩ σ η ι vr := fun ρ w hρ hst => by
  subst hv hvr
  obtain ⟨es, clock, m', hb, hr, hg⟩ := hst.ent he
  rw [← hg]
  simp [execOp, hρ _ _ hx, hρ _ _ hy, run_lookup hb hr hk ht hz]
theorem det_lookupF {t kt vt : TypeId} {x y : Operand} {b : Nat} {m : List (K × V)} {k : K} {z : V} {vk vr : Value} (hx : ev σ x = some (.map (some b))) (hy : ev σ y = some vk) (hv : vk = encK k) (he : fM encK encV b m ∈ ι) (hk : KeyOk P kt encK) (ht : P.underlying t = some (.map kt vt)) (hz : zeroB P vt = some (encV z)) (hvr : encV (mget m k z) = vr) :
    Det P C ⟨d, .lookup t x y false, ty, pos, af, gd⟩ σ η ι vr := fun ρ w hρ hst => by
  subst hv hvr
  obtain ⟨_, es, clock, hb, hr⟩ := hst.facts _ he
  simp [execOp, hρ _ _ hx, hρ _ _ hy, run_lookup hb hr hk ht hz]
/-- m[k] = v -/
theorem act_mapUpdate {t kt vt : TypeId} {x y u : Operand} {b : Nat} {m : List (K × V)} {k : K} {v : V} {vk vv : Value} {F : Ent → List Ent} (hx : ev σ x = some (.map (some b))) (hy : ev σ y = some vk) (hvk : vk = encK k) (hu : ev σ u = some vv) (hvv : vv = encV v) (hs : SwF η (eM encK encV b m) F) (hk : KeyOk P kt encK) (ht : P.underlying t = some (.map kt vt)) :
    ActOk P C ⟨d, .mapUpdate t x y u, ty, pos, af, gd⟩ σ η ι (fun _ θ κ => θ = F (eM encK encV b (mset m k v)) ∧ κ = ι) := fun ρ w hρ hst => by
  subst hvk hvv
  obtain ⟨es, clock, hb, hr⟩ := hst.ent hs.mem
  have hlt : b < w.heap.size := (Array.getElem?_eq_some_iff.1 hb).1
  cases hm : mfi m k with
  | none =>
    have ha : ans encV m k 0 = none := by simp [ans, hm]
    have hrun : (execOp ρ ⟨d, .mapUpdate t x y u, ty, pos, af, gd⟩).run P w = .ok .skip (setBlock w b (.map (es.push { key := encK k, val := encV v, born := clock }) (clock + 1))) := by
      simp [execOp, hρ _ _ hx, hρ _ _ hy, hρ _ _ hu, Instr.mapUpdate, run_underlying ht, run_getObj hb, hk.check, findKey_run (encV := encV) hk k hr.kvs, ha, run_setMap hb]
    rw [hrun]
    refine ⟨_, _, ⟨rfl, rfl⟩, hst.setMap hs rfl rfl ⟨_, _, setBlock_heap_eq hlt, ?_⟩⟩
    rw [(mfi_none hm).2]
    exact hr.push k v
  | some i =>
    obtain ⟨v0, h1, h2⟩ := mfi_at hm
    have ha : ans encV m k 0 = some (i, encV v0) := by simp [ans, hm, h1]
    obtain ⟨e, he, hek, hev⟩ := hr.at_ h1
    have hrun : (execOp ρ ⟨d, .mapUpdate t x y u, ty, pos, af, gd⟩).run P w = .ok .skip (setBlock w b (.map (es.modify i fun e => { e with key := encK k, val := encV v }) clock)) := by
      simp [execOp, hρ _ _ hx, hρ _ _ hy, hρ _ _ hu, Instr.mapUpdate, run_underlying ht, run_getObj hb, hk.check, findKey_run (encV := encV) hk k hr.kvs, ha, run_setMap hb, he, hek, Instr.keyThatStays, hk.bits]
    rw [hrun]
    refine ⟨_, _, ⟨rfl, rfl⟩, hst.setMap hs rfl rfl ⟨_, _, setBlock_heap_eq hlt, ?_⟩⟩
    rw [mfi_set hm]
    exact hr.set _ (fun e _ => ⟨rfl, rfl, rfl⟩) (mfi_lt hm)
/-- the entry of m[k], which is made if it is not there -/
theorem act_mapEntry {t kt vt : TypeId} {x y : Operand} {b : Nat} {m : List (K × V)} {k : K} {z : V} {vk : Value} {F : Ent → List Ent} (hx : ev σ x = some (.map (some b))) (hy : ev σ y = some vk) (hvk : vk = encK k) (hs : SwF η (eM encK encV b m) F) (hk : KeyOk P kt encK) (ht : P.underlying t = some (.map kt vt)) (hz : zeroB P vt = some (encV z)) :
    ActOk P C ⟨d, .mapEntry t x y, ty, pos, af, gd⟩ σ η ι (fun v θ κ => ∃ n : Nat, v = .tuple #[encV (mget m k z), .int .i64 (n : Int)] ∧ θ = F (eMP encK encV z b m k n) ∧ κ = ι) := fun ρ w hρ hst => by
  subst hvk
  obtain ⟨es, clock, hb, hr⟩ := hst.ent hs.mem
  have hlt : b < w.heap.size := (Array.getElem?_eq_some_iff.1 hb).1
  cases hm : mfi m k with
  | none =>
    have ha : ans encV m k 0 = none := by simp [ans, hm]
    obtain ⟨h1, h2⟩ := mfi_none hm
    have hrun : (execOp ρ ⟨d, .mapEntry t x y, ty, pos, af, gd⟩).run P w = .ok (.value (.tuple #[encV z, .int .i64 (clock : Int)])) (setBlock w b (.map (es.push { key := encK k, val := encV z, born := clock }) (clock + 1))) := by
      simp [execOp, hρ _ _ hx, hρ _ _ hy, Instr.mapEntry, run_underlying ht, run_getObj hb, hk.check, findKey_run (encV := encV) hk k hr.kvs, ha, run_setMap hb, run_zero hz, goInt]
    rw [hrun]
    refine ⟨_, _, ⟨clock, by rw [h1], rfl, rfl⟩, hst.setMap hs rfl rfl ⟨_, _, m.length, setBlock_heap_eq hlt, ?_, ?_, ?_⟩⟩
    · rw [h1, h2]
      exact hr.push k z
    · rw [h1, h2]
      clear h1 h2 ha hrun hst hs hr
      induction m with
      | nil => simp [mfi]
      | cons p m ih =>
        unfold mfi at hm
        split at hm
        · cases hm
        · rename_i hp
          simp [mfi, hp, ih (by simpa using hm)]
    · have := hr.size
      simp [← this]
  | some i =>
    obtain ⟨v0, h1, h2⟩ := mfi_at hm
    have ha : ans encV m k 0 = some (i, encV v0) := by simp [ans, hm, h1]
    obtain ⟨e, he, hek, hev⟩ := hr.at_ h1
    have hrun : (execOp ρ ⟨d, .mapEntry t x y, ty, pos, af, gd⟩).run P w = .ok (.value (.tuple #[encV v0, .int .i64 (e.born : Int)])) (setBlock w b (.map (es.modify i fun e => { e with key := encK k }) clock)) := by
      simp [execOp, hρ _ _ hx, hρ _ _ hy, Instr.mapEntry, run_underlying ht, run_getObj hb, hk.check, findKey_run (encV := encV) hk k hr.kvs, ha, run_setMap hb, he, hek, Instr.keyThatStays, hk.bits, goInt]
    rw [hrun]
    have hset : mset m k (mget m k z) = m.set i (k, v0) := by rw [mfi_set hm, h2]
    have hset2 : m.set i (k, v0) = m := by
      apply List.ext_getElem?
      intro j
      by_cases hj : i = j
      · subst hj; rw [h1]; simp [mfi_lt hm]
      · simp [hj]
    refine ⟨_, _, ⟨e.born, by rw [h2], rfl, rfl⟩, hst.setMap hs rfl rfl ⟨_, _, i, setBlock_heap_eq hlt, ?_, ?_, ?_⟩⟩
    · rw [hset]
      exact hr.set _ (fun e' he' => ⟨rfl, by rw [he] at he'; cases he'; exact hev, rfl⟩) (mfi_lt hm)
    · rw [hset, hset2]
      exact hm
    · have hie := (Array.getElem?_eq_some_iff.1 he)
      obtain ⟨hi1, hi2⟩ := hie
      simp [hi1, hi2]
theorem findIdx_born : ∀ (l : List MapEntry) (i : Nat) (n : Nat), (l.map (·.born)).Nodup → (l[i]?).map (·.born) = some n → l.findIdx? (fun e => (e.born : Int) == (n : Int)) = some i
  | [], i, n, _, h => by simp at h
  | e :: l, 0, n, _, h => by
    simp at h
    simp [List.findIdx?_cons, h]
  | e :: l, i + 1, n, hn, h => by
    simp only [List.getElem?_cons_succ] at h
    simp only [List.map_cons, List.nodup_cons] at hn
    have hne : ¬ ((e.born : Int) == (n : Int)) = true := by
      intro hc
      have hc' : e.born = n := by
        have : (e.born : Int) = (n : Int) := by simpa using hc
        omega
      obtain ⟨e2, he2, h2⟩ := Option.map_eq_some_iff.1 h
      exact hn.1 (hc' ▸ h2 ▸ List.mem_map_of_mem (List.mem_of_getElem? he2))
    rw [List.findIdx?_cons]
    rw [if_neg hne, findIdx_born l i n hn.2 h]
    rfl
/-- the entry at hand gets another value -/
theorem act_entryStore {t : TypeId} {x y u : Operand} {b : Nat} {m : List (K × V)} {k : K} {z v : V} {n : Nat} {vv : Value} {F : Ent → List Ent} (hx : ev σ x = some (.map (some b))) (hy : ev σ y = some (.int .i64 (n : Int))) (hu : ev σ u = some vv) (hvv : vv = encV v) (hs : SwF η (eMP encK encV z b m k n) F) :
    ActOk P C ⟨d, .entryStore t x y u, ty, pos, af, gd⟩ σ η ι (fun _ θ κ => θ = F (eM encK encV b (mset m k v)) ∧ κ = ι) := fun ρ w hρ hst => by
  subst hvv
  obtain ⟨es, clock, i, hb, hr, hm, hn⟩ := hst.ent hs.mem
  have hlt : b < w.heap.size := (Array.getElem?_eq_some_iff.1 hb).1
  have hidx : es.findIdx? (fun e => (e.born : Int) == (n : Int)) = some i := by
    have h3 := findIdx_born _ _ _ hr.born hn
    rw [← h3]
    exact List.findIdx?_toArray (p := fun e : MapEntry => (e.born : Int) == (n : Int)) (l := es.toList)
  obtain ⟨v0, h1, _⟩ := mfi_at hm
  obtain ⟨e, he, hek, hev⟩ := hr.at_ h1
  have hrun : (execOp ρ ⟨d, .entryStore t x y u, ty, pos, af, gd⟩).run P w = .ok .skip (setBlock w b (.map (es.modify i fun e => { e with val := encV v }) clock)) := by
    simp [execOp, hρ _ _ hx, hρ _ _ hy, hρ _ _ hu, Instr.entryStore, run_getObj hb, asInt, asIntOf, hidx, run_setMap hb]
  rw [hrun]
  refine ⟨_, _, ⟨rfl, rfl⟩, hst.setMap hs rfl rfl ⟨_, _, setBlock_heap_eq hlt, ?_⟩⟩
  rw [← mset_mset m k (mget m k z) v, mfi_set hm]
  exact hr.set _ (fun e' he' => ⟨by rw [he] at he'; cases he'; exact hek, rfl, rfl⟩) (mfi_lt hm)

/-- only look-ups are known -/
theorem St.weakM {w : World} {b : Nat} {m : List (K × V)} {F : Ent → List Ent} (z : V) (h : St C η ι w) (hs : SwF η (eM encK encV b m) F) : St C (F (eMW encK encV z b m)) ι w := by
  obtain ⟨es, clock, hb, hr⟩ := h.ent hs.mem
  exact h.sw (hs _) rfl rfl ⟨rfl, Nat.le_refl _⟩ (Nat.le_refl _) (fun _ _ _ => rfl) ⟨es, clock, m, hb, hr, fun _ => rfl⟩ (fun _ h => .inl h)
theorem St.weakP {w : World} {b n : Nat} {m : List (K × V)} {k : K} {z : V} {F : Ent → List Ent} (h : St C η ι w) (hs : SwF η (eMP encK encV z b m k n) F) : St C (F (eMW encK encV z b m)) ι w := by
  obtain ⟨es, clock, i, hb, hr, _⟩ := h.ent hs.mem
  exact h.sw (hs _) rfl rfl ⟨rfl, Nat.le_refl _⟩ (Nat.le_refl _) (fun _ _ _ => rfl) ⟨es, clock, _, hb, hr, fun x => mget_mset_same m k x z⟩ (fun _ h => .inl h)
end

/-! ### which keys -/
section
variable {P : Program} {w : World}
theorem checkKey_int {kt : TypeId} {k : IntKind} (h : P.underlying kt = some (.int k)) (e : Bool) (D : Nat) (x : Int) (w : World) : (Instr.checkKey e (D + 1) kt (.int .i64 x)).run P w = .ok () w := by
  unfold Instr.checkKey
  simp [run_underlying h]
theorem keyOk_int {kt : TypeId} {k : IntKind} (h : P.underlying kt = some (.int k)) : KeyOk P kt encKI where
  check e x w := checkKey_int h e 9999 x w
  eq x y w := by
    have := run_equalIn_int (P := P) w 9999 kt .i64 k x y h
    simp only [Op.equal, Op.maxDepth, encKI]
    rw [this]
    congr 1
  now := ⟨_, h, fun x y => by
    right
    simp only [Instr.sameNow, encKI, if_true]
    congr 1⟩
  bits x := by simp [Instr.sameBits, encKI]
theorem checkFields_flat {rec : TypeId → Option Nat} {D n : Nat} {e : Bool} {xs : List Int} (hx : xs.length = n)
    (hd : ∀ t m, rec t = some m → ∃ d, flatB P d t = some m)
    (hrec : ∀ t m, rec t = some m → ∀ a u, PackOf P t a u → a.length = m → (Instr.checkKey e D t u).run P w = .ok () w) :
    ∀ (fs : List Field) (off : Nat), fieldsB P rec off fs = some n → (forIn fs PUnit.unit fun f _ => do
        if f.name ≠ "_" then Instr.checkKey e D f.type (← part f.type (cellsI xs).toArray f.offset)
        pure (ForInStep.yield PUnit.unit) : Sem PUnit).run P w = .ok PUnit.unit w
  | [], off, h => by simp
  | f :: fs, off, h => by
    unfold fieldsB at h
    cases hb : (f.name == "_" || !(Nat.beq f.offset off)) with
    | true => rw [hb] at h; cases h
    | false =>
      rw [hb, cond_false] at h
      rw [Bool.or_eq_false_iff] at hb
      have ho : f.offset = off := Nat.eq_of_beq_eq_true (by simpa using hb.2)
      have hn : f.name ≠ "_" := by simpa using hb.1
      cases hr : rec f.type with
      | none => rw [hr] at h; cases h
      | some m =>
        rw [hr] at h
        simp only at h
        split at h
        · rename_i hs
          have hle : ∀ (fs : List Field) (o : Nat), fieldsB P rec o fs = some n → o ≤ n := by
            intro fs
            induction fs with
            | nil => intro o h; simp only [fieldsB, Option.some.injEq] at h; omega
            | cons g gs ih =>
              intro o h
              unfold fieldsB at h
              cases hb2 : (g.name == "_" || !(Nat.beq g.offset o)) with
              | true => rw [hb2] at h; cases h
              | false =>
                rw [hb2, cond_false] at h
                cases hr2 : rec g.type with
                | none => rw [hr2] at h; cases h
                | some m2 =>
                  rw [hr2] at h
                  simp only at h
                  split at h
                  · have := ih _ h
                    omega
                  · cases h
          have h1 := hle fs _ h
          obtain ⟨d, hfl⟩ := hd _ _ hr
          obtain ⟨u, hu, hpu⟩ := part_flat (w := w) (xs := xs) (off := off) hfl hs (by omega)
          have he := hrec _ _ hr _ _ hpu (by simp; omega)
          have ih := checkFields_flat hx hd hrec fs _ h
          rw [List.forIn_cons]
          simp only [ho, hu, he, hn, ne_eq, not_false_eq_true, if_true, Sem.run_bind, Result.andThen_ok, Sem.run_pure]
          exact ih
        · cases h
theorem check_flat {e : Bool} : ∀ (d : Nat) (t : TypeId) (n D : Nat), flatB P d t = some n → d ≤ D → ∀ a u, PackOf P t a u → a.length = n → (Instr.checkKey e D t u).run P w = .ok () w
  | 0, _, _, _, h, _ => by cases h
  | d + 1, t, n, D, h, hD => by
    intro a u hu ha
    obtain ⟨D, rfl⟩ : ∃ E, D = E + 1 := ⟨D - 1, by omega⟩
    unfold flatB at h
    cases hk : P.underlying t with
    | none => rw [hk] at h; cases h
    | some k =>
      rw [hk] at h
      cases k with
      | int k =>
        have hag : isAggB P t = false := by simp [isAggB, hk]
        rcases hu with ⟨h1, _⟩ | ⟨_, x, rfl, rfl⟩
        · rw [hag] at h1; cases h1
        exact checkKey_int hk e D x w
      | struct fs =>
        have hag : isAggB P t = true := by simp [isAggB, hk]
        rcases hu with ⟨_, rfl⟩ | ⟨h1, _⟩
        case inr => rw [hag] at h1; cases h1
        cases hst : P.stoodInHeld t with
        | true => simp only [hst, cond_true] at h; cases h
        | false =>
          simp only [hst, cond_false] at h
          have := checkFields_flat (P := P) (w := w) (D := D) (e := e) (rec := flatB P d) ha (fun t m h => ⟨d, h⟩) (fun t m h a u hu ha => check_flat d t m D h (by omega) a u hu ha) fs.toList 0 h
          unfold Instr.checkKey
          simp only [Sem.run_bind, run_underlying hk, Result.andThen_ok]
          rw [← Array.forIn_toList]
          rw [this]
          simp
      | _ => simp at h
theorem sameBits_cells (xs : List Int) : ((cellsI xs).zip (cellsI xs)).all (fun x => Instr.sameBits 9999 x.1 x.2) = true := by
  induction xs with
  | nil => simp [cellsI]
  | cons x xs ih => simpa [cellsI, Instr.sameBits] using ih
theorem keyOk_flat {K : Type} [DecidableEq K] {t : TypeId} {n : Nat} (h : eqOkB P t n = true) {encK : K → Value} (toL : K → List Int) (he : ∀ x, encK x = .agg (cellsI (toL x)).toArray) (hl : ∀ x, (toL x).length = n) (hi : ∀ x y, toL x = toL y → x = y) : KeyOk P t encK := by
  simp only [eqOkB, Bool.and_eq_true, beq_iff_eq, Bool.not_eq_true'] at h
  refine ⟨fun e x w => ?_, fun x y w => ?_, ?_, fun x => ?_⟩
  · rw [he]
    exact check_flat 6 t n 10000 h.1.1 (by omega) _ _ (.inl ⟨h.1.2, rfl⟩) (hl x)
  · rw [he, he]
    have := equal_flat (P := P) (w := w) 6 t n 10000 h.1.1 (by omega) (toL x) (toL y) _ _ (.inl ⟨h.1.2, rfl⟩) (.inl ⟨h.1.2, rfl⟩) (hl x) (hl y)
    simp only [Op.equal, Op.maxDepth]
    rw [this]
    congr 1
    exact decide_eq_decide.2 ⟨hi x y, fun e => by rw [e]⟩
  · have hag := h.1.2
    unfold isAggB at hag
    cases hd : P.underlying t with
    | none => rw [hd] at hag; cases hag
    | some d =>
      refine ⟨d, rfl, fun x y => .inl ?_⟩
      rw [he, he]
      cases d <;> rfl
  · rw [he]
    show ((cellsI (toL x)).toArray.size == (cellsI (toL x)).toArray.size && _) = true
    simp only [BEq.rfl, Bool.true_and]
    exact sameBits_cells (toL x)
end
end Go.Proofs.Ytfekcgnnhjmeiaa
