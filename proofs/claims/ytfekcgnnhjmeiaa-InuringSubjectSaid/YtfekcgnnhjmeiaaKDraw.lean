/- The logic of symbolic states: a statement whose operations Go may carry out in several orders. What only reckons and reads is taken as soon as what it waits for has run; what acts goes in the one order that its edges force. Generic. -/
import Derived.Test.YtfekcgnnhjmeiaaKActs
import Derived.StillTail
namespace Go.Proofs.Ytfekcgnnhjmeiaa
open Go.RowKit

/-! ### what stands fast of a statement's edges -/
def ancB (A : List (List Nat)) (j i : Nat) : Bool := (A.getD j []).contains i
def okA (ops : Array Oper) (A : List (List Nat)) : Bool := (List.range ops.size).all fun j => match ops[j]? with
  | some o => (o.after.toList.all fun e => !Region.binds .any e || Nat.blt e.on j) && (A.getD j []).all fun i => o.after.toList.any fun e => Region.binds .any e && (e.on == i || ancB A e.on i)
  | none => false
def dstB (ops : Array Oper) (i : Nat) : Option Nat := (ops[i]?).bind (·.dst)
/-- the order in which a statement is reckoned: what reads as early as it can; of those that act, which may come next -/
inductive Plan where
  | done
  | det (i : Nat) (p : Plan)
  | alt (y : Nat) (p q : Plan)
  | dead
def Plan.rem : Plan → List Nat
  | .done => []
  | .det i p => i :: p.rem
  | .alt y p _ => y :: p.rem
  | .dead => []
def Plan.heads : Plan → List Nat
  | .alt y _ q => y :: q.heads
  | _ => []
/-- all that act -/
def Plan.acts : Plan → List Nat
  | .done => []
  | .det _ p => p.acts
  | .alt y p q => y :: (p.acts ++ q.acts)
  | .dead => []
def Plan.same (R : List Nat) : Plan → Bool
  | .alt y p q => R.contains y && (R.all (fun z => z == y || p.rem.contains z) && p.rem.all (fun z => R.contains z) && !p.rem.contains y && q.same R)
  | _ => true
def stepB (ops : Array Oper) (A : List (List Nat)) (n : Nat) (pre : List (Nat × Bool)) (i : Nat) (x : Bool) : Bool :=
  match ops[i]? with
  | none => false
  | some o => (match o.op with | .select _ _ => false | _ => true) && (match o.dst with | none => x | some d => pre.all fun p => dstB ops p.1 != some d) &&
      (o.looksAt ops).all fun t => (List.range n).all fun k => dstB ops k != some t || (ancB A i k && pre.any fun p => p.1 == k) || (ancB A k i && pre.all fun p => p.1 != k)
def dxGo (ops : Array Oper) (A : List (List Nat)) (n : Nat) : List (Nat × Bool) → Bool → Plan → Bool
  | _, _, .done => true
  | pre, _, .det i p => stepB ops A n pre i false && !p.rem.contains i && dxGo ops A n ((i, false) :: pre) true p
  | pre, e, .alt y p q => (!e || ((Plan.alt y p q).rem.all (fun z => (Plan.alt y p q).heads.contains z || (Plan.alt y p q).heads.any fun h => ancB A z h) && (Plan.alt y p q).same (Plan.alt y p q).rem)) && stepB ops A n pre y true && dxGo ops A n ((y, true) :: pre) true p && dxGo ops A n pre false q
  | _, e, .dead => !e
def headL (ops : Array Oper) (n : Nat) : Array Bool := (Array.range ops.size).map fun i => Nat.blt i n
def dxB (ops : Array Oper) (A : List (List Nat)) (ord : Plan) (n : Nat) : Bool :=
  okA ops A && Nat.ble n ops.size && (List.range n).all (fun i => ord.rem.contains i) && ord.rem.all (fun i => Nat.blt i n) && dxGo ops A n [] true ord &&
  ((List.range ops.size).all fun j => Nat.blt j n || (List.range n).all fun i => ancB A j i) && Region.seqB .any ops (ops.size - n) n (headL ops n)

section
variable {P : Program} {C : Cx} {m : FN} {ops : Array Oper} {A : List (List Nat)}

def Closed (ops : Array Oper) (listed : Array Bool) : Prop := ∀ j oj, ops[j]? = some oj → listed.getD j false = true → ∀ e ∈ oj.after, Region.binds .any e = true → listed.getD e.on false = true

theorem okA_spec (h : okA ops A = true) {j : Nat} {o : Oper} (ho : ops[j]? = some o) : (∀ e ∈ o.after, Region.binds .any e = true → e.on < j) ∧ ∀ i, ancB A j i = true → ∃ e ∈ o.after, Region.binds .any e = true ∧ (e.on = i ∨ ancB A e.on i = true) := by
  have hj : j < ops.size := (Array.getElem?_eq_some_iff.1 ho).1
  have h1 := List.all_eq_true.1 h j (List.mem_range.2 hj)
  simp only [ho, Bool.and_eq_true] at h1
  refine ⟨fun e he hb => ?_, fun i hi => ?_⟩
  · have := List.all_eq_true.1 h1.1 e (by simpa using he)
    simpa [hb] using this
  · have := List.all_eq_true.1 h1.2 i (by simpa [ancB] using hi)
    obtain ⟨e, he, h2⟩ := List.any_eq_true.1 this
    simp only [Bool.and_eq_true, Bool.or_eq_true, beq_iff_eq] at h2
    exact ⟨e, by simpa using he, h2.1, h2.2⟩
theorem anc_listed (h : okA ops A = true) {listed : Array Bool} (hc : Closed ops listed) : ∀ (j : Nat) (o : Oper), ops[j]? = some o → (∀ e ∈ o.after, Region.binds .any e = true → listed.getD e.on false = true) → ∀ i, ancB A j i = true → listed.getD i false = true := by
  intro j
  induction j using Nat.strongRecOn with
  | _ j ih =>
    intro o ho hall i hi
    obtain ⟨e, he, hb, h1⟩ := (okA_spec h ho).2 i hi
    have hl := hall e he hb
    rcases h1 with h1 | h1
    · rw [← h1]; exact hl
    · have hlt := (okA_spec h ho).1 e he hb
      cases hoe : ops[e.on]? with
      | none =>
        unfold okA at h
        unfold ancB at h1
        have : ops.size ≤ e.on := by
          rcases Nat.lt_or_ge e.on ops.size with h2 | h2
          · simp [h2] at hoe
          · exact h2
        have hj : j < ops.size := (Array.getElem?_eq_some_iff.1 ho).1
        omega
      | some oe => exact ih e.on hlt oe hoe (fun e' he' hb' => hc e.on oe hoe hl e' he' hb') i h1

/-! ### the statement in its canonical order -/
/-- an operation that only reckons and reads, by its operands alone -/
def GRun (P : Program) (o : Oper) (σ : List (Nat × Value)) (Z : World → Prop) (v : Value) : Prop :=
  ∀ (ρ : Operand → Value) (w : World), (∀ x ∈ o.op.operands, ∀ u, ev σ x = some u → ρ x = u) → Z w → (execOp ρ o).run P w = .ok (.value v) w
theorem GRun.of {o : Oper} {σ : List (Nat × Value)} {η : List Ent} {ι : List Fact} {v : Value} (hs : ∀ cs b, o.op ≠ .select cs b) (h : Det P C o σ η ι v) : GRun P o σ (St C η ι) v := by
  intro ρ w hρ hst
  have e : execOp ρ o = execOp (fun x => (ev σ x).getD (ρ x)) o := execOp_congr o hs fun x hx => by
    cases hv : ev σ x with
    | none => simp
    | some u => simp [hρ x hx u hv]
  rw [e]
  exact h _ w (fun x u hx => by simp [hx]) hst
/-- wanted, or not -/
def GDet (P : Program) (ops : Array Oper) (o : Oper) (σ : List (Nat × Value)) (Z : World → Prop) (v : Value) : Prop :=
  (o.guard = none ∧ GRun P o σ Z v) ∨ ∃ j b g, o.guard = some (j, b) ∧ dstB ops j = some g ∧ ((look σ g = some (.bool b) ∧ GRun P o σ Z v) ∨ (∃ u, look σ g = some u ∧ u ≠ .bool b ∧ v = undef))
/-- Z: what is known of every state, before and after the operations that act; by this alone what reads is reckoned -/
def pushD (d : Option Nat) (v : Value) (σ : List (Nat × Value)) : List (Nat × Value) := match d with | some d => (d, v) :: σ | none => σ
def HX (P : Program) (C : Cx) (m : FN) (ops : Array Oper) (A : List (List Nat)) (K : List (Nat × Value) → List Ent → List Fact → Prop) : Plan → List (Nat × Value) → List Ent → List Fact → (World → Prop) → Prop
  | .done, σ, η, ι, _ => K σ η ι
  | .det i r, σ, η, ι, Z => ∃ o d v, ops[i]? = some o ∧ o.dst = some d ∧ Nat.blt d m.sz = true ∧ (GDet P ops o σ Z v ∨ ((r.acts.all fun y => ancB A y i) = true ∧ GDet P ops o σ (St C η ι) v)) ∧ HX P C m ops A K r ((d, v) :: σ) η ι Z
  | .alt i r q, σ, η, ι, Z => (∃ o, ops[i]? = some o ∧ (∀ d, o.dst = some d → Nat.blt d m.sz = true) ∧ (o.guard = none ∨ ∃ j b g, o.guard = some (j, b) ∧ dstB ops j = some g ∧ look σ g = some (.bool b)) ∧ ActOk P C o σ η ι fun v θ κ => ∃ Z', (∀ w, St C θ κ w → Z' w) ∧ (∀ w, Z' w → Z w) ∧ HX P C m ops A K r (pushD o.dst v σ) θ κ Z') ∧ HX P C m ops A K q σ η ι Z
  | .dead, _, _, _, _ => True

theorem St.less {η ηn : List Ent} {ι ιn : List Fact} {w : World} (h : St C (ηn ++ η) (ιn ++ ι) w) : St C η ι w := (h.subEnts (List.sublist_append_right ηn η)).subFacts fun f hf => by simp [hf]

theorem look_other {σ : List (Nat × Value)} {d t : Nat} {v : Value} (h : d ≠ t) : look ((d, v) :: σ) t = look σ t := by
  have : Nat.beq d t = false := by
    cases hb : Nat.beq d t with
    | false => rfl
    | true => exact absurd (Nat.eq_of_beq_eq_true hb) h
  simp [look, this]
theorem look_same {σ : List (Nat × Value)} {d : Nat} {v : Value} : look ((d, v) :: σ) d = some v := by simp [look]

theorem looks_operand {o : Oper} {t : Nat} (h : Operand.tmp t ∈ o.op.operands) : t ∈ o.looksAt ops := by
  unfold Oper.looksAt
  refine List.mem_append_left _ ?_
  rw [List.mem_filterMap]
  exact ⟨.tmp t, by simpa using h, rfl⟩
theorem looks_guard {o : Oper} {j g : Nat} {b : Bool} (h : o.guard = some (j, b)) (hg : dstB ops j = some g) : g ∈ o.looksAt ops := by
  unfold Oper.looksAt
  refine List.mem_append_right _ ?_
  simp only [h]
  unfold dstB at hg
  simp [hg]
theorem GDet.mono {o : Oper} {σ : List (Nat × Value)} {Z Z' : World → Prop} {v : Value} (h : GDet P ops o σ Z v) (hz : ∀ w, Z' w → Z w) : GDet P ops o σ Z' v := by
  have hr : GRun P o σ Z v → GRun P o σ Z' v := fun h ρ w hρ hst => h ρ w hρ (hz w hst)
  rcases h with ⟨h1, h2⟩ | ⟨j, b, g, h1, h2, h3⟩
  · exact .inl ⟨h1, hr h2⟩
  · exact .inr ⟨j, b, g, h1, h2, h3.imp (fun h => ⟨h.1, hr h.2⟩) id⟩

theorem stepB_spec {n i : Nat} {x : Bool} {pre : List (Nat × Bool)} (h : stepB ops A n pre i x = true) : ∃ o, ops[i]? = some o ∧ (x = false → ∃ d, o.dst = some d) ∧ (∀ cs b, o.op ≠ .select cs b) ∧ (∀ d, o.dst = some d → ∀ p ∈ pre, dstB ops p.1 ≠ some d) ∧
    (∀ t ∈ o.looksAt ops, ∀ k, k < n → dstB ops k = some t → (ancB A i k = true ∧ ∃ p ∈ pre, p.1 = k) ∨ (ancB A k i = true ∧ ∀ p ∈ pre, p.1 ≠ k)) := by
  unfold stepB at h
  cases ho : ops[i]? with
  | none => simp [ho] at h
  | some o =>
    simp only [ho, Bool.and_eq_true] at h
    obtain ⟨⟨h1, h2⟩, h5⟩ := h
    refine ⟨o, rfl, fun hx => ?_, fun cs b e => by simp [e] at h1, fun d hd p hp => ?_, fun t ht k hk hkt => ?_⟩
    · cases hd : o.dst with
      | none => simp [hd, hx] at h2
      | some d => exact ⟨d, rfl⟩
    · simp only [hd] at h2
      simpa using List.all_eq_true.1 h2 p hp
    · have := List.all_eq_true.1 (List.all_eq_true.1 h5 t ht) k (List.mem_range.2 hk)
      simp only [hkt, bne_self_eq_false, Bool.false_or, Bool.or_eq_true, Bool.and_eq_true] at this
      rcases this with this | this
      · obtain ⟨p, hp, hpk⟩ := List.any_eq_true.1 this.2
        exact .inl ⟨this.1, p, hp, by simpa using hpk⟩
      · exact .inr ⟨this.1, fun p hp => by simpa using List.all_eq_true.1 this.2 p hp⟩
theorem dxGo_det {n i : Nat} {e : Bool} {pre : List (Nat × Bool)} {r : Plan} (h : dxGo ops A n pre e (.det i r) = true) : stepB ops A n pre i false = true ∧ i ∉ r.rem ∧ dxGo ops A n ((i, false) :: pre) true r = true := by
  simp only [dxGo, Bool.and_eq_true] at h
  exact ⟨h.1.1, by simpa using h.1.2, h.2⟩
/-- the alternative that begins with y -/
theorem alt_find {m' : FN} {K : List (Nat × Value) → List Ent → List Fact → Prop} {σ : List (Nat × Value)} {η : List Ent} {ι : List Fact} {Z : World → Prop} {n y : Nat} {pre : List (Nat × Bool)} {R : List Nat} : ∀ {r : Plan} {e : Bool}, y ∈ r.heads → dxGo ops A n pre e r = true → r.same R = true → HX P C m' ops A K r σ η ι Z →
    ∃ p, stepB ops A n pre y true = true ∧ dxGo ops A n ((y, true) :: pre) true p = true ∧ (∀ z ∈ R, z = y ∨ z ∈ p.rem) ∧ (∀ z ∈ p.rem, z ∈ R) ∧ y ∉ p.rem ∧ HX P C m' ops A K (.alt y p .dead) σ η ι Z
  | .done, _, h, _, _, _ => by cases h
  | .det _ _, _, h, _, _, _ => by cases h
  | .dead, _, h, _, _, _ => by cases h
  | .alt y' p q, e, hy, hgo, hs, hx => by
    simp only [dxGo, Bool.and_eq_true] at hgo
    simp only [Plan.same, Bool.and_eq_true] at hs
    by_cases hyy : y = y'
    · subst hyy
      refine ⟨p, hgo.1.1.2, hgo.1.2, fun z hz => ?_, fun z hz => ?_, by simpa using hs.2.1.2, hx.1, trivial⟩
      · have := List.all_eq_true.1 hs.2.1.1.1 z hz
        simpa using this
      · have := List.all_eq_true.1 hs.2.1.1.2 z hz
        simpa using this
    · simp only [Plan.heads, List.mem_cons] at hy
      exact alt_find (hy.resolve_left hyy) hgo.2 hs.2.2 hx.2

/-- whence an operation knows a slot: from one that it waits for, or from before the statement -/
def Whence (ops : Array Oper) (A : List (List Nat)) (n : Nat) (pre : List (Nat × Bool)) (σ0 σ : List (Nat × Value)) (i t : Nat) (u : Value) : Prop :=
  (∃ k, k < n ∧ dstB ops k = some t ∧ ancB A i k = true ∧ (∃ q ∈ pre, q.1 = k) ∧ look σ t = some u) ∨ ((∀ k, k < n → dstB ops k = some t → ancB A k i = true) ∧ look σ0 t = some u)
/-- what stands between two operations of the statement, whatever has run -/
structure DInv (P : Program) (C : Cx) (m : FN) (ops : Array Oper) (A : List (List Nat)) (n : Nat) (σ0 : List (Nat × Value)) (K : List (Nat × Value) → List Ent → List Fact → Prop) (pre : List (Nat × Bool)) (r : Plan) (σ : List (Nat × Value)) (η : List Ent) (ι : List Fact) (Z : World → Prop) (listed : Array Bool) (a : Act) (w : World) : Prop where
  hx : HX P C m ops A K r σ η ι Z
  zst : ∀ w, St C η ι w → Z w
  go : dxGo ops A n pre true r = true
  cover : ∀ i, i < n → (∃ p ∈ pre, p.1 = i) ∨ i ∈ r.rem
  small : ∀ p ∈ pre, p.1 < n
  smallr : ∀ i ∈ r.rem, i < n
  st : St C η ι w
  defers : a.defers = m.ms.map markD
  size : a.tmps.size = m.sz
  lsize : listed.size = ops.size
  closed : Closed ops listed
  head : ∀ i, listed.getD i false = true → i < n
  ext : ∀ p ∈ pre, p.2 = true → listed.getD p.1 false = true
  rest : ∀ i ∈ r.rem, listed.getD i false = false
  nopre : ∀ i ∈ r.rem, ∀ p ∈ pre, p.1 ≠ i
  apart : ∀ p ∈ pre, ∀ q ∈ pre, ∀ d, dstB ops p.1 = some d → dstB ops q.1 = some d → p.1 = q.1
  info : ∀ p ∈ pre, p.2 = false → ∃ o d v σp, ops[p.1]? = some o ∧ o.dst = some d ∧ Nat.blt d m.sz = true ∧ look σ d = some v ∧ (∀ cs b, o.op ≠ .select cs b) ∧ (listed.getD p.1 false = true ∨ GDet P ops o σp Z v ∨ ((r.acts.all fun y => ancB A y p.1) = true ∧ GDet P ops o σp (St C η ι) v)) ∧ ∀ t ∈ o.looksAt ops, ∀ u, look σp t = some u → Whence ops A n pre σ0 σ p.1 t u
  slot : ∀ p ∈ pre, listed.getD p.1 false = true → ∀ d v, dstB ops p.1 = some d → look σ d = some v → a.tmps.getD d undef = v
  base : ∀ t, (∀ k, k < n → dstB ops k = some t → listed.getD k false = false) → ∀ u, look σ0 t = some u → a.tmps.getD t undef = u
  bases : ∀ t, (∀ p ∈ pre, dstB ops p.1 ≠ some t) → look σ t = look σ0 t

variable {n : Nat} {σ0 σ : List (Nat × Value)} {K : List (Nat × Value) → List Ent → List Fact → Prop} {pre : List (Nat × Bool)} {r : Plan} {η : List Ent} {ι : List Fact} {Z : World → Prop} {listed : Array Bool} {a : Act} {w : World}

theorem dstB_of {i d : Nat} {o : Oper} (ho : ops[i]? = some o) (hd : o.dst = some d) : dstB ops i = some d := by simp [dstB, ho, hd]
theorem dstB_dst {i : Nat} {o : Oper} (ho : ops[i]? = some o) : dstB ops i = o.dst := by simp [dstB, ho]
/-- a slot that an operation looks at, when its turn in the plan comes -/
theorem DInv.whence (h : DInv P C m ops A n σ0 K pre r σ η ι Z listed a w) {i : Nat} {o : Oper} (hl : ∀ t ∈ o.looksAt ops, ∀ k, k < n → dstB ops k = some t → (ancB A i k = true ∧ ∃ p ∈ pre, p.1 = k) ∨ (ancB A k i = true ∧ ∀ p ∈ pre, p.1 ≠ k)) {t : Nat} (ht : t ∈ o.looksAt ops) {u : Value} (hu : look σ t = some u) : Whence ops A n pre σ0 σ i t u := by
  by_cases hk : ∃ k, k < n ∧ dstB ops k = some t ∧ ancB A i k = true ∧ ∃ p ∈ pre, p.1 = k
  · obtain ⟨k, h1, h2, h3, h4⟩ := hk
    exact .inl ⟨k, h1, h2, h3, h4, hu⟩
  · have h2 : ∀ k, k < n → dstB ops k = some t → ancB A k i = true ∧ ∀ p ∈ pre, p.1 ≠ k := fun k hkn hkt => (hl t ht k hkn hkt).resolve_left fun h3 => hk ⟨k, hkn, hkt, h3.1, h3.2⟩
    refine .inr ⟨fun k hkn hkt => (h2 k hkn hkt).1, ?_⟩
    rw [← h.bases t fun p hp hpt => (h2 p.1 (h.small p hp) hpt).2 p hp rfl]
    exact hu
theorem DInv.reads (h : DInv P C m ops A n σ0 K pre r σ η ι Z listed a w) (hA : okA ops A = true) {i : Nat} {o : Oper} (ho : ops[i]? = some o) (hun : listed.getD i false = false) (hall : ∀ e ∈ o.after, Region.binds .any e = true → listed.getD e.on false = true) {t : Nat} {u : Value} (hw : Whence ops A n pre σ0 σ i t u) : a.tmps.getD t undef = u := by
  rcases hw with ⟨k, h1, h2, h3, ⟨q, hq, hqk⟩, h5⟩ | ⟨h1, h2⟩
  · exact h.slot q hq (by rw [hqk]; exact anc_listed hA h.closed i o ho hall k h3) t u (by rw [hqk]; exact h2) h5
  · refine h.base t (fun k hkn hkt => ?_) u h2
    cases hv : listed.getD k false with
    | false => rfl
    | true =>
      exfalso
      have hk : ∃ ok, ops[k]? = some ok := by
        cases hok : ops[k]? with
        | none => simp [dstB, hok] at hkt
        | some ok => exact ⟨ok, rfl⟩
      obtain ⟨ok, hok⟩ := hk
      have := anc_listed hA h.closed k ok hok (fun e he hb => h.closed k ok hok hv e he hb) i (h1 k hkn hkt)
      rw [hun] at this
      cases this

/-- what only reckons and reads is reckoned at once -/
theorem DInv.unroll {i : Nat} (h : DInv P C m ops A n σ0 K pre (.det i r) σ η ι Z listed a w) : ∃ d v, DInv P C m ops A n σ0 K ((i, false) :: pre) r ((d, v) :: σ) η ι Z listed a w := by
  obtain ⟨o, d, v, ho, hd, hdm, hg, hx⟩ := h.hx
  obtain ⟨hstep, hni, hgo⟩ := dxGo_det h.go
  obtain ⟨o', ho', _, hsel, hdist, hlooks⟩ := stepB_spec hstep
  obtain rfl : o' = o := Option.some.inj (ho'.symm.trans ho)
  have hi : i < n := h.smallr i (by simp [Plan.rem])
  have hold : ∀ p ∈ pre, ∀ dp, dstB ops p.1 = some dp → d ≠ dp := fun p hp dp hdp e => hdist d hd p hp (e ▸ hdp)
  have hwk : ∀ j t u, Whence ops A n pre σ0 σ j t u → Whence ops A n ((i, false) :: pre) σ0 ((d, v) :: σ) j t u := fun j t u hw => by
    rcases hw with ⟨k, h1, h2, h3, ⟨q, hq, hqk⟩, h5⟩ | hw
    · refine .inl ⟨k, h1, h2, h3, ⟨q, List.mem_cons_of_mem _ hq, hqk⟩, ?_⟩
      rw [look_other (hold q hq t (by rw [hqk]; exact h2))]
      exact h5
    · exact .inr hw
  refine ⟨d, v, hx, h.zst, hgo, fun j hj => ?_, fun p hp => ?_, fun j hj => h.smallr j (by simp [Plan.rem, hj]), h.st, h.defers, h.size, h.lsize, h.closed, h.head, fun p hp hp2 => ?_, fun j hj => h.rest j (by simp [Plan.rem, hj]), fun j hj p hp => ?_, fun p hp q hq dd h1 h2 => ?_, fun p hp hp2 => ?_, fun p hp hl dp u hdp hu => ?_, h.base, fun t ht => ?_⟩
  · rcases h.cover j hj with ⟨p, hp, hpj⟩ | hj2
    · exact .inl ⟨p, List.mem_cons_of_mem _ hp, hpj⟩
    · simp only [Plan.rem, List.mem_cons] at hj2
      rcases hj2 with rfl | hj2
      · exact .inl ⟨(j, false), by simp, rfl⟩
      · exact .inr hj2
  · rcases List.mem_cons.1 hp with rfl | hp
    · exact hi
    · exact h.small p hp
  · rcases List.mem_cons.1 hp with rfl | hp
    · cases hp2
    · exact h.ext p hp hp2
  · rcases List.mem_cons.1 hp with rfl | hp
    · intro e
      simp only at e
      exact hni (e ▸ hj)
    · exact h.nopre j (by simp [Plan.rem, hj]) p hp
  · rcases List.mem_cons.1 hp with rfl | hp
    · rcases List.mem_cons.1 hq with rfl | hq
      · rfl
      · have e : d = dd := Option.some.inj ((dstB_of ho hd).symm.trans h1)
        exact absurd h2 (e ▸ hdist d hd q hq)
    · rcases List.mem_cons.1 hq with rfl | hq
      · have e : d = dd := Option.some.inj ((dstB_of ho hd).symm.trans h2)
        exact absurd h1 (e ▸ hdist d hd p hp)
      · exact h.apart p hp q hq dd h1 h2
  · rcases List.mem_cons.1 hp with rfl | hp
    · exact ⟨o', d, v, σ, ho, hd, hdm, look_same, hsel, .inr hg, fun t ht u hu => hwk _ _ _ (h.whence hlooks ht hu)⟩
    · obtain ⟨op, dp, vp, σp, hop, hdp, hdpm, hlp, hselp, hgp, hlk⟩ := h.info p hp hp2
      exact ⟨op, dp, vp, σp, hop, hdp, hdpm, by rw [look_other (hold p hp dp (dstB_of hop hdp))]; exact hlp, hselp, hgp, fun t ht u hu => hwk _ _ _ (hlk t ht u hu)⟩
  · rcases List.mem_cons.1 hp with rfl | hp
    · have := h.rest i (by simp [Plan.rem])
      simp only at hl
      rw [this] at hl
      cases hl
    · rw [look_other (hold p hp dp hdp)] at hu
      exact h.slot p hp hl dp u hdp hu
  · have hne : d ≠ t := fun e => ht (i, false) (by simp) (e ▸ dstB_of ho hd)
    rw [look_other hne]
    exact h.bases t fun p hp => ht p (List.mem_cons_of_mem _ hp)
theorem DInv.unrolls : ∀ (r : Plan) (pre : List (Nat × Bool)) (σ : List (Nat × Value)), DInv P C m ops A n σ0 K pre r σ η ι Z listed a w → ∃ pre' r' σ', DInv P C m ops A n σ0 K pre' r' σ' η ι Z listed a w ∧ (r' = .done ∨ ∃ y p q, r' = .alt y p q)
  | .done, pre, σ, h => ⟨pre, .done, σ, h, .inl rfl⟩
  | .alt y p q, pre, σ, h => ⟨pre, _, σ, h, .inr ⟨y, p, q, rfl⟩⟩
  | .dead, pre, σ, h => by
    have := h.go
    simp [dxGo] at this
  | .det i s, pre, σ, h => by
    obtain ⟨d, v, h'⟩ := h.unroll
    exact DInv.unrolls s _ _ h'

theorem closed_set {i : Nat} {o : Oper} (hc : Closed ops listed) (ho : ops[i]? = some o) (hall : ∀ e ∈ o.after, Region.binds .any e = true → listed.getD e.on false = true) : Closed ops (listed.setIfInBounds i true) := by
  intro j oj hj hl e he hb
  by_cases hij : i = j
  · subst hij
    obtain rfl : oj = o := Option.some.inj (hj.symm.trans ho)
    exact getD_set_true (hall e he hb)
  · rw [getD_set_ne false hij] at hl
    exact getD_set_true (hc j oj hj hl e he hb)
theorem listed_set {i j : Nat} (h : (listed.setIfInBounds i true).getD j false = true) : i = j ∨ listed.getD j false = true := by
  by_cases hij : i = j
  · exact .inl hij
  · rw [getD_set_ne false hij] at h
    exact .inr h
theorem listed_old {i j : Nat} (hs : i < listed.size) (h : (listed.setIfInBounds i true).getD j false = false) : i ≠ j ∧ listed.getD j false = false := by
  by_cases hij : i = j
  · subst hij
    simp [hs] at h
  · rw [getD_set_ne false hij] at h
    exact ⟨hij, h⟩
theorem getD_put {a : Act} {d t : Nat} {v : Value} (h : d ≠ t) : (a.put (some d) v).tmps.getD t undef = a.tmps.getD t undef := by
  simp [Act.put, Array.getElem?_setIfInBounds_ne h]
theorem getD_put_same {a : Act} {d : Nat} {v : Value} (h : d < a.tmps.size) : (a.put (some d) v).tmps.getD d undef = v := by
  simp [Act.put, h]

/-- one of those that only reckon and read runs -/
theorem DInv.detStep (h : DInv P C m ops A n σ0 K pre r σ η ι Z listed a w) {i d : Nat} {v : Value} {o : Oper} (hp : (i, false) ∈ pre) (hls : i < ops.size) (ho : ops[i]? = some o) (hd : o.dst = some d) (hdm : Nat.blt d m.sz = true) (hv : look σ d = some v)
    (hall : ∀ e ∈ o.after, Region.binds .any e = true → listed.getD e.on false = true)  :
    DInv P C m ops A n σ0 K pre r σ η ι Z (listed.setIfInBounds i true) (a.put (some d) v) w := by
  have hin : i < n := h.small (i, false) hp
  have hdm' : d < a.tmps.size := by rw [h.size]; simpa [Nat.blt_eq] using hdm
  refine ⟨h.hx, h.zst, h.go, h.cover, h.small, h.smallr, h.st, h.defers, by simp [Act.put, h.size], by simp [h.lsize], closed_set h.closed ho hall, fun j hj => ?_, fun p hpp hp2 => getD_set_true (h.ext p hpp hp2), fun j hj => ?_, h.nopre, h.apart, fun p hpp hp2 => ?_, fun p hpp hl dp u hdp hu => ?_, fun t ht u hu => ?_, h.bases⟩
  · rcases listed_set hj with rfl | hj
    · exact hin
    · exact h.head j hj
  · have hne : i ≠ j := h.nopre j hj (i, false) hp
    rw [getD_set_ne false hne]
    exact h.rest j hj
  · obtain ⟨op, dp, vp, σp, hop, hdp, hdpm, hlp, hselp, hgp, hlk⟩ := h.info p hpp hp2
    exact ⟨op, dp, vp, σp, hop, hdp, hdpm, hlp, hselp, hgp.imp (fun hl => getD_set_true hl) id, hlk⟩
  · by_cases he : d = dp
    · subst he
      rw [getD_put_same hdm']
      exact Option.some.inj (hv.symm.trans hu)
    · rw [getD_put he]
      rcases listed_set hl with e | hl
      · rw [← e, dstB_of ho hd] at hdp
        exact absurd (Option.some.inj hdp) he
      · exact h.slot p hpp hl dp u hdp hu
  · have hls' : i < listed.size := by rw [h.lsize]; exact hls
    have hne : d ≠ t := fun e => (listed_old hls' (ht i hin (e ▸ dstB_of ho hd))).1 rfl
    rw [getD_put hne]
    exact h.base t (fun k hkn hkt => (listed_old hls' (ht k hkn hkt)).2) u hu

/-- the next that acts has run -/
theorem DInv.extStep (hA : okA ops A = true) {y : Nat} {v : Value} {o : Oper} {θ : List Ent} {κ : List Fact} {Z' : World → Prop} {w' : World} {r0 : Plan} (h : DInv P C m ops A n σ0 K pre r0 σ η ι Z listed a w) (hstep : stepB ops A n pre y true = true) (hgo : dxGo ops A n ((y, true) :: pre) true r = true) (hcov : ∀ z ∈ r0.rem, z = y ∨ z ∈ r.rem) (hsub : ∀ z ∈ r.rem, z ∈ r0.rem) (hyr : y ∉ r.rem) (hya : y ∈ r0.acts) (hy0 : y ∈ r0.rem) (ho : ops[y]? = some o) (hdm : ∀ d, o.dst = some d → Nat.blt d m.sz = true)
    (hall : ∀ e ∈ o.after, Region.binds .any e = true → listed.getD e.on false = true) (hls : y < ops.size) (hz1 : ∀ w, St C θ κ w → Z' w) (hz2 : ∀ w, Z' w → Z w) (hst : St C θ κ w') (hx : HX P C m ops A K r (pushD o.dst v σ) θ κ Z') :
    DInv P C m ops A n σ0 K ((y, true) :: pre) r (pushD o.dst v σ) θ κ Z' (listed.setIfInBounds y true) (a.put o.dst v) w' := by
  obtain ⟨o', ho', _, hsel, hdist, hlooks⟩ := stepB_spec hstep
  obtain rfl : o' = o := Option.some.inj (ho'.symm.trans ho)
  have hi : y < n := h.smallr y hy0
  have hls' : y < listed.size := by rw [h.lsize]; exact hls
  have hlk : ∀ p ∈ pre, ∀ dp, dstB ops p.1 = some dp → look (pushD o'.dst v σ) dp = look σ dp := fun p hp dp hdp => by
    cases hd : o'.dst with
    | none => rfl
    | some d => exact look_other fun e => hdist d hd p hp (e ▸ hdp)
  have hwk : ∀ j t u, Whence ops A n pre σ0 σ j t u → Whence ops A n ((y, true) :: pre) σ0 (pushD o'.dst v σ) j t u := fun j t u hw => by
    rcases hw with ⟨k, h1, h2, h3, ⟨q, hq, hqk⟩, h5⟩ | hw
    · exact .inl ⟨k, h1, h2, h3, ⟨q, List.mem_cons_of_mem _ hq, hqk⟩, by rw [hlk q hq t (by rw [hqk]; exact h2)]; exact h5⟩
    · exact .inr hw
  have hpt : ∀ t, (∀ d, o'.dst = some d → d ≠ t) → (a.put o'.dst v).tmps.getD t undef = a.tmps.getD t undef := fun t ht => by
    cases hd : o'.dst with
    | none => rfl
    | some d => exact getD_put (ht d hd)
  refine ⟨hx, hz1, hgo, fun j hj => ?_, fun p hp => ?_, fun j hj => h.smallr j (hsub j hj), hst, by cases hd : o'.dst <;> simp [Act.put, h.defers], by cases hd : o'.dst <;> simp [Act.put, h.size], by simp [h.lsize], closed_set h.closed ho hall, fun j hj => ?_, fun p hp hp2 => ?_, fun j hj => ?_, fun j hj p hp => ?_, fun p hp q hq dd h1 h2 => ?_, fun p hp hp2 => ?_, fun p hp hl dp u hdp hu => ?_, fun t ht u hu => ?_, fun t ht => ?_⟩
  · rcases h.cover j hj with ⟨p, hp, hpj⟩ | hj2
    · exact .inl ⟨p, List.mem_cons_of_mem _ hp, hpj⟩
    · rcases hcov j hj2 with rfl | hj2
      · exact .inl ⟨(j, true), by simp, rfl⟩
      · exact .inr hj2
  · rcases List.mem_cons.1 hp with rfl | hp
    · exact hi
    · exact h.small p hp
  · rcases listed_set hj with rfl | hj
    · exact hi
    · exact h.head j hj
  · rcases List.mem_cons.1 hp with rfl | hp
    · simp [hls, h.lsize]
    · exact getD_set_true (h.ext p hp hp2)
  · have hne : y ≠ j := fun e => hyr (e ▸ hj)
    rw [getD_set_ne false hne]
    exact h.rest j (hsub j hj)
  · rcases List.mem_cons.1 hp with rfl | hp
    · intro e
      simp only at e
      exact hyr (e ▸ hj)
    · exact h.nopre j (hsub j hj) p hp
  · rcases List.mem_cons.1 hp with rfl | hp
    · rcases List.mem_cons.1 hq with rfl | hq
      · rfl
      · rw [dstB_dst ho] at h1
        exact absurd h2 (hdist dd h1 q hq)
    · rcases List.mem_cons.1 hq with rfl | hq
      · rw [dstB_dst ho] at h2
        exact absurd h1 (hdist dd h2 p hp)
      · exact h.apart p hp q hq dd h1 h2
  · rcases List.mem_cons.1 hp with rfl | hp
    · cases hp2
    · obtain ⟨op, dp, vp, σp, hop, hdp, hdpm, hlp, hselp, hgp, hlk2⟩ := h.info p hp hp2
      exact ⟨op, dp, vp, σp, hop, hdp, hdpm, by rw [hlk p hp dp (dstB_of hop hdp)]; exact hlp, hselp, (by
        rcases hgp with hl | hgp | ⟨hal, _⟩
        · exact .inl (getD_set_true hl)
        · exact .inr (.inl (hgp.mono hz2))
        · exact .inl (getD_set_true (anc_listed hA h.closed y o' ho hall p.1 (List.all_eq_true.1 hal y hya)))), fun t ht u hu => hwk _ _ _ (hlk2 t ht u hu)⟩
  · rcases List.mem_cons.1 hp with rfl | hp
    · rw [dstB_dst ho] at hdp
      rw [hdp] at hu ⊢
      have hdm' : dp < a.tmps.size := by rw [h.size]; simpa [Nat.blt_eq] using hdm dp hdp
      rw [getD_put_same hdm']
      simp only [pushD] at hu
      rw [look_same] at hu
      exact Option.some.inj hu
    · have hne : ∀ d, o'.dst = some d → d ≠ dp := fun d hd e => hdist d hd p hp (e ▸ hdp)
      rw [hpt dp hne]
      rw [hlk p hp dp hdp] at hu
      rcases listed_set hl with e | hl
      · rw [← e, dstB_dst ho] at hdp
        exact absurd rfl (hne dp hdp)
      · exact h.slot p hp hl dp u hdp hu
  · rw [hpt t fun d hd e => (listed_old hls' (ht y hi (e ▸ dstB_of ho hd))).1 rfl]
    exact h.base t (fun k hkn hkt => (listed_old hls' (ht k hkn hkt)).2) u hu
  · have h2 := h.bases t fun p hp => ht p (List.mem_cons_of_mem _ hp)
    rw [← h2]
    cases hd : o'.dst with
    | none => rfl
    | some d => exact look_other fun e => ht (y, true) (by simp) (e ▸ dstB_of ho hd)

/-! ### how many are left -/
def unl (ops : Array Oper) (listed : Array Bool) : Nat := ((List.range ops.size).filter fun i => !listed.getD i false).length
theorem filter_flip {i : Nat} (p : Nat → Bool) (hp : p i = true) : ∀ l : List Nat, l.Nodup → i ∈ l → (l.filter fun j => p j && !(j == i)).length + 1 = (l.filter p).length
  | [], _, h => by cases h
  | x :: l, hn, h => by
    rw [List.nodup_cons] at hn
    by_cases hx : x = i
    · subst hx
      have e : (l.filter fun j => p j && !(j == x)) = l.filter p := by
        apply List.filter_congr
        intro j hj
        have : j ≠ x := fun e => hn.1 (e ▸ hj)
        simp [this]
      simp [hp, e]
    · have hi : i ∈ l := by
        rcases List.mem_cons.1 h with h | h
        · exact absurd h.symm hx
        · exact h
      have ih := filter_flip p hp l hn.2 hi
      simp only [List.filter_cons]
      have hb : (x == i) = false := by simpa using hx
      cases hpx : p x <;> simp [hb] <;> omega
theorem unl_set {i : Nat} (hi : i < ops.size) (hs : listed.size = ops.size) (hl : listed.getD i false = false) : unl ops (listed.setIfInBounds i true) + 1 = unl ops listed := by
  unfold unl
  rw [← filter_flip (fun j => !listed.getD j false) (by simp [hl]) (List.range ops.size) List.nodup_range (List.mem_range.2 hi)]
  congr 2
  apply List.filter_congr
  intro j _
  by_cases hij : i = j
  · subst hij
    simp [hi, hs]
  · have hb : (j == i) = false := by simpa using fun e => hij e.symm
    rw [getD_set_ne false hij, hb]
    simp
theorem unl_pos {i : Nat} (hi : i < ops.size) (hl : listed.getD i false = false) : 0 < unl ops listed := by
  unfold unl
  apply List.length_pos_of_mem (a := i)
  rw [List.mem_filter]
  exact ⟨List.mem_range.2 hi, by simp [hl]⟩
/-- the first that has not run may run -/
theorem some_ready (hA : okA ops A = true) (hs : listed.size = ops.size) {i : Nat} (hi : i < ops.size) (hl : listed.getD i false = false) : Region.ready .any ops listed ≠ [] := by
  induction i using Nat.strongRecOn with
  | _ i ih =>
    obtain ⟨o, ho⟩ : ∃ o, ops[i]? = some o := ⟨ops[i], by simp [hi]⟩
    by_cases hall : ∀ e ∈ o.after, Region.binds .any e = true → listed.getD e.on false = true
    · have : i ∈ Region.ready .any ops listed := mem_ready.2 ⟨getD_in (by omega) hl, o, ho, hall⟩
      intro e
      rw [e] at this
      cases this
    · have : ∃ e ∈ o.after, Region.binds .any e = true ∧ listed.getD e.on false = false := by
        apply Classical.byContradiction
        intro hno
        apply hall
        intro e he hb
        cases hv : listed.getD e.on false with
        | true => rfl
        | false => exact absurd ⟨e, he, hb, hv⟩ hno
      obtain ⟨e, he, hb, hv⟩ := this
      have hlt := (okA_spec hA ho).1 e he hb
      exact ih e.on hlt (by omega) hv

variable {Q : Exit → Act → World → Prop}
theorem wpAnyIn_of_seq {F : Fence} {md : Region.Mode} {Q' : Exit → Act → World → Prop} : ∀ (l : List Oper) (k : Nat) (listed : Array Bool) (a : Act) (w : World), (∀ j, l[j]? = ops[k + j]?) →
    Region.seqB md ops l.length k listed = true → wpListIn F 0 P ops Q' l a w → wpAnyIn F 0 P md ops Q' l.length listed a w
  | [], _, _, _, _, _, hB, h => ⟨by simpa [Region.seqB] using hB, h⟩
  | o :: l, k, listed, a, w, hl, hB, h => by
    have h0 : ops[k]? = some o := by simpa using (hl 0).symm
    simp only [List.length_cons, Region.seqB, Bool.and_eq_true, decide_eq_true_eq] at hB
    refine ⟨fun h1 => (by rw [hB.1] at h1; cases h1), fun i hi => ?_⟩
    rw [hB.1] at hi
    have hik : i = k := by simpa using hi
    subst hik
    have hw : wpOpIn F 0 P ops Q' i (wpListIn F 0 P ops Q' l) a w := by unfold wpOpIn; simp only [h0]; exact h
    exact wpOpIn_mono (fun a' w' h' => wpAnyIn_of_seq l (i + 1) _ a' w' (fun j => by have := hl (j + 1); simpa [Nat.add_assoc, Nat.add_comm 1 j] using this) hB.2 h') hw
theorem wpOp_of {ro : Option Nat} {i : Nat} {o : Oper} {Kn : Act → World → Prop} (ho : ops[i]? = some o) (hg : Region.wanted o (yielded ops a.tmps) = true) (h : o.wpIn (FW ro) 0 P a w Kn Q) : wpOpIn (FW ro) 0 P ops Q i Kn a w := by
  unfold wpOpIn
  simp only [ho, hg, if_true]
  exact h

theorem headL_eq (hs : listed.size = ops.size) (h1 : ∀ i, listed.getD i false = true → i < n) (h2 : ∀ i, i < n → listed.getD i false = true) : listed = headL ops n := by
  apply Array.ext
  · simp [headL, hs]
  · intro i hi hi'
    simp only [headL, Array.getElem_map, Array.getElem_range]
    have e : listed.getD i false = listed[i] := by simp [hi]
    cases hv : listed[i] with
    | true =>
      have := h1 i (by rw [e, hv])
      simp [Nat.blt_eq, this]
    | false =>
      by_cases hin : i < n
      · have := h2 i hin
        rw [e, hv] at this
        cases this
      · have : Nat.blt i n = false := by
          cases hb : Nat.blt i n with
          | false => rfl
          | true => exact absurd (by simpa [Nat.blt_eq] using hb) hin
        rw [this]
theorem filter_ge (n : Nat) : ∀ s, n ≤ s → ((List.range s).filter fun i => !Nat.blt i n).length = s - n
  | 0, h => by simp
  | s + 1, h => by
    rw [List.range_succ, List.filter_append, List.length_append]
    by_cases hn : n ≤ s
    · have := filter_ge n s hn
      have hb : Nat.blt s n = false := by
        cases hb : Nat.blt s n with
        | false => rfl
        | true => have : s < n := by simpa [Nat.blt_eq] using hb
                  omega
      simp [hb, this]
      omega
    · have e : n = s + 1 := by omega
      subst e
      have h0 : (List.range s).filter (fun i => !Nat.blt i (s + 1)) = [] := by
        rw [List.filter_eq_nil_iff]
        intro i hi
        have := List.mem_range.1 hi
        have hb : Nat.blt i (s + 1) = true := by simp [Nat.blt_eq]; omega
        simp [hb]
      have hb : Nat.blt s (s + 1) = true := by simp [Nat.blt_eq]
      simp [h0, hb]

theorem heads_same {R : List Nat} {z : Nat} : ∀ {r : Plan}, r.same R = true → z ∈ r.heads → z ∈ R
  | .done, _, h => by cases h
  | .det _ _, _, h => by cases h
  | .dead, _, h => by cases h
  | .alt y p q, hs, hz => by
    simp only [Plan.same, Bool.and_eq_true] at hs
    simp only [Plan.heads, List.mem_cons] at hz
    rcases hz with rfl | hz
    · simpa using hs.1
    · exact heads_same hs.2.2 hz
theorem heads_acts {z : Nat} : ∀ {r : Plan}, z ∈ r.heads → z ∈ r.acts
  | .done, h => by cases h
  | .det _ _, h => by cases h
  | .dead, h => by cases h
  | .alt y p q, hz => by
    simp only [Plan.heads, List.mem_cons] at hz
    simp only [Plan.acts, List.mem_cons, List.mem_append]
    rcases hz with rfl | hz
    · exact .inl rfl
    · exact .inr (.inr (heads_acts hz))
theorem DInv.any (hA : okA ops A = true) (htail : ∀ j, n ≤ j → j < ops.size → ∀ i, i < n → ancB A j i = true) (hn : n ≤ ops.size) (hseq : Region.seqB .any ops (ops.size - n) n (headL ops n) = true)
    (hK : ∀ σ η ι, K σ η ι → ∀ a w, Fr m σ a → St C η ι w → wpListIn (FW m.ro) 0 P ops Q (ops.toList.drop n) a w) :
    ∀ (fuel : Nat) (pre : List (Nat × Bool)) (r : Plan) (σ : List (Nat × Value)) (η : List Ent) (ι : List Fact) (Z : World → Prop) (listed : Array Bool) (a : Act) (w : World), fuel = unl ops listed → DInv P C m ops A n σ0 K pre r σ η ι Z listed a w → wpAnyIn (FW m.ro) 0 P .any ops Q fuel listed a w := by
  intro fuel
  induction fuel with
  | zero =>
    intro pre r σ η ι Z listed a w hf h
    obtain ⟨pre, r, σ, h, hr⟩ := DInv.unrolls r pre σ h
    by_cases hall : ∀ i, i < n → listed.getD i false = true
    · have hL := headL_eq h.lsize h.head hall
      have hlen : (ops.toList.drop n).length = 0 := by
        have : unl ops listed = ops.size - n := by
          rw [hL]
          unfold unl
          rw [← filter_ge n ops.size hn]
          congr 1
          apply List.filter_congr
          intro i hi
          simp [headL, List.mem_range.1 hi]
        simp
        omega
      obtain rfl : r = .done := by
        rcases hr with hr | ⟨y, p, q, hr⟩
        · exact hr
        · subst hr
          have h1 := h.rest y (by simp [Plan.rem])
          have h2 := hall y (h.smallr y (by simp [Plan.rem]))
          rw [h1] at h2
          cases h2
      have hfr : Fr m σ a := ⟨h.defers, h.size, fun t u hu => by
        by_cases hk : ∃ k, k < n ∧ dstB ops k = some t
        · obtain ⟨k, hkn, hkt⟩ := hk
          rcases h.cover k hkn with ⟨p, hp, hpk⟩ | hp
          · exact h.slot p hp (by rw [hpk]; exact hall k hkn) t u (by rw [hpk]; exact hkt) hu
          · cases hp
        · have hb := h.bases t fun p hp hpt => hk ⟨p.1, h.small p hp, hpt⟩
          exact h.base t (fun k hkn hkt => absurd ⟨k, hkn, hkt⟩ hk) u (by rw [← hb]; exact hu)⟩
      have hw := hK σ η ι h.hx a w hfr h.st
      have := wpAnyIn_of_seq (md := .any) (ops.toList.drop n) n listed a w (fun j => by simp) (by rw [hL]; simpa using hseq) hw
      rw [hlen] at this
      exact this
    · exfalso
      have : ∃ i, i < n ∧ listed.getD i false = false := by
        apply Classical.byContradiction
        intro hno
        apply hall
        intro i hi
        cases hv : listed.getD i false with
        | true => rfl
        | false => exact absurd ⟨i, hi, hv⟩ hno
      obtain ⟨i, hi, hl⟩ := this
      have := unl_pos (ops := ops) (i := i) (by omega) hl
      omega
  | succ fuel ih =>
    intro pre r σ η ι Z listed a w hf h
    obtain ⟨pre, r, σ, h, hr⟩ := DInv.unrolls r pre σ h
    by_cases hall : ∀ i, i < n → listed.getD i false = true
    · have hL := headL_eq h.lsize h.head hall
      have hlen : (ops.toList.drop n).length = fuel + 1 := by
        have : unl ops listed = ops.size - n := by
          rw [hL]
          unfold unl
          rw [← filter_ge n ops.size hn]
          congr 1
          apply List.filter_congr
          intro i hi
          simp [headL, List.mem_range.1 hi]
        simp
        omega
      obtain rfl : r = .done := by
        rcases hr with hr | ⟨y, p, q, hr⟩
        · exact hr
        · subst hr
          have h1 := h.rest y (by simp [Plan.rem])
          have h2 := hall y (h.smallr y (by simp [Plan.rem]))
          rw [h1] at h2
          cases h2
      have hfr : Fr m σ a := ⟨h.defers, h.size, fun t u hu => by
        by_cases hk : ∃ k, k < n ∧ dstB ops k = some t
        · obtain ⟨k, hkn, hkt⟩ := hk
          rcases h.cover k hkn with ⟨p, hp, hpk⟩ | hp
          · exact h.slot p hp (by rw [hpk]; exact hall k hkn) t u (by rw [hpk]; exact hkt) hu
          · cases hp
        · have hb := h.bases t fun p hp hpt => hk ⟨p.1, h.small p hp, hpt⟩
          exact h.base t (fun k hkn hkt => absurd ⟨k, hkn, hkt⟩ hk) u (by rw [← hb]; exact hu)⟩
      have hw := hK σ η ι h.hx a w hfr h.st
      have := wpAnyIn_of_seq (md := .any) (ops.toList.drop n) n listed a w (fun j => by simp) (by rw [hL]; simpa using hseq) hw
      rw [hlen] at this
      exact this
    · have hex : ∃ i, i < n ∧ listed.getD i false = false := by
        apply Classical.byContradiction
        intro hno
        apply hall
        intro i hi
        cases hv : listed.getD i false with
        | true => rfl
        | false => exact absurd ⟨i, hi, hv⟩ hno
      obtain ⟨i0, hi0, hl0⟩ := hex
      refine ⟨fun h0 => absurd h0 (some_ready hA h.lsize (i := i0) (by omega) hl0), fun i hi => ?_⟩
      obtain ⟨hun, o, ho, hed⟩ := mem_ready.1 hi
      have hisz : i < ops.size := (Array.getElem?_eq_some_iff.1 ho).1
      have hunl := getD_both hun
      have hin : i < n := by
        rcases Nat.lt_or_ge i n with h1 | h1
        · exact h1
        · have := anc_listed hA h.closed i o ho hed i0 (htail i h1 hisz i0 hi0)
          rw [hl0] at this
          cases this
      have hfuel : fuel = unl ops (listed.setIfInBounds i true) := by
        have := unl_set hisz h.lsize hunl
        omega
      rcases h.cover i hin with ⟨⟨pi, px⟩, hp, hpi⟩ | hp
      · simp only at hpi
        subst hpi
        cases px with
        | true =>
          have := h.ext _ hp rfl
          simp only at this
          rw [hunl] at this
          cases this
        | false =>
          obtain ⟨o', d, v, σp, ho', hd, hdm, hlv, hsel, hg, hlk⟩ := h.info _ hp rfl
          obtain rfl : o' = o := Option.some.inj (ho'.symm.trans ho)
          have hg : GDet P ops o' σp (St C η ι) v := by
            rcases hg with hl | hg | ⟨_, hg⟩
            · simp only at hl
              rw [hunl] at hl
              cases hl
            · exact hg.mono h.zst
            · exact hg
          have hag : ∀ t ∈ o'.looksAt ops, ∀ u, look σp t = some u → a.tmps.getD t undef = u := fun t ht u hu => h.reads hA ho hunl hed (hlk t ht u hu)
          have hnext := ih pre r σ η ι Z _ _ w hfuel (h.detStep hp hisz ho hd hdm hlv hed)
          have hops : ∀ x ∈ o'.op.operands, ∀ u, ev σp x = some u → a.eval x = u := fun x hx u hu => by
            cases x with
            | tmp t => exact hag t (looks_operand hx) u hu
            | _ => simpa [ev, Act.eval] using hu
          rcases hg with ⟨hgn, hgr⟩ | ⟨j, b, g, hgj, hdj, hgg⟩
          · refine wpOp_of ho (by simp [Region.wanted, hgn]) ?_
            refine ⟨fun _ _ => trivial, ?_⟩
            rw [semAt_value (hgr a.eval w hops h.st), Oper.uponIn_value, hd]
            exact hnext
          · have hyv : ∀ x, look σp g = some (.bool x) → yielded ops a.tmps j = some x := fun x hxx => by
              have := tmp_bool (hag g (looks_guard hgj hdj) _ hxx)
              unfold yielded
              unfold dstB at hdj
              simp [hdj, this]
            rcases hgg with ⟨hgb, hgr⟩ | ⟨u, hgb, hub, rfl⟩
            · refine wpOp_of ho (by simp [Region.wanted, hgj, hyv _ hgb]) ?_
              refine ⟨fun _ _ => trivial, ?_⟩
              rw [semAt_value (hgr a.eval w hops h.st), Oper.uponIn_value, hd]
              exact hnext
            · unfold wpOpIn
              have hw : Region.wanted o' (yielded ops a.tmps) = false := by
                have hgv := hag g (looks_guard hgj hdj) _ hgb
                have hyn : yielded ops a.tmps j ≠ some b := fun hy => by
                  unfold yielded at hy
                  unfold dstB at hdj
                  simp only [hdj, Option.bind_some] at hy
                  split at hy
                  · rename_i x hx
                    simp only [Option.some.injEq] at hy
                    subst hy
                    apply hub
                    rw [← hgv]
                    simp [hx]
                  · cases hy
                simp only [Region.wanted, hgj]
                simpa using hyn
              simp only [ho, hw, Bool.false_eq_true, if_false, hd]
              exact ⟨fun _ _ => trivial, hnext⟩
      · rcases hr with hr | ⟨y, s, q, hr⟩
        · subst hr
          cases hp
        · have hgo := h.go
          rw [hr] at hgo
          simp only [dxGo, Bool.and_eq_true, Bool.not_true, Bool.false_or] at hgo
          obtain ⟨⟨⟨⟨hwait, hsame⟩, _⟩, _⟩, _⟩ := hgo
          rw [← hr] at hwait hsame
          have hhead : i ∈ r.heads := by
            have h1 := List.all_eq_true.1 hwait i hp
            simp only [Bool.or_eq_true, List.contains_eq_mem, decide_eq_true_eq] at h1
            rcases h1 with h1 | h1
            · exact h1
            · exfalso
              obtain ⟨z, hz, hzi⟩ := List.any_eq_true.1 h1
              have h2 := anc_listed hA h.closed i o ho hed z hzi
              have h3 : z ∈ r.rem := heads_same hsame hz
              rw [h.rest z h3] at h2
              cases h2
          obtain ⟨p', hstep, hgo', hcov, hsub, hyr, hxa⟩ := alt_find hhead h.go hsame h.hx
          obtain ⟨oy, hoy, _, _, _, hlooks⟩ := stepB_spec hstep
          obtain rfl : oy = o := Option.some.inj (hoy.symm.trans ho)
          have hag : ∀ t ∈ oy.looksAt ops, ∀ u, look σ t = some u → a.tmps.getD t undef = u := fun t ht u hu => h.reads hA ho hunl hed (h.whence hlooks ht hu)
          obtain ⟨⟨o2, ho2, hdm2, hwant, hact⟩, _⟩ := hxa
          obtain rfl : o2 = oy := Option.some.inj (ho2.symm.trans ho)
          have hops : ∀ x ∈ o2.op.operands, ∀ u, ev σ x = some u → a.eval x = u := fun x hx u hu => by
            cases x with
            | tmp t => exact hag t (looks_operand hx) u hu
            | _ => simpa [ev, Act.eval] using hu
          have hsel : ∀ cs b, o2.op ≠ .select cs b := by
            obtain ⟨o3, ho3, _, hsel, _⟩ := stepB_spec hstep
            obtain rfl : o3 = o2 := Option.some.inj (ho3.symm.trans ho)
            exact hsel
          refine wpOp_of ho (by
            rcases hwant with hgn | ⟨j, b, g, hgj, hdj, hgb⟩
            · simp [Region.wanted, hgn]
            · have := tmp_bool (hag g (looks_guard hgj hdj) _ hgb)
              have hyv : yielded ops a.tmps j = some b := by
                unfold yielded
                unfold dstB at hdj
                simp [hdj, this]
              simp [Region.wanted, hgj, hyv]) ?_
          refine ⟨fun _ _ => trivial, ?_⟩
          have e : execOp a.eval o2 = execOp (fun x => (ev σ x).getD (a.eval x)) o2 := execOp_congr o2 hsel fun x hx => by
            cases hv : ev σ x with
            | none => simp
            | some u => simp [hops x hx u hv]
          refine upon_of_resOk (semAt_resOk (by rw [e]; exact hact _ w (fun x u hx => by simp [hx]) h.st)) ?_
          rintro v w' ⟨θ, κ, ⟨Z', hz1, hz2, hx⟩, hs⟩
          exact ih _ _ _ _ _ _ _ _ _ hfuel (h.extStep hA hstep hgo' hcov hsub hyr (heads_acts hhead) hp ho hdm2 hed hisz hz1 hz2 hs hx)

theorem dx_regionZ {Z : World → Prop} {id : Nat} {l : List Oper} {ord : Plan} (n : Nat) (A : List (List Nat)) (hm : P.follows .mixedOrders = true) (hB : dxB l.toArray A ord n = true) {σ : List (Nat × Value)} {η : List Ent} {ι : List Fact} (hz : ∀ w, St C η ι w → Z w)
    (h : HX P C m l.toArray A (fun σ η ι => WL P C m l.toArray Q (l.drop n) σ η ι) ord σ η ι Z) : WC P C m (.region id l.toArray true) Q σ η ι := by
  intro a w hf hst
  simp only [dxB, Bool.and_eq_true] at hB
  obtain ⟨⟨⟨⟨⟨⟨hA, hn⟩, hc⟩, hsm⟩, hgo⟩, htl⟩, hseq⟩ := hB
  have hn' : n ≤ l.toArray.size := by simpa using hn
  refine wpIn_region_any hm ?_
  refine DInv.any (σ0 := σ) (K := fun σ η ι => WL P C m l.toArray Q (l.drop n) σ η ι) hA (fun j hj hjs i hi => ?_) hn' hseq (fun σ η ι hk a w hf hs => hk a w hf hs) _ [] ord σ η ι Z _ a _ ?_ ?_
  · have h1 := List.all_eq_true.1 htl j (List.mem_range.2 hjs)
    simp only [Bool.or_eq_true, Nat.blt_eq] at h1
    rcases h1 with h1 | h1
    · omega
    · exact List.all_eq_true.1 h1 i (List.mem_range.2 hi)
  · unfold unl
    rw [List.filter_eq_self.2 (fun i _ => by rw [getD_replicate_false]; rfl)]
    simp
  · refine ⟨h, hz, hgo, fun i hi => ?_, fun p hp => (by cases hp), fun i hi => ?_, hst.drew, hf.defers, hf.size, by simp, fun j oj _ hl => (by rw [getD_replicate_false] at hl; cases hl), fun i hl => (by rw [getD_replicate_false] at hl; cases hl), fun p hp => (by cases hp), fun p _ => getD_replicate_false _ _, fun _ _ p hp => (by cases hp), fun p hp => (by cases hp), fun p hp => (by cases hp), fun p hp => (by cases hp), fun t _ u hu => hf.at_ t u hu, fun t _ => rfl⟩
    · have := List.all_eq_true.1 hc i (List.mem_range.2 hi)
      exact .inr (by simpa using this)
    · have := List.all_eq_true.1 hsm i hi
      simpa [Nat.blt_eq] using this

theorem dx_region {id : Nat} {l : List Oper} {ord : Plan} (n : Nat) (A : List (List Nat)) (hm : P.follows .mixedOrders = true) (hB : dxB l.toArray A ord n = true) {σ : List (Nat × Value)} {η : List Ent} {ι : List Fact}
    (h : HX P C m l.toArray A (fun σ η ι => WL P C m l.toArray Q (l.drop n) σ η ι) ord σ η ι (St C η ι)) : WC P C m (.region id l.toArray true) Q σ η ι := dx_regionZ n A hm hB (fun _ h => h) h

theorem hx_det {i d : Nat} {o : Oper} {r : Plan} {σ : List (Nat × Value)} {η η₀ : List Ent} {ι ι₀ : List Fact} {v : Value} (ho : ops[i]? = some o) (hd : o.dst = some d) (hg : o.guard = none) (hs : ∀ cs b, o.op ≠ .select cs b) (h : Det P C o σ η₀ ι₀ v) (hn : Nat.blt d m.sz = true)
    (k : HX P C m ops A K r ((d, v) :: σ) η ι (St C η₀ ι₀)) : HX P C m ops A K (.det i r) σ η ι (St C η₀ ι₀) := ⟨o, d, v, ho, hd, hn, .inl (.inl ⟨hg, .of hs h⟩), k⟩
/-- what reads the state as it stands, ahead of all that act -/
theorem hx_now {i d : Nat} {o : Oper} {r : Plan} {σ : List (Nat × Value)} {η η₀ : List Ent} {ι ι₀ : List Fact} {v : Value} (ho : ops[i]? = some o) (hd : o.dst = some d) (hg : o.guard = none) (hs : ∀ cs b, o.op ≠ .select cs b) (ha : (r.acts.all fun y => ancB A y i) = true) (h : Det P C o σ η ι v) (hn : Nat.blt d m.sz = true)
    (k : HX P C m ops A K r ((d, v) :: σ) η ι (St C η₀ ι₀)) : HX P C m ops A K (.det i r) σ η ι (St C η₀ ι₀) := ⟨o, d, v, ho, hd, hn, .inr ⟨ha, .inl ⟨hg, .of hs h⟩⟩, k⟩
theorem hx_on {i d j g : Nat} {b x : Bool} {o : Oper} {r : Plan} {σ : List (Nat × Value)} {η η₀ : List Ent} {ι ι₀ : List Fact} {v : Value} (ho : ops[i]? = some o) (hd : o.dst = some d) (hg : o.guard = some (j, b)) (hj : dstB ops j = some g) (hv : look σ g = some (.bool x)) (hx : x = b) (hs : ∀ cs b, o.op ≠ .select cs b) (h : Det P C o σ η₀ ι₀ v) (hn : Nat.blt d m.sz = true)
    (k : HX P C m ops A K r ((d, v) :: σ) η ι (St C η₀ ι₀)) : HX P C m ops A K (.det i r) σ η ι (St C η₀ ι₀) := ⟨o, d, v, ho, hd, hn, .inl (.inr ⟨j, b, g, hg, hj, .inl ⟨hx ▸ hv, .of hs h⟩⟩), k⟩
theorem hx_off {i d j g : Nat} {b x : Bool} {o : Oper} {r : Plan} {σ : List (Nat × Value)} {η η₀ : List Ent} {ι ι₀ : List Fact} (ho : ops[i]? = some o) (hd : o.dst = some d) (hg : o.guard = some (j, b)) (hj : dstB ops j = some g) (hv : look σ g = some (.bool x)) (hx : x = !b) (hn : Nat.blt d m.sz = true)
    (k : HX P C m ops A K r ((d, undef) :: σ) η ι (St C η₀ ι₀)) : HX P C m ops A K (.det i r) σ η ι (St C η₀ ι₀) := ⟨o, d, undef, ho, hd, hn, .inl (.inr ⟨j, b, g, hg, hj, .inr ⟨_, hv, by subst hx; cases b <;> simp, rfl⟩⟩), k⟩
theorem hx_none {i d j g : Nat} {b : Bool} {o : Oper} {r : Plan} {σ : List (Nat × Value)} {η η₀ : List Ent} {ι ι₀ : List Fact} (ho : ops[i]? = some o) (hd : o.dst = some d) (hg : o.guard = some (j, b)) (hj : dstB ops j = some g) (hv : look σ g = some undef) (hn : Nat.blt d m.sz = true)
    (k : HX P C m ops A K r ((d, undef) :: σ) η ι (St C η₀ ι₀)) : HX P C m ops A K (.det i r) σ η ι (St C η₀ ι₀) := ⟨o, d, undef, ho, hd, hn, .inl (.inr ⟨j, b, g, hg, hj, .inr ⟨_, hv, by simp [undef], rfl⟩⟩), k⟩
theorem ActOk.mono {o : Oper} {σ : List (Nat × Value)} {η : List Ent} {ι : List Fact} {R R' : Value → List Ent → List Fact → Prop} (h : ActOk P C o σ η ι R) (hr : ∀ v θ κ, R v θ κ → R' v θ κ) : ActOk P C o σ η ι R' := by
  intro ρ w hρ hst
  have h1 := h ρ w hρ hst
  generalize (execOp ρ o).run P w = res at h1
  cases res with
  | ok x w' =>
    cases x <;> simp only [resOk] at h1 ⊢
    · obtain ⟨θ, κ, h2, h3⟩ := h1; exact ⟨θ, κ, hr _ _ _ h2, h3⟩
    · obtain ⟨θ, κ, h2, h3⟩ := h1; exact ⟨θ, κ, hr _ _ _ h2, h3⟩
    · exact h1.mono fun e w' ⟨v, he, θ, κ, h2, h3⟩ => ⟨v, he, θ, κ, hr _ _ _ h2, h3⟩
    · exact h1.mono fun e w' ⟨v, he, θ, κ, h2, h3⟩ => ⟨v, he, θ, κ, hr _ _ _ h2, h3⟩
  | halt x w' => exact h1.elim
theorem hx_actG {i d j g : Nat} {b x : Bool} {o : Oper} {r : Plan} {σ : List (Nat × Value)} {η : List Ent} {ι : List Fact} {R : Value → List Ent → List Fact → Prop} (ho : ops[i]? = some o) (hd : o.dst = some d) (hg : o.guard = some (j, b)) (hj : dstB ops j = some g) (hv : look σ g = some (.bool x)) (hx : x = b) (h : ActOk P C o σ η ι R) (hn : Nat.blt d m.sz = true)
    (hm : ∀ v θ κ, R v θ κ → ∃ ηn ιn, θ = ηn ++ η ∧ κ = ιn ++ ι) (k : ∀ v θ κ, R v θ κ → HX P C m ops A K r ((d, v) :: σ) θ κ (St C θ κ)) : HX P C m ops A K (.alt i r .dead) σ η ι (St C η ι) :=
  ⟨⟨o, ho, fun d' hd' => by rw [hd] at hd'; cases hd'; exact hn, .inr ⟨j, b, g, hg, hj, hx ▸ hv⟩, by rw [hd]; exact h.mono fun v θ κ hr => ⟨St C θ κ, fun _ h => h, fun w hs => by obtain ⟨ηn, ιn, rfl, rfl⟩ := hm v θ κ hr; exact hs.less, k v θ κ hr⟩⟩, trivial⟩
theorem hx_act {i d : Nat} {o : Oper} {r : Plan} {σ : List (Nat × Value)} {η : List Ent} {ι : List Fact} {R : Value → List Ent → List Fact → Prop} (ho : ops[i]? = some o) (hd : o.dst = some d) (hg : o.guard = none) (h : ActOk P C o σ η ι R) (hn : Nat.blt d m.sz = true)
    (hm : ∀ v θ κ, R v θ κ → ∃ ηn ιn, θ = ηn ++ η ∧ κ = ιn ++ ι) (k : ∀ v θ κ, R v θ κ → HX P C m ops A K r ((d, v) :: σ) θ κ (St C θ κ)) : HX P C m ops A K (.alt i r .dead) σ η ι (St C η ι) :=
  ⟨⟨o, ho, fun d' hd' => by rw [hd] at hd'; cases hd'; exact hn, .inl hg, by rw [hd]; exact h.mono fun v θ κ hr => ⟨St C θ κ, fun _ h => h, fun w hs => by obtain ⟨ηn, ιn, rfl, rfl⟩ := hm v θ κ hr; exact hs.less, k v θ κ hr⟩⟩, trivial⟩
/-- what acts may also change what is there, if what reads does not lean on it -/
theorem hx_mut {i d : Nat} {o : Oper} {r : Plan} {σ : List (Nat × Value)} {η η₀ : List Ent} {ι ι₀ : List Fact} {R : Value → List Ent → List Fact → Prop} (ho : ops[i]? = some o) (hd : o.dst = some d) (hg : o.guard = none) (h : ActOk P C o σ η ι R) (hn : Nat.blt d m.sz = true)
    (hm : ∀ v θ κ, R v θ κ → ∀ w, St C θ κ w → St C η₀ ι₀ w) (k : ∀ v θ κ, R v θ κ → HX P C m ops A K r ((d, v) :: σ) θ κ (St C η₀ ι₀)) : HX P C m ops A K (.alt i r .dead) σ η ι (St C η₀ ι₀) :=
  ⟨⟨o, ho, fun d' hd' => by rw [hd] at hd'; cases hd'; exact hn, .inl hg, by rw [hd]; exact h.mono fun v θ κ hr => ⟨St C η₀ ι₀, hm v θ κ hr, fun _ h => h, k v θ κ hr⟩⟩, trivial⟩
theorem hx_mutG {i d j g : Nat} {b x : Bool} {o : Oper} {r : Plan} {σ : List (Nat × Value)} {η η₀ : List Ent} {ι ι₀ : List Fact} {R : Value → List Ent → List Fact → Prop} (ho : ops[i]? = some o) (hd : o.dst = some d) (hg : o.guard = some (j, b)) (hj : dstB ops j = some g) (hv : look σ g = some (.bool x)) (hx : x = b) (h : ActOk P C o σ η ι R) (hn : Nat.blt d m.sz = true)
    (hm : ∀ v θ κ, R v θ κ → ∀ w, St C θ κ w → St C η₀ ι₀ w) (k : ∀ v θ κ, R v θ κ → HX P C m ops A K r ((d, v) :: σ) θ κ (St C η₀ ι₀)) : HX P C m ops A K (.alt i r .dead) σ η ι (St C η₀ ι₀) :=
  ⟨⟨o, ho, fun d' hd' => by rw [hd] at hd'; cases hd'; exact hn, .inr ⟨j, b, g, hg, hj, hx ▸ hv⟩, by rw [hd]; exact h.mono fun v θ κ hr => ⟨St C η₀ ι₀, hm v θ κ hr, fun _ h => h, k v θ κ hr⟩⟩, trivial⟩
/-- what acts and leaves no value -/
theorem hx_mut0 {i : Nat} {o : Oper} {r : Plan} {σ : List (Nat × Value)} {η η₀ : List Ent} {ι ι₀ : List Fact} {R : Value → List Ent → List Fact → Prop} (ho : ops[i]? = some o) (hd : o.dst = none) (hg : o.guard = none) (h : ActOk P C o σ η ι R)
    (hm : ∀ v θ κ, R v θ κ → ∀ w, St C θ κ w → St C η₀ ι₀ w) (k : ∀ v θ κ, R v θ κ → HX P C m ops A K r σ θ κ (St C η₀ ι₀)) : HX P C m ops A K (.alt i r .dead) σ η ι (St C η₀ ι₀) :=
  ⟨⟨o, ho, fun d' hd' => (by rw [hd] at hd'; cases hd'), .inl hg, by rw [hd]; exact h.mono fun v θ κ hr => ⟨St C η₀ ι₀, hm v θ κ hr, fun _ h => h, k v θ κ hr⟩⟩, trivial⟩
theorem hx_end {l : List Oper} {n : Nat} {σ : List (Nat × Value)} {η : List Ent} {ι : List Fact} {Z : World → Prop} (h : WL P C m l.toArray Q (l.drop n) σ η ι) : HX P C m l.toArray A (fun σ η ι => WL P C m l.toArray Q (l.drop n) σ η ι) .done σ η ι Z := h
/-- another form of the state -/
theorem hx_st {l : List Oper} {n : Nat} {η θ : List Ent} {ι κ : List Fact} (he : ∀ w, St C η ι w → St C θ κ w) : ∀ {r : Plan} {σ : List (Nat × Value)} {Z : World → Prop}, HX P C m l.toArray A (fun σ η ι => WL P C m l.toArray Q (l.drop n) σ η ι) r σ θ κ Z → HX P C m l.toArray A (fun σ η ι => WL P C m l.toArray Q (l.drop n) σ η ι) r σ η ι Z
  | .done, _, _, h => wl_st he h
  | .det _ _, _, _, ⟨o, d, v, h1, h2, h3, h4, h5⟩ => ⟨o, d, v, h1, h2, h3, h4.imp id (fun h => ⟨h.1, h.2.mono he⟩), hx_st he h5⟩
  | .alt _ _ _, _, _, ⟨⟨o, h1, h2, h3, h4⟩, h5⟩ => ⟨⟨o, h1, h2, h3, fun ρ w hρ hst => h4 ρ w hρ (he w hst)⟩, hx_st he h5⟩
  | .dead, _, _, _ => trivial
theorem hx_or {i : Nat} {r q : Plan} {σ : List (Nat × Value)} {η : List Ent} {ι : List Fact} {Z : World → Prop} (h1 : HX P C m ops A K (.alt i r .dead) σ η ι Z) (h2 : HX P C m ops A K q σ η ι Z) : HX P C m ops A K (.alt i r q) σ η ι Z := ⟨h1.1, h2⟩
end
end Go.Proofs.Ytfekcgnnhjmeiaa
