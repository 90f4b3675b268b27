/- The logic of symbolic states: statements, loops, calls. Generic: names no function of the program. -/
import Derived.Test.YtfekcgnnhjmeiaaKEng
import Derived.Deep.LoopGhost
import Derived.Test.YtfekcgnnhjmeiaaKPure
namespace Go.Proofs.Ytfekcgnnhjmeiaa
open Go.RowKit

/-- from every frame and world of a symbolic state the code comes to Q -/
def WC (P : Program) (C : Cx) (n : FN) (c : Code) (Q : Exit → Act → World → Prop) (σ : List (Nat × Value)) (η : List Ent) (ι : List Fact) : Prop :=
  ∀ a w, Fr n σ a → St C η ι w → c.wpIn (FW n.ro) 0 P Q a w
def WL (P : Program) (C : Cx) (n : FN) (ops : Array Oper) (Q : Exit → Act → World → Prop) (l : List Oper) (σ : List (Nat × Value)) (η : List Ent) (ι : List Fact) : Prop :=
  ∀ a w, Fr n σ a → St C η ι w → wpListIn (FW n.ro) 0 P ops Q l a w
def PN (C : Cx) (n : FN) (Q : Exit → Act → World → Prop) (e : Exit) (σ : List (Nat × Value)) (η : List Ent) (ι : List Fact) : Prop :=
  ∀ a w, Fr n σ a → St C η ι w → Q e a w

section
variable {P : Program} {C : Cx} {n : FN} {Q : Exit → Act → World → Prop} {σ : List (Nat × Value)} {η : List Ent} {ι : List Fact}

/-- an operation that has a value goes in a round as it goes elsewhere -/
theorem semAt_value {ro : Option Nat} {o : Oper} {ρ : Operand → Value} {w w' : World} {v : Value} (h : (execOp ρ o).run P w = .ok (.value v) w') : (o.semAt ro ρ).run P w = .ok (.value v) w' := by
  cases ro with
  | none => exact h
  | some l =>
    by_cases hd : ∀ c, o.op ≠ .defer c
    · rw [Oper.semAt_some l ρ o hd]
      exact h
    · exfalso
      obtain ⟨c, hc⟩ := Classical.not_forall.1 hd
      simp only [ne_eq, Classical.not_not] at hc
      simp only [execOp, hc, Sem.run_bind] at h
      cases hr : (resolve ρ c o.type).run P w <;> simp [hr, Result.andThen] at h
theorem pn_then {y : Code} (h : WC P C n y Q σ η ι) : PN C n (Exit.then (y.wpIn (FW n.ro) 0 P Q) Q) .normal σ η ι := h
theorem px_then {K : Act → World → Prop} {i : Nat} (h : PN C n Q (.exit i) σ η ι) : PN C n (Exit.then K Q) (.exit i) σ η ι := h
theorem pr_then {K : Act → World → Prop} (h : PN C n Q .ret σ η ι) : PN C n (Exit.then K Q) .ret σ η ι := h
theorem pn_block {i : Nat} (h : PN C n Q .normal σ η ι) : PN C n (Exit.inBlock i Q) .normal σ η ι := h
theorem pr_block {i : Nat} (h : PN C n Q .ret σ η ι) : PN C n (Exit.inBlock i Q) .ret σ η ι := h
theorem px_block {i : Nat} (h : PN C n Q .normal σ η ι) : PN C n (Exit.inBlock i Q) (.exit i) σ η ι := fun a w hf hs => by
  simp only [Exit.inBlock, if_true]
  exact h a w hf hs
theorem px_block_ne {i j : Nat} (hne : Nat.beq j i = false) (h : PN C n Q (.exit j) σ η ι) : PN C n (Exit.inBlock i Q) (.exit j) σ η ι := fun a w hf hs => by
  have : j ≠ i := fun e => by subst e; simp at hne
  simp only [Exit.inBlock, if_neg this]
  exact h a w hf hs

theorem wc_seq {x y : Code} (h : WC P C n x (Exit.then (y.wpIn (FW n.ro) 0 P Q) Q) σ η ι) : WC P C n (.seq x y) Q σ η ι := fun a w hf hs => wpIn_seq (h a w hf hs)
theorem wc_skip (h : PN C n Q .normal σ η ι) : WC P C n .skip Q σ η ι := fun a w hf hs => wpIn_skip (h a w hf hs)
theorem wc_exit {i : Nat} (h : PN C n Q (.exit i) σ η ι) : WC P C n (.exit i) Q σ η ι := fun a w hf hs => wpIn_exit (h a w hf hs)
theorem wc_ret (h : PN C n Q .ret σ η ι) : WC P C n .ret Q σ η ι := fun a w hf hs => wpIn_ret (h a w hf hs)
theorem wc_block {i : Nat} {c : Code} (h : WC P C n c (Exit.inBlock i Q) σ η ι) : WC P C n (.block i c) Q σ η ι := fun a w hf hs => wpIn_block (h a w hf hs)
theorem wc_cond {c : Operand} {x y : Code} {b : Bool} (hc : ev σ c = some (.bool b)) (ht : b = true → WC P C n x Q σ η ι) (hf : b = false → WC P C n y Q σ η ι) : WC P C n (.cond c x y) Q σ η ι :=
  fun a w hfr hs => wpIn_cond_split (hfr.eval hc) (fun e => ht e a w hfr hs) (fun e => hf e a w hfr hs)
theorem wc_region {id : Nat} {l : List Oper} (h : WL P C n l.toArray Q l σ η ι) : WC P C n (.region id l.toArray false) Q σ η ι := fun a w hf hs => by
  exact wpIn_region_lit (h a w hf hs)
theorem wl_nil {ops : Array Oper} (h : PN C n Q .normal σ η ι) : WL P C n ops Q [] σ η ι := h

/-- the slots of τ stand in σ -/
def Subs : List (Nat × Value) → List (Nat × Value) → Prop
  | [], _ => True
  | (i, v) :: τ, σ => look σ i = some v ∧ Subs τ σ
theorem Subs.fr {τ : List (Nat × Value)} (h : Subs τ σ) {a : Act} (hf : Fr n σ a) : Fr n τ a := by
  refine hf.sub fun p hp => ?_
  induction τ with
  | nil => cases hp
  | cons q τ ih =>
    obtain ⟨i, v⟩ := q
    rcases List.mem_cons.1 hp with rfl | hp
    · exact h.1
    · exact ih h.2 hp

/-- a cut: fewer slots, entries, facts -/
theorem wc_sub {c : Code} {τ : List (Nat × Value)} {θ : List Ent} {κ : List Fact} (hs : Subs τ σ) (he : ∀ w, St C η ι w → St C θ κ w) (h : WC P C n c Q τ θ κ) : WC P C n c Q σ η ι :=
  fun a w hf hst => h a w (hs.fr hf) (he w hst)
theorem wl_sub {ops : Array Oper} {l : List Oper} {τ : List (Nat × Value)} {θ : List Ent} {κ : List Fact} (hs : Subs τ σ) (he : ∀ w, St C η ι w → St C θ κ w) (h : WL P C n ops Q l τ θ κ) : WL P C n ops Q l σ η ι :=
  fun a w hf hst => h a w (hs.fr hf) (he w hst)
theorem pn_sub {e : Exit} {τ : List (Nat × Value)} {θ : List Ent} {κ : List Fact} (hs : Subs τ σ) (he : ∀ w, St C η ι w → St C θ κ w) (h : PN C n Q e τ θ κ) : PN C n Q e σ η ι :=
  fun a w hf hst => h a w (hs.fr hf) (he w hst)

/-- a state among others -/
def Some (C : Cx) (n : FN) {G : Type} (I : G → Prop) (σ : G → List (Nat × Value)) (η : G → List Ent) (ι : G → List Fact) (a : Act) (w : World) : Prop := ∃ g, I g ∧ Fr n (σ g) a ∧ St C (η g) (ι g) w

/-- a loop: the states of its head, one for each g that I admits; every round lowers μ -/
theorem wc_loop {c : Code} {G : Type} (I : G → Prop) (μ : G → Nat) (τ : G → List (Nat × Value)) (θ : G → List Ent) (κ : G → List Fact) (g : G) (hI : I g) (hs : Subs (τ g) σ) (he : ∀ w, St C η ι w → St C (θ g) (κ g) w)
    (round : ∀ g, I g → WC P C n c (Exit.then (Some C n (fun g' => I g' ∧ μ g' < μ g) τ θ κ) Q) (τ g) (θ g) (κ g)) : WC P C n (.loop c) Q σ η ι := by
  intro a w hf hst
  refine wpIn_loop_ghost (fun m a w => ∃ g, I g ∧ μ g = m ∧ Fr n (τ g) a ∧ St C (θ g) (κ g) w) (μ g) ⟨g, hI, rfl, hs.fr hf, he w hst⟩ ?_
  rintro m a w ⟨g', hI', rfl, hf', hst'⟩
  refine Code.wpIn_mono ?_ (round g' hI' a w hf' hst')
  intro e a w hq
  cases e <;> try exact hq
  obtain ⟨g2, ⟨h1, h2⟩, h3, h4⟩ := hq
  exact ⟨μ g2, h2, g2, h1, rfl, h3, h4⟩
theorem pn_some {G : Type} {I : G → Prop} {τ : G → List (Nat × Value)} {θ : G → List Ent} {κ : G → List Fact} (g : G) (hI : I g) (hs : Subs (τ g) σ) (he : ∀ w, St C η ι w → St C (θ g) (κ g) w) :
    PN C n (Exit.then (Some C n I τ θ κ) Q) .normal σ η ι := fun _ w hf hst => ⟨g, hI, hs.fr hf, he w hst⟩

/-! ### one operation -/
/-- an operation that only reckons and reads: its value -/
def Det (P : Program) (C : Cx) (o : Oper) (σ : List (Nat × Value)) (η : List Ent) (ι : List Fact) (v : Value) : Prop :=
  ∀ (ρ : Operand → Value) (w : World), (∀ x u, ev σ x = some u → ρ x = u) → St C η ι w → (execOp ρ o).run P w = .ok (.value v) w
theorem wl_det {ops : Array Oper} {o : Oper} {rest : List Oper} {v : Value} {d : Nat} (hd : o.dst = some d) (hg : o.guard = none) (h : Det P C o σ η ι v) (hn : Nat.blt d n.sz = true)
    (k : WL P C n ops Q rest ((d, v) :: σ) η ι) : WL P C n ops Q (o :: rest) σ η ι := by
  intro a w hf hst
  refine wpListIn_plain hg fun K hK => ⟨fun _ _ => trivial, ?_⟩
  rw [semAt_value (h a.eval w (fun x u hx => hf.eval hx) hst), Oper.uponIn_value, hd]
  exact hK _ _ (k _ _ (hf.put (by simpa [Nat.blt_eq] using hn) v) hst)
theorem tmp_bool {a : Act} {g : Nat} {b : Bool} (h : a.tmps.getD g undef = .bool b) : a.tmps[g]? = some (.bool b) := by
  cases hg : a.tmps[g]? with
  | none => simp [hg, undef] at h
  | some v => simp [hg] at h; rw [h]
/-- an operation that is not wanted -/
theorem wl_off {ops : Array Oper} {o : Oper} {rest : List Oper} {d j g : Nat} {b x : Bool} {og : Oper} (hd : o.dst = some d) (hg : o.guard = some (j, b)) (ho : ops[j]? = some og) (hgd : og.dst = some g) (hv : look σ g = some (.bool x)) (hx : x = !b) (hn : Nat.blt d n.sz = true)
    (k : WL P C n ops Q rest ((d, undef) :: σ) η ι) : WL P C n ops Q (o :: rest) σ η ι := by
  intro a w hf hst
  subst hx
  have hy : yielded ops a.tmps j = some (!b) := by
    have := tmp_bool (hf.at_ g _ hv)
    simp [yielded, ho, hgd, this]
  unfold wpListIn
  have hw : Region.wanted o (yielded ops a.tmps) = false := by simp only [Region.wanted, hg, hy]; cases b <;> rfl
  rw [hw]
  simp only [Bool.false_eq_true, if_false, hd]
  exact ⟨fun _ _ => trivial, k _ _ (hf.put (by simpa [Nat.blt_eq] using hn) undef) hst⟩
/-- a guarded operation that is wanted goes as an unguarded one -/
theorem wl_on {ops : Array Oper} {o : Oper} {rest : List Oper} {j g : Nat} {b x : Bool} {og : Oper} (hg : o.guard = some (j, b)) (ho : ops[j]? = some og) (hgd : og.dst = some g) (hv : look σ g = some (.bool x)) (hx : x = b)
    (k : WL P C n ops Q ({ o with guard := none } :: rest) σ η ι) : WL P C n ops Q (o :: rest) σ η ι := by
  intro a w hf hst
  subst hx
  have hy : yielded ops a.tmps j = some x := by
    have := tmp_bool (hf.at_ g _ hv)
    simp [yielded, ho, hgd, this]
  have hw : Region.wanted o (yielded ops a.tmps) = true := by simp [Region.wanted, hg, hy]
  have h := k a w hf hst
  unfold wpListIn at h ⊢
  rw [hw]
  exact h

/-! ### cuts inside a list of operations -/
def QN (C : Cx) (n : FN) (τ : List (Nat × Value)) (θ : List Ent) (κ : List Fact) : Exit → Act → World → Prop := fun e a w => e = .normal ∧ Fr n τ a ∧ St C θ κ w
theorem pn_qn {τ : List (Nat × Value)} {θ : List Ent} {κ : List Fact} (hs : Subs τ σ) (he : ∀ w, St C η ι w → St C θ κ w) : PN C n (QN C n τ θ κ) .normal σ η ι := fun _ w hf hst => ⟨rfl, hs.fr hf, he w hst⟩
theorem wpList_cut {ro : Option Nat} {ops : Array Oper} {K : Act → World → Prop} {l2 : List Oper} (hk : ∀ a w, K a w → wpListIn (FW ro) 0 P ops Q l2 a w) : ∀ (l1 : List Oper) (a : Act) (w : World), wpListIn (FW ro) 0 P ops (fun e a w => e = .normal ∧ K a w) l1 a w → wpListIn (FW ro) 0 P ops Q (l1 ++ l2) a w
  | [], a, w, h => hk a w h.2
  | o :: l1, a, w, h => by
    simp only [List.cons_append]
    unfold wpListIn at h ⊢
    split
    · rename_i hw
      rw [if_pos hw] at h
      unfold Oper.wpIn at h ⊢
      refine ⟨h.1, ?_⟩
      have h := h.2
      generalize (o.semAt (FW ro).round a.eval).run P w = r at h
      cases r with
      | ok x w' =>
        cases x <;> simp only [Oper.uponIn] at h ⊢ <;> first
          | exact wpList_cut hk l1 _ _ h
          | exact ⟨h.1, CallsIn.mono h.2 (fun e w'' he => by
              cases e with
              | returned v => exact wpList_cut hk l1 _ _ he
              | panicked c => exact absurd he.1 (by simp)
              | outgrown => obtain ⟨a0, w0, h0, _⟩ := he; cases h0)⟩
          | exact ⟨h.1, RowsIn.mono h.2 (fun _ _ he => wpList_cut hk l1 _ _ he)⟩
          | exact ⟨h.1, RoundIn.mono h.2 (fun e w'' he => by
              cases e with
              | returned v => exact wpList_cut hk l1 _ _ he
              | panicked c => exact absurd he.1 (by simp)
              | outgrown => obtain ⟨a0, w0, h0, _⟩ := he; cases h0)⟩
          | exact h
      | halt x w' => cases x <;> simp only [Oper.uponIn] at h ⊢ <;> first | exact h.elim | exact absurd h.1 (by simp)
    · rename_i hw
      rw [if_neg hw] at h
      exact ⟨h.1, wpList_cut hk l1 _ _ h.2⟩
theorem wl_cut {ops : Array Oper} {l : List Oper} {τ : List (Nat × Value)} {θ : List Ent} {κ : List Fact} (k : Nat) (h1 : WL P C n ops (QN C n τ θ κ) (l.take k) σ η ι) (h2 : WL P C n ops Q (l.drop k) τ θ κ) : WL P C n ops Q l σ η ι := by
  intro a w hf hst
  rw [← List.take_append_drop k l]
  exact wpList_cut (K := fun a w => Fr n τ a ∧ St C θ κ w) (fun a w h => h2 a w h.1 h.2) _ a w (h1 a w hf hst)
/-- x && y, x || y: the operations behind the guard, k of them with the pick; the ways meet again -/
theorem wl_guard {ops : Array Oper} {l : List Oper} {x : Bool} {τ : List (Nat × Value)} {θ : List Ent} {κ : List Fact} (k : Nat) (on : x = true → WL P C n ops (QN C n τ θ κ) (l.take k) σ η ι) (off : x = false → WL P C n ops (QN C n τ θ κ) (l.take k) σ η ι)
    (rest : WL P C n ops Q (l.drop k) τ θ κ) : WL P C n ops Q l σ η ι := by
  refine wl_cut k ?_ rest
  cases hx : x
  · exact off hx
  · exact on hx
theorem wl_and {ops : Array Oper} {l : List Oper} {x y : Bool} {gs : Nat} (k dp : Nat) (hv : look σ gs = some (.bool x)) (on : x = true → WL P C n ops (QN C n ((dp, .bool (x && y)) :: σ) η ι) (l.take k) σ η ι) (off : x = false → WL P C n ops (QN C n ((dp, .bool (x && y)) :: σ) η ι) (l.take k) σ η ι)
    (rest : WL P C n ops Q (l.drop k) ((dp, .bool (x && y)) :: σ) η ι) : WL P C n ops Q l σ η ι := have _ := hv; wl_guard k on off rest
theorem wl_or {ops : Array Oper} {l : List Oper} {x y : Bool} {gs : Nat} (k dp : Nat) (hv : look σ gs = some (.bool x)) (off : x = false → WL P C n ops (QN C n ((dp, .bool (x || y)) :: σ) η ι) (l.take k) σ η ι) (on : x = true → WL P C n ops (QN C n ((dp, .bool (x || y)) :: σ) η ι) (l.take k) σ η ι)
    (rest : WL P C n ops Q (l.drop k) ((dp, .bool (x || y)) :: σ) η ι) : WL P C n ops Q l σ η ι := have _ := hv; wl_guard k on off rest
/-- the ways through x meet again in one state -/
def Meet (C : Cx) (n : FN) (τ : List (Nat × Value)) (θ : List Ent) (κ : List Fact) (a : Act) (w : World) : Prop := Fr n τ a ∧ St C θ κ w
theorem wc_meet {x y : Code} {τ : List (Nat × Value)} {θ : List Ent} {κ : List Fact} (h1 : WC P C n x (Exit.then (Meet C n τ θ κ) Q) σ η ι) (h2 : WC P C n y Q τ θ κ) : WC P C n (.seq x y) Q σ η ι := by
  intro a w hf hst
  refine wpIn_seq (Code.wpIn_mono ?_ (h1 a w hf hst))
  intro e a w hq
  cases e <;> try exact hq
  exact h2 a w hq.1 hq.2
theorem pn_meet {τ : List (Nat × Value)} {θ : List Ent} {κ : List Fact} (hs : Subs τ σ) (he : ∀ w, St C η ι w → St C θ κ w) : PN C n (Exit.then (Meet C n τ θ κ) Q) .normal σ η ι := fun _ w hf hst => ⟨hs.fr hf, he w hst⟩
/-- the ways through x meet again in one of the states that G tells apart -/
def MeetG (C : Cx) (n : FN) {G : Type} (I : G → Prop) (τ : G → List (Nat × Value)) (θ : G → List Ent) (κ : G → List Fact) (a : Act) (w : World) : Prop := ∃ g, I g ∧ Fr n (τ g) a ∧ St C (θ g) (κ g) w
theorem wc_meetG {x y : Code} {G : Type} (I : G → Prop) (τ : G → List (Nat × Value)) (θ : G → List Ent) (κ : G → List Fact) (h1 : WC P C n x (Exit.then (MeetG C n I τ θ κ) Q) σ η ι) (h2 : ∀ g, I g → WC P C n y Q (τ g) (θ g) (κ g)) : WC P C n (.seq x y) Q σ η ι := by
  intro a w hf hst
  refine wpIn_seq (Code.wpIn_mono ?_ (h1 a w hf hst))
  intro e a w hq
  cases e <;> try exact hq
  obtain ⟨g, hg, h3, h4⟩ := hq
  exact h2 g hg a w h3 h4
/-- .. behind the whole code -/
theorem wc_meetN {x : Code} {G : Type} (I : G → Prop) (τ : G → List (Nat × Value)) (θ : G → List Ent) (κ : G → List Fact) (h1 : WC P C n x (Exit.then (MeetG C n I τ θ κ) Q) σ η ι) (h2 : ∀ g, I g → PN C n Q .normal (τ g) (θ g) (κ g)) : WC P C n x Q σ η ι := by
  intro a w hf hst
  refine Code.wpIn_mono ?_ (h1 a w hf hst)
  intro e a w hq
  cases e <;> try exact hq
  obtain ⟨g, hg, h3, h4⟩ := hq
  exact h2 g hg a w h3 h4
theorem pn_meetG {G : Type} {I : G → Prop} {τ : G → List (Nat × Value)} {θ : G → List Ent} {κ : G → List Fact} (g : G) (hI : I g) (hs : Subs (τ g) σ) (he : ∀ w, St C η ι w → St C (θ g) (κ g) w) : PN C n (Exit.then (MeetG C n I τ θ κ) Q) .normal σ η ι := fun _ w hf hst => ⟨g, hI, hs.fr hf, he w hst⟩
/-- what τ knows, σ knows -/
def Ext (τ σ : List (Nat × Value)) : Prop := ∀ i v, look τ i = some v → look σ i = some v
theorem ext_refl : Ext σ σ := fun _ _ h => h
theorem ext_skip {τ : List (Nat × Value)} {d : Nat} {v : Value} (hd : look τ d = none) (h : Ext τ σ) : Ext τ ((d, v) :: σ) := fun i u hu => by
  have h2 := h i u hu
  simp only [look]
  cases hb : Nat.beq d i with
  | true =>
    have := Nat.eq_of_beq_eq_true hb
    subst this
    rw [hd] at hu
    cases hu
  | false => exact h2
theorem ext_cons {τ : List (Nat × Value)} {d : Nat} {v : Value} (hd : look σ d = some v) (h : Ext τ σ) : Ext ((d, v) :: τ) σ := fun i u hu => by
  simp only [look] at hu
  cases hb : Nat.beq d i with
  | true =>
    have := Nat.eq_of_beq_eq_true hb
    subst this
    rw [hb] at hu
    simp only [cond_true, Option.some.injEq] at hu
    subst hu
    exact hd
  | false =>
    rw [hb] at hu
    exact h i u hu
theorem Ext.fr {τ : List (Nat × Value)} (h : Ext τ σ) {a : Act} (hf : Fr n σ a) : Fr n τ a := ⟨hf.defers, hf.size, fun i v hv => hf.at_ i v (h i v hv)⟩
theorem pn_qnE {τ : List (Nat × Value)} {θ : List Ent} {κ : List Fact} (hs : Ext τ σ) (he : ∀ w, St C η ι w → St C θ κ w) : PN C n (QN C n τ θ κ) .normal σ η ι := fun _ w hf hst => ⟨rfl, hs.fr hf, he w hst⟩
/-- a part of a list of operations that may go two ways -/
theorem wl_way {ops : Array Oper} {l : List Oper} (x r : Bool) (k dp : Nat) (on : x = true → WL P C n ops (QN C n ((dp, .bool r) :: σ) η ι) (l.take k) σ η ι) (off : x = false → WL P C n ops (QN C n ((dp, .bool r) :: σ) η ι) (l.take k) σ η ι)
    (rest : WL P C n ops Q (l.drop k) ((dp, .bool r) :: σ) η ι) : WL P C n ops Q l σ η ι := wl_guard k on off rest
/-- an operation behind a guard that has no value -/
theorem wl_none {ops : Array Oper} {o : Oper} {rest : List Oper} {d j g : Nat} {b : Bool} {og : Oper} (hd : o.dst = some d) (hg : o.guard = some (j, b)) (ho : ops[j]? = some og) (hgd : og.dst = some g) (hv : look σ g = some undef) (hn : Nat.blt d n.sz = true)
    (k : WL P C n ops Q rest ((d, undef) :: σ) η ι) : WL P C n ops Q (o :: rest) σ η ι := by
  intro a w hf hst
  have hy : yielded ops a.tmps j ≠ some b := by
    have h1 := hf.at_ g _ hv
    have h2 : a.tmps[g]?.getD undef = undef := by simpa using h1
    cases hc : a.tmps[g]? with
    | none => simp [yielded, ho, hgd, hc]
    | some v =>
      rw [hc] at h2
      simp only [Option.getD_some] at h2
      subst h2
      simp [yielded, ho, hgd, hc, undef]
  unfold wpListIn
  have hw : Region.wanted o (yielded ops a.tmps) = false := by
    simp only [Region.wanted, hg]
    exact beq_eq_false_iff_ne.2 hy
  rw [hw]
  simp only [Bool.false_eq_true, if_false, hd]
  exact ⟨fun _ _ => trivial, k _ _ (hf.put (by simpa [Nat.blt_eq] using hn) undef) hst⟩
theorem pn_know {e : Exit} {p : Prop} (hp : ∀ w, St C η ι w → p) (h : p → PN C n Q e σ η ι) : PN C n Q e σ η ι := fun a w hf hst => h (hp w hst) a w hf hst
theorem elimL {A B R : Type} {f : A → Option R} {g : B → Option R} {a : A} {r : R} (h : Sum.elim f g (.inl a) = some r) : f a = some r := h
theorem elimR {A B R : Type} {f : A → Option R} {g : B → Option R} {b : B} {r : R} (h : Sum.elim f g (.inr b) = some r) : g b = some r := h
/-- what is left of a loop behind a round -/
def NextOk {S O : Type} (step : S → Option (S ⊕ O)) (k : Nat) (q : S ⊕ O) (o : O) : Prop := match q with | .inl s' => IterN step k s' o | .inr o' => o' = o
theorem IterN.pos {S O : Type} {step : S → Option (S ⊕ O)} {k : Nat} {s : S} {o : O} (h : IterN step k s o) : ∃ k', k = k' + 1 ∧ ∃ q, step s = some q ∧ NextOk step k' q o := by
  cases k with
  | zero => exact h.elim
  | succ k =>
    obtain ⟨q, h1, h2⟩ := h
    exact ⟨k, rfl, q, h1, h2⟩
theorem nextL {S O : Type} {step : S → Option (S ⊕ O)} {k : Nat} {s' : S} {o : O} (h : NextOk step k (.inl s') o) : IterN step k s' o := h
theorem nextR {S O : Type} {step : S → Option (S ⊕ O)} {k : Nat} {o o' : O} (h : NextOk step k (.inr o') o) : o' = o := h
theorem s0 {e : Ent} {η : List Ent} : SwF (e :: η) e (fun e' => e' :: η) := SwF.head
theorem ss {e h : Ent} {η : List Ent} {F : Ent → List Ent} (k : SwF η e F) : SwF (h :: η) e (fun e' => h :: F e') := k.tail
theorem wc_st {c : Code} {θ : List Ent} {κ : List Fact} (he : ∀ w, St C η ι w → St C θ κ w) (h : WC P C n c Q σ θ κ) : WC P C n c Q σ η ι := fun a w hf hst => h a w hf (he w hst)
theorem wl_st {ops : Array Oper} {l : List Oper} {θ : List Ent} {κ : List Fact} (he : ∀ w, St C η ι w → St C θ κ w) (h : WL P C n ops Q l σ θ κ) : WL P C n ops Q l σ η ι := fun a w hf hst => h a w hf (he w hst)
theorem pn_st {e : Exit} {θ : List Ent} {κ : List Fact} (he : ∀ w, St C η ι w → St C θ κ w) (h : PN C n Q e σ θ κ) : PN C n Q e σ η ι := fun a w hf hst => h a w hf (he w hst)
theorem wc_know {c : Code} {p : Prop} (hp : ∀ w, St C η ι w → p) (h : p → WC P C n c Q σ η ι) : WC P C n c Q σ η ι := fun a w hf hst => h (hp w hst) a w hf hst
theorem wl_know {ops : Array Oper} {l : List Oper} {p : Prop} (hp : ∀ w, St C η ι w → p) (h : p → WL P C n ops Q l σ η ι) : WL P C n ops Q l σ η ι := fun a w hf hst => h (hp w hst) a w hf hst
/-- a state among others: what is chosen depends on the world -/
theorem wc_ex {c : Code} {G : Type} (θ : G → List Ent) (κ : G → List Fact) (I : G → Prop) (he : ∀ w, St C η ι w → ∃ g, I g ∧ St C (θ g) (κ g) w) (h : ∀ g, I g → WC P C n c Q σ (θ g) (κ g)) : WC P C n c Q σ η ι := fun a w hf hst => by
  obtain ⟨g, hg, hs⟩ := he w hst
  exact h g hg a w hf hs
theorem wl_ex {ops : Array Oper} {l : List Oper} {G : Type} (θ : G → List Ent) (κ : G → List Fact) (I : G → Prop) (he : ∀ w, St C η ι w → ∃ g, I g ∧ St C (θ g) (κ g) w) (h : ∀ g, I g → WL P C n ops Q l σ (θ g) (κ g)) : WL P C n ops Q l σ η ι := fun a w hf hst => by
  obtain ⟨g, hg, hs⟩ := he w hst
  exact h g hg a w hf hs

/-- η without e -/
def Rem (η : List Ent) (e : Ent) (θ : List Ent) : Prop := ∃ θ₁ θ₂, η = θ₁ ++ e :: θ₂ ∧ θ = θ₁ ++ θ₂
theorem Rem.head {e : Ent} {η : List Ent} : Rem (e :: η) e η := ⟨[], η, rfl, rfl⟩
theorem Rem.tail {e h : Ent} {η θ : List Ent} (k : Rem η e θ) : Rem (h :: η) e (h :: θ) := by
  obtain ⟨a, b, rfl, rfl⟩ := k
  exact ⟨h :: a, b, rfl, rfl⟩
theorem Rem.sub {η θ : List Ent} {e : Ent} (h : Rem η e θ) : θ.Sublist η := by
  obtain ⟨a, b, rfl, rfl⟩ := h
  simp
theorem Rem.mem {η θ : List Ent} {e : Ent} (h : Rem η e θ) : e ∈ η := by
  obtain ⟨a, b, rfl, _⟩ := h
  simp
theorem Rem.perm {η θ : List Ent} {e : Ent} (h : Rem η e θ) : η.Perm (e :: θ) := by
  obtain ⟨a, b, rfl, rfl⟩ := h
  exact List.perm_middle
theorem r0 {e : Ent} {η : List Ent} : Rem (e :: η) e η := Rem.head
theorem rs {e h : Ent} {η θ : List Ent} (k : Rem η e θ) : Rem (h :: η) e (h :: θ) := k.tail
theorem m0 {α : Type} {e : α} {l : List α} : e ∈ e :: l := List.mem_cons_self
theorem ms {α : Type} {e h : α} {l : List α} (k : e ∈ l) : e ∈ h :: l := List.mem_cons_of_mem _ k
theorem Im.perm {θ : List Ent} {w : World} (hp : η.Perm θ) {b : Nat} (h : Im C η w b) : Im C θ w b := ⟨h.1, h.2.1, fun x hx => h.2.2 x (hp.mem_iff.2 hx)⟩
theorem St.perm {θ : List Ent} {w : World} (h : St C η ι w) (hp : η.Perm θ) : St C θ ι w :=
  ⟨h.os, h.tape, h.output, h.size, h.old, fun x hx => x.sub (h.ents x (hp.mem_iff.2 hx)) fun _ hb => hb.perm hp, fun x hx => h.place x (hp.mem_iff.2 hx),
    h.apart.perm hp fun {_ _} hxy b hy hx => hxy b hx hy,
    fun f hf => f.sub (h.facts f hf) fun _ hb => hb.perm hp⟩
/-- θ: some entries of η, in any order -/
def Sel : List Ent → List Ent → Prop
  | [], _ => True
  | e :: θ, η => ∃ η', Rem η e η' ∧ Sel θ η'
theorem Sel.perm : ∀ {θ η : List Ent}, Sel θ η → ∃ r, η.Perm (θ ++ r)
  | [], η, _ => ⟨η, List.Perm.refl _⟩
  | e :: θ, η, ⟨η', h1, h2⟩ => by
    obtain ⟨r, hr⟩ := Sel.perm h2
    exact ⟨r, h1.perm.trans (List.Perm.cons e hr)⟩
def AllIn : List Fact → List Fact → Prop
  | [], _ => True
  | f :: l, ι => f ∈ ι ∧ AllIn l ι
theorem AllIn.all : ∀ {l ι : List Fact}, AllIn l ι → ∀ f ∈ l, f ∈ ι
  | [], _, _, _, h => by cases h
  | x :: l, ι, h, f, hf => by
    rcases List.mem_cons.1 hf with rfl | hf
    · exact h.1
    · exact AllIn.all h.2 f hf
theorem St.to {θ : List Ent} {κ : List Fact} {w : World} (h : St C η ι w) (hs : Sel θ η) (hk : AllIn κ ι) : St C θ κ w := by
  obtain ⟨r, hr⟩ := hs.perm
  exact ((h.perm hr).subEnts (List.sublist_append_left θ r)).subFacts hk.all
theorem St.drop {κ : List Fact} {w : World} (h : St C η ι w) (hk : AllIn κ ι) : St C η κ w := h.subFacts hk.all
end
end Go.Proofs.Ytfekcgnnhjmeiaa
