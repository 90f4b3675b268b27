/- Short forms of the rules, for texts that a program writes. Generic: names no function of the program. -/
import Derived.Test.YtfekcgnnhjmeiaaKRF
namespace Go.Proofs.Ytfekcgnnhjmeiaa
open Go.RowKit

section
variable {P : Program} {C : Cx} {n : FN} {Q : Exit → Act → World → Prop} {σ : List (Nat × Value)} {η : List Ent} {ι : List Fact}
/-- where an operation without a guard puts its value -/
def okD (o : Oper) (sz : Nat) : Option Nat := match o.guard, o.dst with
  | none, some d => bif Nat.blt d sz then some d else none
  | _, _ => none
def ok0 (o : Oper) : Bool := match o.guard, o.dst with
  | none, none => true
  | _, _ => false
theorem okD_spec {o : Oper} {sz d : Nat} (h : okD o sz = some d) : o.dst = some d ∧ o.guard = none ∧ Nat.blt d sz = true := by
  unfold okD at h
  split at h
  · rename_i d' hg hd
    cases hb : Nat.blt d' sz with
    | false => rw [hb] at h; cases h
    | true => rw [hb] at h; cases h; exact ⟨hd, hg, hb⟩
  · cases h
theorem ok0_spec {o : Oper} (h : ok0 o = true) : o.dst = none ∧ o.guard = none := by
  unfold ok0 at h
  split at h
  · rename_i hg hd
    exact ⟨hd, hg⟩
  · cases h
theorem D {ops : Array Oper} {o : Oper} {rest : List Oper} {v : Value} {d : Nat} (hc : okD o n.sz = some d) (h : Det P C o σ η ι v) (k : WL P C n ops Q rest ((d, v) :: σ) η ι) : WL P C n ops Q (o :: rest) σ η ι :=
  have ⟨h1, h2, h3⟩ := okD_spec hc
  wl_det h1 h2 h h3 k
theorem Ac {ops : Array Oper} {o : Oper} {rest : List Oper} {d : Nat} {R : Value → List Ent → List Fact → Prop} (hc : okD o n.sz = some d) (h : ActOk P C o σ η ι R) (k : ∀ v θ κ, R v θ κ → WL P C n ops Q rest ((d, v) :: σ) θ κ) : WL P C n ops Q (o :: rest) σ η ι :=
  have ⟨h1, h2, h3⟩ := okD_spec hc
  wl_act h h1 h2 h3 k
theorem Az {ops : Array Oper} {o : Oper} {rest : List Oper} {R : Value → List Ent → List Fact → Prop} (hc : ok0 o = true) (h : ActOk P C o σ η ι R) (k : ∀ v θ κ, R v θ κ → WL P C n ops Q rest σ θ κ) : WL P C n ops Q (o :: rest) σ η ι :=
  have ⟨h1, h2⟩ := ok0_spec hc
  wl_act0 h h1 h2 k
/-- the guard of an operation: its slot, and which way -/
def gdB (ops : Array Oper) (o : Oper) : Option (Nat × Bool) := match o.guard with
  | some (j, b) => match ops[j]? with
    | some og => match og.dst with
      | some g => some (g, b)
      | none => none
    | none => none
  | none => none
theorem gdB_spec {ops : Array Oper} {o : Oper} {g : Nat} {b : Bool} (h : gdB ops o = some (g, b)) : ∃ j og, o.guard = some (j, b) ∧ ops[j]? = some og ∧ og.dst = some g := by
  unfold gdB at h
  split at h
  · rename_i j b' hg
    split at h
    · rename_i og ho
      split at h
      · rename_i g' hd
        cases h
        exact ⟨j, og, hg, ho, hd⟩
      · cases h
    · cases h
  · cases h
theorem Gn {ops : Array Oper} {o : Oper} {rest : List Oper} {g : Nat} {b x : Bool} (hc : gdB ops o = some (g, b)) (hv : look σ g = some (.bool x)) (hx : x = b) (k : WL P C n ops Q ({ o with guard := none } :: rest) σ η ι) : WL P C n ops Q (o :: rest) σ η ι := by
  obtain ⟨j, og, h1, h2, h3⟩ := gdB_spec hc
  exact wl_on h1 h2 h3 hv hx k
def dzB (o : Oper) (sz : Nat) : Option Nat := match o.dst with
  | some d => bif Nat.blt d sz then some d else none
  | none => none
theorem dzB_spec {o : Oper} {sz d : Nat} (h : dzB o sz = some d) : o.dst = some d ∧ Nat.blt d sz = true := by
  unfold dzB at h
  split at h
  · rename_i d' hd
    cases hb : Nat.blt d' sz with
    | false => rw [hb] at h; cases h
    | true => rw [hb] at h; cases h; exact ⟨hd, hb⟩
  · cases h
theorem Gf {ops : Array Oper} {o : Oper} {rest : List Oper} {d g : Nat} {b x : Bool} (hd : dzB o n.sz = some d) (hc : gdB ops o = some (g, b)) (hv : look σ g = some (.bool x)) (hx : x = !b) (k : WL P C n ops Q rest ((d, undef) :: σ) η ι) : WL P C n ops Q (o :: rest) σ η ι := by
  obtain ⟨j, og, h1, h2, h3⟩ := gdB_spec hc
  obtain ⟨h4, h5⟩ := dzB_spec hd
  exact wl_off h4 h1 h2 h3 hv hx h5 k
/-- slots that stand in the frame -/
theorem Sb {τ : List (Nat × Value)} (h : (τ.map fun p => look σ p.1) = τ.map fun p => some p.2) : Subs τ σ := by
  induction τ with
  | nil => trivial
  | cons p τ ih =>
    simp only [List.map_cons, List.cons.injEq] at h
    exact ⟨h.1, ih h.2⟩
theorem Ex {τ : List (Nat × Value)} (k : Nat) (h1 : ((σ.take k).all fun p => (look τ p.1).isNone) = true) (h2 : σ.drop k = τ) : Ext τ σ := by
  induction k generalizing σ with
  | zero => subst h2; exact ext_refl
  | succ k ih =>
    cases σ with
    | nil => subst h2; exact ext_refl
    | cons p σ =>
      simp only [List.take_succ_cons, List.all_cons, Bool.and_eq_true] at h1
      exact ext_skip (Option.isNone_iff_eq_none.1 h1.1) (ih h1.2 h2)
theorem On1 {l : List Value} (h : (l.all fun u => u.oneCell') = true) : Ones l := by
  induction l with
  | nil => trivial
  | cons u l ih =>
    simp only [List.all_cons, Bool.and_eq_true] at h
    exact ⟨h.1, ih h.2⟩
def noSel (o : Oper) : Bool := match o.op with
  | .select _ _ => false
  | _ => true
theorem noSel_spec {o : Oper} (h : noSel o = true) : ∀ cs b, o.op ≠ .select cs b := fun cs b hc => by
  unfold noSel at h
  rw [hc] at h
  cases h
theorem Hd {ops : Array Oper} {A : List (List Nat)} {K : List (Nat × Value) → List Ent → List Fact → Prop} {i d : Nat} {o : Oper} {r : Plan} {η₀ : List Ent} {ι₀ : List Fact} {v : Value} (ho : ops[i]? = some o) (hc : okD o n.sz = some d) (hs : noSel o = true) (h : Det P C o σ η₀ ι₀ v)
    (k : HX P C n ops A K r ((d, v) :: σ) η ι (St C η₀ ι₀)) : HX P C n ops A K (.det i r) σ η ι (St C η₀ ι₀) :=
  have ⟨h1, h2, h3⟩ := okD_spec hc
  hx_det ho h1 h2 (noSel_spec hs) h h3 k
theorem na {α : Type} (a : List α) : [] ++ a = a := rfl
theorem ca {α : Type} (x : α) (a b : List α) : (x :: a) ++ b = x :: (a ++ b) := rfl
end
abbrev Wq := @wc_seq
abbrev Wr := @wc_region
abbrev Wb := @wc_block
abbrev Wk := @wc_skip
abbrev We := @wc_exit
abbrev Wt := @wc_ret
abbrev Pt := @pn_then
abbrev Pb := @pn_block
abbrev Xt := @px_then
abbrev Xb := @px_block
abbrev Rt := @pr_then
abbrev Rb := @pr_block
abbrev Wn := @wl_nil
abbrev mv := @det_move
abbrev ag := @det_assign
abbrev fd := @det_field
abbrev ld := @det_load
abbrev bs := @bind_some
theorem si {α : Type} {a b : α} (h : some a = some b) : a = b := Option.some.inj h
end Go.Proofs.Ytfekcgnnhjmeiaa
