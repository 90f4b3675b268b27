/- Ranges over functions: a bundle of entries, the loop's record, a round, a call of yield, the statement. Generic: names no function of the program. -/
import Derived.Test.YtfekcgnnhjmeiaaKMap
namespace Go.Proofs.Ytfekcgnnhjmeiaa
open Go.RowKit

/-- several entries with their facts, as one -/
def eBun (θ : List Ent) (κ : List Fact) : Ent where
  own := Blocks θ
  ok := fun w S => (∀ h ∈ θ, h.ok w S) ∧ (θ.Pairwise fun h k => ∀ b, h.own b → ¬ k.own b) ∧ ∀ f ∈ κ, f.R w S
  lt := fun ⟨h1, _, _⟩ ⟨h, hh, hb⟩ => h.lt (h1 h hh) hb
  keep := fun ⟨h1, h2, h3⟩ hs hS => ⟨fun h hh => h.keep (h1 h hh) (fun b hb => hs b ⟨h, hh, hb⟩) hS, h2, fun f hf => f.keep (h3 f hf) hS⟩
  sub := fun ⟨h1, h2, h3⟩ k => ⟨fun h hh => h.sub (h1 h hh) k, h2, fun f hf => f.sub (h3 f hf) k⟩
/-- the record of a loop -/
def eLoop (l : Nat) (r : Loop) : Ent where
  own := fun x => some l = some x
  ok := fun w _ => w.heap[l]? = some (.loop r)
  lt := fun hk hb => by
    simp only [Option.some.injEq] at hb
    subst hb
    exact (Array.getElem?_eq_some_iff.1 hk).1
  keep := fun hk hs _ => (hs l rfl).trans hk
  sub := fun hk _ => hk
/-- the block for what the rounds defer: nothing -/
def eDef (r : Nat) : Ent where
  own := fun x => some r = some x
  ok := fun w _ => w.heap[r]? = some (.deferred (some []))
  lt := fun hk hb => by
    simp only [Option.some.injEq] at hb
    subst hb
    exact (Array.getElem?_eq_some_iff.1 hk).1
  keep := fun hk hs _ => (hs r rfl).trans hk
  sub := fun hk _ => hk

section
variable {P : Program} {C : Cx} {n : FN} {Q : Exit → Act → World → Prop} {σ : List (Nat × Value)} {η θ : List Ent} {ι κ : List Fact} {w : World}
variable {d : Option Tmp} {ty : TypeId} {pos : String} {af : Array Edge} {gd : Option (Nat × Bool)}

theorem im_bun {b : Nat} : Im C (θ ++ η) w b ↔ Im C (eBun θ κ :: η) w b := by
  constructor
  · intro h
    refine ⟨h.1, h.2.1, fun x hx hb => ?_⟩
    rcases List.mem_cons.1 hx with rfl | hx
    · obtain ⟨y, hy, hyb⟩ := hb
      exact h.2.2 y (List.mem_append_left _ hy) hyb
    · exact h.2.2 x (List.mem_append_right _ hx) hb
  · intro h
    refine ⟨h.1, h.2.1, fun x hx hb => ?_⟩
    rcases List.mem_append.1 hx with hx | hx
    · exact h.2.2 (eBun θ κ) List.mem_cons_self ⟨x, hx, hb⟩
    · exact h.2.2 x (List.mem_cons_of_mem _ hx) hb
theorem St.bundle (h : St C (θ ++ η) ι w) (hk : ∀ f ∈ κ, f ∈ ι) : St C (eBun θ κ :: η) ι w := by
  have hap := List.pairwise_append.1 h.apart
  refine ⟨h.os, h.tape, h.output, h.size, h.old, fun x hx => ?_, fun x hx b hb => ?_, List.pairwise_cons.2 ⟨fun x hx b ⟨y, hy, hyb⟩ hb => hap.2.2 y hy x hx b hyb hb, hap.2.1⟩, fun f hf => f.sub (h.facts f hf) fun _ => im_bun.1⟩
  · rcases List.mem_cons.1 hx with rfl | hx
    · exact ⟨fun y hy => y.sub (h.ents y (List.mem_append_left _ hy)) fun _ => im_bun.1, hap.1, fun f hf => f.sub (h.facts f (hk f hf)) fun _ => im_bun.1⟩
    · exact x.sub (h.ents x (List.mem_append_right _ hx)) fun _ => im_bun.1
  · rcases List.mem_cons.1 hx with rfl | hx
    · obtain ⟨y, hy, hyb⟩ := hb
      exact h.place y (List.mem_append_left _ hy) b hyb
    · exact h.place x (List.mem_append_right _ hx) b hb
theorem St.unbundle (h : St C (eBun θ κ :: η) ι w) : St C (θ ++ η) (κ ++ ι) w := by
  have hap := List.pairwise_cons.1 h.apart
  have hb := h.ents _ List.mem_cons_self
  refine ⟨h.os, h.tape, h.output, h.size, h.old, fun x hx => ?_, fun x hx b hxb => ?_, List.pairwise_append.2 ⟨hb.2.1, hap.2, fun x hx y hy b hxb hyb => hap.1 y hy b ⟨x, hx, hxb⟩ hyb⟩, fun f hf => ?_⟩
  · rcases List.mem_append.1 hx with hx | hx
    · exact x.sub (hb.1 x hx) fun _ => im_bun.2
    · exact x.sub (h.ents x (List.mem_cons_of_mem _ hx)) fun _ => im_bun.2
  · rcases List.mem_append.1 hx with hx | hx
    · exact h.place _ List.mem_cons_self b ⟨x, hx, hxb⟩
    · exact h.place x (List.mem_cons_of_mem _ hx) b hxb
  · rcases List.mem_append.1 hf with hf | hf
    · exact f.sub (hb.2.2 f hf) fun _ => im_bun.2
    · exact f.sub (h.facts f hf) fun _ => im_bun.2
/-- x[:k:k] of a slice of one's own -/
theorem St.tightS {α : Type} {L : Lay α} {e : TypeId} {A : Option Addr} {m c : Nat} {xs : List α} {θ : List Ent} {w : World} (h : St C η ι w) (hr : Rem η (eS L e A m c xs) θ) (k : Nat) (hk : k ≤ xs.length) : St C (eS L e A k k (xs.take k) :: θ) ι w := by
  have hp := h.perm hr.perm
  by_cases hk0 : k = 0
  · subst hk0
    refine hp.turn (θ₁ := []) (e' := eS L e A 0 0 (xs.take 0)) rfl rfl ⟨rfl, Nat.le_refl _⟩ (Nat.le_refl _) (fun _ _ _ => rfl) ⟨by simp, .inl ⟨rfl, by simp⟩⟩ (fun b hb => ?_)
    simp [eS] at hb
  obtain ⟨hn, ⟨h0, h1⟩ | ⟨hc0, cs, hk', hc⟩⟩ := hp.ents _ m0
  · subst h1
    simp at hk
    exact absurd hk hk0
  rcases hk'.2 with ⟨hv, h0⟩ | ⟨g, cap, cur, hv, hb, hg, hnc, hcm, hcs, htk⟩
  · simp only [Value.slice.injEq] at hv
    exact absurd hv.2.2 hc0
  simp only [Value.slice.injEq, true_and] at hv
  obtain ⟨rfl, rfl⟩ := hv
  refine hp.turn (θ₁ := []) (e' := eS L e (some ⟨g, 0, none⟩) k k (xs.take k)) rfl rfl ⟨rfl, Nat.le_refl _⟩ (Nat.le_refl _) (fun _ _ _ => rfl) ?_ (fun b hb => .inl ?_)
  · refine ⟨by rw [List.length_take]; omega, .inr ⟨hk0, cs.take (k * L.size), ⟨?_, .inr ⟨g, k, cur, rfl, hb, hg, Nat.le_refl _, by omega, Nat.le_trans (Nat.mul_le_mul_right _ (by omega)) hcs, ?_⟩⟩, hc.take k hk⟩⟩
    · rw [List.length_take, hc.1, Nat.min_eq_left (Nat.mul_le_mul_right _ hk)]
    · rw [← htk, List.take_take, Nat.min_eq_left (Nat.mul_le_mul_right _ (by omega))]
  · simp only [eS, if_neg hk0, if_neg hc0] at hb ⊢
    simpa [Value.ownBlock] using hb
/-- append(x[:k:k], x[l:]...) of a slice of one's own -/
theorem act_cut {α : Type} {L : Lay α} {x y : Operand} {t e : TypeId} {z : Value} {A : Option Addr} {bytes m c k l : Nat} {xs : List α} {θ : List Ent} (hx : ev σ x = some (.slice A k k)) (hy : ev σ y = some (.slice (slA A c l L.size) (m - l) (c - l))) (hr : Rem η (eS L e A m c xs) θ) (hk : k ≤ xs.length)
    (ht : P.underlying t = some (.slice e)) (hi : (P.info? e).map (fun i => (i.zero, i.size, i.bytes)) = some (some z, L.size, bytes)) (hz : z.cells.size = L.size) (hsz : Nat.blt 0 L.size = true) (hby : Nat.ble bytes 100000 = true) (hroom : room (xs.take k ++ xs.drop l).length = true) :
    ActOk P C ⟨d, .call { callee := .builtin .append, args := #[x, y], argTypes := #[t, t] }, ty, pos, af, gd⟩ σ η ι (fun v' θ' κ => ∃ A' c', v' = .slice A' (xs.take k ++ xs.drop l).length c' ∧ θ' = eS L e A' (xs.take k ++ xs.drop l).length c' (xs.take k ++ xs.drop l) :: θ ∧ κ = ι) := fun ρ w hρ hst => by
  have hml := hst.lenO hr.mem
  have hst2 := hst.tightS hr k hk
  refine act_appendAt (F := fun e' => e' :: θ) hx hy SwF.head hρ hst2 ⟨by simp [hml], ?_⟩ ht hi hz hsz hby hroom
  by_cases hd : xs.drop l = []
  · exact .inl hd
  right
  have hl : l < xs.length := by
    apply Classical.byContradiction
    intro h
    exact hd (List.drop_eq_nil_of_le (by omega))
  obtain ⟨g, cur, cs, rfl, hc0, hg, hmc, hcm, hcs, htk, hcl, hm⟩ := hst.ownAt hr.mem (by omega)
  refine ⟨g, l * L.size, cs.drop (l * L.size), ?_, fun j u hu => ?_, ?_, ?_⟩
  · unfold slA
    rw [if_neg (by omega)]
    simp [Addr.add_at]
  · rw [List.getElem?_drop] at hu
    exact own_cell hg htk hu
  · rw [List.length_drop, hcl.1, List.length_drop, Nat.sub_mul]
  · have hsub : ∀ b, Im C η w b → Im C (eS L e (some ⟨g, 0, none⟩) k k (xs.take k) :: θ) w b := fun b hb => ⟨hb.1, hb.2.1, fun h hh hbb => by
      rcases List.mem_cons.1 hh with rfl | hh
      · refine hb.2.2 _ hr.mem ?_
        by_cases hk0 : k = 0
        · simp [eS, hk0] at hbb
        · simp only [eS, if_neg hk0, if_neg hc0] at hbb ⊢
          simpa [Value.ownBlock] using hbb
      · exact hb.2.2 h (hr.sub.subset hh) hbb⟩
    intro i x hxi
    rw [List.getElem?_drop] at hxi
    have h1 := (hcl.sub hsub).2 (l + i) x hxi
    rw [List.drop_drop, ← Nat.add_mul]
    exact h1
/-- the record turns -/
theorem St.putLoop {l : Nat} {r r' : Loop} {F : Ent → List Ent} (h : St C η ι w) (hs : SwF η (eLoop l r) F) : St C (F (eLoop l r')) ι (w.putObj l (.loop r')) := by
  have hl : w.heap[l]? = some (.loop r) := h.ents _ hs.mem
  exact h.sw (hs _) rfl rfl ⟨rfl, Nat.le_refl _⟩ (by simp) (fun b _ hne => World.putObj_heap_other fun e => hne (by subst e; rfl)) (World.putObj_heap_same (Array.getElem?_eq_some_iff.1 hl).1) (fun b hb => .inl hb)
theorem St.takeDef {r : Nat} (h : St C (eDef r :: η) ι w) : St C η ι (w.putObj r (.deferred none)) := by
  have hl : w.heap[r]? = some (.deferred (some [])) := h.ents _ List.mem_cons_self
  let e' : Ent := ⟨fun x => some r = some x, fun w _ => w.heap[r]? = some (.deferred none), fun hk hb => by
    simp only [Option.some.injEq] at hb
    subst hb
    exact (Array.getElem?_eq_some_iff.1 hk).1, fun hk hs _ => (hs r rfl).trans hk, fun hk _ => hk⟩
  exact (h.sw (e' := e') (w' := w.putObj r (.deferred none)) Sw.head rfl rfl ⟨rfl, Nat.le_refl _⟩ (by simp) (fun b _ hne => World.putObj_heap_other fun e => hne (by subst e; rfl)) (World.putObj_heap_same (Array.getElem?_eq_some_iff.1 hl).1) (fun b hb => .inl hb)).tail

/-! ### a call of yield -/
def YT (P : Program) (l : Nat) (args : List Value) (w : World) (R : Ending → World → Prop) : Prop :=
  ∃ f tmps assign body, (Instr.yield l args.toArray).run P w = .ok (.round l f tmps assign body) w ∧ RoundIn Fence.wide 0 P l f tmps assign body w R
def YPost {S O : Type} (E : S → Ent → Prop) (EO : O → Ent → Prop) : S ⊕ O → Value → List Ent → List Fact → Prop
  | .inl s, v, θ, κ => v = .bool true ∧ κ = [] ∧ ∃ e, E s e ∧ θ = [e]
  | .inr o, v, θ, κ => v = .bool false ∧ κ = [] ∧ ∃ e, EO o e ∧ θ = [e]
/-- what the rounds of the loop l compute: Y; E, EO: how the state lies in memory -/
def YOk {X Z S O : Type} (P : Program) (l : Nat) (enc : X → List Value) (pr : X → Z) (fx : X → List Fact) (Y : Z → S → Option (S ⊕ O)) (E : S → Ent → Prop) (EO : O → Ent → Prop) : Prop :=
  ∀ x s r e, Y (pr x) s = some r → E s e → SpecT (YT P l (enc x)) [e] (fx x) (YPost E EO r)
theorem act_yield {X Z S O : Type} {l : Nat} {enc : X → List Value} {pr : X → Z} {fx : X → List Fact} {Y : Z → S → Option (S ⊕ O)} {E : S → Ent → Prop} {EO : O → Ent → Prop} (hY : YOk P l enc pr fx Y E EO) (x : X) {s : S} {r : S ⊕ O} {e : Ent} (h : Y (pr x) s = some r) (hE : E s e)
    {xo : Operand} {xs : List Operand} {ts : Array TypeId} {ηr : List Ent} (hx : ev σ xo = some (.func (.yield l) #[] #[])) (hvs : evL σ xs = some (enc x)) (hη : Rem η e ηr) (hk : AllIn (fx x) ι) :
    ActOk P C ⟨d, .call { callee := .value xo, args := xs.toArray, argTypes := ts }, ty, pos, af, gd⟩ σ η ι (fun v θ' κ' => ∃ θ κ, YPost E EO r v θ κ ∧ θ' = θ ++ ηr ∧ κ' = ι) := fun ρ w hρ hst => by
  have hm := evL_map hρ hvs
  have hst2 : St C ([e] ++ ηr) ι w := hst.perm hη.perm
  obtain ⟨f, tmps, assign, body, hr, hR⟩ := hst2.callT (T := YT P l (enc x)) (fun ⟨f, tmps, assign, body, h1, h2⟩ hr => ⟨f, tmps, assign, body, h1, h2.mono hr⟩) (hY x s r e h hE) [] (fun _ h => by cases h) fun g hg => .inl (hk.all g hg)
  have hr2 : (execOp ρ ⟨d, .call { callee := .value xo, args := xs.toArray, argTypes := ts }, ty, pos, af, gd⟩).run P w = .ok (.round l f tmps assign body) w := by
    simp [execOp, resolve, hρ _ _ hx, Deferred.ofValue, invoke, hm, hr]
  rw [hr2]
  refine hR.mono ?_
  rintro en w' ⟨v, θ, κ, rfl, hp, _, hs⟩
  refine ⟨v, rfl, _, _, ⟨θ, κ, hp, rfl, rfl⟩, ?_⟩
  have hs' := hs rfl
  have hκ : κ = [] := by cases r <;> exact hp.2.1
  subst hκ
  exact hs'

/-! ### a round -/
/-- what the record of a loop keeps -/
structure LF where
  fn : FuncId
  tmps : Array Value
  ps : Array Tmp
  assign : Code
  body : Code
  df : Nat
def LF.at (L : LF) (st : LoopState) (pe : Option Code) : Loop := { state := st, pending := pe, fn := L.fn, tmps := L.tmps, params := L.ps, assign := L.assign, body := L.body, defers := L.df }
/-- behind the assignments to the loop's variables the round begins -/
def BeginQ (P : Program) (l : Nat) (ro : Option Nat) (body : Code) (Q : Exit → Act → World → Prop) (a : Act) (w : World) : Prop :=
  ∃ w₂, (Instr.beginRound l).run P w = .ok () w₂ ∧ body.wpIn (FW ro) 0 P Q a w₂
theorem pn_begin {l : Nat} {L : LF} {body : Code} {Q' : Exit → Act → World → Prop} {F : Ent → List Ent} (hs : SwF η (eLoop l (L.at .ready none)) F) (h : WC P C n body Q σ (F (eLoop l (L.at .busy none))) ι) : PN C n (Exit.then (BeginQ P l n.ro body Q) Q') .normal σ η ι := fun a _ hf hst =>
  ⟨_, run_beginRound (hst.ents _ hs.mem) rfl, h a _ hf (hst.putLoop hs)⟩
theorem pn_roundN {l : Nat} {L : LF} {R : Ending → World → Prop} {F : Ent → List Ent} (hs : SwF η (eLoop l (L.at .busy none)) F) (h : ∀ w, St C (F (eLoop l (L.at .ready none))) ι w → R (.returned (.bool true)) w) : PN C n (roundPost P l R) .normal σ η ι := fun _ _ _ hst =>
  ⟨_, _, run_endRound none (hst.ents _ hs.mem), h _ (hst.putLoop hs)⟩
theorem pn_roundR {l : Nat} {L : LF} {R : Ending → World → Prop} {F : Ent → List Ent} (hs : SwF η (eLoop l (L.at .busy none)) F) (h : ∀ w, St C (F (eLoop l (L.at .done (some .ret)))) ι w → R (.returned (.bool false)) w) : PN C n (roundPost P l R) .ret σ η ι := fun _ _ _ hst =>
  ⟨_, _, run_endRound (some .ret) (hst.ents _ hs.mem), h _ (hst.putLoop hs)⟩
theorem pn_roundX {l i : Nat} {L : LF} {R : Ending → World → Prop} {F : Ent → List Ent} (hs : SwF η (eLoop l (L.at .busy none)) F) (h : ∀ w, St C (F (eLoop l (L.at .done (some (.exit i))))) ι w → R (.returned (.bool false)) w) : PN C n (roundPost P l R) (.exit i) σ η ι := fun _ _ _ hst =>
  ⟨_, _, run_endRound (some (.exit i)) (hst.ents _ hs.mem), h _ (hst.putLoop hs)⟩
/-- how a round may be left: EI: the state as entries and facts; EX: .. that a jump leaves -/
def RQ {S O : Type} (C : Cx) (l : Nat) (L : LF) (EI : S → List Ent → List Fact → Prop) (EX : O → Code → List Ent → List Fact → Prop) : S ⊕ O → Ending → World → Prop
  | .inl s, en, w => en = .returned (.bool true) ∧ ∃ θ κ, EI s θ κ ∧ St C (eLoop l (L.at .ready none) :: θ) κ w
  | .inr o, en, w => en = .returned (.bool false) ∧ ∃ c θ κ, EX o c θ κ ∧ St C (eLoop l (L.at .done (some c)) :: θ) κ w
def SeqPost {S O : Type} (E : S → Ent → Prop) (EO : O → Ent → Prop) (θc : List Ent) : S ⊕ O → Value → List Ent → List Fact → Prop
  | .inl s, _, θ, κ => κ = [] ∧ ∃ e, E s e ∧ θ = e :: θc
  | .inr o, _, θ, κ => κ = [] ∧ ∃ e, EO o e ∧ θ = e :: θc
/-- what a function computes that is ranged over: of what Y computes -/
def SeqOk {X Z : Type} (P : Program) (f : FuncId) (cap : List Value) (θc : List Ent) (ι : List Fact) (enc : X → List Value) (pr : X → Z) (fx : X → List Fact) (run : {S O : Type} → (Z → S → Option (S ⊕ O)) → S → Option (S ⊕ O)) : Prop :=
  ∀ (S O : Type) (l : Nat) (Y : Z → S → Option (S ⊕ O)) (E : S → Ent → Prop) (EO : O → Ent → Prop), YOk P l enc pr fx Y E EO → ∀ s r e, run Y s = some r → E s e → Spec P f (.func (.yield l) #[] #[] :: cap) (e :: θc) ι (SeqPost E EO θc r)
def zipσ : List Nat → List Value → List (Nat × Value) → List (Nat × Value)
  | p :: ps, v :: vs, σ => zipσ ps vs ((p, v) :: σ)
  | _, _, σ => σ
theorem zip_fr {ro : Option Nat} {sz : Nat} : ∀ {ps : List Nat} {vs : List Value} {σ : List (Nat × Value)} {t : Array Value}, (∀ p ∈ ps, p < sz) → Fr ⟨sz, [], ro⟩ σ { tmps := t, defers := [] } → Fr ⟨sz, [], ro⟩ (zipσ ps vs σ) { tmps := (ps.zip vs).foldl (fun t (p : Nat × Value) => t.setIfInBounds p.1 p.2) t, defers := [] }
  | [], _, _, _, _, h => h
  | _ :: _, [], _, _, _, h => h
  | p :: ps, v :: vs, σ, t, hp, h => by
    simp only [List.zip_cons_cons, List.foldl_cons, zipσ]
    exact zip_fr (fun q hq => hp q (List.mem_cons_of_mem _ hq)) (h.put (hp p List.mem_cons_self) v)

theorem wc_rangeFunc {X Z S O : Type} {gf : FuncId} {cap : List Value} {ps : List Nat} {assign body : Code} {g : Operand} {sz : Nat} {ms : List Nat} {enc : X → List Value} {pr : X → Z} {fx : X → List Fact} {run : {S O : Type} → (Z → S → Option (S ⊕ O)) → S → Option (S ⊕ O)} {θc : List Ent} {κc : List Fact}
    (seq : SeqOk P gf cap θc κc enc pr fx run) (hg : ev σ g = some (.func (.func gf) #[] cap.toArray)) (hb : bodyB P gf = true) (hps : ∀ x, (enc x).length = ps.length) (hsz : (ps.all fun p => Nat.blt p sz) = true) (hκc : ∀ f ∈ κc, f ∈ ι)
    (Y : Z → S → Option (S ⊕ O)) (EI : S → List Ent → List Fact → Prop) (EX : O → Code → List Ent → List Fact → Prop) (s0 : S) (r : S ⊕ O) (hrun : run Y s0 = some r)
    {θ₀ ηr : List Ent} {κ₀ : List Fact} (h0 : EI s0 θ₀ κ₀) (hη : ∀ w, St C η ι w → St C (θ₀ ++ (θc ++ ηr)) ι w) (hκ : ∀ f ∈ κ₀, f ∈ ι)
    (round : ∀ (C' : Cx) (l : Nat) (L : LF) (x : X) (s : S) (r' : S ⊕ O) (θ : List Ent) (κ : List Fact), Y (pr x) s = some r' → EI s θ κ →
      WC P C' ⟨sz, [], some l⟩ assign (Exit.then (BeginQ P l (some l) body (roundPost P l (RQ C' l L EI EX r'))) (fun _ _ _ => False)) (zipσ ps (enc x) σ) (eLoop l (L.at .ready none) :: θ) (κ ++ fx x))
    (done : ∀ m s θ κ, r = .inl s → EI s θ κ → PN C ⟨sz, m :: ms, none⟩ Q .normal σ (θ ++ (θc ++ eDef m :: ηr)) (κ ++ ι))
    (jump : ∀ m o c θ κ, r = .inr o → EX o c θ κ → WC P C ⟨sz, m :: ms, none⟩ c Q σ (θ ++ (θc ++ eDef m :: ηr)) (κ ++ ι)) :
    WC P C ⟨sz, ms, none⟩ (.rangeFunc g ps.toArray assign body) Q σ η ι := by
  intro a w hf hst
  refine wpIn_rangeFunc ?_
  intro fn _
  let L : LF := ⟨fn, a.tmps, ps.toArray, assign, body, w.heap.size⟩
  have hst1 : St C (eLoop (w.heap.size + 1) (L.at .ready none) :: eDef w.heap.size :: (θ₀ ++ (θc ++ ηr))) ι ((w.alloc (.deferred (some []))).alloc (.loop (L.at .ready none))) := by
    have h1 := (hη w hst).allocO (.deferred (some [])) (eDef w.heap.size) rfl (heap_alloc_new w _)
    have h2 := h1.allocO (.loop (L.at .ready none)) (eLoop (w.alloc (.deferred (some []))).heap.size (L.at .ready none)) rfl (heap_alloc_new _ _)
    have e : (w.alloc (.deferred (some []))).heap.size = w.heap.size + 1 := World.size_alloc _ _
    rw [e] at h2
    exact h2
  let E : S → Ent → Prop := fun s e => ∃ θ κ, EI s θ κ ∧ e = eBun (eLoop (w.heap.size + 1) (L.at .ready none) :: θ) κ
  let EO : O → Ent → Prop := fun o e => ∃ c θ κ, EX o c θ κ ∧ e = eBun (eLoop (w.heap.size + 1) (L.at .done (some c)) :: θ) κ
  have hst2 : St C (eBun (eLoop (w.heap.size + 1) (L.at .ready none) :: θ₀) κ₀ :: (θc ++ eDef w.heap.size :: ηr)) ι ((w.alloc (.deferred (some []))).alloc (.loop (L.at .ready none))) := by
    refine St.bundle (hst1.perm ?_) hκ
    refine List.Perm.cons _ (List.perm_middle.symm.trans ?_)
    refine List.Perm.append_left _ ?_
    exact List.perm_middle.symm
  have hfr0 : ∀ l, Fr ⟨sz, [], some l⟩ σ { tmps := a.tmps, defers := [] } := fun l => ⟨rfl, hf.size, hf.at_⟩
  have hY : YOk P (w.heap.size + 1) enc pr fx Y E EO := by
    rintro x s r' e hy ⟨θ, κ, hE, rfl⟩ C' hM hs'
    have hs2 : St C' (eLoop (w.heap.size + 1) (L.at .ready none) :: θ) (κ ++ fx x) C'.W0 := by
      have := hs'.unbundle
      simpa using this
    have hl := hs2.ents _ List.mem_cons_self
    have hy2 := run_yield (P := P) (args := (enc x).toArray) hl (by simp [LF.at, L, hps x])
    refine ⟨_, _, _, _, hy2, roundIn_of_wpIn (F := Fence.wide) trivial ?_⟩
    have hw := round C' (w.heap.size + 1) L x s r' θ κ hy hE { tmps := ((ps.zip (enc x)).foldl (fun t (p : Nat × Value) => t.setIfInBounds p.1 p.2) a.tmps), defers := [] } C'.W0 (zip_fr (fun p hp => by simpa [Nat.blt_eq] using List.all_eq_true.1 hsz p hp) (hfr0 _)) hs2
    have et : (ps.toArray.zip (enc x).toArray).foldl (fun (tmps : Array Value) (x : Nat × Value) => match x with | (t, a) => tmps.setIfInBounds t a) a.tmps = (ps.zip (enc x)).foldl (fun t (p : Nat × Value) => t.setIfInBounds p.1 p.2) a.tmps := by
      rw [List.zip_toArray, List.foldl_toArray]
    rw [show (L.at .ready none).params = ps.toArray from rfl, show (L.at .ready none).tmps = a.tmps from rfl, et]
    refine Code.wpIn_mono ?_ hw
    intro en a1 w1 hq
    cases en <;> try exact hq.elim
    obtain ⟨w2, hb2, hq2⟩ := hq
    refine ⟨w2, hb2, Code.wpIn_mono ?_ hq2⟩
    intro en2 a2 w3 hq3
    have hR : ∀ en3 w4, RQ C' (w.heap.size + 1) L EI EX r' en3 w4 → ∃ v θ κ, en3 = .returned v ∧ YPost E EO r' v θ κ ∧ St C' θ κ w4 := by
      intro en3 w4 hr
      cases r' with
      | inl s' =>
        obtain ⟨rfl, θ', κ', hE', hs3⟩ := hr
        refine ⟨_, _, _, rfl, ⟨rfl, rfl, _, ⟨θ', κ', hE', rfl⟩, rfl⟩, ?_⟩
        have := St.bundle (η := []) (κ := κ') (by simpa using hs3) fun _ h => h
        exact this.subFacts fun _ h => by cases h
      | inr o =>
        obtain ⟨rfl, c, θ', κ', hE', hs3⟩ := hr
        refine ⟨_, _, _, rfl, ⟨rfl, rfl, _, ⟨c, θ', κ', hE', rfl⟩, rfl⟩, ?_⟩
        have := St.bundle (η := []) (κ := κ') (by simpa using hs3) fun _ h => h
        exact this.subFacts fun _ h => by cases h
    cases en2 <;> first
      | exact hq3.elim
      | (obtain ⟨v, w4, h1, h2⟩ := hq3; exact ⟨v, w4, h1, hR _ _ h2⟩)
  have hcall := hst2.call (θ₀ := eBun (eLoop (w.heap.size + 1) (L.at .ready none) :: θ₀) κ₀ :: θc) (ηr := eDef w.heap.size :: ηr) (seq S O _ Y E EO hY s0 r _ hrun ⟨θ₀, κ₀, h0, rfl⟩) hκc
  refine ⟨w.heap.size + 1, [markD w.heap.size], (w.alloc (.deferred (some []))).alloc (.loop (L.at .ready none)), { target := .fn (.func gf) cap.toArray, args := #[.func (.yield (w.heap.size + 1)) #[] #[]] }, (w.alloc (.deferred (some []))).alloc (.loop (L.at .ready none)), gf, (.func (.yield (w.heap.size + 1)) #[] #[] :: cap).toArray, (w.alloc (.deferred (some []))).alloc (.loop (L.at .ready none)), run_enterLoop_outer fn a.tmps ps.toArray assign body, ?_, fun _ _ => trivial, ?_, fun h => (by cases h), ?_⟩
  · simp only [resolve, hf.eval hg]
    simp [go_sem]
  · simp [invoke, go_sem, run_callFunc hb]
  · refine CallsIn.mono (F := Fence.wide) (callsIn_wide.2 hcall) ?_
    rintro en w' ⟨v, θ, κ, rfl, hp, hs3⟩
    have hfr : Fr ⟨sz, w.heap.size :: ms, none⟩ σ { a with defers := [markD w.heap.size] ++ a.defers } := ⟨by simp [hf.defers], hf.size, hf.at_⟩
    cases r with
    | inl s' =>
      obtain ⟨rfl, e, ⟨θ', κ', hE', rfl⟩, rfl⟩ := hp
      have hs4 := hs3.unbundle
      have hl := hs4.ents (eLoop (w.heap.size + 1) (L.at .ready none)) (by simp)
      refine ⟨none, _, run_endLoop hl (by simp [LF.at]), ?_⟩
      have hs5 := (St.putLoop (η := eLoop (w.heap.size + 1) (L.at .ready none) :: (θ' ++ (θc ++ eDef w.heap.size :: ηr))) (r' := { L.at .ready none with state := .exhausted }) (by simpa using hs4) SwF.head).tail
      exact done _ s' θ' κ' rfl hE' _ _ hfr hs5
    | inr o =>
      obtain ⟨rfl, e, ⟨c, θ', κ', hE', rfl⟩, rfl⟩ := hp
      have hs4 := hs3.unbundle
      have hl := hs4.ents (eLoop (w.heap.size + 1) (L.at .done (some c))) (by simp)
      refine ⟨some c, _, run_endLoop hl (by simp [LF.at]), ?_⟩
      have hs5 := (St.putLoop (η := eLoop (w.heap.size + 1) (L.at .done (some c)) :: (θ' ++ (θc ++ eDef w.heap.size :: ηr))) (r' := { L.at .done (some c) with state := .exhausted }) (by simpa using hs4) SwF.head).tail
      exact jump _ o c θ' κ' rfl hE' _ _ hfr hs5
/-- a function that has entered a range over a function leaves -/
theorem pn_retM {sz m : Nat} {ms : List Nat} {ro : Option Nat} {fn : Func} {R : Ending → World → Prop} {η' : List Ent} (hr : Rem η (eDef m) η') (h : PN C ⟨sz, ms, ro⟩ (bodyPostM Fence.wide 0 P fn R) .ret σ η' ι) : PN C ⟨sz, m :: ms, ro⟩ (bodyPostM Fence.wide 0 P fn R) .ret σ η ι := by
  intro a w hf hst
  show LeavesInM Fence.wide 0 P fn a.tmps _ a.defers .returning w
  rw [hf.defers]
  have hst2 := hst.perm hr.perm
  refine ⟨by simp, .inl ⟨m, _, rfl, run_takeDeferred (hst2.ents _ List.mem_cons_self), ?_⟩⟩
  exact h { a with defers := ms.map markD } _ ⟨rfl, hf.size, hf.at_⟩ hst2.takeDef
end
end Go.Proofs.Ytfekcgnnhjmeiaa
