/- Method values: functions with a receiver. -/
import Derived.Test.YtfekcgnnhjmeiaaKRF
namespace Go.Proofs.Ytfekcgnnhjmeiaa
open Go.RowKit
section
variable {P : Program} {C : Cx} {σ : List (Nat × Value)} {η : List Ent} {ι : List Fact}
variable {d : Option Tmp} {ty : TypeId} {pos : String} {af : Array Edge} {gd : Option (Nat × Bool)}
theorem det_makeFuncM {f : FuncId} {zs xs : List Operand} {us vs : List Value} (h0 : evL σ zs = some us) (h : evL σ xs = some vs) : Det P C ⟨d, .makeFunc (.func f) zs.toArray xs.toArray, ty, pos, af, gd⟩ σ η ι (.func (.func f) us.toArray vs.toArray) := fun ρ w hρ _ => by
  have hm := evL_map hρ h
  have hm0 := evL_map hρ h0
  simp [execOp, Instr.makeFunc, hm, hm0]
theorem act_callSM {f : FuncId} {x : Operand} {xs : List Operand} {ts : Array TypeId} {fst cap : List Value} {args vs : List Value} {θ₀ ηr : List Ent} {κ₀ : List Fact} {Post : Value → List Ent → List Fact → Prop}
    (hc : Spec P f args θ₀ κ₀ Post) (hx : ev σ x = some (.func (.func f) fst.toArray cap.toArray)) (hvs : evL σ xs = some vs) (hargs : fst ++ (vs ++ cap) = args) (hb : bodyB P f = true) (hη : Rems η θ₀ ηr) (hk : AllIn κ₀ ι) :
    ActOk P C ⟨d, .call { callee := .value x, args := xs.toArray, argTypes := ts }, ty, pos, af, gd⟩ σ η ι (fun v θ' κ' => ∃ θ κ, Post v θ κ ∧ θ' = θ ++ ηr ∧ κ' = κ ++ ι) := fun ρ w hρ hst => by
  subst hargs
  have hr : (execOp ρ ⟨d, .call { callee := .value x, args := xs.toArray, argTypes := ts }, ty, pos, af, gd⟩).run P w = .ok (.enter f (fst ++ (vs ++ cap)).toArray) w := by
    have hm := evL_map hρ hvs
    simp [execOp, resolve, hρ _ _ hx, Deferred.ofValue, invoke, hm, run_callFunc hb]
  rw [hr]
  refine ((hst.perm hη.perm).call hc hk.all).mono ?_
  rintro e w' ⟨v, θ, κ, rfl, hp, hs⟩
  exact ⟨v, rfl, _, _, ⟨θ, κ, hp, rfl, rfl⟩, hs⟩
theorem act_callLM {f : FuncId} {x : Operand} {xs : List Operand} {ts : Array TypeId} {fst cap : List Value} {args vs : List Value} {θ₀ ηr : List Ent} {κ₀ : List Fact} {Post : Value → List Ent → List Fact → Prop} (lam : List Ent)
    (hc : Spec P f args θ₀ κ₀ Post) (hpl : ∀ v θ κ, Post v θ κ → Plains θ) (hx : ev σ x = some (.func (.func f) fst.toArray cap.toArray)) (hvs : evL σ xs = some vs) (hargs : fst ++ (vs ++ cap) = args) (hb : bodyB P f = true) (hη : Rems η θ₀ ηr) (hl : AllE lam ηr) (hk : LendIn ι lam κ₀) :
    ActOk P C ⟨d, .call { callee := .value x, args := xs.toArray, argTypes := ts }, ty, pos, af, gd⟩ σ η ι (fun v θ' κ' => ∃ θ κ, Post v θ κ ∧ θ' = θ ++ ηr ∧ κ' = ι) := fun ρ w hρ hst => by
  subst hargs
  have hr : (execOp ρ ⟨d, .call { callee := .value x, args := xs.toArray, argTypes := ts }, ty, pos, af, gd⟩).run P w = .ok (.enter f (fst ++ (vs ++ cap)).toArray) w := by
    have hm := evL_map hρ hvs
    simp [execOp, resolve, hρ _ _ hx, Deferred.ofValue, invoke, hm, run_callFunc hb]
  rw [hr]
  refine ((hst.perm hη.perm).callL hc lam hl.all hk.all).mono ?_
  rintro e w' ⟨v, θ, κ, rfl, hp, hs, _⟩
  exact ⟨v, rfl, _, _, ⟨θ, κ, hp, rfl, rfl⟩, hs (.inr (hpl v θ κ hp).all)⟩
end
end Go.Proofs.Ytfekcgnnhjmeiaa
