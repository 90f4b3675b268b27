/- The number of draws never falls. Generic: names no function of the program. -/
import GoSem.Core.Sem
namespace Go.Proofs.Ytfekcgnnhjmeiaa
open Go
theorem ask_drawn {α : Type} : ∀ (a : Ask α) (w : World), w.drawn ≤ (w.ask a).2.drawn
  | .done _, w => Nat.le_refl _
  | .ask what range k, w => by
    unfold World.ask
    simp only []
    split
    · exact ask_drawn _ w
    · exact Nat.le_of_succ_le (ask_drawn (k _) { w with drawn := w.drawn + 1 })
theorem sys_drawn (w : World) (c : Sys) : w.drawn ≤ (w.sys c).2.drawn := by
  unfold World.sys
  have h := ask_drawn (Kernel.perform c w.os) w
  split
  · exact Nat.le_refl _
  · rename_i e
    rw [e] at h
    exact h
theorem viewStore_drawn {p : Program} {w w' : World} {at_ : Addr} {u : TypeId} {k : Addr} {v : Value} {b : Bool} {l : List Addr} (h : w.viewStore p at_ u k v b = .ok (w', l)) : w'.drawn = w.drawn := by
  unfold World.viewStore at h
  simp only [bind, Except.bind] at h
  repeat' split at h
  all_goals first | (cases h; done) | (cases h; rfl) | (simp [pure, Except.pure, throw, throwThe, MonadExceptOf.throw] at h; try (obtain ⟨rfl, _⟩ := h; rfl))
theorem farStore_drawn {p : Program} {w w' : World} {a : Addr} {v : Value} {b : Bool} {l : List Addr} (hs : w.farStore p a v b = .ok (w', l)) : w'.drawn = w.drawn := by
  unfold World.farStore at hs
  split at hs
  · split at hs
    · rename_i h3
      cases hs
      exact viewStore_drawn h3
    · cases hs
  · cases hs
theorem run_drawn {α : Type} {p : Program} : ∀ (s : Sem α) (w : World) {a : α} {w' : World}, s.run p w = .ok a w' → w.drawn ≤ w'.drawn := by
  intro s
  induction s with
  | pure a => intro w a' w' h; simp only [Sem.run, Result.ok.injEq] at h; rw [h.2]; exact Nat.le_refl _
  | load m a k ih =>
    intro w x w' h
    unfold Sem.run at h
    split at h
    · exact ih _ _ h
    · split at h
      · exact ih _ _ h
      · cases h
  | store m a v k ih =>
    intro w x w' h
    cases v
    case agg => cases h
    case tuple => cases h
    all_goals
      unfold Sem.run at h
      split at h
      · split at h
        · cases h
        · exact ih (w.setCell a _) h
      · split at h
        · rename_i w2 l hs
          exact (farStore_drawn hs) ▸ ih _ h
        · cases h
  | new o k ih => intro w x w' h; unfold Sem.run at h; exact ih _ { w with heap := w.heap.push o } h
  | shape r k ih => intro w x w' h; unfold Sem.run at h; exact ih _ _ h
  | freeze a n k ih =>
    intro w x w' h
    unfold Sem.run at h
    have := ih _ h
    unfold World.freeze at this
    split at this <;> exact this
  | frozen a k ih => intro w x w' h; unfold Sem.run at h; exact ih _ _ h
  | getObj r k ih =>
    intro w x w' h
    unfold Sem.run at h
    split at h
    · cases h
    · exact ih _ _ h
    · cases h
  | setObj r o k ih =>
    intro w x w' h
    unfold Sem.run at h
    split at h
    · cases h
    · exact ih { w with heap := w.heap.setIfInBounds r o } h
    · cases h
  | choose q k ih =>
    intro w x w' h
    unfold Sem.run at h
    split at h
    · exact ih _ _ h
    · exact Nat.le_of_succ_le (ih _ { w with drawn := w.drawn + 1 } h)
  | sys c k ih => intro w x w' h; unfold Sem.run at h; exact Nat.le_trans (sys_drawn w c) (ih _ _ h)
  | program k ih => intro w x w' h; unfold Sem.run at h; exact ih _ _ h
  | mark m k ih => intro w x w' h; unfold Sem.run at h; exact ih _ h
  | halt h => intro w x w' h; unfold Sem.run at h; cases h
end Go.Proofs.Ytfekcgnnhjmeiaa
