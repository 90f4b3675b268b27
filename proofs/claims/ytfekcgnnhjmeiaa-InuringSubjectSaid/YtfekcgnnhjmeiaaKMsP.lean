/- delete from a map (plain). -/
import Derived.Test.YtfekcgnnhjmeiaaKMapP
namespace Go.Proofs.Ytfekcgnnhjmeiaa
section
variable {K V : Type} [DecidableEq K]
def mdel : List (K × V) → K → List (K × V)
  | [], _ => []
  | p :: m, x => if p.1 = x then m else p :: mdel m x
theorem mfi_del {m : List (K × V)} {x : K} {i : Nat} (h : mfi m x = some i) : mdel m x = m.eraseIdx i := by
  induction m generalizing i with
  | nil => cases h
  | cons p m ih =>
    unfold mfi at h
    split at h
    · rename_i hp
      cases h
      simp [mdel, hp]
    · rename_i hp
      cases hm : mfi m x with
      | none => rw [hm] at h; cases h
      | some j =>
        rw [hm] at h
        cases h
        simp [mdel, hp, ih hm]
theorem mfi_del_none {m : List (K × V)} {x : K} (h : mfi m x = none) : mdel m x = m := by
  induction m with
  | nil => rfl
  | cons p m ih =>
    unfold mfi at h
    split at h
    · cases h
    · rename_i hp
      simp [mdel, hp, ih (by simpa using h)]
end
end Go.Proofs.Ytfekcgnnhjmeiaa
