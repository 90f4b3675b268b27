/- Plain programs: what the Go code computes, with no memory in sight: checks, elements, loops. Generic: names no function of the program. -/
import GoSem.Core.View
namespace Go.Proofs.Ytfekcgnnhjmeiaa

abbrev w64 (n : Int) : Int := IntKind.i64.wrap n
abbrev u64 (n : Int) : Int := IntKind.u64.wrap n

def bAnd (k : IntKind) (x y : Int) : Int := k.wrap ((BitVec.ofInt k.bits x &&& BitVec.ofInt k.bits y).toNat : Int)
def bOr (k : IntKind) (x y : Int) : Int := k.wrap ((BitVec.ofInt k.bits x ||| BitVec.ofInt k.bits y).toNat : Int)
def bXor (k : IntKind) (x y : Int) : Int := k.wrap ((BitVec.ofInt k.bits x ^^^ BitVec.ofInt k.bits y).toNat : Int)
def bAndNot (k : IntKind) (x y : Int) : Int := k.wrap ((BitVec.ofInt k.bits x &&& ~~~(BitVec.ofInt k.bits y)).toNat : Int)
def bShl (k : IntKind) (x y : Int) : Int := k.wrap (x * 2 ^ (min y.toNat k.bits))
def bShr (k : IntKind) (x y : Int) : Int := x.fdiv (2 ^ (min y.toNat k.bits))
def minI (x y : Int) : Int := if y < x then y else x
def maxI (x y : Int) : Int := if x < y then y else x

/-- go on only if b -/
def chk {α : Type} (b : Bool) (k : Option α) : Option α := if b = true then k else none
/-- the element with an index -/
def ix {α : Type} [Inhabited α] (xs : List α) (i : Int) : α := xs.getD i.toNat default
def inb {α : Type} (xs : List α) (i : Int) : Bool := decide (0 ≤ i) && decide (i < (xs.length : Int))
/-- the list with another element -/
def upd {α : Type} (xs : List α) (i : Int) (x : α) : List α := xs.set i.toNat x
/-- so many elements may be made -/
def room (n : Nat) : Bool := decide (n ≤ 1000000000)
def roomI (n : Int) : Bool := decide (0 ≤ n) && decide (n ≤ 1000000000)
def sel {α : Type} (xs : List α) (lo hi : Int) : List α := (xs.take hi.toNat).drop lo.toNat

theorem chk_some {α : Type} {b : Bool} {k : Option α} {r : α} (h : chk b k = some r) : b = true ∧ k = some r := by
  unfold chk at h
  split at h
  · exact ⟨‹_›, h⟩
  · cases h
theorem chk_true {α : Type} {k : Option α} : chk true k = k := rfl
theorem chk_of {α : Type} {b : Bool} {k : Option α} (h : b = true) : chk b k = k := by rw [h]; rfl
theorem bind_some {α β : Type} {x : Option α} {f : α → Option β} {r : β} (h : x.bind f = some r) : ∃ a, x = some a ∧ f a = some r := Option.bind_eq_some_iff.1 h
theorem ifT {α : Type} {b : Bool} {x y : Option α} {r : α} (h : (if b = true then x else y) = some r) (hb : b = true) : x = some r := by rw [if_pos hb] at h; exact h
theorem ifF {α : Type} {b : Bool} {x y : Option α} {r : α} (h : (if b = true then x else y) = some r) (hb : b = false) : y = some r := by rw [if_neg (by rw [hb]; decide)] at h; exact h

/-- k rounds at most -/
def IterN {S O : Type} (step : S → Option (S ⊕ O)) : Nat → S → O → Prop
  | 0, _, _ => False
  | k + 1, s, o => ∃ q, step s = some q ∧ match q with | .inl s' => IterN step k s' o | .inr o' => o' = o
theorem IterN.det {S O : Type} {step : S → Option (S ⊕ O)} : ∀ {k l : Nat} {s : S} {o o' : O}, IterN step k s o → IterN step l s o' → o = o'
  | 0, _, _, _, _, h, _ => h.elim
  | _ + 1, 0, _, _, _, _, h => h.elim
  | k + 1, l + 1, s, o, o', ⟨q, h1, h2⟩, ⟨q', h3, h4⟩ => by
    rw [h1] at h3
    cases h3
    cases q with
    | inl s' => exact IterN.det h2 h4
    | inr x => exact h2.symm.trans h4
open Classical in
/-- a loop: nothing, if it does not end -/
noncomputable def loopV {S O : Type} (step : S → Option (S ⊕ O)) (s : S) : Option O := if h : ∃ o, ∃ k, IterN step k s o then some h.choose else none
theorem loopV_some {S O : Type} {step : S → Option (S ⊕ O)} {s : S} {o : O} : loopV step s = some o ↔ ∃ k, IterN step k s o := by
  unfold loopV
  split
  · rename_i h
    obtain ⟨k, hk⟩ := h.choose_spec
    constructor
    · intro e
      simp only [Option.some.injEq] at e
      exact ⟨k, e ▸ hk⟩
    · rintro ⟨l, hl⟩
      rw [IterN.det hk hl]
  · rename_i h
    constructor
    · intro e; cases e
    · intro e; exact absurd ⟨o, e⟩ h
theorem loopV_next {S O : Type} {step : S → Option (S ⊕ O)} {s s' : S} (h : step s = some (.inl s')) : loopV step s = loopV step s' := by
  apply Option.ext
  intro o
  rw [loopV_some, loopV_some]
  constructor
  · rintro ⟨k, hk⟩
    cases k with
    | zero => exact hk.elim
    | succ k =>
      obtain ⟨q, h1, h2⟩ := hk
      rw [h] at h1
      cases h1
      exact ⟨k, h2⟩
  · rintro ⟨k, hk⟩
    exact ⟨k + 1, _, h, hk⟩
theorem loopV_stop {S O : Type} {step : S → Option (S ⊕ O)} {s : S} {o : O} (h : step s = some (.inr o)) : loopV step s = some o :=
  loopV_some.2 ⟨1, _, h, rfl⟩
/-- a loop by an invariant and a measure -/
theorem loopV_inv {S O : Type} {step : S → Option (S ⊕ O)} (I : S → Prop) (μ : S → Nat) (Q : O → Prop)
    (h : ∀ s, I s → ∃ q, step s = some q ∧ match q with | .inl s' => I s' ∧ μ s' < μ s | .inr o => Q o) (s : S) (hs : I s) : ∃ o, loopV step s = some o ∧ Q o := by
  suffices H : ∀ n s, μ s = n → I s → ∃ o, loopV step s = some o ∧ Q o from H _ s rfl hs
  intro n
  induction n using Nat.strongRecOn with
  | _ n ih =>
    intro s hn hs
    obtain ⟨q, h1, h2⟩ := h s hs
    cases q with
    | inl s' =>
      obtain ⟨o, ho, hq⟩ := ih _ (hn ▸ h2.2) s' rfl h2.1
      exact ⟨o, (loopV_next h1).trans ho, hq⟩
    | inr o => exact ⟨o, loopV_stop h1, h2⟩
open Classical in
/-- a function that calls itself: what it computes with enough nested calls -/
noncomputable def recV {α : Type} (g : Nat → Option α) : Option α := if h : ∃ k, ∃ r, g k = some r then g h.choose else none
theorem recV_some {α : Type} {g : Nat → Option α} {r : α} (h : recV g = some r) : ∃ k, g k = some r := by
  unfold recV at h
  split at h
  · exact ⟨_, h⟩
  · cases h
theorem recV_of {α : Type} {g : Nat → Option α} (hm : ∀ k r, g k = some r → g (k + 1) = some r) {k : Nat} {r : α} (h : g k = some r) : recV g = some r := by
  have up : ∀ j k r, g k = some r → g (k + j) = some r := by
    intro j
    induction j with
    | zero => intro k r h; exact h
    | succ j ih => intro k r h; exact hm _ _ (ih k r h)
  have hex : ∃ k, ∃ r, g k = some r := ⟨k, r, h⟩
  unfold recV
  rw [dif_pos hex]
  obtain ⟨r', hr'⟩ := hex.choose_spec
  have h1 := up k _ _ hr'
  have h2 := up hex.choose _ _ h
  rw [Nat.add_comm, h2] at h1
  rw [hr', ← h1]
end Go.Proofs.Ytfekcgnnhjmeiaa
