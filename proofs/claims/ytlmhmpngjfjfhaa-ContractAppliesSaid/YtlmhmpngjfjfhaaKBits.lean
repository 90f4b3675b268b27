/- Functions of math/bits in the logic of symbolic states, out of the library's contracts. Generic: names no function of the program. -/
import Derived.Shelf.Bits.Mul64
import Derived.Shelf.Small.Bits
import Derived.Test.YtlmhmpngjfjfhaaKActs
import Derived.Test.YtlmhmpngjfjfhaaKBitsP
namespace Go.Proofs.Ytlmhmpngjfjfhaa
open Go.RowKit Go.Shelf
theorem spec_pure {P : Program} {f : FuncId} {args : List Value} {v : Value} (h : ∀ w, Calls P f args.toArray w fun e w' => e = .returned v ∧ w' = w) : Spec P f args [] [] fun u θ κ => u = v ∧ θ = [] ∧ κ = [] := by
  intro C _ hst
  refine (h C.W0).mono ?_
  rintro e w' ⟨rfl, rfl⟩
  exact ⟨v, [], [], rfl, ⟨rfl, rfl, rfl⟩, hst⟩
theorem spec_mul64 {P : Program} {ρ : Ren} (L : Lays.n264 P ρ) (x y : Int) (r : Int × Int) (h : mul64V x y = some r) : Spec P (ρ.f 264) [.int .u64 x, .int .u64 y] [] [] fun v θ κ => v = .tuple #[.int .u64 r.1, .int .u64 r.2] ∧ θ = [] ∧ κ = [] := by
  unfold mul64V at h
  split at h
  · rename_i hc
    cases h
    obtain ⟨h1, h2, h3, h4⟩ := hc
    obtain ⟨a, rfl⟩ := Int.eq_ofNat_of_zero_le h1
    obtain ⟨b, rfl⟩ := Int.eq_ofNat_of_zero_le h3
    refine spec_pure fun w => ?_
    have := Any.bits_Mul64 L a b (by omega) (by omega) w
    simpa using this
  · cases h
theorem spec_lz64 {P : Program} {ρ : Ren} (L : Lays.n134 P ρ) (x : Int) (r : Int) (h : lz64V x = some r) : Spec P (ρ.f 134) [.int .u64 x] [] [] fun v θ κ => v = .int .i64 r ∧ θ = [] ∧ κ = [] := by
  unfold lz64V at h
  split at h
  · rename_i hc
    cases h
    exact spec_pure fun w => Any.bits_LeadingZeros64 L x w hc.1 hc.2
  · cases h
end Go.Proofs.Ytlmhmpngjfjfhaa
