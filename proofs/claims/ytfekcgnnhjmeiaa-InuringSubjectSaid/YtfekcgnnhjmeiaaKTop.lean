/- From a contract to a plain call. Generic. -/
import Derived.Test.YtfekcgnnhjmeiaaKTab
namespace Go.Proofs.Ytfekcgnnhjmeiaa
open Go.RowKit

section
variable {P : Program} {C : Cx} {n : FN} {Q : Exit → Act → World → Prop} {σ : List (Nat × Value)} {η : List Ent} {ι : List Fact}

theorem calls_of_spec {f : FuncId} {args : List Value} {v : Value} {Post : Value → List Ent → List Fact → Prop} (h : Spec P f args [] ι Post) (hp : ∀ u θ κ, Post u θ κ → u = v) (w : World) (hf : ∀ g ∈ ι, g.R w (fun b => b < w.heap.size)) :
    Calls P f args.toArray w fun e w' => e = .returned v ∧ Below w.heap.size w w' := by
  have hst : St ⟨w, fun b => b < w.heap.size, fun _ => False⟩ [] ι w := ⟨rfl, rfl, ⟨rfl, Nat.le_refl _⟩, Nat.le_refl _, fun _ _ _ => rfl, fun _ hh => (by cases hh), fun _ hh => (by cases hh), List.Pairwise.nil, fun g hg => g.sub (hf g hg) fun b hb => ⟨hb, .inr (.inl hb), fun _ hh => (by cases hh)⟩⟩
  refine (h _ (fun b => ⟨fun (h : False) => h.elim, fun ⟨_, hh, _⟩ => (by cases hh)⟩) hst).mono ?_
  rintro e w' ⟨u, θ, κ, rfl, hq, hs⟩
  exact ⟨by rw [hp u θ κ hq], hs.os, hs.tape, hs.output.1, hs.size, fun b hb => hs.old b hb fun h => h⟩

/-- a slice of integers that came in, as the frame of a row's proof tells it -/
theorem row_fact {k : IntKind} {w : World} {a : Option Addr} {len cap : Nat} {zs : List Int}
    (h : (a = none ∧ len = 0 ∧ cap = 0 ∧ zs = []) ∨ ∃ x, a = some x ∧ len ≤ cap ∧ cap ≤ maxLen ∧ zs.length = cap ∧ (∀ i, i < zs.length → w.cell? (x.add i) = some (.int k (zs.getD i 0))) ∧ ∀ n ∈ zs, (Lit.int k n).wf = true) :
    (fV (lSlice (lInt k)) (.slice a len cap) (zs.take len)).R w (fun b => b < w.heap.size) ∧ (zs.take len).length = len ∧ len ≤ maxLen ∧ ∀ n ∈ zs.take len, (Lit.int k n).wf = true := by
  rcases h with ⟨rfl, rfl, rfl, rfl⟩ | ⟨x, rfl, hl, hm, hz, hc, hw⟩
  · exact ⟨⟨none, 0, 0, rfl, rfl, Nat.zero_le _, .inl rfl⟩, rfl, Nat.zero_le _, fun n hn => by simp at hn⟩
  · have hlen : (zs.take len).length = len := by rw [List.length_take]; omega
    refine ⟨⟨some x, len, cap, rfl, hlen.symm, hl, ?_⟩, hlen, by omega, fun n hn => hw n (List.mem_of_mem_take hn)⟩
    by_cases h0 : zs.take len = []
    · exact .inl h0
    · right
      have hpos : 0 < zs.length := by
        rcases Nat.eq_zero_or_pos zs.length with h1 | h1
        · have : zs = [] := List.eq_nil_of_length_eq_zero h1
          subst this
          simp at h0
        · exact h1
      have hx : x = ⟨x.block, x.off, none⟩ := by
        have h1 := hc 0 hpos
        have h2 : x.add 0 = x := rfl
        rw [h2] at h1
        obtain ⟨b, o, sp⟩ := x
        cases sp with
        | none => rfl
        | some s =>
          exfalso
          unfold World.cell? at h1
          split at h1
          · simp at h1
          · cases h1
      obtain ⟨xb, xo, sp⟩ := x
      simp only [Addr.mk.injEq, true_and] at hx
      subst hx
      have hadd : ∀ i, (⟨xb, xo, none⟩ : Addr).add i = ⟨xb, xo + i, none⟩ := fun i => by
        unfold Addr.add
        split <;> simp_all
      refine ⟨xb, xo, rfl, ?_, fun i y hy => ⟨[.int k y], rfl, fun j u hu => ?_⟩⟩
      · have h1 := hc 0 hpos
        rw [hadd] at h1
        exact World.block_lt_of_cell? w ⟨xb, xo + 0, none⟩ h1
      · match j, hu with
        | 0, hu =>
          simp only [List.getElem?_cons_zero, Option.some.injEq] at hu
          subst hu
          have hi : i < zs.length := by
            have := (List.getElem?_eq_some_iff.1 hy).1
            rw [hlen] at this
            omega
          have h1 := hc i hi
          rw [hadd] at h1
          have e : zs.getD i 0 = y := by
            rw [List.getElem?_take] at hy
            split at hy
            · simp [hy]
            · cases hy
          rw [e] at h1
          simpa [lInt, lFlat] using h1
        | j + 1, hu => simp at hu

/-- what an integer of a kind can be -/
theorem wf_range {k : IntKind} {m : Int} (h : (Lit.int k m).wf = true) : k.min ≤ m ∧ m ≤ k.max := by simpa [Lit.wf] using h
theorem rng_i8 {m : Int} (h : (Lit.int .i8 m).wf = true) : -128 ≤ m ∧ m ≤ 127 := wf_range h
theorem rng_i16 {m : Int} (h : (Lit.int .i16 m).wf = true) : -32768 ≤ m ∧ m ≤ 32767 := wf_range h
theorem rng_i32 {m : Int} (h : (Lit.int .i32 m).wf = true) : -2147483648 ≤ m ∧ m ≤ 2147483647 := wf_range h
theorem rng_i64 {m : Int} (h : (Lit.int .i64 m).wf = true) : -9223372036854775808 ≤ m ∧ m ≤ 9223372036854775807 := wf_range h
theorem rng_u8 {m : Int} (h : (Lit.int .u8 m).wf = true) : 0 ≤ m ∧ m ≤ 255 := wf_range h
theorem rng_u16 {m : Int} (h : (Lit.int .u16 m).wf = true) : 0 ≤ m ∧ m ≤ 65535 := wf_range h
theorem rng_u32 {m : Int} (h : (Lit.int .u32 m).wf = true) : 0 ≤ m ∧ m ≤ 4294967295 := wf_range h
theorem rng_u64 {m : Int} (h : (Lit.int .u64 m).wf = true) : 0 ≤ m ∧ m ≤ 18446744073709551615 := wf_range h
end
end Go.Proofs.Ytfekcgnnhjmeiaa
