/- InuringComes: for every input the law returns true, and each argument reads as before. No conditions. The walk is written by a program (gen2), the plain law by hand. -/
import Derived.Test.YtfekcgnnhjmeiaaRows
import Derived.WalkKit
import Derived.ProofKit
import Derived.OpenShut
import Derived.ShutString
import Derived.ChangeOld
import Derived.Below
import Derived.Carry
import Derived.Test.YtfekcgnnhjmeiaaKTop
import Derived.Test.YtfekcgnnhjmeiaaKOpen2
import Derived.Test.YtfekcgnnhjmeiaaWInuringComes
import Derived.Test.YtfekcgnnhjmeiaaLInComes
namespace Go.Proofs.Ytfekcgnnhjmeiaa.inuringComes
open Go.ChangeShapes Go.WideShapes Go.ChangeAt Go.RowKit
set_option linter.unusedVariables false
set_option linter.unusedSimpArgs false

theorem own : ownKnob Try.prog.godebug = none := by kernel_rfl
theorem laidOut : laidOutB Try.prog = true := by kernel_rfl
theorem el3 {H : Type} {enc : TypeId × Value → H} {w : World} {spare : Nat → Bool} {held : Bool} : ∀ n cs y, DataW.trod enc Try.prog w 0 spare held n 3 cs = some y → ∃ a : Int, cs = encI .i64 a ∧ (Lit.int .i64 a).wf = true := el_int Try.underlying3
theorem walk (A0 : Option Addr) (n0 c0 : Nat) (x0 : List Int) (w : World) (f0 : (fV (lSlice (lInt .i64)) (.slice A0 n0 c0) x0).R w (fun b => b < w.heap.size)) (l0 : x0.length = n0) (m0 : n0 ≤ maxLen) (rr0 : ∀ a ∈ x0, (fun a => (Lit.int .i64 a).wf = true) a) :
    Calls Try.prog 4 #[.slice A0 n0 c0] w fun e w' => e = .returned (.bool true) ∧ Below w.heap.size w w' := by
  have hp := Pl.treatylaw29_InuringComes_law x0 (by rw [l0]; exact m0)
  refine calls_of_spec (W_treatylaw29_InuringComes x0 A0 n0 c0 true hp) (by rintro _ _ _ ⟨rfl, _, _⟩; rfl) w ?_
  intro g hg
  simp only [List.mem_cons, List.not_mem_nil, or_false] at hg
  rcases hg with rfl
  · exact f0
set_option maxRecDepth 100000 in
theorem lifted (os : Os) (started : os.Started) (H : Type) (enc : TypeId × Value → H) :
    ReturnsInHanded {} Try.checked os 4 .any (Rows.inuringComesSpec.pre6 enc Try.prog Try.f4 Rows.inuringComesRow.domain false) (Rows.inuringComesSpec.post enc Try.prog Try.f4 false true false false) := by
  refine returnsInHanded_of_change (C := Try.checked) own started (by kernel_rfl) Try.func4
    (ChangeSpec.witness6 (enc := enc) (C := Try.checked) false ⟨#[], #[.slice none 0 0], []⟩ 8 (by kernel_rfl) (by kernel_rfl) (by kernel_rfl) (by kernel_rfl)) ?_
  intro W base args ds gs before hval0 hW hcnd _
  have hval : ∀ (j : Nat) t v, Try.f4.params[j]? = some t → args[j]? = some v → Value.okWide Try.prog W .any base t v := hval0
  have hW' := hW
  obtain ⟨p, q, hA0, hV, rfl, hfz, hnd⟩ := hW
  have hA : DataW.TrodAll enc Try.prog W 0 (fun _ => true) true Try.f4.params.toList args.toList ds p := hA0
  rw [Try.params4] at hA hval
  obtain ⟨v0, vs0, d0, ds0, p0, q0, hargs, rfl, rfl, h0, r0⟩ := trodAll_cons hA
  obtain ⟨rfl, rfl, rfl⟩ := trodAll_nil r0
  obtain rfl : args = #[v0] := by cases args; simp_all
  obtain ⟨rfl, rfl⟩ := trodVars_none hV
  obtain ⟨A0, n0, c0, rfl⟩ := okWide_slice Try.underlying22 (hval 0 22 v0 rfl rfl)
  have k0 := h0
  have lt0 : ∀ x ∈ p0, x.block < W.heap.size := by obtain ⟨m, hm⟩ := k0; exact DataW.trod_lt m _ _ _ hm
  obtain ⟨fuel0, hf0⟩ := h0
  obtain ⟨A'0, n'0, c'0, x0, hcs0, f0, l0, m0, rr0⟩ := rows_fact (en := encI .i64) (z := 1) (hl := fun _ => rfl) (h1 := (fun _ u hu => ((lInt .i64)).one (w := W) (S := fun _ => True) rfl u hu)) (R := (fun a => (Lit.int .i64 a).wf = true)) Try.underlying22 (by kernel_rfl) (by decide) el3 hf0
  obtain ⟨rfl, rfl, rfl⟩ : A0 = A'0 ∧ n0 = n'0 ∧ c0 = c'0 := by simpa [Value.cells] using hcs0
  clear hA0 hval0
  refine (walk A0 n0 c0 x0 W f0 l0 m0 rr0).mono fun e W' ⟨he, bel⟩ => ?_
  subst he
  exact ⟨_, rfl, _, _, _, [], _, [], hW', trodAll_mk1 (shut_bool Try.underlying4 _), (trodAll_cons_mk (Below.trod laidOut (by kernel_rfl) (of_decide_eq_true (by kernel_rfl)) k0 bel lt0) trodAll_mk0), rfl, bel.frame _, fun h => by cases h⟩
theorem over : Rows.inuringComesRow.holds Try.pinned (OpenSpec.ofChange Rows.inuringComesSpec) :=
  OpenClaim.holds_of_wide 4 Try.f4 rfl rfl rfl rfl rfl rfl rfl ⟨rfl, rfl, rfl, rfl, rfl⟩ rfl rfl rfl rfl rfl (by kernel_rfl) Try.func4 (by kernel_rfl)
    (of_decide_eq_true (by kernel_rfl)) (by unfold Func.isWrapper; first | (rw [if_pos (by decide +kernel)]; kernel_rfl) | (rw [if_neg (by decide +kernel)]; exact ⟨rfl, rfl⟩))
    (fun os started H enc _ => lifted os started H enc)
theorem proved : Rows.InuringComesSaid := over
end Go.Proofs.Ytfekcgnnhjmeiaa.inuringComes

namespace Go.Proofs.Ytfekcgnnhjmeiaa
theorem inuringComes_holds : Rows.InuringComesSaid := inuringComes.proved
#print axioms inuringComes_holds
end Go.Proofs.Ytfekcgnnhjmeiaa
