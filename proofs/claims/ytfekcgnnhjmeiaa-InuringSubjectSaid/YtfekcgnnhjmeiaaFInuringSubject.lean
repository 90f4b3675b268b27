/- InuringSubject: for every input the law returns true, and each argument reads as before. No conditions. The walk is written by a program (gen2), the plain law by hand. -/
import Derived.Test.YtfekcgnnhjmeiaaRows
import Derived.WalkKit
import Derived.ProofKit
import Derived.OpenShut
import Derived.ShutString
import Derived.ChangeOld
import Derived.Below
import Derived.Carry
import Derived.Test.YtfekcgnnhjmeiaaKTop
import Derived.Test.YtfekcgnnhjmeiaaKOpen2
import Derived.Test.YtfekcgnnhjmeiaaWInuringSubject
import Derived.Test.YtfekcgnnhjmeiaaLInSubject
namespace Go.Proofs.Ytfekcgnnhjmeiaa.inuringSubject
open Go.ChangeShapes Go.WideShapes Go.ChangeAt Go.RowKit
set_option linter.unusedVariables false
set_option linter.unusedSimpArgs false

theorem own : ownKnob Try.prog.godebug = none := by kernel_rfl
theorem laidOut : laidOutB Try.prog = true := by kernel_rfl
theorem el3 {H : Type} {enc : TypeId × Value → H} {w : World} {spare : Nat → Bool} {held : Bool} : ∀ n cs y, DataW.trod enc Try.prog w 0 spare held n 3 cs = some y → ∃ a : Int, cs = encI .i64 a ∧ (Lit.int .i64 a).wf = true := el_int Try.underlying3
theorem walk (A0 : Option Addr) (n0 c0 : Nat) (x0 : List Int) (a1 : Int) (a2 : Int) (A3 : Option Addr) (n3 c3 : Nat) (x3 : List Int) (w : World) (f0 : (fV (lSlice (lInt .i64)) (.slice A0 n0 c0) x0).R w (fun b => b < w.heap.size)) (l0 : x0.length = n0) (m0 : n0 ≤ maxLen) (rr0 : ∀ a ∈ x0, (fun a => (Lit.int .i64 a).wf = true) a) (w1 : (Lit.int .i64 a1).wf = true) (w2 : (Lit.int .i64 a2).wf = true) (f3 : (fV (lSlice (lInt .i64)) (.slice A3 n3 c3) x3).R w (fun b => b < w.heap.size)) (l3 : x3.length = n3) (m3 : n3 ≤ maxLen) (rr3 : ∀ a ∈ x3, (fun a => (Lit.int .i64 a).wf = true) a) :
    Calls Try.prog 6 #[.slice A0 n0 c0, .int .i64 a1, .int .i64 a2, .slice A3 n3 c3] w fun e w' => e = .returned (.bool true) ∧ Below w.heap.size w w' := by
  have hp := Pl.treatylaw29_InuringSubject_law x0 a1 a2 x3 (by rw [l0]; exact m0) (by rw [l3]; exact m3)
  refine calls_of_spec (W_treatylaw29_InuringSubject x0 a1 a2 x3 A0 n0 c0 A3 n3 c3 true hp) (by rintro _ _ _ ⟨rfl, _, _⟩; rfl) w ?_
  intro g hg
  simp only [List.mem_cons, List.not_mem_nil, or_false] at hg
  rcases hg with rfl | rfl
  · exact f0
  · exact f3
set_option maxRecDepth 100000 in
theorem lifted (os : Os) (started : os.Started) (H : Type) (enc : TypeId × Value → H) :
    ReturnsInHanded {} Try.checked os 6 .any (Rows.inuringSubjectSpec.pre6 enc Try.prog Try.f6 Rows.inuringSubjectRow.domain false) (Rows.inuringSubjectSpec.post enc Try.prog Try.f6 false true false false) := by
  refine returnsInHanded_of_change (C := Try.checked) own started (by kernel_rfl) Try.func6
    (ChangeSpec.witness6 (enc := enc) (C := Try.checked) false ⟨#[], #[.slice none 0 0, .int .i64 0, .int .i64 0, .slice none 0 0], []⟩ 8 (by kernel_rfl) (by kernel_rfl) (by kernel_rfl) (by kernel_rfl)) ?_
  intro W base args ds gs before hval0 hW hcnd _
  have hval : ∀ (j : Nat) t v, Try.f6.params[j]? = some t → args[j]? = some v → Value.okWide Try.prog W .any base t v := hval0
  have hW' := hW
  obtain ⟨p, q, hA0, hV, rfl, hfz, hnd⟩ := hW
  have hA : DataW.TrodAll enc Try.prog W 0 (fun _ => true) true Try.f6.params.toList args.toList ds p := hA0
  rw [Try.params6] at hA hval
  obtain ⟨v0, vs0, d0, ds0, p0, q0, hargs, rfl, rfl, h0, r0⟩ := trodAll_cons hA
  obtain ⟨v1, vs1, d1, ds1, p1, q1, rfl, rfl, rfl, h1, r1⟩ := trodAll_cons r0
  obtain ⟨v2, vs2, d2, ds2, p2, q2, rfl, rfl, rfl, h2, r2⟩ := trodAll_cons r1
  obtain ⟨v3, vs3, d3, ds3, p3, q3, rfl, rfl, rfl, h3, r3⟩ := trodAll_cons r2
  obtain ⟨rfl, rfl, rfl⟩ := trodAll_nil r3
  obtain rfl : args = #[v0, v1, v2, v3] := by cases args; simp_all
  obtain ⟨rfl, rfl⟩ := trodVars_none hV
  obtain ⟨A0, n0, c0, rfl⟩ := okWide_slice Try.underlying22 (hval 0 22 v0 rfl rfl)
  have k0 := h0
  have lt0 : ∀ x ∈ p0, x.block < W.heap.size := by obtain ⟨m, hm⟩ := k0; exact DataW.trod_lt m _ _ _ hm
  obtain ⟨fuel0, hf0⟩ := h0
  obtain ⟨A'0, n'0, c'0, x0, hcs0, f0, l0, m0, rr0⟩ := rows_fact (en := encI .i64) (z := 1) (hl := fun _ => rfl) (h1 := (fun _ u hu => ((lInt .i64)).one (w := W) (S := fun _ => True) rfl u hu)) (R := (fun a => (Lit.int .i64 a).wf = true)) Try.underlying22 (by kernel_rfl) (by decide) el3 hf0
  obtain ⟨rfl, rfl, rfl⟩ : A0 = A'0 ∧ n0 = n'0 ∧ c0 = c'0 := by simpa [Value.cells] using hcs0
  obtain ⟨a1, rfl, rfl, rfl, w1⟩ := open_int Try.underlying3 (hval 1 3 v1 rfl rfl) h1
  obtain ⟨a2, rfl, rfl, rfl, w2⟩ := open_int Try.underlying3 (hval 2 3 v2 rfl rfl) h2
  obtain ⟨A3, n3, c3, rfl⟩ := okWide_slice Try.underlying22 (hval 3 22 v3 rfl rfl)
  have k3 := h3
  have lt3 : ∀ x ∈ p3, x.block < W.heap.size := by obtain ⟨m, hm⟩ := k3; exact DataW.trod_lt m _ _ _ hm
  obtain ⟨fuel3, hf3⟩ := h3
  obtain ⟨A'3, n'3, c'3, x3, hcs3, f3, l3, m3, rr3⟩ := rows_fact (en := encI .i64) (z := 1) (hl := fun _ => rfl) (h1 := (fun _ u hu => ((lInt .i64)).one (w := W) (S := fun _ => True) rfl u hu)) (R := (fun a => (Lit.int .i64 a).wf = true)) Try.underlying22 (by kernel_rfl) (by decide) el3 hf3
  obtain ⟨rfl, rfl, rfl⟩ : A3 = A'3 ∧ n3 = n'3 ∧ c3 = c'3 := by simpa [Value.cells] using hcs3
  clear hA0 hval0
  refine (walk A0 n0 c0 x0 a1 a2 A3 n3 c3 x3 W f0 l0 m0 rr0 w1 w2 f3 l3 m3 rr3).mono fun e W' ⟨he, bel⟩ => ?_
  subst he
  exact ⟨_, rfl, _, _, _, [], _, [], hW', trodAll_mk1 (shut_bool Try.underlying4 _), (trodAll_cons_mk (Below.trod laidOut (by kernel_rfl) (of_decide_eq_true (by kernel_rfl)) k0 bel lt0) (trodAll_cons_mk (shut_int Try.underlying3 w1) (trodAll_cons_mk (shut_int Try.underlying3 w2) (trodAll_cons_mk (Below.trod laidOut (by kernel_rfl) (of_decide_eq_true (by kernel_rfl)) k3 bel lt3) trodAll_mk0)))), rfl, bel.frame _, fun h => by cases h⟩
theorem over : Rows.inuringSubjectRow.holds Try.pinned (OpenSpec.ofChange Rows.inuringSubjectSpec) :=
  OpenClaim.holds_of_wide 6 Try.f6 rfl rfl rfl rfl rfl rfl rfl ⟨rfl, rfl, rfl, rfl, rfl⟩ rfl rfl rfl rfl rfl (by kernel_rfl) Try.func6 (by kernel_rfl)
    (of_decide_eq_true (by kernel_rfl)) (by unfold Func.isWrapper; first | (rw [if_pos (by decide +kernel)]; kernel_rfl) | (rw [if_neg (by decide +kernel)]; exact ⟨rfl, rfl⟩))
    (fun os started H enc _ => lifted os started H enc)
theorem proved : Rows.InuringSubjectSaid := over
end Go.Proofs.Ytfekcgnnhjmeiaa.inuringSubject

namespace Go.Proofs.Ytfekcgnnhjmeiaa
theorem inuringSubject_holds : Rows.InuringSubjectSaid := inuringSubject.proved
#print axioms inuringSubject_holds
end Go.Proofs.Ytfekcgnnhjmeiaa
