/- InsolvencyDistribute: for every input the law returns true, and each argument reads as before. No conditions. The walk is written by a program (gen2), the plain law by hand. -/
import Derived.Test.YtoodneljjhbfhaaRows
import Derived.WalkKit
import Derived.ProofKit
import Derived.OpenShut
import Derived.ShutString
import Derived.ChangeOld
import Derived.Below
import Derived.Carry
import Derived.Test.YtoodneljjhbfhaaKOpen
import Derived.Test.YtoodneljjhbfhaaWInsolvencyDistribute
import Derived.Test.YtoodneljjhbfhaaLInsDistribute
namespace Go.Proofs.Ytoodneljjhbfhaa.insolvencyDistribute
open Go.ChangeShapes Go.WideShapes Go.ChangeAt Go.RowKit
set_option linter.unusedVariables false
set_option linter.unusedSimpArgs false

theorem own : ownKnob Try.prog.godebug = none := by kernel_rfl
theorem laidOut : laidOutB Try.prog = true := by kernel_rfl
def RGMutual (x : GMutual) : Prop := (Lit.int .i64 x.Party).wf = true ∧ (Lit.int .i64 x.Owed).wf = true ∧ (Lit.int .i64 x.Owes).wf = true ∧ True
set_option maxRecDepth 100000 in
theorem el48 {H : Type} {enc : TypeId × Value → H} {w : World} {spare : Nat → Bool} {held : Bool} : ∀ n cs y, DataW.trod enc Try.prog w 0 spare held n 48 cs = some y → ∃ a : GMutual, cs = encGMutual a ∧ RGMutual a := fun n cs y h => by
  obtain ⟨xs, q, _, _, hl, hxl, hf⟩ := DataW.trod_struct Try.underlying48 h
  have hz : Try.prog.cellsOf 48 = 3 := by kernel_rfl
  rw [hz] at hl
  match cs, hl with
  | [c0, c1, c2], _ =>
    have g0 : DataW.trod enc Try.prog w 0 spare held q 3 ((([c0, c1, c2] : List Value).drop 0).take (Try.prog.cellsOf 3)) = xs[0]? := hf 0 _ rfl
    have z0 : Try.prog.cellsOf 3 = 1 := by kernel_rfl
    rw [List.getElem?_eq_getElem (by rw [hxl]; decide)] at g0
    rw [z0] at g0
    have g1 : DataW.trod enc Try.prog w 0 spare held q 3 ((([c0, c1, c2] : List Value).drop 1).take (Try.prog.cellsOf 3)) = xs[1]? := hf 1 _ rfl
    have z1 : Try.prog.cellsOf 3 = 1 := by kernel_rfl
    rw [List.getElem?_eq_getElem (by rw [hxl]; decide)] at g1
    rw [z1] at g1
    have g2 : DataW.trod enc Try.prog w 0 spare held q 3 ((([c0, c1, c2] : List Value).drop 2).take (Try.prog.cellsOf 3)) = xs[2]? := hf 2 _ rfl
    have z2 : Try.prog.cellsOf 3 = 1 := by kernel_rfl
    rw [List.getElem?_eq_getElem (by rw [hxl]; decide)] at g2
    rw [z2] at g2
    obtain ⟨m0, e0, _, w0⟩ := DataW.trod_int Try.underlying3 g0
    obtain rfl : c0 = .int .i64 m0 := by simpa using e0
    obtain ⟨m1, e1, _, w1⟩ := DataW.trod_int Try.underlying3 g1
    obtain rfl : c1 = .int .i64 m1 := by simpa using e1
    obtain ⟨m2, e2, _, w2⟩ := DataW.trod_int Try.underlying3 g2
    obtain rfl : c2 = .int .i64 m2 := by simpa using e2
    exact ⟨⟨m0, m1, m2⟩, rfl, w0, w1, w2, trivial⟩
theorem el3 {H : Type} {enc : TypeId × Value → H} {w : World} {spare : Nat → Bool} {held : Bool} : ∀ n cs y, DataW.trod enc Try.prog w 0 spare held n 3 cs = some y → ∃ a : Int, cs = encI .i64 a ∧ (Lit.int .i64 a).wf = true := el_int Try.underlying3
theorem walk (a0 : Int) (A1 : Option Addr) (n1 c1 : Nat) (x1 : List GMutual) (A2 : Option Addr) (n2 c2 : Nat) (x2 : List Int) (w : World) (w0 : (Lit.int .i64 a0).wf = true) (f1 : (fV (lSlice lGMutual) (.slice A1 n1 c1) x1).R w (fun b => b < w.heap.size)) (l1 : x1.length = n1) (m1 : n1 ≤ maxLen) (rr1 : ∀ a ∈ x1, RGMutual a) (f2 : (fV (lSlice (lInt .i64)) (.slice A2 n2 c2) x2).R w (fun b => b < w.heap.size)) (l2 : x2.length = n2) (m2 : n2 ≤ maxLen) (rr2 : ∀ a ∈ x2, (fun a => (Lit.int .i64 a).wf = true) a) :
    Calls Try.prog 6 #[.int .i64 a0, .slice A1 n1 c1, .slice A2 n2 c2] w fun e w' => e = .returned (.bool true) ∧ Below w.heap.size w w' := by
  have hp := Pl.treatylaw38_InsolvencyDistribute_law a0 x1 x2 (by rw [l2]; exact m2)
  refine calls_of_spec (W_treatylaw38_InsolvencyDistribute a0 x1 x2 A1 n1 c1 A2 n2 c2 true hp) (by rintro _ _ _ ⟨rfl, _, _⟩; rfl) w ?_
  intro g hg
  simp only [List.mem_cons, List.not_mem_nil, or_false] at hg
  rcases hg with rfl | rfl
  · exact f1
  · exact f2
set_option maxRecDepth 100000 in
theorem lifted (os : Os) (started : os.Started) (H : Type) (enc : TypeId × Value → H) :
    ReturnsInHanded {} Try.checked os 6 .any (Rows.insolvencyDistributeSpec.pre6 enc Try.prog Try.f6 Rows.insolvencyDistributeRow.domain false) (Rows.insolvencyDistributeSpec.post enc Try.prog Try.f6 false true false false) := by
  refine returnsInHanded_of_change (C := Try.checked) own started (by kernel_rfl) Try.func6
    (ChangeSpec.witness6 (enc := enc) (C := Try.checked) false ⟨#[], #[.int .i64 0, .slice none 0 0, .slice none 0 0], []⟩ 8 (by kernel_rfl) (by kernel_rfl) (by kernel_rfl) (by kernel_rfl)) ?_
  intro W base args ds gs before hval0 hW hcnd _
  have hval : ∀ (j : Nat) t v, Try.f6.params[j]? = some t → args[j]? = some v → Value.okWide Try.prog W .any base t v := hval0
  have hW' := hW
  obtain ⟨p, q, hA0, hV, rfl, hfz, hnd⟩ := hW
  have hA : DataW.TrodAll enc Try.prog W 0 (fun _ => true) true Try.f6.params.toList args.toList ds p := hA0
  rw [Try.params6] at hA hval
  obtain ⟨v0, vs0, d0, ds0, p0, q0, hargs, rfl, rfl, h0, r0⟩ := trodAll_cons hA
  obtain ⟨v1, vs1, d1, ds1, p1, q1, rfl, rfl, rfl, h1, r1⟩ := trodAll_cons r0
  obtain ⟨v2, vs2, d2, ds2, p2, q2, rfl, rfl, rfl, h2, r2⟩ := trodAll_cons r1
  obtain ⟨rfl, rfl, rfl⟩ := trodAll_nil r2
  obtain rfl : args = #[v0, v1, v2] := by cases args; simp_all
  obtain ⟨rfl, rfl⟩ := trodVars_none hV
  obtain ⟨a0, rfl, rfl, rfl, w0⟩ := open_int Try.underlying3 (hval 0 3 v0 rfl rfl) h0
  obtain ⟨A1, n1, c1, rfl⟩ := okWide_slice Try.underlying36 (hval 1 36 v1 rfl rfl)
  have k1 := h1
  have lt1 : ∀ x ∈ p1, x.block < W.heap.size := by obtain ⟨m, hm⟩ := k1; exact DataW.trod_lt m _ _ _ hm
  obtain ⟨fuel1, hf1⟩ := h1
  obtain ⟨A'1, n'1, c'1, x1, hcs1, f1, l1, m1, rr1⟩ := rows_fact (en := encGMutual) (z := 3) (hl := fun _ => rfl) (h1 := (fun _ u hu => (lGMutual).one (w := W) (S := fun _ => True) rfl u hu)) (R := RGMutual) Try.underlying36 (by kernel_rfl) (by decide) el48 hf1
  obtain ⟨rfl, rfl, rfl⟩ : A1 = A'1 ∧ n1 = n'1 ∧ c1 = c'1 := by simpa [Value.cells] using hcs1
  obtain ⟨A2, n2, c2, rfl⟩ := okWide_slice Try.underlying22 (hval 2 22 v2 rfl rfl)
  have k2 := h2
  have lt2 : ∀ x ∈ p2, x.block < W.heap.size := by obtain ⟨m, hm⟩ := k2; exact DataW.trod_lt m _ _ _ hm
  obtain ⟨fuel2, hf2⟩ := h2
  obtain ⟨A'2, n'2, c'2, x2, hcs2, f2, l2, m2, rr2⟩ := rows_fact (en := encI .i64) (z := 1) (hl := fun _ => rfl) (h1 := (fun _ u hu => ((lInt .i64)).one (w := W) (S := fun _ => True) rfl u hu)) (R := (fun a => (Lit.int .i64 a).wf = true)) Try.underlying22 (by kernel_rfl) (by decide) el3 hf2
  obtain ⟨rfl, rfl, rfl⟩ : A2 = A'2 ∧ n2 = n'2 ∧ c2 = c'2 := by simpa [Value.cells] using hcs2
  clear hA0 hval0
  refine (walk a0 A1 n1 c1 x1 A2 n2 c2 x2 W w0 f1 l1 m1 rr1 f2 l2 m2 rr2).mono fun e W' ⟨he, bel⟩ => ?_
  subst he
  exact ⟨_, rfl, _, _, _, [], _, [], hW', trodAll_mk1 (shut_bool Try.underlying4 _), (trodAll_cons_mk (shut_int Try.underlying3 w0) (trodAll_cons_mk (Below.trod laidOut (by kernel_rfl) (of_decide_eq_true (by kernel_rfl)) k1 bel lt1) (trodAll_cons_mk (Below.trod laidOut (by kernel_rfl) (of_decide_eq_true (by kernel_rfl)) k2 bel lt2) trodAll_mk0))), rfl, bel.frame _, fun h => by cases h⟩
theorem over : Rows.insolvencyDistributeRow.holds Try.pinned (OpenSpec.ofChange Rows.insolvencyDistributeSpec) :=
  OpenClaim.holds_of_wide 6 Try.f6 rfl rfl rfl rfl rfl rfl rfl ⟨rfl, rfl, rfl, rfl, rfl⟩ rfl rfl rfl rfl rfl (by kernel_rfl) Try.func6 (by kernel_rfl)
    (of_decide_eq_true (by kernel_rfl)) (by unfold Func.isWrapper; first | (rw [if_pos (by decide +kernel)]; kernel_rfl) | (rw [if_neg (by decide +kernel)]; exact ⟨rfl, rfl⟩))
    (fun os started H enc _ => lifted os started H enc)
theorem proved : Rows.InsolvencyDistributeSaid := over
end Go.Proofs.Ytoodneljjhbfhaa.insolvencyDistribute

namespace Go.Proofs.Ytoodneljjhbfhaa
theorem insolvencyDistribute_holds : Rows.InsolvencyDistributeSaid := insolvencyDistribute.proved
#print axioms insolvencyDistribute_holds
end Go.Proofs.Ytoodneljjhbfhaa
