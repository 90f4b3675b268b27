/- InsolvencyCheck: for every input the law returns true, and each argument reads as before. No conditions. The walk is written by a program (gen2), the plain law by hand. -/
import Derived.Test.YtoodneljjhbfhaaRows
import Derived.WalkKit
import Derived.ProofKit
import Derived.OpenShut
import Derived.ShutString
import Derived.ChangeOld
import Derived.Below
import Derived.Carry
import Derived.Test.YtoodneljjhbfhaaKOpen
import Derived.Test.YtoodneljjhbfhaaWInsolvencyCheck
import Derived.Test.YtoodneljjhbfhaaLInsCheck
namespace Go.Proofs.Ytoodneljjhbfhaa.insolvencyCheck
open Go.ChangeShapes Go.WideShapes Go.ChangeAt Go.RowKit
set_option linter.unusedVariables false
set_option linter.unusedSimpArgs false

theorem own : ownKnob Try.prog.godebug = none := by kernel_rfl
theorem laidOut : laidOutB Try.prog = true := by kernel_rfl
def RGMutual (x : GMutual) : Prop := (Lit.int .i64 x.Party).wf = true ∧ (Lit.int .i64 x.Owed).wf = true ∧ (Lit.int .i64 x.Owes).wf = true ∧ True
set_option maxRecDepth 100000 in
theorem el48 {H : Type} {enc : TypeId × Value → H} {w : World} {spare : Nat → Bool} {held : Bool} : ∀ n cs y, DataW.trod enc Try.prog w 0 spare held n 48 cs = some y → ∃ a : GMutual, cs = encGMutual a ∧ RGMutual a := fun n cs y h => by
  obtain ⟨xs, q, _, _, hl, hxl, hf⟩ := DataW.trod_struct Try.underlying48 h
  have hz : Try.prog.cellsOf 48 = 3 := by kernel_rfl
  rw [hz] at hl
  match cs, hl with
  | [c0, c1, c2], _ =>
    have g0 : DataW.trod enc Try.prog w 0 spare held q 3 ((([c0, c1, c2] : List Value).drop 0).take (Try.prog.cellsOf 3)) = xs[0]? := hf 0 _ rfl
    have z0 : Try.prog.cellsOf 3 = 1 := by kernel_rfl
    rw [List.getElem?_eq_getElem (by rw [hxl]; decide)] at g0
    rw [z0] at g0
    have g1 : DataW.trod enc Try.prog w 0 spare held q 3 ((([c0, c1, c2] : List Value).drop 1).take (Try.prog.cellsOf 3)) = xs[1]? := hf 1 _ rfl
    have z1 : Try.prog.cellsOf 3 = 1 := by kernel_rfl
    rw [List.getElem?_eq_getElem (by rw [hxl]; decide)] at g1
    rw [z1] at g1
    have g2 : DataW.trod enc Try.prog w 0 spare held q 3 ((([c0, c1, c2] : List Value).drop 2).take (Try.prog.cellsOf 3)) = xs[2]? := hf 2 _ rfl
    have z2 : Try.prog.cellsOf 3 = 1 := by kernel_rfl
    rw [List.getElem?_eq_getElem (by rw [hxl]; decide)] at g2
    rw [z2] at g2
    obtain ⟨m0, e0, _, w0⟩ := DataW.trod_int Try.underlying3 g0
    obtain rfl : c0 = .int .i64 m0 := by simpa using e0
    obtain ⟨m1, e1, _, w1⟩ := DataW.trod_int Try.underlying3 g1
    obtain rfl : c1 = .int .i64 m1 := by simpa using e1
    obtain ⟨m2, e2, _, w2⟩ := DataW.trod_int Try.underlying3 g2
    obtain rfl : c2 = .int .i64 m2 := by simpa using e2
    exact ⟨⟨m0, m1, m2⟩, rfl, w0, w1, w2, trivial⟩
def RGDividend (x : GDividend) : Prop := (Lit.int .i64 x.Party).wf = true ∧ (Lit.int .i64 x.SetOff).wf = true ∧ (Lit.int .i64 x.Gets).wf = true ∧ (Lit.int .i64 x.Pays).wf = true ∧ (Lit.int .i64 x.Unpaid).wf = true ∧ True
set_option maxRecDepth 100000 in
theorem el46 {H : Type} {enc : TypeId × Value → H} {w : World} {spare : Nat → Bool} {held : Bool} : ∀ n cs y, DataW.trod enc Try.prog w 0 spare held n 46 cs = some y → ∃ a : GDividend, cs = encGDividend a ∧ RGDividend a := fun n cs y h => by
  obtain ⟨xs, q, _, _, hl, hxl, hf⟩ := DataW.trod_struct Try.underlying46 h
  have hz : Try.prog.cellsOf 46 = 5 := by kernel_rfl
  rw [hz] at hl
  match cs, hl with
  | [c0, c1, c2, c3, c4], _ =>
    have g0 : DataW.trod enc Try.prog w 0 spare held q 3 ((([c0, c1, c2, c3, c4] : List Value).drop 0).take (Try.prog.cellsOf 3)) = xs[0]? := hf 0 _ rfl
    have z0 : Try.prog.cellsOf 3 = 1 := by kernel_rfl
    rw [List.getElem?_eq_getElem (by rw [hxl]; decide)] at g0
    rw [z0] at g0
    have g1 : DataW.trod enc Try.prog w 0 spare held q 3 ((([c0, c1, c2, c3, c4] : List Value).drop 1).take (Try.prog.cellsOf 3)) = xs[1]? := hf 1 _ rfl
    have z1 : Try.prog.cellsOf 3 = 1 := by kernel_rfl
    rw [List.getElem?_eq_getElem (by rw [hxl]; decide)] at g1
    rw [z1] at g1
    have g2 : DataW.trod enc Try.prog w 0 spare held q 3 ((([c0, c1, c2, c3, c4] : List Value).drop 2).take (Try.prog.cellsOf 3)) = xs[2]? := hf 2 _ rfl
    have z2 : Try.prog.cellsOf 3 = 1 := by kernel_rfl
    rw [List.getElem?_eq_getElem (by rw [hxl]; decide)] at g2
    rw [z2] at g2
    have g3 : DataW.trod enc Try.prog w 0 spare held q 3 ((([c0, c1, c2, c3, c4] : List Value).drop 3).take (Try.prog.cellsOf 3)) = xs[3]? := hf 3 _ rfl
    have z3 : Try.prog.cellsOf 3 = 1 := by kernel_rfl
    rw [List.getElem?_eq_getElem (by rw [hxl]; decide)] at g3
    rw [z3] at g3
    have g4 : DataW.trod enc Try.prog w 0 spare held q 3 ((([c0, c1, c2, c3, c4] : List Value).drop 4).take (Try.prog.cellsOf 3)) = xs[4]? := hf 4 _ rfl
    have z4 : Try.prog.cellsOf 3 = 1 := by kernel_rfl
    rw [List.getElem?_eq_getElem (by rw [hxl]; decide)] at g4
    rw [z4] at g4
    obtain ⟨m0, e0, _, w0⟩ := DataW.trod_int Try.underlying3 g0
    obtain rfl : c0 = .int .i64 m0 := by simpa using e0
    obtain ⟨m1, e1, _, w1⟩ := DataW.trod_int Try.underlying3 g1
    obtain rfl : c1 = .int .i64 m1 := by simpa using e1
    obtain ⟨m2, e2, _, w2⟩ := DataW.trod_int Try.underlying3 g2
    obtain rfl : c2 = .int .i64 m2 := by simpa using e2
    obtain ⟨m3, e3, _, w3⟩ := DataW.trod_int Try.underlying3 g3
    obtain rfl : c3 = .int .i64 m3 := by simpa using e3
    obtain ⟨m4, e4, _, w4⟩ := DataW.trod_int Try.underlying3 g4
    obtain rfl : c4 = .int .i64 m4 := by simpa using e4
    exact ⟨⟨m0, m1, m2, m3, m4⟩, rfl, w0, w1, w2, w3, w4, trivial⟩
theorem el3 {H : Type} {enc : TypeId × Value → H} {w : World} {spare : Nat → Bool} {held : Bool} : ∀ n cs y, DataW.trod enc Try.prog w 0 spare held n 3 cs = some y → ∃ a : Int, cs = encI .i64 a ∧ (Lit.int .i64 a).wf = true := el_int Try.underlying3
theorem walk (a0 : Int) (A1 : Option Addr) (n1 c1 : Nat) (x1 : List GMutual) (A2 : Option Addr) (n2 c2 : Nat) (x2 : List GDividend) (a3 : Int) (A4 : Option Addr) (n4 c4 : Nat) (x4 : List Int) (a5 : Int) (a6 : Int) (w : World) (w0 : (Lit.int .i64 a0).wf = true) (f1 : (fV (lSlice lGMutual) (.slice A1 n1 c1) x1).R w (fun b => b < w.heap.size)) (l1 : x1.length = n1) (m1 : n1 ≤ maxLen) (rr1 : ∀ a ∈ x1, RGMutual a) (f2 : (fV (lSlice lGDividend) (.slice A2 n2 c2) x2).R w (fun b => b < w.heap.size)) (l2 : x2.length = n2) (m2 : n2 ≤ maxLen) (rr2 : ∀ a ∈ x2, RGDividend a) (w3 : (Lit.int .i64 a3).wf = true) (f4 : (fV (lSlice (lInt .i64)) (.slice A4 n4 c4) x4).R w (fun b => b < w.heap.size)) (l4 : x4.length = n4) (m4 : n4 ≤ maxLen) (rr4 : ∀ a ∈ x4, (fun a => (Lit.int .i64 a).wf = true) a) (w5 : (Lit.int .i64 a5).wf = true) (w6 : (Lit.int .i64 a6).wf = true) :
    Calls Try.prog 12 #[.int .i64 a0, .slice A1 n1 c1, .slice A2 n2 c2, .int .i64 a3, .slice A4 n4 c4, .int .i64 a5, .int .i64 a6] w fun e w' => e = .returned (.bool true) ∧ Below w.heap.size w w' := by
  have hp := Pl.treatylaw38_InsolvencyCheck_law a0 x1 x2 a3 x4 a5 a6 (by rw [l4]; exact m4)
  refine calls_of_spec (W_treatylaw38_InsolvencyCheck a0 x1 x2 a3 x4 a5 a6 A1 n1 c1 A2 n2 c2 A4 n4 c4 true hp) (by rintro _ _ _ ⟨rfl, _, _⟩; rfl) w ?_
  intro g hg
  simp only [List.mem_cons, List.not_mem_nil, or_false] at hg
  rcases hg with rfl | rfl | rfl
  · exact f1
  · exact f2
  · exact f4
set_option maxRecDepth 100000 in
theorem lifted (os : Os) (started : os.Started) (H : Type) (enc : TypeId × Value → H) :
    ReturnsInHanded {} Try.checked os 12 .any (Rows.insolvencyCheckSpec.pre6 enc Try.prog Try.f12 Rows.insolvencyCheckRow.domain false) (Rows.insolvencyCheckSpec.post enc Try.prog Try.f12 false true false false) := by
  refine returnsInHanded_of_change (C := Try.checked) own started (by kernel_rfl) Try.func12
    (ChangeSpec.witness6 (enc := enc) (C := Try.checked) false ⟨#[], #[.int .i64 0, .slice none 0 0, .slice none 0 0, .int .i64 0, .slice none 0 0, .int .i64 0, .int .i64 0], []⟩ 8 (by kernel_rfl) (by kernel_rfl) (by kernel_rfl) (by kernel_rfl)) ?_
  intro W base args ds gs before hval0 hW hcnd _
  have hval : ∀ (j : Nat) t v, Try.f12.params[j]? = some t → args[j]? = some v → Value.okWide Try.prog W .any base t v := hval0
  have hW' := hW
  obtain ⟨p, q, hA0, hV, rfl, hfz, hnd⟩ := hW
  have hA : DataW.TrodAll enc Try.prog W 0 (fun _ => true) true Try.f12.params.toList args.toList ds p := hA0
  rw [Try.params12] at hA hval
  obtain ⟨v0, vs0, d0, ds0, p0, q0, hargs, rfl, rfl, h0, r0⟩ := trodAll_cons hA
  obtain ⟨v1, vs1, d1, ds1, p1, q1, rfl, rfl, rfl, h1, r1⟩ := trodAll_cons r0
  obtain ⟨v2, vs2, d2, ds2, p2, q2, rfl, rfl, rfl, h2, r2⟩ := trodAll_cons r1
  obtain ⟨v3, vs3, d3, ds3, p3, q3, rfl, rfl, rfl, h3, r3⟩ := trodAll_cons r2
  obtain ⟨v4, vs4, d4, ds4, p4, q4, rfl, rfl, rfl, h4, r4⟩ := trodAll_cons r3
  obtain ⟨v5, vs5, d5, ds5, p5, q5, rfl, rfl, rfl, h5, r5⟩ := trodAll_cons r4
  obtain ⟨v6, vs6, d6, ds6, p6, q6, rfl, rfl, rfl, h6, r6⟩ := trodAll_cons r5
  obtain ⟨rfl, rfl, rfl⟩ := trodAll_nil r6
  obtain rfl : args = #[v0, v1, v2, v3, v4, v5, v6] := by cases args; simp_all
  obtain ⟨rfl, rfl⟩ := trodVars_none hV
  obtain ⟨a0, rfl, rfl, rfl, w0⟩ := open_int Try.underlying3 (hval 0 3 v0 rfl rfl) h0
  obtain ⟨A1, n1, c1, rfl⟩ := okWide_slice Try.underlying36 (hval 1 36 v1 rfl rfl)
  have k1 := h1
  have lt1 : ∀ x ∈ p1, x.block < W.heap.size := by obtain ⟨m, hm⟩ := k1; exact DataW.trod_lt m _ _ _ hm
  obtain ⟨fuel1, hf1⟩ := h1
  obtain ⟨A'1, n'1, c'1, x1, hcs1, f1, l1, m1, rr1⟩ := rows_fact (en := encGMutual) (z := 3) (hl := fun _ => rfl) (h1 := (fun _ u hu => (lGMutual).one (w := W) (S := fun _ => True) rfl u hu)) (R := RGMutual) Try.underlying36 (by kernel_rfl) (by decide) el48 hf1
  obtain ⟨rfl, rfl, rfl⟩ : A1 = A'1 ∧ n1 = n'1 ∧ c1 = c'1 := by simpa [Value.cells] using hcs1
  obtain ⟨A2, n2, c2, rfl⟩ := okWide_slice Try.underlying39 (hval 2 39 v2 rfl rfl)
  have k2 := h2
  have lt2 : ∀ x ∈ p2, x.block < W.heap.size := by obtain ⟨m, hm⟩ := k2; exact DataW.trod_lt m _ _ _ hm
  obtain ⟨fuel2, hf2⟩ := h2
  obtain ⟨A'2, n'2, c'2, x2, hcs2, f2, l2, m2, rr2⟩ := rows_fact (en := encGDividend) (z := 5) (hl := fun _ => rfl) (h1 := (fun _ u hu => (lGDividend).one (w := W) (S := fun _ => True) rfl u hu)) (R := RGDividend) Try.underlying39 (by kernel_rfl) (by decide) el46 hf2
  obtain ⟨rfl, rfl, rfl⟩ : A2 = A'2 ∧ n2 = n'2 ∧ c2 = c'2 := by simpa [Value.cells] using hcs2
  obtain ⟨a3, rfl, rfl, rfl, w3⟩ := open_int Try.underlying3 (hval 3 3 v3 rfl rfl) h3
  obtain ⟨A4, n4, c4, rfl⟩ := okWide_slice Try.underlying22 (hval 4 22 v4 rfl rfl)
  have k4 := h4
  have lt4 : ∀ x ∈ p4, x.block < W.heap.size := by obtain ⟨m, hm⟩ := k4; exact DataW.trod_lt m _ _ _ hm
  obtain ⟨fuel4, hf4⟩ := h4
  obtain ⟨A'4, n'4, c'4, x4, hcs4, f4, l4, m4, rr4⟩ := rows_fact (en := encI .i64) (z := 1) (hl := fun _ => rfl) (h1 := (fun _ u hu => ((lInt .i64)).one (w := W) (S := fun _ => True) rfl u hu)) (R := (fun a => (Lit.int .i64 a).wf = true)) Try.underlying22 (by kernel_rfl) (by decide) el3 hf4
  obtain ⟨rfl, rfl, rfl⟩ : A4 = A'4 ∧ n4 = n'4 ∧ c4 = c'4 := by simpa [Value.cells] using hcs4
  obtain ⟨a5, rfl, rfl, rfl, w5⟩ := open_int Try.underlying3 (hval 5 3 v5 rfl rfl) h5
  obtain ⟨a6, rfl, rfl, rfl, w6⟩ := open_int Try.underlying3 (hval 6 3 v6 rfl rfl) h6
  clear hA0 hval0
  refine (walk a0 A1 n1 c1 x1 A2 n2 c2 x2 a3 A4 n4 c4 x4 a5 a6 W w0 f1 l1 m1 rr1 f2 l2 m2 rr2 w3 f4 l4 m4 rr4 w5 w6).mono fun e W' ⟨he, bel⟩ => ?_
  subst he
  exact ⟨_, rfl, _, _, _, [], _, [], hW', trodAll_mk1 (shut_bool Try.underlying4 _), (trodAll_cons_mk (shut_int Try.underlying3 w0) (trodAll_cons_mk (Below.trod laidOut (by kernel_rfl) (of_decide_eq_true (by kernel_rfl)) k1 bel lt1) (trodAll_cons_mk (Below.trod laidOut (by kernel_rfl) (of_decide_eq_true (by kernel_rfl)) k2 bel lt2) (trodAll_cons_mk (shut_int Try.underlying3 w3) (trodAll_cons_mk (Below.trod laidOut (by kernel_rfl) (of_decide_eq_true (by kernel_rfl)) k4 bel lt4) (trodAll_cons_mk (shut_int Try.underlying3 w5) (trodAll_cons_mk (shut_int Try.underlying3 w6) trodAll_mk0))))))), rfl, bel.frame _, fun h => by cases h⟩
theorem over : Rows.insolvencyCheckRow.holds Try.pinned (OpenSpec.ofChange Rows.insolvencyCheckSpec) :=
  OpenClaim.holds_of_wide 12 Try.f12 rfl rfl rfl rfl rfl rfl rfl ⟨rfl, rfl, rfl, rfl, rfl⟩ rfl rfl rfl rfl rfl (by kernel_rfl) Try.func12 (by kernel_rfl)
    (of_decide_eq_true (by kernel_rfl)) (by unfold Func.isWrapper; first | (rw [if_pos (by decide +kernel)]; kernel_rfl) | (rw [if_neg (by decide +kernel)]; exact ⟨rfl, rfl⟩))
    (fun os started H enc _ => lifted os started H enc)
theorem proved : Rows.InsolvencyCheckSaid := over
end Go.Proofs.Ytoodneljjhbfhaa.insolvencyCheck

namespace Go.Proofs.Ytoodneljjhbfhaa
theorem insolvencyCheck_holds : Rows.InsolvencyCheckSaid := insolvencyCheck.proved
#print axioms insolvencyCheck_holds
end Go.Proofs.Ytoodneljjhbfhaa
