/- LedgerValidate: for every input the law returns true, and each argument reads as before. No conditions. The walk is written by a program (gen2), the plain law by hand. -/
import Derived.Test.YtadkcelipefpmaaRows
import Derived.WalkKit
import Derived.ProofKit
import Derived.OpenShut
import Derived.ShutString
import Derived.ChangeOld
import Derived.Below
import Derived.Carry
import Derived.Test.YtadkcelipefpmaaKTop
import Derived.Test.YtadkcelipefpmaaKOpen
import Derived.Test.YtadkcelipefpmaaWLedgerValidate
import Derived.Test.YtadkcelipefpmaaLLedValidate
namespace Go.Proofs.Ytadkcelipefpmaa.ledgerValidate
open Go.ChangeShapes Go.WideShapes Go.ChangeAt Go.RowKit
set_option linter.unusedVariables false
set_option linter.unusedSimpArgs false

theorem own : ownKnob Try.prog.godebug = none := by kernel_rfl
theorem laidOut : laidOutB Try.prog = true := by kernel_rfl
def RGEntry (x : GEntry) : Prop := (Lit.int .i64 x.Kind).wf = true ∧ (Lit.int .i64 x.Treaty).wf = true ∧ (Lit.int .i64 x.Party).wf = true ∧ (Lit.int .i64 x.Loss).wf = true ∧ (Lit.int .i64 x.Amount).wf = true ∧ True
set_option maxRecDepth 100000 in
theorem el41 {H : Type} {enc : TypeId × Value → H} {w : World} {spare : Nat → Bool} {held : Bool} : ∀ n cs y, DataW.trod enc Try.prog w 0 spare held n 41 cs = some y → ∃ a : GEntry, cs = encGEntry a ∧ RGEntry a := fun n cs y h => by
  obtain ⟨xs, q, _, _, hl, hxl, hf⟩ := DataW.trod_struct Try.underlying41 h
  have hz : Try.prog.cellsOf 41 = 5 := by kernel_rfl
  rw [hz] at hl
  match cs, hl with
  | [c0, c1, c2, c3, c4], _ =>
    have g0 : DataW.trod enc Try.prog w 0 spare held q 3 ((([c0, c1, c2, c3, c4] : List Value).drop 0).take (Try.prog.cellsOf 3)) = xs[0]? := hf 0 _ rfl
    have z0 : Try.prog.cellsOf 3 = 1 := by kernel_rfl
    rw [List.getElem?_eq_getElem (by rw [hxl]; decide)] at g0
    rw [z0] at g0
    have g1 : DataW.trod enc Try.prog w 0 spare held q 3 ((([c0, c1, c2, c3, c4] : List Value).drop 1).take (Try.prog.cellsOf 3)) = xs[1]? := hf 1 _ rfl
    have z1 : Try.prog.cellsOf 3 = 1 := by kernel_rfl
    rw [List.getElem?_eq_getElem (by rw [hxl]; decide)] at g1
    rw [z1] at g1
    have g2 : DataW.trod enc Try.prog w 0 spare held q 3 ((([c0, c1, c2, c3, c4] : List Value).drop 2).take (Try.prog.cellsOf 3)) = xs[2]? := hf 2 _ rfl
    have z2 : Try.prog.cellsOf 3 = 1 := by kernel_rfl
    rw [List.getElem?_eq_getElem (by rw [hxl]; decide)] at g2
    rw [z2] at g2
    have g3 : DataW.trod enc Try.prog w 0 spare held q 3 ((([c0, c1, c2, c3, c4] : List Value).drop 3).take (Try.prog.cellsOf 3)) = xs[3]? := hf 3 _ rfl
    have z3 : Try.prog.cellsOf 3 = 1 := by kernel_rfl
    rw [List.getElem?_eq_getElem (by rw [hxl]; decide)] at g3
    rw [z3] at g3
    have g4 : DataW.trod enc Try.prog w 0 spare held q 3 ((([c0, c1, c2, c3, c4] : List Value).drop 4).take (Try.prog.cellsOf 3)) = xs[4]? := hf 4 _ rfl
    have z4 : Try.prog.cellsOf 3 = 1 := by kernel_rfl
    rw [List.getElem?_eq_getElem (by rw [hxl]; decide)] at g4
    rw [z4] at g4
    obtain ⟨m0, e0, _, w0⟩ := DataW.trod_int Try.underlying3 g0
    obtain rfl : c0 = .int .i64 m0 := by simpa using e0
    obtain ⟨m1, e1, _, w1⟩ := DataW.trod_int Try.underlying3 g1
    obtain rfl : c1 = .int .i64 m1 := by simpa using e1
    obtain ⟨m2, e2, _, w2⟩ := DataW.trod_int Try.underlying3 g2
    obtain rfl : c2 = .int .i64 m2 := by simpa using e2
    obtain ⟨m3, e3, _, w3⟩ := DataW.trod_int Try.underlying3 g3
    obtain rfl : c3 = .int .i64 m3 := by simpa using e3
    obtain ⟨m4, e4, _, w4⟩ := DataW.trod_int Try.underlying3 g4
    obtain rfl : c4 = .int .i64 m4 := by simpa using e4
    exact ⟨⟨m0, m1, m2, m3, m4⟩, rfl, w0, w1, w2, w3, w4, trivial⟩
def RGPosting (x : GPosting) : Prop := (Lit.int .i64 x.Number).wf = true ∧ (Lit.int .i64 x.Period).wf = true ∧ (Lit.int .i64 x.Entry.Kind).wf = true ∧ (Lit.int .i64 x.Entry.Treaty).wf = true ∧ (Lit.int .i64 x.Entry.Party).wf = true ∧ (Lit.int .i64 x.Entry.Loss).wf = true ∧ (Lit.int .i64 x.Entry.Amount).wf = true ∧ True
set_option maxRecDepth 100000 in
theorem el73 {H : Type} {enc : TypeId × Value → H} {w : World} {spare : Nat → Bool} {held : Bool} : ∀ n cs y, DataW.trod enc Try.prog w 0 spare held n 73 cs = some y → ∃ a : GPosting, cs = encGPosting a ∧ RGPosting a := fun n cs y h => by
  obtain ⟨xs, q, _, _, hl, hxl, hf⟩ := DataW.trod_struct Try.underlying73 h
  have hz : Try.prog.cellsOf 73 = 7 := by kernel_rfl
  rw [hz] at hl
  match cs, hl with
  | [c0, c1, c2, c3, c4, c5, c6], _ =>
    have g0 : DataW.trod enc Try.prog w 0 spare held q 3 ((([c0, c1, c2, c3, c4, c5, c6] : List Value).drop 0).take (Try.prog.cellsOf 3)) = xs[0]? := hf 0 _ rfl
    have z0 : Try.prog.cellsOf 3 = 1 := by kernel_rfl
    rw [List.getElem?_eq_getElem (by rw [hxl]; decide)] at g0
    rw [z0] at g0
    have g1 : DataW.trod enc Try.prog w 0 spare held q 3 ((([c0, c1, c2, c3, c4, c5, c6] : List Value).drop 1).take (Try.prog.cellsOf 3)) = xs[1]? := hf 1 _ rfl
    have z1 : Try.prog.cellsOf 3 = 1 := by kernel_rfl
    rw [List.getElem?_eq_getElem (by rw [hxl]; decide)] at g1
    rw [z1] at g1
    have g2 : DataW.trod enc Try.prog w 0 spare held q 41 ((([c0, c1, c2, c3, c4, c5, c6] : List Value).drop 2).take (Try.prog.cellsOf 41)) = xs[2]? := hf 2 _ rfl
    have z2 : Try.prog.cellsOf 41 = 5 := by kernel_rfl
    rw [List.getElem?_eq_getElem (by rw [hxl]; decide)] at g2
    rw [z2] at g2
    obtain ⟨m0, e0, _, w0⟩ := DataW.trod_int Try.underlying3 g0
    obtain rfl : c0 = .int .i64 m0 := by simpa using e0
    obtain ⟨m1, e1, _, w1⟩ := DataW.trod_int Try.underlying3 g1
    obtain rfl : c1 = .int .i64 m1 := by simpa using e1
    obtain ⟨m2, e2, w2⟩ := el41 _ _ _ g2
    simp only [encGEntry, List.take, List.drop, List.cons.injEq, and_true] at e2
    obtain ⟨rfl, rfl, rfl, rfl, rfl⟩ := e2
    exact ⟨⟨m0, m1, m2⟩, rfl, w0, w1, w2.1, w2.2.1, w2.2.2.1, w2.2.2.2.1, w2.2.2.2.2.1, trivial⟩
set_option maxRecDepth 100000 in
theorem op25 {H : Type} {enc : TypeId × Value → H} {w : World} {spare : Nat → Bool} {held : Bool} : ∀ n cs y, DataW.trod enc Try.prog w 0 spare held n 25 cs = some y → ∃ (x : GLedger) (A0 : Option Addr) (n0 c0 : Nat), cs = [.int .i64 x.Closed, .slice A0 n0 c0] ∧ (fV (lSlice lGPosting) (.slice A0 n0 c0) x.Postings).R w (fun b => b < w.heap.size) ∧ x.Postings.length = n0 ∧ n0 ≤ maxLen ∧ (∀ a ∈ x.Postings, RGPosting a) := fun n cs y h => by
  obtain ⟨xs, q, _, _, hl, hxl, hf⟩ := DataW.trod_struct Try.underlying25 h
  have hz : Try.prog.cellsOf 25 = 2 := by kernel_rfl
  rw [hz] at hl
  match cs, hl with
  | [c0, c1], _ =>
    have g0 : DataW.trod enc Try.prog w 0 spare held q 3 ((([c0, c1] : List Value).drop 0).take (Try.prog.cellsOf 3)) = xs[0]? := hf 0 _ rfl
    have z0 : Try.prog.cellsOf 3 = 1 := by kernel_rfl
    rw [List.getElem?_eq_getElem (by rw [hxl]; decide)] at g0
    rw [z0] at g0
    have g1 : DataW.trod enc Try.prog w 0 spare held q 23 ((([c0, c1] : List Value).drop 1).take (Try.prog.cellsOf 23)) = xs[1]? := hf 1 _ rfl
    have z1 : Try.prog.cellsOf 23 = 1 := by kernel_rfl
    rw [List.getElem?_eq_getElem (by rw [hxl]; decide)] at g1
    rw [z1] at g1
    obtain ⟨m0, e0, _, _⟩ := DataW.trod_int Try.underlying3 g0
    obtain rfl : c0 = .int .i64 m0 := by simpa using e0
    obtain ⟨A1, n1, k1, m1, e1, f1, l1, mm1, rr1⟩ := rows_fact (en := encGPosting) (z := 7) (hl := fun _ => rfl) (h1 := (fun _ u hu => (lGPosting).one (w := w) (S := fun _ => True) rfl u hu)) (R := RGPosting) Try.underlying23 (by kernel_rfl) (by decide) el73 g1
    obtain rfl : c1 = .slice A1 n1 k1 := by simpa using e1
    exact ⟨⟨m0, m1⟩, A1, n1, k1, rfl, f1, l1, mm1, rr1⟩
theorem el3 {H : Type} {enc : TypeId × Value → H} {w : World} {spare : Nat → Bool} {held : Bool} : ∀ n cs y, DataW.trod enc Try.prog w 0 spare held n 3 cs = some y → ∃ a : Int, cs = encI .i64 a ∧ (Lit.int .i64 a).wf = true := el_int Try.underlying3
theorem walk (x0 : GLedger) (A0_0 : Option Addr) (n0_0 c0_0 : Nat) (x1 : GEntry) (A2 : Option Addr) (n2 c2 : Nat) (x2 : List Int) (a3 : Int) (a4 : Int) (w : World) (f0_0 : (fV (lSlice lGPosting) (.slice A0_0 n0_0 c0_0) x0.Postings).R w (fun b => b < w.heap.size)) (l0_0 : x0.Postings.length = n0_0) (m0_0 : n0_0 ≤ maxLen) (rr0_0 : ∀ a ∈ x0.Postings, RGPosting a) (f2 : (fV (lSlice (lInt .i64)) (.slice A2 n2 c2) x2).R w (fun b => b < w.heap.size)) (l2 : x2.length = n2) (m2 : n2 ≤ maxLen) (rr2 : ∀ a ∈ x2, (fun a => (Lit.int .i64 a).wf = true) a) (w3 : (Lit.int .i64 a3).wf = true) (w4 : (Lit.int .i64 a4).wf = true) :
    Calls Try.prog 4 #[.agg #[.int .i64 x0.Closed, .slice A0_0 n0_0 c0_0], .agg #[.int .i64 x1.Kind, .int .i64 x1.Treaty, .int .i64 x1.Party, .int .i64 x1.Loss, .int .i64 x1.Amount], .slice A2 n2 c2, .int .i64 a3, .int .i64 a4] w fun e w' => e = .returned (.bool true) ∧ Below w.heap.size w w' := by
  have hp := Pl.treatylaw33_LedgerValidate_law x0 x1 x2 a3 a4 (by rw [l2]; exact m2)
  refine calls_of_spec (W_treatylaw33_LedgerValidate x0 x1 x2 a3 a4 A0_0 n0_0 c0_0 A2 n2 c2 true hp) (by rintro _ _ _ ⟨rfl, _, _⟩; rfl) w ?_
  intro g hg
  simp only [List.mem_cons, List.not_mem_nil, or_false] at hg
  rcases hg with rfl | rfl
  · exact f0_0
  · exact f2
set_option maxRecDepth 100000 in
theorem lifted (os : Os) (started : os.Started) (H : Type) (enc : TypeId × Value → H) :
    ReturnsInHanded {} Try.checked os 4 .any (Rows.ledgerValidateSpec.pre6 enc Try.prog Try.f4 Rows.ledgerValidateRow.domain false) (Rows.ledgerValidateSpec.post enc Try.prog Try.f4 false true false false) := by
  refine returnsInHanded_of_change (C := Try.checked) own started (by kernel_rfl) Try.func4
    (ChangeSpec.witness6 (enc := enc) (C := Try.checked) false ⟨#[], #[.agg #[.int .i64 0, .slice none 0 0], .agg #[.int .i64 0, .int .i64 0, .int .i64 0, .int .i64 0, .int .i64 0], .slice none 0 0, .int .i64 0, .int .i64 0], []⟩ 8 (by kernel_rfl) (by kernel_rfl) (by kernel_rfl) (by kernel_rfl)) ?_
  intro W base args ds gs before hval0 hW hcnd _
  have hval : ∀ (j : Nat) t v, Try.f4.params[j]? = some t → args[j]? = some v → Value.okWide Try.prog W .any base t v := hval0
  have hW' := hW
  obtain ⟨p, q, hA0, hV, rfl, hfz, hnd⟩ := hW
  have hA : DataW.TrodAll enc Try.prog W 0 (fun _ => true) true Try.f4.params.toList args.toList ds p := hA0
  rw [Try.params4] at hA hval
  obtain ⟨v0, vs0, d0, ds0, p0, q0, hargs, rfl, rfl, h0, r0⟩ := trodAll_cons hA
  obtain ⟨v1, vs1, d1, ds1, p1, q1, rfl, rfl, rfl, h1, r1⟩ := trodAll_cons r0
  obtain ⟨v2, vs2, d2, ds2, p2, q2, rfl, rfl, rfl, h2, r2⟩ := trodAll_cons r1
  obtain ⟨v3, vs3, d3, ds3, p3, q3, rfl, rfl, rfl, h3, r3⟩ := trodAll_cons r2
  obtain ⟨v4, vs4, d4, ds4, p4, q4, rfl, rfl, rfl, h4, r4⟩ := trodAll_cons r3
  obtain ⟨rfl, rfl, rfl⟩ := trodAll_nil r4
  obtain rfl : args = #[v0, v1, v2, v3, v4] := by cases args; simp_all
  obtain ⟨rfl, rfl⟩ := trodVars_none hV
  obtain ⟨cs0, rfl, _⟩ := okWide_struct Try.underlying25 (hval 0 25 v0 rfl rfl)
  have k0 := h0
  have lt0 : ∀ x ∈ p0, x.block < W.heap.size := by obtain ⟨m, hm⟩ := k0; exact DataW.trod_lt m _ _ _ hm
  obtain ⟨fuel0, hf0⟩ := h0
  obtain ⟨x0, A0_0, n0_0, c0_0, hx0, f0_0, l0_0, m0_0, rr0_0⟩ := op25 _ _ _ hf0
  obtain rfl : cs0 = #[.int .i64 x0.Closed, .slice A0_0 n0_0 c0_0] := by
    cases cs0
    simpa [Value.cells] using hx0
  obtain ⟨cs1, rfl, _⟩ := okWide_struct Try.underlying41 (hval 1 41 v1 rfl rfl)
  have k1 := h1
  have lt1 : ∀ x ∈ p1, x.block < W.heap.size := by obtain ⟨m, hm⟩ := k1; exact DataW.trod_lt m _ _ _ hm
  obtain ⟨fuel1, hf1⟩ := h1
  obtain ⟨x1, hx1, _⟩ := el41 _ _ _ hf1
  obtain rfl : cs1 = #[.int .i64 x1.Kind, .int .i64 x1.Treaty, .int .i64 x1.Party, .int .i64 x1.Loss, .int .i64 x1.Amount] := by
    cases cs1
    simpa [Value.cells, encGEntry] using hx1
  obtain ⟨A2, n2, c2, rfl⟩ := okWide_slice Try.underlying22 (hval 2 22 v2 rfl rfl)
  have k2 := h2
  have lt2 : ∀ x ∈ p2, x.block < W.heap.size := by obtain ⟨m, hm⟩ := k2; exact DataW.trod_lt m _ _ _ hm
  obtain ⟨fuel2, hf2⟩ := h2
  obtain ⟨A'2, n'2, c'2, x2, hcs2, f2, l2, m2, rr2⟩ := rows_fact (en := encI .i64) (z := 1) (hl := fun _ => rfl) (h1 := (fun _ u hu => ((lInt .i64)).one (w := W) (S := fun _ => True) rfl u hu)) (R := (fun a => (Lit.int .i64 a).wf = true)) Try.underlying22 (by kernel_rfl) (by decide) el3 hf2
  obtain ⟨rfl, rfl, rfl⟩ : A2 = A'2 ∧ n2 = n'2 ∧ c2 = c'2 := by simpa [Value.cells] using hcs2
  obtain ⟨a3, rfl, rfl, rfl, w3⟩ := open_int Try.underlying3 (hval 3 3 v3 rfl rfl) h3
  obtain ⟨a4, rfl, rfl, rfl, w4⟩ := open_int Try.underlying3 (hval 4 3 v4 rfl rfl) h4
  clear hA0 hval0
  refine (walk x0 A0_0 n0_0 c0_0 x1 A2 n2 c2 x2 a3 a4 W f0_0 l0_0 m0_0 rr0_0 f2 l2 m2 rr2 w3 w4).mono fun e W' ⟨he, bel⟩ => ?_
  subst he
  exact ⟨_, rfl, _, _, _, [], _, [], hW', trodAll_mk1 (shut_bool Try.underlying4 _), (trodAll_cons_mk (Below.trod laidOut (by kernel_rfl) (of_decide_eq_true (by kernel_rfl)) k0 bel lt0) (trodAll_cons_mk (Below.trod laidOut (by kernel_rfl) (of_decide_eq_true (by kernel_rfl)) k1 bel lt1) (trodAll_cons_mk (Below.trod laidOut (by kernel_rfl) (of_decide_eq_true (by kernel_rfl)) k2 bel lt2) (trodAll_cons_mk (shut_int Try.underlying3 w3) (trodAll_cons_mk (shut_int Try.underlying3 w4) trodAll_mk0))))), rfl, bel.frame _, fun h => by cases h⟩
theorem over : Rows.ledgerValidateRow.holds Try.pinned (OpenSpec.ofChange Rows.ledgerValidateSpec) :=
  OpenClaim.holds_of_wide 4 Try.f4 rfl rfl rfl rfl rfl rfl rfl ⟨rfl, rfl, rfl, rfl, rfl⟩ rfl rfl rfl rfl rfl (by kernel_rfl) Try.func4 (by kernel_rfl)
    (of_decide_eq_true (by kernel_rfl)) (by unfold Func.isWrapper; first | (rw [if_pos (by decide +kernel)]; kernel_rfl) | (rw [if_neg (by decide +kernel)]; exact ⟨rfl, rfl⟩))
    (fun os started H enc _ => lifted os started H enc)
theorem proved : Rows.LedgerValidateSaid := over
end Go.Proofs.Ytadkcelipefpmaa.ledgerValidate

namespace Go.Proofs.Ytadkcelipefpmaa
theorem ledgerValidate_holds : Rows.LedgerValidateSaid := ledgerValidate.proved
#print axioms ledgerValidate_holds
end Go.Proofs.Ytadkcelipefpmaa
