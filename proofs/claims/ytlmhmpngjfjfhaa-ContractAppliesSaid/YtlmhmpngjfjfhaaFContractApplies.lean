/- ContractApplies: for every input the law returns true, and each argument reads as before. No conditions. The walk is written by a program (gen2), the plain law by hand. -/
import Derived.Test.YtlmhmpngjfjfhaaRows
import Derived.WalkKit
import Derived.ProofKit
import Derived.OpenShut
import Derived.ShutString
import Derived.ChangeOld
import Derived.Below
import Derived.Carry
import Derived.Test.YtlmhmpngjfjfhaaKOpen
import Derived.Test.YtlmhmpngjfjfhaaWContractApplies
import Derived.Test.YtlmhmpngjfjfhaaLConApplies
namespace Go.Proofs.Ytlmhmpngjfjfhaa.contractApplies
open Go.ChangeShapes Go.WideShapes Go.ChangeAt Go.RowKit
set_option linter.unusedVariables false
set_option linter.unusedSimpArgs false

theorem own : ownKnob Try.prog.godebug = none := by kernel_rfl
theorem laidOut : laidOutB Try.prog = true := by kernel_rfl
theorem el3 {H : Type} {enc : TypeId × Value → H} {w : World} {spare : Nat → Bool} {held : Bool} : ∀ n cs y, DataW.trod enc Try.prog w 0 spare held n 3 cs = some y → ∃ a : Int, cs = encI .i64 a ∧ (Lit.int .i64 a).wf = true := el_int Try.underlying3
def RGPart (x : GPart) : Prop := (Lit.int .i64 x.Party).wf = true ∧ (Lit.int .i64 x.Share).wf = true ∧ True
set_option maxRecDepth 100000 in
theorem el25 {H : Type} {enc : TypeId × Value → H} {w : World} {spare : Nat → Bool} {held : Bool} : ∀ n cs y, DataW.trod enc Try.prog w 0 spare held n 25 cs = some y → ∃ a : GPart, cs = encGPart a ∧ RGPart a := fun n cs y h => by
  obtain ⟨xs, q, _, _, hl, hxl, hf⟩ := DataW.trod_struct Try.underlying25 h
  have hz : Try.prog.cellsOf 25 = 2 := by kernel_rfl
  rw [hz] at hl
  match cs, hl with
  | [c0, c1], _ =>
    have g0 : DataW.trod enc Try.prog w 0 spare held q 3 ((([c0, c1] : List Value).drop 0).take (Try.prog.cellsOf 3)) = xs[0]? := hf 0 _ rfl
    have z0 : Try.prog.cellsOf 3 = 1 := by kernel_rfl
    rw [List.getElem?_eq_getElem (by rw [hxl]; decide)] at g0
    rw [z0] at g0
    have g1 : DataW.trod enc Try.prog w 0 spare held q 3 ((([c0, c1] : List Value).drop 1).take (Try.prog.cellsOf 3)) = xs[1]? := hf 1 _ rfl
    have z1 : Try.prog.cellsOf 3 = 1 := by kernel_rfl
    rw [List.getElem?_eq_getElem (by rw [hxl]; decide)] at g1
    rw [z1] at g1
    obtain ⟨m0, e0, _, w0⟩ := DataW.trod_int Try.underlying3 g0
    obtain rfl : c0 = .int .i64 m0 := by simpa using e0
    obtain ⟨m1, e1, _, w1⟩ := DataW.trod_int Try.underlying3 g1
    obtain rfl : c1 = .int .i64 m1 := by simpa using e1
    exact ⟨⟨m0, m1⟩, rfl, w0, w1, trivial⟩
def RGPeriod (x : GPeriod) : Prop := (Lit.int .i64 x.From).wf = true ∧ (Lit.int .i64 x.To).wf = true ∧ True
set_option maxRecDepth 100000 in
theorem el47 {H : Type} {enc : TypeId × Value → H} {w : World} {spare : Nat → Bool} {held : Bool} : ∀ n cs y, DataW.trod enc Try.prog w 0 spare held n 47 cs = some y → ∃ a : GPeriod, cs = encGPeriod a ∧ RGPeriod a := fun n cs y h => by
  obtain ⟨xs, q, _, _, hl, hxl, hf⟩ := DataW.trod_struct Try.underlying47 h
  have hz : Try.prog.cellsOf 47 = 2 := by kernel_rfl
  rw [hz] at hl
  match cs, hl with
  | [c0, c1], _ =>
    have g0 : DataW.trod enc Try.prog w 0 spare held q 3 ((([c0, c1] : List Value).drop 0).take (Try.prog.cellsOf 3)) = xs[0]? := hf 0 _ rfl
    have z0 : Try.prog.cellsOf 3 = 1 := by kernel_rfl
    rw [List.getElem?_eq_getElem (by rw [hxl]; decide)] at g0
    rw [z0] at g0
    have g1 : DataW.trod enc Try.prog w 0 spare held q 3 ((([c0, c1] : List Value).drop 1).take (Try.prog.cellsOf 3)) = xs[1]? := hf 1 _ rfl
    have z1 : Try.prog.cellsOf 3 = 1 := by kernel_rfl
    rw [List.getElem?_eq_getElem (by rw [hxl]; decide)] at g1
    rw [z1] at g1
    obtain ⟨m0, e0, _, w0⟩ := DataW.trod_int Try.underlying3 g0
    obtain rfl : c0 = .int .i64 m0 := by simpa using e0
    obtain ⟨m1, e1, _, w1⟩ := DataW.trod_int Try.underlying3 g1
    obtain rfl : c1 = .int .i64 m1 := by simpa using e1
    exact ⟨⟨m0, m1⟩, rfl, w0, w1, trivial⟩
set_option maxRecDepth 100000 in
theorem op49 {H : Type} {enc : TypeId × Value → H} {w : World} {spare : Nat → Bool} {held : Bool} : ∀ n cs y, DataW.trod enc Try.prog w 0 spare held n 49 cs = some y → ∃ (x : GTreaty) (A0 : Option Addr) (n0 c0 : Nat) (A1 : Option Addr) (n1 c1 : Nat) (A2 : Option Addr) (n2 c2 : Nat) (A3 : Option Addr) (n3 c3 : Nat) (A4 : Option Addr) (n4 c4 : Nat), cs = [.int .i64 x.ID, .int .i64 x.Kind, .int .i64 x.Period.From, .int .i64 x.Period.To, .slice A0 n0 c0, .slice A1 n1 c1, .int .i64 x.Risk, .int .i64 x.Cession, .int .i64 x.Line, .int .i64 x.Lines, .int .i64 x.Retention, .int .i64 x.Limit, .int .i64 x.Window, .int .i64 x.Deductible, .int .i64 x.Aggregate, .int .i64 x.Premium, .slice A2 n2 c2, .bool x.Timed, .int .i64 x.Base, .slice A3 n3 c3, .slice A4 n4 c4] ∧ (fV (lSlice (lInt .i64)) (.slice A0 n0 c0) x.Perils).R w (fun b => b < w.heap.size) ∧ x.Perils.length = n0 ∧ n0 ≤ maxLen ∧ (∀ a ∈ x.Perils, (fun a => (Lit.int .i64 a).wf = true) a) ∧ (fV (lSlice (lInt .i64)) (.slice A1 n1 c1) x.Areas).R w (fun b => b < w.heap.size) ∧ x.Areas.length = n1 ∧ n1 ≤ maxLen ∧ (∀ a ∈ x.Areas, (fun a => (Lit.int .i64 a).wf = true) a) ∧ (fV (lSlice (lInt .i64)) (.slice A2 n2 c2) x.Reinstatements).R w (fun b => b < w.heap.size) ∧ x.Reinstatements.length = n2 ∧ n2 ≤ maxLen ∧ (∀ a ∈ x.Reinstatements, (fun a => (Lit.int .i64 a).wf = true) a) ∧ (fV (lSlice (lInt .i64)) (.slice A3 n3 c3) x.Inures).R w (fun b => b < w.heap.size) ∧ x.Inures.length = n3 ∧ n3 ≤ maxLen ∧ (∀ a ∈ x.Inures, (fun a => (Lit.int .i64 a).wf = true) a) ∧ (fV (lSlice lGPart) (.slice A4 n4 c4) x.Parts).R w (fun b => b < w.heap.size) ∧ x.Parts.length = n4 ∧ n4 ≤ maxLen ∧ (∀ a ∈ x.Parts, RGPart a) := fun n cs y h => by
  obtain ⟨xs, q, _, _, hl, hxl, hf⟩ := DataW.trod_struct Try.underlying49 h
  have hz : Try.prog.cellsOf 49 = 21 := by kernel_rfl
  rw [hz] at hl
  match cs, hl with
  | [c0, c1, c2, c3, c4, c5, c6, c7, c8, c9, c10, c11, c12, c13, c14, c15, c16, c17, c18, c19, c20], _ =>
    have g0 : DataW.trod enc Try.prog w 0 spare held q 3 ((([c0, c1, c2, c3, c4, c5, c6, c7, c8, c9, c10, c11, c12, c13, c14, c15, c16, c17, c18, c19, c20] : List Value).drop 0).take (Try.prog.cellsOf 3)) = xs[0]? := hf 0 _ rfl
    have z0 : Try.prog.cellsOf 3 = 1 := by kernel_rfl
    rw [List.getElem?_eq_getElem (by rw [hxl]; decide)] at g0
    rw [z0] at g0
    have g1 : DataW.trod enc Try.prog w 0 spare held q 3 ((([c0, c1, c2, c3, c4, c5, c6, c7, c8, c9, c10, c11, c12, c13, c14, c15, c16, c17, c18, c19, c20] : List Value).drop 1).take (Try.prog.cellsOf 3)) = xs[1]? := hf 1 _ rfl
    have z1 : Try.prog.cellsOf 3 = 1 := by kernel_rfl
    rw [List.getElem?_eq_getElem (by rw [hxl]; decide)] at g1
    rw [z1] at g1
    have g2 : DataW.trod enc Try.prog w 0 spare held q 47 ((([c0, c1, c2, c3, c4, c5, c6, c7, c8, c9, c10, c11, c12, c13, c14, c15, c16, c17, c18, c19, c20] : List Value).drop 2).take (Try.prog.cellsOf 47)) = xs[2]? := hf 2 _ rfl
    have z2 : Try.prog.cellsOf 47 = 2 := by kernel_rfl
    rw [List.getElem?_eq_getElem (by rw [hxl]; decide)] at g2
    rw [z2] at g2
    have g3 : DataW.trod enc Try.prog w 0 spare held q 23 ((([c0, c1, c2, c3, c4, c5, c6, c7, c8, c9, c10, c11, c12, c13, c14, c15, c16, c17, c18, c19, c20] : List Value).drop 4).take (Try.prog.cellsOf 23)) = xs[3]? := hf 3 _ rfl
    have z3 : Try.prog.cellsOf 23 = 1 := by kernel_rfl
    rw [List.getElem?_eq_getElem (by rw [hxl]; decide)] at g3
    rw [z3] at g3
    have g4 : DataW.trod enc Try.prog w 0 spare held q 23 ((([c0, c1, c2, c3, c4, c5, c6, c7, c8, c9, c10, c11, c12, c13, c14, c15, c16, c17, c18, c19, c20] : List Value).drop 5).take (Try.prog.cellsOf 23)) = xs[4]? := hf 4 _ rfl
    have z4 : Try.prog.cellsOf 23 = 1 := by kernel_rfl
    rw [List.getElem?_eq_getElem (by rw [hxl]; decide)] at g4
    rw [z4] at g4
    have g5 : DataW.trod enc Try.prog w 0 spare held q 3 ((([c0, c1, c2, c3, c4, c5, c6, c7, c8, c9, c10, c11, c12, c13, c14, c15, c16, c17, c18, c19, c20] : List Value).drop 6).take (Try.prog.cellsOf 3)) = xs[5]? := hf 5 _ rfl
    have z5 : Try.prog.cellsOf 3 = 1 := by kernel_rfl
    rw [List.getElem?_eq_getElem (by rw [hxl]; decide)] at g5
    rw [z5] at g5
    have g6 : DataW.trod enc Try.prog w 0 spare held q 3 ((([c0, c1, c2, c3, c4, c5, c6, c7, c8, c9, c10, c11, c12, c13, c14, c15, c16, c17, c18, c19, c20] : List Value).drop 7).take (Try.prog.cellsOf 3)) = xs[6]? := hf 6 _ rfl
    have z6 : Try.prog.cellsOf 3 = 1 := by kernel_rfl
    rw [List.getElem?_eq_getElem (by rw [hxl]; decide)] at g6
    rw [z6] at g6
    have g7 : DataW.trod enc Try.prog w 0 spare held q 3 ((([c0, c1, c2, c3, c4, c5, c6, c7, c8, c9, c10, c11, c12, c13, c14, c15, c16, c17, c18, c19, c20] : List Value).drop 8).take (Try.prog.cellsOf 3)) = xs[7]? := hf 7 _ rfl
    have z7 : Try.prog.cellsOf 3 = 1 := by kernel_rfl
    rw [List.getElem?_eq_getElem (by rw [hxl]; decide)] at g7
    rw [z7] at g7
    have g8 : DataW.trod enc Try.prog w 0 spare held q 3 ((([c0, c1, c2, c3, c4, c5, c6, c7, c8, c9, c10, c11, c12, c13, c14, c15, c16, c17, c18, c19, c20] : List Value).drop 9).take (Try.prog.cellsOf 3)) = xs[8]? := hf 8 _ rfl
    have z8 : Try.prog.cellsOf 3 = 1 := by kernel_rfl
    rw [List.getElem?_eq_getElem (by rw [hxl]; decide)] at g8
    rw [z8] at g8
    have g9 : DataW.trod enc Try.prog w 0 spare held q 3 ((([c0, c1, c2, c3, c4, c5, c6, c7, c8, c9, c10, c11, c12, c13, c14, c15, c16, c17, c18, c19, c20] : List Value).drop 10).take (Try.prog.cellsOf 3)) = xs[9]? := hf 9 _ rfl
    have z9 : Try.prog.cellsOf 3 = 1 := by kernel_rfl
    rw [List.getElem?_eq_getElem (by rw [hxl]; decide)] at g9
    rw [z9] at g9
    have g10 : DataW.trod enc Try.prog w 0 spare held q 3 ((([c0, c1, c2, c3, c4, c5, c6, c7, c8, c9, c10, c11, c12, c13, c14, c15, c16, c17, c18, c19, c20] : List Value).drop 11).take (Try.prog.cellsOf 3)) = xs[10]? := hf 10 _ rfl
    have z10 : Try.prog.cellsOf 3 = 1 := by kernel_rfl
    rw [List.getElem?_eq_getElem (by rw [hxl]; decide)] at g10
    rw [z10] at g10
    have g11 : DataW.trod enc Try.prog w 0 spare held q 3 ((([c0, c1, c2, c3, c4, c5, c6, c7, c8, c9, c10, c11, c12, c13, c14, c15, c16, c17, c18, c19, c20] : List Value).drop 12).take (Try.prog.cellsOf 3)) = xs[11]? := hf 11 _ rfl
    have z11 : Try.prog.cellsOf 3 = 1 := by kernel_rfl
    rw [List.getElem?_eq_getElem (by rw [hxl]; decide)] at g11
    rw [z11] at g11
    have g12 : DataW.trod enc Try.prog w 0 spare held q 3 ((([c0, c1, c2, c3, c4, c5, c6, c7, c8, c9, c10, c11, c12, c13, c14, c15, c16, c17, c18, c19, c20] : List Value).drop 13).take (Try.prog.cellsOf 3)) = xs[12]? := hf 12 _ rfl
    have z12 : Try.prog.cellsOf 3 = 1 := by kernel_rfl
    rw [List.getElem?_eq_getElem (by rw [hxl]; decide)] at g12
    rw [z12] at g12
    have g13 : DataW.trod enc Try.prog w 0 spare held q 3 ((([c0, c1, c2, c3, c4, c5, c6, c7, c8, c9, c10, c11, c12, c13, c14, c15, c16, c17, c18, c19, c20] : List Value).drop 14).take (Try.prog.cellsOf 3)) = xs[13]? := hf 13 _ rfl
    have z13 : Try.prog.cellsOf 3 = 1 := by kernel_rfl
    rw [List.getElem?_eq_getElem (by rw [hxl]; decide)] at g13
    rw [z13] at g13
    have g14 : DataW.trod enc Try.prog w 0 spare held q 3 ((([c0, c1, c2, c3, c4, c5, c6, c7, c8, c9, c10, c11, c12, c13, c14, c15, c16, c17, c18, c19, c20] : List Value).drop 15).take (Try.prog.cellsOf 3)) = xs[14]? := hf 14 _ rfl
    have z14 : Try.prog.cellsOf 3 = 1 := by kernel_rfl
    rw [List.getElem?_eq_getElem (by rw [hxl]; decide)] at g14
    rw [z14] at g14
    have g15 : DataW.trod enc Try.prog w 0 spare held q 23 ((([c0, c1, c2, c3, c4, c5, c6, c7, c8, c9, c10, c11, c12, c13, c14, c15, c16, c17, c18, c19, c20] : List Value).drop 16).take (Try.prog.cellsOf 23)) = xs[15]? := hf 15 _ rfl
    have z15 : Try.prog.cellsOf 23 = 1 := by kernel_rfl
    rw [List.getElem?_eq_getElem (by rw [hxl]; decide)] at g15
    rw [z15] at g15
    have g16 : DataW.trod enc Try.prog w 0 spare held q 4 ((([c0, c1, c2, c3, c4, c5, c6, c7, c8, c9, c10, c11, c12, c13, c14, c15, c16, c17, c18, c19, c20] : List Value).drop 17).take (Try.prog.cellsOf 4)) = xs[16]? := hf 16 _ rfl
    have z16 : Try.prog.cellsOf 4 = 1 := by kernel_rfl
    rw [List.getElem?_eq_getElem (by rw [hxl]; decide)] at g16
    rw [z16] at g16
    have g17 : DataW.trod enc Try.prog w 0 spare held q 3 ((([c0, c1, c2, c3, c4, c5, c6, c7, c8, c9, c10, c11, c12, c13, c14, c15, c16, c17, c18, c19, c20] : List Value).drop 18).take (Try.prog.cellsOf 3)) = xs[17]? := hf 17 _ rfl
    have z17 : Try.prog.cellsOf 3 = 1 := by kernel_rfl
    rw [List.getElem?_eq_getElem (by rw [hxl]; decide)] at g17
    rw [z17] at g17
    have g18 : DataW.trod enc Try.prog w 0 spare held q 23 ((([c0, c1, c2, c3, c4, c5, c6, c7, c8, c9, c10, c11, c12, c13, c14, c15, c16, c17, c18, c19, c20] : List Value).drop 19).take (Try.prog.cellsOf 23)) = xs[18]? := hf 18 _ rfl
    have z18 : Try.prog.cellsOf 23 = 1 := by kernel_rfl
    rw [List.getElem?_eq_getElem (by rw [hxl]; decide)] at g18
    rw [z18] at g18
    have g19 : DataW.trod enc Try.prog w 0 spare held q 22 ((([c0, c1, c2, c3, c4, c5, c6, c7, c8, c9, c10, c11, c12, c13, c14, c15, c16, c17, c18, c19, c20] : List Value).drop 20).take (Try.prog.cellsOf 22)) = xs[19]? := hf 19 _ rfl
    have z19 : Try.prog.cellsOf 22 = 1 := by kernel_rfl
    rw [List.getElem?_eq_getElem (by rw [hxl]; decide)] at g19
    rw [z19] at g19
    obtain ⟨m0, e0, _, _⟩ := DataW.trod_int Try.underlying3 g0
    obtain rfl : c0 = .int .i64 m0 := by simpa using e0
    obtain ⟨m1, e1, _, _⟩ := DataW.trod_int Try.underlying3 g1
    obtain rfl : c1 = .int .i64 m1 := by simpa using e1
    obtain ⟨m2, e2, _⟩ := el47 _ _ _ g2
    simp only [encGPeriod, List.take, List.drop, List.cons.injEq, and_true] at e2
    obtain ⟨rfl, rfl⟩ := e2
    obtain ⟨A3, n3, k3, m3, e3, f3, l3, mm3, rr3⟩ := rows_fact (en := encI .i64) (z := 1) (hl := fun _ => rfl) (h1 := (fun _ u hu => ((lInt .i64)).one (w := w) (S := fun _ => True) rfl u hu)) (R := (fun a => (Lit.int .i64 a).wf = true)) Try.underlying23 (by kernel_rfl) (by decide) el3 g3
    obtain rfl : c4 = .slice A3 n3 k3 := by simpa using e3
    obtain ⟨A4, n4, k4, m4, e4, f4, l4, mm4, rr4⟩ := rows_fact (en := encI .i64) (z := 1) (hl := fun _ => rfl) (h1 := (fun _ u hu => ((lInt .i64)).one (w := w) (S := fun _ => True) rfl u hu)) (R := (fun a => (Lit.int .i64 a).wf = true)) Try.underlying23 (by kernel_rfl) (by decide) el3 g4
    obtain rfl : c5 = .slice A4 n4 k4 := by simpa using e4
    obtain ⟨m5, e5, _, _⟩ := DataW.trod_int Try.underlying3 g5
    obtain rfl : c6 = .int .i64 m5 := by simpa using e5
    obtain ⟨m6, e6, _, _⟩ := DataW.trod_int Try.underlying3 g6
    obtain rfl : c7 = .int .i64 m6 := by simpa using e6
    obtain ⟨m7, e7, _, _⟩ := DataW.trod_int Try.underlying3 g7
    obtain rfl : c8 = .int .i64 m7 := by simpa using e7
    obtain ⟨m8, e8, _, _⟩ := DataW.trod_int Try.underlying3 g8
    obtain rfl : c9 = .int .i64 m8 := by simpa using e8
    obtain ⟨m9, e9, _, _⟩ := DataW.trod_int Try.underlying3 g9
    obtain rfl : c10 = .int .i64 m9 := by simpa using e9
    obtain ⟨m10, e10, _, _⟩ := DataW.trod_int Try.underlying3 g10
    obtain rfl : c11 = .int .i64 m10 := by simpa using e10
    obtain ⟨m11, e11, _, _⟩ := DataW.trod_int Try.underlying3 g11
    obtain rfl : c12 = .int .i64 m11 := by simpa using e11
    obtain ⟨m12, e12, _, _⟩ := DataW.trod_int Try.underlying3 g12
    obtain rfl : c13 = .int .i64 m12 := by simpa using e12
    obtain ⟨m13, e13, _, _⟩ := DataW.trod_int Try.underlying3 g13
    obtain rfl : c14 = .int .i64 m13 := by simpa using e13
    obtain ⟨m14, e14, _, _⟩ := DataW.trod_int Try.underlying3 g14
    obtain rfl : c15 = .int .i64 m14 := by simpa using e14
    obtain ⟨A15, n15, k15, m15, e15, f15, l15, mm15, rr15⟩ := rows_fact (en := encI .i64) (z := 1) (hl := fun _ => rfl) (h1 := (fun _ u hu => ((lInt .i64)).one (w := w) (S := fun _ => True) rfl u hu)) (R := (fun a => (Lit.int .i64 a).wf = true)) Try.underlying23 (by kernel_rfl) (by decide) el3 g15
    obtain rfl : c16 = .slice A15 n15 k15 := by simpa using e15
    obtain ⟨m16, e16, _⟩ := DataW.trod_bool Try.underlying4 g16
    obtain rfl : c17 = .bool m16 := by simpa using e16
    obtain ⟨m17, e17, _, _⟩ := DataW.trod_int Try.underlying3 g17
    obtain rfl : c18 = .int .i64 m17 := by simpa using e17
    obtain ⟨A18, n18, k18, m18, e18, f18, l18, mm18, rr18⟩ := rows_fact (en := encI .i64) (z := 1) (hl := fun _ => rfl) (h1 := (fun _ u hu => ((lInt .i64)).one (w := w) (S := fun _ => True) rfl u hu)) (R := (fun a => (Lit.int .i64 a).wf = true)) Try.underlying23 (by kernel_rfl) (by decide) el3 g18
    obtain rfl : c19 = .slice A18 n18 k18 := by simpa using e18
    obtain ⟨A19, n19, k19, m19, e19, f19, l19, mm19, rr19⟩ := rows_fact (en := encGPart) (z := 2) (hl := fun _ => rfl) (h1 := (fun _ u hu => (lGPart).one (w := w) (S := fun _ => True) rfl u hu)) (R := RGPart) Try.underlying22 (by kernel_rfl) (by decide) el25 g19
    obtain rfl : c20 = .slice A19 n19 k19 := by simpa using e19
    exact ⟨⟨m0, m1, m2, m3, m4, m5, m6, m7, m8, m9, m10, m11, m12, m13, m14, m15, m16, m17, m18, m19⟩, A3, n3, k3, A4, n4, k4, A15, n15, k15, A18, n18, k18, A19, n19, k19, rfl, f3, l3, mm3, rr3, f4, l4, mm4, rr4, f15, l15, mm15, rr15, f18, l18, mm18, rr18, f19, l19, mm19, rr19⟩
def RGLoss (x : GLoss) : Prop := (Lit.int .i64 x.ID).wf = true ∧ (Lit.int .i64 x.Policy).wf = true ∧ (Lit.int .i64 x.Risk).wf = true ∧ (Lit.int .i64 x.Hour).wf = true ∧ (Lit.int .i64 x.Peril).wf = true ∧ (Lit.int .i64 x.Area).wf = true ∧ (Lit.int .i64 x.Currency).wf = true ∧ (Lit.int .i64 x.Sum).wf = true ∧ (Lit.int .i64 x.Amount).wf = true ∧ (Lit.int .i64 x.Paid).wf = true ∧ True
set_option maxRecDepth 100000 in
theorem el65 {H : Type} {enc : TypeId × Value → H} {w : World} {spare : Nat → Bool} {held : Bool} : ∀ n cs y, DataW.trod enc Try.prog w 0 spare held n 65 cs = some y → ∃ a : GLoss, cs = encGLoss a ∧ RGLoss a := fun n cs y h => by
  obtain ⟨xs, q, _, _, hl, hxl, hf⟩ := DataW.trod_struct Try.underlying65 h
  have hz : Try.prog.cellsOf 65 = 10 := by kernel_rfl
  rw [hz] at hl
  match cs, hl with
  | [c0, c1, c2, c3, c4, c5, c6, c7, c8, c9], _ =>
    have g0 : DataW.trod enc Try.prog w 0 spare held q 3 ((([c0, c1, c2, c3, c4, c5, c6, c7, c8, c9] : List Value).drop 0).take (Try.prog.cellsOf 3)) = xs[0]? := hf 0 _ rfl
    have z0 : Try.prog.cellsOf 3 = 1 := by kernel_rfl
    rw [List.getElem?_eq_getElem (by rw [hxl]; decide)] at g0
    rw [z0] at g0
    have g1 : DataW.trod enc Try.prog w 0 spare held q 3 ((([c0, c1, c2, c3, c4, c5, c6, c7, c8, c9] : List Value).drop 1).take (Try.prog.cellsOf 3)) = xs[1]? := hf 1 _ rfl
    have z1 : Try.prog.cellsOf 3 = 1 := by kernel_rfl
    rw [List.getElem?_eq_getElem (by rw [hxl]; decide)] at g1
    rw [z1] at g1
    have g2 : DataW.trod enc Try.prog w 0 spare held q 3 ((([c0, c1, c2, c3, c4, c5, c6, c7, c8, c9] : List Value).drop 2).take (Try.prog.cellsOf 3)) = xs[2]? := hf 2 _ rfl
    have z2 : Try.prog.cellsOf 3 = 1 := by kernel_rfl
    rw [List.getElem?_eq_getElem (by rw [hxl]; decide)] at g2
    rw [z2] at g2
    have g3 : DataW.trod enc Try.prog w 0 spare held q 3 ((([c0, c1, c2, c3, c4, c5, c6, c7, c8, c9] : List Value).drop 3).take (Try.prog.cellsOf 3)) = xs[3]? := hf 3 _ rfl
    have z3 : Try.prog.cellsOf 3 = 1 := by kernel_rfl
    rw [List.getElem?_eq_getElem (by rw [hxl]; decide)] at g3
    rw [z3] at g3
    have g4 : DataW.trod enc Try.prog w 0 spare held q 3 ((([c0, c1, c2, c3, c4, c5, c6, c7, c8, c9] : List Value).drop 4).take (Try.prog.cellsOf 3)) = xs[4]? := hf 4 _ rfl
    have z4 : Try.prog.cellsOf 3 = 1 := by kernel_rfl
    rw [List.getElem?_eq_getElem (by rw [hxl]; decide)] at g4
    rw [z4] at g4
    have g5 : DataW.trod enc Try.prog w 0 spare held q 3 ((([c0, c1, c2, c3, c4, c5, c6, c7, c8, c9] : List Value).drop 5).take (Try.prog.cellsOf 3)) = xs[5]? := hf 5 _ rfl
    have z5 : Try.prog.cellsOf 3 = 1 := by kernel_rfl
    rw [List.getElem?_eq_getElem (by rw [hxl]; decide)] at g5
    rw [z5] at g5
    have g6 : DataW.trod enc Try.prog w 0 spare held q 3 ((([c0, c1, c2, c3, c4, c5, c6, c7, c8, c9] : List Value).drop 6).take (Try.prog.cellsOf 3)) = xs[6]? := hf 6 _ rfl
    have z6 : Try.prog.cellsOf 3 = 1 := by kernel_rfl
    rw [List.getElem?_eq_getElem (by rw [hxl]; decide)] at g6
    rw [z6] at g6
    have g7 : DataW.trod enc Try.prog w 0 spare held q 3 ((([c0, c1, c2, c3, c4, c5, c6, c7, c8, c9] : List Value).drop 7).take (Try.prog.cellsOf 3)) = xs[7]? := hf 7 _ rfl
    have z7 : Try.prog.cellsOf 3 = 1 := by kernel_rfl
    rw [List.getElem?_eq_getElem (by rw [hxl]; decide)] at g7
    rw [z7] at g7
    have g8 : DataW.trod enc Try.prog w 0 spare held q 3 ((([c0, c1, c2, c3, c4, c5, c6, c7, c8, c9] : List Value).drop 8).take (Try.prog.cellsOf 3)) = xs[8]? := hf 8 _ rfl
    have z8 : Try.prog.cellsOf 3 = 1 := by kernel_rfl
    rw [List.getElem?_eq_getElem (by rw [hxl]; decide)] at g8
    rw [z8] at g8
    have g9 : DataW.trod enc Try.prog w 0 spare held q 3 ((([c0, c1, c2, c3, c4, c5, c6, c7, c8, c9] : List Value).drop 9).take (Try.prog.cellsOf 3)) = xs[9]? := hf 9 _ rfl
    have z9 : Try.prog.cellsOf 3 = 1 := by kernel_rfl
    rw [List.getElem?_eq_getElem (by rw [hxl]; decide)] at g9
    rw [z9] at g9
    obtain ⟨m0, e0, _, w0⟩ := DataW.trod_int Try.underlying3 g0
    obtain rfl : c0 = .int .i64 m0 := by simpa using e0
    obtain ⟨m1, e1, _, w1⟩ := DataW.trod_int Try.underlying3 g1
    obtain rfl : c1 = .int .i64 m1 := by simpa using e1
    obtain ⟨m2, e2, _, w2⟩ := DataW.trod_int Try.underlying3 g2
    obtain rfl : c2 = .int .i64 m2 := by simpa using e2
    obtain ⟨m3, e3, _, w3⟩ := DataW.trod_int Try.underlying3 g3
    obtain rfl : c3 = .int .i64 m3 := by simpa using e3
    obtain ⟨m4, e4, _, w4⟩ := DataW.trod_int Try.underlying3 g4
    obtain rfl : c4 = .int .i64 m4 := by simpa using e4
    obtain ⟨m5, e5, _, w5⟩ := DataW.trod_int Try.underlying3 g5
    obtain rfl : c5 = .int .i64 m5 := by simpa using e5
    obtain ⟨m6, e6, _, w6⟩ := DataW.trod_int Try.underlying3 g6
    obtain rfl : c6 = .int .i64 m6 := by simpa using e6
    obtain ⟨m7, e7, _, w7⟩ := DataW.trod_int Try.underlying3 g7
    obtain rfl : c7 = .int .i64 m7 := by simpa using e7
    obtain ⟨m8, e8, _, w8⟩ := DataW.trod_int Try.underlying3 g8
    obtain rfl : c8 = .int .i64 m8 := by simpa using e8
    obtain ⟨m9, e9, _, w9⟩ := DataW.trod_int Try.underlying3 g9
    obtain rfl : c9 = .int .i64 m9 := by simpa using e9
    exact ⟨⟨m0, m1, m2, m3, m4, m5, m6, m7, m8, m9⟩, rfl, w0, w1, w2, w3, w4, w5, w6, w7, w8, w9, trivial⟩
theorem walk (x0 : GTreaty) (A0_0 : Option Addr) (n0_0 c0_0 : Nat) (A0_1 : Option Addr) (n0_1 c0_1 : Nat) (A0_2 : Option Addr) (n0_2 c0_2 : Nat) (A0_3 : Option Addr) (n0_3 c0_3 : Nat) (A0_4 : Option Addr) (n0_4 c0_4 : Nat) (x1 : GLoss) (A2 : Option Addr) (n2 c2 : Nat) (x2 : List Int) (A3 : Option Addr) (n3 c3 : Nat) (x3 : List Int) (a4 : Int) (w : World) (f0_0 : (fV (lSlice (lInt .i64)) (.slice A0_0 n0_0 c0_0) x0.Perils).R w (fun b => b < w.heap.size)) (l0_0 : x0.Perils.length = n0_0) (m0_0 : n0_0 ≤ maxLen) (rr0_0 : ∀ a ∈ x0.Perils, (fun a => (Lit.int .i64 a).wf = true) a) (f0_1 : (fV (lSlice (lInt .i64)) (.slice A0_1 n0_1 c0_1) x0.Areas).R w (fun b => b < w.heap.size)) (l0_1 : x0.Areas.length = n0_1) (m0_1 : n0_1 ≤ maxLen) (rr0_1 : ∀ a ∈ x0.Areas, (fun a => (Lit.int .i64 a).wf = true) a) (f0_2 : (fV (lSlice (lInt .i64)) (.slice A0_2 n0_2 c0_2) x0.Reinstatements).R w (fun b => b < w.heap.size)) (l0_2 : x0.Reinstatements.length = n0_2) (m0_2 : n0_2 ≤ maxLen) (rr0_2 : ∀ a ∈ x0.Reinstatements, (fun a => (Lit.int .i64 a).wf = true) a) (f0_3 : (fV (lSlice (lInt .i64)) (.slice A0_3 n0_3 c0_3) x0.Inures).R w (fun b => b < w.heap.size)) (l0_3 : x0.Inures.length = n0_3) (m0_3 : n0_3 ≤ maxLen) (rr0_3 : ∀ a ∈ x0.Inures, (fun a => (Lit.int .i64 a).wf = true) a) (f0_4 : (fV (lSlice lGPart) (.slice A0_4 n0_4 c0_4) x0.Parts).R w (fun b => b < w.heap.size)) (l0_4 : x0.Parts.length = n0_4) (m0_4 : n0_4 ≤ maxLen) (rr0_4 : ∀ a ∈ x0.Parts, RGPart a) (f2 : (fV (lSlice (lInt .i64)) (.slice A2 n2 c2) x2).R w (fun b => b < w.heap.size)) (l2 : x2.length = n2) (m2 : n2 ≤ maxLen) (rr2 : ∀ a ∈ x2, (fun a => (Lit.int .i64 a).wf = true) a) (f3 : (fV (lSlice (lInt .i64)) (.slice A3 n3 c3) x3).R w (fun b => b < w.heap.size)) (l3 : x3.length = n3) (m3 : n3 ≤ maxLen) (rr3 : ∀ a ∈ x3, (fun a => (Lit.int .i64 a).wf = true) a) (w4 : (Lit.int .i64 a4).wf = true) :
    Calls Try.prog 14 #[.agg #[.int .i64 x0.ID, .int .i64 x0.Kind, .int .i64 x0.Period.From, .int .i64 x0.Period.To, .slice A0_0 n0_0 c0_0, .slice A0_1 n0_1 c0_1, .int .i64 x0.Risk, .int .i64 x0.Cession, .int .i64 x0.Line, .int .i64 x0.Lines, .int .i64 x0.Retention, .int .i64 x0.Limit, .int .i64 x0.Window, .int .i64 x0.Deductible, .int .i64 x0.Aggregate, .int .i64 x0.Premium, .slice A0_2 n0_2 c0_2, .bool x0.Timed, .int .i64 x0.Base, .slice A0_3 n0_3 c0_3, .slice A0_4 n0_4 c0_4], .agg #[.int .i64 x1.ID, .int .i64 x1.Policy, .int .i64 x1.Risk, .int .i64 x1.Hour, .int .i64 x1.Peril, .int .i64 x1.Area, .int .i64 x1.Currency, .int .i64 x1.Sum, .int .i64 x1.Amount, .int .i64 x1.Paid], .slice A2 n2 c2, .slice A3 n3 c3, .int .i64 a4] w fun e w' => e = .returned (.bool true) ∧ Below w.heap.size w w' := by
  have hp := Pl.treatylaw20_ContractApplies_law x0 x1 x2 x3 a4 (by rw [l2]; exact m2) (by rw [l3]; exact m3)
  refine calls_of_spec (W_treatylaw20_ContractApplies x0 x1 x2 x3 a4 A0_0 n0_0 c0_0 A0_1 n0_1 c0_1 A0_2 n0_2 c0_2 A0_3 n0_3 c0_3 A0_4 n0_4 c0_4 A2 n2 c2 A3 n3 c3 true hp) (by rintro _ _ _ ⟨rfl, _, _⟩; rfl) w ?_
  intro g hg
  simp only [List.mem_cons, List.not_mem_nil, or_false] at hg
  rcases hg with rfl | rfl | rfl | rfl | rfl | rfl | rfl
  · exact f0_0
  · exact f0_1
  · exact f0_2
  · exact f0_3
  · exact f0_4
  · exact f2
  · exact f3
set_option maxRecDepth 100000 in
theorem lifted (os : Os) (started : os.Started) (H : Type) (enc : TypeId × Value → H) :
    ReturnsInHanded {} Try.checked os 14 .any (Rows.contractAppliesSpec.pre6 enc Try.prog Try.f14 Rows.contractAppliesRow.domain false) (Rows.contractAppliesSpec.post enc Try.prog Try.f14 false true false false) := by
  refine returnsInHanded_of_change (C := Try.checked) own started (by kernel_rfl) Try.func14
    (ChangeSpec.witness6 (enc := enc) (C := Try.checked) false ⟨#[], #[.agg #[.int .i64 0, .int .i64 0, .int .i64 0, .int .i64 0, .slice none 0 0, .slice none 0 0, .int .i64 0, .int .i64 0, .int .i64 0, .int .i64 0, .int .i64 0, .int .i64 0, .int .i64 0, .int .i64 0, .int .i64 0, .int .i64 0, .slice none 0 0, .bool false, .int .i64 0, .slice none 0 0, .slice none 0 0], .agg #[.int .i64 0, .int .i64 0, .int .i64 0, .int .i64 0, .int .i64 0, .int .i64 0, .int .i64 0, .int .i64 0, .int .i64 0, .int .i64 0], .slice none 0 0, .slice none 0 0, .int .i64 0], []⟩ 8 (by kernel_rfl) (by kernel_rfl) (by kernel_rfl) (by kernel_rfl)) ?_
  intro W base args ds gs before hval0 hW hcnd _
  have hval : ∀ (j : Nat) t v, Try.f14.params[j]? = some t → args[j]? = some v → Value.okWide Try.prog W .any base t v := hval0
  have hW' := hW
  obtain ⟨p, q, hA0, hV, rfl, hfz, hnd⟩ := hW
  have hA : DataW.TrodAll enc Try.prog W 0 (fun _ => true) true Try.f14.params.toList args.toList ds p := hA0
  rw [Try.params14] at hA hval
  obtain ⟨v0, vs0, d0, ds0, p0, q0, hargs, rfl, rfl, h0, r0⟩ := trodAll_cons hA
  obtain ⟨v1, vs1, d1, ds1, p1, q1, rfl, rfl, rfl, h1, r1⟩ := trodAll_cons r0
  obtain ⟨v2, vs2, d2, ds2, p2, q2, rfl, rfl, rfl, h2, r2⟩ := trodAll_cons r1
  obtain ⟨v3, vs3, d3, ds3, p3, q3, rfl, rfl, rfl, h3, r3⟩ := trodAll_cons r2
  obtain ⟨v4, vs4, d4, ds4, p4, q4, rfl, rfl, rfl, h4, r4⟩ := trodAll_cons r3
  obtain ⟨rfl, rfl, rfl⟩ := trodAll_nil r4
  obtain rfl : args = #[v0, v1, v2, v3, v4] := by cases args; simp_all
  obtain ⟨rfl, rfl⟩ := trodVars_none hV
  obtain ⟨cs0, rfl, _⟩ := okWide_struct Try.underlying49 (hval 0 49 v0 rfl rfl)
  have k0 := h0
  have lt0 : ∀ x ∈ p0, x.block < W.heap.size := by obtain ⟨m, hm⟩ := k0; exact DataW.trod_lt m _ _ _ hm
  obtain ⟨fuel0, hf0⟩ := h0
  obtain ⟨x0, A0_0, n0_0, c0_0, A0_1, n0_1, c0_1, A0_2, n0_2, c0_2, A0_3, n0_3, c0_3, A0_4, n0_4, c0_4, hx0, f0_0, l0_0, m0_0, rr0_0, f0_1, l0_1, m0_1, rr0_1, f0_2, l0_2, m0_2, rr0_2, f0_3, l0_3, m0_3, rr0_3, f0_4, l0_4, m0_4, rr0_4⟩ := op49 _ _ _ hf0
  obtain rfl : cs0 = #[.int .i64 x0.ID, .int .i64 x0.Kind, .int .i64 x0.Period.From, .int .i64 x0.Period.To, .slice A0_0 n0_0 c0_0, .slice A0_1 n0_1 c0_1, .int .i64 x0.Risk, .int .i64 x0.Cession, .int .i64 x0.Line, .int .i64 x0.Lines, .int .i64 x0.Retention, .int .i64 x0.Limit, .int .i64 x0.Window, .int .i64 x0.Deductible, .int .i64 x0.Aggregate, .int .i64 x0.Premium, .slice A0_2 n0_2 c0_2, .bool x0.Timed, .int .i64 x0.Base, .slice A0_3 n0_3 c0_3, .slice A0_4 n0_4 c0_4] := by
    cases cs0
    simpa [Value.cells] using hx0
  obtain ⟨cs1, rfl, _⟩ := okWide_struct Try.underlying65 (hval 1 65 v1 rfl rfl)
  have k1 := h1
  have lt1 : ∀ x ∈ p1, x.block < W.heap.size := by obtain ⟨m, hm⟩ := k1; exact DataW.trod_lt m _ _ _ hm
  obtain ⟨fuel1, hf1⟩ := h1
  obtain ⟨x1, hx1, _⟩ := el65 _ _ _ hf1
  obtain rfl : cs1 = #[.int .i64 x1.ID, .int .i64 x1.Policy, .int .i64 x1.Risk, .int .i64 x1.Hour, .int .i64 x1.Peril, .int .i64 x1.Area, .int .i64 x1.Currency, .int .i64 x1.Sum, .int .i64 x1.Amount, .int .i64 x1.Paid] := by
    cases cs1
    simpa [Value.cells, encGLoss] using hx1
  obtain ⟨A2, n2, c2, rfl⟩ := okWide_slice Try.underlying23 (hval 2 23 v2 rfl rfl)
  have k2 := h2
  have lt2 : ∀ x ∈ p2, x.block < W.heap.size := by obtain ⟨m, hm⟩ := k2; exact DataW.trod_lt m _ _ _ hm
  obtain ⟨fuel2, hf2⟩ := h2
  obtain ⟨A'2, n'2, c'2, x2, hcs2, f2, l2, m2, rr2⟩ := rows_fact (en := encI .i64) (z := 1) (hl := fun _ => rfl) (h1 := (fun _ u hu => ((lInt .i64)).one (w := W) (S := fun _ => True) rfl u hu)) (R := (fun a => (Lit.int .i64 a).wf = true)) Try.underlying23 (by kernel_rfl) (by decide) el3 hf2
  obtain ⟨rfl, rfl, rfl⟩ : A2 = A'2 ∧ n2 = n'2 ∧ c2 = c'2 := by simpa [Value.cells] using hcs2
  obtain ⟨A3, n3, c3, rfl⟩ := okWide_slice Try.underlying23 (hval 3 23 v3 rfl rfl)
  have k3 := h3
  have lt3 : ∀ x ∈ p3, x.block < W.heap.size := by obtain ⟨m, hm⟩ := k3; exact DataW.trod_lt m _ _ _ hm
  obtain ⟨fuel3, hf3⟩ := h3
  obtain ⟨A'3, n'3, c'3, x3, hcs3, f3, l3, m3, rr3⟩ := rows_fact (en := encI .i64) (z := 1) (hl := fun _ => rfl) (h1 := (fun _ u hu => ((lInt .i64)).one (w := W) (S := fun _ => True) rfl u hu)) (R := (fun a => (Lit.int .i64 a).wf = true)) Try.underlying23 (by kernel_rfl) (by decide) el3 hf3
  obtain ⟨rfl, rfl, rfl⟩ : A3 = A'3 ∧ n3 = n'3 ∧ c3 = c'3 := by simpa [Value.cells] using hcs3
  obtain ⟨a4, rfl, rfl, rfl, w4⟩ := open_int Try.underlying3 (hval 4 3 v4 rfl rfl) h4
  clear hA0 hval0
  refine (walk x0 A0_0 n0_0 c0_0 A0_1 n0_1 c0_1 A0_2 n0_2 c0_2 A0_3 n0_3 c0_3 A0_4 n0_4 c0_4 x1 A2 n2 c2 x2 A3 n3 c3 x3 a4 W f0_0 l0_0 m0_0 rr0_0 f0_1 l0_1 m0_1 rr0_1 f0_2 l0_2 m0_2 rr0_2 f0_3 l0_3 m0_3 rr0_3 f0_4 l0_4 m0_4 rr0_4 f2 l2 m2 rr2 f3 l3 m3 rr3 w4).mono fun e W' ⟨he, bel⟩ => ?_
  subst he
  exact ⟨_, rfl, _, _, _, [], _, [], hW', trodAll_mk1 (shut_bool Try.underlying4 _), (trodAll_cons_mk (Below.trod laidOut (by kernel_rfl) (of_decide_eq_true (by kernel_rfl)) k0 bel lt0) (trodAll_cons_mk (Below.trod laidOut (by kernel_rfl) (of_decide_eq_true (by kernel_rfl)) k1 bel lt1) (trodAll_cons_mk (Below.trod laidOut (by kernel_rfl) (of_decide_eq_true (by kernel_rfl)) k2 bel lt2) (trodAll_cons_mk (Below.trod laidOut (by kernel_rfl) (of_decide_eq_true (by kernel_rfl)) k3 bel lt3) (trodAll_cons_mk (shut_int Try.underlying3 w4) trodAll_mk0))))), rfl, bel.frame _, fun h => by cases h⟩
theorem over : Rows.contractAppliesRow.holds Try.pinned (OpenSpec.ofChange Rows.contractAppliesSpec) :=
  OpenClaim.holds_of_wide 14 Try.f14 rfl rfl rfl rfl rfl rfl rfl ⟨rfl, rfl, rfl, rfl, rfl⟩ rfl rfl rfl rfl rfl (by kernel_rfl) Try.func14 (by kernel_rfl)
    (of_decide_eq_true (by kernel_rfl)) (by unfold Func.isWrapper; first | (rw [if_pos (by decide +kernel)]; kernel_rfl) | (rw [if_neg (by decide +kernel)]; exact ⟨rfl, rfl⟩))
    (fun os started H enc _ => lifted os started H enc)
theorem proved : Rows.ContractAppliesSaid := over
end Go.Proofs.Ytlmhmpngjfjfhaa.contractApplies

namespace Go.Proofs.Ytlmhmpngjfjfhaa
theorem contractApplies_holds : Rows.ContractAppliesSaid := contractApplies.proved
#print axioms contractApplies_holds
end Go.Proofs.Ytlmhmpngjfjfhaa
