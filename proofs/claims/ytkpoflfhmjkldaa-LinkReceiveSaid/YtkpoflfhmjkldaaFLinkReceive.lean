/- LinkReceive: for every input the law returns true, and each argument reads as before. No conditions. The walk is written by a program (gen2), the plain law by hand. -/
import Derived.Test.YtkpoflfhmjkldaaRows
import Derived.WalkKit
import Derived.ProofKit
import Derived.OpenShut
import Derived.ShutString
import Derived.ChangeOld
import Derived.Below
import Derived.Carry
import Derived.Test.YtkpoflfhmjkldaaKTop
import Derived.Test.YtkpoflfhmjkldaaKOpen2
import Derived.Test.YtkpoflfhmjkldaaWLinkReceive
import Derived.Test.YtkpoflfhmjkldaaLLinkReceive
namespace Go.Proofs.Ytkpoflfhmjkldaa.linkReceive
open Go.ChangeShapes Go.WideShapes Go.ChangeAt Go.RowKit
set_option linter.unusedVariables false
set_option linter.unusedSimpArgs false

theorem own : ownKnob Try.prog.godebug = none := by kernel_rfl
theorem laidOut : laidOutB Try.prog = true := by kernel_rfl
theorem el5 {H : Type} {enc : TypeId × Value → H} {w : World} {spare : Nat → Bool} {held : Bool} : ∀ n cs y, DataW.trod enc Try.prog w 0 spare held n 5 cs = some y → ∃ a : Int, cs = encI .u8 a ∧ (Lit.int .u8 a).wf = true := el_int Try.underlying5
set_option maxRecDepth 100000 in
theorem op24 {H : Type} {enc : TypeId × Value → H} {w : World} {spare : Nat → Bool} {held : Bool} : ∀ n cs y, DataW.trod enc Try.prog w 0 spare held n 24 cs = some y → ∃ (x : GEndpoint) (A0 : Option Addr) (n0 c0 : Nat), cs = [.slice A0 n0 c0, .int .i64 x.Acked, .int .i64 x.Got] ∧ (fV (lSlice (lSlice (lInt .u8))) (.slice A0 n0 c0) x.Out).R w (fun b => b < w.heap.size) ∧ x.Out.length = n0 ∧ n0 ≤ maxLen ∧ (∀ a ∈ x.Out, (fun a => a.length ≤ maxLen ∧ ∀ x ∈ a, (fun a => (Lit.int .u8 a).wf = true) x) a) := fun n cs y h => by
  obtain ⟨xs, q, _, _, hl, hxl, hf⟩ := DataW.trod_struct Try.underlying24 h
  have hz : Try.prog.cellsOf 24 = 3 := by kernel_rfl
  rw [hz] at hl
  match cs, hl with
  | [c0, c1, c2], _ =>
    have g0 : DataW.trod enc Try.prog w 0 spare held q 22 ((([c0, c1, c2] : List Value).drop 0).take (Try.prog.cellsOf 22)) = xs[0]? := hf 0 _ rfl
    have z0 : Try.prog.cellsOf 22 = 1 := by kernel_rfl
    rw [List.getElem?_eq_getElem (by rw [hxl]; decide)] at g0
    rw [z0] at g0
    have g1 : DataW.trod enc Try.prog w 0 spare held q 3 ((([c0, c1, c2] : List Value).drop 1).take (Try.prog.cellsOf 3)) = xs[1]? := hf 1 _ rfl
    have z1 : Try.prog.cellsOf 3 = 1 := by kernel_rfl
    rw [List.getElem?_eq_getElem (by rw [hxl]; decide)] at g1
    rw [z1] at g1
    have g2 : DataW.trod enc Try.prog w 0 spare held q 3 ((([c0, c1, c2] : List Value).drop 2).take (Try.prog.cellsOf 3)) = xs[2]? := hf 2 _ rfl
    have z2 : Try.prog.cellsOf 3 = 1 := by kernel_rfl
    rw [List.getElem?_eq_getElem (by rw [hxl]; decide)] at g2
    rw [z2] at g2
    obtain ⟨A0, n0, k0, m0, e0, f0, l0, mm0, rr0⟩ := rows_factL (L := (lSlice (lInt .u8))) (R := (fun a => a.length ≤ maxLen ∧ ∀ x ∈ a, (fun a => (Lit.int .u8 a).wf = true) x)) Try.underlying22 (by kernel_rfl) (by decide) (el_slice (en := encI .u8) (z := 1) (hl := fun _ => rfl) (h1 := (fun _ u hu => ((lInt .u8)).one (w := w) (S := fun _ => True) rfl u hu)) (R := (fun a => (Lit.int .u8 a).wf = true)) Try.underlying25 (by kernel_rfl) (by decide) el5) g0
    obtain rfl : c0 = .slice A0 n0 k0 := by simpa using e0
    obtain ⟨m1, e1, _, _⟩ := DataW.trod_int Try.underlying3 g1
    obtain rfl : c1 = .int .i64 m1 := by simpa using e1
    obtain ⟨m2, e2, _, _⟩ := DataW.trod_int Try.underlying3 g2
    obtain rfl : c2 = .int .i64 m2 := by simpa using e2
    exact ⟨⟨m0, m1, m2⟩, A0, n0, k0, rfl, f0, l0, mm0, rr0⟩
set_option maxRecDepth 100000 in
theorem op27 {H : Type} {enc : TypeId × Value → H} {w : World} {spare : Nat → Bool} {held : Bool} : ∀ n cs y, DataW.trod enc Try.prog w 0 spare held n 27 cs = some y → ∃ (x : GPacket) (A0 : Option Addr) (n0 c0 : Nat), cs = [.int .i64 x.Party, .bool x.Down, .int .i64 x.Number, .int .i64 x.Ack, .slice A0 n0 c0] ∧ (fV (lSlice (lInt .u8)) (.slice A0 n0 c0) x.Data).R w (fun b => b < w.heap.size) ∧ x.Data.length = n0 ∧ n0 ≤ maxLen ∧ (∀ a ∈ x.Data, (fun a => (Lit.int .u8 a).wf = true) a) := fun n cs y h => by
  obtain ⟨xs, q, _, _, hl, hxl, hf⟩ := DataW.trod_struct Try.underlying27 h
  have hz : Try.prog.cellsOf 27 = 5 := by kernel_rfl
  rw [hz] at hl
  match cs, hl with
  | [c0, c1, c2, c3, c4], _ =>
    have g0 : DataW.trod enc Try.prog w 0 spare held q 3 ((([c0, c1, c2, c3, c4] : List Value).drop 0).take (Try.prog.cellsOf 3)) = xs[0]? := hf 0 _ rfl
    have z0 : Try.prog.cellsOf 3 = 1 := by kernel_rfl
    rw [List.getElem?_eq_getElem (by rw [hxl]; decide)] at g0
    rw [z0] at g0
    have g1 : DataW.trod enc Try.prog w 0 spare held q 4 ((([c0, c1, c2, c3, c4] : List Value).drop 1).take (Try.prog.cellsOf 4)) = xs[1]? := hf 1 _ rfl
    have z1 : Try.prog.cellsOf 4 = 1 := by kernel_rfl
    rw [List.getElem?_eq_getElem (by rw [hxl]; decide)] at g1
    rw [z1] at g1
    have g2 : DataW.trod enc Try.prog w 0 spare held q 3 ((([c0, c1, c2, c3, c4] : List Value).drop 2).take (Try.prog.cellsOf 3)) = xs[2]? := hf 2 _ rfl
    have z2 : Try.prog.cellsOf 3 = 1 := by kernel_rfl
    rw [List.getElem?_eq_getElem (by rw [hxl]; decide)] at g2
    rw [z2] at g2
    have g3 : DataW.trod enc Try.prog w 0 spare held q 3 ((([c0, c1, c2, c3, c4] : List Value).drop 3).take (Try.prog.cellsOf 3)) = xs[3]? := hf 3 _ rfl
    have z3 : Try.prog.cellsOf 3 = 1 := by kernel_rfl
    rw [List.getElem?_eq_getElem (by rw [hxl]; decide)] at g3
    rw [z3] at g3
    have g4 : DataW.trod enc Try.prog w 0 spare held q 25 ((([c0, c1, c2, c3, c4] : List Value).drop 4).take (Try.prog.cellsOf 25)) = xs[4]? := hf 4 _ rfl
    have z4 : Try.prog.cellsOf 25 = 1 := by kernel_rfl
    rw [List.getElem?_eq_getElem (by rw [hxl]; decide)] at g4
    rw [z4] at g4
    obtain ⟨m0, e0, _, _⟩ := DataW.trod_int Try.underlying3 g0
    obtain rfl : c0 = .int .i64 m0 := by simpa using e0
    obtain ⟨m1, e1, _⟩ := DataW.trod_bool Try.underlying4 g1
    obtain rfl : c1 = .bool m1 := by simpa using e1
    obtain ⟨m2, e2, _, _⟩ := DataW.trod_int Try.underlying3 g2
    obtain rfl : c2 = .int .i64 m2 := by simpa using e2
    obtain ⟨m3, e3, _, _⟩ := DataW.trod_int Try.underlying3 g3
    obtain rfl : c3 = .int .i64 m3 := by simpa using e3
    obtain ⟨A4, n4, k4, m4, e4, f4, l4, mm4, rr4⟩ := rows_fact (en := encI .u8) (z := 1) (hl := fun _ => rfl) (h1 := (fun _ u hu => ((lInt .u8)).one (w := w) (S := fun _ => True) rfl u hu)) (R := (fun a => (Lit.int .u8 a).wf = true)) Try.underlying25 (by kernel_rfl) (by decide) el5 g4
    obtain rfl : c4 = .slice A4 n4 k4 := by simpa using e4
    exact ⟨⟨m0, m1, m2, m3, m4⟩, A4, n4, k4, rfl, f4, l4, mm4, rr4⟩
theorem walk (x0 : GEndpoint) (A0_0 : Option Addr) (n0_0 c0_0 : Nat) (x1 : GPacket) (A1_0 : Option Addr) (n1_0 c1_0 : Nat) (a2 : Int) (a3 : Int) (a4 : Int) (w : World) (f0_0 : (fV (lSlice (lSlice (lInt .u8))) (.slice A0_0 n0_0 c0_0) x0.Out).R w (fun b => b < w.heap.size)) (l0_0 : x0.Out.length = n0_0) (m0_0 : n0_0 ≤ maxLen) (rr0_0 : ∀ a ∈ x0.Out, (fun a => a.length ≤ maxLen ∧ ∀ x ∈ a, (fun a => (Lit.int .u8 a).wf = true) x) a) (f1_0 : (fV (lSlice (lInt .u8)) (.slice A1_0 n1_0 c1_0) x1.Data).R w (fun b => b < w.heap.size)) (l1_0 : x1.Data.length = n1_0) (m1_0 : n1_0 ≤ maxLen) (rr1_0 : ∀ a ∈ x1.Data, (fun a => (Lit.int .u8 a).wf = true) a) (w2 : (Lit.int .i8 a2).wf = true) (w3 : (Lit.int .i8 a3).wf = true) (w4 : (Lit.int .u8 a4).wf = true) :
    Calls Try.prog 3 #[.agg #[.slice A0_0 n0_0 c0_0, .int .i64 x0.Acked, .int .i64 x0.Got], .agg #[.int .i64 x1.Party, .bool x1.Down, .int .i64 x1.Number, .int .i64 x1.Ack, .slice A1_0 n1_0 c1_0], .int .i8 a2, .int .i8 a3, .int .u8 a4] w fun e w' => e = .returned (.bool true) ∧ Below w.heap.size w w' := by
  have hp := Pl.treatylaw42_LinkReceive_law x0 x1 a2 a3 a4
  refine calls_of_spec (W_treatylaw42_LinkReceive x0 x1 a2 a3 a4 A0_0 n0_0 c0_0 A1_0 n1_0 c1_0 true hp) (by rintro _ _ _ ⟨rfl, _, _⟩; rfl) w ?_
  intro g hg
  simp only [List.mem_cons, List.not_mem_nil, or_false] at hg
  rcases hg with rfl | rfl
  · exact f0_0
  · exact f1_0
set_option maxRecDepth 100000 in
theorem lifted (os : Os) (started : os.Started) (H : Type) (enc : TypeId × Value → H) :
    ReturnsInHanded {} Try.checked os 3 .any (Rows.linkReceiveSpec.pre6 enc Try.prog Try.f3 Rows.linkReceiveRow.domain false) (Rows.linkReceiveSpec.post enc Try.prog Try.f3 false true false false) := by
  refine returnsInHanded_of_change (C := Try.checked) own started (by kernel_rfl) Try.func3
    (ChangeSpec.witness6 (enc := enc) (C := Try.checked) false ⟨#[], #[.agg #[.slice none 0 0, .int .i64 0, .int .i64 0], .agg #[.int .i64 0, .bool false, .int .i64 0, .int .i64 0, .slice none 0 0], .int .i8 0, .int .i8 0, .int .u8 0], []⟩ 8 (by kernel_rfl) (by kernel_rfl) (by kernel_rfl) (by kernel_rfl)) ?_
  intro W base args ds gs before hval0 hW hcnd _
  have hval : ∀ (j : Nat) t v, Try.f3.params[j]? = some t → args[j]? = some v → Value.okWide Try.prog W .any base t v := hval0
  have hW' := hW
  obtain ⟨p, q, hA0, hV, rfl, hfz, hnd⟩ := hW
  have hA : DataW.TrodAll enc Try.prog W 0 (fun _ => true) true Try.f3.params.toList args.toList ds p := hA0
  rw [Try.params3] at hA hval
  obtain ⟨v0, vs0, d0, ds0, p0, q0, hargs, rfl, rfl, h0, r0⟩ := trodAll_cons hA
  obtain ⟨v1, vs1, d1, ds1, p1, q1, rfl, rfl, rfl, h1, r1⟩ := trodAll_cons r0
  obtain ⟨v2, vs2, d2, ds2, p2, q2, rfl, rfl, rfl, h2, r2⟩ := trodAll_cons r1
  obtain ⟨v3, vs3, d3, ds3, p3, q3, rfl, rfl, rfl, h3, r3⟩ := trodAll_cons r2
  obtain ⟨v4, vs4, d4, ds4, p4, q4, rfl, rfl, rfl, h4, r4⟩ := trodAll_cons r3
  obtain ⟨rfl, rfl, rfl⟩ := trodAll_nil r4
  obtain rfl : args = #[v0, v1, v2, v3, v4] := by cases args; simp_all
  obtain ⟨rfl, rfl⟩ := trodVars_none hV
  obtain ⟨cs0, rfl, _⟩ := okWide_struct Try.underlying24 (hval 0 24 v0 rfl rfl)
  have k0 := h0
  have lt0 : ∀ x ∈ p0, x.block < W.heap.size := by obtain ⟨m, hm⟩ := k0; exact DataW.trod_lt m _ _ _ hm
  obtain ⟨fuel0, hf0⟩ := h0
  obtain ⟨x0, A0_0, n0_0, c0_0, hx0, f0_0, l0_0, m0_0, rr0_0⟩ := op24 _ _ _ hf0
  obtain rfl : cs0 = #[.slice A0_0 n0_0 c0_0, .int .i64 x0.Acked, .int .i64 x0.Got] := by
    cases cs0
    simpa [Value.cells] using hx0
  obtain ⟨cs1, rfl, _⟩ := okWide_struct Try.underlying27 (hval 1 27 v1 rfl rfl)
  have k1 := h1
  have lt1 : ∀ x ∈ p1, x.block < W.heap.size := by obtain ⟨m, hm⟩ := k1; exact DataW.trod_lt m _ _ _ hm
  obtain ⟨fuel1, hf1⟩ := h1
  obtain ⟨x1, A1_0, n1_0, c1_0, hx1, f1_0, l1_0, m1_0, rr1_0⟩ := op27 _ _ _ hf1
  obtain rfl : cs1 = #[.int .i64 x1.Party, .bool x1.Down, .int .i64 x1.Number, .int .i64 x1.Ack, .slice A1_0 n1_0 c1_0] := by
    cases cs1
    simpa [Value.cells] using hx1
  obtain ⟨a2, rfl, rfl, rfl, w2⟩ := open_int Try.underlying28 (hval 2 28 v2 rfl rfl) h2
  obtain ⟨a3, rfl, rfl, rfl, w3⟩ := open_int Try.underlying28 (hval 3 28 v3 rfl rfl) h3
  obtain ⟨a4, rfl, rfl, rfl, w4⟩ := open_int Try.underlying5 (hval 4 5 v4 rfl rfl) h4
  clear hA0 hval0
  refine (walk x0 A0_0 n0_0 c0_0 x1 A1_0 n1_0 c1_0 a2 a3 a4 W f0_0 l0_0 m0_0 rr0_0 f1_0 l1_0 m1_0 rr1_0 w2 w3 w4).mono fun e W' ⟨he, bel⟩ => ?_
  subst he
  exact ⟨_, rfl, _, _, _, [], _, [], hW', trodAll_mk1 (shut_bool Try.underlying4 _), (trodAll_cons_mk (Below.trod laidOut (by kernel_rfl) (of_decide_eq_true (by kernel_rfl)) k0 bel lt0) (trodAll_cons_mk (Below.trod laidOut (by kernel_rfl) (of_decide_eq_true (by kernel_rfl)) k1 bel lt1) (trodAll_cons_mk (shut_int Try.underlying28 w2) (trodAll_cons_mk (shut_int Try.underlying28 w3) (trodAll_cons_mk (shut_int Try.underlying5 w4) trodAll_mk0))))), rfl, bel.frame _, fun h => by cases h⟩
theorem over : Rows.linkReceiveRow.holds Try.pinned (OpenSpec.ofChange Rows.linkReceiveSpec) :=
  OpenClaim.holds_of_wide 3 Try.f3 rfl rfl rfl rfl rfl rfl rfl ⟨rfl, rfl, rfl, rfl, rfl⟩ rfl rfl rfl rfl rfl (by kernel_rfl) Try.func3 (by kernel_rfl)
    (of_decide_eq_true (by kernel_rfl)) (by unfold Func.isWrapper; first | (rw [if_pos (by decide +kernel)]; kernel_rfl) | (rw [if_neg (by decide +kernel)]; exact ⟨rfl, rfl⟩))
    (fun os started H enc _ => lifted os started H enc)
theorem proved : Rows.LinkReceiveSaid := over
end Go.Proofs.Ytkpoflfhmjkldaa.linkReceive

namespace Go.Proofs.Ytkpoflfhmjkldaa
theorem linkReceive_holds : Rows.LinkReceiveSaid := linkReceive.proved
#print axioms linkReceive_holds
end Go.Proofs.Ytkpoflfhmjkldaa
