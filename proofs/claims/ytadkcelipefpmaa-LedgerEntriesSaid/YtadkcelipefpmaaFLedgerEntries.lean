/- LedgerEntries: for every input the law returns true, and each argument reads as before. No conditions. The walk is written by a program (gen2), the plain law by hand. -/
import Derived.Test.YtadkcelipefpmaaRows
import Derived.WalkKit
import Derived.ProofKit
import Derived.OpenShut
import Derived.ShutString
import Derived.ChangeOld
import Derived.Below
import Derived.Carry
import Derived.Test.YtadkcelipefpmaaKTop
import Derived.Test.YtadkcelipefpmaaKOpen
import Derived.Test.YtadkcelipefpmaaWLedgerEntries
import Derived.Test.YtadkcelipefpmaaLLedEntries
namespace Go.Proofs.Ytadkcelipefpmaa.ledgerEntries
open Go.ChangeShapes Go.WideShapes Go.ChangeAt Go.RowKit
set_option linter.unusedVariables false
set_option linter.unusedSimpArgs false

theorem own : ownKnob Try.prog.godebug = none := by kernel_rfl
theorem laidOut : laidOutB Try.prog = true := by kernel_rfl
def RGShare (x : GShare) : Prop := (Lit.int .i64 x.Loss).wf = true ∧ (Lit.int .i64 x.Treaty).wf = true ∧ (Lit.int .i64 x.Party).wf = true ∧ (Lit.int .i64 x.Amount).wf = true ∧ (Lit.int .i64 x.Paid).wf = true ∧ True
set_option maxRecDepth 100000 in
theorem el99 {H : Type} {enc : TypeId × Value → H} {w : World} {spare : Nat → Bool} {held : Bool} : ∀ n cs y, DataW.trod enc Try.prog w 0 spare held n 99 cs = some y → ∃ a : GShare, cs = encGShare a ∧ RGShare a := fun n cs y h => by
  obtain ⟨xs, q, _, _, hl, hxl, hf⟩ := DataW.trod_struct Try.underlying99 h
  have hz : Try.prog.cellsOf 99 = 5 := by kernel_rfl
  rw [hz] at hl
  match cs, hl with
  | [c0, c1, c2, c3, c4], _ =>
    have g0 : DataW.trod enc Try.prog w 0 spare held q 3 ((([c0, c1, c2, c3, c4] : List Value).drop 0).take (Try.prog.cellsOf 3)) = xs[0]? := hf 0 _ rfl
    have z0 : Try.prog.cellsOf 3 = 1 := by kernel_rfl
    rw [List.getElem?_eq_getElem (by rw [hxl]; decide)] at g0
    rw [z0] at g0
    have g1 : DataW.trod enc Try.prog w 0 spare held q 3 ((([c0, c1, c2, c3, c4] : List Value).drop 1).take (Try.prog.cellsOf 3)) = xs[1]? := hf 1 _ rfl
    have z1 : Try.prog.cellsOf 3 = 1 := by kernel_rfl
    rw [List.getElem?_eq_getElem (by rw [hxl]; decide)] at g1
    rw [z1] at g1
    have g2 : DataW.trod enc Try.prog w 0 spare held q 3 ((([c0, c1, c2, c3, c4] : List Value).drop 2).take (Try.prog.cellsOf 3)) = xs[2]? := hf 2 _ rfl
    have z2 : Try.prog.cellsOf 3 = 1 := by kernel_rfl
    rw [List.getElem?_eq_getElem (by rw [hxl]; decide)] at g2
    rw [z2] at g2
    have g3 : DataW.trod enc Try.prog w 0 spare held q 3 ((([c0, c1, c2, c3, c4] : List Value).drop 3).take (Try.prog.cellsOf 3)) = xs[3]? := hf 3 _ rfl
    have z3 : Try.prog.cellsOf 3 = 1 := by kernel_rfl
    rw [List.getElem?_eq_getElem (by rw [hxl]; decide)] at g3
    rw [z3] at g3
    have g4 : DataW.trod enc Try.prog w 0 spare held q 3 ((([c0, c1, c2, c3, c4] : List Value).drop 4).take (Try.prog.cellsOf 3)) = xs[4]? := hf 4 _ rfl
    have z4 : Try.prog.cellsOf 3 = 1 := by kernel_rfl
    rw [List.getElem?_eq_getElem (by rw [hxl]; decide)] at g4
    rw [z4] at g4
    obtain ⟨m0, e0, _, w0⟩ := DataW.trod_int Try.underlying3 g0
    obtain rfl : c0 = .int .i64 m0 := by simpa using e0
    obtain ⟨m1, e1, _, w1⟩ := DataW.trod_int Try.underlying3 g1
    obtain rfl : c1 = .int .i64 m1 := by simpa using e1
    obtain ⟨m2, e2, _, w2⟩ := DataW.trod_int Try.underlying3 g2
    obtain rfl : c2 = .int .i64 m2 := by simpa using e2
    obtain ⟨m3, e3, _, w3⟩ := DataW.trod_int Try.underlying3 g3
    obtain rfl : c3 = .int .i64 m3 := by simpa using e3
    obtain ⟨m4, e4, _, w4⟩ := DataW.trod_int Try.underlying3 g4
    obtain rfl : c4 = .int .i64 m4 := by simpa using e4
    exact ⟨⟨m0, m1, m2, m3, m4⟩, rfl, w0, w1, w2, w3, w4, trivial⟩
theorem el3 {H : Type} {enc : TypeId × Value → H} {w : World} {spare : Nat → Bool} {held : Bool} : ∀ n cs y, DataW.trod enc Try.prog w 0 spare held n 3 cs = some y → ∃ a : Int, cs = encI .i64 a ∧ (Lit.int .i64 a).wf = true := el_int Try.underlying3
theorem walk (A0 : Option Addr) (n0 c0 : Nat) (x0 : List GShare) (A1 : Option Addr) (n1 c1 : Nat) (x1 : List Int) (w : World) (f0 : (fV (lSlice lGShare) (.slice A0 n0 c0) x0).R w (fun b => b < w.heap.size)) (l0 : x0.length = n0) (m0 : n0 ≤ maxLen) (rr0 : ∀ a ∈ x0, RGShare a) (f1 : (fV (lSlice (lInt .i64)) (.slice A1 n1 c1) x1).R w (fun b => b < w.heap.size)) (l1 : x1.length = n1) (m1 : n1 ≤ maxLen) (rr1 : ∀ a ∈ x1, (fun a => (Lit.int .i64 a).wf = true) a) :
    Calls Try.prog 12 #[.slice A0 n0 c0, .slice A1 n1 c1] w fun e w' => e = .returned (.bool true) ∧ Below w.heap.size w w' := by
  have hp := Pl.treatylaw33_LedgerEntries_law x0 x1 (by rw [l1]; exact m1)
  refine calls_of_spec (W_treatylaw33_LedgerEntries x0 x1 A0 n0 c0 A1 n1 c1 true hp) (by rintro _ _ _ ⟨rfl, _, _⟩; rfl) w ?_
  intro g hg
  simp only [List.mem_cons, List.not_mem_nil, or_false] at hg
  rcases hg with rfl | rfl
  · exact f0
  · exact f1
set_option maxRecDepth 100000 in
theorem lifted (os : Os) (started : os.Started) (H : Type) (enc : TypeId × Value → H) :
    ReturnsInHanded {} Try.checked os 12 .any (Rows.ledgerEntriesSpec.pre6 enc Try.prog Try.f12 Rows.ledgerEntriesRow.domain false) (Rows.ledgerEntriesSpec.post enc Try.prog Try.f12 false true false false) := by
  refine returnsInHanded_of_change (C := Try.checked) own started (by kernel_rfl) Try.func12
    (ChangeSpec.witness6 (enc := enc) (C := Try.checked) false ⟨#[], #[.slice none 0 0, .slice none 0 0], []⟩ 8 (by kernel_rfl) (by kernel_rfl) (by kernel_rfl) (by kernel_rfl)) ?_
  intro W base args ds gs before hval0 hW hcnd _
  have hval : ∀ (j : Nat) t v, Try.f12.params[j]? = some t → args[j]? = some v → Value.okWide Try.prog W .any base t v := hval0
  have hW' := hW
  obtain ⟨p, q, hA0, hV, rfl, hfz, hnd⟩ := hW
  have hA : DataW.TrodAll enc Try.prog W 0 (fun _ => true) true Try.f12.params.toList args.toList ds p := hA0
  rw [Try.params12] at hA hval
  obtain ⟨v0, vs0, d0, ds0, p0, q0, hargs, rfl, rfl, h0, r0⟩ := trodAll_cons hA
  obtain ⟨v1, vs1, d1, ds1, p1, q1, rfl, rfl, rfl, h1, r1⟩ := trodAll_cons r0
  obtain ⟨rfl, rfl, rfl⟩ := trodAll_nil r1
  obtain rfl : args = #[v0, v1] := by cases args; simp_all
  obtain ⟨rfl, rfl⟩ := trodVars_none hV
  obtain ⟨A0, n0, c0, rfl⟩ := okWide_slice Try.underlying68 (hval 0 68 v0 rfl rfl)
  have k0 := h0
  have lt0 : ∀ x ∈ p0, x.block < W.heap.size := by obtain ⟨m, hm⟩ := k0; exact DataW.trod_lt m _ _ _ hm
  obtain ⟨fuel0, hf0⟩ := h0
  obtain ⟨A'0, n'0, c'0, x0, hcs0, f0, l0, m0, rr0⟩ := rows_fact (en := encGShare) (z := 5) (hl := fun _ => rfl) (h1 := (fun _ u hu => (lGShare).one (w := W) (S := fun _ => True) rfl u hu)) (R := RGShare) Try.underlying68 (by kernel_rfl) (by decide) el99 hf0
  obtain ⟨rfl, rfl, rfl⟩ : A0 = A'0 ∧ n0 = n'0 ∧ c0 = c'0 := by simpa [Value.cells] using hcs0
  obtain ⟨A1, n1, c1, rfl⟩ := okWide_slice Try.underlying22 (hval 1 22 v1 rfl rfl)
  have k1 := h1
  have lt1 : ∀ x ∈ p1, x.block < W.heap.size := by obtain ⟨m, hm⟩ := k1; exact DataW.trod_lt m _ _ _ hm
  obtain ⟨fuel1, hf1⟩ := h1
  obtain ⟨A'1, n'1, c'1, x1, hcs1, f1, l1, m1, rr1⟩ := rows_fact (en := encI .i64) (z := 1) (hl := fun _ => rfl) (h1 := (fun _ u hu => ((lInt .i64)).one (w := W) (S := fun _ => True) rfl u hu)) (R := (fun a => (Lit.int .i64 a).wf = true)) Try.underlying22 (by kernel_rfl) (by decide) el3 hf1
  obtain ⟨rfl, rfl, rfl⟩ : A1 = A'1 ∧ n1 = n'1 ∧ c1 = c'1 := by simpa [Value.cells] using hcs1
  clear hA0 hval0
  refine (walk A0 n0 c0 x0 A1 n1 c1 x1 W f0 l0 m0 rr0 f1 l1 m1 rr1).mono fun e W' ⟨he, bel⟩ => ?_
  subst he
  exact ⟨_, rfl, _, _, _, [], _, [], hW', trodAll_mk1 (shut_bool Try.underlying4 _), (trodAll_cons_mk (Below.trod laidOut (by kernel_rfl) (of_decide_eq_true (by kernel_rfl)) k0 bel lt0) (trodAll_cons_mk (Below.trod laidOut (by kernel_rfl) (of_decide_eq_true (by kernel_rfl)) k1 bel lt1) trodAll_mk0)), rfl, bel.frame _, fun h => by cases h⟩
theorem over : Rows.ledgerEntriesRow.holds Try.pinned (OpenSpec.ofChange Rows.ledgerEntriesSpec) :=
  OpenClaim.holds_of_wide 12 Try.f12 rfl rfl rfl rfl rfl rfl rfl ⟨rfl, rfl, rfl, rfl, rfl⟩ rfl rfl rfl rfl rfl (by kernel_rfl) Try.func12 (by kernel_rfl)
    (of_decide_eq_true (by kernel_rfl)) (by unfold Func.isWrapper; first | (rw [if_pos (by decide +kernel)]; kernel_rfl) | (rw [if_neg (by decide +kernel)]; exact ⟨rfl, rfl⟩))
    (fun os started H enc _ => lifted os started H enc)
theorem proved : Rows.LedgerEntriesSaid := over
end Go.Proofs.Ytadkcelipefpmaa.ledgerEntries

namespace Go.Proofs.Ytadkcelipefpmaa
theorem ledgerEntries_holds : Rows.LedgerEntriesSaid := ledgerEntries.proved
#print axioms ledgerEntries_holds
end Go.Proofs.Ytadkcelipefpmaa
