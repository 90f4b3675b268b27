import Derived.Test.YtfekcgnnhjmeiaaRows
import Derived.WalkKit
import Derived.ProofKit
import Derived.OpenShut
import Derived.ShutString
import Derived.ChangeOld
import Derived.Below
import Derived.Carry
import Derived.Test.YtfekcgnnhjmeiaaKTop
import Derived.Test.YtfekcgnnhjmeiaaKOpen2
import Derived.Test.YtfekcgnnhjmeiaaWInuringOrder
import Derived.Test.YtfekcgnnhjmeiaaPL
namespace Go.Proofs.Ytfekcgnnhjmeiaa.inuringOrder
open Go.ChangeShapes Go.WideShapes Go.ChangeAt Go.RowKit
set_option linter.unusedVariables false
set_option linter.unusedSimpArgs false
theorem own:ownKnob Try.prog.godebug = none:=by kernel_rfl
theorem laidOut:laidOutB Try.prog = true:=by kernel_rfl
theorem el3 {H:Type} {enc:TypeId × Value → H} {w:World} {spare:Nat → Bool} {held:Bool}:∀ n cs y,DataW.trod enc Try.prog w 0 spare held n 3 cs = some y → ∃ a:Int,cs = encI .i64 a ∧ (Lit.int .i64 a).wf = true:=el_int Try.underlying3
theorem walk (A0:Option Addr) (n0 c0:Nat) (x0:List Int) (a1:Int) (a2:Int) (w:World) (f0:(fV (lSlice (lInt .i64)) (.slice A0 n0 c0) x0).R w (fun b=>b < w.heap.size)) (l0:x0.length = n0) (m0:n0 ≤ maxLen) (rr0:∀ a ∈ x0,(fun a=>(Lit.int .i64 a).wf = true) a) (w1:(Lit.int .i64 a1).wf = true) (w2:(Lit.int .i64 a2).wf = true) :
    Calls Try.prog 3 #[.slice A0 n0 c0,.int .i64 a1,.int .i64 a2] w fun e w'=>e = .returned (.bool true) ∧ Below w.heap.size w w':=by
  have hp:=Pl.treatylaw29_InuringOrder_law x0 a1 a2 (by rw [l0]; exact m0)
  refine calls_of_spec (W_treatylaw29_InuringOrder x0 a1 a2 A0 n0 c0 true hp) (by rintro _ _ _ ⟨rfl,_,_⟩; rfl) w ?_
  intro g hg
  simp only [List.mem_cons,List.not_mem_nil,or_false] at hg
  rcases hg with rfl
  · exact f0
set_option maxRecDepth 100000 in
theorem lifted (os:Os) (started:os.Started) (H:Type) (enc:TypeId × Value → H) :
    ReturnsInHanded {} Try.checked os 3 .any (Rows.inuringOrderSpec.pre6 enc Try.prog Try.f3 Rows.inuringOrderRow.domain false) (Rows.inuringOrderSpec.post enc Try.prog Try.f3 false true false false):=by
  refine returnsInHanded_of_change (C:=Try.checked) own started (by kernel_rfl) Try.func3
    (ChangeSpec.witness6 (enc:=enc) (C:=Try.checked) false ⟨#[],#[.slice none 0 0,.int .i64 0,.int .i64 0],[]⟩ 8 (by kernel_rfl) (by kernel_rfl) (by kernel_rfl) (by kernel_rfl)) ?_
  intro W base args ds gs before hval0 hW hcnd _
  have hval:∀ (j:Nat) t v,Try.f3.params[j]? = some t → args[j]? = some v → Value.okWide Try.prog W .any base t v:=hval0
  have hW':=hW
  obtain ⟨p,q,hA0,hV,rfl,hfz,hnd⟩:=hW
  have hA:DataW.TrodAll enc Try.prog W 0 (fun _=>true) true Try.f3.params.toList args.toList ds p:=hA0
  rw [Try.params3] at hA hval
  obtain ⟨v0,vs0,d0,ds0,p0,q0,hargs,rfl,rfl,h0,r0⟩:=trodAll_cons hA
  obtain ⟨v1,vs1,d1,ds1,p1,q1,rfl,rfl,rfl,h1,r1⟩:=trodAll_cons r0
  obtain ⟨v2,vs2,d2,ds2,p2,q2,rfl,rfl,rfl,h2,r2⟩:=trodAll_cons r1
  obtain ⟨rfl,rfl,rfl⟩:=trodAll_nil r2
  obtain rfl:args = #[v0,v1,v2]:=by cases args; simp_all
  obtain ⟨rfl,rfl⟩:=trodVars_none hV
  obtain ⟨A0,n0,c0,rfl⟩:=okWide_slice Try.underlying22 (hval 0 22 v0 rfl rfl)
  have k0:=h0
  have lt0:∀ x ∈ p0,x.block < W.heap.size:=by obtain ⟨m,hm⟩:=k0; exact DataW.trod_lt m _ _ _ hm
  obtain ⟨fuel0,hf0⟩:=h0
  obtain ⟨A'0,n'0,c'0,x0,hcs0,f0,l0,m0,rr0⟩:=rows_fact (en:=encI .i64) (z:=1) (hl:=fun _=>rfl) (h1:=(fun _ u hu=>((lInt .i64)).one (w:=W) (S:=fun _=>True) rfl u hu)) (R:=(fun a=>(Lit.int .i64 a).wf = true)) Try.underlying22 (by kernel_rfl) (by decide) el3 hf0
  obtain ⟨rfl,rfl,rfl⟩:A0 = A'0 ∧ n0 = n'0 ∧ c0 = c'0:=by simpa [Value.cells] using hcs0
  obtain ⟨a1,rfl,rfl,rfl,w1⟩:=open_int Try.underlying3 (hval 1 3 v1 rfl rfl) h1
  obtain ⟨a2,rfl,rfl,rfl,w2⟩:=open_int Try.underlying3 (hval 2 3 v2 rfl rfl) h2
  clear hA0 hval0
  refine (walk A0 n0 c0 x0 a1 a2 W f0 l0 m0 rr0 w1 w2).mono fun e W' ⟨he,bel⟩=>?_
  subst he
  exact ⟨_,rfl,_,_,_,[],_,[],hW',trodAll_mk1 (shut_bool Try.underlying4 _),(trodAll_cons_mk (Below.trod laidOut (by kernel_rfl) (of_decide_eq_true (by kernel_rfl)) k0 bel lt0) (trodAll_cons_mk (shut_int Try.underlying3 w1) (trodAll_cons_mk (shut_int Try.underlying3 w2) trodAll_mk0))),rfl,bel.frame _,fun h=>by cases h⟩
theorem over:Rows.inuringOrderRow.holds Try.pinned (OpenSpec.ofChange Rows.inuringOrderSpec) :=
  OpenClaim.holds_of_wide 3 Try.f3 rfl rfl rfl rfl rfl rfl rfl ⟨rfl,rfl,rfl,rfl,rfl⟩ rfl rfl rfl rfl rfl (by kernel_rfl) Try.func3 (by kernel_rfl)
    (of_decide_eq_true (by kernel_rfl)) (by unfold Func.isWrapper; first | (rw [if_pos (by decide +kernel)]; kernel_rfl) | (rw [if_neg (by decide +kernel)]; exact ⟨rfl,rfl⟩))
    (fun os started H enc _=>lifted os started H enc)
theorem proved:Rows.InuringOrderSaid:=over
end Go.Proofs.Ytfekcgnnhjmeiaa.inuringOrder
namespace Go.Proofs.Ytfekcgnnhjmeiaa
theorem inuringOrder_holds:Rows.InuringOrderSaid:=inuringOrder.proved
#print axioms inuringOrder_holds
end Go.Proofs.Ytfekcgnnhjmeiaa

