import Derived.Test.YtdenliplkmjmjaaGreatRows
import Derived.WalkKit
import Derived.ProofKit
import Derived.OpenShut
import Derived.ShutString
import Derived.ChangeOld
import Derived.Below
import Derived.Carry
import Derived.Test.YtdenliplkmjmjaaGreatPD
import Derived.Test.YtdenliplkmjmjaaGreatPW4
import Derived.Test.YtdenliplkmjmjaaGreatPT
namespace Go.Proofs.YtdenliplkmjmjaaGreat.transferLater
open Go.ChangeShapes Go.WideShapes Go.ChangeAt Go.RowKit
set_option linter.unusedVariables false
set_option linter.unusedSimpArgs false
theorem own:ownKnob Tryz.prog.godebug = none:=by kernel_rfl
theorem laidOut:laidOutB Tryz.prog = true:=by kernel_rfl
theorem el3 {H:Type} {enc:TypeId × Value → H} {w:World} {spare:Nat → Bool} {held:Bool}:∀ n cs y,DataW.trod enc Tryz.prog w 0 spare held n 3 cs = some y → ∃ a:Int,cs = encI .i64 a ∧ (Lit.int .i64 a).wf = true:=el_int Tryz.underlying3
theorem walk (A0:Option Addr) (n0 c0:Nat) (x0:List Int) (A1:Option Addr) (n1 c1:Nat) (x1:List Int) (A2:Option Addr) (n2 c2:Nat) (x2:List Int) (w:World) (f0:(fV (lSlice (lInt .i64)) (.slice A0 n0 c0) x0).R w (fun b=>b < w.heap.size)) (l0:x0.length = n0) (m0:n0 ≤ maxLen) (rr0:∀ a ∈ x0,(fun a=>(Lit.int .i64 a).wf = true) a) (f1:(fV (lSlice (lInt .i64)) (.slice A1 n1 c1) x1).R w (fun b=>b < w.heap.size)) (l1:x1.length = n1) (m1:n1 ≤ maxLen) (rr1:∀ a ∈ x1,(fun a=>(Lit.int .i64 a).wf = true) a) (f2:(fV (lSlice (lInt .i64)) (.slice A2 n2 c2) x2).R w (fun b=>b < w.heap.size)) (l2:x2.length = n2) (m2:n2 ≤ maxLen) (rr2:∀ a ∈ x2,(fun a=>(Lit.int .i64 a).wf = true) a) :
    Calls Tryz.prog 5 #[.slice A0 n0 c0,.slice A1 n1 c1,.slice A2 n2 c2] w fun e w'=>e = .returned (.bool true) ∧ Below w.heap.size w w':=by
  have hp:=Pl.treatylaw37_TransferLater_law x0 x1 x2 (by rw [l0]; exact m0) (by rw [l1]; exact m1) (by rw [l2]; exact m2)
  refine calls_of_spec (qafa x0 x1 x2 A0 n0 c0 A1 n1 c1 A2 n2 c2 true hp) (by rintro _ _ _ ⟨rfl,_,_⟩; rfl) w ?_
  intro g hg
  simp only [List.mem_cons,List.not_mem_nil,or_false] at hg
  rcases hg with rfl | rfl | rfl
  · exact f0
  · exact f1
  · exact f2
set_option maxRecDepth 100000 in
theorem lifted (os:Os) (started:os.Started) (H:Type) (enc:TypeId × Value → H) :
    ReturnsInHanded {} Tryz.checked os 5 .any (Rows.transferLaterSpec.pre6 enc Tryz.prog Tryz.f5 Rows.transferLaterRow.domain false) (Rows.transferLaterSpec.post enc Tryz.prog Tryz.f5 false true false false):=by
  refine returnsInHanded_of_change (C:=Tryz.checked) own started (by kernel_rfl) Tryz.func5
    (ChangeSpec.witness6 (enc:=enc) (C:=Tryz.checked) false ⟨#[],#[.slice none 0 0,.slice none 0 0,.slice none 0 0],[]⟩ 8 (by kernel_rfl) (by kernel_rfl) (by kernel_rfl) (by kernel_rfl)) ?_
  intro W base args ds gs before hval0 hW hcnd _
  have hval:∀ (j:Nat) t v,Tryz.f5.params[j]? = some t → args[j]? = some v → Value.okWide Tryz.prog W .any base t v:=hval0
  have hW':=hW
  obtain ⟨p,q,hA0,hV,rfl,hfz,hnd⟩:=hW
  have hA:DataW.TrodAll enc Tryz.prog W 0 (fun _=>true) true Tryz.f5.params.toList args.toList ds p:=hA0
  rw [Tryz.params5] at hA hval
  obtain ⟨v0,vs0,d0,ds0,p0,q0,hargs,rfl,rfl,h0,r0⟩:=trodAll_cons hA
  obtain ⟨v1,vs1,d1,ds1,p1,q1,rfl,rfl,rfl,h1,r1⟩:=trodAll_cons r0
  obtain ⟨v2,vs2,d2,ds2,p2,q2,rfl,rfl,rfl,h2,r2⟩:=trodAll_cons r1
  obtain ⟨rfl,rfl,rfl⟩:=trodAll_nil r2
  obtain rfl:args = #[v0,v1,v2]:=by cases args; simp_all
  obtain ⟨rfl,rfl⟩:=trodVars_none hV
  obtain ⟨A0,n0,c0,rfl⟩:=okWide_slice Tryz.underlying22 (hval 0 22 v0 rfl rfl)
  have k0:=h0
  have lt0:∀ x ∈ p0,x.block < W.heap.size:=by obtain ⟨m,hm⟩:=k0; exact DataW.trod_lt m _ _ _ hm
  obtain ⟨fuel0,hf0⟩:=h0
  obtain ⟨A'0,n'0,c'0,x0,hcs0,f0,l0,m0,rr0⟩:=rows_fact (en:=encI .i64) (z:=1) (hl:=fun _=>rfl) (h1:=(fun _ u hu=>((lInt .i64)).one (w:=W) (S:=fun _=>True) rfl u hu)) (R:=(fun a=>(Lit.int .i64 a).wf = true)) Tryz.underlying22 (by kernel_rfl) (by decide) el3 hf0
  obtain ⟨rfl,rfl,rfl⟩:A0 = A'0 ∧ n0 = n'0 ∧ c0 = c'0:=by simpa [Value.cells] using hcs0
  obtain ⟨A1,n1,c1,rfl⟩:=okWide_slice Tryz.underlying22 (hval 1 22 v1 rfl rfl)
  have k1:=h1
  have lt1:∀ x ∈ p1,x.block < W.heap.size:=by obtain ⟨m,hm⟩:=k1; exact DataW.trod_lt m _ _ _ hm
  obtain ⟨fuel1,hf1⟩:=h1
  obtain ⟨A'1,n'1,c'1,x1,hcs1,f1,l1,m1,rr1⟩:=rows_fact (en:=encI .i64) (z:=1) (hl:=fun _=>rfl) (h1:=(fun _ u hu=>((lInt .i64)).one (w:=W) (S:=fun _=>True) rfl u hu)) (R:=(fun a=>(Lit.int .i64 a).wf = true)) Tryz.underlying22 (by kernel_rfl) (by decide) el3 hf1
  obtain ⟨rfl,rfl,rfl⟩:A1 = A'1 ∧ n1 = n'1 ∧ c1 = c'1:=by simpa [Value.cells] using hcs1
  obtain ⟨A2,n2,c2,rfl⟩:=okWide_slice Tryz.underlying22 (hval 2 22 v2 rfl rfl)
  have k2:=h2
  have lt2:∀ x ∈ p2,x.block < W.heap.size:=by obtain ⟨m,hm⟩:=k2; exact DataW.trod_lt m _ _ _ hm
  obtain ⟨fuel2,hf2⟩:=h2
  obtain ⟨A'2,n'2,c'2,x2,hcs2,f2,l2,m2,rr2⟩:=rows_fact (en:=encI .i64) (z:=1) (hl:=fun _=>rfl) (h1:=(fun _ u hu=>((lInt .i64)).one (w:=W) (S:=fun _=>True) rfl u hu)) (R:=(fun a=>(Lit.int .i64 a).wf = true)) Tryz.underlying22 (by kernel_rfl) (by decide) el3 hf2
  obtain ⟨rfl,rfl,rfl⟩:A2 = A'2 ∧ n2 = n'2 ∧ c2 = c'2:=by simpa [Value.cells] using hcs2
  clear hA0 hval0
  refine (walk A0 n0 c0 x0 A1 n1 c1 x1 A2 n2 c2 x2 W f0 l0 m0 rr0 f1 l1 m1 rr1 f2 l2 m2 rr2).mono fun e W' ⟨he,bel⟩=>?_
  subst he
  exact ⟨_,rfl,_,_,_,[],_,[],hW',trodAll_mk1 (shut_bool Tryz.underlying4 _),(trodAll_cons_mk (Below.trod laidOut (by kernel_rfl) (of_decide_eq_true (by kernel_rfl)) k0 bel lt0) (trodAll_cons_mk (Below.trod laidOut (by kernel_rfl) (of_decide_eq_true (by kernel_rfl)) k1 bel lt1) (trodAll_cons_mk (Below.trod laidOut (by kernel_rfl) (of_decide_eq_true (by kernel_rfl)) k2 bel lt2) trodAll_mk0))),rfl,bel.frame _,fun h=>by cases h⟩
theorem over:Rows.transferLaterRow.holds Tryz.pinned (OpenSpec.ofChange Rows.transferLaterSpec) :=
  OpenClaim.holds_of_wide 5 Tryz.f5 rfl rfl rfl rfl rfl rfl rfl ⟨rfl,rfl,rfl,rfl,rfl⟩ rfl rfl rfl rfl rfl (by kernel_rfl) Tryz.func5 (by kernel_rfl)
    (of_decide_eq_true (by kernel_rfl)) (by unfold Func.isWrapper; first | (rw [if_pos (by decide +kernel)]; kernel_rfl) | (rw [if_neg (by decide +kernel)]; exact ⟨rfl,rfl⟩))
    (fun os started H enc _=>lifted os started H enc)
theorem proved:Rows.TransferLaterSaid:=over
end Go.Proofs.YtdenliplkmjmjaaGreat.transferLater
namespace Go.Proofs.YtdenliplkmjmjaaGreat
theorem transferLater_holds:Rows.TransferLaterSaid:=transferLater.proved
#print axioms transferLater_holds
end Go.Proofs.YtdenliplkmjmjaaGreat

