import Derived.Test.YtdenliplkmjmjaaGreatPB
import Derived.Laws.StructEq
import Derived.Test.YtdenliplkmjmjaaGreatRows
import Derived.KernelRfl
import Derived.ChangeKeysEq
import Derived.Test.YtdenliplkmjmjaaGreatPA
import Derived.Maps.RangeRun
import Derived.Shelf.SlSortCmp.Whole1
import Derived.Shelf.SlSortCmp.NoneTotal
import Derived.Shelf.SlSortCmp.WholeK
import Derived.Shelf.Bits.Mul64
import Derived.Shelf.Small.Bits
namespace Go.Proofs.YtdenliplkmjmjaaGreat
open Go.RowKit
def pAt (A:Option Addr) (k:Nat):Value:=.pointer (A.map (·.add k))
def fPt (A:Option Addr) (k:Nat) (cs:List Value):Fact where
  R:=fun w S=>∃ b o,A = some ⟨b,o,none⟩ ∧ S b ∧ At w b (o + k) cs
  keep:=fun ⟨b,o,h1,h2,h3⟩ hs=>⟨b,o,h1,h2,h3.keep (hs b h2)⟩
  sub:=fun ⟨b,o,h1,h2,h3⟩ hs=>⟨b,o,h1,hs b h2,h3⟩
theorem inb_spec {α:Type} {xs:List α} {i:Int} (h:inb xs i = true):0 ≤ i ∧ i.toNat < xs.length:=by
  simp only [inb,Bool.and_eq_true,decide_eq_true_eq] at h
  omega
theorem ix_eq {α:Type} [Inhabited α] {xs:List α} {i:Int} (h:i.toNat < xs.length):ix xs i = xs[i.toNat]:=by
  simp [ix,h]
section
variable {P:Program} {C:Cx} {n:FN} {Q:Exit → Act → World → Prop} {σ:List (Nat × Value)} {η:List Ent} {ι:List Fact}
theorem St.lenF {α:Type} {L:Lay α} {w:World} {A:Option Addr} {m c:Nat} {xs:List α} (h:St C η ι w) (hf:fV (lSlice L) (.slice A m c) xs ∈ ι):m = xs.length:=(lSlice_of (h.facts _ hf)).1
theorem St.lenO {α:Type} {L:Lay α} {w:World} {e:TypeId} {A:Option Addr} {m c:Nat} {xs:List α} (h:St C η ι w) (hf:eS L e A m c xs ∈ η):m = xs.length:=(h.ents _ hf).1
theorem St.openE {α:Type} [Inhabited α] {L:Lay α} {w:World} {A:Option Addr} {m c:Nat} {xs:List α} (h:St C η ι w) (hf:fV (lSlice L) (.slice A m c) xs ∈ ι) {i:Int} (hi:inb xs i = true) :
    ∃ cs,St C η (fPt A (i.toNat * L.size) cs :: fC L cs (ix xs i) :: ι) w:=by
  obtain ⟨h0,h1⟩:=inb_spec hi
  obtain ⟨b,o,cs,hA,hb,hr,hat⟩:=(lSlice_of (h.facts _ hf)).2.2.at_ h1
  refine ⟨cs,(h.fact (f:=fC L cs (ix xs i)) ?_).fact ⟨b,o,hA,hb,hat⟩⟩
  rw [ix_eq h1]
  exact hr
theorem St.openF {α:Type} [Inhabited α] {enc:α → List Value} {z:Nat} {hl:∀ x,(enc x).length = z} {h1:∀ x,∀ u ∈ enc x,u.oneCell' = true} {w:World} {A:Option Addr} {m c:Nat} {xs:List α} (h:St C η ι w) (hf:fV (lSlice (lFlat enc z hl h1)) (.slice A m c) xs ∈ ι) {i:Int} (hi:inb xs i = true) :
    St C η (fPt A (i.toNat * z) (enc (ix xs i)) :: ι) w:=by
  obtain ⟨cs,hs⟩:=h.openE hf hi
  have hc:cs = enc (ix xs i):=hs.facts _ (ms m0)
  subst hc
  exact hs.subFacts fun f hf=>by
    rcases List.mem_cons.1 hf with rfl | hf
    · exact m0
    · exact ms (ms hf)
variable {d:Option Tmp} {ty:TypeId} {pos:String} {af:Array Edge} {gd:Option (Nat × Bool)}
theorem run_index {t e:TypeId} {kd:IntKind} {b o m c z:Nat} {i:Int} {w:World} (h0:0 ≤ i) (hm:i.toNat < m) (ht:P.underlying t = some (.slice e)) (hz:sizeB P e = some z) :
    (Instr.indexAt t (.slice (some ⟨b,o,none⟩) m c) (.int kd i)).run P w = .ok (.pointer (some ⟨b,o + i.toNat * z,none⟩)) w:=by
  obtain ⟨q,hq,rfl⟩:∃ q,P.info? e = some q ∧ q.size = z:=by simpa [sizeB] using hz
  have hi:i = (i.toNat:Int):=by omega
  have hadd:=Addr.add_at b o (i.toNat * q.size)
  rw [hi] at h0 ⊢
  generalize i.toNat = k at *
  simp [Instr.indexAt,asIntOf,run_underlying ht,Go.sizeOf,typeInfo,hq,hm,hadd]
theorem det_indexP {α:Type} {L:Lay α} {x y:Operand} {t e:TypeId} {kd:IntKind} {A:Option Addr} {m c z:Nat} {i:Int} {xs:List α} {cs:List Value} (hx:ev σ x = some (.slice A m c)) (hy:ev σ y = some (.int kd i)) (hf:fV (lSlice L) (.slice A m c) xs ∈ ι) (hi:inb xs i = true) (hp:fPt A (i.toNat * z) cs ∈ ι) (ht:P.underlying t = some (.slice e)) (hz:sizeB P e = some z) :
    Det P C ⟨d,.indexAddr t x y,ty,pos,af,gd⟩ σ η ι (pAt A (i.toNat * z)):=fun ρ w hρ hst=>by
  obtain ⟨h0,h1⟩:=inb_spec hi
  have hm:=hst.lenF hf
  obtain ⟨b,o,rfl,_,_⟩:=hst.facts _ hp
  simp [execOp,hρ _ _ hx,hρ _ _ hy,run_index h0 (hm ▸ h1) ht hz,pAt,Addr.add_at]
theorem St.ownAt {α:Type} {L:Lay α} {e:TypeId} {w:World} {A:Option Addr} {m c:Nat} {xs:List α} (h:St C η ι w) (hf:eS L e A m c xs ∈ η) (hne:0 < xs.length):∃ g cur cs,A = some ⟨g,0,none⟩ ∧ c ≠ 0 ∧ w.heap[g]? = some (.cells cur e (0,0)) ∧ m ≤ c ∧ c ≤ maxLen ∧ c * L.size ≤ cur.size ∧ cur.toList.take (m * L.size) = cs ∧ Cells L w (Im C η w) cs xs ∧ m = xs.length:=by
  obtain ⟨hn,⟨_,h0⟩ | ⟨hc0,cs,hk,hc⟩⟩:=h.ents _ hf
  · subst h0; simp at hne
  · rcases hk.2 with ⟨hv,h0⟩ | ⟨g,cap,cur,hv,_,hg,hnc,hcm,hcs,htk⟩
    · omega
    · simp only [Value.slice.injEq,true_and] at hv
      obtain ⟨rfl,rfl⟩:=hv
      exact ⟨g,cur,cs,rfl,hc0,hg,hnc,hcm,hcs,htk,hc,hn⟩
theorem own_cell {w:World} {g:Nat} {cur:Array Value} {e:TypeId} {k:Nat} {cs:List Value} {j:Nat} {u:Value} (hg:w.heap[g]? = some (.cells cur e (0,0))) (htk:cur.toList.take k = cs) (hu:cs[j]? = some u):w.cell? ⟨g,j,none⟩ = some u:=by
  have hu2:cur[j]? = some u:=by
    rw [← htk,List.getElem?_take] at hu
    split at hu
    · simpa using hu
    · cases hu
  simp [World.cell?,hg,hu2]
theorem det_indexO {α:Type} {L:Lay α} {x y:Operand} {t e e':TypeId} {kd:IntKind} {A:Option Addr} {m c z:Nat} {i:Int} {xs:List α} (hx:ev σ x = some (.slice A m c)) (hy:ev σ y = some (.int kd i)) (hf:eS L e' A m c xs ∈ η) (hi:inb xs i = true) (ht:P.underlying t = some (.slice e)) (hz:sizeB P e = some z) :
    Det P C ⟨d,.indexAddr t x y,ty,pos,af,gd⟩ σ η ι (pAt A (i.toNat * z)):=fun ρ w hρ hst=>by
  obtain ⟨h0,h1⟩:=inb_spec hi
  obtain ⟨g,cur,cs,rfl,_,_,_,_,_,_,_,hm⟩:=hst.ownAt hf (by omega)
  simp [execOp,hρ _ _ hx,hρ _ _ hy,run_index h0 (hm ▸ h1) ht hz,pAt,Addr.add_at]
def IxOk (A:Option Addr) (m:Nat) (i:Int):Prop:=∃ b o,A = some ⟨b,o,none⟩ ∧ 0 ≤ i ∧ i.toNat < m
theorem St.ixA {α:Type} {L:Lay α} {w:World} {e:TypeId} {A:Option Addr} {m c:Nat} {i:Int} {xs:List α} (h:St C η ι w) (hf:eS L e A m c xs ∈ η) (hi:inb xs i = true):IxOk A m i:=by
  obtain ⟨h0,h1⟩:=inb_spec hi
  obtain ⟨g,cur,cs,rfl,_,_,_,_,_,_,_,hm⟩:=h.ownAt hf (by omega)
  exact ⟨_,_,rfl,h0,hm ▸ h1⟩
theorem det_indexV {x y:Operand} {t e:TypeId} {kd:IntKind} {A:Option Addr} {m c z:Nat} {i:Int} (hx:ev σ x = some (.slice A m c)) (hy:ev σ y = some (.int kd i)) (hk:IxOk A m i) (ht:P.underlying t = some (.slice e)) (hz:sizeB P e = some z) :
    Det P C ⟨d,.indexAddr t x y,ty,pos,af,gd⟩ σ η ι (pAt A (i.toNat * z)):=fun ρ w hρ hst=>by
  obtain ⟨b,o,rfl,h0,h1⟩:=hk
  simp [execOp,hρ _ _ hx,hρ _ _ hy,run_index h0 h1 ht hz,pAt,Addr.add_at]
theorem run_field {s f o z k b:Nat} {w:World} (hf:fieldB P s f = some (o,z)) (hz:Nat.blt 0 z = true):(Instr.fieldAt s (.pointer (some ⟨b,k,none⟩)) f).run P w = .ok (.pointer (some ⟨b,k + o,none⟩)) w:=by
  have hz':z ≠ 0:=by intro e; rw [e] at hz; cases hz
  unfold fieldB at hf
  split at hf
  · rename_i fs hu
    obtain ⟨x,hx,hx2⟩:=Option.bind_eq_some_iff.1 hf
    obtain ⟨z',hz1,hz2⟩:=Option.map_eq_some_iff.1 hx2
    simp only [Prod.mk.injEq] at hz2
    obtain ⟨rfl,rfl⟩:=hz2
    obtain ⟨i,hi,hiz⟩:∃ i,P.info? x.type = some i ∧ i.size = z':=by simpa [sizeB] using hz1
    have hadd:=Addr.add_at b k x.offset
    have hne:i.size ≠ 0:=by rw [hiz]; exact hz'
    simp [Instr.fieldAt,run_underlying hu,hx,Instr.sureAddr,fieldPlace,Go.sizeOf,typeInfo,hi,hne,hadd]
  · cases hf
theorem det_fieldP {x:Operand} {s f o z k k':Nat} {A:Option Addr} {cs:List Value} (hx:ev σ x = some (pAt A k)) (hp:fPt A k' cs ∈ ι) (hf:fieldB P s f = some (o,z)) (hz:Nat.blt 0 z = true):Det P C ⟨d,.fieldAddr s x f,ty,pos,af,gd⟩ σ η ι (pAt A (k + o)):=fun ρ w hρ hst=>by
  obtain ⟨b,o',rfl,_,_⟩:=hst.facts _ hp
  simp only [pAt,Option.map_some,Addr.add_at] at hx ⊢
  simp [execOp,hρ _ _ hx,run_field hf hz,Nat.add_assoc]
theorem det_fieldO {α:Type} {L:Lay α} {e:TypeId} {x:Operand} {s f o z k m c:Nat} {A:Option Addr} {xs:List α} {i:Int} (hx:ev σ x = some (pAt A k)) (he:eS L e A m c xs ∈ η) (hi:inb xs i = true) (hf:fieldB P s f = some (o,z)) (hz:Nat.blt 0 z = true):Det P C ⟨d,.fieldAddr s x f,ty,pos,af,gd⟩ σ η ι (pAt A (k + o)):=fun ρ w hρ hst=>by
  obtain ⟨h0,h1⟩:=inb_spec hi
  obtain ⟨g,cur,cs,rfl,_⟩:=hst.ownAt he (by omega)
  simp only [pAt,Option.map_some,Addr.add_at] at hx ⊢
  simp [execOp,hρ _ _ hx,run_field hf hz]
def Loaded (P:Program) (t:TypeId) (cells:List Value) (v:Value):Prop:=(isAggB P t = true ∧ sizeB P t = some cells.length ∧ v = .agg cells.toArray) ∨ (isAggB P t = false ∧ (P.underlying t).isSome = true ∧ cells = [v])
theorem loaded_n {t:TypeId} {cells:List Value} (ha:isAggB P t = true) (hz:sizeB P t = some cells.length):Loaded P t cells (.agg cells.toArray):=.inl ⟨ha,hz,rfl⟩
theorem loaded_1 {t:TypeId} {v:Value} (ha:isAggB P t = false) (hu:(P.underlying t).isSome = true):Loaded P t [v] v:=.inr ⟨ha,hu,rfl⟩
theorem Loaded.run {t:TypeId} {cells:List Value} {v:Value} {w:World} {b o:Nat} (h:Loaded P t cells v) (hc:∀ j u,cells[j]? = some u → w.cell? ⟨b,o + j,none⟩ = some u):(Instr.loadAt t (.pointer (some ⟨b,o,none⟩))).run P w = .ok v w:=by
  rcases h with ⟨ha,hz,rfl⟩ | ⟨ha,hu,rfl⟩
  · exact run_loadN ha hz hc
  · exact run_load1 ha hu (by simpa using hc 0 v rfl)
theorem det_loadP {x:Operand} {t k k' off:Nat} {A:Option Addr} {cs cells:List Value} {v:Value} (hx:ev σ x = some (pAt A k)) (hp:fPt A k' cs ∈ ι) (hk:k = k' + off) (hc:(cs.drop off).take cells.length = cells) (hl:Loaded P t cells v):Det P C ⟨d,.load t x,ty,pos,af,gd⟩ σ η ι v:=fun ρ w hρ hst=>by
  obtain ⟨b,o',rfl,_,hat⟩:=hst.facts _ hp
  subst hk
  simp only [pAt,Option.map_some,Addr.add_at] at hx
  have hr:=hl.run (w:=w) (b:=b) (o:=o' + (k' + off)) fun j u hu=>by
    rw [← hc,List.getElem?_take] at hu
    split at hu
    · rw [List.getElem?_drop] at hu
      have:=hat _ u hu
      rw [show o' + (k' + off) + j = o' + k' + (off + j) by omega]
      exact this
    · cases hu
  simp [execOp,hρ _ _ hx,hr]
theorem qalo {cs cells:List Value} {off:Nat} (hc:(cs.drop off).take cells.length = cells) {j:Nat} {u:Value} (hu:cells[j]? = some u):cs[off + j]? = some u:=by
  rw [← hc,List.getElem?_take] at hu
  split at hu
  · rwa [List.getElem?_drop] at hu
  · cases hu
theorem det_loadO {α:Type} [Inhabited α] {enc:α → List Value} {z:Nat} {hl:∀ x,(enc x).length = z} {h1:∀ x,∀ u ∈ enc x,u.oneCell' = true} {e:TypeId} {x:Operand} {t k off m c:Nat} {A:Option Addr} {xs:List α} {i:Int} {cells:List Value} {v:Value} (hx:ev σ x = some (pAt A k)) (he:eS (lFlat enc z hl h1) e A m c xs ∈ η) (hi:inb xs i = true) (hk:k = i.toNat * z + off)
    (hc:((enc (ix xs i)).drop off).take cells.length = cells) (hld:Loaded P t cells v):Det P C ⟨d,.load t x,ty,pos,af,gd⟩ σ η ι v:=fun ρ w hρ hst=>by
  obtain ⟨h0,h2⟩:=inb_spec hi
  obtain ⟨g,cur,cs,rfl,_,hg,_,_,_,htk,hcs,hm⟩:=hst.ownAt he (by omega)
  subst hk
  simp only [pAt,Option.map_some,Addr.add_at,Nat.zero_add] at hx
  have hel:(cs.drop (i.toNat * z)).take z = enc (ix xs i):=by
    have:=hcs.at_ h2
    rw [ix_eq h2]
    exact this
  have hr:=hld.run (w:=w) (b:=g) (o:=i.toNat * z + off) fun j u hu=>by
    have h3:=qalo hc hu
    rw [← hel,List.getElem?_take] at h3
    split at h3
    · rw [List.getElem?_drop] at h3
      rw [show i.toNat * z + off + j = i.toNat * z + (off + j) by omega]
      exact own_cell hg htk h3
    · cases h3
  simp [execOp,hρ _ _ hx,hr]
theorem setRow_same {w:World} {b b':Nat} {cs:Array Value} (h:b ≠ b'):(w.setRow b cs).heap[b']? = w.heap[b']?:=by simp [World.setRow,Array.getElem?_modify,h]
theorem eS_block {α:Type} {L:Lay α} {e:TypeId} {g o m c:Nat} {sp:Option Nat} {xs:List α} (hc:c ≠ 0):(eS L e (some ⟨g,o,sp⟩) m c xs).own = (fun x=>some g = some x):=by simp [eS,hc,Value.ownBlock]
theorem splice_eq {A B R cells:List Value} {off k:Nat} (h:off + cells.length ≤ B.length) :
    ((A ++ B ++ R).take (A.length + off) ++ cells ++ (A ++ B ++ R).drop (A.length + off + cells.length)).take (A.length + B.length + k) = A ++ (B.take off ++ cells ++ B.drop (off + cells.length)) ++ R.take k:=by
  have e1:(A ++ B ++ R).take (A.length + off) = A ++ B.take off:=by
    rw [List.append_assoc,List.take_length_add_append,List.take_append_of_le_length (by omega)]
  have e2:(A ++ B ++ R).drop (A.length + off + cells.length) = B.drop (off + cells.length) ++ R:=by
    rw [List.append_assoc,Nat.add_assoc,← List.drop_drop,List.drop_left,List.drop_append_of_le_length h]
  rw [e1,e2]
  have e3:A.length + B.length + k = (A ++ (B.take off ++ cells ++ B.drop (off + cells.length))).length + k:=by
    simp only [List.length_append,List.length_take,List.length_drop]
    omega
  rw [e3,show A ++ List.take off B ++ cells ++ (List.drop (off + cells.length) B ++ R) = (A ++ (List.take off B ++ cells ++ List.drop (off + cells.length) B)) ++ R by simp only [List.append_assoc],List.take_length_add_append]
theorem splice_row {cur cells:List Value} {iz z off mz:Nat} (h1:iz + z ≤ mz) (h2:mz ≤ cur.length) (h:off + cells.length ≤ z) :
    (cur.take (iz + off) ++ cells ++ cur.drop (iz + off + cells.length)).take mz =
      (cur.take mz).take iz ++ ((((cur.take mz).drop iz).take z).take off ++ cells ++ (((cur.take mz).drop iz).take z).drop (off + cells.length)) ++ (cur.take mz).drop (iz + z):=by
  have hA:(cur.take mz).take iz = cur.take iz:=by rw [List.take_take,Nat.min_eq_left (by omega)]
  have hB:((cur.take mz).drop iz).take z = (cur.drop iz).take z:=by rw [List.drop_take,List.take_take,Nat.min_eq_left (by omega)]
  have hC:(cur.take mz).drop (iz + z) = (cur.drop (iz + z)).take (mz - (iz + z)):=by rw [List.drop_take]
  have hall:cur = cur.take iz ++ (cur.drop iz).take z ++ cur.drop (iz + z):=by
    rw [← List.drop_drop,List.append_assoc,List.take_append_drop,List.take_append_drop]
  have la:(cur.take iz).length = iz:=by rw [List.length_take,Nat.min_eq_left (by omega)]
  have lb:((cur.drop iz).take z).length = z:=by rw [List.length_take,List.length_drop,Nat.min_eq_left (by omega)]
  have key:=splice_eq (A:=cur.take iz) (B:=(cur.drop iz).take z) (R:=cur.drop (iz + z)) (cells:=cells) (off:=off) (k:=mz - (iz + z)) (by rw [lb]; exact h)
  rw [← hall,la,lb,show iz + z + (mz - (iz + z)) = mz by omega] at key
  rw [hA,hB,hC]
  exact key
theorem act_storeO {α:Type} [Inhabited α] {L:Lay α} {e:TypeId} {x y:Operand} {t k off m c:Nat} {A:Option Addr} {xs:List α} {i:Int} {cells:List Value} {v:Value} {F:Ent → List Ent} (x':α) (hx:ev σ x = some (pAt A k)) (hy:ev σ y = some v) (hv:v.cells = cells.toArray) (hs:SwF η (eS L e A m c xs) F) (hi:inb xs i = true) (hk:k = i.toNat * L.size + off) (hz:sizeB P t = some cells.length) (h1:∀ u ∈ cells,u.oneCell' = true)
    (hR:∀ w cs,St C η ι w → L.R w (Im C η w) cs (ix xs i) → off + cells.length ≤ L.size ∧ L.R w (Im C η w) (cs.take off ++ cells ++ cs.drop (off + cells.length)) x') :
    ActOk P C ⟨d,.store t x y,ty,pos,af,gd⟩ σ η ι (fun _ θ κ=>θ = F (eS L e A m c (upd xs i x')) ∧ κ = ι):=fun ρ w hρ hst=>by
  obtain ⟨h0,h2⟩:=inb_spec hi
  obtain ⟨g,cur,cs,rfl,hc0,hg,hmc,hcm,hcs,htk,hcl,hm⟩:=hst.ownAt hs.mem (by omega)
  subst hk
  simp only [pAt,Option.map_some,Addr.add_at,Nat.zero_add] at hx
  have hel:=hcl.at_ h2
  rw [← ix_eq h2] at hel
  obtain ⟨hoff,hR'⟩:=hR w _ hst hel
  obtain ⟨q,hq,hqz⟩:∃ q,P.info? t = some q ∧ q.size = cells.length:=by simpa [sizeB] using hz
  have hle:i.toNat * L.size + L.size ≤ m * L.size:=by
    rw [← Nat.succ_mul,hm]
    exact Nat.mul_le_mul_right _ h2
  have hle2:m * L.size ≤ cur.size:=Nat.le_trans (Nat.mul_le_mul_right _ hmc) hcs
  have hst2:=run_storeCells_at (P:=P) g (i.toNat * L.size + off) e cells 0 cur w hg (by omega) h1
  simp only [Nat.add_zero] at hst2
  have hr:(execOp ρ ⟨d,.store t x y,ty,pos,af,gd⟩).run P w = .ok .skip (w.setRow g (cur.toList.take (i.toNat * L.size + off) ++ cells ++ cur.toList.drop (i.toNat * L.size + off + cells.length)).toArray):=by
    simp [execOp,hρ _ _ hx,hρ _ _ hy,Instr.storeAt,Instr.sureAddr,storeVar,Go.sizeOf,typeInfo,hq,hqz,hv,hst2]
  rw [hr]
  refine ⟨_,ι,⟨rfl,rfl⟩,hst.sw (hs _) rfl rfl ⟨rfl,Nat.le_refl _⟩ (by simp [World.setRow]) (fun b' _ hne=>?_) ?_ (fun b' h=>.inl ?_)⟩
  · rw [eS_block hc0] at hne
    exact setRow_same fun e=>hne (by rw [e])
  · refine ⟨by simp [upd,hm],.inr ⟨hc0,_,⟨?_,.inr ⟨g,c,_,rfl,Nat.zero_le _,setRow_heap w g cur _ e _ hg,hmc,hcm,?_,rfl⟩⟩,?_⟩⟩
    · simp only [List.length_take,List.length_append,List.length_drop,Array.length_toList]
      omega
    · simp only [List.size_toArray,List.length_take,List.length_append,List.length_drop,Array.length_toList]
      omega
    · have hsame:Same (Im C η w) w (w.setRow g (cur.toList.take (i.toNat * L.size + off) ++ cells ++ cur.toList.drop (i.toNat * L.size + off + cells.length)).toArray):=fun b hb=>setRow_same fun e=>hb.2.2 _ hs.mem (by rw [eS_block hc0,e])
      have hfin:=(hcl.set h2 hR').keep hsame
      have hcsl:cs.length = m * L.size:=by rw [hcl.1,hm]
      have e1:=splice_row (cur:=cur.toList) (cells:=cells) (iz:=i.toNat * L.size) (z:=L.size) (off:=off) (mz:=m * L.size) hle (by simpa using hle2) hoff
      rw [htk] at e1
      rw [← e1] at hfin
      exact hfin
  · rw [eS_block hc0] at h ⊢
    exact h
theorem St.zeroS {α:Type} (L:Lay α) (e:TypeId) (A:Option Addr) {w:World} (h:St C η ι w):St C (eS L e A 0 0 [] :: η) ι w:=by
  have hsub:∀ b,Im C η w b → Im C (eS L e A 0 0 ([]:List α) :: η) w b:=fun b hb=>⟨hb.1,hb.2.1,fun x hx=>by
    rcases List.mem_cons.1 hx with rfl | hx
    · simp [eS]
    · exact hb.2.2 x hx⟩
  refine ⟨h.os,h.tape,h.output,h.size,h.old,fun x hx=>?_,fun x hx b hb=>?_,List.pairwise_cons.2 ⟨fun x hx b hb=>?_,h.apart⟩,fun f hf=>f.sub (h.facts f hf) hsub⟩
  · rcases List.mem_cons.1 hx with rfl | hx
    · exact ⟨rfl,.inl ⟨rfl,rfl⟩⟩
    · exact x.sub (h.ents x hx) hsub
  · rcases List.mem_cons.1 hx with rfl | hx
    · simp [eS] at hb
    · exact h.place x hx b hb
  · simp [eS] at hb
theorem St.zeroF {α:Type} (L:Lay α) (A:Option Addr) (c:Nat) {w:World} (h:St C η ι w):St C η (fV (lSlice L) (.slice A 0 c) [] :: ι) w:=h.fact ⟨A,0,c,rfl,rfl,Nat.zero_le _,.inl rfl⟩
theorem St.freed {w:World} {e:Ent} {θ:List Ent} (h:St C η ι w) (hr:Rem η e θ) {b:Nat} (hb:e.own b):Im C θ w b:=by
  refine ⟨e.lt (h.ents e hr.mem) hb,(h.place e hr.mem b hb).imp id fun hm=>.inr hm,fun x hx hxb=>?_⟩
  have hp:=h.perm hr.perm
  exact (List.pairwise_cons.1 hp.apart).1 x hx b hb hxb
theorem Im.rem {w:World} {e:Ent} {θ:List Ent} (hr:Rem η e θ) {b:Nat} (h:Im C η w b):Im C θ w b:=⟨h.1,h.2.1,fun x hx=>h.2.2 x (hr.sub.subset hx)⟩
theorem St.shutS {α:Type} {L:Lay α} {e:TypeId} {A:Option Addr} {m c:Nat} {xs:List α} {θ:List Ent} {w:World} (h:St C η ι w) (hr:Rem η (eS L e A m c xs) θ):St C θ (fV (lSlice L) (.slice A m c) xs :: ι) w:=by
  refine (h.subEnts hr.sub).fact ?_
  refine (fV (lSlice L) (.slice A m c) xs).sub (lent_eS w _ (h.ents _ hr.mem)) fun b hb=>?_
  rcases hb with hb | hb
  · exact hb.rem hr
  · exact h.freed hr hb
theorem St.truncS {α:Type} {L:Lay α} {e:TypeId} {A:Option Addr} {m c:Nat} {xs:List α} {θ:List Ent} {w:World} (h:St C η ι w) (hr:Rem η (eS L e A m c xs) θ) (k:Nat) (hk:k ≤ xs.length):St C (eS L e A k c (xs.take k) :: θ) ι w:=by
  have hp:=h.perm hr.perm
  have hbl:(eS L e A k c (xs.take k)).own = (eS L e A m c xs).own:=by cases A <;> simp [eS,Value.ownBlock]
  refine hp.turn (θ₁:=[]) (e':=eS L e A k c (xs.take k)) rfl rfl ⟨rfl,Nat.le_refl _⟩ (Nat.le_refl _) (fun _ _ _=>rfl) ?_ (fun b hb=>.inl (hbl ▸ hb))
  obtain ⟨hn,⟨h0,h1⟩ | ⟨hc0,cs,hk',hc⟩⟩:=hp.ents _ m0
  · subst h1
    exact ⟨by simpa using hk,.inl ⟨h0,by simp⟩⟩
  · refine ⟨by rw [List.length_take]; omega,.inr ⟨hc0,cs.take (k * L.size),⟨?_,?_⟩,hc.take k hk⟩⟩
    · rw [List.length_take,hc.1,Nat.min_eq_left (Nat.mul_le_mul_right _ hk)]
    · rcases hk'.2 with ⟨hv,h0⟩ | ⟨g,cap,cur,hv,hb,hg,hnc,hcm,hcs,htk⟩
      · simp only [Value.slice.injEq] at hv
        exact absurd hv.2.2 hc0
      · simp only [Value.slice.injEq,true_and] at hv
        obtain ⟨rfl,rfl⟩:=hv
        refine .inr ⟨g,c,cur,rfl,hb,hg,by omega,hcm,hcs,?_⟩
        rw [← htk,List.take_take,Nat.min_eq_left (Nat.mul_le_mul_right _ (by omega))]
def Src {α:Type} (C:Cx) (η:List Ent) (ι:List Fact) (L:Lay α) (A:Option Addr) (k:Nat) (xs:List α):Prop :=
  ∀ w,St C η ι w → k = xs.length ∧ (xs = [] ∨ ∃ b o cs,A = some ⟨b,o,none⟩ ∧ At w b o cs ∧ Cells L w (Im C η w) cs xs)
theorem src_F {α:Type} {L:Lay α} {A:Option Addr} {k c:Nat} {xs:List α} (hf:fV (lSlice L) (.slice A k c) xs ∈ ι):Src C η ι L A k xs:=fun w h=>by
  obtain ⟨h1,_,h3⟩:=lSlice_of (h.facts _ hf)
  refine ⟨h1,?_⟩
  by_cases hx:xs = []
  · exact .inl hx
  · obtain ⟨b,o,cs,hA,_,hc,ha⟩:=h3.cells hx
    exact .inr ⟨b,o,cs,hA,ha,hc⟩
theorem src_O {α:Type} {L:Lay α} {e:TypeId} {A:Option Addr} {k c:Nat} {xs:List α} (hf:eS L e A k c xs ∈ η):Src C η ι L A k xs:=fun w h=>by
  refine ⟨h.lenO hf,?_⟩
  by_cases hx:xs = []
  · exact .inl hx
  · obtain ⟨g,cur,cs,rfl,_,hg,_,_,_,htk,hc,_⟩:=h.ownAt hf (List.length_pos_iff.2 hx)
    refine .inr ⟨g,0,cs,rfl,fun j u hu=>?_,hc⟩
    rw [Nat.zero_add]
    exact own_cell hg htk hu
theorem qakl {w:World} {t ty e:TypeId} {A B:Option Addr} {m c c':Nat} (hm:m ≤ c) (ht:P.underlying t = some (.slice e)) (he:(P.info? e).isSome = true):(Builtin.append_ #[t,t] ty #[.slice A m c,.slice B 0 c']).run P w = .ok (.slice A m c) w:=by
  obtain ⟨i,hi⟩:=Option.isSome_iff_exists.1 he
  cases A <;> cases B <;> simp [Builtin.append_,run_underlying ht,Go.sizeOf,typeInfo,hi,Builtin.lenOf,hm,Builtin.firstCells,loadCells,loadCellsFrom,storeCells]
theorem qakk (w:World) (t ty e:TypeId) (i:TypeInfo) (ht:P.underlying t = some (.slice e)) (hi:P.info? e = some i) (A:Option Addr) (b:Addr) (k c:Nat) (hk:0 < k) (hm:k ≤ 9223372036854775807) (hb:k * i.bytes ≤ 140737488355328) :
    (Builtin.append_ #[t,t] ty #[.slice A 0 0,.slice (some b) k c]).run P w = (Builtin.append_ #[t,t] ty #[.slice none 0 0,.slice (some b) k c]).run P w:=by
  have hne:¬ k = 0:=by omega
  cases A with
  | none=>rfl
  | some a =>
    have hc:Builtin.nextslicecap k 0 = k:=by unfold Builtin.nextslicecap; rw [if_pos (by omega)]
    have h1:¬ ((9223372036854775807:Int) < (k:Int) ∧ i.bytes = 0):=by omega
    have h2:¬ 281474976710656 < Builtin.nextslicecap k 0 * i.bytes:=by rw [hc]; omega
    simp [Builtin.append_,run_underlying ht,Go.sizeOf,typeInfo,hi,Builtin.lenOf,hne,Builtin.firstCells,loadCells,loadCellsFrom,h1,h2]
theorem act_appendAt {α:Type} {L:Lay α} {x y:Operand} {t e:TypeId} {z:Value} {A A0:Option Addr} {bytes m c0 k c:Nat} {xs ys:List α} {F:Ent → List Ent} (hx:ev σ x = some (.slice A0 m c0)) (hy:ev σ y = some (.slice A k c)) (hs:SwF η (eS L e A0 m c0 xs) F) {ρ:Operand → Value} {w:World} (hρ:∀ x u,ev σ x = some u → ρ x = u) (hst:St C η ι w) (hsrc:k = ys.length ∧ (ys = [] ∨ ∃ b o cs,A = some ⟨b,o,none⟩ ∧ At w b o cs ∧ Cells L w (Im C η w) cs ys))
    (ht:P.underlying t = some (.slice e)) (hi:(P.info? e).map (fun i=>(i.zero,i.size,i.bytes)) = some (some z,L.size,bytes)) (hz:z.cells.size = L.size) (hsz:Nat.blt 0 L.size = true) (hby:Nat.ble bytes 100000 = true) (hroom:room (xs ++ ys).length = true) :
    resOk P (fun v' w'=>∃ θ κ,(∃ A' c',v' = .slice A' (xs ++ ys).length c' ∧ θ = F (eS L e A' (xs ++ ys).length c' (xs ++ ys)) ∧ κ = ι) ∧ St C θ κ w') ((execOp ρ ⟨d,.call { callee:=.builtin .append,args:=#[x,y],argTypes:=#[t,t] },ty,pos,af,gd⟩).run P w):=by
  obtain ⟨i,hi0,hi1⟩:=Option.map_eq_some_iff.1 hi
  simp only [Prod.mk.injEq] at hi1
  obtain ⟨hz0,hz1,hz2⟩:=hi1
  have hsz':0 < L.size:=by simpa [Nat.blt_eq] using hsz
  have hby':bytes ≤ 100000:=by simpa using hby
  obtain ⟨hkl,h0⟩:=hsrc
  have hml:=hst.lenO hs.mem
  have hmc:m ≤ c0:=by
    obtain ⟨hn,⟨h1,h2⟩ | ⟨_,cs,hk,_⟩⟩:=hst.ents _ hs.mem
    · subst h2; simp at hn; omega
    · rcases hk.2 with ⟨h1,h2⟩ | ⟨g,cap,cur,h1,_,_,h2,_⟩
      · omega
      · simp only [Value.slice.injEq] at h1
        omega
  have hroom':xs.length + ys.length ≤ 1000000000:=by simpa [room] using hroom
  by_cases hys:ys = []
  · subst hys
    have hk0:k = 0:=by simpa using hkl
    subst hk0
    have hr:(execOp ρ ⟨d,.call { callee:=.builtin .append,args:=#[x,y],argTypes:=#[t,t] },ty,pos,af,gd⟩).run P w = .ok (.value (.slice A0 m c0)) w:=by
      simp [execOp,resolve,invoke,builtin,hρ _ _ hx,hρ _ _ hy,qakl (P:=P) (w:=w) hmc ht (by simp [hi0])]
    rw [hr]
    obtain ⟨θ₁,θ₂,h3,h4⟩:=hs (eS L e A0 m c0 xs)
    refine ⟨_,ι,⟨A0,c0,by simp [hml],rfl,rfl⟩,?_⟩
    have e1:eS L e A0 (xs ++ []).length c0 (xs ++ []) = eS L e A0 m c0 xs:=by rw [List.append_nil,← hml]
    rw [e1,h4,← h3]
    exact hst
  · obtain ⟨b,o,news,rfl,hat,hcn⟩:∃ b o cs,A = some ⟨b,o,none⟩ ∧ At w b o cs ∧ Cells L w (Im C η w) cs ys:=h0.resolve_left hys
    have hkp:0 < k:=by rw [hkl]; exact List.length_pos_iff.2 hys
    have hnl:news.length = k * L.size:=by rw [hcn.1,hkl]
    have hmb:(m + k) * bytes ≤ 140737488355328:=by
      have:(m + k) * bytes ≤ 1000000000 * 100000:=Nat.mul_le_mul (by omega) hby'
      omega
    obtain ⟨cs,hown,hcl,hok⟩:∃ cs,ownsT w e L.size (if c0 = 0 then .slice none 0 0 else .slice A0 m c0) m cs ∧ Cells L w (Im C η w) cs xs ∧ (c0 = 0 → m = 0):=by
      obtain ⟨hn,⟨h1,h2⟩ | ⟨hc0,cs,hk,hc⟩⟩:=hst.ents _ hs.mem
      · subst h2
        rw [if_pos h1]
        simp at hn
        exact ⟨[],by rw [hn]; exact ownsT_of (World.ownsRow_nil w 0 e L.size),Cells.nil,fun _=>hn⟩
      · rw [if_neg hc0]
        exact ⟨cs,hk,hc,fun h=>absurd h hc0⟩
    obtain ⟨v',w',hrun,h2,h3,h5⟩:=qakm (P:=P) w t ty e i z L.size bytes ht hi0 hz0 hz1 hz2 hz hsz' _ m cs hown ⟨b,o,none⟩ k c news hnl (fun j u hu=>by rw [Addr.add_at]; exact hat j u hu) hcn.ones (by simp only [maxLen]; omega) hmb
    have hr:(execOp ρ ⟨d,.call { callee:=.builtin .append,args:=#[x,y],argTypes:=#[t,t] },ty,pos,af,gd⟩).run P w = .ok (.value v') w':=by
      by_cases hc0:c0 = 0
      · subst hc0
        have hm0:=hok rfl
        subst hm0
        simp only [if_true] at hrun
        have:=qakk (P:=P) w t ty e i ht hi0 A0 ⟨b,o,none⟩ k c hkp (by omega) (by rw [hz2]; simpa using hmb)
        simp [execOp,resolve,invoke,builtin,hρ _ _ hx,hρ _ _ hy,this,hrun]
      · simp only [hc0,if_false] at hrun
        simp [execOp,resolve,invoke,builtin,hρ _ _ hx,hρ _ _ hy,hrun]
    rw [hr]
    have hlen:m + k = (xs ++ ys).length:=by rw [List.length_append]; omega
    obtain ⟨g,cap,cur,rfl,hgb,hgh,hgc,hgm,hgs,hgt⟩:∃ g cap cur,v' = .slice (some ⟨g,0,none⟩) (m + k) cap ∧ 0 ≤ g ∧ w'.heap[g]? = some (.cells cur e (0,0)) ∧ m + k ≤ cap ∧ cap ≤ maxLen ∧ cap * L.size ≤ cur.size ∧ cur.toList.take ((m + k) * L.size) = cs ++ news:=by
      rcases h2.2 with ⟨_,h0⟩ | h
      · omega
      · exact h
    have hcap:cap ≠ 0:=by omega
    have hold:∀ b',b' < w.heap.size → ¬ (eS L e A0 m c0 xs).own b' → w'.heap[b']? = w.heap[b']?:=fun b' hb' hne=>h3.block b' hb' fun e1=>hne (by
      by_cases hc0:c0 = 0
      · rw [if_pos hc0] at e1; cases e1
      · rw [if_neg hc0] at e1; simp only [eS,if_neg hc0]; exact e1.symm)
    have hS:Same (Im C η w) w w':=fun b' hb'=>hold b' hb'.1 (hb'.2.2 _ hs.mem)
    rw [hlen] at h2
    refine ⟨_,_,⟨_,cap,by rw [hlen],rfl,rfl⟩,hst.sw (hs _) h3.os h3.tape ⟨h3.output,run_drawn _ _ hrun⟩ h3.size hold ⟨rfl,.inr ⟨hcap,_,?_,(hcl.cat hcn).keep hS⟩⟩ (fun b' hb'=>?_)⟩
    · rw [← hlen] at h2 ⊢
      exact h2
    · simp only [eS,if_neg hcap] at hb'
      have hb2:g = b':=by simpa [Value.ownBlock] using hb'
      subst hb2
      rcases h5 g (by simp [Value.ownBlock]) with h5 | h5
      · left
        by_cases hc0:c0 = 0
        · rw [if_pos hc0] at h5; cases h5
        · rw [if_neg hc0] at h5; simp only [eS,if_neg hc0]; exact h5
      · exact .inr h5
theorem act_appendS {α:Type} {L:Lay α} {x y:Operand} {t e:TypeId} {z:Value} {A A0:Option Addr} {bytes m c0 k c:Nat} {xs ys:List α} {F:Ent → List Ent} (hx:ev σ x = some (.slice A0 m c0)) (hy:ev σ y = some (.slice A k c)) (hs:SwF η (eS L e A0 m c0 xs) F) (hsrc:Src C η ι L A k ys)
    (ht:P.underlying t = some (.slice e)) (hi:(P.info? e).map (fun i=>(i.zero,i.size,i.bytes)) = some (some z,L.size,bytes)) (hz:z.cells.size = L.size) (hsz:Nat.blt 0 L.size = true) (hby:Nat.ble bytes 100000 = true) (hroom:room (xs ++ ys).length = true) :
    ActOk P C ⟨d,.call { callee:=.builtin .append,args:=#[x,y],argTypes:=#[t,t] },ty,pos,af,gd⟩ σ η ι (fun v' θ κ=>∃ A' c',v' = .slice A' (xs ++ ys).length c' ∧ θ = F (eS L e A' (xs ++ ys).length c' (xs ++ ys)) ∧ κ = ι):=fun _ w hρ hst=>act_appendAt hx hy hs hρ hst (hsrc w hst) ht hi hz hsz hby hroom
end
end Go.Proofs.YtdenliplkmjmjaaGreat
namespace Go.Proofs.YtdenliplkmjmjaaGreat
open Go.RowKit
section
variable {P:Program} {C:Cx} {n:FN} {Q:Exit → Act → World → Prop} {σ:List (Nat × Value)} {η:List Ent} {ι:List Fact}
variable {d:Option Tmp} {ty:TypeId} {pos:String} {af:Array Edge} {gd:Option (Nat × Bool)}
theorem St.allocS {α:Type} {L:Lay α} {e:TypeId} {w:World} {cur:Array Value} {m c:Nat} {xs:List α} (h:St C η ι w) (hm:m = xs.length) (hmc:m ≤ c) (hc:c ≤ maxLen) (hs:cur.size = c * L.size) (hcl:Cells L w (Im C η w) (cur.toList.take (m * L.size)) xs) :
    St C (eS L e (some ⟨w.heap.size,0,none⟩) m c xs :: η) ι (w.alloc (.cells cur e)):=by
  have hx:=h.alloc e cur.toList
  simp only [Array.toArray_toList] at hx
  by_cases hc0:c = 0
  · have h0:xs = []:=List.eq_nil_of_length_eq_zero (by omega)
    subst h0 hc0
    have hm0:m = 0:=by omega
    subst hm0
    exact hx.tail.zeroS L e _
  · refine hx.turn (θ₁:=[]) (e:=eBlk w.heap.size e cur.toList) rfl rfl ⟨rfl,Nat.le_refl _⟩ (Nat.le_refl _) (fun _ _ _=>rfl) ⟨hm,.inr ⟨hc0,_,⟨?_,.inr ⟨w.heap.size,c,cur,rfl,Nat.zero_le _,heap_alloc_new w _,hmc,hc,Nat.le_of_eq hs.symm,rfl⟩⟩,?_⟩⟩ (fun b hb=>.inl ?_)
    · rw [hcl.1,hm]
    · refine (hcl.keep fun b hb=>Below.heap_alloc w _ b hb.1).sub fun b hb=>⟨Nat.lt_of_lt_of_le hb.1 (by simp),hb.2.1,fun x hx=>?_⟩
      simp only [List.nil_append,List.mem_cons] at hx
      rcases hx with rfl | hx
      · simp only [eBlk,Option.some.injEq]
        have:=hb.1
        omega
      · exact hb.2.2 x hx
    · rw [eS_block hc0] at hb
      exact hb
def zeroOk {α:Type} (L:Lay α) (z:Value) (x0:α):Prop:=z.cells.size = L.size ∧ ∀ w S,L.R w S z.cells.toList x0
theorem made_take {z:Array Value} {m c q:Nat} (hz:z.size = q) (hmc:m ≤ c) (hq:0 < q):(madeCells z (c * q)).toList.take (m * q) = (List.replicate m z.toList).flatten:=by
  subst hz
  apply List.ext_getElem?
  intro j
  have hle:m * z.size ≤ c * z.size:=Nat.mul_le_mul_right _ hmc
  rw [List.getElem?_take]
  by_cases hj:j < m * z.size
  · rw [if_pos hj]
    have h1:(madeCells z (c * z.size)).toList[j]? = some (z[j % z.size]'(Nat.mod_lt _ hq)):=by
      have hj2:j < c * z.size:=by omega
      simp [madeCells,hj2,Nat.mod_lt _ hq]
    rw [h1]
    symm
    clear h1
    have key:∀ (m j:Nat) (_:j < m * z.size),(List.replicate m z.toList).flatten[j]? = some (z[j % z.size]'(Nat.mod_lt _ hq)):=by
      intro m
      induction m with
      | zero=>intro j hj; simp at hj
      | succ m ih =>
        intro j hj
        rw [List.replicate_succ,List.flatten_cons]
        by_cases h2:j < z.size
        · rw [List.getElem?_append_left (by simpa using h2)]
          simp [h2,Nat.mod_eq_of_lt h2]
        · rw [List.getElem?_append_right (by simpa using h2)]
          have h3:=ih (j - z.size) (by rw [Nat.succ_mul] at hj; omega)
          have h4:(j - z.size) % z.size = j % z.size:=by
            rw [← Nat.mod_eq_sub_mod (by omega)]
          simp only [h4,Array.length_toList] at h3 ⊢
          exact h3
    exact key m j hj
  · rw [if_neg hj]
    symm
    rw [List.getElem?_eq_none]
    simp [List.length_flatten]
    omega
theorem Cells.replicate {α:Type} {L:Lay α} {w:World} {S:Nat → Prop} {zs:List Value} {x0:α} (h:L.R w S zs x0):∀ m,Cells L w S (List.replicate m zs).flatten (List.replicate m x0)
  | 0=>Cells.nil
  | m + 1=>by
    rw [List.replicate_succ,List.flatten_cons,List.replicate_succ]
    exact (Cells.one h).cat (Cells.replicate h m)
theorem act_makeS {α:Type} {L:Lay α} {x0:α} {t e:TypeId} {x y:Operand} {kl kc:IntKind} {l c:Int} {bytes:Nat} {z:Value} (hx:ev σ x = some (.int kl l)) (hy:ev σ y = some (.int kc c)) (hu:P.underlying t = some (.slice e)) (hi:(P.info? e).map (fun i=>(i.zero,i.size,i.bytes)) = some (some z,L.size,bytes)) (hz:zeroOk L z x0) (hsz:Nat.blt 0 L.size = true) (hby:Nat.ble bytes 100000 = true)
    (h0:decide (0 ≤ l) = true) (hlc:decide (l ≤ c) = true) (hroom:decide (c ≤ 1000000000) = true) :
    ActOk P C ⟨d,.makeSlice t x y,ty,pos,af,gd⟩ σ η ι (fun v θ κ=>∃ A c',v = .slice A (List.replicate l.toNat x0).length c' ∧ θ = eS L e A (List.replicate l.toNat x0).length c' (List.replicate l.toNat x0) :: η ∧ κ = ι):=fun ρ w hρ hst=>by
  simp only [decide_eq_true_eq] at h0 hlc hroom
  obtain ⟨i,hi0,hi1⟩:=Option.map_eq_some_iff.1 hi
  simp only [Prod.mk.injEq] at hi1
  obtain ⟨hz0,hz1,hz2⟩:=hi1
  have hsz':0 < L.size:=by simpa [Nat.blt_eq] using hsz
  have hby':bytes ≤ 100000:=by simpa using hby
  have hbb:(i.bytes:Int) * c ≤ 281474976710656:=by
    rw [hz2]
    have h1:(bytes:Int) * c ≤ 100000 * 1000000000:=Int.mul_le_mul (by omega) hroom (by omega) (by omega)
    omega
  have h:=run_make (P:=P) w t e i z hu hi0 hz0 kl kc l c h0 hlc hbb (by omega)
  have hr:(execOp ρ ⟨d,.makeSlice t x y,ty,pos,af,gd⟩).run P w = .ok (.value (.slice (some ⟨w.heap.size,0,none⟩) l.toNat c.toNat)) (w.alloc (.cells (madeCells z.cells (c.toNat * L.size)) e)):=by
    rw [hz1] at h
    simp [execOp,hρ _ _ hx,hρ _ _ hy,h]
  rw [hr]
  refine ⟨_,_,⟨_,c.toNat,by rw [List.length_replicate],rfl,rfl⟩,?_⟩
  simp only [List.length_replicate]
  refine hst.allocS (by simp) (by omega) (by simp only [maxLen]; omega) (size_madeCells _ _) ?_
  rw [made_take hz.1 (by omega) hsz']
  exact Cells.replicate (hz.2 _ _) _
theorem act_lit0S {α:Type} (L:Lay α) {t e:TypeId} (hu:P.underlying t = some (.slice e)) (he:(P.info? e).isSome = true) :
    ActOk P C ⟨d,.buildSlice t 0 #[],ty,pos,af,gd⟩ σ η ι (fun v θ κ=>∃ A,v = .slice A 0 0 ∧ θ = eS L e A 0 0 [] :: η ∧ κ = ι):=fun ρ w hρ hst=>by
  obtain ⟨i,hi⟩:=Option.isSome_iff_exists.1 he
  have hr:(execOp ρ ⟨d,.buildSlice t 0 #[],ty,pos,af,gd⟩).run P w = .ok (.value (.slice (some ⟨w.heap.size,0,none⟩) 0 0)) (w.alloc (.cells #[] e)):=by
    simp [execOp,Instr.buildSlice,run_underlying hu,Go.sizeOf,typeInfo,hi,Instr.fill,newRow]
    congr 2
    apply Array.ext <;> simp
  rw [hr]
  refine ⟨_,_,⟨_,rfl,rfl,rfl⟩,?_⟩
  exact (hst.alloc e []).tail.zeroS L e _
theorem act_litS {α:Type} (L:Lay α) {t e:TypeId} {len bytes:Nat} {zv:Value} {ps:List (Nat × Operand)} {vs cs:List Value} (xs:List α) (hu:P.underlying t = some (.slice e)) (hi:(P.info? e).map (fun i=>(i.zero,i.size,i.bytes)) = some (some zv,L.size,bytes)) (hp:evVals σ 0 ps = some vs) (hl:vs.length = len) (hz:Nat.blt 0 L.size = true) (hpos:Nat.blt 0 len = true) (hsm:Nat.ble (len * L.size) 16777216 = true) (hsz:Sized L.size vs) (hc:flatV vs = cs) (hxl:xs.length = len)
    (hR:∀ w,St C η ι w → Cells L w (Im C η w) cs xs) :
    ActOk P C ⟨d,.buildSlice t len ps.toArray,ty,pos,af,gd⟩ σ η ι (fun v θ κ=>∃ A,v = .slice A len len ∧ θ = eS L e A len len xs :: η ∧ κ = ι):=fun ρ w hρ hst=>by
  have hm:=evVals_map hρ hp
  subst hc
  obtain ⟨i,hi0,hi1⟩:=Option.map_eq_some_iff.1 hi
  simp only [Prod.mk.injEq] at hi1
  obtain ⟨hz0,hz1,_⟩:=hi1
  have hz':0 < L.size:=by simpa [Nat.blt_eq] using hz
  have hpos':0 < len:=by simpa [Nat.blt_eq] using hpos
  have hs1:len * L.size ≤ 16777216:=by simpa using hsm
  have hs2:=Nat.mul_pos hpos' hz'
  have hcl:=hR w hst
  have hfl:(flatV vs).length = len * L.size:=by rw [hcl.1,hxl]
  have hr:(execOp ρ ⟨d,.buildSlice t len ps.toArray,ty,pos,af,gd⟩).run P w = .ok (.value (.slice (some ⟨w.heap.size,0,none⟩) len len)) (w.alloc (.cells (flatV vs).toArray e)):=by
    have h:=run_buildSlice (P:=P) w t e len (ps.toArray.map fun p=>(p.1,ρ p.2)) (flatV vs).toArray i zv hu hi0 hz0 (by rw [hz1]; omega) (by rw [hz1]; omega) (by
      rw [Array.toList_map,hm,flatV_eq,hz1,← hl]
      exact _root_.Go.Great.fill_whole hz' vs _ hsz.all (by simp))
    simp only [execOp,Sem.run_bind,h,Result.andThen_ok]
    rfl
  rw [hr]
  refine ⟨_,_,⟨_,rfl,rfl,rfl⟩,hst.allocS hxl.symm (Nat.le_refl _) (by simp only [maxLen]; have:=Nat.le_mul_of_pos_right len hz'; omega) (by simpa using hfl) ?_⟩
  simp only [← hfl,List.take_length]
  exact hcl
theorem litR_flat {α:Type} {enc:α → List Value} {z:Nat} {hl:∀ x,(enc x).length = z} {h1:∀ x,∀ u ∈ enc x,u.oneCell' = true} {cs:List Value} {xs:List α} (h:xs.flatMap enc = cs):∀ w,St C η ι w → Cells (lFlat enc z hl h1) w (Im C η w) cs xs:=fun w _=>by
  subst h
  exact Cells.flat (L:=lFlat enc z hl h1) (fun _=>rfl) xs
theorem stR_flat {α:Type} {enc:α → List Value} {z off:Nat} {hl:∀ x,(enc x).length = z} {h1:∀ x,∀ u ∈ enc x,u.oneCell' = true} {cells:List Value} {x x':α} (ho:Nat.ble (off + cells.length) z = true) (he:(enc x).take off ++ cells ++ (enc x).drop (off + cells.length) = enc x') :
    ∀ w cs,St C η ι w → (lFlat enc z hl h1).R w (Im C η w) cs x → off + cells.length ≤ (lFlat enc z hl h1).size ∧ (lFlat enc z hl h1).R w (Im C η w) (cs.take off ++ cells ++ cs.drop (off + cells.length)) x':=fun w cs _ h=>by
  have h:cs = enc x:=h
  subst h
  exact ⟨Nat.le_of_ble_eq_true ho,he⟩
def slA (A:Option Addr) (M l z:Nat):Option Addr:=if M = l then A else A.map (·.add (l * z))
theorem Els.sel {α:Type} {L:Lay α} {w:World} {S:Nat → Prop} {A:Option Addr} {xs:List α} (h:Els L w S A xs) {l h' M:Nat} (hM:h' ≤ M):Els L w S (slA A M l L.size) ((xs.take h').drop l):=by
  unfold slA
  split
  · rename_i e
    subst e
    refine .inl ?_
    rw [List.drop_eq_nil_iff,List.length_take]
    omega
  · exact (h.take h').drop l
theorem act_slice {α:Type} {L:Lay α} {x:Operand} {lo hi mx:Option Operand} {t e:TypeId} {A:Option Addr} {m c z l h M:Nat} {xs ys:List α} {lv hv mv:Option Value} (hx:ev σ x = some (.slice A m c)) (hf:fV (lSlice L) (.slice A m c) xs ∈ ι)
    (hlo:∀ ρ:Operand → Value,(∀ x u,ev σ x = some u → ρ x = u) → lo.map ρ = lv ∧ hi.map ρ = hv ∧ mx.map ρ = mv) (ht:P.underlying t = some (.slice e)) (hL:L.size = z) (hr:∀ w,m = xs.length → m ≤ c → h ≤ M ∧ (Instr.slice t (.slice A m c) lv hv mv).run P w = .ok (.slice (slA A M l z) (h - l) (M - l)) w) (hhm:h ≤ xs.length) (hlh:l ≤ h) (hys:(xs.take h).drop l = ys) :
    ActOk P C ⟨d,.slice t x lo hi mx,ty,pos,af,gd⟩ σ η ι (fun v θ κ=>∃ A' c',v = .slice A' ys.length c' ∧ θ = η ∧ κ = fV (lSlice L) (.slice A' ys.length c') ys :: ι):=fun ρ w hρ hst=>by
  obtain ⟨h1,h2,h3⟩:=hlo ρ hρ
  obtain ⟨hm,hmc,hel⟩:=lSlice_of (hst.facts _ hf)
  obtain ⟨hMh,hrw⟩:=hr w hm hmc
  have hrun:(execOp ρ ⟨d,.slice t x lo hi mx,ty,pos,af,gd⟩).run P w = .ok (.value (.slice (slA A M l z) (h - l) (M - l))) w:=by
    simp [execOp,hρ _ _ hx,h1,h2,h3,Instr.sliceAt,run_underlying ht,hrw]
  rw [hrun]
  subst hys
  have hlen:((xs.take h).drop l).length = h - l:=by rw [List.length_drop,List.length_take]; omega
  refine ⟨_,_,⟨_,_,by rw [hlen],rfl,rfl⟩,hst.fact ⟨_,_,_,rfl,rfl,by rw [hlen]; omega,?_⟩⟩
  subst hL
  exact hel.sel (by omega)
theorem run_slice_gen {t e:TypeId} {A:Option Addr} {m c z l h M:Nat} {lv hv mv:Option Value} {w:World} (ht:P.underlying t = some (.slice e)) (hz:sizeB P e = some z) (hb:(Instr.sliceBounds true m c lv hv mv).run P w = .ok (l,h,M) w):(Instr.slice t (.slice A m c) lv hv mv).run P w = .ok (.slice (slA A M l z) (h - l) (M - l)) w:=by
  obtain ⟨q,hq,rfl⟩:∃ q,P.info? e = some q ∧ q.size = z:=by simpa [sizeB] using hz
  simp [Instr.slice,run_underlying ht,hb,Go.sizeOf,typeInfo,hq,slA]
theorem run_bound {k:IntKind} {i:Int} {y:Nat} {code:BoundsCode} {w:World} (h0:0 ≤ i) (h1:i.toNat ≤ y):(Instr.sliceBound (.int k i) y code).run P w = .ok i.toNat w:=by
  have h2:i ≤ (y:Int):=by omega
  simp [Instr.sliceBound,asIntOf,h0,h2]
theorem act_sliceH {α:Type} {L:Lay α} {x y:Operand} {t e:TypeId} {A:Option Addr} {m c z:Nat} {k:IntKind} {h:Int} {xs:List α} (hx:ev σ x = some (.slice A m c)) (hy:ev σ y = some (.int k h)) (hf:fV (lSlice L) (.slice A m c) xs ∈ ι) (ht:P.underlying t = some (.slice e)) (hz:sizeB P e = some z) (hL:L.size = z) (h0:decide (0 ≤ h) = true) (h1:decide (h ≤ (xs.length:Int)) = true) :
    ActOk P C ⟨d,.slice t x none (some y) none,ty,pos,af,gd⟩ σ η ι (fun v θ κ=>∃ A' c',v = .slice A' (xs.take h.toNat).length c' ∧ θ = η ∧ κ = fV (lSlice L) (.slice A' (xs.take h.toNat).length c') (xs.take h.toNat) :: ι):=by
  simp only [decide_eq_true_eq] at h0 h1
  refine act_slice (l:=0) (h:=h.toNat) (M:=c) (lv:=none) (hv:=some (.int k h)) (mv:=none) hx hf (fun ρ hρ=>⟨rfl,by simp [hρ _ _ hy],rfl⟩) ht hL (fun w hm hmc=>⟨by omega,run_slice_gen ht hz ?_⟩) (by omega) (Nat.zero_le _) (by simp)
  simp [Instr.sliceBounds,run_bound (P:=P) (w:=w) (k:=k) (y:=c) (code:=.sliceAcap) h0 (by omega)]
theorem act_sliceL {α:Type} {L:Lay α} {x y:Operand} {t e:TypeId} {A:Option Addr} {m c z:Nat} {k:IntKind} {l:Int} {xs:List α} (hx:ev σ x = some (.slice A m c)) (hy:ev σ y = some (.int k l)) (hf:fV (lSlice L) (.slice A m c) xs ∈ ι) (ht:P.underlying t = some (.slice e)) (hz:sizeB P e = some z) (hL:L.size = z) (h0:decide (0 ≤ l) = true) (h1:decide (l ≤ (xs.length:Int)) = true) :
    ActOk P C ⟨d,.slice t x (some y) none none,ty,pos,af,gd⟩ σ η ι (fun v θ κ=>∃ A' c',v = .slice A' (xs.drop l.toNat).length c' ∧ θ = η ∧ κ = fV (lSlice L) (.slice A' (xs.drop l.toNat).length c') (xs.drop l.toNat) :: ι):=by
  simp only [decide_eq_true_eq] at h0 h1
  refine act_slice (l:=l.toNat) (h:=xs.length) (M:=c) (lv:=some (.int k l)) (hv:=none) (mv:=none) hx hf (fun ρ hρ=>⟨by simp [hρ _ _ hy],rfl,rfl⟩) ht hL (fun w hm hmc=>⟨by omega,run_slice_gen ht hz ?_⟩) (Nat.le_refl _) (by omega) (by simp)
  subst hm
  simp [Instr.sliceBounds,run_bound (P:=P) (w:=w) (k:=k) (y:=xs.length) (code:=.sliceB) h0 (by omega)]
end
end Go.Proofs.YtdenliplkmjmjaaGreat
namespace Go.Proofs.YtdenliplkmjmjaaGreat
open Go.RowKit
def placesB (P:Program) (t:TypeId):Option (List (Nat × Nat)):=match P.underlying t with
  | some (.struct fs)=>fs.toList.mapM (fun f=>(P.info? f.type).map fun i=>(f.offset,i.size))
  | _=>none
def putL:List Value → Nat → List Value → List Value
  | zs,_,[]=>zs
  | zs,o,c :: cs=>putL (zs.set o c) (o + 1) cs
theorem putL_eq:∀ (cs:List Value) (zs:List Value) (o k:Nat),(cs.zipIdx k).foldl (fun (a:Array Value) (p:Value × Nat)=>a.setIfInBounds (o + p.2) p.1) zs.toArray = (putL zs (o + k) cs).toArray
  | [],_,_,_=>rfl
  | c :: cs,zs,o,k=>by
    have h:=putL_eq cs (zs.set (o + k) c) o (k + 1)
    simp only [List.zipIdx_cons,List.foldl_cons,List.setIfInBounds_toArray,putL]
    rw [show o + k + 1 = o + (k + 1) by omega]
    exact h
def fillL (pl:List (Nat × Nat)):List Value → List (Nat × Value) → Option (List Value)
  | zs,[]=>some zs
  | zs,(i,v) :: r=>match pl[i]? with
    | none=>none
    | some (o,s)=>bif Nat.beq v.cells.size s && Nat.ble (o + s) zs.length then fillL pl (putL zs o v.cells.toList) r else none
theorem fillL_eq {pl:List (Nat × Nat)}:∀ {ps:List (Nat × Value)} {zs cs:List Value},fillL pl zs ps = some cs → Instr.fill (pl.toArray[·]?) zs.toArray ps = some cs.toArray
  | [],zs,cs,h=>by
    simp only [fillL,Option.some.injEq] at h
    subst h
    rfl
  | (i,v) :: r,zs,cs,h=>by
    unfold fillL at h
    cases hp:pl[i]? with
    | none=>rw [hp] at h; cases h
    | some q =>
      obtain ⟨o,s⟩:=q
      rw [hp] at h
      cases hb:(Nat.beq v.cells.size s && Nat.ble (o + s) zs.length) with
      | false=>simp only [hb] at h; cases h
      | true =>
        simp only [hb,cond_true] at h
        rw [Bool.and_eq_true] at hb
        have h1:=Nat.eq_of_beq_eq_true hb.1
        have h2:=Nat.le_of_ble_eq_true hb.2
        have ih:=fillL_eq h
        have hpl:=putL_eq v.cells.toList zs o 0
        unfold Instr.fill
        have hp':(pl.toArray)[i]? = some (o,s):=by simpa using hp
        simp only [hp']
        rw [if_neg (by simp; omega)]
        have hz:Array.foldl (fun (cs:Array Value) (x:Value × Nat)=>cs.setIfInBounds (o + x.2) x.1) zs.toArray v.cells.zipIdx = (putL zs o v.cells.toList).toArray:=by
          rw [← Array.foldl_toList,Array.toList_zipIdx]
          exact hpl
        rw [show (Array.foldl (fun cs x=>match x with | (c,j)=>cs.setIfInBounds (o + j) c) zs.toArray v.cells.zipIdx) = (putL zs o v.cells.toList).toArray from hz]
        exact ih
section
variable {P:Program} {C:Cx} {n:FN} {Q:Exit → Act → World → Prop} {σ:List (Nat × Value)} {η:List Ent} {ι:List Fact}
variable {d:Option Tmp} {ty:TypeId} {pos:String} {af:Array Edge} {gd:Option (Nat × Bool)}
theorem det_build {t:TypeId} {pl:List (Nat × Nat)} {z:Value} {zs cs:List Value} {ps:List (Nat × Operand)} {vs:List (Nat × Value)} (hp:placesB P t = some pl) (hz:zeroB P t = some z) (hc:z.cells = zs.toArray) (hv:evParts σ ps = some vs) (hf:fillL pl zs vs = some cs) :
    Det P C ⟨d,.build t ps.toArray,ty,pos,af,gd⟩ σ η ι (.agg cs.toArray):=fun ρ w hρ _=>by
  have hm:=evParts_map hρ hv
  obtain ⟨i,hi,hiz⟩:=Option.bind_eq_some_iff.1 hz
  have hb:P.built t vs = some cs.toArray:=by
    unfold placesB at hp
    unfold Program.built
    split at hp
    · rename_i fs hu
      simp only [hi,hu,hiz,hp,hc]
      exact fillL_eq hf
    · cases hp
  have hr:=run_build (P:=P) w t (vs.toArray) cs.toArray (by simpa using hb)
  have e:(ps.toArray.map fun p=>(p.1,ρ p.2)) = vs.toArray:=by rw [List.map_toArray,hm]
  have e':(ps.toArray.map fun (p:Nat × Operand)=>match p with | (i,x)=>(i,ρ x)) = vs.toArray:=e
  simp only [execOp,e']
  simp [hr]
theorem det_makeFunc {f:FuncId} {xs:List Operand} {vs:List Value} (h:evL σ xs = some vs):Det P C ⟨d,.makeFunc (.func f) #[] xs.toArray,ty,pos,af,gd⟩ σ η ι (.func (.func f) #[] vs.toArray):=fun ρ w hρ _=>by
  have hm:=evL_map hρ h
  simp [execOp,Instr.makeFunc,hm]
theorem St.freeze {w:World} {b:Nat} {e:TypeId} {cs:List Value} {θ:List Ent} (h:St C η ι w) (hr:Rem η (eBlk b e cs) θ):St C θ (fAt b 0 cs :: ι) w:=by
  refine (h.subEnts hr.sub).fact ?_
  have hk:w.heap[b]? = some (.cells cs.toArray e (0,0)):=h.ents _ hr.mem
  refine ⟨h.freed hr rfl,fun j u hu=>?_⟩
  simp [World.cell?,hk,hu]
theorem allIn_of:∀ {κ ι:List Fact},(∀ f ∈ κ,f ∈ ι) → AllIn κ ι
  | [],_,_=>trivial
  | f :: _,_,h=>⟨h f List.mem_cons_self,allIn_of fun g hg=>h g (List.mem_cons_of_mem _ hg)⟩
theorem allIn_self {κ:List Fact}:AllIn κ κ:=allIn_of fun _ h=>h
end
end Go.Proofs.YtdenliplkmjmjaaGreat
namespace Go.Proofs.YtdenliplkmjmjaaGreat
open Go.RowKit
def fieldsB (P:Program) (rec:TypeId → Option Nat):Nat → List Field → Option Nat
  | off,[]=>some off
  | off,f :: fs=>bif f.name == "_" || !(Nat.beq f.offset off) then none else match rec f.type with
    | some m=>if sizeB P f.type = some m then fieldsB P rec (off + m) fs else none
    | none=>none
def flatB (P:Program):Nat → TypeId → Option Nat
  | 0,_=>none
  | d + 1,t=>match P.underlying t with
    | some (.int .i64)=>some 1
    | some (.struct fs)=>bif P.stoodInHeld t then none else fieldsB P (flatB P d) 0 fs.toList
    | _=>none
def cellsI (xs:List Int):List Value:=xs.map (.int .i64)
def PackOf (P:Program) (t:TypeId) (xs:List Int) (u:Value):Prop:=(isAggB P t = true ∧ u = .agg (cellsI xs).toArray) ∨ (isAggB P t = false ∧ ∃ x,xs = [x] ∧ u = .int .i64 x)
section
variable {P:Program} {w:World}
theorem flat_isAgg {d:Nat} {t:TypeId} {n:Nat} (h:flatB P d t = some n):(isAggB P t = true ∧ (isAgg t).run P w = .ok true w) ∨ (isAggB P t = false ∧ (isAgg t).run P w = .ok false w ∧ n = 1):=by
  cases d with
  | zero=>cases h
  | succ d =>
    unfold flatB at h
    cases hu:P.underlying t with
    | none=>rw [hu] at h; cases h
    | some k =>
      rw [hu] at h
      cases k with
      | int k =>
        cases k <;> simp at h
        exact .inr ⟨by simp [isAggB,hu],by simp [isAgg,run_underlying hu],h.symm⟩
      | struct fs=>exact .inl ⟨by simp [isAggB,hu],by simp [isAgg,run_underlying hu]⟩
      | _=>simp at h
theorem run_size_of {t:TypeId} {m:Nat} (h:sizeB P t = some m):(Go.sizeOf t).run P w = .ok m w:=by
  unfold sizeB at h
  obtain ⟨i,hi,rfl⟩:=Option.map_eq_some_iff.1 h
  simp [Go.sizeOf,typeInfo,hi]
theorem part_flat {d:Nat} {t:TypeId} {m off:Nat} {xs:List Int} (h:flatB P d t = some m) (hs:sizeB P t = some m) (hl:off + m ≤ xs.length) :
    ∃ u,(part t (cellsI xs).toArray off).run P w = .ok u w ∧ PackOf P t ((xs.drop off).take m) u:=by
  rcases flat_isAgg (w:=w) h with ⟨ha,hr⟩ | ⟨ha,hr,rfl⟩
  · refine ⟨.agg (cellsI ((xs.drop off).take m)).toArray,?_,.inl ⟨ha,rfl⟩⟩
    simp only [part,Sem.run_bind,hr,Result.andThen_ok,if_true,run_size_of hs,Sem.run_pure]
    congr 2
    simp [cellsI,List.extract]
  · have hx:off < xs.length:=by omega
    refine ⟨.int .i64 xs[off],?_,.inr ⟨ha,xs[off],?_,rfl⟩⟩
    · simp only [part,Sem.run_bind,hr,Result.andThen_ok,Bool.false_eq_true,if_false]
      simp [cellsI,hx]
    · rw [List.drop_eq_getElem_cons hx]
      rfl
theorem drop_split {xs ys:List Int} {off m:Nat}:(xs.drop off = ys.drop off) ↔ ((xs.drop off).take m = (ys.drop off).take m ∧ xs.drop (off + m) = ys.drop (off + m)):=by
  constructor
  · intro h
    exact ⟨by rw [h],by rw [← List.drop_drop,← List.drop_drop,h]⟩
  · rintro ⟨h1,h2⟩
    rw [← List.take_append_drop m (xs.drop off),← List.take_append_drop m (ys.drop off),h1,List.drop_drop,List.drop_drop,h2]
theorem eqFields_flat {rec:TypeId → Option Nat} {D n:Nat} {xs ys:List Int} (hx:xs.length = n) (hy:ys.length = n)
    (hd:∀ t m,rec t = some m → ∃ d,flatB P d t = some m)
    (hrec:∀ t m,rec t = some m → ∀ a b u v,PackOf P t a u → PackOf P t b v → a.length = m → b.length = m → (Op.equalIn D t u v).run P w = .ok (decide (a = b)) w) :
    ∀ (fs:List Field) (off:Nat),fieldsB P rec off fs = some n → (Op.eqFields D (cellsI xs).toArray (cellsI ys).toArray fs).run P w = .ok (decide (xs.drop off = ys.drop off)) w
  | [],off,h=>by
    simp only [fieldsB,Option.some.injEq] at h
    subst h
    simp [Op.eqFields,hx,hy,List.drop_eq_nil_of_le]
  | f :: fs,off,h=>by
    unfold fieldsB at h
    cases hb:(f.name == "_" || !(Nat.beq f.offset off)) with
    | true=>rw [hb] at h; cases h
    | false =>
      rw [hb,cond_false] at h
      rw [Bool.or_eq_false_iff] at hb
      have ho:f.offset = off:=Nat.eq_of_beq_eq_true (by simpa using hb.2)
      have hn:f.name ≠ "_":=by simpa using hb.1
      cases hr:rec f.type with
      | none=>rw [hr] at h; cases h
      | some m =>
        rw [hr] at h
        simp only at h
        split at h
        · rename_i hs
          have hle:∀ (fs:List Field) (o:Nat),fieldsB P rec o fs = some n → o ≤ n:=by
            intro fs
            induction fs with
            | nil=>intro o h; simp only [fieldsB,Option.some.injEq] at h; omega
            | cons g gs ih =>
              intro o h
              unfold fieldsB at h
              cases hb2:(g.name == "_" || !(Nat.beq g.offset o)) with
              | true=>rw [hb2] at h; cases h
              | false =>
                rw [hb2,cond_false] at h
                cases hr2:rec g.type with
                | none=>rw [hr2] at h; cases h
                | some m2 =>
                  rw [hr2] at h
                  simp only at h
                  split at h
                  · have:=ih _ h
                    omega
                  · cases h
          have h1:=hle fs _ h
          obtain ⟨d,hfl⟩:=hd _ _ hr
          obtain ⟨u,hu,hpu⟩:=part_flat (w:=w) (xs:=xs) (off:=off) hfl hs (by omega)
          obtain ⟨v,hv,hpv⟩:=part_flat (w:=w) (xs:=ys) (off:=off) hfl hs (by omega)
          have he:=hrec _ _ hr _ _ _ _ hpu hpv (by simp; omega) (by simp; omega)
          have ih:=eqFields_flat hx hy hd hrec fs _ h
          unfold Op.eqFields
          rw [if_pos hn,ho]
          simp only [Sem.run_bind,hu,hv,he,Result.andThen_ok]
          have hsp:=drop_split (xs:=xs) (ys:=ys) (off:=off) (m:=m)
          by_cases hq:(xs.drop off).take m = (ys.drop off).take m
          · simp only [hq,decide_true,Bool.not_true,Bool.false_eq_true,if_false,ih]
            congr 1
            exact decide_eq_decide.2 ⟨fun e=>hsp.2 ⟨hq,e⟩,fun e=>(hsp.1 e).2⟩
          · simp only [hq,decide_false,Bool.not_false,if_true,Sem.run_pure]
            congr 1
            exact (decide_eq_false fun e=>hq (hsp.1 e).1).symm
        · cases h
theorem equal_flat:∀ (d:Nat) (t:TypeId) (n D:Nat),flatB P d t = some n → d ≤ D → ∀ a b u v,PackOf P t a u → PackOf P t b v → a.length = n → b.length = n → (Op.equalIn D t u v).run P w = .ok (decide (a = b)) w
  | 0,_,_,_,h,_=>by cases h
  | d + 1,t,n,D,h,hD=>by
    intro a b u v hu hv ha hb
    obtain ⟨D,rfl⟩:∃ E,D = E + 1:=⟨D - 1,by omega⟩
    have h0:=h
    unfold flatB at h
    cases hk:P.underlying t with
    | none=>rw [hk] at h; cases h
    | some k =>
      rw [hk] at h
      cases k with
      | int k =>
        have hag:isAggB P t = false:=by simp [isAggB,hk]
        rcases hu with ⟨h1,_⟩ | ⟨_,x,rfl,rfl⟩
        · rw [hag] at h1; cases h1
        rcases hv with ⟨h1,_⟩ | ⟨_,y,rfl,rfl⟩
        · rw [hag] at h1; cases h1
        rw [run_equalIn_int w D t .i64 k x y hk]
        congr 1
        by_cases e:x = y <;> simp [e]
      | struct fs =>
        have hag:isAggB P t = true:=by simp [isAggB,hk]
        rcases hu with ⟨_,rfl⟩ | ⟨h1,_⟩
        case inr=>rw [hag] at h1; cases h1
        rcases hv with ⟨_,rfl⟩ | ⟨h1,_⟩
        case inr=>rw [hag] at h1; cases h1
        cases hst:P.stoodInHeld t with
        | true=>simp only [hst,cond_true] at h; cases h
        | false =>
          simp only [hst,cond_false] at h
          have hf:P.fieldsOf t = fs:=by simp [Program.fieldsOf,hk]
          rw [run_equalIn_struct w D t _ _ (by rw [hf]; exact hk) hst,hf]
          have:=eqFields_flat (P:=P) (w:=w) (D:=D) (rec:=flatB P d) ha hb (fun t m h=>⟨d,h⟩) (fun t m h a b u v hu hv ha hb=>equal_flat d t m D h (by omega) a b u v hu hv ha hb) fs.toList 0 h
          simpa using this
      | _=>simp at h
variable {C:Cx} {σ:List (Nat × Value)} {η:List Ent} {ι:List Fact}
variable {d:Option Tmp} {ty:TypeId} {pos:String} {af:Array Edge} {gd:Option (Nat × Bool)}
def eqOkB (P:Program) (t:TypeId) (n:Nat):Bool:=(flatB P 6 t == some n) && isAggB P t && !(P.eqGuardType P.depth t)
theorem det_eqlS {x y:Operand} {t u:TypeId} {n:Nat} (as1 bs:List Int) (h:eqOkB P t n = true) (ha:Nat.beq as1.length n = true) (hb:Nat.beq bs.length n = true) (hx:ev σ x = some (.agg (cellsI as1).toArray)) (hy:ev σ y = some (.agg (cellsI bs).toArray)) :
    Det P C ⟨d,.binOp .eql t x y u,ty,pos,af,gd⟩ σ η ι (.bool (decide (as1 = bs))):=fun ρ w hρ _=>by
  simp only [eqOkB,Bool.and_eq_true,beq_iff_eq,Bool.not_eq_true'] at h
  have he:=equal_flat (P:=P) (w:=w) 6 t n 10000 h.1.1 (by omega) as1 bs _ _ (.inl ⟨h.1.2,rfl⟩) (.inl ⟨h.1.2,rfl⟩) (Nat.eq_of_beq_eq_true ha) (Nat.eq_of_beq_eq_true hb)
  simp only [execOp,hρ _ _ hx,hρ _ _ hy]
  simp [run_eqGuard_agg w .eql t x y _ _ h.2,run_eql_struct,he]
theorem det_neqS {x y:Operand} {t u:TypeId} {n:Nat} (as1 bs:List Int) (h:eqOkB P t n = true) (ha:Nat.beq as1.length n = true) (hb:Nat.beq bs.length n = true) (hx:ev σ x = some (.agg (cellsI as1).toArray)) (hy:ev σ y = some (.agg (cellsI bs).toArray)) :
    Det P C ⟨d,.binOp .neq t x y u,ty,pos,af,gd⟩ σ η ι (.bool (!decide (as1 = bs))):=fun ρ w hρ _=>by
  simp only [eqOkB,Bool.and_eq_true,beq_iff_eq,Bool.not_eq_true'] at h
  have he:=equal_flat (P:=P) (w:=w) 6 t n 10000 h.1.1 (by omega) as1 bs _ _ (.inl ⟨h.1.2,rfl⟩) (.inl ⟨h.1.2,rfl⟩) (Nat.eq_of_beq_eq_true ha) (Nat.eq_of_beq_eq_true hb)
  simp only [execOp,hρ _ _ hx,hρ _ _ hy]
  simp [run_eqGuard_agg w .neq t x y _ _ h.2,run_neq_struct,he]
end
end Go.Proofs.YtdenliplkmjmjaaGreat
namespace Go.Proofs.YtdenliplkmjmjaaGreat
open Go.RowKit
section
variable {P:Program} {C:Cx} {n:FN} {Q:Exit → Act → World → Prop} {σ:List (Nat × Value)} {η:List Ent} {ι:List Fact}
variable {d:Option Tmp} {ty:TypeId} {pos:String} {af:Array Edge} {gd:Option (Nat × Bool)}
theorem det_band {x y:Operand} {t u:TypeId} {k:IntKind} {i j:Int} (hx:ev σ x = some (.int k i)) (hy:ev σ y = some (.int k j)):Det P C ⟨d,.binOp .and t x y u,ty,pos,af,gd⟩ σ η ι (.int k (bAnd k i j)) :=
  fun ρ w hρ _=>by simp [execOp,hρ _ _ hx,hρ _ _ hy,eqGuard,binOp,Op.intBits,bAnd]
theorem det_bor {x y:Operand} {t u:TypeId} {k:IntKind} {i j:Int} (hx:ev σ x = some (.int k i)) (hy:ev σ y = some (.int k j)):Det P C ⟨d,.binOp .or t x y u,ty,pos,af,gd⟩ σ η ι (.int k (bOr k i j)) :=
  fun ρ w hρ _=>by simp [execOp,hρ _ _ hx,hρ _ _ hy,eqGuard,binOp,Op.intBits,bOr]
theorem det_shl {x y:Operand} {t u:TypeId} {k k':IntKind} {i j:Int} (hx:ev σ x = some (.int k i)) (hy:ev σ y = some (.int k' j)) (h:decide (0 ≤ j) = true):Det P C ⟨d,.binOp .shl t x y u,ty,pos,af,gd⟩ σ η ι (.int k (bShl k i j)) :=
  fun ρ w hρ _=>by
    have h':¬ j < 0:=by simpa using h
    simp [execOp,hρ _ _ hx,hρ _ _ hy,eqGuard,binOp,Op.shift,h',bShl]
theorem det_shr {x y:Operand} {t u:TypeId} {k k':IntKind} {i j:Int} (hx:ev σ x = some (.int k i)) (hy:ev σ y = some (.int k' j)) (h:decide (0 ≤ j) = true):Det P C ⟨d,.binOp .shr t x y u,ty,pos,af,gd⟩ σ η ι (.int k (bShr k i j)) :=
  fun ρ w hρ _=>by
    have h':¬ j < 0:=by simpa using h
    simp [execOp,hρ _ _ hx,hρ _ _ hy,eqGuard,binOp,Op.shift,h',bShr]
theorem det_quoB {x y:Operand} {t u:TypeId} {k:IntKind} {i j:Int} (hx:ev σ x = some (.int k i)) (hy:ev σ y = some (.int k j)) (h0:(!decide (j = 0)) = true):Det P C ⟨d,.binOp .quo t x y u,ty,pos,af,gd⟩ σ η ι (.int k (k.wrap (i.tdiv j))):=det_quo hx hy (by simpa using h0)
theorem det_remB {x y:Operand} {t u:TypeId} {k:IntKind} {i j:Int} (hx:ev σ x = some (.int k i)) (hy:ev σ y = some (.int k j)) (h0:(!decide (j = 0)) = true):Det P C ⟨d,.binOp .rem t x y u,ty,pos,af,gd⟩ σ η ι (.int k (i.tmod j)):=det_rem hx hy (by simpa using h0)
theorem det_minI {x y:Operand} {t u:TypeId} {k:IntKind} {i j:Int} (hx:ev σ x = some (.int k i)) (hy:ev σ y = some (.int k j)) :
    Det P C ⟨d,.call { callee:=.builtin .min,args:=#[x,y],argTypes:=#[t,u] },ty,pos,af,gd⟩ σ η ι (.int k (minI i j)):=det_min hx hy
theorem det_nilCheckB {x:Operand} {b o:Nat} (hx:ev σ x = some (.pointer (some ⟨b,o,none⟩))):Det P C ⟨d,.nilCheck x,ty,pos,af,gd⟩ σ η ι (.pointer (some ⟨b,o,none⟩)):=fun ρ w hρ _=>by
  simp [execOp,hρ _ _ hx]
def AllR (w:World) (S:Nat → Prop):List Fact → Prop
  | []=>True
  | f :: l=>f.R w S ∧ AllR w S l
theorem AllR.all {w:World} {S:Nat → Prop}:∀ {l:List Fact},AllR w S l → ∀ f ∈ l,f.R w S
  | [],_,_,h=>by cases h
  | x :: l,h,f,hf=>by
    rcases List.mem_cons.1 hf with rfl | hf
    · exact h.1
    · exact AllR.all h.2 f hf
theorem St.addR {w:World} {κ:List Fact} (h:St C η ι w) (hr:AllR w (Im C η w) κ):St C η (κ ++ ι) w :=
  ⟨h.os,h.tape,h.output,h.size,h.old,h.ents,h.place,h.apart,fun g hg=>by
    rcases List.mem_append.1 hg with hg | hg
    · exact hr.all g hg
    · exact h.facts g hg⟩
theorem sub_mid {a b:Fact} {κ:List Fact}:∀ f ∈ a :: (κ ++ ι),f ∈ κ ++ (a :: b :: ι):=fun f hf=>by
  rcases List.mem_cons.1 hf with rfl | hf
  · exact List.mem_append_right _ m0
  · rcases List.mem_append.1 hf with hf | hf
    · exact List.mem_append_left _ hf
    · exact List.mem_append_right _ (ms (ms hf))
theorem open_slice {α:Type} {L:Lay α} {w:World} {A:Option Addr} {m c:Nat} {xs:List (List α)} (h:St C η ι w) (hf:fV (lSlice (lSlice L)) (.slice A m c) xs ∈ ι) {i:Int} (hi:inb xs i = true) :
    ∃ g:Option Addr × Nat,True ∧ St C η (fPt A (i.toNat * 1) [.slice g.1 (ix xs i).length g.2] :: fV (lSlice L) (.slice g.1 (ix xs i).length g.2) (ix xs i) :: ι) w:=by
  obtain ⟨cs,hs⟩:=h.openE hf hi
  obtain ⟨A',n',c',h1,h2,h3,h4⟩:=hs.facts _ (ms m0)
  subst h1 h2
  refine ⟨(A',c'),trivial,hs.subFacts ?_⟩
  intro f hf
  exact hf
theorem qakn {P:Program} (w:World) (d:Nat) {t e:TypeId} {A:Option Addr} {n c:Nat} (h:P.underlying t = some (.slice e)):(Op.equalIn (d + 1) t (.slice A n c) (.slice none 0 0)).run P w = .ok A.isNone w:=by
  cases A <;> simp [Op.equalIn,run_underlying h]
theorem qako {P:Program} (w:World) {t e:TypeId} {A:Option Addr} {n c:Nat} (h:P.underlying t = some (.slice e)):(Op.equal t (.slice A n c) (.slice none 0 0)).run P w = .ok A.isNone w:=qakn w 9999 h
theorem det_eqlNil {P:Program} {d:Option Nat} {ty:TypeId} {pos:String} {af:Array Edge} {gd:Option (Nat × Bool)} {σ:List (Nat × Value)} {x y:Operand} {t u e:TypeId} {A:Option Addr} {n c:Nat} (hx:ev σ x = some (.slice A n c)) (hy:ev σ y = some (.slice none 0 0)) (ht:P.underlying t = some (.slice e)):Det P C ⟨d,.binOp .eql t x y u,ty,pos,af,gd⟩ σ η ι (.bool A.isNone) :=
  fun ρ w hρ _=>by simp [execOp,hρ _ _ hx,hρ _ _ hy,eqGuard,binOp,qako w ht]
theorem St.nilF {α:Type} {L:Lay α} {w:World} {A:Option Addr} {m c:Nat} {xs:List α} (h:St C η ι w) (hf:fV (lSlice L) (.slice A m c) xs ∈ ι) (hA:A.isNone = true):xs = []:=by
  rcases (lSlice_of (h.facts _ hf)).2.2 with h1 | ⟨b,o,h1,_⟩
  · exact h1
  · subst h1
    cases hA
theorem clone_nil {α:Type} {r:List α} (h:chk (room ([]:List α).length) (some ([]:List α)) = some r):some ([]:List α) = some r:=h
theorem act_appendS0 {P:Program} {d:Option Nat} {ty:TypeId} {pos:String} {af:Array Edge} {gd:Option (Nat × Bool)} {σ:List (Nat × Value)} {α:Type} {L:Lay α} {x y:Operand} {t e:TypeId} {z:Value} {A A0:Option Addr} {bytes m c0 k c:Nat} {ys:List α} {F:Ent → List Ent} (hx:ev σ x = some (.slice A0 m c0)) (hy:ev σ y = some (.slice A k c)) (hs:SwF η (eS L e A0 m c0 []) F) (hsrc:Src C η ι L A k ys)
    (ht:P.underlying t = some (.slice e)) (hi:(P.info? e).map (fun i=>(i.zero,i.size,i.bytes)) = some (some z,L.size,bytes)) (hz:z.cells.size = L.size) (hsz:Nat.blt 0 L.size = true) (hby:Nat.ble bytes 100000 = true) (hroom:room ys.length = true) :
    ActOk P C ⟨d,.call { callee:=.builtin .append,args:=#[x,y],argTypes:=#[t,t] },ty,pos,af,gd⟩ σ η ι (fun v' θ κ=>∃ A' c',v' = .slice A' ys.length c' ∧ θ = F (eS L e A' ys.length c' ys) ∧ κ = ι) :=
  act_appendS hx hy hs hsrc ht hi hz hsz hby hroom
theorem act_sliceOL {α:Type} {L:Lay α} {x y:Operand} {t e e':TypeId} {A:Option Addr} {m c z:Nat} {k:IntKind} {l:Int} {xs:List α} (hx:ev σ x = some (.slice A m c)) (hy:ev σ y = some (.int k l)) (hf:eS L e' A m c xs ∈ η) (ht:P.underlying t = some (.slice e)) (hz:sizeB P e = some z) (h0:decide (0 ≤ l) = true) (h1:decide (l ≤ (xs.length:Int)) = true) :
    ActOk P C ⟨d,.slice t x (some y) none none,ty,pos,af,gd⟩ σ η ι (fun v θ κ=>v = .slice (slA A c l.toNat z) (m - l.toNat) (c - l.toNat) ∧ θ = η ∧ κ = ι):=fun ρ w hρ hst=>by
  simp only [decide_eq_true_eq] at h0 h1
  have hm:=hst.lenO hf
  have hb:(Instr.sliceBounds true m c (some (.int k l)) none none).run P w = .ok (l.toNat,m,c) w:=by
    simp [Instr.sliceBounds,run_bound (P:=P) (w:=w) (k:=k) (y:=m) (code:=.sliceB) h0 (by omega)]
  have hrun:(execOp ρ ⟨d,.slice t x (some y) none none,ty,pos,af,gd⟩).run P w = .ok (.value (.slice (slA A c l.toNat z) (m - l.toNat) (c - l.toNat))) w:=by
    simp [execOp,hρ _ _ hx,hρ _ _ hy,Instr.sliceAt,run_underlying ht,run_slice_gen ht hz hb]
  rw [hrun]
  exact ⟨_,_,⟨rfl,rfl,rfl⟩,hst⟩
theorem det_indexVw {α:Type} {L:Lay α} {x y:Operand} {t e e':TypeId} {kd:IntKind} {A:Option Addr} {m c z l:Nat} {i:Int} {xs:List α} (hx:ev σ x = some (.slice (slA A c l z) (m - l) (c - l))) (hy:ev σ y = some (.int kd i)) (hf:eS L e' A m c xs ∈ η) (h0:decide (0 ≤ i) = true) (hi:inb xs ((l:Int) + i) = true) (ht:P.underlying t = some (.slice e)) (hz:sizeB P e = some z) :
    Det P C ⟨d,.indexAddr t x y,ty,pos,af,gd⟩ σ η ι (pAt A (((l:Int) + i).toNat * z)):=fun ρ w hρ hst=>by
  simp only [decide_eq_true_eq] at h0
  obtain ⟨_,h1⟩:=inb_spec hi
  obtain ⟨g,cur,cs,rfl,_,_,hmc,_,_,_,_,hm⟩:=hst.ownAt hf (by omega)
  have hcl:¬ c = l:=by omega
  have hA:slA (some ⟨g,0,none⟩) c l z = some ⟨g,l * z,none⟩:=by
    unfold slA
    rw [if_neg hcl]
    simp [Addr.add_at]
  rw [hA] at hx
  have e1:((l:Int) + i).toNat * z = l * z + i.toNat * z:=by
    rw [← Nat.add_mul]
    congr 1
    omega
  simp [execOp,hρ _ _ hx,hρ _ _ hy,run_index h0 (show i.toNat < m - l by omega) ht hz,pAt,Addr.add_at,e1]
theorem act_clearO {α:Type} {L:Lay α} {x:Operand} {t e:TypeId} {A:Option Addr} {m c l:Nat} {z:Value} {x0:α} {xs:List α} {F:Ent → List Ent} (hx:ev σ x = some (.slice (slA A c l L.size) (m - l) (c - l))) (hs:SwF η (eS L e A m c xs) F) (hl:l ≤ xs.length) (ht:P.underlying t = some (.slice e)) (hz:zeroB P e = some z) (hzo:zeroOk L z x0) (hsz:Nat.blt 0 L.size = true) :
    ActOk P C ⟨d,.call { callee:=.builtin .clear,args:=#[x],argTypes:=#[t] },ty,pos,af,gd⟩ σ η ι (fun _ θ κ=>θ = F (eS L e A m c (xs.take l ++ List.replicate (xs.length - l) x0)) ∧ κ = ι):=fun ρ w hρ hst=>by
  have hml:=hst.lenO hs.mem
  have hsz':0 < L.size:=by simpa [Nat.blt_eq] using hsz
  obtain ⟨q,hq,hqz⟩:=Option.bind_eq_some_iff.1 hz
  by_cases hlm:l = xs.length
  · have e0:m - l = 0:=by omega
    rw [e0] at hx
    have hr:(execOp ρ ⟨d,.call { callee:=.builtin .clear,args:=#[x],argTypes:=#[t] },ty,pos,af,gd⟩).run P w = .ok (.value (.tuple #[])) w:=by
      generalize slA A c l L.size = B at hx
      cases B <;> simp [execOp,resolve,invoke,builtin,hρ _ _ hx,Builtin.clear_,run_underlying ht]
    rw [hr]
    obtain ⟨θ₁,θ₂,h3,h4⟩:=hs (eS L e A m c xs)
    refine ⟨_,ι,⟨rfl,rfl⟩,?_⟩
    have e1:xs.take l ++ List.replicate (xs.length - l) x0 = xs:=by simp [hlm]
    rw [e1,h4,← h3]
    exact hst
  · have hlt:l < xs.length:=by omega
    obtain ⟨g,cur,cs,rfl,hc0,hg,hmc,hcm,hcs,htk,hcl,hm⟩:=hst.ownAt hs.mem (by omega)
    have hA:slA (some ⟨g,0,none⟩) c l L.size = some ⟨g,l * L.size,none⟩:=by
      unfold slA
      rw [if_neg (by omega)]
      simp [Addr.add_at]
    rw [hA] at hx
    obtain ⟨k,hk⟩:∃ k,m - l = k + 1:=⟨m - l - 1,by omega⟩
    have hcells:(Builtin.zeroCells z.cells (m - l)).toList = (List.replicate (m - l) z.cells.toList).flatten:=by
      have h1:=made_take (z:=z.cells) (m:=m - l) (c:=m - l) hzo.1 (Nat.le_refl _) hsz'
      rw [List.take_of_length_le (by simp [size_madeCells])] at h1
      rw [← h1,← hzo.1]
      rfl
    have hrep:Cells L w (Im C η w) (List.replicate (m - l) z.cells.toList).flatten (List.replicate (m - l) x0):=Cells.replicate (hzo.2 _ _) _
    have hlen:(List.replicate (m - l) z.cells.toList).flatten.length = (m - l) * L.size:=by rw [hrep.1]; simp
    have hle:l * L.size + (m - l) * L.size = m * L.size:=by rw [← Nat.add_mul]; congr 1; omega
    have hle2:m * L.size ≤ cur.size:=Nat.le_trans (Nat.mul_le_mul_right _ hmc) hcs
    have hst2:=run_storeCells_at (P:=P) g (l * L.size) e (List.replicate (m - l) z.cells.toList).flatten 0 cur w hg (by rw [hlen]; omega) hrep.ones
    simp only [Nat.add_zero,hlen] at hst2
    have hr:(execOp ρ ⟨d,.call { callee:=.builtin .clear,args:=#[x],argTypes:=#[t] },ty,pos,af,gd⟩).run P w = .ok (.value (.tuple #[])) (w.setRow g (cur.toList.take (l * L.size) ++ (List.replicate (m - l) z.cells.toList).flatten ++ cur.toList.drop (l * L.size + (m - l) * L.size)).toArray):=by
      rw [← hcells] at hst2 ⊢
      rw [hk] at hx hst2 ⊢
      simp [execOp,resolve,invoke,builtin,hρ _ _ hx,Builtin.clear_,run_underlying ht,zeroValue,typeInfo,hq,hqz,hst2]
    rw [hr]
    refine ⟨_,ι,⟨rfl,rfl⟩,hst.sw (hs _) rfl rfl ⟨rfl,Nat.le_refl _⟩ (by simp [World.setRow]) (fun b' _ hne=>?_) ?_ (fun b' h=>.inl ?_)⟩
    · rw [eS_block hc0] at hne
      exact setRow_same fun e=>hne (by rw [e])
    · refine ⟨by simp; omega,.inr ⟨hc0,_,⟨?_,.inr ⟨g,c,_,rfl,Nat.zero_le _,setRow_heap w g cur _ e _ hg,hmc,hcm,?_,rfl⟩⟩,?_⟩⟩
      · simp only [List.length_take,List.length_append,List.length_drop,Array.length_toList,hlen]
        omega
      · simp only [List.size_toArray,List.length_take,List.length_append,List.length_drop,Array.length_toList,hlen]
        omega
      · have hsame:Same (Im C η w) w (w.setRow g (cur.toList.take (l * L.size) ++ (List.replicate (m - l) z.cells.toList).flatten ++ cur.toList.drop (l * L.size + (m - l) * L.size)).toArray):=fun b hb=>setRow_same fun e=>hb.2.2 _ hs.mem (by rw [eS_block hc0,e])
        have e1:(cur.toList.take (l * L.size) ++ (List.replicate (m - l) z.cells.toList).flatten ++ cur.toList.drop (l * L.size + (m - l) * L.size)).take (m * L.size) = cs.take (l * L.size) ++ (List.replicate (m - l) z.cells.toList).flatten:=by
          have e2:(cur.toList.take (l * L.size) ++ (List.replicate (m - l) z.cells.toList).flatten).length = m * L.size:=by
            rw [List.length_append,hlen,List.length_take,Array.length_toList]
            omega
          rw [← e2,List.take_left,← htk,List.take_take,Nat.min_eq_left (by omega)]
        have hfin:=((hcl.take l hl).cat hrep).keep hsame
        rw [← e1,hm] at hfin
        simp only [hm]
        exact hfin
    · rw [eS_block hc0] at h ⊢
      exact h
theorem act_sliceOH {α:Type} {L:Lay α} {x y:Operand} {t e e':TypeId} {A:Option Addr} {m c z:Nat} {k:IntKind} {h:Int} {xs:List α} {θ:List Ent} (hx:ev σ x = some (.slice A m c)) (hy:ev σ y = some (.int k h)) (hs:Rem η (eS L e' A m c xs) θ) (ht:P.underlying t = some (.slice e)) (hz:sizeB P e = some z) (h0:decide (0 ≤ h) = true) (h1:decide (h ≤ (xs.length:Int)) = true) :
    ActOk P C ⟨d,.slice t x none (some y) none,ty,pos,af,gd⟩ σ η ι (fun v θ' κ=>v = .slice A (xs.take h.toNat).length c ∧ θ' = eS L e' A (xs.take h.toNat).length c (xs.take h.toNat) :: θ ∧ κ = ι):=fun ρ w hρ hst=>by
  simp only [decide_eq_true_eq] at h0 h1
  have hm:=hst.lenO hs.mem
  have hA:m ≤ c ∧ slA A c 0 z = A:=by
    unfold slA
    obtain ⟨hn,⟨h2,h3⟩ | ⟨hc0,cs,hk,_⟩⟩:=hst.ents _ hs.mem
    · subst h3
      rw [if_pos h2]
      exact ⟨by simp at hn; omega,rfl⟩
    · rcases hk.2 with ⟨h2,h3⟩ | ⟨g,cap,cur,h2,_,_,h3,_⟩
      · simp only [Value.slice.injEq] at h2
        exact absurd h2.2.2 hc0
      · simp only [Value.slice.injEq,true_and] at h2
        obtain ⟨rfl,rfl⟩:=h2
        rw [if_neg hc0]
        exact ⟨h3,by simp [Addr.add_at]⟩
  have hb:(Instr.sliceBounds true m c none (some (.int k h)) none).run P w = .ok (0,h.toNat,c) w:=by
    simp [Instr.sliceBounds,run_bound (P:=P) (w:=w) (k:=k) (y:=c) (code:=.sliceAcap) h0 (by omega)]
  have hlen:(xs.take h.toNat).length = h.toNat:=by rw [List.length_take]; omega
  have hrun:(execOp ρ ⟨d,.slice t x none (some y) none,ty,pos,af,gd⟩).run P w = .ok (.value (.slice A h.toNat c)) w:=by
    have h2:=run_slice_gen (A:=A) ht hz hb
    rw [hA.2] at h2
    simp [execOp,hρ _ _ hx,hρ _ _ hy,Instr.sliceAt,run_underlying ht,h2]
  rw [hrun,hlen]
  exact ⟨_,_,⟨rfl,rfl,rfl⟩,hst.truncS hs h.toNat (by omega)⟩
end
end Go.Proofs.YtdenliplkmjmjaaGreat
namespace Go.Proofs.YtdenliplkmjmjaaGreat
theorem na3:isAggB Tryz.prog 3 = false:=by kernel_rfl
theorem us3:(Tryz.prog.underlying 3).isSome = true:=by kernel_rfl
theorem sz3:sizeB Tryz.prog 3 = some 1:=by kernel_rfl
theorem un3:Tryz.prog.underlying 3 = some (.int .i64):=by kernel_rfl
theorem na4:isAggB Tryz.prog 4 = false:=by kernel_rfl
theorem us4:(Tryz.prog.underlying 4).isSome = true:=by kernel_rfl
theorem sz4:sizeB Tryz.prog 4 = some 1:=by kernel_rfl
theorem na22:isAggB Tryz.prog 22 = false:=by kernel_rfl
theorem us22:(Tryz.prog.underlying 22).isSome = true:=by kernel_rfl
theorem sz22:sizeB Tryz.prog 22 = some 1:=by kernel_rfl
theorem un22:Tryz.prog.underlying 22 = some (.slice 3):=by kernel_rfl
theorem na23:isAggB Tryz.prog 23 = false:=by kernel_rfl
theorem us23:(Tryz.prog.underlying 23).isSome = true:=by kernel_rfl
theorem sz23:sizeB Tryz.prog 23 = some 1:=by kernel_rfl
theorem un23:Tryz.prog.underlying 23 = some (.slice 52):=by kernel_rfl
theorem ag25:isAggB Tryz.prog 25 = true:=by kernel_rfl
theorem fd25_0:fieldB Tryz.prog 25 0 = some (0,1):=by kernel_rfl
theorem fd25_1:fieldB Tryz.prog 25 1 = some (1,1):=by kernel_rfl
theorem pl25:placesB Tryz.prog 25 = some [(0,1),(1,1)]:=by kernel_rfl
theorem sz25:sizeB Tryz.prog 25 = some 2:=by kernel_rfl
theorem un29:Tryz.prog.underlying 29 = some (.slice 43):=by kernel_rfl
theorem ag32:isAggB Tryz.prog 32 = true:=by kernel_rfl
theorem fd32_0:fieldB Tryz.prog 32 0 = some (0,1):=by kernel_rfl
theorem fd32_1:fieldB Tryz.prog 32 1 = some (1,1):=by kernel_rfl
theorem pl32:placesB Tryz.prog 32 = some [(0,1),(1,1)]:=by kernel_rfl
theorem sz32:sizeB Tryz.prog 32 = some 2:=by kernel_rfl
theorem na33:isAggB Tryz.prog 33 = false:=by kernel_rfl
theorem us33:(Tryz.prog.underlying 33).isSome = true:=by kernel_rfl
theorem un33:Tryz.prog.underlying 33 = some (.slice 74):=by kernel_rfl
theorem ag35:isAggB Tryz.prog 35 = true:=by kernel_rfl
theorem fd35_0:fieldB Tryz.prog 35 0 = some (0,1):=by kernel_rfl
theorem fd35_1:fieldB Tryz.prog 35 1 = some (1,1):=by kernel_rfl
theorem fd35_2:fieldB Tryz.prog 35 2 = some (2,2):=by kernel_rfl
theorem fd35_3:fieldB Tryz.prog 35 3 = some (4,1):=by kernel_rfl
theorem fd35_4:fieldB Tryz.prog 35 4 = some (5,1):=by kernel_rfl
theorem fd35_5:fieldB Tryz.prog 35 5 = some (6,1):=by kernel_rfl
theorem fd35_6:fieldB Tryz.prog 35 6 = some (7,1):=by kernel_rfl
theorem fd35_7:fieldB Tryz.prog 35 7 = some (8,1):=by kernel_rfl
theorem fd35_8:fieldB Tryz.prog 35 8 = some (9,1):=by kernel_rfl
theorem fd35_9:fieldB Tryz.prog 35 9 = some (10,1):=by kernel_rfl
theorem fd35_10:fieldB Tryz.prog 35 10 = some (11,1):=by kernel_rfl
theorem fd35_11:fieldB Tryz.prog 35 11 = some (12,1):=by kernel_rfl
theorem fd35_12:fieldB Tryz.prog 35 12 = some (13,1):=by kernel_rfl
theorem fd35_13:fieldB Tryz.prog 35 13 = some (14,1):=by kernel_rfl
theorem fd35_14:fieldB Tryz.prog 35 14 = some (15,1):=by kernel_rfl
theorem fd35_15:fieldB Tryz.prog 35 15 = some (16,1):=by kernel_rfl
theorem fd35_16:fieldB Tryz.prog 35 16 = some (17,1):=by kernel_rfl
theorem fd35_17:fieldB Tryz.prog 35 17 = some (18,1):=by kernel_rfl
theorem fd35_18:fieldB Tryz.prog 35 18 = some (19,1):=by kernel_rfl
theorem fd35_19:fieldB Tryz.prog 35 19 = some (20,1):=by kernel_rfl
theorem pl35:placesB Tryz.prog 35 = some [(0,1),(1,1),(2,2),(4,1),(5,1),(6,1),(7,1),(8,1),(9,1),(10,1),(11,1),(12,1),(13,1),(14,1),(15,1),(16,1),(17,1),(18,1),(19,1),(20,1)]:=by kernel_rfl
theorem sz35:sizeB Tryz.prog 35 = some 21:=by kernel_rfl
theorem ag43:isAggB Tryz.prog 43 = true:=by kernel_rfl
theorem fd43_0:fieldB Tryz.prog 43 0 = some (0,1):=by kernel_rfl
theorem fd43_1:fieldB Tryz.prog 43 1 = some (1,1):=by kernel_rfl
theorem fd43_2:fieldB Tryz.prog 43 2 = some (2,1):=by kernel_rfl
theorem fd43_3:fieldB Tryz.prog 43 3 = some (3,1):=by kernel_rfl
theorem fd43_4:fieldB Tryz.prog 43 4 = some (4,1):=by kernel_rfl
theorem eq43:eqOkB Tryz.prog 43 5 = true:=by kernel_rfl
theorem pl43:placesB Tryz.prog 43 = some [(0,1),(1,1),(2,1),(3,1),(4,1)]:=by kernel_rfl
theorem sz43:sizeB Tryz.prog 43 = some 5:=by kernel_rfl
theorem ag52:isAggB Tryz.prog 52 = true:=by kernel_rfl
theorem fd52_0:fieldB Tryz.prog 52 0 = some (0,1):=by kernel_rfl
theorem fd52_1:fieldB Tryz.prog 52 1 = some (1,1):=by kernel_rfl
theorem fd52_2:fieldB Tryz.prog 52 2 = some (2,5):=by kernel_rfl
theorem pl52:placesB Tryz.prog 52 = some [(0,1),(1,1),(2,5)]:=by kernel_rfl
theorem sz52:sizeB Tryz.prog 52 = some 7:=by kernel_rfl
theorem na63:isAggB Tryz.prog 63 = false:=by kernel_rfl
theorem us63:(Tryz.prog.underlying 63).isSome = true:=by kernel_rfl
theorem um63:Tryz.prog.underlying 63 = some (.map 65 3):=by kernel_rfl
theorem ag65:isAggB Tryz.prog 65 = true:=by kernel_rfl
theorem fd65_0:fieldB Tryz.prog 65 0 = some (0,1):=by kernel_rfl
theorem fd65_1:fieldB Tryz.prog 65 1 = some (1,1):=by kernel_rfl
theorem fd65_2:fieldB Tryz.prog 65 2 = some (2,1):=by kernel_rfl
theorem fd65_3:fieldB Tryz.prog 65 3 = some (3,1):=by kernel_rfl
theorem eq65:eqOkB Tryz.prog 65 4 = true:=by kernel_rfl
theorem pl65:placesB Tryz.prog 65 = some [(0,1),(1,1),(2,1),(3,1)]:=by kernel_rfl
theorem sz65:sizeB Tryz.prog 65 = some 4:=by kernel_rfl
theorem um67:Tryz.prog.underlying 67 = some (.map 70 3):=by kernel_rfl
theorem fd70_0:fieldB Tryz.prog 70 0 = some (0,1):=by kernel_rfl
theorem fd70_1:fieldB Tryz.prog 70 1 = some (1,1):=by kernel_rfl
theorem eq70:eqOkB Tryz.prog 70 2 = true:=by kernel_rfl
theorem pl70:placesB Tryz.prog 70 = some [(0,1),(1,1)]:=by kernel_rfl
theorem sz70:sizeB Tryz.prog 70 = some 2:=by kernel_rfl
theorem ag74:isAggB Tryz.prog 74 = true:=by kernel_rfl
theorem fd74_0:fieldB Tryz.prog 74 0 = some (0,1):=by kernel_rfl
theorem fd74_1:fieldB Tryz.prog 74 1 = some (1,1):=by kernel_rfl
theorem pl74:placesB Tryz.prog 74 = some [(0,1),(1,1)]:=by kernel_rfl
theorem sz74:sizeB Tryz.prog 74 = some 2:=by kernel_rfl
theorem fd79_0:fieldB Tryz.prog 79 0 = some (0,2):=by kernel_rfl
theorem fd79_1:fieldB Tryz.prog 79 1 = some (2,1):=by kernel_rfl
theorem pl79:placesB Tryz.prog 79 = some [(0,2),(2,1)]:=by kernel_rfl
theorem sz79:sizeB Tryz.prog 79 = some 3:=by kernel_rfl
theorem fd84_0:fieldB Tryz.prog 84 0 = some (0,1):=by kernel_rfl
theorem fd84_1:fieldB Tryz.prog 84 1 = some (1,1):=by kernel_rfl
theorem pl84:placesB Tryz.prog 84 = some [(0,1),(1,1)]:=by kernel_rfl
theorem um90:Tryz.prog.underlying 90 = some (.map 43 3):=by kernel_rfl
theorem na96:isAggB Tryz.prog 96 = false:=by kernel_rfl
theorem us96:(Tryz.prog.underlying 96).isSome = true:=by kernel_rfl
theorem sz96:sizeB Tryz.prog 96 = some 1:=by kernel_rfl
theorem un96:Tryz.prog.underlying 96 = some (.slice 65):=by kernel_rfl
theorem un109:Tryz.prog.underlying 109 = some (.int .u64):=by kernel_rfl
theorem na134:isAggB Tryz.prog 134 = false:=by kernel_rfl
theorem us134:(Tryz.prog.underlying 134).isSome = true:=by kernel_rfl
theorem sz134:sizeB Tryz.prog 134 = some 1:=by kernel_rfl
theorem un134:Tryz.prog.underlying 134 = some (.int .u64):=by kernel_rfl
theorem ag135:isAggB Tryz.prog 135 = true:=by kernel_rfl
theorem sz135:sizeB Tryz.prog 135 = some 11:=by kernel_rfl
theorem un135:Tryz.prog.underlying 135 = some (.array 11 3):=by kernel_rfl
theorem ag137:isAggB Tryz.prog 137 = true:=by kernel_rfl
theorem fd137_0:fieldB Tryz.prog 137 0 = some (0,1):=by kernel_rfl
theorem fd137_1:fieldB Tryz.prog 137 1 = some (1,1):=by kernel_rfl
theorem eq137:eqOkB Tryz.prog 137 2 = true:=by kernel_rfl
theorem pl137:placesB Tryz.prog 137 = some [(0,1),(1,1)]:=by kernel_rfl
theorem sz137:sizeB Tryz.prog 137 = some 2:=by kernel_rfl
theorem ag139:isAggB Tryz.prog 139 = true:=by kernel_rfl
theorem sz139:sizeB Tryz.prog 139 = some 22:=by kernel_rfl
theorem un139:Tryz.prog.underlying 139 = some (.array 11 137):=by kernel_rfl
theorem na153:isAggB Tryz.prog 153 = false:=by kernel_rfl
theorem us153:(Tryz.prog.underlying 153).isSome = true:=by kernel_rfl
theorem sz153:sizeB Tryz.prog 153 = some 1:=by kernel_rfl
theorem un153:Tryz.prog.underlying 153 = some (.slice 134):=by kernel_rfl
theorem in3:(Tryz.prog.info? 3).map (fun i=>(i.zero,i.size,i.bytes)) = some (some (.int .i64 0),1,8):=by kernel_rfl
theorem zr3:zeroB Tryz.prog 3 = some (.int .i64 0):=by kernel_rfl
theorem zr25:zeroB Tryz.prog 25 = some (.agg #[.int .i64 0,.slice none 0 0]):=by kernel_rfl
theorem zr32:zeroB Tryz.prog 32 = some (.agg #[.int .i64 0,.int .i64 0]):=by kernel_rfl
theorem zr35:zeroB Tryz.prog 35 = some (.agg #[.int .i64 0,.int .i64 0,.int .i64 0,.int .i64 0,.slice none 0 0,.slice none 0 0,.int .i64 0,.int .i64 0,.int .i64 0,.int .i64 0,.int .i64 0,.int .i64 0,.int .i64 0,.int .i64 0,.int .i64 0,.int .i64 0,.slice none 0 0,.bool false,.int .i64 0,.slice none 0 0,.slice none 0 0]):=by kernel_rfl
theorem in43:(Tryz.prog.info? 43).map (fun i=>(i.zero,i.size,i.bytes)) = some (some (.agg #[.int .i64 0,.int .i64 0,.int .i64 0,.int .i64 0,.int .i64 0]),5,40):=by kernel_rfl
theorem zr43:zeroB Tryz.prog 43 = some (.agg #[.int .i64 0,.int .i64 0,.int .i64 0,.int .i64 0,.int .i64 0]):=by kernel_rfl
theorem in52:(Tryz.prog.info? 52).map (fun i=>(i.zero,i.size,i.bytes)) = some (some (.agg #[.int .i64 0,.int .i64 0,.int .i64 0,.int .i64 0,.int .i64 0,.int .i64 0,.int .i64 0]),7,56):=by kernel_rfl
theorem zr52:zeroB Tryz.prog 52 = some (.agg #[.int .i64 0,.int .i64 0,.int .i64 0,.int .i64 0,.int .i64 0,.int .i64 0,.int .i64 0]):=by kernel_rfl
theorem in65:(Tryz.prog.info? 65).map (fun i=>(i.zero,i.size,i.bytes)) = some (some (.agg #[.int .i64 0,.int .i64 0,.int .i64 0,.int .i64 0]),4,32):=by kernel_rfl
theorem zr65:zeroB Tryz.prog 65 = some (.agg #[.int .i64 0,.int .i64 0,.int .i64 0,.int .i64 0]):=by kernel_rfl
theorem zr70:zeroB Tryz.prog 70 = some (.agg #[.int .i64 0,.int .i64 0]):=by kernel_rfl
theorem in74:(Tryz.prog.info? 74).map (fun i=>(i.zero,i.size,i.bytes)) = some (some (.agg #[.int .i64 0,.int .i64 0]),2,16):=by kernel_rfl
theorem zr74:zeroB Tryz.prog 74 = some (.agg #[.int .i64 0,.int .i64 0]):=by kernel_rfl
theorem zr79:zeroB Tryz.prog 79 = some (.agg #[.int .i64 0,.slice none 0 0,.slice none 0 0]):=by kernel_rfl
theorem zr84:zeroB Tryz.prog 84 = some (.agg #[.slice none 0 0,.int .i64 0]):=by kernel_rfl
theorem in134:(Tryz.prog.info? 134).map (fun i=>(i.zero,i.size,i.bytes)) = some (some (.int .u64 0),1,8):=by kernel_rfl
theorem zr135:zeroB Tryz.prog 135 = some (.agg #[.int .i64 0,.int .i64 0,.int .i64 0,.int .i64 0,.int .i64 0,.int .i64 0,.int .i64 0,.int .i64 0,.int .i64 0,.int .i64 0,.int .i64 0]):=by kernel_rfl
theorem zr137:zeroB Tryz.prog 137 = some (.agg #[.int .i64 0,.int .i64 0]):=by kernel_rfl
theorem zr139:zeroB Tryz.prog 139 = some (.agg #[.int .i64 0,.int .i64 0,.int .i64 0,.int .i64 0,.int .i64 0,.int .i64 0,.int .i64 0,.int .i64 0,.int .i64 0,.int .i64 0,.int .i64 0,.int .i64 0,.int .i64 0,.int .i64 0,.int .i64 0,.int .i64 0,.int .i64 0,.int .i64 0,.int .i64 0,.int .i64 0,.int .i64 0,.int .i64 0]):=by kernel_rfl
theorem zr153:zeroB Tryz.prog 153 = some (.slice none 0 0):=by kernel_rfl
theorem mixed:Tryz.prog.follows .mixedOrders = true:=by kernel_rfl
end Go.Proofs.YtdenliplkmjmjaaGreat
namespace Go.Proofs.YtdenliplkmjmjaaGreat
open Go.RowKit
section
variable {P:Program} {C:Cx} {σ:List (Nat × Value)} {η:List Ent} {ι:List Fact}
variable {d:Option Tmp} {ty:TypeId} {pos:String} {af:Array Edge} {gd:Option (Nat × Bool)}
def aC {α:Type} (enc:α → List Value) (xs:List α):List Value:=xs.flatMap enc
theorem aC_len {α:Type} {enc:α → List Value} {z:Nat} (hl:∀ x,(enc x).length = z):∀ xs:List α,(aC enc xs).length = xs.length * z
  | []=>by simp [aC]
  | x :: t=>by
    have ih:=aC_len hl t
    simp only [aC,List.flatMap_cons,List.length_append,List.length_cons,hl] at ih ⊢
    rw [ih,Nat.add_mul,Nat.one_mul,Nat.add_comm]
theorem aC_part {α:Type} {enc:α → List Value} {z:Nat} (hl:∀ x,(enc x).length = z):∀ (xs:List α) (i:Nat) (h:i < xs.length),aC enc xs = aC enc (xs.take i) ++ (enc xs[i] ++ aC enc (xs.drop (i + 1))) ∧ (aC enc (xs.take i)).length = i * z:=fun xs i h=>by
  refine ⟨?_,by rw [aC_len hl,List.length_take,Nat.min_eq_left (by omega)]⟩
  have e:xs = xs.take i ++ xs[i] :: xs.drop (i + 1):=by rw [← List.drop_eq_getElem_cons h,List.take_append_drop]
  unfold aC
  conv=>lhs; rw [e,List.flatMap_append,List.flatMap_cons]
theorem ixA_eq {α:Type} [Inhabited α] {xs:List α} {i:Int} (h:inb xs i = true):∃ h:i.toNat < xs.length,ix xs i = xs[i.toNat]:=by
  obtain ⟨h0,h1⟩:=inb_spec h
  exact ⟨h1,by simp [ix,h1]⟩
theorem aC_get {α:Type} [Inhabited α] {enc:α → List Value} {z o:Nat} {xs:List α} {i:Int} {v:Value} (hl:∀ x,(enc x).length = z) (hi:inb xs i = true) (hv:(enc (ix xs i))[o]? = some v):(aC enc xs)[i.toNat * z + o]? = some v:=by
  obtain ⟨h,e⟩:=ixA_eq hi
  obtain ⟨h1,h2⟩:=aC_part hl xs i.toNat h
  have ho:o < (enc xs[i.toNat]).length:=by
    rw [e] at hv
    exact (List.getElem?_eq_some_iff.1 hv).1
  rw [h1,List.getElem?_append_right (by omega),h2,Nat.add_sub_cancel_left,List.getElem?_append_left ho,← e]
  exact hv
theorem aC_cut {α:Type} [Inhabited α] {enc:α → List Value} {z o:Nat} {xs:List α} {i:Int} {cells:List Value} (hl:∀ x,(enc x).length = z) (hi:inb xs i = true) (hv:((enc (ix xs i)).drop o).take cells.length = cells) (ho:Nat.ble (o + cells.length) z = true):((aC enc xs).drop (i.toNat * z + o)).take cells.length = cells:=by
  obtain ⟨h,e⟩:=ixA_eq hi
  obtain ⟨h1,h2⟩:=aC_part hl xs i.toNat h
  have ho:=Nat.le_of_ble_eq_true ho
  have hz:=hl xs[i.toNat]
  have ha:∀ (A E T:List Value),A.length = i.toNat * z → E.length = z → ((A ++ (E ++ T)).drop (i.toNat * z + o)).take cells.length = (E.drop o).take cells.length:=by
    intro A E T hA hE
    rw [List.drop_append,hA,List.drop_eq_nil_of_le (by omega),List.nil_append,Nat.add_sub_cancel_left,List.drop_append_of_le_length (by omega),List.take_append_of_le_length (by rw [List.length_drop]; omega)]
  rw [h1,ha _ _ _ h2 hz,← e]
  exact hv
theorem aC_set {α:Type} [Inhabited α] {enc:α → List Value} {z o:Nat} {xs:List α} {i:Int} {cells:List Value} {x':α} (hl:∀ x,(enc x).length = z) (hi:inb xs i = true) (ho:Nat.ble (o + cells.length) z = true) (hv:(enc (ix xs i)).take o ++ cells ++ (enc (ix xs i)).drop (o + cells.length) = enc x') :
    (aC enc xs).take (i.toNat * z + o) ++ cells ++ (aC enc xs).drop (i.toNat * z + o + cells.length) = aC enc (upd xs i x'):=by
  obtain ⟨h,e⟩:=ixA_eq hi
  obtain ⟨h1,h2⟩:=aC_part hl xs i.toNat h
  have ho:=Nat.le_of_ble_eq_true ho
  have hz:=hl xs[i.toNat]
  have e3:aC enc (upd xs i x') = aC enc (xs.take i.toNat) ++ (enc x' ++ aC enc (xs.drop (i.toNat + 1))):=by
    have:upd xs i x' = xs.take i.toNat ++ x' :: xs.drop (i.toNat + 1):=by
      unfold upd
      rw [List.set_eq_take_append_cons_drop,if_pos h]
    rw [this]
    simp [aC]
  rw [e3,← hv,e,h1]
  have ha:∀ (A E T:List Value),A.length = i.toNat * z → E.length = z → (A ++ (E ++ T)).take (i.toNat * z + o) ++ cells ++ (A ++ (E ++ T)).drop (i.toNat * z + o + cells.length) = A ++ ((E.take o ++ cells ++ E.drop (o + cells.length)) ++ T):=by
    intro A E T hA hE
    rw [List.take_append,List.drop_append,hA,List.take_of_length_le (by omega),List.drop_eq_nil_of_le (by omega),Nat.add_sub_cancel_left,Nat.add_assoc,Nat.add_sub_cancel_left,List.take_append_of_le_length (by omega),List.drop_append_of_le_length (by omega)]
    simp
  exact ha _ _ _ h2 hz
theorem aC_le {α:Type} {enc:α → List Value} {z o k:Nat} {xs:List α} {i:Int} (hl:∀ x,(enc x).length = z) (hi:inb xs i = true) (ho:Nat.ble (o + k) z = true):i.toNat * z + o + k ≤ (aC enc xs).length:=by
  obtain ⟨_,h1⟩:=inb_spec hi
  have ho:=Nat.le_of_ble_eq_true ho
  rw [aC_len hl]
  have:=Nat.mul_le_mul_right z (show i.toNat + 1 ≤ xs.length by omega)
  rw [Nat.add_mul,Nat.one_mul] at this
  omega
theorem aC_ones {α:Type} {enc:α → List Value} (h1:∀ x,∀ u ∈ enc x,u.oneCell' = true):∀ xs:List α,Ones (aC enc xs):=fun xs=>by
  have:∀ l:List Value,(∀ u ∈ l,u.oneCell' = true) → Ones l:=fun l=>by
    induction l with
    | nil=>intro _; trivial
    | cons x t ih=>intro h; exact ⟨h x (by simp),ih fun u hu=>h u (List.mem_cons_of_mem _ hu)⟩
  refine this _ fun u hu=>?_
  obtain ⟨x,_,hx⟩:=List.mem_flatMap.1 hu
  exact h1 x u hx
theorem sz_aC {α:Type} {enc:α → List Value} {z n k:Nat} {t:TypeId} {xs:List α} (hs:sizeB P t = some k) (hl:∀ x,(enc x).length = z) (hn:decide (xs.length = n) = true) (hk:Nat.beq (n * z) k = true):sizeB P t = some (aC enc xs).length:=by
  rw [aC_len hl,hs]
  simp only [decide_eq_true_eq] at hn
  rw [hn,Nat.eq_of_beq_eq_true hk]
theorem aC_over {α:Type} {enc:α → List Value} {z n:Nat} {xs ys:List α} (hl:∀ x,(enc x).length = z) (hx:decide (xs.length = n) = true) (hy:decide (ys.length = n) = true):(aC enc xs).take 0 ++ aC enc ys ++ (aC enc xs).drop (0 + (aC enc ys).length) = aC enc ys:=by
  simp only [decide_eq_true_eq] at hx hy
  rw [List.drop_eq_nil_of_le (by rw [Nat.zero_add,aC_len hl,aC_len hl,hx,hy]; exact Nat.le_refl _)]
  simp
theorem aC_fits {α:Type} {enc:α → List Value} {z n:Nat} {xs ys:List α} (hl:∀ x,(enc x).length = z) (hx:decide (xs.length = n) = true) (hy:decide (ys.length = n) = true):0 + (aC enc ys).length ≤ (aC enc xs).length:=by
  simp only [decide_eq_true_eq] at hx hy
  rw [Nat.zero_add,aC_len hl,aC_len hl,hx,hy]
  exact Nat.le_refl _
theorem aC_whole {l:List Value}:(l.drop 0).take l.length = l:=by simp
theorem det_indexA {x y:Operand} {t e:TypeId} {kd:IntKind} {b n z:Nat} {i:Int} (hx:ev σ x = some (.pointer (some ⟨b,0,none⟩))) (hy:ev σ y = some (.int kd i)) (h0:decide (0 ≤ i) = true) (h1:decide (i < (n:Int)) = true) (ht:P.underlying t = some (.array n e)) (hz:sizeB P e = some z) :
    Det P C ⟨d,.indexAddr t x y,ty,pos,af,gd⟩ σ η ι (.pointer (some ⟨b,i.toNat * z,none⟩)):=fun ρ w hρ _=>by
  simp only [decide_eq_true_eq] at h0 h1
  obtain ⟨q,hq,rfl⟩:∃ q,P.info? e = some q ∧ q.size = z:=by simpa [sizeB] using hz
  simp [execOp,hρ _ _ hx,hρ _ _ hy,Instr.indexAt,asIntOf,run_underlying ht,Instr.sureAddr,h0,h1,Go.sizeOf,typeInfo,hq,Addr.add_at]
end
end Go.Proofs.YtdenliplkmjmjaaGreat
namespace Go.Proofs.YtdenliplkmjmjaaGreat
open Go.RowKit
def fillA (z:Nat):List Value → List (Nat × Value) → Option (List Value)
  | zs,[]=>some zs
  | zs,(i,v) :: r=>bif Nat.beq v.cells.size z && Nat.ble (i * z + z) zs.length then fillA z (putL zs (i * z) v.cells.toList) r else none
theorem fillA_eq {z:Nat}:∀ {ps:List (Nat × Value)} {zs cs:List Value},fillA z zs ps = some cs → Instr.fill (fun i=>some (i * z,z)) zs.toArray ps = some cs.toArray
  | [],zs,cs,h=>by
    simp only [fillA,Option.some.injEq] at h
    subst h
    rfl
  | (i,v) :: r,zs,cs,h=>by
    unfold fillA at h
    cases hb:(Nat.beq v.cells.size z && Nat.ble (i * z + z) zs.length) with
    | false=>simp only [hb] at h; cases h
    | true =>
      simp only [hb,cond_true] at h
      rw [Bool.and_eq_true] at hb
      have h1:=Nat.eq_of_beq_eq_true hb.1
      have h2:=Nat.le_of_ble_eq_true hb.2
      have ih:=fillA_eq h
      have hpl:=putL_eq v.cells.toList zs (i * z) 0
      unfold Instr.fill
      dsimp only
      rw [if_neg (by simp; omega)]
      have hz:Array.foldl (fun (cs:Array Value) (x:Value × Nat)=>cs.setIfInBounds (i * z + x.2) x.1) zs.toArray v.cells.zipIdx = (putL zs (i * z) v.cells.toList).toArray:=by
        rw [← Array.foldl_toList,Array.toList_zipIdx]
        exact hpl
      rw [show (Array.foldl (fun cs x=>match x with | (c,j)=>cs.setIfInBounds (i * z + j) c) zs.toArray v.cells.zipIdx) = (putL zs (i * z) v.cells.toList).toArray from hz]
      exact ih
section
variable {P:Program} {C:Cx} {σ:List (Nat × Value)} {η:List Ent} {ι:List Fact}
variable {d:Option Tmp} {ty:TypeId} {pos:String} {af:Array Edge} {gd:Option (Nat × Bool)}
theorem det_buildA {t e:TypeId} {n z:Nat} {zv:Value} {zs cs:List Value} {ps:List (Nat × Operand)} {vs:List (Nat × Value)} (ht:P.underlying t = some (.array n e)) (hs:sizeB P e = some z) (hz:zeroB P t = some zv) (hc:zv.cells = zs.toArray) (hv:evParts σ ps = some vs) (hf:fillA z zs vs = some cs) :
    Det P C ⟨d,.build t ps.toArray,ty,pos,af,gd⟩ σ η ι (.agg cs.toArray):=fun ρ w hρ _=>by
  have hm:=evParts_map hρ hv
  obtain ⟨i,hi,hiz⟩:=Option.bind_eq_some_iff.1 hz
  obtain ⟨q,hq,rfl⟩:∃ q,P.info? e = some q ∧ q.size = z:=by simpa [sizeB] using hs
  have hfill:=fillA_eq hf
  have e0:(ps.toArray.map fun p=>(p.1,ρ p.2)) = vs.toArray:=by rw [List.map_toArray,hm]
  have e':(ps.toArray.map fun (p:Nat × Operand)=>match p with | (i,x)=>(i,ρ x)) = vs.toArray:=e0
  simp only [execOp,e']
  simp [Instr.build,zeroValue,typeInfo,hi,hiz,hc,run_underlying ht,Go.sizeOf,hq,hfill]
theorem det_indexAV {α:Type} [Inhabited α] {enc:α → List Value} {x y:Operand} {t e:TypeId} {kd:IntKind} {n:Nat} {i:Int} {xs:List α} {v:Value} (hl:∀ x,(enc x).length = 1) (hx:ev σ x = some (.agg (aC enc xs).toArray)) (hy:ev σ y = some (.int kd i)) (h0:decide (0 ≤ i) = true) (h1:decide (i < (n:Int)) = true) (hi:inb xs i = true) (hv:(enc (ix xs i))[0]? = some v) (ht:P.underlying t = some (.array n e)) (hs:sizeB P e = some 1) (ha:isAggB P e = false) (hu:(P.underlying e).isSome = true) :
    Det P C ⟨d,.index t x y,ty,pos,af,gd⟩ σ η ι v:=fun ρ w hρ _=>by
  simp only [decide_eq_true_eq] at h0 h1
  obtain ⟨q,hq,hq1⟩:∃ q,P.info? e = some q ∧ q.size = 1:=by simpa [sizeB] using hs
  have hg:=aC_get (enc:=enc) (z:=1) (o:=0) hl hi hv
  simp only [Nat.mul_one,Nat.add_zero] at hg
  obtain ⟨dd,hd⟩:=Option.isSome_iff_exists.1 hu
  simp only [isAggB,hd] at ha
  have h2:(isAgg e).run P w = .ok false w:=by
    simp only [isAgg,Sem.run_bind,run_underlying hd,Result.andThen_ok]
    cases dd <;> simp_all
  simp [execOp,hρ _ _ hx,hρ _ _ hy,Instr.index,asIntOf,run_underlying ht,h0,h1,part,h2,Go.sizeOf,typeInfo,hq,hq1,hg]
end
end Go.Proofs.YtdenliplkmjmjaaGreat
namespace Go.Proofs.YtdenliplkmjmjaaGreat
open Go.RowKit
section
variable {P:Program} {w:World}
variable {C:Cx} {σ:List (Nat × Value)} {η:List Ent} {ι:List Fact}
variable {d:Option Tmp} {ty:TypeId} {pos:String} {af:Array Edge} {gd:Option (Nat × Bool)}
end
end Go.Proofs.YtdenliplkmjmjaaGreat
namespace Go.Proofs.YtdenliplkmjmjaaGreat
open Go.RowKit
open Go.ChangeMaps (setBlock)
structure KeyOk (P:Program) (kt:TypeId) {K:Type} [DecidableEq K] (encK:K → Value):Prop where
  check:∀ (e:Bool) (x:K) (w:World),(Instr.checkKey e 10000 kt (encK x)).run P w = .ok () w
  eq:∀ (x y:K) (w:World),(Op.equal kt (encK x) (encK y)).run P w = .ok (decide (x = y)) w
  now:∃ d,P.underlying kt = some d ∧ ∀ x y:K,Instr.sameNow d (encK x) (encK y) = none ∨ Instr.sameNow d (encK x) (encK y) = some (decide (x = y))
  bits:∀ x:K,Instr.sameBits 10000 (encK x) (encK x) = true
section
variable {K V:Type} [DecidableEq K] {P:Program} {kt:TypeId} {encK:K → Value} {encV:V → Value} {w:World}
def kv (e:MapEntry):Value × Value:=(e.key,e.val)
def ans (encV:V → Value) (m:List (K × V)) (x:K) (i:Nat):Option (Nat × Value):=(mfi m x).bind fun j=>(m[j]?).map fun p=>(i + j,encV p.2)
theorem ans_cons {p:K × V} {m:List (K × V)} {x:K} {i:Nat}:ans encV (p :: m) x i = if p.1 = x then some (i,encV p.2) else ans encV m x (i + 1):=by
  by_cases hp:p.1 = x
  · simp [ans,mfi,hp]
  · cases h:mfi m x with
    | none=>simp [ans,mfi,hp,h]
    | some j=>simp [ans,mfi,hp,h,show i + (j + 1) = i + 1 + j by omega]
theorem qahc (hk:KeyOk P kt encK) (x:K):∀ (es:List MapEntry) (m:List (K × V)) (i:Nat),es.map kv = m.map (fun p=>(encK p.1,encV p.2)) → (Instr.findAsking kt (encK x) es i).run P w = .ok (ans encV m x i) w
  | [],[],i,_=>by simp [Instr.findAsking,ans,mfi]
  | [],_ :: _,i,h=>by simp at h
  | _ :: _,[],i,h=>by simp at h
  | e :: es,p :: m,i,h=>by
    simp only [List.map_cons,List.cons.injEq,kv,Prod.mk.injEq] at h
    obtain ⟨⟨h1,h2⟩,h3⟩:=h
    unfold Instr.findAsking
    rw [h1]
    simp only [Sem.run_bind,hk.eq,Result.andThen_ok]
    rw [ans_cons]
    by_cases hx:x = p.1
    · simp [hx,h2]
    · have hx':¬ p.1 = x:=fun e=>hx e.symm
      simp only [hx,decide_false,Bool.false_eq_true,if_false,hx']
      exact qahc hk x es m (i + 1) h3
theorem findNow_run {d:TypeDesc} (hk:∀ x y:K,Instr.sameNow d (encK x) (encK y) = none ∨ Instr.sameNow d (encK x) (encK y) = some (decide (x = y))) (x:K):∀ (es:List MapEntry) (m:List (K × V)) (i:Nat),es.map kv = m.map (fun p=>(encK p.1,encV p.2)) → Instr.findNow d (encK x) es i = none ∨ Instr.findNow d (encK x) es i = some (ans encV m x i)
  | [],[],i,_=>by simp [Instr.findNow,ans,mfi]
  | [],_ :: _,i,h=>by simp at h
  | _ :: _,[],i,h=>by simp at h
  | e :: es,p :: m,i,h=>by
    simp only [List.map_cons,List.cons.injEq,kv,Prod.mk.injEq] at h
    obtain ⟨⟨h1,h2⟩,h3⟩:=h
    unfold Instr.findNow
    rw [h1,ans_cons]
    rcases hk x p.1 with h0 | h0
    · rw [h0]; exact .inl rfl
    · rw [h0]
      by_cases hx:x = p.1
      · simp [hx,h2]
      · have hx':¬ p.1 = x:=fun e=>hx e.symm
        simp only [hx,decide_false,hx',if_false]
        exact findNow_run hk x es m (i + 1) h3
theorem findKey_run (hk:KeyOk P kt encK) (x:K) {es:List MapEntry} {m:List (K × V)} (h:es.map kv = m.map (fun p=>(encK p.1,encV p.2))):(Instr.findKey kt (encK x) es).run P w = .ok (ans encV m x 0) w:=by
  obtain ⟨d,hd,hn⟩:=hk.now
  unfold Instr.findKey
  simp only [Sem.run_bind,run_underlying hd,Result.andThen_ok]
  rcases findNow_run (encV:=encV) hn x es m 0 h with h1 | h1
  · rw [h1]
    exact qahc hk x es m 0 h
  · rw [h1]
    simp
end
def encKI (x:Int):Value:=.int .i64 x
structure Rep {K V:Type} (encK:K → Value) (encV:V → Value) (es:Array MapEntry) (clock:Nat) (m:List (K × V)):Prop where
  kvs:es.toList.map kv = m.map (fun p=>(encK p.1,encV p.2))
  born:(es.toList.map (·.born)).Nodup
  old:∀ e ∈ es.toList,e.born < clock
def eM {K V:Type} (encK:K → Value) (encV:V → Value) (b:Nat) (m:List (K × V)):Ent where
  own:=fun x=>some b = some x
  ok:=fun w _=>∃ es clock,w.heap[b]? = some (.map es clock) ∧ Rep encK encV es clock m
  lt:=fun ⟨_,_,hk,_⟩ hb=>by
    simp only [Option.some.injEq] at hb
    subst hb
    exact (Array.getElem?_eq_some_iff.1 hk).1
  keep:=fun ⟨es,c,hk,hr⟩ hs _=>⟨es,c,(hs b rfl).trans hk,hr⟩
  sub:=fun h _=>h
def eMW {K V:Type} [DecidableEq K] (encK:K → Value) (encV:V → Value) (z:V) (b:Nat) (m:List (K × V)):Ent where
  own:=fun x=>some b = some x
  ok:=fun w _=>∃ es clock m',w.heap[b]? = some (.map es clock) ∧ Rep encK encV es clock m' ∧ ∀ x,mget m' x z = mget m x z
  lt:=fun ⟨_,_,_,hk,_⟩ hb=>by
    simp only [Option.some.injEq] at hb
    subst hb
    exact (Array.getElem?_eq_some_iff.1 hk).1
  keep:=fun ⟨es,c,m',hk,hr⟩ hs _=>⟨es,c,m',(hs b rfl).trans hk,hr⟩
  sub:=fun h _=>h
def eMP {K V:Type} [DecidableEq K] (encK:K → Value) (encV:V → Value) (z:V) (b:Nat) (m:List (K × V)) (x:K) (n:Nat):Ent where
  own:=fun x=>some b = some x
  ok:=fun w _=>∃ es clock i,w.heap[b]? = some (.map es clock) ∧ Rep encK encV es clock (mset m x (mget m x z)) ∧ mfi (mset m x (mget m x z)) x = some i ∧ (es.toList[i]?).map (·.born) = some n
  lt:=fun ⟨_,_,_,hk,_⟩ hb=>by
    simp only [Option.some.injEq] at hb
    subst hb
    exact (Array.getElem?_eq_some_iff.1 hk).1
  keep:=fun ⟨es,c,i,hk,hr⟩ hs _=>⟨es,c,i,(hs b rfl).trans hk,hr⟩
  sub:=fun h _=>h
def fM {K V:Type} (encK:K → Value) (encV:V → Value) (b:Nat) (m:List (K × V)):Fact :=
  ⟨fun w S=>S b ∧ ∃ es clock,w.heap[b]? = some (.map es clock) ∧ Rep encK encV es clock m,fun ⟨hS,es,c,h,hr⟩ k=>⟨hS,es,c,(k b hS).trans h,hr⟩,fun ⟨hS,h⟩ k=>⟨k b hS,h⟩⟩
def eIt {K V:Type} (encK:K → Value) (encV:V → Value) (r:Nat) (cur:Option (K × V)) (left:List (K × V)):Ent where
  own:=fun x=>some r = some x
  ok:=fun w S=>∃ b es clock seen,S b ∧ w.heap[r]? = some (.mapIter (some b) clock seen clock) ∧ w.heap[b]? = some (.map es clock) ∧ (es.toList.map (·.born)).Nodup ∧ (∀ e ∈ es.toList,e.born < clock) ∧
    ((leftOf es seen).toList.map kv).Perm (left.map (fun p=>(encK p.1,encV p.2))) ∧
    ∀ p,cur = some p → ∃ e ∈ es.toList,seen.back? = some e.born ∧ e.key = encK p.1 ∧ e.val = encV p.2
  lt:=fun ⟨_,_,_,_,_,hk,_⟩ hb=>by
    simp only [Option.some.injEq] at hb
    subst hb
    exact (Array.getElem?_eq_some_iff.1 hk).1
  keep:=fun ⟨b,es,c,seen,hS,hk,hb,hr⟩ hs hS'=>⟨b,es,c,seen,hS,(hs r rfl).trans hk,(hS' b hS).trans hb,hr⟩
  sub:=fun ⟨b,es,c,seen,hS,h⟩ k=>⟨b,es,c,seen,k b hS,h⟩
theorem wc_range {P:Program} {C:Cx} {n:FN} {Q:Exit → Act → World → Prop} {σ:List (Nat × Value)} {η:List Ent} {ι:List Fact} {c:Code} {E S O R:Type} {G:Type} {body:E → S → Option (S ⊕ O)} {kont:S ⊕ O → Option R} {rr:R} (τ:List E × S × G → List (Nat × Value)) (θ:List E × S × G → List Ent) (κ:List E × S × G → List Fact) (g:List E × S × G) (hI:RAll body kont g.1 g.2.1 rr) (hs:Subs (τ g) σ) (he:∀ w,St C η ι w → St C (θ g) (κ g) w)
    (round:∀ g:List E × S × G,RAll body kont g.1 g.2.1 rr → WC P C n c (Exit.then (Some C n (fun g'=>RAll body kont g'.1 g'.2.1 rr ∧ g'.1.length < g.1.length) τ θ κ) Q) (τ g) (θ g) (κ g)):WC P C n (.loop c) Q σ η ι :=
  wc_loop (fun g=>RAll body kont g.1 g.2.1 rr) (fun g=>g.1.length) τ θ κ g hI hs he round
theorem wc_rangeE {P:Program} {C:Cx} {n:FN} {Q:Exit → Act → World → Prop} {σ:List (Nat × Value)} {η:List Ent} {ι:List Fact} {c:Code} {E S O R:Type} {G:Type} {body:E → S → Option (S ⊕ O)} {kont:S ⊕ O → Option R} {rr:R} (J:S × G → Prop) (τ:List E × S × G → List (Nat × Value)) (θ:List E × S × G → List Ent) (κ:List E × S × G → List Fact) (g:List E × S × G) (hI:RAll body kont g.1 g.2.1 rr ∧ J g.2) (hs:Subs (τ g) σ) (he:∀ w,St C η ι w → St C (θ g) (κ g) w)
    (round:∀ g:List E × S × G,(RAll body kont g.1 g.2.1 rr ∧ J g.2) → WC P C n c (Exit.then (Some C n (fun g'=>(RAll body kont g'.1 g'.2.1 rr ∧ J g'.2) ∧ g'.1.length < g.1.length) τ θ κ) Q) (τ g) (θ g) (κ g)):WC P C n (.loop c) Q σ η ι :=
  wc_loop (fun g=>RAll body kont g.1 g.2.1 rr ∧ J g.2) (fun g=>g.1.length) τ θ κ g hI hs he round
theorem plain_eM {K V:Type} {encK:K → Value} {encV:V → Value} {b:Nat} {m:List (K × V)}:(eM encK encV b m).Plain:=fun _ _ _ h=>h
theorem perm_lt {E:Type} {l l':List E} {p:E} (h:l.Perm (p :: l')):l'.length < l.length:=by
  have:=h.length_eq
  simp only [List.length_cons] at this
  omega
theorem wc_condT {P:Program} {C:Cx} {n:FN} {Q:Exit → Act → World → Prop} {σ:List (Nat × Value)} {η:List Ent} {ι:List Fact} {c:Operand} {x y:Code} (hc:ev σ c = some (.bool true)) (ht:WC P C n x Q σ η ι):WC P C n (.cond c x y) Q σ η ι:=wc_cond hc (fun _=>ht) (fun e=>by cases e)
theorem wc_condF {P:Program} {C:Cx} {n:FN} {Q:Exit → Act → World → Prop} {σ:List (Nat × Value)} {η:List Ent} {ι:List Fact} {c:Operand} {x y:Code} (hc:ev σ c = some (.bool false)) (hf:WC P C n y Q σ η ι):WC P C n (.cond c x y) Q σ η ι:=wc_cond hc (fun e=>by cases e) (fun _=>hf)
theorem qakt {w:World} {b b':Nat} {o:Obj} (h:b ≠ b'):(setBlock w b o).heap[b']? = w.heap[b']?:=by
  simp [setBlock,Array.getElem?_setIfInBounds_ne h]
theorem qaks {w:World} {b:Nat} {o:Obj} (h:b < w.heap.size):(setBlock w b o).heap[b]? = some o:=by
  simp [setBlock,h]
theorem run_setMap {P:Program} {w:World} {r:Nat} {es:Array MapEntry} {c:Nat} (hr:w.heap[r]? = some (.map es c)) (o':Obj):(setObj r o').run P w = .ok () (setBlock w r o'):=by
  simp [setObj,Sem.run,hr,setBlock]
theorem run_getObj {P:Program} {w:World} {r:Nat} {es:Array MapEntry} {c:Nat} (hr:w.heap[r]? = some (.map es c)):(getObj r).run P w = .ok (.map es c) w:=by
  simp [getObj,Sem.run,hr]
section
variable {P:Program} {C:Cx} {n:FN} {Q:Exit → Act → World → Prop} {σ:List (Nat × Value)} {η:List Ent} {ι:List Fact}
variable {d:Option Tmp} {ty:TypeId} {pos:String} {af:Array Edge} {gd:Option (Nat × Bool)}
variable {K V:Type} {encK:K → Value} {encV:V → Value}
theorem Rep.size {es:Array MapEntry} {clock:Nat} {m:List (K × V)} (h:Rep encK encV es clock m):es.size = m.length:=by
  have:=congrArg List.length h.kvs
  simpa using this
theorem Rep.at_ {es:Array MapEntry} {clock:Nat} {m:List (K × V)} (h:Rep encK encV es clock m) {i:Nat} {p:K × V} (hi:m[i]? = some p):∃ e,es[i]? = some e ∧ e.key = encK p.1 ∧ e.val = encV p.2:=by
  have h1:=congrArg (fun l=>l[i]?) h.kvs
  simp only [List.getElem?_map,hi,Option.map_some] at h1
  obtain ⟨e,he,h2⟩:=Option.map_eq_some_iff.1 h1
  simp only [kv,Prod.mk.injEq] at h2
  exact ⟨e,by simpa using he,h2.1,h2.2⟩
theorem Rep.set {es:Array MapEntry} {clock:Nat} {m:List (K × V)} (h:Rep encK encV es clock m) {i:Nat} {x:K} {v:V} (f:MapEntry → MapEntry) (hf:∀ e,es[i]? = some e → (f e).key = encK x ∧ (f e).val = encV v ∧ (f e).born = e.born) (hi:i < m.length):Rep encK encV (es.modify i f) clock (m.set i (x,v)):=by
  have hsz:=h.size
  have hie:i < es.size:=by omega
  have hlist:(es.modify i f).toList = es.toList.set i (f es[i]):=by
    apply List.ext_getElem?
    intro j
    by_cases hj:i = j
    · subst hj
      simp [hie]
    · simp [hj]
  obtain ⟨h1,h2,h3⟩:=hf es[i] (by simp [hie])
  refine ⟨?_,?_,?_⟩
  · rw [hlist,List.map_set,List.map_set,h.kvs]
    congr 1
    simp [kv,h1,h2]
  · have:(es.modify i f).toList.map (·.born) = es.toList.map (·.born):=by
      rw [hlist,List.map_set,h3]
      apply List.ext_getElem?
      intro j
      by_cases hj:i = j
      · subst hj; simp [hie]
      · simp [hj]
    rw [this]
    exact h.born
  · intro e he
    rw [hlist] at he
    rcases List.mem_or_eq_of_mem_set he with he | rfl
    · exact h.old e he
    · rw [h3]
      exact h.old _ (by simp)
theorem Rep.push {es:Array MapEntry} {clock:Nat} {m:List (K × V)} (h:Rep encK encV es clock m) (x:K) (v:V):Rep encK encV (es.push { key:=encK x,val:=encV v,born:=clock }) (clock + 1) (m ++ [(x,v)]):=by
  refine ⟨by simp [h.kvs,kv],?_,?_⟩
  · simp only [Array.toList_push,List.map_append,List.map_cons,List.map_nil]
    rw [List.nodup_append]
    refine ⟨h.born,by simp,?_⟩
    intro a ha b hb
    simp only [List.mem_cons,List.not_mem_nil,or_false] at hb
    subst hb
    obtain ⟨e,he,rfl⟩:=List.mem_map.1 ha
    have:=h.old e he
    omega
  · intro e he
    simp only [Array.toList_push,List.mem_append,List.mem_cons,List.not_mem_nil,or_false] at he
    rcases he with he | rfl
    · have:=h.old e he; omega
    · simp
theorem St.setMap {C:Cx} {η:List Ent} {ι:List Fact} {e e':Ent} {w:World} {F:Ent → List Ent} {b:Nat} {es:Array MapEntry} {clock:Nat} (hst:St C η ι w) (hs:SwF η e F) (hb:e.own = fun x=>some b = some x) (hb':e'.own = fun x=>some b = some x) (hok:e'.ok (setBlock w b (.map es clock)) (Im C η w)):St C (F e') ι (setBlock w b (.map es clock)):=by
  refine hst.sw (hs e') rfl rfl ⟨rfl,Nat.le_refl _⟩ (by simp [setBlock]) (fun b' _ hne=>qakt fun e=>hne (by rw [hb,e])) hok (fun b' h=>.inl ?_)
  rw [hb'] at h
  rw [hb]
  exact h
theorem St.allocO {w:World} (h:St C η ι w) (o:Obj) (e:Ent) (hb:e.own = fun x=>some w.heap.size = some x) (hok:e.ok (w.alloc o) (Im C η w)):St C (e :: η) ι (w.alloc o):=by
  have hbl:Below w.heap.size w (w.alloc o):=(Below.refl _ _).alloc (Nat.le_refl _) _
  have hx:=h.ext hbl (Nat.le_refl _)
  have hsub:∀ b,Im C η w b → Im C (e :: η) (w.alloc o) b:=fun b hb'=>⟨Nat.lt_of_lt_of_le hb'.1 hbl.size,hb'.2.1,fun x hx=>by
    rcases List.mem_cons.1 hx with rfl | hx
    · rw [hb]
      simp only [Option.some.injEq]
      have:=hb'.1
      omega
    · exact hb'.2.2 x hx⟩
  refine ⟨hx.os,hx.tape,hx.output,hx.size,hx.old,fun x hxm=>?_,fun x hxm b hbk=>?_,List.pairwise_cons.2 ⟨fun x hxm b hbk hk=>?_,h.apart⟩,fun f hf=>?_⟩
  · rcases List.mem_cons.1 hxm with rfl | hxm
    · exact x.sub hok hsub
    · exact x.sub (x.keep (h.ents x hxm) (fun b hbk=>hbl.block b (x.lt (h.ents x hxm) hbk)) fun b hb'=>hbl.block b hb'.1) hsub
  · rcases List.mem_cons.1 hxm with rfl | hxm
    · rw [hb] at hbk
      simp only [Option.some.injEq] at hbk
      subst hbk
      exact .inl h.size
    · exact h.place x hxm b hbk
  · rw [hb] at hbk
    simp only [Option.some.injEq] at hbk
    subst hbk
    have:=x.lt (h.ents x hxm) hk
    omega
  · exact f.sub (f.keep (h.facts f hf) fun b hb'=>hbl.block b hb'.1) hsub
theorem act_makeMap {t:TypeId} (encK:K → Value) (encV:V → Value):ActOk P C ⟨d,.makeMap t none,ty,pos,af,gd⟩ σ η ι (fun v θ κ=>∃ b,v = .map (some b) ∧ θ = eM encK encV b [] :: η ∧ κ = ι):=fun ρ w _ hst=>by
  have hr:(execOp ρ ⟨d,.makeMap t none,ty,pos,af,gd⟩).run P w = .ok (.value (.map (some w.heap.size))) (w.alloc (.map #[] 0)):=by
    simp [execOp,Instr.makeMap,newObj,Sem.run]
  rw [hr]
  exact ⟨_,_,⟨_,rfl,rfl,rfl⟩,hst.allocO _ _ rfl ⟨#[],0,heap_alloc_new w _,rfl,by simp,by simp⟩⟩
theorem run_lenMap {w:World} {t kt vt:TypeId} {b:Nat} {es:Array MapEntry} {clock:Nat} {m:List (K × V)} (hb:w.heap[b]? = some (.map es clock)) (hr:Rep encK encV es clock m) (ht:P.underlying t = some (.map kt vt)) (u:TypeId):(Builtin.len_ #[t] u #[.map (some b)]).run P w = .ok (.int .i64 (m.length:Int)) w:=by
  simp [Builtin.len_,run_underlying ht,run_getObj hb,hr.size,goInt]
theorem det_lenM {t kt vt:TypeId} {x:Operand} {b:Nat} {m:List (K × V)} (hx:ev σ x = some (.map (some b))) (he:eM encK encV b m ∈ η) (ht:P.underlying t = some (.map kt vt)) :
    Det P C ⟨d,.call { callee:=.builtin .len,args:=#[x],argTypes:=#[t] },ty,pos,af,gd⟩ σ η ι (.int .i64 (m.length:Int)):=fun ρ w hρ hst=>by
  obtain ⟨es,clock,hb,hr⟩:=hst.ent he
  simp [execOp,resolve,invoke,builtin,hρ _ _ hx,run_lenMap hb hr ht]
theorem St.shutM {w:World} {b:Nat} {m:List (K × V)} {θ:List Ent} (h:St C η ι w) (hs:Rem η (eM encK encV b m) θ):St C θ (fM encK encV b m :: ι) w:=by
  have hmem:=hs.mem
  obtain ⟨es,clock,hb,hr⟩:=h.ent hmem
  have hlt:b < w.heap.size:=(Array.getElem?_eq_some_iff.1 hb).1
  have h2:=h.perm hs.perm
  have hap:=List.pairwise_cons.1 h2.apart
  refine h2.tail.fact ⟨⟨hlt,?_,fun x hx hxb=>hap.1 x hx b rfl hxb⟩,es,clock,hb,hr⟩
  rcases h.place _ hmem b rfl with h3 | h3
  · exact .inl h3
  · exact .inr (.inr h3)
theorem act_range {t kt vt:TypeId} {x:Operand} {b:Nat} {m:List (K × V)} (hx:ev σ x = some (.map (some b))) (he:fM encK encV b m ∈ ι) (ht:P.underlying t = some (.map kt vt)) :
    ActOk P C ⟨d,.range t x,ty,pos,af,gd⟩ σ η ι (fun v θ κ=>∃ r,v = .pointer (some ⟨r,0,none⟩) ∧ θ = eIt encK encV r none m :: η ∧ κ = ι):=fun ρ w hρ hst=>by
  obtain ⟨hS,es,clock,hb,hr⟩:=hst.facts _ he
  have hlt:b < w.heap.size:=(Array.getElem?_eq_some_iff.1 hb).1
  have hrun:(execOp ρ ⟨d,.range t x,ty,pos,af,gd⟩).run P w = .ok (.value (.pointer (some ⟨w.heap.size,0,none⟩))) (w.alloc (.mapIter (some b) clock #[] clock)):=by
    simp [execOp,hρ _ _ hx,Instr.range,run_underlying ht,run_getObj hb,newObj,Sem.run]
  rw [hrun]
  refine ⟨_,_,⟨_,rfl,rfl,rfl⟩,hst.allocO _ _ rfl ⟨b,es,clock,#[],hS,heap_alloc_new w _,(Below.heap_alloc w _ b hlt).trans hb,hr.born,hr.old,?_,fun p hp=>by cases hp⟩⟩
  have:leftOf es #[] = es:=by
    unfold leftOf
    apply Array.filter_eq_self.2
    intro e _
    simp
  rw [this,hr.kvs]
theorem St.it {w:World} {r:Nat} {cur:Option (K × V)} {left:List (K × V)} (h:St C η ι w) (he:eIt encK encV r cur left ∈ η):(eIt encK encV r cur left).ok w (Im C η w):=h.ent he
theorem act_next0 {x:Operand} {r:Nat} {cur:Option (K × V)} (hx:ev σ x = some (.pointer (some ⟨r,0,none⟩))) (he:eIt encK encV r cur [] ∈ η) :
    ActOk P C ⟨d,.next x false,ty,pos,af,gd⟩ σ η ι (fun v θ κ=>v = .tuple #[.bool false] ∧ θ = η ∧ κ = ι):=fun ρ w hρ hst=>by
  obtain ⟨b,es,clock,seen,hS,hk,hb,hn,ho,hl,_⟩:=hst.ent he
  have h0:(leftOf es seen).size = 0:=by
    have:=hl.length_eq
    simpa using this
  rcases run_next_at (P:=P) w ty r b clock clock seen es clock hk hb ho (Nat.le_refl _) with ⟨_,hrun⟩ | ⟨e,he,_⟩
  · have:(execOp ρ ⟨d,.next x false,ty,pos,af,gd⟩).run P w = .ok (.value (.tuple #[.bool false])) w:=by
      simp [execOp,hρ _ _ hx,hrun]
    rw [this]
    exact ⟨_,_,⟨rfl,rfl,rfl⟩,hst⟩
  · have:=Array.eq_empty_of_size_eq_zero h0
    rw [this] at he
    simp at he
theorem leftOf_push {es:Array MapEntry} {seen:Array Nat} {e:MapEntry} (hn:(es.toList.map (·.born)).Nodup) (he:e ∈ (leftOf es seen).toList):(leftOf es seen).toList.Perm (e :: (leftOf es (seen.push e.born)).toList):=by
  have hnl:((leftOf es seen).toList.map (·.born)).Nodup:=by
    have hsub:List.Sublist (leftOf es seen).toList es.toList:=by
      unfold leftOf
      rw [Array.toList_filter]
      exact List.filter_sublist
    exact (hsub.map _).nodup hn
  have hf:(leftOf es (seen.push e.born)).toList = (leftOf es seen).toList.filter (fun x=>!(x.born == e.born)):=by
    unfold leftOf
    rw [Array.toList_filter,Array.toList_filter,List.filter_filter]
    apply List.filter_congr
    intro x _
    by_cases hx:x.born = e.born <;> simp [hx]
  rw [hf]
  generalize (leftOf es seen).toList = l at he hnl
  clear hf hn
  induction l with
  | nil=>cases he
  | cons a l ih =>
    simp only [List.map_cons,List.nodup_cons] at hnl
    rcases List.mem_cons.1 he with rfl | he
    · rw [List.filter_cons]
      simp only [BEq.rfl,Bool.not_true,Bool.false_eq_true,if_false]
      have:l.filter (fun x=>!(x.born == e.born)) = l:=by
        apply List.filter_eq_self.2
        intro x hx
        have:¬ x.born = e.born:=fun h=>hnl.1 (h ▸ List.mem_map_of_mem hx)
        simpa using this
      rw [this]
    · have hne:¬ a.born = e.born:=fun h=>hnl.1 (h ▸ List.mem_map_of_mem he)
      rw [List.filter_cons]
      have:(!(a.born == e.born)) = true:=by simpa using hne
      rw [if_pos this]
      exact (List.Perm.cons a (ih he hnl.2)).trans (List.Perm.swap e a _)
theorem act_next1 {x:Operand} {r:Nat} {cur:Option (K × V)} {left:List (K × V)} {F:Ent → List Ent} (hx:ev σ x = some (.pointer (some ⟨r,0,none⟩))) (hs:SwF η (eIt encK encV r cur left) F) (hne:left ≠ []) :
    ActOk P C ⟨d,.next x false,ty,pos,af,gd⟩ σ η ι (fun v θ κ=>∃ p left',left.Perm (p :: left') ∧ v = .tuple #[.bool true,encK p.1,encV p.2] ∧ θ = F (eIt encK encV r (some p) left') ∧ κ = ι):=fun ρ w hρ hst=>by
  obtain ⟨b,es,clock,seen,hS,hk,hb,hn,ho,hl,_⟩:=hst.ent hs.mem
  rcases run_next_at (P:=P) w ty r b clock clock seen es clock hk hb ho (Nat.le_refl _) with ⟨h0,_⟩ | ⟨e,he,w1,hw1,hrun⟩
  · have:=hl.length_eq
    simp only [List.length_map,Array.length_toList,h0] at this
    exact absurd (List.eq_nil_of_length_eq_zero this.symm) hne
  · have hex:(execOp ρ ⟨d,.next x false,ty,pos,af,gd⟩).run P w = .ok (.value (.tuple #[.bool true,e.key,e.val])) (setBlock w1 r (.mapIter (some b) clock (seen.push e.born) clock)):=by
      simp [execOp,hρ _ _ hx,hrun]
    rw [hex]
    have hin:(e.key,e.val) ∈ left.map (fun p=>(encK p.1,encV p.2)):=(hl.mem_iff).1 (List.mem_map_of_mem (f:=kv) he)
    obtain ⟨p,hp,hpe⟩:=List.mem_map.1 hin
    simp only [Prod.mk.injEq] at hpe
    obtain ⟨l1,l2,rfl⟩:=List.append_of_mem hp
    have hst1:St C η ι w1:=by rcases hw1 with rfl | rfl; exact hst; exact hst.drew
    have hk1:w1.heap[r]? = some (.mapIter (some b) clock seen clock):=by rcases hw1 with rfl | rfl <;> exact hk
    have hb1:w1.heap[b]? = some (.map es clock):=by rcases hw1 with rfl | rfl <;> exact hb
    have hrb:r ≠ b:=fun h=>by subst h; rw [hk] at hb; cases hb
    have hlt:r < w1.heap.size:=(Array.getElem?_eq_some_iff.1 hk1).1
    have hS1:Im C η w1 b:=by rcases hw1 with rfl | rfl <;> exact hS
    refine ⟨_,_,⟨p,l1 ++ l2,List.perm_middle,by rw [hpe.1,hpe.2],rfl,rfl⟩,?_⟩
    refine hst1.sw (hs _) rfl rfl ⟨rfl,Nat.le_refl _⟩ (by simp [setBlock]) (fun b' _ hne=>qakt fun e=>hne (by rw [← e]; rfl)) ?_ (fun b' h=>.inl h)
    refine ⟨b,es,clock,seen.push e.born,hS1,qaks hlt,(qakt hrb).trans hb1,hn,ho,?_,?_⟩
    · have h1:=(leftOf_push hn he).map kv
      simp only [List.map_cons] at h1
      have h2:=h1.symm.trans hl
      have h3:(List.map (fun p:K × V=>(encK p.1,encV p.2)) (l1 ++ p :: l2)).Perm ((encK p.1,encV p.2) :: List.map (fun p=>(encK p.1,encV p.2)) (l1 ++ l2)):=by
        have:=(List.perm_middle (a:=p) (l₁:=l1) (l₂:=l2)).map (fun p:K × V=>(encK p.1,encV p.2))
        simp only [List.map_cons] at this
        exact this
      have h4:=h2.trans h3
      have h5:kv e = (encK p.1,encV p.2):=by simp [kv,hpe.1,hpe.2]
      rw [h5] at h4
      exact (List.perm_cons _).1 h4
    · intro q hq
      cases hq
      refine ⟨e,?_,by simp,hpe.1.symm,hpe.2.symm⟩
      unfold leftOf at he
      rw [Array.toList_filter] at he
      exact (List.mem_filter.1 he).1
theorem det_entry {x:Operand} {r:Nat} {p:K × V} {left:List (K × V)} {vk vv:Value} (hx:ev σ x = some (.pointer (some ⟨r,0,none⟩))) (he:eIt encK encV r (some p) left ∈ η) (hvk:encK p.1 = vk) (hvv:encV p.2 = vv) :
    Det P C ⟨d,.entry x,ty,pos,af,gd⟩ σ η ι (.tuple #[vk,vv]):=fun ρ w hρ hst=>by
  subst hvk hvv
  obtain ⟨b,es,clock,seen,hS,hk,hb,hn,ho,hl,hc⟩:=hst.ent he
  obtain ⟨e,hem,hbk,h1,h2⟩:=hc p rfl
  have hsz:0 < seen.size:=by
    rcases Nat.eq_zero_or_pos seen.size with h0 | h0
    · have:=Array.eq_empty_of_size_eq_zero h0
      rw [this] at hbk
      simp at hbk
    · exact h0
  have hpush:seen = seen.pop.push e.born:=by
    have h3:seen.back? = some seen[seen.size - 1]:=by
      simp [Array.back?]
    rw [h3] at hbk
    simp only [Option.some.injEq] at hbk
    rw [← hbk]
    apply Array.ext
    · simp; omega
    · intro i hi1 hi2
      by_cases hi:i < seen.size - 1
      · rw [Array.getElem_push_lt (by simpa using hi)]
        simp
      · have:i = seen.size - 1:=by omega
        subst this
        simp [Array.getElem_push]
  rw [hpush] at hk
  have:=run_entry_at (P:=P) w r b clock seen.pop es clock e hk hb hem hn
  simp [execOp,hρ _ _ hx,this,h1,h2]
end
section
variable {P:Program} {C:Cx} {n:FN} {Q:Exit → Act → World → Prop} {σ:List (Nat × Value)} {η:List Ent} {ι:List Fact}
variable {d:Option Tmp} {ty:TypeId} {pos:String} {af:Array Edge} {gd:Option (Nat × Bool)}
variable {K V:Type} [DecidableEq K] {encK:K → Value} {encV:V → Value}
theorem run_zero {w:World} {t:TypeId} {z:Value} (h:zeroB P t = some z):(zeroValue t).run P w = .ok z w:=by
  obtain ⟨i,hi,hz⟩:=Option.bind_eq_some_iff.1 h
  simp [zeroValue,typeInfo,hi,hz]
theorem ans_get {m:List (K × V)} {x:K} (z:V):(match ans encV m x 0 with | some (_,v)=>v | none=>encV z) = encV (mget m x z):=by
  unfold ans
  cases h:mfi m x with
  | none=>simp [(mfi_none h).1]
  | some i =>
    obtain ⟨v,h1,h2⟩:=mfi_at h
    simp [h1,h2]
theorem run_lookup {w:World} {t kt vt:TypeId} {b:Nat} {es:Array MapEntry} {clock:Nat} {m:List (K × V)} {x:K} {z:V} (hb:w.heap[b]? = some (.map es clock)) (hr:Rep encK encV es clock m) (hk:KeyOk P kt encK) (ht:P.underlying t = some (.map kt vt)) (hz:zeroB P vt = some (encV z)) :
    (Instr.lookup t (.map (some b)) (encK x) false).run P w = .ok (encV (mget m x z)) w:=by
  simp only [Instr.lookup,Sem.run_bind,run_underlying ht,Result.andThen_ok,run_getObj hb,Sem.run_pure,hk.check,findKey_run (encV:=encV) hk x hr.kvs]
  rw [← ans_get (encV:=encV) z]
  cases ans encV m x 0 with
  | none=>simp [run_zero hz]
  | some p=>simp
theorem det_lookupM {t kt vt:TypeId} {x y:Operand} {b:Nat} {m:List (K × V)} {k:K} {z:V} {vk vr:Value} (hx:ev σ x = some (.map (some b))) (hy:ev σ y = some vk) (hv:vk = encK k) (he:eM encK encV b m ∈ η) (hk:KeyOk P kt encK) (ht:P.underlying t = some (.map kt vt)) (hz:zeroB P vt = some (encV z)) (hvr:encV (mget m k z) = vr) :
    Det P C ⟨d,.lookup t x y false,ty,pos,af,gd⟩ σ η ι vr:=fun ρ w hρ hst=>by
  subst hv hvr
  obtain ⟨es,clock,hb,hr⟩:=hst.ent he
  simp [execOp,hρ _ _ hx,hρ _ _ hy,run_lookup hb hr hk ht hz]
theorem det_lookupW {t kt vt:TypeId} {x y:Operand} {b:Nat} {m:List (K × V)} {k:K} {z:V} {vk vr:Value} (hx:ev σ x = some (.map (some b))) (hy:ev σ y = some vk) (hv:vk = encK k) (he:eMW encK encV z b m ∈ η) (hk:KeyOk P kt encK) (ht:P.underlying t = some (.map kt vt)) (hz:zeroB P vt = some (encV z)) (hvr:encV (mget m k z) = vr) :
    Det P C ⟨d,.lookup t x y false,ty,pos,af,gd⟩ σ η ι vr:=fun ρ w hρ hst=>by
  subst hv hvr
  obtain ⟨es,clock,m',hb,hr,hg⟩:=hst.ent he
  rw [← hg]
  simp [execOp,hρ _ _ hx,hρ _ _ hy,run_lookup hb hr hk ht hz]
theorem det_lookupF {t kt vt:TypeId} {x y:Operand} {b:Nat} {m:List (K × V)} {k:K} {z:V} {vk vr:Value} (hx:ev σ x = some (.map (some b))) (hy:ev σ y = some vk) (hv:vk = encK k) (he:fM encK encV b m ∈ ι) (hk:KeyOk P kt encK) (ht:P.underlying t = some (.map kt vt)) (hz:zeroB P vt = some (encV z)) (hvr:encV (mget m k z) = vr) :
    Det P C ⟨d,.lookup t x y false,ty,pos,af,gd⟩ σ η ι vr:=fun ρ w hρ hst=>by
  subst hv hvr
  obtain ⟨_,es,clock,hb,hr⟩:=hst.facts _ he
  simp [execOp,hρ _ _ hx,hρ _ _ hy,run_lookup hb hr hk ht hz]
theorem act_mapUpdate {t kt vt:TypeId} {x y u:Operand} {b:Nat} {m:List (K × V)} {k:K} {v:V} {vk vv:Value} {F:Ent → List Ent} (hx:ev σ x = some (.map (some b))) (hy:ev σ y = some vk) (hvk:vk = encK k) (hu:ev σ u = some vv) (hvv:vv = encV v) (hs:SwF η (eM encK encV b m) F) (hk:KeyOk P kt encK) (ht:P.underlying t = some (.map kt vt)) :
    ActOk P C ⟨d,.mapUpdate t x y u,ty,pos,af,gd⟩ σ η ι (fun _ θ κ=>θ = F (eM encK encV b (mset m k v)) ∧ κ = ι):=fun ρ w hρ hst=>by
  subst hvk hvv
  obtain ⟨es,clock,hb,hr⟩:=hst.ent hs.mem
  have hlt:b < w.heap.size:=(Array.getElem?_eq_some_iff.1 hb).1
  cases hm:mfi m k with
  | none =>
    have ha:ans encV m k 0 = none:=by simp [ans,hm]
    have hrun:(execOp ρ ⟨d,.mapUpdate t x y u,ty,pos,af,gd⟩).run P w = .ok .skip (setBlock w b (.map (es.push { key:=encK k,val:=encV v,born:=clock }) (clock + 1))):=by
      simp [execOp,hρ _ _ hx,hρ _ _ hy,hρ _ _ hu,Instr.mapUpdate,run_underlying ht,run_getObj hb,hk.check,findKey_run (encV:=encV) hk k hr.kvs,ha,run_setMap hb]
    rw [hrun]
    refine ⟨_,_,⟨rfl,rfl⟩,hst.setMap hs rfl rfl ⟨_,_,qaks hlt,?_⟩⟩
    rw [(mfi_none hm).2]
    exact hr.push k v
  | some i =>
    obtain ⟨v0,h1,h2⟩:=mfi_at hm
    have ha:ans encV m k 0 = some (i,encV v0):=by simp [ans,hm,h1]
    obtain ⟨e,he,hek,hev⟩:=hr.at_ h1
    have hrun:(execOp ρ ⟨d,.mapUpdate t x y u,ty,pos,af,gd⟩).run P w = .ok .skip (setBlock w b (.map (es.modify i fun e=>{ e with key:=encK k,val:=encV v }) clock)):=by
      simp [execOp,hρ _ _ hx,hρ _ _ hy,hρ _ _ hu,Instr.mapUpdate,run_underlying ht,run_getObj hb,hk.check,findKey_run (encV:=encV) hk k hr.kvs,ha,run_setMap hb,he,hek,Instr.keyThatStays,hk.bits]
    rw [hrun]
    refine ⟨_,_,⟨rfl,rfl⟩,hst.setMap hs rfl rfl ⟨_,_,qaks hlt,?_⟩⟩
    rw [mfi_set hm]
    exact hr.set _ (fun e _=>⟨rfl,rfl,rfl⟩) (mfi_lt hm)
theorem act_mapEntry {t kt vt:TypeId} {x y:Operand} {b:Nat} {m:List (K × V)} {k:K} {z:V} {vk:Value} {F:Ent → List Ent} (hx:ev σ x = some (.map (some b))) (hy:ev σ y = some vk) (hvk:vk = encK k) (hs:SwF η (eM encK encV b m) F) (hk:KeyOk P kt encK) (ht:P.underlying t = some (.map kt vt)) (hz:zeroB P vt = some (encV z)) :
    ActOk P C ⟨d,.mapEntry t x y,ty,pos,af,gd⟩ σ η ι (fun v θ κ=>∃ n:Nat,v = .tuple #[encV (mget m k z),.int .i64 (n:Int)] ∧ θ = F (eMP encK encV z b m k n) ∧ κ = ι):=fun ρ w hρ hst=>by
  subst hvk
  obtain ⟨es,clock,hb,hr⟩:=hst.ent hs.mem
  have hlt:b < w.heap.size:=(Array.getElem?_eq_some_iff.1 hb).1
  cases hm:mfi m k with
  | none =>
    have ha:ans encV m k 0 = none:=by simp [ans,hm]
    obtain ⟨h1,h2⟩:=mfi_none hm
    have hrun:(execOp ρ ⟨d,.mapEntry t x y,ty,pos,af,gd⟩).run P w = .ok (.value (.tuple #[encV z,.int .i64 (clock:Int)])) (setBlock w b (.map (es.push { key:=encK k,val:=encV z,born:=clock }) (clock + 1))):=by
      simp [execOp,hρ _ _ hx,hρ _ _ hy,Instr.mapEntry,run_underlying ht,run_getObj hb,hk.check,findKey_run (encV:=encV) hk k hr.kvs,ha,run_setMap hb,run_zero hz,goInt]
    rw [hrun]
    refine ⟨_,_,⟨clock,by rw [h1],rfl,rfl⟩,hst.setMap hs rfl rfl ⟨_,_,m.length,qaks hlt,?_,?_,?_⟩⟩
    · rw [h1,h2]
      exact hr.push k z
    · rw [h1,h2]
      clear h1 h2 ha hrun hst hs hr
      induction m with
      | nil=>simp [mfi]
      | cons p m ih =>
        unfold mfi at hm
        split at hm
        · cases hm
        · rename_i hp
          simp [mfi,hp,ih (by simpa using hm)]
    · have:=hr.size
      simp [← this]
  | some i =>
    obtain ⟨v0,h1,h2⟩:=mfi_at hm
    have ha:ans encV m k 0 = some (i,encV v0):=by simp [ans,hm,h1]
    obtain ⟨e,he,hek,hev⟩:=hr.at_ h1
    have hrun:(execOp ρ ⟨d,.mapEntry t x y,ty,pos,af,gd⟩).run P w = .ok (.value (.tuple #[encV v0,.int .i64 (e.born:Int)])) (setBlock w b (.map (es.modify i fun e=>{ e with key:=encK k }) clock)):=by
      simp [execOp,hρ _ _ hx,hρ _ _ hy,Instr.mapEntry,run_underlying ht,run_getObj hb,hk.check,findKey_run (encV:=encV) hk k hr.kvs,ha,run_setMap hb,he,hek,Instr.keyThatStays,hk.bits,goInt]
    rw [hrun]
    have hset:mset m k (mget m k z) = m.set i (k,v0):=by rw [mfi_set hm,h2]
    have hset2:m.set i (k,v0) = m:=by
      apply List.ext_getElem?
      intro j
      by_cases hj:i = j
      · subst hj; rw [h1]; simp [mfi_lt hm]
      · simp [hj]
    refine ⟨_,_,⟨e.born,by rw [h2],rfl,rfl⟩,hst.setMap hs rfl rfl ⟨_,_,i,qaks hlt,?_,?_,?_⟩⟩
    · rw [hset]
      exact hr.set _ (fun e' he'=>⟨rfl,by rw [he] at he'; cases he'; exact hev,rfl⟩) (mfi_lt hm)
    · rw [hset,hset2]
      exact hm
    · have hie:=(Array.getElem?_eq_some_iff.1 he)
      obtain ⟨hi1,hi2⟩:=hie
      simp [hi1,hi2]
theorem findIdx_born:∀ (l:List MapEntry) (i:Nat) (n:Nat),(l.map (·.born)).Nodup → (l[i]?).map (·.born) = some n → l.findIdx? (fun e=>(e.born:Int) == (n:Int)) = some i
  | [],i,n,_,h=>by simp at h
  | e :: l,0,n,_,h=>by
    simp at h
    simp [List.findIdx?_cons,h]
  | e :: l,i + 1,n,hn,h=>by
    simp only [List.getElem?_cons_succ] at h
    simp only [List.map_cons,List.nodup_cons] at hn
    have hne:¬ ((e.born:Int) == (n:Int)) = true:=by
      intro hc
      have hc':e.born = n:=by
        have:(e.born:Int) = (n:Int):=by simpa using hc
        omega
      obtain ⟨e2,he2,h2⟩:=Option.map_eq_some_iff.1 h
      exact hn.1 (hc' ▸ h2 ▸ List.mem_map_of_mem (List.mem_of_getElem? he2))
    rw [List.findIdx?_cons]
    rw [if_neg hne,findIdx_born l i n hn.2 h]
    rfl
theorem qagd {t:TypeId} {x y u:Operand} {b:Nat} {m:List (K × V)} {k:K} {z v:V} {n:Nat} {vv:Value} {F:Ent → List Ent} (hx:ev σ x = some (.map (some b))) (hy:ev σ y = some (.int .i64 (n:Int))) (hu:ev σ u = some vv) (hvv:vv = encV v) (hs:SwF η (eMP encK encV z b m k n) F) :
    ActOk P C ⟨d,.entryStore t x y u,ty,pos,af,gd⟩ σ η ι (fun _ θ κ=>θ = F (eM encK encV b (mset m k v)) ∧ κ = ι):=fun ρ w hρ hst=>by
  subst hvv
  obtain ⟨es,clock,i,hb,hr,hm,hn⟩:=hst.ent hs.mem
  have hlt:b < w.heap.size:=(Array.getElem?_eq_some_iff.1 hb).1
  have hidx:es.findIdx? (fun e=>(e.born:Int) == (n:Int)) = some i:=by
    have h3:=findIdx_born _ _ _ hr.born hn
    rw [← h3]
    exact List.findIdx?_toArray (p:=fun e:MapEntry=>(e.born:Int) == (n:Int)) (l:=es.toList)
  obtain ⟨v0,h1,_⟩:=mfi_at hm
  obtain ⟨e,he,hek,hev⟩:=hr.at_ h1
  have hrun:(execOp ρ ⟨d,.entryStore t x y u,ty,pos,af,gd⟩).run P w = .ok .skip (setBlock w b (.map (es.modify i fun e=>{ e with val:=encV v }) clock)):=by
    simp [execOp,hρ _ _ hx,hρ _ _ hy,hρ _ _ hu,Instr.entryStore,run_getObj hb,asInt,asIntOf,hidx,run_setMap hb]
  rw [hrun]
  refine ⟨_,_,⟨rfl,rfl⟩,hst.setMap hs rfl rfl ⟨_,_,qaks hlt,?_⟩⟩
  rw [← mset_mset m k (mget m k z) v,mfi_set hm]
  exact hr.set _ (fun e' he'=>⟨by rw [he] at he'; cases he'; exact hek,rfl,rfl⟩) (mfi_lt hm)
theorem St.weakM {w:World} {b:Nat} {m:List (K × V)} {F:Ent → List Ent} (z:V) (h:St C η ι w) (hs:SwF η (eM encK encV b m) F):St C (F (eMW encK encV z b m)) ι w:=by
  obtain ⟨es,clock,hb,hr⟩:=h.ent hs.mem
  exact h.sw (hs _) rfl rfl ⟨rfl,Nat.le_refl _⟩ (Nat.le_refl _) (fun _ _ _=>rfl) ⟨es,clock,m,hb,hr,fun _=>rfl⟩ (fun _ h=>.inl h)
theorem St.weakP {w:World} {b n:Nat} {m:List (K × V)} {k:K} {z:V} {F:Ent → List Ent} (h:St C η ι w) (hs:SwF η (eMP encK encV z b m k n) F):St C (F (eMW encK encV z b m)) ι w:=by
  obtain ⟨es,clock,i,hb,hr,_⟩:=h.ent hs.mem
  exact h.sw (hs _) rfl rfl ⟨rfl,Nat.le_refl _⟩ (Nat.le_refl _) (fun _ _ _=>rfl) ⟨es,clock,_,hb,hr,fun x=>qahw m k x z⟩ (fun _ h=>.inl h)
end
section
variable {P:Program} {w:World}
theorem checkKey_int {kt:TypeId} {k:IntKind} (h:P.underlying kt = some (.int k)) (e:Bool) (D:Nat) (x:Int) (w:World):(Instr.checkKey e (D + 1) kt (.int .i64 x)).run P w = .ok () w:=by
  unfold Instr.checkKey
  simp [run_underlying h]
theorem qagh {rec:TypeId → Option Nat} {D n:Nat} {e:Bool} {xs:List Int} (hx:xs.length = n)
    (hd:∀ t m,rec t = some m → ∃ d,flatB P d t = some m)
    (hrec:∀ t m,rec t = some m → ∀ a u,PackOf P t a u → a.length = m → (Instr.checkKey e D t u).run P w = .ok () w) :
    ∀ (fs:List Field) (off:Nat),fieldsB P rec off fs = some n → (forIn fs PUnit.unit fun f _=>do
        if f.name ≠ "_" then Instr.checkKey e D f.type (← part f.type (cellsI xs).toArray f.offset)
        pure (ForInStep.yield PUnit.unit):Sem PUnit).run P w = .ok PUnit.unit w
  | [],off,h=>by simp
  | f :: fs,off,h=>by
    unfold fieldsB at h
    cases hb:(f.name == "_" || !(Nat.beq f.offset off)) with
    | true=>rw [hb] at h; cases h
    | false =>
      rw [hb,cond_false] at h
      rw [Bool.or_eq_false_iff] at hb
      have ho:f.offset = off:=Nat.eq_of_beq_eq_true (by simpa using hb.2)
      have hn:f.name ≠ "_":=by simpa using hb.1
      cases hr:rec f.type with
      | none=>rw [hr] at h; cases h
      | some m =>
        rw [hr] at h
        simp only at h
        split at h
        · rename_i hs
          have hle:∀ (fs:List Field) (o:Nat),fieldsB P rec o fs = some n → o ≤ n:=by
            intro fs
            induction fs with
            | nil=>intro o h; simp only [fieldsB,Option.some.injEq] at h; omega
            | cons g gs ih =>
              intro o h
              unfold fieldsB at h
              cases hb2:(g.name == "_" || !(Nat.beq g.offset o)) with
              | true=>rw [hb2] at h; cases h
              | false =>
                rw [hb2,cond_false] at h
                cases hr2:rec g.type with
                | none=>rw [hr2] at h; cases h
                | some m2 =>
                  rw [hr2] at h
                  simp only at h
                  split at h
                  · have:=ih _ h
                    omega
                  · cases h
          have h1:=hle fs _ h
          obtain ⟨d,hfl⟩:=hd _ _ hr
          obtain ⟨u,hu,hpu⟩:=part_flat (w:=w) (xs:=xs) (off:=off) hfl hs (by omega)
          have he:=hrec _ _ hr _ _ hpu (by simp; omega)
          have ih:=qagh hx hd hrec fs _ h
          rw [List.forIn_cons]
          simp only [ho,hu,he,hn,ne_eq,not_false_eq_true,if_true,Sem.run_bind,Result.andThen_ok,Sem.run_pure]
          exact ih
        · cases h
theorem check_flat {e:Bool}:∀ (d:Nat) (t:TypeId) (n D:Nat),flatB P d t = some n → d ≤ D → ∀ a u,PackOf P t a u → a.length = n → (Instr.checkKey e D t u).run P w = .ok () w
  | 0,_,_,_,h,_=>by cases h
  | d + 1,t,n,D,h,hD=>by
    intro a u hu ha
    obtain ⟨D,rfl⟩:∃ E,D = E + 1:=⟨D - 1,by omega⟩
    unfold flatB at h
    cases hk:P.underlying t with
    | none=>rw [hk] at h; cases h
    | some k =>
      rw [hk] at h
      cases k with
      | int k =>
        have hag:isAggB P t = false:=by simp [isAggB,hk]
        rcases hu with ⟨h1,_⟩ | ⟨_,x,rfl,rfl⟩
        · rw [hag] at h1; cases h1
        exact checkKey_int hk e D x w
      | struct fs =>
        have hag:isAggB P t = true:=by simp [isAggB,hk]
        rcases hu with ⟨_,rfl⟩ | ⟨h1,_⟩
        case inr=>rw [hag] at h1; cases h1
        cases hst:P.stoodInHeld t with
        | true=>simp only [hst,cond_true] at h; cases h
        | false =>
          simp only [hst,cond_false] at h
          have:=qagh (P:=P) (w:=w) (D:=D) (e:=e) (rec:=flatB P d) ha (fun t m h=>⟨d,h⟩) (fun t m h a u hu ha=>check_flat d t m D h (by omega) a u hu ha) fs.toList 0 h
          unfold Instr.checkKey
          simp only [Sem.run_bind,run_underlying hk,Result.andThen_ok]
          rw [← Array.forIn_toList]
          rw [this]
          simp
      | _=>simp at h
theorem qakq (xs:List Int):((cellsI xs).zip (cellsI xs)).all (fun x=>Instr.sameBits 9999 x.1 x.2) = true:=by
  induction xs with
  | nil=>simp [cellsI]
  | cons x xs ih=>simpa [cellsI,Instr.sameBits] using ih
theorem keyOk_flat {K:Type} [DecidableEq K] {t:TypeId} {n:Nat} (h:eqOkB P t n = true) {encK:K → Value} (toL:K → List Int) (he:∀ x,encK x = .agg (cellsI (toL x)).toArray) (hl:∀ x,(toL x).length = n) (hi:∀ x y,toL x = toL y → x = y):KeyOk P t encK:=by
  simp only [eqOkB,Bool.and_eq_true,beq_iff_eq,Bool.not_eq_true'] at h
  refine ⟨fun e x w=>?_,fun x y w=>?_,?_,fun x=>?_⟩
  · rw [he]
    exact check_flat 6 t n 10000 h.1.1 (by omega) _ _ (.inl ⟨h.1.2,rfl⟩) (hl x)
  · rw [he,he]
    have:=equal_flat (P:=P) (w:=w) 6 t n 10000 h.1.1 (by omega) (toL x) (toL y) _ _ (.inl ⟨h.1.2,rfl⟩) (.inl ⟨h.1.2,rfl⟩) (hl x) (hl y)
    simp only [Op.equal,Op.maxDepth]
    rw [this]
    congr 1
    exact decide_eq_decide.2 ⟨hi x y,fun e=>by rw [e]⟩
  · have hag:=h.1.2
    unfold isAggB at hag
    cases hd:P.underlying t with
    | none=>rw [hd] at hag; cases hag
    | some d =>
      refine ⟨d,rfl,fun x y=>.inl ?_⟩
      rw [he,he]
      cases d <;> rfl
  · rw [he]
    show ((cellsI (toL x)).toArray.size == (cellsI (toL x)).toArray.size && _) = true
    simp only [BEq.rfl,Bool.true_and]
    exact qakq (toL x)
end
end Go.Proofs.YtdenliplkmjmjaaGreat
namespace Go.Proofs.YtdenliplkmjmjaaGreat
open Go.RowKit
def eBun (θ:List Ent) (κ:List Fact):Ent where
  own:=Blocks θ
  ok:=fun w S=>(∀ h ∈ θ,h.ok w S) ∧ (θ.Pairwise fun h k=>∀ b,h.own b → ¬ k.own b) ∧ ∀ f ∈ κ,f.R w S
  lt:=fun ⟨h1,_,_⟩ ⟨h,hh,hb⟩=>h.lt (h1 h hh) hb
  keep:=fun ⟨h1,h2,h3⟩ hs hS=>⟨fun h hh=>h.keep (h1 h hh) (fun b hb=>hs b ⟨h,hh,hb⟩) hS,h2,fun f hf=>f.keep (h3 f hf) hS⟩
  sub:=fun ⟨h1,h2,h3⟩ k=>⟨fun h hh=>h.sub (h1 h hh) k,h2,fun f hf=>f.sub (h3 f hf) k⟩
def eLoop (l:Nat) (r:Loop):Ent where
  own:=fun x=>some l = some x
  ok:=fun w _=>w.heap[l]? = some (.loop r)
  lt:=fun hk hb=>by
    simp only [Option.some.injEq] at hb
    subst hb
    exact (Array.getElem?_eq_some_iff.1 hk).1
  keep:=fun hk hs _=>(hs l rfl).trans hk
  sub:=fun hk _=>hk
def eDef (r:Nat):Ent where
  own:=fun x=>some r = some x
  ok:=fun w _=>w.heap[r]? = some (.deferred (some []))
  lt:=fun hk hb=>by
    simp only [Option.some.injEq] at hb
    subst hb
    exact (Array.getElem?_eq_some_iff.1 hk).1
  keep:=fun hk hs _=>(hs r rfl).trans hk
  sub:=fun hk _=>hk
section
variable {P:Program} {C:Cx} {n:FN} {Q:Exit → Act → World → Prop} {σ:List (Nat × Value)} {η θ:List Ent} {ι κ:List Fact} {w:World}
variable {d:Option Tmp} {ty:TypeId} {pos:String} {af:Array Edge} {gd:Option (Nat × Bool)}
theorem im_bun {b:Nat}:Im C (θ ++ η) w b ↔ Im C (eBun θ κ :: η) w b:=by
  constructor
  · intro h
    refine ⟨h.1,h.2.1,fun x hx hb=>?_⟩
    rcases List.mem_cons.1 hx with rfl | hx
    · obtain ⟨y,hy,hyb⟩:=hb
      exact h.2.2 y (List.mem_append_left _ hy) hyb
    · exact h.2.2 x (List.mem_append_right _ hx) hb
  · intro h
    refine ⟨h.1,h.2.1,fun x hx hb=>?_⟩
    rcases List.mem_append.1 hx with hx | hx
    · exact h.2.2 (eBun θ κ) List.mem_cons_self ⟨x,hx,hb⟩
    · exact h.2.2 x (List.mem_cons_of_mem _ hx) hb
theorem St.bundle (h:St C (θ ++ η) ι w) (hk:∀ f ∈ κ,f ∈ ι):St C (eBun θ κ :: η) ι w:=by
  have hap:=List.pairwise_append.1 h.apart
  refine ⟨h.os,h.tape,h.output,h.size,h.old,fun x hx=>?_,fun x hx b hb=>?_,List.pairwise_cons.2 ⟨fun x hx b ⟨y,hy,hyb⟩ hb=>hap.2.2 y hy x hx b hyb hb,hap.2.1⟩,fun f hf=>f.sub (h.facts f hf) fun _=>im_bun.1⟩
  · rcases List.mem_cons.1 hx with rfl | hx
    · exact ⟨fun y hy=>y.sub (h.ents y (List.mem_append_left _ hy)) fun _=>im_bun.1,hap.1,fun f hf=>f.sub (h.facts f (hk f hf)) fun _=>im_bun.1⟩
    · exact x.sub (h.ents x (List.mem_append_right _ hx)) fun _=>im_bun.1
  · rcases List.mem_cons.1 hx with rfl | hx
    · obtain ⟨y,hy,hyb⟩:=hb
      exact h.place y (List.mem_append_left _ hy) b hyb
    · exact h.place x (List.mem_append_right _ hx) b hb
theorem St.unbundle (h:St C (eBun θ κ :: η) ι w):St C (θ ++ η) (κ ++ ι) w:=by
  have hap:=List.pairwise_cons.1 h.apart
  have hb:=h.ents _ List.mem_cons_self
  refine ⟨h.os,h.tape,h.output,h.size,h.old,fun x hx=>?_,fun x hx b hxb=>?_,List.pairwise_append.2 ⟨hb.2.1,hap.2,fun x hx y hy b hxb hyb=>hap.1 y hy b ⟨x,hx,hxb⟩ hyb⟩,fun f hf=>?_⟩
  · rcases List.mem_append.1 hx with hx | hx
    · exact x.sub (hb.1 x hx) fun _=>im_bun.2
    · exact x.sub (h.ents x (List.mem_cons_of_mem _ hx)) fun _=>im_bun.2
  · rcases List.mem_append.1 hx with hx | hx
    · exact h.place _ List.mem_cons_self b ⟨x,hx,hxb⟩
    · exact h.place x (List.mem_cons_of_mem _ hx) b hxb
  · rcases List.mem_append.1 hf with hf | hf
    · exact f.sub (hb.2.2 f hf) fun _=>im_bun.2
    · exact f.sub (h.facts f hf) fun _=>im_bun.2
theorem St.putLoop {l:Nat} {r r':Loop} {F:Ent → List Ent} (h:St C η ι w) (hs:SwF η (eLoop l r) F):St C (F (eLoop l r')) ι (w.putObj l (.loop r')):=by
  have hl:w.heap[l]? = some (.loop r):=h.ents _ hs.mem
  exact h.sw (hs _) rfl rfl ⟨rfl,Nat.le_refl _⟩ (by simp) (fun b _ hne=>World.putObj_heap_other fun e=>hne (by subst e; rfl)) (World.putObj_heap_same (Array.getElem?_eq_some_iff.1 hl).1) (fun b hb=>.inl hb)
theorem St.takeDef {r:Nat} (h:St C (eDef r :: η) ι w):St C η ι (w.putObj r (.deferred none)):=by
  have hl:w.heap[r]? = some (.deferred (some [])):=h.ents _ List.mem_cons_self
  let e':Ent:=⟨fun x=>some r = some x,fun w _=>w.heap[r]? = some (.deferred none),fun hk hb=>by
    simp only [Option.some.injEq] at hb
    subst hb
    exact (Array.getElem?_eq_some_iff.1 hk).1,fun hk hs _=>(hs r rfl).trans hk,fun hk _=>hk⟩
  exact (h.sw (e':=e') (w':=w.putObj r (.deferred none)) Sw.head rfl rfl ⟨rfl,Nat.le_refl _⟩ (by simp) (fun b _ hne=>World.putObj_heap_other fun e=>hne (by subst e; rfl)) (World.putObj_heap_same (Array.getElem?_eq_some_iff.1 hl).1) (fun b hb=>.inl hb)).tail
def YT (P:Program) (l:Nat) (args:List Value) (w:World) (R:Ending → World → Prop):Prop :=
  ∃ f tmps assign body,(Instr.yield l args.toArray).run P w = .ok (.round l f tmps assign body) w ∧ RoundIn Fence.wide 0 P l f tmps assign body w R
def YPost {S O:Type} (E:S → Ent → Prop) (EO:O → Ent → Prop):S ⊕ O → Value → List Ent → List Fact → Prop
  | .inl s,v,θ,κ=>v = .bool true ∧ κ = [] ∧ ∃ e,E s e ∧ θ = [e]
  | .inr o,v,θ,κ=>v = .bool false ∧ κ = [] ∧ ∃ e,EO o e ∧ θ = [e]
def YOk {X Z S O:Type} (P:Program) (l:Nat) (enc:X → List Value) (pr:X → Z) (fx:X → List Fact) (Y:Z → S → Option (S ⊕ O)) (E:S → Ent → Prop) (EO:O → Ent → Prop):Prop :=
  ∀ x s r e,Y (pr x) s = some r → E s e → SpecT (YT P l (enc x)) [e] (fx x) (YPost E EO r)
theorem act_yield {X Z S O:Type} {l:Nat} {enc:X → List Value} {pr:X → Z} {fx:X → List Fact} {Y:Z → S → Option (S ⊕ O)} {E:S → Ent → Prop} {EO:O → Ent → Prop} (hY:YOk P l enc pr fx Y E EO) (x:X) {s:S} {r:S ⊕ O} {e:Ent} (h:Y (pr x) s = some r) (hE:E s e)
    {xo:Operand} {xs:List Operand} {ts:Array TypeId} {ηr:List Ent} (hx:ev σ xo = some (.func (.yield l) #[] #[])) (hvs:evL σ xs = some (enc x)) (hη:Rem η e ηr) (hk:AllIn (fx x) ι) :
    ActOk P C ⟨d,.call { callee:=.value xo,args:=xs.toArray,argTypes:=ts },ty,pos,af,gd⟩ σ η ι (fun v θ' κ'=>∃ θ κ,YPost E EO r v θ κ ∧ θ' = θ ++ ηr ∧ κ' = ι):=fun ρ w hρ hst=>by
  have hm:=evL_map hρ hvs
  have hst2:St C ([e] ++ ηr) ι w:=hst.perm hη.perm
  obtain ⟨f,tmps,assign,body,hr,hR⟩:=hst2.callT (T:=YT P l (enc x)) (fun ⟨f,tmps,assign,body,h1,h2⟩ hr=>⟨f,tmps,assign,body,h1,h2.mono hr⟩) (hY x s r e h hE) [] (fun _ h=>by cases h) fun g hg=>.inl (hk.all g hg)
  have hr2:(execOp ρ ⟨d,.call { callee:=.value xo,args:=xs.toArray,argTypes:=ts },ty,pos,af,gd⟩).run P w = .ok (.round l f tmps assign body) w:=by
    simp [execOp,resolve,hρ _ _ hx,Deferred.ofValue,invoke,hm,hr]
  rw [hr2]
  refine hR.mono ?_
  rintro en w' ⟨v,θ,κ,rfl,hp,_,hs⟩
  refine ⟨v,rfl,_,_,⟨θ,κ,hp,rfl,rfl⟩,?_⟩
  have hs':=hs rfl
  have hκ:κ = []:=by cases r <;> exact hp.2.1
  subst hκ
  exact hs'
structure LF where
  fn:FuncId
  tmps:Array Value
  ps:Array Tmp
  assign:Code
  body:Code
  df:Nat
def LF.at (L:LF) (st:LoopState) (pe:Option Code):Loop:={ state:=st,pending:=pe,fn:=L.fn,tmps:=L.tmps,params:=L.ps,assign:=L.assign,body:=L.body,defers:=L.df }
def BeginQ (P:Program) (l:Nat) (ro:Option Nat) (body:Code) (Q:Exit → Act → World → Prop) (a:Act) (w:World):Prop :=
  ∃ w₂,(Instr.beginRound l).run P w = .ok () w₂ ∧ body.wpIn (FW ro) 0 P Q a w₂
theorem pn_begin {l:Nat} {L:LF} {body:Code} {Q':Exit → Act → World → Prop} {F:Ent → List Ent} (hs:SwF η (eLoop l (L.at .ready none)) F) (h:WC P C n body Q σ (F (eLoop l (L.at .busy none))) ι):PN C n (Exit.then (BeginQ P l n.ro body Q) Q') .normal σ η ι:=fun a _ hf hst =>
  ⟨_,run_beginRound (hst.ents _ hs.mem) rfl,h a _ hf (hst.putLoop hs)⟩
theorem pn_roundN {l:Nat} {L:LF} {R:Ending → World → Prop} {F:Ent → List Ent} (hs:SwF η (eLoop l (L.at .busy none)) F) (h:∀ w,St C (F (eLoop l (L.at .ready none))) ι w → R (.returned (.bool true)) w):PN C n (roundPost P l R) .normal σ η ι:=fun _ _ _ hst =>
  ⟨_,_,run_endRound none (hst.ents _ hs.mem),h _ (hst.putLoop hs)⟩
def RQ {S O:Type} (C:Cx) (l:Nat) (L:LF) (EI:S → List Ent → List Fact → Prop) (EX:O → Code → List Ent → List Fact → Prop):S ⊕ O → Ending → World → Prop
  | .inl s,en,w=>en = .returned (.bool true) ∧ ∃ θ κ,EI s θ κ ∧ St C (eLoop l (L.at .ready none) :: θ) κ w
  | .inr o,en,w=>en = .returned (.bool false) ∧ ∃ c θ κ,EX o c θ κ ∧ St C (eLoop l (L.at .done (some c)) :: θ) κ w
def SeqPost {S O:Type} (E:S → Ent → Prop) (EO:O → Ent → Prop) (θc:List Ent):S ⊕ O → Value → List Ent → List Fact → Prop
  | .inl s,_,θ,κ=>κ = [] ∧ ∃ e,E s e ∧ θ = e :: θc
  | .inr o,_,θ,κ=>κ = [] ∧ ∃ e,EO o e ∧ θ = e :: θc
def SeqOk {X Z:Type} (P:Program) (f:FuncId) (cap:List Value) (θc:List Ent) (ι:List Fact) (enc:X → List Value) (pr:X → Z) (fx:X → List Fact) (run:{S O:Type} → (Z → S → Option (S ⊕ O)) → S → Option (S ⊕ O)):Prop :=
  ∀ (S O:Type) (l:Nat) (Y:Z → S → Option (S ⊕ O)) (E:S → Ent → Prop) (EO:O → Ent → Prop),YOk P l enc pr fx Y E EO → ∀ s r e,run Y s = some r → E s e → Spec P f (.func (.yield l) #[] #[] :: cap) (e :: θc) ι (SeqPost E EO θc r)
def zipσ:List Nat → List Value → List (Nat × Value) → List (Nat × Value)
  | p :: ps,v :: vs,σ=>zipσ ps vs ((p,v) :: σ)
  | _,_,σ=>σ
theorem zip_fr {ro:Option Nat} {sz:Nat}:∀ {ps:List Nat} {vs:List Value} {σ:List (Nat × Value)} {t:Array Value},(∀ p ∈ ps,p < sz) → Fr ⟨sz,[],ro⟩ σ { tmps:=t,defers:=[] } → Fr ⟨sz,[],ro⟩ (zipσ ps vs σ) { tmps:=(ps.zip vs).foldl (fun t (p:Nat × Value)=>t.setIfInBounds p.1 p.2) t,defers:=[] }
  | [],_,_,_,_,h=>h
  | _ :: _,[],_,_,_,h=>h
  | p :: ps,v :: vs,σ,t,hp,h=>by
    simp only [List.zip_cons_cons,List.foldl_cons,zipσ]
    exact zip_fr (fun q hq=>hp q (List.mem_cons_of_mem _ hq)) (h.put (hp p List.mem_cons_self) v)
theorem wc_rangeFunc {X Z S O:Type} {gf:FuncId} {cap:List Value} {ps:List Nat} {assign body:Code} {g:Operand} {sz:Nat} {ms:List Nat} {enc:X → List Value} {pr:X → Z} {fx:X → List Fact} {run:{S O:Type} → (Z → S → Option (S ⊕ O)) → S → Option (S ⊕ O)} {θc:List Ent} {κc:List Fact}
    (seq:SeqOk P gf cap θc κc enc pr fx run) (hg:ev σ g = some (.func (.func gf) #[] cap.toArray)) (hb:bodyB P gf = true) (hps:∀ x,(enc x).length = ps.length) (hsz:(ps.all fun p=>Nat.blt p sz) = true) (hκc:∀ f ∈ κc,f ∈ ι)
    (Y:Z → S → Option (S ⊕ O)) (EI:S → List Ent → List Fact → Prop) (EX:O → Code → List Ent → List Fact → Prop) (s0:S) (r:S ⊕ O) (hrun:run Y s0 = some r)
    {θ₀ ηr:List Ent} {κ₀:List Fact} (h0:EI s0 θ₀ κ₀) (hη:∀ w,St C η ι w → St C (θ₀ ++ (θc ++ ηr)) ι w) (hκ:∀ f ∈ κ₀,f ∈ ι)
    (round:∀ (C':Cx) (l:Nat) (L:LF) (x:X) (s:S) (r':S ⊕ O) (θ:List Ent) (κ:List Fact),Y (pr x) s = some r' → EI s θ κ →
      WC P C' ⟨sz,[],some l⟩ assign (Exit.then (BeginQ P l (some l) body (roundPost P l (RQ C' l L EI EX r'))) (fun _ _ _=>False)) (zipσ ps (enc x) σ) (eLoop l (L.at .ready none) :: θ) (κ ++ fx x))
    (done:∀ m s θ κ,r = .inl s → EI s θ κ → PN C ⟨sz,m :: ms,none⟩ Q .normal σ (θ ++ (θc ++ eDef m :: ηr)) (κ ++ ι))
    (jump:∀ m o c θ κ,r = .inr o → EX o c θ κ → WC P C ⟨sz,m :: ms,none⟩ c Q σ (θ ++ (θc ++ eDef m :: ηr)) (κ ++ ι)) :
    WC P C ⟨sz,ms,none⟩ (.rangeFunc g ps.toArray assign body) Q σ η ι:=by
  intro a w hf hst
  refine wpIn_rangeFunc ?_
  intro fn _
  let L:LF:=⟨fn,a.tmps,ps.toArray,assign,body,w.heap.size⟩
  have hst1:St C (eLoop (w.heap.size + 1) (L.at .ready none) :: eDef w.heap.size :: (θ₀ ++ (θc ++ ηr))) ι ((w.alloc (.deferred (some []))).alloc (.loop (L.at .ready none))):=by
    have h1:=(hη w hst).allocO (.deferred (some [])) (eDef w.heap.size) rfl (heap_alloc_new w _)
    have h2:=h1.allocO (.loop (L.at .ready none)) (eLoop (w.alloc (.deferred (some []))).heap.size (L.at .ready none)) rfl (heap_alloc_new _ _)
    have e:(w.alloc (.deferred (some []))).heap.size = w.heap.size + 1:=World.size_alloc _ _
    rw [e] at h2
    exact h2
  let E:S → Ent → Prop:=fun s e=>∃ θ κ,EI s θ κ ∧ e = eBun (eLoop (w.heap.size + 1) (L.at .ready none) :: θ) κ
  let EO:O → Ent → Prop:=fun o e=>∃ c θ κ,EX o c θ κ ∧ e = eBun (eLoop (w.heap.size + 1) (L.at .done (some c)) :: θ) κ
  have hst2:St C (eBun (eLoop (w.heap.size + 1) (L.at .ready none) :: θ₀) κ₀ :: (θc ++ eDef w.heap.size :: ηr)) ι ((w.alloc (.deferred (some []))).alloc (.loop (L.at .ready none))):=by
    refine St.bundle (hst1.perm ?_) hκ
    refine List.Perm.cons _ (List.perm_middle.symm.trans ?_)
    refine List.Perm.append_left _ ?_
    exact List.perm_middle.symm
  have hfr0:∀ l,Fr ⟨sz,[],some l⟩ σ { tmps:=a.tmps,defers:=[] }:=fun l=>⟨rfl,hf.size,hf.at_⟩
  have hY:YOk P (w.heap.size + 1) enc pr fx Y E EO:=by
    rintro x s r' e hy ⟨θ,κ,hE,rfl⟩ C' hM hs'
    have hs2:St C' (eLoop (w.heap.size + 1) (L.at .ready none) :: θ) (κ ++ fx x) C'.W0:=by
      have:=hs'.unbundle
      simpa using this
    have hl:=hs2.ents _ List.mem_cons_self
    have hy2:=run_yield (P:=P) (args:=(enc x).toArray) hl (by simp [LF.at,L,hps x])
    refine ⟨_,_,_,_,hy2,roundIn_of_wpIn (F:=Fence.wide) trivial ?_⟩
    have hw:=round C' (w.heap.size + 1) L x s r' θ κ hy hE { tmps:=((ps.zip (enc x)).foldl (fun t (p:Nat × Value)=>t.setIfInBounds p.1 p.2) a.tmps),defers:=[] } C'.W0 (zip_fr (fun p hp=>by simpa [Nat.blt_eq] using List.all_eq_true.1 hsz p hp) (hfr0 _)) hs2
    have et:(ps.toArray.zip (enc x).toArray).foldl (fun (tmps:Array Value) (x:Nat × Value)=>match x with | (t,a)=>tmps.setIfInBounds t a) a.tmps = (ps.zip (enc x)).foldl (fun t (p:Nat × Value)=>t.setIfInBounds p.1 p.2) a.tmps:=by
      rw [List.zip_toArray,List.foldl_toArray]
    rw [show (L.at .ready none).params = ps.toArray from rfl,show (L.at .ready none).tmps = a.tmps from rfl,et]
    refine Code.wpIn_mono ?_ hw
    intro en a1 w1 hq
    cases en <;> try exact hq.elim
    obtain ⟨w2,hb2,hq2⟩:=hq
    refine ⟨w2,hb2,Code.wpIn_mono ?_ hq2⟩
    intro en2 a2 w3 hq3
    have hR:∀ en3 w4,RQ C' (w.heap.size + 1) L EI EX r' en3 w4 → ∃ v θ κ,en3 = .returned v ∧ YPost E EO r' v θ κ ∧ St C' θ κ w4:=by
      intro en3 w4 hr
      cases r' with
      | inl s' =>
        obtain ⟨rfl,θ',κ',hE',hs3⟩:=hr
        refine ⟨_,_,_,rfl,⟨rfl,rfl,_,⟨θ',κ',hE',rfl⟩,rfl⟩,?_⟩
        have:=St.bundle (η:=[]) (κ:=κ') (by simpa using hs3) fun _ h=>h
        exact this.subFacts fun _ h=>by cases h
      | inr o =>
        obtain ⟨rfl,c,θ',κ',hE',hs3⟩:=hr
        refine ⟨_,_,_,rfl,⟨rfl,rfl,_,⟨c,θ',κ',hE',rfl⟩,rfl⟩,?_⟩
        have:=St.bundle (η:=[]) (κ:=κ') (by simpa using hs3) fun _ h=>h
        exact this.subFacts fun _ h=>by cases h
    cases en2 <;> first
      | exact hq3.elim
      | (obtain ⟨v,w4,h1,h2⟩:=hq3; exact ⟨v,w4,h1,hR _ _ h2⟩)
  have hcall:=hst2.call (θ₀:=eBun (eLoop (w.heap.size + 1) (L.at .ready none) :: θ₀) κ₀ :: θc) (ηr:=eDef w.heap.size :: ηr) (seq S O _ Y E EO hY s0 r _ hrun ⟨θ₀,κ₀,h0,rfl⟩) hκc
  refine ⟨w.heap.size + 1,[markD w.heap.size],(w.alloc (.deferred (some []))).alloc (.loop (L.at .ready none)),{ target:=.fn (.func gf) cap.toArray,args:=#[.func (.yield (w.heap.size + 1)) #[] #[]] },(w.alloc (.deferred (some []))).alloc (.loop (L.at .ready none)),gf,(.func (.yield (w.heap.size + 1)) #[] #[] :: cap).toArray,(w.alloc (.deferred (some []))).alloc (.loop (L.at .ready none)),run_enterLoop_outer fn a.tmps ps.toArray assign body,?_,fun _ _=>trivial,?_,fun h=>(by cases h),?_⟩
  · simp only [resolve,hf.eval hg]
    simp [go_sem]
  · simp [invoke,go_sem,run_callFunc hb]
  · refine CallsIn.mono (F:=Fence.wide) (callsIn_wide.2 hcall) ?_
    rintro en w' ⟨v,θ,κ,rfl,hp,hs3⟩
    have hfr:Fr ⟨sz,w.heap.size :: ms,none⟩ σ { a with defers:=[markD w.heap.size] ++ a.defers }:=⟨by simp [hf.defers],hf.size,hf.at_⟩
    cases r with
    | inl s' =>
      obtain ⟨rfl,e,⟨θ',κ',hE',rfl⟩,rfl⟩:=hp
      have hs4:=hs3.unbundle
      have hl:=hs4.ents (eLoop (w.heap.size + 1) (L.at .ready none)) (by simp)
      refine ⟨none,_,run_endLoop hl (by simp [LF.at]),?_⟩
      have hs5:=(St.putLoop (η:=eLoop (w.heap.size + 1) (L.at .ready none) :: (θ' ++ (θc ++ eDef w.heap.size :: ηr))) (r':={ L.at .ready none with state:=.exhausted }) (by simpa using hs4) SwF.head).tail
      exact done _ s' θ' κ' rfl hE' _ _ hfr hs5
    | inr o =>
      obtain ⟨rfl,e,⟨c,θ',κ',hE',rfl⟩,rfl⟩:=hp
      have hs4:=hs3.unbundle
      have hl:=hs4.ents (eLoop (w.heap.size + 1) (L.at .done (some c))) (by simp)
      refine ⟨some c,_,run_endLoop hl (by simp [LF.at]),?_⟩
      have hs5:=(St.putLoop (η:=eLoop (w.heap.size + 1) (L.at .done (some c)) :: (θ' ++ (θc ++ eDef w.heap.size :: ηr))) (r':={ L.at .done (some c) with state:=.exhausted }) (by simpa using hs4) SwF.head).tail
      exact jump _ o c θ' κ' rfl hE' _ _ hfr hs5
theorem pn_retM {sz m:Nat} {ms:List Nat} {ro:Option Nat} {fn:Func} {R:Ending → World → Prop} {η':List Ent} (hr:Rem η (eDef m) η') (h:PN C ⟨sz,ms,ro⟩ (bodyPostM Fence.wide 0 P fn R) .ret σ η' ι):PN C ⟨sz,m :: ms,ro⟩ (bodyPostM Fence.wide 0 P fn R) .ret σ η ι:=by
  intro a w hf hst
  show LeavesInM Fence.wide 0 P fn a.tmps _ a.defers .returning w
  rw [hf.defers]
  have hst2:=hst.perm hr.perm
  refine ⟨by simp,.inl ⟨m,_,rfl,run_takeDeferred (hst2.ents _ List.mem_cons_self),?_⟩⟩
  exact h { a with defers:=ms.map markD } _ ⟨rfl,hf.size,hf.at_⟩ hst2.takeDef
end
end Go.Proofs.YtdenliplkmjmjaaGreat
namespace Go.Proofs.YtdenliplkmjmjaaGreat
open Go.RowKit
section
variable {P:Program} {C:Cx} {n:FN} {Q:Exit → Act → World → Prop} {σ:List (Nat × Value)} {η:List Ent} {ι:List Fact}
def okD (o:Oper) (sz:Nat):Option Nat:=match o.guard,o.dst with
  | none,some d=>bif Nat.blt d sz then some d else none
  | _,_=>none
def ok0 (o:Oper):Bool:=match o.guard,o.dst with
  | none,none=>true
  | _,_=>false
theorem okD_spec {o:Oper} {sz d:Nat} (h:okD o sz = some d):o.dst = some d ∧ o.guard = none ∧ Nat.blt d sz = true:=by
  unfold okD at h
  split at h
  · rename_i d' hg hd
    cases hb:Nat.blt d' sz with
    | false=>rw [hb] at h; cases h
    | true=>rw [hb] at h; cases h; exact ⟨hd,hg,hb⟩
  · cases h
theorem ok0_spec {o:Oper} (h:ok0 o = true):o.dst = none ∧ o.guard = none:=by
  unfold ok0 at h
  split at h
  · rename_i hg hd
    exact ⟨hd,hg⟩
  · cases h
theorem D {ops:Array Oper} {o:Oper} {rest:List Oper} {v:Value} {d:Nat} (hc:okD o n.sz = some d) (h:Det P C o σ η ι v) (k:WL P C n ops Q rest ((d,v) :: σ) η ι):WL P C n ops Q (o :: rest) σ η ι :=
  have ⟨h1,h2,h3⟩:=okD_spec hc
  wl_det h1 h2 h h3 k
theorem Ac {ops:Array Oper} {o:Oper} {rest:List Oper} {d:Nat} {R:Value → List Ent → List Fact → Prop} (hc:okD o n.sz = some d) (h:ActOk P C o σ η ι R) (k:∀ v θ κ,R v θ κ → WL P C n ops Q rest ((d,v) :: σ) θ κ):WL P C n ops Q (o :: rest) σ η ι :=
  have ⟨h1,h2,h3⟩:=okD_spec hc
  wl_act h h1 h2 h3 k
theorem Az {ops:Array Oper} {o:Oper} {rest:List Oper} {R:Value → List Ent → List Fact → Prop} (hc:ok0 o = true) (h:ActOk P C o σ η ι R) (k:∀ v θ κ,R v θ κ → WL P C n ops Q rest σ θ κ):WL P C n ops Q (o :: rest) σ η ι :=
  have ⟨h1,h2⟩:=ok0_spec hc
  wl_act0 h h1 h2 k
def gdB (ops:Array Oper) (o:Oper):Option (Nat × Bool):=match o.guard with
  | some (j,b)=>match ops[j]? with
    | some og=>match og.dst with
      | some g=>some (g,b)
      | none=>none
    | none=>none
  | none=>none
theorem gdB_spec {ops:Array Oper} {o:Oper} {g:Nat} {b:Bool} (h:gdB ops o = some (g,b)):∃ j og,o.guard = some (j,b) ∧ ops[j]? = some og ∧ og.dst = some g:=by
  unfold gdB at h
  split at h
  · rename_i j b' hg
    split at h
    · rename_i og ho
      split at h
      · rename_i g' hd
        cases h
        exact ⟨j,og,hg,ho,hd⟩
      · cases h
    · cases h
  · cases h
theorem Gn {ops:Array Oper} {o:Oper} {rest:List Oper} {g:Nat} {b x:Bool} (hc:gdB ops o = some (g,b)) (hv:look σ g = some (.bool x)) (hx:x = b) (k:WL P C n ops Q ({ o with guard:=none } :: rest) σ η ι):WL P C n ops Q (o :: rest) σ η ι:=by
  obtain ⟨j,og,h1,h2,h3⟩:=gdB_spec hc
  exact wl_on h1 h2 h3 hv hx k
def dzB (o:Oper) (sz:Nat):Option Nat:=match o.dst with
  | some d=>bif Nat.blt d sz then some d else none
  | none=>none
theorem dzB_spec {o:Oper} {sz d:Nat} (h:dzB o sz = some d):o.dst = some d ∧ Nat.blt d sz = true:=by
  unfold dzB at h
  split at h
  · rename_i d' hd
    cases hb:Nat.blt d' sz with
    | false=>rw [hb] at h; cases h
    | true=>rw [hb] at h; cases h; exact ⟨hd,hb⟩
  · cases h
theorem Gf {ops:Array Oper} {o:Oper} {rest:List Oper} {d g:Nat} {b x:Bool} (hd:dzB o n.sz = some d) (hc:gdB ops o = some (g,b)) (hv:look σ g = some (.bool x)) (hx:x = !b) (k:WL P C n ops Q rest ((d,undef) :: σ) η ι):WL P C n ops Q (o :: rest) σ η ι:=by
  obtain ⟨j,og,h1,h2,h3⟩:=gdB_spec hc
  obtain ⟨h4,h5⟩:=dzB_spec hd
  exact wl_off h4 h1 h2 h3 hv hx h5 k
theorem Sb {τ:List (Nat × Value)} (h:(τ.map fun p=>look σ p.1) = τ.map fun p=>some p.2):Subs τ σ:=by
  induction τ with
  | nil=>trivial
  | cons p τ ih =>
    simp only [List.map_cons,List.cons.injEq] at h
    exact ⟨h.1,ih h.2⟩
theorem Ex {τ:List (Nat × Value)} (k:Nat) (h1:((σ.take k).all fun p=>(look τ p.1).isNone) = true) (h2:σ.drop k = τ):Ext τ σ:=by
  induction k generalizing σ with
  | zero=>subst h2; exact ext_refl
  | succ k ih =>
    cases σ with
    | nil=>subst h2; exact ext_refl
    | cons p σ =>
      simp only [List.take_succ_cons,List.all_cons,Bool.and_eq_true] at h1
      exact ext_skip (Option.isNone_iff_eq_none.1 h1.1) (ih h1.2 h2)
theorem On1 {l:List Value} (h:(l.all fun u=>u.oneCell') = true):Ones l:=by
  induction l with
  | nil=>trivial
  | cons u l ih =>
    simp only [List.all_cons,Bool.and_eq_true] at h
    exact ⟨h.1,ih h.2⟩
def noSel (o:Oper):Bool:=match o.op with
  | .select _ _=>false
  | _=>true
theorem noSel_spec {o:Oper} (h:noSel o = true):∀ cs b,o.op ≠ .select cs b:=fun cs b hc=>by
  unfold noSel at h
  rw [hc] at h
  cases h
theorem Hd {ops:Array Oper} {A:List (List Nat)} {K:List (Nat × Value) → List Ent → List Fact → Prop} {i d:Nat} {o:Oper} {r:Plan} {η₀:List Ent} {ι₀:List Fact} {v:Value} (ho:ops[i]? = some o) (hc:okD o n.sz = some d) (hs:noSel o = true) (h:Det P C o σ η₀ ι₀ v)
    (k:HX P C n ops A K r ((d,v) :: σ) η ι (St C η₀ ι₀)):HX P C n ops A K (.det i r) σ η ι (St C η₀ ι₀) :=
  have ⟨h1,h2,h3⟩:=okD_spec hc
  hx_det ho h1 h2 (noSel_spec hs) h h3 k
theorem na {α:Type} (a:List α):[] ++ a = a:=rfl
theorem ca {α:Type} (x:α) (a b:List α):(x :: a) ++ b = x :: (a ++ b):=rfl
end
abbrev Wq:=@wc_seq
abbrev Wr:=@wc_region
abbrev Wb:=@wc_block
abbrev Wk:=@wc_skip
abbrev We:=@wc_exit
abbrev Wt:=@wc_ret
abbrev Pt:=@pn_then
abbrev Pb:=@pn_block
abbrev Xt:=@px_then
abbrev Xb:=@px_block
abbrev Rt:=@pr_then
abbrev Rb:=@pr_block
abbrev Wn:=@wl_nil
abbrev mv:=@det_move
abbrev ag:=@det_assign
abbrev fd:=@det_field
abbrev ld:=@det_load
abbrev bs:=@bind_some
theorem si {α:Type} {a b:α} (h:some a = some b):a = b:=Option.some.inj h
end Go.Proofs.YtdenliplkmjmjaaGreat
namespace Go.Proofs.YtdenliplkmjmjaaGreat
open Go.RowKit Go.Sort Go.Shelf Go.Lib
def AllX:List Ent → Prop
  | []=>True
  | e :: θ=>(∃ b t cs,e = eBlk b t cs) ∧ AllX θ
theorem AllX.exact:∀ {θ:List Ent},AllX θ → ∀ e ∈ θ,∃ b t cs,e = eBlk b t cs
  | [],_,_,h=>by cases h
  | x :: θ,h,e,he=>by
    rcases List.mem_cons.1 he with rfl | he
    · exact h.1
    · exact AllX.exact h.2 e he
theorem grow_of {W w':World} (h1:w'.os = W.os) (h2:w'.tape = W.tape) (h3:w'.output = W.output) (h4:W.drawn ≤ w'.drawn) (h5:W.heap.size ≤ w'.heap.size) (h6:∀ b,b < W.heap.size → w'.heap[b]? = W.heap[b]?) :
    ∃ q os',w' = grow (W.drewN q) os':=by
  refine ⟨w'.drawn - W.drawn,w'.heap.extract W.heap.size w'.heap.size,?_⟩
  obtain ⟨hp,tp,dr,o,out⟩:=w'
  simp only at h1 h2 h3 h4 h5 h6
  subst h1 h2 h3
  simp only [grow,World.drewN,World.mk.injEq,true_and,and_true]
  refine ⟨?_,by omega⟩
  apply Array.ext
  · simp
    omega
  · intro i hi1 hi2
    by_cases hi:i < W.heap.size
    · have:=h6 i hi
      rw [Array.getElem?_eq_getElem hi1,Array.getElem?_eq_getElem hi] at this
      rw [Array.getElem_append_left hi]
      exact Option.some.inj this
    · rw [Array.getElem_append_right (by omega)]
      simp only [Array.getElem_extract]
      congr 1
      omega
section
variable {P:Program} {C:Cx}
theorem reads_of {g:FuncId} {args:List Value} {e0:Ent} {θ₀:List Ent} {κ₀:List Fact} {r:Value} {blk:Nat} {w W:World} (hx:AllX θ₀)
    (hst:St C (e0 :: θ₀) κ₀ w) (hb0:e0.own = fun x=>some blk = some x) (hsz:w.heap.size ≤ W.heap.size) (hsame:∀ b,b < w.heap.size → b ≠ blk → W.heap[b]? = w.heap[b]?)
    (hc:Spec P g args θ₀ κ₀ fun v θ κ=>v = r ∧ θ = θ₀ ∧ κ = []) :
    Calls P g args.toArray W fun e w'=>e = .returned r ∧ ∃ q os',w' = grow (W.drewN q) os':=by
  have hap:=List.pairwise_cons.1 hst.apart
  have hne:∀ h ∈ θ₀,∀ b,h.own b → b ≠ blk:=fun h hh b hb hbb=>hap.1 h hh blk (by rw [hb0]) (hbb ▸ hb)
  have hS:Same (Im C (e0 :: θ₀) w) w W:=fun b hb=>hsame b hb.1 fun e=>hb.2.2 e0 (by simp) (by rw [hb0,e])
  have hsub:∀ b,Im C (e0 :: θ₀) w b → Im ⟨W,Im C (e0 :: θ₀) w,Blocks θ₀⟩ θ₀ W b:=fun b hb=>⟨Nat.lt_of_lt_of_le hb.1 hsz,.inr (.inl hb),fun h hh=>hb.2.2 h (List.mem_cons_of_mem _ hh)⟩
  have hst2:St ⟨W,Im C (e0 :: θ₀) w,Blocks θ₀⟩ θ₀ κ₀ W:=by
    refine ⟨rfl,rfl,⟨rfl,Nat.le_refl _⟩,Nat.le_refl _,fun _ _ _=>rfl,fun h hh=>?_,fun h hh b hb=>.inr ⟨h,hh,hb⟩,hap.2,fun f hf=>f.sub (f.keep (hst.facts f hf) hS) hsub⟩
    have hk:=hst.ents h (List.mem_cons_of_mem _ hh)
    exact h.sub (h.keep hk (fun b hb=>hsame b (h.lt hk hb) (hne h hh b hb)) hS) hsub
  refine (hc _ (fun _=>Iff.rfl) hst2).mono ?_
  rintro e w' ⟨v,θ,κ,rfl,⟨rfl,rfl,rfl⟩,hs⟩
  refine ⟨rfl,grow_of hs.os hs.tape hs.output.1 hs.output.2 hs.size fun b hb=>?_⟩
  by_cases hB:Blocks θ b
  · obtain ⟨h,hh,hbb⟩:=hB
    obtain ⟨b',t,cs,rfl⟩:=hx.exact h hh
    simp only [eBlk,Option.some.injEq] at hbb
    subst hbb
    have h1:w'.heap[b']? = some (.cells cs.toArray t (0,0)):=hs.ents _ hh
    have h2:W.heap[b']? = some (.cells cs.toArray t (0,0)):=hst2.ents _ hh
    rw [h1,h2]
  · exact hs.old b hb hB
theorem qahf {α:Type} [Inhabited α] {enc:α → Value} {w:World} {blk off m:Nat} {d:Array α} {os:Array Obj} {b:Nat} (hb:b < w.heap.size) (hne:b ≠ blk):(sortWorld enc w blk off m d os).heap[b]? = w.heap[b]?:=by
  have h1:b < (w.heap.modify blk (onCells (putCells enc off d))).size:=by simpa using hb
  show ((w.heap.modify blk (onCells (putCells enc off d))) ++ os)[b]? = _
  rw [Array.getElem?_append_left h1,Array.getElem?_modify,if_neg (Ne.symm hne)]
theorem qahe {α:Type} [Inhabited α] {enc:α → Value} {w:World} {blk off m:Nat} {d:Array α} {os:Array Obj} {cur:Array Value} {t:TypeId} {fz:Nat × Nat} (h:w.heap[blk]? = some (.cells cur t fz)):(sortWorld enc w blk off m d os).heap[blk]? = some (.cells (putCells enc off d cur) t fz):=by
  have hb:blk < w.heap.size:=(Array.getElem?_eq_some_iff.1 h).1
  have h1:blk < (w.heap.modify blk (onCells (putCells enc off d))).size:=by simpa using hb
  show ((w.heap.modify blk (onCells (putCells enc off d))) ++ os)[blk]? = _
  rw [Array.getElem?_append_left h1,Array.getElem?_modify,if_pos rfl,h]
  rfl
theorem spec_sort1 {ρ:Ren} (hL:SlLaysF.n6 P ρ) {α:Type} {enc1:α → Value} {L:Lay α} {hl h1'} (hLy:L = lFlat (fun x=>[enc1 x]) 1 hl h1') (h1:∀ x,(enc1 x).oneCell' = true) {g:FuncId} {cap:List Value} {θ₀:List Ent} {κ₀:List Fact} {c:α → α → Option Int}
    (hg:bodyB P g = true) (hx:AllX θ₀) (hc:∀ x y r,c x y = some r → Spec P g ([enc1 x,enc1 y] ++ cap) θ₀ κ₀ fun v θ κ=>v = .int .i64 r ∧ θ = θ₀ ∧ κ = [])
    {e:TypeId} {xs ys:List α} (h:sortV c xs = some ys) (A:Option Addr) (n cc:Nat) :
    Spec P (ρ.f 6) [.slice A n cc,.func (.func g) #[] cap.toArray] (eS L e A n cc xs :: θ₀) κ₀ fun v θ κ=>v = .tuple #[] ∧ θ = eS L e A n cc ys :: θ₀ ∧ κ = []:=by
  intro C hM hst
  obtain ⟨hn,hk⟩:=hst.ents _ (List.mem_cons_self ..)
  by_cases hx0:xs = []
  · subst hx0
    rw [sortV_nil] at h
    cases h
    simp only [List.length_nil] at hn
    subst hn
    refine (AnyF.slices_SortFunc_none (P:=P) (ρ:=ρ) { hL with } A cc (.func (.func g) #[] cap.toArray) C.W0).mono ?_
    rintro e w' ⟨rfl,rfl⟩
    exact ⟨_,_,_,rfl,⟨rfl,rfl,rfl⟩,hst.subFacts fun _ hf=>by cases hf⟩
  · obtain ⟨ho,rfl⟩:=sortV_inv h hx0
    obtain ⟨hsize,-,-⟩:=sortedA_spec hx0 ho
    letI:Inhabited {x // x ∈ xs}:=⟨Classical.choice (ne_inh hx0)⟩
    have hpos:0 < xs.length:=List.length_pos_iff.2 hx0
    rcases hk with ⟨_,hk⟩ | ⟨hcc,cs,hk,hcl⟩
    · exact (hx0 hk).elim
    rcases hk.2 with ⟨_,h0⟩ | ⟨blk,cap',cur,hv,_,hheap,hnc,hcm,hcs,htk⟩
    · omega
    cases hv
    have hblk:blk < C.W0.heap.size:=(Array.getElem?_eq_some_iff.1 hheap).1
    have hLs:L.size = 1:=by rw [hLy]; rfl
    rw [hLs] at hcs htk
    simp only [Nat.mul_one] at hcs htk
    have hcell:∀ i (hi:i < xs.length),cur[i]? = some (enc1 xs[i]):=by
      intro i hi
      have h2:=hcl.2 i xs[i] (by simp [hi])
      rw [hLs] at h2
      have h3:(cs.drop (i * 1)).take 1 = [enc1 xs[i]]:=by rw [hLy] at h2; exact h2
      have h4:cs[i]? = some (enc1 xs[i]):=by
        have h5:=congrArg (fun l=>l[0]?) h3
        simpa using h5
      rw [← htk] at h4
      rw [List.getElem?_take_of_lt (by omega)] at h4
      simpa using h4
    have hd:xs.attach.toArray.size = n:=by simp [hn]
    have hH:Holds (fun x:{x // x ∈ xs}=>enc1 x.1) C.W0 blk 0 xs.attach.toArray:=by
      intro j hj
      have hj':j < xs.length:=by simpa using hj
      refine ⟨?_,by simp [World.frozen?,hheap]⟩
      rw [getElem!_pos _ j hj]
      simp [World.cell?,hheap,hcell j hj']
    have hne:(eS L e (some ⟨blk,0,none⟩) n cc xs).own = (fun x=>some blk = some x):=by simp [eS,hcc,Value.ownBlock]
    have hcmp:CmpLays1 P g cap.toArray (fun x:{x // x ∈ xs}=>enc1 x.1) (cfOf c xs) blk 0 xs.attach.toArray.size C.W0:=by
      intro m os dk hs x y
      have:=reads_of (P:=P) (W:=sortWorld (fun x:{x // x ∈ xs}=>enc1 x.1) C.W0 blk 0 m dk os) hx hst hne (by simp [sortWorld,size_grow,Sort.ahead]) (fun b hb hbn=>qahf hb hbn) (hc x.1 y.1 _ (cfOf_eq ho x y))
      simpa using this
    have hcon:=Any.slices_SortFunc_eq hL (fun x:{x // x ∈ xs}=>enc1 x.1) (fun x=>h1 x.1) (cfOf c xs) (cfOf_swo ho) g cap.toArray blk 0 cc xs.attach.toArray C.W0 (fun args w=>run_callFunc hg) hcmp hH hblk (by simpa using ho.len)
    rw [hd] at hcon
    refine hcon.mono ?_
    rintro ex w' ⟨rfl,m,os,hw⟩
    have hw2:w' = sortWorld (fun x:{x // x ∈ xs}=>enc1 x.1) C.W0 blk 0 m (sortedA c xs hx0) os:=by
      rw [hw]
      unfold sortedA
      rw [hd]
    clear hw
    generalize hsd:sortedA c xs hx0 = d at hw2 hsize ⊢
    refine ⟨_,_,_,rfl,⟨rfl,rfl,rfl⟩,?_⟩
    have hst3:St C (eS L e (some ⟨blk,0,none⟩) n cc (d.toList.map Subtype.val) :: θ₀) κ₀ w':=by
      refine hst.sw Sw.head (by rw [hw2]; rfl) (by rw [hw2]; rfl) ⟨by rw [hw2]; rfl,by rw [hw2]; show C.W0.drawn ≤ C.W0.drawn + m; omega⟩ (by rw [hw2]; simp [sortWorld,size_grow,Sort.ahead]) (fun b hb hbn=>?_) ?_ (fun b hb=>.inl ?_)
      · rw [hw2]
        exact qahf hb fun e=>hbn (by rw [hne,e])
      · refine ⟨by simp [hn,hsize],.inr ⟨hcc,d.toList.map fun x=>enc1 x.1,⟨by simp [hLs,hn,hsize],.inr ⟨blk,cc,putCells (fun x:{x // x ∈ xs}=>enc1 x.1) 0 d cur,rfl,Nat.zero_le _,by rw [hw2]; exact qahe hheap,hnc,hcm,by simp [putCells,hLs,hcs],?_⟩⟩,by simp [hLs],fun i x hxi=>?_⟩⟩
        · rw [hLs,Nat.mul_one]
          apply List.ext_getElem?
          intro i
          by_cases hi:i < n
          · have hid:i < d.size:=by omega
            have hic:i < cur.size:=by omega
            rw [List.getElem?_take_of_lt hi]
            simp [putCells,hic,hid]
          · rw [List.getElem?_take_eq_none (by omega)]
            symm
            simp
            omega
        · rw [hLs,hLy]
          show ((d.toList.map fun x=>enc1 x.1).drop (i * 1)).take 1 = [enc1 x]
          have hi:i < d.toList.length:=by
            have:=(List.getElem?_eq_some_iff.1 hxi).1
            simpa using this
          rw [List.getElem?_map,List.getElem?_eq_getElem hi] at hxi
          simp only [Option.map_some,Option.some.injEq] at hxi
          rw [Nat.mul_one,List.drop_eq_getElem_cons (by simpa using hi)]
          simp only [Array.getElem_toList] at hxi
          simp [← hxi]
      · rw [hne]
        show some blk = some b
        rw [← hb]
        simp [hcc,Value.ownBlock]
    exact hst3.subFacts fun _ hf=>by cases hf
end
end Go.Proofs.YtdenliplkmjmjaaGreat
namespace Go.Proofs.YtdenliplkmjmjaaGreat
open Go.RowKit Go.Sort Go.Shelf Go.Lib
section
variable {P:Program} {C:Cx}
theorem get_flatK? {α:Type} [Inhabited α] {enc:α → List Value} {z:Nat} (hz:∀ x,(enc x).length = z) {d:Array α} {i c:Nat} (hi:i < d.size) (hc:c < z):(flatK enc z d)[i * z + c]? = (enc d[i])[c]?:=by
  have lt:i * z + c < d.size * z:=by
    have:=Nat.mul_le_mul_right z (show i + 1 ≤ d.size from hi)
    rw [Nat.add_mul,Nat.one_mul] at this
    omega
  have hs:i * z + c < (flatK enc z d).size:=by rw [size_flatK]; exact lt
  have e1:(i * z + c) / z = i:=(blk_iff z i _ (by omega)).1 ⟨by omega,by omega⟩
  have e2:(i * z + c) % z = c:=by rw [Nat.mod_eq_sub_div_mul,e1]; omega
  have h:=get_flatK enc z d _ lt
  rw [e1,e2,getElem!_pos d i hi] at h
  have hc':c < (enc d[i]).length:=by rw [hz]; exact hc
  rw [getElem!_pos _ c hc',getElem!_pos (flatK enc z d) _ hs] at h
  rw [Array.getElem?_eq_getElem hs,List.getElem?_eq_getElem hc',h]
theorem spec_sortK {ρ:Ren} (hL:SlLaysF0.n6 P ρ) {α:Type} {enc:α → List Value} {z:Nat} {L:Lay α} {hl h1'} (hLy:L = lFlat enc z hl h1') (hag:isAggB P (ρ.t 24) = true) (hsz:sizeB P (ρ.t 24) = some z) {g:FuncId} {cap:List Value} {θ₀:List Ent} {κ₀:List Fact} {c:α → α → Option Int}
    (hg:bodyB P g = true) (hx:AllX θ₀) (hc:∀ x y r,c x y = some r → Spec P g ([.agg (enc x).toArray,.agg (enc y).toArray] ++ cap) θ₀ κ₀ fun v θ κ=>v = .int .i64 r ∧ θ = θ₀ ∧ κ = [])
    {e:TypeId} {xs ys:List α} (h:sortV c xs = some ys) (A:Option Addr) (n cc:Nat) :
    Spec P (ρ.f 6) [.slice A n cc,.func (.func g) #[] cap.toArray] (eS L e A n cc xs :: θ₀) κ₀ fun v θ κ=>v = .tuple #[] ∧ θ = eS L e A n cc ys :: θ₀ ∧ κ = []:=by
  intro C hM hst
  obtain ⟨hn,hk⟩:=hst.ents _ (List.mem_cons_self ..)
  by_cases hx0:xs = []
  · subst hx0
    rw [sortV_nil] at h
    cases h
    simp only [List.length_nil] at hn
    subst hn
    refine (AnyF.slices_SortFunc_none (P:=P) (ρ:=ρ) hL A cc (.func (.func g) #[] cap.toArray) C.W0).mono ?_
    rintro e w' ⟨rfl,rfl⟩
    exact ⟨_,_,_,rfl,⟨rfl,rfl,rfl⟩,hst.subFacts fun _ hf=>by cases hf⟩
  · obtain ⟨ho,rfl⟩:=sortV_inv h hx0
    obtain ⟨hsize,-,-⟩:=sortedA_spec hx0 ho
    letI:Inhabited {x // x ∈ xs}:=⟨Classical.choice (ne_inh hx0)⟩
    have hpos:0 < xs.length:=List.length_pos_iff.2 hx0
    rcases hk with ⟨_,hk⟩ | ⟨hcc,cs,hk,hcl⟩
    · exact (hx0 hk).elim
    rcases hk.2 with ⟨_,h0⟩ | ⟨blk,cap',cur,hv,_,hheap,hnc,hcm,hcs,htk⟩
    · omega
    cases hv
    have hblk:blk < C.W0.heap.size:=(Array.getElem?_eq_some_iff.1 hheap).1
    have hLs:L.size = z:=by rw [hLy]; rfl
    rw [hLs] at hcs htk
    have henc:∀ x:α,(enc x).length = z:=hl
    have hzn:n * z = xs.length * z:=by rw [hn]
    have hcell:∀ i (hi:i < xs.length) k,k < z → cur[i * z + k]? = (enc xs[i])[k]?:=by
      intro i hi k hk0
      have h2:=hcl.2 i xs[i] (by simp [hi])
      rw [hLs] at h2
      have h3:(cs.drop (i * z)).take z = enc xs[i]:=by rw [hLy] at h2; exact h2
      rw [← h3,List.getElem?_take_of_lt hk0,List.getElem?_drop,← htk]
      have lt:i * z + k < n * z:=by
        rw [hzn]
        have:=Nat.mul_le_mul_right z (show i + 1 ≤ xs.length from hi)
        rw [Nat.add_mul,Nat.one_mul] at this
        omega
      rw [List.getElem?_take_of_lt lt]
      simp
    have hd:xs.attach.toArray.size = n:=by simp [hn]
    have hH:HoldsK (fun x:{x // x ∈ xs}=>enc x.1) z C.W0 blk 0 xs.attach.toArray:=by
      intro j hj
      rw [size_flatK] at hj
      have hj':j < xs.length * z:=by simpa using hj
      have hz0:0 < z:=by
        rcases Nat.eq_zero_or_pos z with h0 | h0
        · subst h0; omega
        · exact h0
      have hi:j / z < xs.length:=Nat.div_lt_of_lt_mul (by rw [Nat.mul_comm]; exact hj')
      have hc0:j % z < z:=Nat.mod_lt _ hz0
      have hjj:j / z * z + j % z = j:=by rw [Nat.mul_comm]; exact Nat.div_add_mod j z
      refine ⟨?_,by simp [World.frozen?,hheap]⟩
      have h1:=hcell _ hi _ hc0
      have h2:=get_flatK? (enc:=fun x:{x // x ∈ xs}=>enc x.1) (fun x=>henc x.1) (d:=xs.attach.toArray) (i:=j / z) (c:=j % z) (by simpa using hi) hc0
      rw [hjj] at h1 h2
      have hsj:j < (flatK (fun x:{x // x ∈ xs}=>enc x.1) z xs.attach.toArray).size:=by rw [size_flatK]; exact hj
      rw [getElem!_pos _ j hsj]
      rw [Array.getElem?_eq_getElem hsj] at h2
      have h3:(enc xs.attach.toArray[j / z].1)[j % z]? = (enc xs[j / z])[j % z]?:=by simp
      rw [h3] at h2
      rw [← h2] at h1
      simp [World.cell?,hheap,h1]
    have hne:(eS L e (some ⟨blk,0,none⟩) n cc xs).own = (fun x=>some blk = some x):=by simp [eS,hcc,Value.ownBlock]
    have hcmp:CmpLays P g cap.toArray (fun x:{x // x ∈ xs}=>enc x.1) z (cfOf c xs) blk 0 xs.attach.toArray.size C.W0:=by
      intro m os dk hs x y
      have:=reads_of (P:=P) (W:=sortWorldK (fun x:{x // x ∈ xs}=>enc x.1) z C.W0 blk 0 m dk os) hx hst hne (show C.W0.heap.size ≤ (sortWorld id C.W0 blk 0 m (flatK (fun x:{x // x ∈ xs}=>enc x.1) z dk) os).heap.size by simp [sortWorld,size_grow,Sort.ahead]) (fun b hb hbn=>qahf (enc:=id) (d:=flatK (fun x:{x // x ∈ xs}=>enc x.1) z dk) hb hbn) (hc x.1 y.1 _ (cfOf_eq ho x y))
      simpa using this
    have hcon:=AnyQ.slices_SortFunc_eq hL z (fun w=>by
        unfold isAggB at hag
        cases hdd:P.underlying (ρ.t 24) with
        | none=>simp [hdd] at hag
        | some d0 =>
          simp only [hdd] at hag
          simp only [isAgg,Sem.run_bind,run_underlying hdd,Result.andThen_ok]
          cases d0 <;> simp_all) (fun w=>run_size_of hsz) (fun x:{x // x ∈ xs}=>enc x.1) (fun x=>henc x.1) (fun x=>h1' x.1) (cfOf c xs) (cfOf_swo ho) g cap.toArray blk 0 cc xs.attach.toArray C.W0 (fun args w=>run_callFunc hg) hcmp hH hblk (by simpa using ho.len)
    rw [hd] at hcon
    refine hcon.mono ?_
    rintro ex w' ⟨rfl,m,os,hw⟩
    have hw2:w' = sortWorldK (fun x:{x // x ∈ xs}=>enc x.1) z C.W0 blk 0 m (sortedA c xs hx0) os:=by
      rw [hw]
      unfold sortedA
      rw [hd]
    clear hw
    generalize hsd:sortedA c xs hx0 = d at hw2 hsize ⊢
    have hw3:w' = sortWorld id C.W0 blk 0 m (flatK (fun x:{x // x ∈ xs}=>enc x.1) z d) os:=hw2
    refine ⟨_,_,_,rfl,⟨rfl,rfl,rfl⟩,?_⟩
    have hdn:d.size = n:=by omega
    have hst3:St C (eS L e (some ⟨blk,0,none⟩) n cc (d.toList.map Subtype.val) :: θ₀) κ₀ w':=by
      refine hst.sw Sw.head (by rw [hw3]; rfl) (by rw [hw3]; rfl) ⟨by rw [hw3]; rfl,by rw [hw3]; show C.W0.drawn ≤ C.W0.drawn + m; omega⟩ (by rw [hw3]; simp [sortWorld,size_grow,Sort.ahead]) (fun b hb hbn=>?_) ?_ (fun b hb=>.inl ?_)
      · rw [hw3]
        exact qahf hb fun e=>hbn (by rw [hne,e])
      · refine ⟨by simp [hn,hsize],.inr ⟨hcc,(flatK (fun x:{x // x ∈ xs}=>enc x.1) z d).toList,⟨by simp [hLs,hdn],.inr ⟨blk,cc,putCells id 0 (flatK (fun x:{x // x ∈ xs}=>enc x.1) z d) cur,rfl,Nat.zero_le _,by rw [hw3]; exact qahe hheap,hnc,hcm,by simp [putCells,hLs,hcs],?_⟩⟩,by simp [hLs],fun i x hxi=>?_⟩⟩
        · rw [hLs]
          have hle:n * z ≤ cur.size:=Nat.le_trans (Nat.mul_le_mul_right _ hnc) hcs
          apply List.ext_getElem?
          intro i
          by_cases hi:i < n * z
          · have hid:i < (flatK (fun x:{x // x ∈ xs}=>enc x.1) z d).size:=by rw [size_flatK,hdn]; exact hi
            have hic:i < cur.size:=by omega
            rw [List.getElem?_take_of_lt hi]
            have hid2:i < d.size * z:=by rw [hdn]; exact hi
            rw [Array.getElem?_toList,Array.getElem?_toList,Array.getElem?_eq_getElem hid]
            have h4:=getElem!_pos (flatK (fun x:{x // x ∈ xs}=>enc x.1) z d) i hid
            rw [← h4]
            simp [putCells,hic,hid2]
          · rw [List.getElem?_take_eq_none (by omega)]
            symm
            simp [hdn]
            omega
        · rw [hLs,hLy]
          show ((flatK (fun x:{x // x ∈ xs}=>enc x.1) z d).toList.drop (i * z)).take z = enc x
          have hi:i < d.size:=by
            have:=(List.getElem?_eq_some_iff.1 hxi).1
            simpa using this
          have hxe:d[i].1 = x:=by
            rw [List.getElem?_map,List.getElem?_eq_getElem (by simpa using hi)] at hxi
            simpa using hxi
          apply List.ext_getElem?
          intro k
          by_cases hk0:k < z
          · rw [List.getElem?_take_of_lt hk0,List.getElem?_drop,Array.getElem?_toList,get_flatK? (enc:=fun x:{x // x ∈ xs}=>enc x.1) (fun x=>henc x.1) hi hk0,hxe]
          · rw [List.getElem?_take_eq_none (by omega),List.getElem?_eq_none (by rw [henc]; omega)]
      · rw [hne]
        show some blk = some b
        rw [← hb]
        simp [hcc,Value.ownBlock]
    exact hst3.subFacts fun _ hf=>by cases hf
end
end Go.Proofs.YtdenliplkmjmjaaGreat
namespace Go.Proofs.YtdenliplkmjmjaaGreat
open Go.RowKit Go.Shelf
theorem spec_pure {P:Program} {f:FuncId} {args:List Value} {v:Value} (h:∀ w,Calls P f args.toArray w fun e w'=>e = .returned v ∧ w' = w):Spec P f args [] [] fun u θ κ=>u = v ∧ θ = [] ∧ κ = []:=by
  intro C _ hst
  refine (h C.W0).mono ?_
  rintro e w' ⟨rfl,rfl⟩
  exact ⟨v,[],[],rfl,⟨rfl,rfl,rfl⟩,hst⟩
theorem spec_mul64 {P:Program} {ρ:Ren} (L:Lays.n264 P ρ) (x y:Int) (r:Int × Int) (h:mul64V x y = some r):Spec P (ρ.f 264) [.int .u64 x,.int .u64 y] [] [] fun v θ κ=>v = .tuple #[.int .u64 r.1,.int .u64 r.2] ∧ θ = [] ∧ κ = []:=by
  unfold mul64V at h
  split at h
  · rename_i hc
    cases h
    obtain ⟨h1,h2,h3,h4⟩:=hc
    obtain ⟨a,rfl⟩:=Int.eq_ofNat_of_zero_le h1
    obtain ⟨b,rfl⟩:=Int.eq_ofNat_of_zero_le h3
    refine spec_pure fun w=>?_
    have:=Any.bits_Mul64 L a b (by omega) (by omega) w
    simpa using this
  · cases h
theorem spec_lz64 {P:Program} {ρ:Ren} (L:Lays.n134 P ρ) (x:Int) (r:Int) (h:lz64V x = some r):Spec P (ρ.f 134) [.int .u64 x] [] [] fun v θ κ=>v = .int .i64 r ∧ θ = [] ∧ κ = []:=by
  unfold lz64V at h
  split at h
  · rename_i hc
    cases h
    exact spec_pure fun w=>Any.bits_LeadingZeros64 L x w hc.1 hc.2
  · cases h
end Go.Proofs.YtdenliplkmjmjaaGreat
