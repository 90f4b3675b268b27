import Derived.Test.YtdenliplkmjmjaaGreatPL
import Derived.Test.YtdenliplkmjmjaaGreatPS
namespace Go.Proofs.YtdenliplkmjmjaaGreat.Pl
open Go
theorem hcompare_eq (a b:Gheading):qaly a b = some (cmpE (eh a) (eh b)):=by
  unfold qaly
  simp only [compare_i,Option.bind_some,or_eq [cmp3 a.kind b.kind,cmp3 a.treaty b.treaty,cmp3 a.party b.party,cmp3 a.loss b.loss] (by simp)]
  rfl
theorem sorted_keys {M:List (Gheading × Int)} (hn:(keys M).Nodup) (hl:M.length ≤ 1000000):∃ ks,qalh M = some ks ∧ ks.Perm (keys M) ∧ StrictE (ks.map eh):=by
  obtain ⟨r,h1,h2,h3⟩:=sortH_all (c:=fun x y=>qaly x y) hcompare_eq hn (by unfold keys; rw [List.length_map]; omega)
  refine ⟨r,?_,h2,h3⟩
  unfold qalh qalg
  rw [chk_of (room_of (by omega)),permP_some]
  intro l hl
  rw [h1 l hl]
  rfl
def mt (tr:Int) (g:GEntry):Bool:=isR g && decide (g.Treaty = tr)
def wp (pa:Int) (g:GEntry):GEntry:=⟨g.Kind,g.Treaty,pa,g.Loss,g.Amount⟩
def st (S:GEntry → Int) (g:GEntry):Int:=if g.Kind = 2 then 0 else S g
theorem mt_hd (tr:Int) (e:GEntry):mt tr (hd e) = mt tr e:=rfl
theorem mt_eh (tr:Int) (e:GEntry):mt tr (eh (he e)) = mt tr e:=rfl
structure Frz (tr:Int) (F:List (Gheading × Int)) (T S:GEntry → Int):Prop where
  nodup:(keys F).Nodup
  ofm:∀ k ∈ keys F,mt tr (eh k) = true
  val:∀ k ∈ keys F,mget F k 0 = st S (eh k)
  all:∀ k,mt tr (eh k) = true → T (eh k) ≠ 0 ∨ S (eh k) ≠ 0 → k ∈ keys F
def f1 (tr:Int) (M:List (Gheading × Int)) (e:GEntry):List (Gheading × Int):=if mt tr e = true then mset M (he e) 0 else M
def f2 (tr:Int) (M:List (Gheading × Int)) (e:GEntry):List (Gheading × Int):=if mt tr e = true then mset M (he e) (if e.Kind = 2 then 0 else e.Amount) else M
theorem f1_loop (w:List GEntry) (tr:Int) (hl:w.length ≤ 65536):loopV (qamb w tr) ([],0) = some (w.foldl (f1 tr) []):=by
  refine (foldLoop w (f1 tr) (fun _ _=>True) [] trivial (fun k hk s _=>⟨?_,trivial⟩) (fun s=>?_)).1
  · unfold qamb qamj qamc f1
    dsimp only
    rw [if_pos (decide_eq_true (by omega)),chk_of (inb_nat hk),ix_nat hk,w64_id (n:=(k:Int) + 1) (by omega) (by omega)]
    simp only [Option.bind_some]
    have e:((((decide (w[k].Kind = 1)) || (decide (w[k].Kind = 2))) || (decide (w[k].Kind = 3))) && (decide (w[k].Treaty = tr))) = mt tr w[k]:=rfl
    rw [e]
    split <;> rfl
  · unfold qamb
    dsimp only
    rw [if_neg (by simp)]
theorem f2_loop (p:List GEntry) (tr:Int) (M:List (Gheading × Int)) (hl:p.length ≤ 65536):loopV (qama p tr) (M,0) = some (p.foldl (f2 tr) M):=by
  refine (foldLoop p (f2 tr) (fun _ _=>True) M trivial (fun k hk s _=>⟨?_,trivial⟩) (fun s=>?_)).1
  · unfold qama qamj qamc f2
    dsimp only
    rw [if_pos (decide_eq_true (by omega)),chk_of (inb_nat hk),ix_nat hk,w64_id (n:=(k:Int) + 1) (by omega) (by omega)]
    simp only [Option.bind_some]
    have e:((((decide (p[k].Kind = 1)) || (decide (p[k].Kind = 2))) || (decide (p[k].Kind = 3))) && (decide (p[k].Treaty = tr))) = mt tr p[k]:=rfl
    rw [e]
    by_cases hm:mt tr p[k] = true
    · simp only [hm,if_true]
      by_cases h2:p[k].Kind = 2
      · simp [h2,he]
      · simp [h2,he,mset_mset]
    · simp [hm]
  · unfold qama
    dsimp only
    rw [if_neg (by simp)]
theorem f1_inv (tr:Int):∀ (w:List GEntry) (M:List (Gheading × Int)),(keys M).Nodup → (∀ k ∈ keys M,mt tr (eh k) = true) → (∀ k,mget M k 0 = 0) →
    (keys (w.foldl (f1 tr) M)).Nodup ∧ (∀ k ∈ keys (w.foldl (f1 tr) M),mt tr (eh k) = true) ∧ (∀ k,mget (w.foldl (f1 tr) M) k 0 = 0) ∧ (∀ k,k ∈ keys M ∨ (mt tr (eh k) = true ∧ ∃ e ∈ w,he e = k) → k ∈ keys (w.foldl (f1 tr) M)) ∧ (w.foldl (f1 tr) M).length ≤ M.length + w.length
  | [],M,h1,h2,h3=>⟨h1,h2,h3,fun k hk=>hk.elim id fun ⟨_,e,he,_⟩=>(by cases he),Nat.le_refl _⟩
  | e :: w,M,h1,h2,h3=>by
    rw [List.foldl_cons]
    by_cases hm:mt tr e = true
    · have ef:f1 tr M e = mset M (he e) 0:=by simp [f1,hm]
      rw [ef]
      obtain ⟨a1,a2,a3,a4,a5⟩:=f1_inv tr w (mset M (he e) 0) (nodup_mset h1) (fun k hk=>by
        rcases keys_mset.1 hk with rfl | hk
        · rw [mt_eh]; exact hm
        · exact h2 k hk) (fun k=>by rw [mget_mset]; split <;> simp [h3])
      refine ⟨a1,a2,a3,fun k hk=>a4 k ?_,?_⟩
      · rcases hk with hk | ⟨hk,y,hy,rfl⟩
        · exact .inl (keys_mset.2 (.inr hk))
        · rcases List.mem_cons.1 hy with rfl | hy
          · exact .inl (keys_mset.2 (.inl rfl))
          · exact .inr ⟨hk,y,hy,rfl⟩
      · have:=length_mset M (he e) 0
        simp only [List.length_cons]
        omega
    · have ef:f1 tr M e = M:=by simp [f1,hm]
      rw [ef]
      obtain ⟨a1,a2,a3,a4,a5⟩:=f1_inv tr w M h1 h2 h3
      refine ⟨a1,a2,a3,fun k hk=>a4 k ?_,by simp only [List.length_cons]; omega⟩
      rcases hk with hk | ⟨hk,y,hy,rfl⟩
      · exact .inl hk
      · rcases List.mem_cons.1 hy with rfl | hy
        · rw [mt_eh] at hk; exact absurd hk hm
        · exact .inr ⟨hk,y,hy,rfl⟩
theorem f2_inv (tr:Int):∀ (p:List GEntry) (M:List (Gheading × Int)) (q:List GEntry),StrictE (q ++ p) → (keys M).Nodup → (∀ k ∈ keys M,mt tr (eh k) = true) → (∀ k,mt tr (eh k) = true → mget M k 0 = st (tot q) (eh k)) →
    (keys (p.foldl (f2 tr) M)).Nodup ∧ (∀ k ∈ keys (p.foldl (f2 tr) M),mt tr (eh k) = true) ∧ (∀ k,mt tr (eh k) = true → mget (p.foldl (f2 tr) M) k 0 = st (tot (q ++ p)) (eh k)) ∧ (∀ k,k ∈ keys M ∨ (mt tr (eh k) = true ∧ ∃ e ∈ p,he e = k) → k ∈ keys (p.foldl (f2 tr) M)) ∧ (p.foldl (f2 tr) M).length ≤ M.length + p.length
  | [],M,q,_,h1,h2,h3=>⟨h1,h2,fun k hk=>by rw [List.append_nil]; exact h3 k hk,fun k hk=>hk.elim id fun ⟨_,e,he,_⟩=>(by cases he),Nat.le_refl _⟩
  | e :: p,M,q,hs,h1,h2,h3=>by
    rw [List.foldl_cons]
    have hs2:StrictE ((q ++ [e]) ++ p):=by rw [List.append_assoc]; exact hs
    have he0:tot q (hd e) = 0:=tot_none fun y hy hc=>by
      have:=(List.pairwise_append.1 hs).2.2 y hy e (by simp)
      rw [((hd_eq_iff y e).1 hc).1] at this
      cases this
    have etot:∀ k,tot (q ++ [e]) k = tot q k + (if hd e = k then e.Amount else 0):=fun k=>by
      rw [tot_append,tot_cons,tot_nil]; omega
    have eapp:q ++ e :: p = (q ++ [e]) ++ p:=by simp
    rw [eapp]
    by_cases hm:mt tr e = true
    · have ef:f2 tr M e = mset M (he e) (if e.Kind = 2 then 0 else e.Amount):=by simp [f2,hm]
      rw [ef]
      obtain ⟨a1,a2,a3,a4,a5⟩:=f2_inv tr p (mset M (he e) (if e.Kind = 2 then 0 else e.Amount)) (q ++ [e]) hs2 (nodup_mset h1) (fun k hk=>by
        rcases keys_mset.1 hk with rfl | hk
        · rw [mt_eh]; exact hm
        · exact h2 k hk) (fun k hk=>by
          rw [mget_mset]
          by_cases hke:he e = k
          · subst hke
            rw [if_pos rfl,eh_he]
            unfold st
            have:(hd e).Kind = e.Kind:=rfl
            rw [this,etot,he0,if_pos rfl]
            split <;> omega
          · rw [if_neg hke,h3 k hk]
            unfold st
            have:hd e ≠ eh k:=fun hc=>hke (eh_inj (by rw [eh_he]; exact hc))
            rw [etot,if_neg this]
            split <;> omega)
      refine ⟨a1,a2,a3,fun k hk=>a4 k ?_,?_⟩
      · rcases hk with hk | ⟨hk,y,hy,rfl⟩
        · exact .inl (keys_mset.2 (.inr hk))
        · rcases List.mem_cons.1 hy with rfl | hy
          · exact .inl (keys_mset.2 (.inl rfl))
          · exact .inr ⟨hk,y,hy,rfl⟩
      · have:=length_mset M (he e) (if e.Kind = 2 then 0 else e.Amount)
        simp only [List.length_cons]
        omega
    · have ef:f2 tr M e = M:=by simp [f2,hm]
      rw [ef]
      obtain ⟨a1,a2,a3,a4,a5⟩:=f2_inv tr p M (q ++ [e]) hs2 h1 h2 (fun k hk=>by
        rw [h3 k hk]
        unfold st
        have:hd e ≠ eh k:=fun hc=>hm (by rw [← mt_hd,hc]; exact hk)
        rw [etot,if_neg this]
        split <;> omega)
      refine ⟨a1,a2,a3,fun k hk=>a4 k ?_,by simp only [List.length_cons]; omega⟩
      rcases hk with hk | ⟨hk,y,hy,rfl⟩
      · exact .inl hk
      · rcases List.mem_cons.1 hy with rfl | hy
        · rw [mt_eh] at hk; exact absurd hk hm
        · exact .inr ⟨hk,y,hy,rfl⟩
theorem collT_head {T:GEntry → Int} {w:List GEntry} (h:CollT T w) {k:Gheading} (hk:T (eh k) ≠ 0):∃ e ∈ w,he e = k:=⟨withA (eh k) (T (eh k)),(h.mem _).2 ⟨hk,rfl⟩,rfl⟩
theorem collT_tot {T:GEntry → Int} {w:List GEntry} (h:CollT T w) {g:GEntry} (hg:g.Amount = 0):tot w g = T g:=by
  by_cases h0:T g = 0
  · rw [h0]
    refine tot_none fun e he hc=>?_
    obtain ⟨a,b⟩:=(h.mem e).1 he
    rw [hc,h0] at b
    exact a b.symm
  · have hm:withA g (T g) ∈ w:=(h.mem _).2 ⟨h0,by rw [hd_withA,hd0 hg]; rfl⟩
    have:=tot_strict h.strict hm
    rw [hd_withA,hd0 hg] at this
    exact this
theorem frozen_ok {T S:GEntry → Int} {w p:List GEntry} (hw:CollT T w) (hp:CollT S p) (tr:Int) (hl:w.length ≤ 65536) (hl2:p.length ≤ 65536):∃ F,qalz w p tr = some F ∧ Frz tr F T S ∧ F.length ≤ w.length + p.length:=by
  obtain ⟨a1,a2,a3,a4,a5⟩:=f1_inv tr w [] (by simp [keys]) (fun k hk=>by simp [keys] at hk) (fun k=>rfl)
  obtain ⟨b1,b2,b3,b4,b5⟩:=f2_inv tr p (w.foldl (f1 tr) []) [] (by simpa using hp.strict) a1 a2 (fun k _=>by
    rw [a3]
    unfold st
    rw [tot_nil]
    split <;> rfl)
  refine ⟨p.foldl (f2 tr) (w.foldl (f1 tr) []),?_,⟨b1,b2,fun k hk=>?_,fun k hk hc=>b4 k ?_⟩,by simp at a5; omega⟩
  · unfold qalz
    rw [f1_loop w tr hl,Option.bind_some,f2_loop p tr _ hl2]
    rfl
  · rw [b3 k (b2 k hk)]
    unfold st
    rw [List.nil_append,collT_tot hp (eh_amount k)]
  · rcases hc with hc | hc
    · exact .inl (a4 k (.inr ⟨hk,collT_head hw hc⟩))
    · exact .inr ⟨hk,collT_head hp hc⟩
def g1 (M:List (Gheading × Int)) (e:GEntry):List (Gheading × Int):=mset M (he e) e.Amount
theorem g1_loop (w:List GEntry) (z:Int) (hl:w.length ≤ 65536):loopV (qalq (w,z)) ([],0) = some (w.foldl g1 []):=by
  refine (foldLoop w g1 (fun _ _=>True) [] trivial (fun k hk s _=>⟨?_,trivial⟩) (fun s=>?_)).1
  · unfold qalq qamc g1
    dsimp only
    rw [if_pos (decide_eq_true (by omega)),chk_of (inb_nat hk),ix_nat hk,w64_id (n:=(k:Int) + 1) (by omega) (by omega)]
    rfl
  · unfold qalq
    dsimp only
    rw [if_neg (by simp)]
theorem g1_inv:∀ (w:List GEntry) (M:List (Gheading × Int)) (q:List GEntry),StrictE (q ++ w) → MapH M (tot q) → MapH (w.foldl g1 M) (tot (q ++ w)) ∧ (w.foldl g1 M).length ≤ M.length + w.length
  | [],M,q,_,h=>by
    rw [List.append_nil]
    exact ⟨h,Nat.le_refl _⟩
  | e :: w,M,q,hs,h=>by
    rw [List.foldl_cons,show q ++ e :: w = (q ++ [e]) ++ w by simp]
    have hs2:StrictE ((q ++ [e]) ++ w):=by rw [List.append_assoc]; exact hs
    have he0:tot q (hd e) = 0:=tot_none fun y hy hc=>by
      have:=(List.pairwise_append.1 hs).2.2 y hy e (by simp)
      rw [((hd_eq_iff y e).1 hc).1] at this
      cases this
    obtain ⟨a1,a2⟩:=g1_inv w (g1 M e) (q ++ [e]) hs2 (h.set (by
      rw [eh_he,tot_append,tot_cons,tot_nil,he0,if_pos rfl]; omega) fun g hg=>by
        have:hd e ≠ eh g:=fun hc=>hg (eh_inj (by rw [← hc,eh_he]))
        rw [tot_append,tot_cons,tot_nil,if_neg this]; omega)
    refine ⟨a1,?_⟩
    have:(g1 M e).length ≤ M.length + 1:=length_mset _ _ _
    simp only [List.length_cons]
    omega
theorem tot_ne {l:List GEntry} {g:GEntry} (h:tot l g ≠ 0):∃ y ∈ l,hd y = g:=by
  apply Classical.byContradiction
  intro hc
  exact h (tot_none fun e he he2=>hc ⟨e,he,he2⟩)
theorem notR_eq (e:GEntry):qalt e = some (!isR e):=rfl
theorem index_none {l:List GEntry} (hl:l.length ≤ 1000000) (h:∀ e ∈ l,isR e = true):qaky l = some (-1):=by
  unfold qaky
  have hloop:loopV (qakz l) 0 = some (.inr ()):=by
    refine loopV_done (fun k=>(k:Int)) l.length _ (fun k hk=>?_) ?_
    · unfold qakz
      rw [if_pos (decide_eq_true (by omega)),chk_of (inb_nat hk),ix_nat hk,notR_eq,Option.bind_some,h _ (List.getElem_mem hk),w64_id (n:=(k:Int) + 1) (by omega) (by omega)]
      rfl
    · unfold qakz
      rw [if_neg (by simp)]
  rw [hloop]
  rfl
theorem index_some {l:List GEntry} (hl:l.length ≤ 1000000) {i:Nat} (hi:i < l.length) (h:∀ j (hj:j < i),isR (l[j]'(by omega)) = true) (hn:isR l[i] = false):qaky l = some (i:Int):=by
  unfold qaky
  have hloop:loopV (qakz l) 0 = some (.inl (i:Int)):=by
    refine loopV_done (fun k=>(k:Int)) i _ (fun k hk=>?_) ?_
    · unfold qakz
      have hk':k < l.length:=by omega
      rw [if_pos (decide_eq_true (by omega)),chk_of (inb_nat hk'),ix_nat hk',notR_eq,Option.bind_some,h k hk,w64_id (n:=(k:Int) + 1) (by omega) (by omega)]
      rfl
    · unfold qakz
      rw [if_pos (decide_eq_true (by omega)),chk_of (inb_nat hi),ix_nat hi,notR_eq,Option.bind_some,hn]
      rfl
  rw [hloop]
  rfl
theorem first_not (l:List GEntry) (h:¬ ∀ e ∈ l,isR e = true):∃ i,∃ hi:i < l.length,(∀ j (hj:j < i),isR (l[j]'(by omega)) = true) ∧ isR l[i] = false:=by
  induction l with
  | nil=>exact absurd (fun e he=>by cases he) h
  | cons x l ih =>
    cases hx:isR x with
    | false=>exact ⟨0,by simp,fun j hj=>by omega,by simpa using hx⟩
    | true =>
      have:¬ ∀ e ∈ l,isR e = true:=fun hc=>h fun e he=>by
        rcases List.mem_cons.1 he with rfl | he
        · exact hx
        · exact hc e he
      obtain ⟨i,hi,h1,h2⟩:=ih this
      refine ⟨i + 1,by simp; omega,fun j hj=>?_,by simpa using h2⟩
      cases j with
      | zero=>simpa using hx
      | succ j=>simpa using h1 j (by omega)
theorem delete_eq (l:List GEntry) (hl:l.length ≤ 1000000):qakw l = some (l.filter isR):=by
  unfold qakw
  by_cases h:∀ e ∈ l,isR e = true
  · rw [index_none hl h,Option.bind_some,if_pos (by simp),List.filter_eq_self.2 h]
  · obtain ⟨i,hi,h1,h2⟩:=first_not l h
    rw [index_some hl hi h1 h2,Option.bind_some,if_neg (by simp),w64_id (n:=(i:Int) + 1) (by omega) (by omega)]
    have htake:(l.take i).filter isR = l.take i:=List.filter_eq_self.2 fun e he=>by
      obtain ⟨j,hj,rfl⟩:=List.getElem_of_mem he
      have hj':j < i:=by simp at hj; omega
      rw [List.getElem_take]
      exact h1 j hj'
    have hL:∃ o,loopV (qakx l) (l,(i:Int),(i:Int) + 1) = some o ∧ ∃ (xs:List GEntry) (n:Nat),o = (xs,(n:Int)) ∧ xs.length = l.length ∧ n ≤ l.length ∧ xs.take n = l.filter isR:=by
      refine loopV_inv (fun s=>∃ (xs:List GEntry) (n j:Nat),s = (xs,(n:Int),(j:Int)) ∧ xs.length = l.length ∧ n < j ∧ j ≤ l.length ∧ xs.take n = (l.take j).filter isR ∧ xs.drop j = l.drop j) (fun s=>((l.length:Int) - s.2.2).toNat) (fun o=>∃ (xs:List GEntry) (n:Nat),o = (xs,(n:Int)) ∧ xs.length = l.length ∧ n ≤ l.length ∧ xs.take n = l.filter isR) ?_ _ ?_
      · rintro s ⟨xs,n,j,rfl,e1,e2,e3,e4,e5⟩
        unfold qakx
        dsimp only
        by_cases hj:j < l.length
        · have hjx:j < xs.length:=by omega
          have hxj:xs[j] = l[j]:=by
            have a:=List.drop_eq_getElem_cons hjx
            have b:=List.drop_eq_getElem_cons hj
            rw [e5,b] at a
            simp only [List.cons.injEq] at a
            exact a.1.symm
          have hd1:xs.drop (j + 1) = l.drop (j + 1):=by
            rw [← List.drop_drop,← List.drop_drop,e5]
          rw [if_pos (decide_eq_true (by omega)),chk_of (inb_nat hjx),ix_nat hjx,notR_eq,Option.bind_some,hxj,w64_id (n:=(j:Int) + 1) (by omega) (by omega)]
          have et:(l.take (j + 1)).filter isR = (l.take j).filter isR ++ (if isR l[j] = true then [l[j]] else []):=by
            rw [List.take_succ_eq_append_getElem hj,List.filter_append]
            congr 1
            by_cases hr:isR l[j] = true
            · simp [hr]
            · simp [hr]
          cases hr:isR l[j] with
          | true =>
            have hn:n < xs.length:=by omega
            rw [if_pos (by simp),chk_of (inb_nat hn),w64_id (n:=(n:Int) + 1) (by omega) (by omega)]
            refine ⟨_,rfl,⟨xs.set n l[j],n + 1,j + 1,by simp [upd],by simp [e1],by omega,by omega,?_,?_⟩,by dsimp only; omega⟩
            · rw [et,hr,if_pos rfl,← e4,List.take_succ_eq_append_getElem (by simp; omega),List.take_set_of_le (Nat.le_refl _)]
              simp
            · rw [List.drop_set_of_lt (by omega),hd1]
          | false =>
            rw [if_neg (by simp)]
            refine ⟨_,rfl,⟨xs,n,j + 1,by simp,e1,by omega,by omega,?_,hd1⟩,by dsimp only; omega⟩
            rw [et,hr,e4]
            simp
        · have:j = l.length:=by omega
          subst this
          refine ⟨.inr (xs,(n:Int)),by rw [if_neg (by simp)],xs,n,rfl,e1,by omega,?_⟩
          rw [e4,List.take_of_length_le (Nat.le_refl _)]
      · refine ⟨l,i,i + 1,rfl,rfl,by omega,by omega,?_,rfl⟩
        rw [List.take_succ_eq_append_getElem hi,List.filter_append,htake]
        simp [h2]
    obtain ⟨o,ho,xs,n,rfl,e1,e2,e3⟩:=hL
    rw [ho,Option.bind_some]
    dsimp only
    have e4:(xs.take (n:Int).toNat ++ List.replicate (xs.length - (n:Int).toNat) (GEntry.mk 0 0 0 0 0)).length = xs.length:=by
      simp only [Int.toNat_natCast,List.length_append,List.length_take,List.length_replicate]
      omega
    rw [chk_of (decide_eq_true (by omega)),chk_of (decide_eq_true (by omega)),chk_of (decide_eq_true (by rw [e4]; omega))]
    congr 1
    simp only [Int.toNat_natCast]
    rw [List.take_append_of_le_length (by simp; omega),List.take_take,Nat.min_self,e3]
def c0 (e:GEntry):GEntry:=⟨e.Kind,e.Treaty,0,e.Loss,e.Amount⟩
theorem sum_ind (a:Int) (k:Nat):∀ n:Nat,((List.range n).map fun p=>if k = p then a else 0).sum = if k < n then a else 0
  | 0=>by simp
  | n + 1=>by
    rw [List.range_succ,List.map_append,List.sum_append,sum_ind a k n]
    simp only [List.map_singleton,List.sum_singleton]
    by_cases h:k < n
    · rw [if_pos h,if_neg (by omega),if_pos (by omega)]; omega
    · rw [if_neg h]
      by_cases h2:k = n
      · rw [if_pos h2,if_pos (by omega)]; omega
      · rw [if_neg h2,if_neg (by omega)]; omega
theorem sum_add {α:Type} (f g:α → Int):∀ l:List α,(l.map fun x=>f x + g x).sum = (l.map f).sum + (l.map g).sum
  | []=>by simp
  | x :: l=>by
    simp only [List.map_cons,List.sum_cons,sum_add f g l]
    omega
def psum (T:GEntry → Int) (g:GEntry):Int:=((List.range 16).map fun p:Nat=>T (wp (p:Int) g)).sum
theorem psum_congr {T T':GEntry → Int} {g:GEntry} (h:∀ p:Nat,T (wp (p:Int) g) = T' (wp (p:Int) g)):psum T g = psum T' g:=by
  unfold psum
  congr 1
  exact List.map_congr_left fun p _=>h p
theorem psum_add (f g:GEntry → Int) (x:GEntry):psum (fun h=>f h + g h) x = psum f x + psum g x:=sum_add _ _ _
theorem merged_tot:∀ (l:List GEntry),(∀ e ∈ l,(0 ≤ e.Party ∧ e.Party ≤ 15) ∨ e.Amount = 0) → ∀ g:GEntry,g.Amount = 0 → g.Party = 0 → tot (l.map c0) g = psum (tot l) g
  | [],_,g,_,_=>by
    have:(List.map (fun _:Nat=>(0:Int)) (List.range 16)).sum = 0:=by decide
    simp only [List.map_nil,psum,tot_nil,this]
  | x :: l,h,g,hg,hg0=>by
    rw [List.map_cons,tot_cons,merged_tot l (fun e he=>h e (by simp [he])) g hg hg0]
    have e1:psum (tot (x :: l)) g = psum (fun h=>(if hd x = h then x.Amount else 0)) g + psum (tot l) g:=by
      rw [← psum_add]
      exact psum_congr fun p=>tot_cons _ _ _
    rw [e1]
    congr 1
    have z16:(List.map (fun _:Nat=>(0:Int)) (List.range 16)).sum = 0:=by decide
    rcases h x (by simp) with ⟨hp0,hp1⟩ | hx0
    rotate_left
    · have:(c0 x).Amount = 0:=hx0
      rw [this,hx0]
      unfold psum
      simp only [ite_self,z16]
    unfold psum
    by_cases hc:hd (c0 x) = g
    · rw [if_pos hc]
      have e2:((List.range 16).map fun p:Nat=>if hd x = wp (p:Int) g then x.Amount else 0) = (List.range 16).map fun p:Nat=>if x.Party.toNat = p then x.Amount else 0:=by
        refine List.map_congr_left fun p _=>?_
        have:(hd x = wp (p:Int) g) ↔ x.Party.toNat = p:=by
          rw [← hc]
          obtain ⟨a,b,c,d,y⟩:=x
          simp only [hd,withA,wp,c0,GEntry.mk.injEq,true_and,and_true]
          simp only at hp0
          omega
        simp only [this]
      rw [e2,sum_ind,if_pos (by omega)]
      rfl
    · rw [if_neg hc]
      have e2:((List.range 16).map fun p:Nat=>if hd x = wp (p:Int) g then x.Amount else 0) = (List.range 16).map fun _:Nat=>(0:Int):=by
        refine List.map_congr_left fun p _=>?_
        rw [if_neg]
        intro h2
        apply hc
        have e3:hd (c0 x) = c0 (hd x):=rfl
        rw [e3,h2]
        obtain ⟨a,b,c,d,y⟩:=g
        simp only at hg0 hg
        subst hg0 hg
        rfl
      rw [e2]
      have:(List.map (fun _:Nat=>(0:Int)) (List.range 16)).sum = 0:=by decide
      exact this.symm
theorem collT_of_tot {D:GEntry → Int} {r:List GEntry} (hs:StrictE r) (h0:∀ e ∈ r,e.Amount ≠ 0) (h:∀ g,g.Amount = 0 → tot r g = D g):CollT D r:=by
  refine ⟨hs,fun e=>⟨fun he=>⟨h0 e he,?_⟩,fun ⟨h1,h2⟩=>?_⟩⟩
  · rw [← h _ (hd_amount e),tot_strict hs he]
  · rw [← h _ (hd_amount e)] at h2
    obtain ⟨y,hy,hye⟩:=tot_ne (l:=r) (g:=hd e) (by rw [h2]; exact h1)
    have h3:=tot_strict hs hy
    rw [hye,h2] at h3
    have:y = e:=by rw [← withA_hd y,← withA_hd e,hye,h3]
    exact this ▸ hy
theorem collT_dec {D:GEntry → Int} {r cand:List GEntry} (hs:StrictE r) (h1:∀ e ∈ r,e.Amount ≠ 0 ∧ D (hd e) = e.Amount) (h2:∀ g,g.Amount = 0 → D g ≠ 0 → g ∈ cand) (h3:∀ g ∈ cand,D g ≠ 0 → ∃ e ∈ r,hd e = g):CollT D r:=by
  refine ⟨hs,fun e=>⟨h1 e,fun ⟨a,b⟩=>?_⟩⟩
  have hD:D (hd e) ≠ 0:=by rw [b]; exact a
  obtain ⟨y,hy,hye⟩:=h3 _ (h2 _ (hd_amount e) hD) hD
  have h4:=(h1 y hy).2
  rw [hye,b] at h4
  have:y = e:=by rw [← withA_hd y,← withA_hd e,hye,h4]
  exact this ▸ hy
end Go.Proofs.YtdenliplkmjmjaaGreat.Pl
namespace Go.Proofs.YtdenliplkmjmjaaGreat.Pl
open Go
theorem w64_addl (a b:Int):w64 (w64 a + b) = w64 (a + b):=by
  simp only [IntKind.wrap,IntKind.bits,IntKind.signed]
  simp only [Bool.true_and,ge_iff_le,decide_eq_true_eq]
  split <;> split <;> split <;> omega
theorem w64_addr (a b:Int):w64 (a + w64 b) = w64 (a + b):=by rw [Int.add_comm,w64_addl,Int.add_comm]
theorem filterMap_le {α β:Type} (f:α → Option β) (l:List α) (k:Nat):((l.take k).filterMap f).length ≤ k:=Nat.le_trans (List.length_filterMap_le _ _) (by simp; omega)
theorem collLoop {M:List (Gheading × Int)} {T:GEntry → Int} (hM:MapH M T) (ks:List Gheading) (hl:ks.length ≤ 1000000) (hv:∀ k ∈ ks,vAmt (T (eh k)) = true):loopV (qalx M ks) ([],0) = some (.inr (ks.filterMap fun k=>mkE (eh k,T (eh k)))):=by
  have:=loopV_done (step:=qalx M ks) (fun k=>((ks.take k).filterMap (fun k=>mkE (eh k,T (eh k))),(k:Int))) ks.length (.inr (ks.filterMap fun k=>mkE (eh k,T (eh k)))) (fun k hk=>?_) ?_
  · simpa using this
  · have hv0:=hv _ (List.getElem_mem hk)
    have hlen:=filterMap_le (fun k=>mkE (eh k,T (eh k))) ks k
    have et:(ks.take (k + 1)).filterMap (fun k=>mkE (eh k,T (eh k))) = (ks.take k).filterMap (fun k=>mkE (eh k,T (eh k))) ++ (mkE (eh ks[k],T (eh ks[k]))).toList:=by
      rw [List.take_succ_eq_append_getElem hk,List.filterMap_append]
      congr 1
    rw [et]
    unfold qalx amount_Valid
    dsimp only
    have e1:((decide ((-17592186044416) ≤ T (eh ks[k]))) && (decide (T (eh ks[k]) ≤ 17592186044416))) = true:=hv0
    rw [if_pos (decide_eq_true (by omega)),chk_of (inb_nat hk),ix_nat hk,hM.get,Option.bind_some,e1,w64_id (n:=(k:Int) + 1) (by omega) (by omega)]
    simp only [Bool.not_true,Bool.false_eq_true,if_false]
    by_cases h0:T (eh ks[k]) = 0
    · rw [if_neg (by simp [h0])]
      simp [mkE,h0]
    · rw [if_pos (by simp [h0]),chk_of (room_of (by simp; omega))]
      have e2:mkE (eh ks[k],T (eh ks[k])) = some (withA (eh ks[k]) (T (eh ks[k]))):=by
        unfold mkE
        rw [if_neg h0]
      rw [e2]
      rfl
  · unfold qalx
    dsimp only
    rw [if_neg (by simp),List.take_of_length_le (Nat.le_refl _)]
theorem collected_ok {M:List (Gheading × Int)} {T:GEntry → Int} (hM:MapH M T) (hl:M.length ≤ 1000000) (hv:∀ g,g.Amount = 0 → vAmt (T g) = true):∃ r,qalw M = some (r,0) ∧ CollT T r ∧ r.length ≤ M.length:=by
  obtain ⟨ks,h1,h2,h3⟩:=sorted_keys hM.nodup hl
  have hkl:ks.length = M.length:=by rw [h2.length_eq]; simp [keys]
  refine ⟨ks.filterMap fun k=>mkE (eh k,T (eh k)),?_,coll_keys hM h2 h3,by rw [← hkl]; exact List.length_filterMap_le _ _⟩
  unfold qalw qaht
  rw [Option.bind_some,h1,Option.bind_some,collLoop hM ks (by omega) fun k _=>hv _ (eh_amount k)]
  rfl
structure MapF {K:Type} [DecidableEq K] (M:List (K × Int)) (f:K → Int):Prop where
  nodup:(keys M).Nodup
  key:∀ p ∈ M,p.2 = f p.1
  all:∀ k,f k ≠ 0 → k ∈ keys M
theorem MapF.get {K:Type} [DecidableEq K] {M:List (K × Int)} {f:K → Int} (hM:MapF M f) (h:K):mget M h 0 = f h:=by
  by_cases hk:h ∈ keys M
  · obtain ⟨p,hp,rfl⟩:=List.mem_map.1 hk
    rw [mget_mem hM.nodup (v:=p.2) hp,hM.key p hp]
  · rw [mget_not hk]
    apply Classical.byContradiction
    intro hne
    exact hk (hM.all h fun hc=>hne hc.symm)
theorem MapF.set {K:Type} [DecidableEq K] {M:List (K × Int)} {f f':K → Int} (hM:MapF M f) {h:K} {v:Int} (hv:v = f' h) (hT:∀ g,g ≠ h → f' g = f g):MapF (mset M h v) f':=by
  refine ⟨nodup_mset hM.nodup,fun p hp=>?_,fun g hne=>?_⟩
  · rcases (mem_mset hM.nodup).1 hp with rfl | ⟨hp,hk⟩
    · exact hv
    · rw [hT _ hk]
      exact hM.key p hp
  · rw [keys_mset]
    by_cases hgh:g = h
    · exact .inl hgh
    · right
      refine hM.all g ?_
      rw [← hT g hgh]
      exact hne
theorem MapF.nil {K:Type} [DecidableEq K]:MapF ([]:List (K × Int)) (fun _=>0):=⟨by simp [keys],fun p hp=>(by cases hp),fun h h2=>absurd rfl h2⟩
theorem MapF.congr {K:Type} [DecidableEq K] {M:List (K × Int)} {f f':K → Int} (hM:MapF M f) (h:∀ g,f g = f' g):MapF M f':=by
  have:f = f':=funext h
  exact this ▸ hM
theorem MapF.perm {K:Type} [DecidableEq K] {M M':List (K × Int)} {f:K → Int} (hM:MapF M f) (hp:M'.Perm M):MapF M' f :=
  ⟨((hp.map Prod.fst).nodup_iff).2 hM.nodup,fun p h=>hM.key p (hp.mem_iff.1 h),fun k h=>((hp.map Prod.fst).mem_iff).2 (hM.all k h)⟩
theorem sum_key {K:Type} [DecidableEq K] (X:K) (h:Int → Int):∀ (M:List (K × Int)),(keys M).Nodup → (M.map fun p=>if p.1 = X then h p.2 else 0).sum = if X ∈ keys M then h (mget M X 0) else 0
  | [],_=>by simp [keys]
  | q :: M,hn=>by
    have hn':q.1 ∉ keys M ∧ (keys M).Nodup:=by simpa [keys] using hn
    rw [List.map_cons,List.sum_cons,sum_key X h M hn'.2]
    by_cases hq:q.1 = X
    · rw [if_pos hq,if_neg (hq ▸ hn'.1),if_pos (by simp [keys,hq])]
      simp [mget,hq]
    · have e:X ∈ keys (q :: M) ↔ X ∈ keys M:=by simp [keys,Ne.symm hq]
      rw [if_neg hq]
      simp only [e]
      have:mget (q :: M) X 0 = mget M X 0:=by simp [mget,hq]
      rw [this]
      omega
theorem MapF.sum {K:Type} [DecidableEq K] {M:List (K × Int)} {f:K → Int} (hM:MapF M f) (X:K) (h:Int → Int) (h0:h 0 = 0):(M.map fun p=>if p.1 = X then h p.2 else 0).sum = h (f X):=by
  rw [sum_key X h M hM.nodup]
  split
  · rw [hM.get]
  · rename_i hk
    have:f X = 0:=Classical.byContradiction fun hc=>hk (hM.all X hc)
    rw [this,h0]
def gp (g:GEntry):Ggroup:=⟨g.Kind,g.Loss⟩
def gh (k:Gheading):Ggroup:=⟨k.kind,k.loss⟩
def ge (tr:Int) (X:Ggroup):GEntry:=⟨X.kind,tr,0,X.loss,0⟩
def mv (tr:Int) (T S:GEntry → Int) (X:Ggroup):Int:=if isR (ge tr X) = true then psum (fun h=>T h - st S h) (ge tr X) else 0
structure Shs (Ps:List GPart) (sh:Int → List Int):Prop where
  div:∀ d,-17592186044416 ≤ d → d ≤ 17592186044416 → qagl d Ps = some (sh d,0)
  len:∀ d,-17592186044416 ≤ d → d ≤ 17592186044416 → (sh d).length = Ps.length + 1
  sum:∀ d,-17592186044416 ≤ d → d ≤ 17592186044416 → (sh d).sum = d
  pos:∀ d,-17592186044416 ≤ d → d ≤ 17592186044416 → 0 ≤ d → ∀ x ∈ sh d,0 ≤ x
  neg:∀ d,-17592186044416 ≤ d → d ≤ 17592186044416 → d ≤ 0 → ∀ x ∈ sh d,x ≤ 0
  few:Ps.length ≤ 12
  pty:∀ p ∈ Ps,1 ≤ p.Party ∧ p.Party ≤ 15
def qs (Ps:List GPart) (sh:Int → List Int) (d:Int):List (Int × Int):=(0 :: Ps.map GPart.Party).zip (sh d)
def shr (Ps:List GPart) (sh:Int → List Int) (d p:Int):Int:=((qs Ps sh d).map fun x=>if x.1 = p then x.2 else 0).sum
def red (tr tt:Int) (Ps:List GPart) (sh:Int → List Int) (T S:GEntry → Int) (g:GEntry):Int :=
  if mt tr g = true then st S g else if g.Treaty = tt then T g + shr Ps sh (mv tr T S (gp g)) g.Party else T g
theorem sum_pos:∀ {l:List Int},(∀ x ∈ l,0 ≤ x) → 0 ≤ l.sum
  | [],_=>by simp
  | x :: l,h=>by
    rw [List.sum_cons]
    have:=h x (by simp)
    have:=sum_pos (l:=l) fun y hy=>h y (by simp [hy])
    omega
theorem ind_bd:∀ (ps:List Int) (xs:List Int) (p:Int),(∀ x ∈ xs,0 ≤ x) → 0 ≤ ((ps.zip xs).map fun x=>if x.1 = p then x.2 else 0).sum ∧ ((ps.zip xs).map fun x=>if x.1 = p then x.2 else 0).sum ≤ xs.sum
  | [],xs,p,h=>by simpa using sum_pos h
  | _ :: _,[],p,h=>by simp
  | q :: ps,x :: xs,p,h=>by
    have h1:=h x (by simp)
    have h2:=ind_bd ps xs p fun y hy=>h y (by simp [hy])
    simp only [List.zip_cons_cons,List.map_cons,List.sum_cons]
    split <;> omega
theorem neg_map_sum:∀ (l:List Int),(l.map fun x=>-x).sum = - l.sum
  | []=>by simp
  | x :: l=>by rw [List.map_cons,List.sum_cons,List.sum_cons,neg_map_sum l]; omega
theorem ind_neg:∀ (ps:List Int) (xs:List Int) (p:Int),((ps.zip (xs.map fun x=>-x)).map fun x=>if x.1 = p then x.2 else 0).sum = - ((ps.zip xs).map fun x=>if x.1 = p then x.2 else 0).sum
  | [],xs,p=>by simp
  | _ :: _,[],p=>by simp
  | q :: ps,x :: xs,p=>by
    have h2:=ind_neg ps xs p
    simp only [List.zip_cons_cons,List.map_cons,List.sum_cons,h2]
    split <;> omega
theorem Shs.bd {Ps:List GPart} {sh:Int → List Int} (h:Shs Ps sh) {d p B:Int} (hd1 : -B ≤ d) (hd2:d ≤ B) (hB:B ≤ 17592186044416) : -B ≤ shr Ps sh d p ∧ shr Ps sh d p ≤ B:=by
  have hs:=h.sum d (by omega) (by omega)
  unfold shr qs
  by_cases h0:0 ≤ d
  · have:=ind_bd (0 :: Ps.map GPart.Party) (sh d) p (h.pos d (by omega) (by omega) h0)
    omega
  · have:=ind_bd (0 :: Ps.map GPart.Party) ((sh d).map fun x=>-x) p (fun x hx=>by
      obtain ⟨y,hy,rfl⟩:=List.mem_map.1 hx
      have:=h.neg d (by omega) (by omega) (by omega) y hy
      omega)
    rw [ind_neg,neg_map_sum] at this
    omega
theorem Shs.zero {Ps:List GPart} {sh:Int → List Int} (h:Shs Ps sh) (p:Int):shr Ps sh 0 p = 0:=by
  have:=h.bd (d:=0) (p:=p) (B:=0) (by omega) (by omega) (by omega)
  omega
def mvL (T S:GEntry → Int) (D:List Gheading) (X:Ggroup):Int:=(D.map fun k=>if gh k = X then T (eh k) - st S (eh k) else 0).sum
theorem mvL_snoc (T S:GEntry → Int) (D:List Gheading) (k:Gheading) (X:Ggroup):mvL T S (D ++ [k]) X = mvL T S D X + if gh k = X then T (eh k) - st S (eh k) else 0:=by
  simp [mvL]
def redA (T S:GEntry → Int) (D:List Gheading) (g:GEntry):Int:=if he g ∈ D then st S g else T g
theorem redRange {T S:GEntry → Int}:∀ (ks D:List Gheading) (M:List (Gheading × Int)) (V:List (Ggroup × Int)),(D ++ ks).Nodup → MapH M (redA T S D) → MapF V (fun X=>w64 (mvL T S D X)) →
    ∃ M' V',rangeV qalr (ks.map fun k=>(k,st S (eh k))) (M,V) = some (.inl (M',V')) ∧ MapH M' (redA T S (D ++ ks)) ∧ MapF V' (fun X=>w64 (mvL T S (D ++ ks) X)) ∧ M'.length ≤ M.length + ks.length ∧ V'.length ≤ V.length + ks.length
  | [],D,M,V,_,hM,hV=>⟨M,V,rfl,by rw [List.append_nil]; exact hM,by rw [List.append_nil]; exact hV,by simp,by simp⟩
  | k :: ks,D,M,V,hn,hM,hV=>by
    have hkD:k ∉ D:=fun hc=>(List.nodup_append.1 hn).2.2 k hc k (by simp) rfl
    have eapp:D ++ k :: ks = (D ++ [k]) ++ ks:=by simp
    rw [eapp] at hn ⊢
    have v1:mget M k 0 = T (eh k):=by
      rw [hM.get]
      unfold redA
      rw [he_eh,if_neg hkD]
    have hM1:MapH (mset M k (st S (eh k))) (redA T S (D ++ [k])):=hM.set (by unfold redA; rw [he_eh,if_pos (by simp)]) fun g hg=>by
      unfold redA
      rw [he_eh]
      simp [hg]
    have hV1:MapF (mset V (gh k) (w64 (w64 (mvL T S D (gh k)) + w64 (T (eh k) - st S (eh k))))) (fun X=>w64 (mvL T S (D ++ [k]) X)):=hV.set (by
      rw [w64_addl,w64_addr,mvL_snoc,if_pos rfl]) fun X hX=>by
        rw [mvL_snoc,if_neg (Ne.symm hX),Int.add_zero]
    have hstep:qalr (k,st S (eh k)) (M,V) = some (.inl (mset M k (st S (eh k)),mset V (gh k) (w64 (w64 (mvL T S D (gh k)) + w64 (T (eh k) - st S (eh k)))))):=by
      show some (Sum.inl (mset M k (st S (eh k)),mset V (gh k) (w64 (mget V (gh k) 0 + w64 (mget M k 0 - st S (eh k)))))) = _
      rw [v1,hV.get]
    obtain ⟨M',V',r1,r2,r3,r4,r5⟩:=redRange ks (D ++ [k]) _ _ hn hM1 hV1
    refine ⟨M',V',?_,r2,r3,?_,?_⟩
    · rw [List.map_cons]
      unfold rangeV
      rw [hstep,Option.bind_some]
      exact r1
    · have l1:=length_mset M k (st S (eh k))
      simp only [List.length_cons]
      omega
    · have l1:=length_mset V (gh k) (w64 (w64 (mvL T S D (gh k)) + w64 (T (eh k) - st S (eh k))))
      simp only [List.length_cons]
      omega
def key1 (tt:Int) (X:Ggroup) (p:Int):Gheading:=⟨X.kind,tt,p,X.loss⟩
def con (tt:Int) (X:Ggroup) (q:List (Int × Int)) (g:GEntry):Int:=(q.map fun x=>if g = eh (key1 tt X x.1) then x.2 else 0).sum
def add1 (tt:Int) (X:Ggroup) (M:List (Gheading × Int)) (x:Int × Int):List (Gheading × Int):=mset M (key1 tt X x.1) (w64 (mget M (key1 tt X x.1) 0 + x.2))
theorem add1_fold (tt:Int) (X:Ggroup):∀ (q:List (Int × Int)) (M:List (Gheading × Int)) (A:GEntry → Int),MapH M (fun g=>w64 (A g)) → MapH (q.foldl (add1 tt X) M) (fun g=>w64 (A g + con tt X q g)) ∧ (q.foldl (add1 tt X) M).length ≤ M.length + q.length
  | [],M,A,h=>⟨h.congr fun g _=>by simp [con],by simp⟩
  | x :: q,M,A,h=>by
    have h1:MapH (add1 tt X M x) (fun g=>w64 (A g + if g = eh (key1 tt X x.1) then x.2 else 0)):=h.set (by rw [h.get,w64_addl,if_pos rfl]) fun g hg=>by
      rw [if_neg fun hc=>hg (eh_inj hc),Int.add_zero]
    obtain ⟨a1,a2⟩:=add1_fold tt X q _ (fun g=>A g + if g = eh (key1 tt X x.1) then x.2 else 0) h1
    rw [List.foldl_cons]
    refine ⟨a1.congr fun g _=>?_,?_⟩
    · simp only [con,List.map_cons,List.sum_cons]
      rw [Int.add_assoc]
    · have:(add1 tt X M x).length ≤ M.length + 1:=length_mset _ _ _
      simp only [List.length_cons]
      omega
theorem receive_step {to:GTreaty} {sh:Int → List Int} (hs:Shs to.Parts sh) {X:Ggroup} {d:Int} (h1 : -17592186044416 ≤ d) (h2:d ≤ 17592186044416) (M:List (Gheading × Int)):qami to (X,d) M = some (.inl ((qs to.Parts sh d).foldl (add1 to.ID X) M)):=by
  have hlen:=hs.len d h1 h2
  have hf:=hs.few
  unfold qami amount_Valid
  dsimp only
  rw [Option.bind_some,decide_eq_true h1,decide_eq_true h2]
  simp only [Bool.and_self,Bool.not_true,Bool.false_eq_true,if_false]
  rw [hs.div d h1 h2,Option.bind_some]
  dsimp only
  rw [if_neg (by simp)]
  cases hsh:sh d with
  | nil=>rw [hsh] at hlen; simp at hlen
  | cons y ys =>
    rw [hsh] at hlen
    simp only [List.length_cons] at hlen
    have hyl:ys.length = to.Parts.length:=by omega
    rw [chk_of (show inb (y :: ys) 0 = true from inb_nat (k:=0) (by simp))]
    have x0:ix (y :: ys) 0 = y:=rfl
    rw [x0]
    let l:=(to.Parts.map GPart.Party).zip ys
    have hl:l.length = to.Parts.length:=by simp [l,hyl]
    have hloop:=(foldLoop (step:=qamh to (X,d) (y :: ys,0)) l (add1 to.ID X) (fun _ _=>True) (mset M (Gheading.mk X.kind to.ID 0 X.loss) (w64 (mget M (Gheading.mk X.kind to.ID 0 X.loss) 0 + y))) trivial (fun k hk s _=>⟨?_,trivial⟩) (fun s=>?_)).1
    · rw [hloop]
      simp only [Option.bind_some,Sum.elim_inl,qs,hsh,List.zip_cons_cons,List.foldl_cons]
      rfl
    · have hk1:k < to.Parts.length:=by omega
      have hk2:k < ys.length:=by omega
      unfold qamh
      dsimp only
      have e1:w64 ((k:Int) + 1) = ((k + 1:Nat):Int):=by rw [w64_id (by omega) (by omega)]; rfl
      rw [if_pos (decide_eq_true (by omega)),chk_of (inb_nat hk1),e1,chk_of (inb_nat (k:=k + 1) (by simp; omega)),ix_nat hk1,ix_nat (k:=k + 1) (by simp; omega)]
      have e2:l[k] = (to.Parts[k].Party,ys[k]):=by simp [l]
      rw [e2]
      rfl
    · unfold qamh
      dsimp only
      rw [hl,if_neg (by simp)]
theorem receive_run {to:GTreaty} {sh:Int → List Int} (hs:Shs to.Parts sh):∀ (vs:List (Ggroup × Int)) (M:List (Gheading × Int)) (A:GEntry → Int),(∀ p ∈ vs,-17592186044416 ≤ p.2 ∧ p.2 ≤ 17592186044416) → MapH M (fun g=>w64 (A g)) →
    ∃ M',rangeV (qami to) vs M = some (.inl M') ∧ MapH M' (fun g=>w64 (A g + (vs.map fun p=>con to.ID p.1 (qs to.Parts sh p.2) g).sum)) ∧ M'.length ≤ M.length + 13 * vs.length
  | [],M,A,_,h=>⟨M,rfl,h.congr fun g _=>by simp,by simp⟩
  | p :: vs,M,A,hv,h=>by
    have hp:=hv p (by simp)
    obtain ⟨a1,a2⟩:=add1_fold to.ID p.1 (qs to.Parts sh p.2) M A h
    obtain ⟨M',r1,r2,r3⟩:=receive_run hs vs _ (fun g=>A g + con to.ID p.1 (qs to.Parts sh p.2) g) (fun q hq=>hv q (by simp [hq])) a1
    refine ⟨M',?_,r2.congr fun g _=>?_,?_⟩
    · unfold rangeV
      have:=receive_step hs hp.1 hp.2 M (X:=p.1)
      rw [show (p.1,p.2) = p from rfl] at this
      rw [this,Option.bind_some]
      exact r1
    · simp only [List.map_cons,List.sum_cons]
      rw [Int.add_assoc]
    · have hq:(qs to.Parts sh p.2).length ≤ 13:=by
        have:=hs.few
        simp only [qs,List.length_zip,List.length_cons,List.length_map]
        omega
      simp only [List.length_cons]
      omega
theorem con_eq (tt:Int) (X:Ggroup) (Ps:List GPart) (sh:Int → List Int) (d:Int) {g:GEntry} (hg:g.Amount = 0):con tt X (qs Ps sh d) g = if X = gp g then (if g.Treaty = tt then shr Ps sh d g.Party else 0) else 0:=by
  unfold con shr
  obtain ⟨a,b,c,e,x⟩:=g
  simp only at hg
  subst hg
  have z:∀ l:List (Int × Int),(l.map fun _=>(0:Int)).sum = 0:=fun l=>by
    induction l with
    | nil=>rfl
    | cons y l ih=>simp [ih]
  by_cases hX:X = gp ⟨a,b,c,e,0⟩
  · subst hX
    rw [if_pos rfl]
    by_cases ht:b = tt
    · subst ht
      rw [if_pos rfl]
      congr 1
      refine List.map_congr_left fun y _=>?_
      have:((GEntry.mk a b c e 0) = eh (key1 b (gp ⟨a,b,c,e,0⟩) y.1)) ↔ y.1 = c:=by
        simp only [eh,key1,gp,GEntry.mk.injEq,true_and,and_true]
        exact ⟨fun h=>h.symm,fun h=>h.symm⟩
      simp only [this]
    · rw [if_neg ht]
      refine (congrArg List.sum (List.map_congr_left fun y _=>if_neg fun h=>ht ?_)).trans (z (qs Ps sh d))
      simp only [eh,key1,GEntry.mk.injEq] at h
      exact h.2.1
  · rw [if_neg hX]
    refine (congrArg List.sum (List.map_congr_left fun y _=>if_neg fun h=>hX ?_)).trans (z (qs Ps sh d))
    obtain ⟨x1,x2⟩:=X
    simp only [eh,key1,GEntry.mk.injEq] at h
    simp only [gp,Ggroup.mk.injEq]
    exact ⟨h.1.symm,h.2.2.2.1.symm⟩
theorem con_sum {tt:Int} {Ps:List GPart} {sh:Int → List Int} (hs:Shs Ps sh) {V:List (Ggroup × Int)} {f:Ggroup → Int} (hV:MapF V f) {g:GEntry} (hg:g.Amount = 0):(V.map fun p=>con tt p.1 (qs Ps sh p.2) g).sum = if g.Treaty = tt then shr Ps sh (f (gp g)) g.Party else 0:=by
  have:=hV.sum (gp g) (fun d=>if g.Treaty = tt then shr Ps sh d g.Party else 0) (by simp [hs.zero])
  rw [← this]
  congr 1
  exact List.map_congr_left fun p _=>con_eq _ _ _ _ _ hg
end Go.Proofs.YtdenliplkmjmjaaGreat.Pl
namespace Go.Proofs.YtdenliplkmjmjaaGreat.Pl
open Go
theorem tot_keys (φ:Gheading → Int):∀ (ks:List Gheading),ks.Nodup → ∀ g:GEntry,g.Amount = 0 → tot (ks.map fun k=>withA (eh k) (φ k)) g = if he g ∈ ks then φ (he g) else 0
  | [],_,g,_=>by simp [tot_nil]
  | k :: ks,hn,g,hg=>by
    have hn':=List.nodup_cons.1 hn
    rw [List.map_cons,tot_cons,tot_keys φ ks hn'.2 g hg]
    have e1:hd (withA (eh k) (φ k)) = eh k:=rfl
    have e2:(withA (eh k) (φ k)).Amount = φ k:=rfl
    rw [e1,e2]
    by_cases hk:eh k = g
    · subst hk
      rw [if_pos rfl,he_eh,if_neg hn'.1,if_pos (by simp)]
      omega
    · have hne:he g ≠ k:=fun hc=>hk (by rw [← hc,eh_he0 hg])
      rw [if_neg hk]
      simp [hne]
theorem tot_c0 (T S:GEntry → Int) (tr:Int) (X:Ggroup):∀ (ks:List Gheading),(∀ k ∈ ks,k.treaty = tr) → tot ((ks.map fun k=>withA (eh k) (T (eh k) - st S (eh k))).map c0) (ge tr X) = mvL T S ks X
  | [],_=>by simp [tot_nil,mvL]
  | k :: ks,h=>by
    have hk:=h k (by simp)
    rw [List.map_cons,List.map_cons,tot_cons,tot_c0 T S tr X ks fun y hy=>h y (by simp [hy])]
    have e1:(hd (c0 (withA (eh k) (T (eh k) - st S (eh k)))) = ge tr X) ↔ gh k = X:=by
      obtain ⟨a,b,c,d⟩:=k
      obtain ⟨x,y⟩:=X
      simp only at hk
      subst hk
      simp [hd,withA,c0,eh,ge,gh]
    simp only [e1,mvL,List.map_cons,List.sum_cons]
    rfl
theorem tot_head {l:List GEntry} (hl:∀ e ∈ l,vE e = true) {g:GEntry} (h:tot l g ≠ 0):headB g = true:=by
  obtain ⟨y,hy,rfl⟩:=tot_ne h
  have:=hl y hy
  simp only [vE,Bool.and_eq_true] at this
  exact this.1
theorem headB_party {g:GEntry} (h:headB g = true):0 ≤ g.Party ∧ g.Party ≤ 15:=by
  simp only [headB,Bool.and_eq_true,decide_eq_true_eq] at h
  exact ⟨h.1.1.2,h.1.2⟩
theorem st_zero {S:GEntry → Int} {g:GEntry} (h:S g = 0):st S g = 0:=by
  unfold st
  rw [h]
  split <;> rfl
theorem mvL_eq {tr:Int} {t p:List GEntry} (ht:∀ e ∈ t,vE e = true) (hp:∀ e ∈ p,vE e = true) {F:List (Gheading × Int)} (hF:Frz tr F (tot t) (tot p)) {ks:List Gheading} (hk:ks.Perm (keys F)) (X:Ggroup):mvL (tot t) (tot p) ks X = mv tr (tot t) (tot p) X:=by
  have hm:∀ k ∈ ks,mt tr (eh k) = true:=fun k h=>hF.ofm k (hk.mem_iff.1 h)
  have htr:∀ k ∈ ks,k.treaty = tr:=fun k h=>by
    have:=hm k h
    simp only [mt,Bool.and_eq_true,decide_eq_true_eq] at this
    exact this.2
  have hn:ks.Nodup:=(hk.nodup_iff).2 hF.nodup
  unfold mv
  by_cases hr:isR (ge tr X) = true
  · rw [if_pos hr,← tot_c0 (tot t) (tot p) tr X ks htr,merged_tot _ (fun e he=>?_) (ge tr X) rfl rfl]
    · refine psum_congr fun q=>?_
      rw [tot_keys (fun k=>tot t (eh k) - st (tot p) (eh k)) ks hn (wp (q:Int) (ge tr X)) rfl,eh_he0 (show (wp (q:Int) (ge tr X)).Amount = 0 from rfl)]
      split
      · rfl
      · rename_i hk2
        have hmt:mt tr (eh (he (wp (q:Int) (ge tr X)))) = true:=by
          simp only [mt,Bool.and_eq_true,decide_eq_true_eq]
          exact ⟨hr,rfl⟩
        have h1:¬ (tot t (eh (he (wp (q:Int) (ge tr X)))) ≠ 0 ∨ tot p (eh (he (wp (q:Int) (ge tr X)))) ≠ 0):=fun hc=>hk2 (hk.mem_iff.2 (hF.all _ hmt hc))
        rw [eh_he0 (show (wp (q:Int) (ge tr X)).Amount = 0 from rfl)] at h1
        simp only [not_or,Classical.not_not] at h1
        rw [h1.1,st_zero h1.2]
        rfl
    · obtain ⟨k,_,rfl⟩:=List.mem_map.1 he
      by_cases h0:tot t (eh k) = 0
      · by_cases h1:tot p (eh k) = 0
        · right
          show tot t (eh k) - st (tot p) (eh k) = 0
          rw [h0,st_zero h1]
          rfl
        · exact .inl (headB_party (g:=eh k) (tot_head hp h1))
      · exact .inl (headB_party (g:=eh k) (tot_head ht h0))
  · rw [if_neg hr]
    unfold mvL
    have z:∀ l:List Gheading,(∀ k ∈ l,mt tr (eh k) = true) → (l.map fun k=>if gh k = X then tot t (eh k) - st (tot p) (eh k) else 0).sum = 0:=fun l=>by
      induction l with
      | nil=>intro _; rfl
      | cons y l ih =>
        intro h
        have hy:=h y (by simp)
        rw [List.map_cons,List.sum_cons,ih fun k hk=>h k (by simp [hk]),if_neg fun hc=>hr ?_]
        · rfl
        · simp only [mt,Bool.and_eq_true] at hy
          rw [← hc]
          exact hy.1
    exact z ks hm
theorem inner_ok {to:GTreaty} {sh:Int → List Int} (hs:Shs to.Parts sh) {M:List (Gheading × Int)} {V:List (Ggroup × Int)} {A R:GEntry → Int} {f:Ggroup → Int} (hM:MapH M (fun g=>w64 (A g))) (hV:MapF V f) (hf:∀ p ∈ V,-17592186044416 ≤ p.2 ∧ p.2 ≤ 17592186044416) (hR:∀ g,g.Amount = 0 → R g = A g + if g.Treaty = to.ID then shr to.Parts sh (f (gp g)) g.Party else 0) (hv:∀ g,g.Amount = 0 → vAmt (R g) = true) (hl:M.length + 13 * V.length ≤ 1000000) :
    ∃ r,relP (fun G=>qamg G M V to) (fun r25_3=>if (!decide (r25_3.1 = 0)) = true then (some ([],r25_3.1)) else ((qalw r25_3.2).bind fun r28_1=>some (r28_1.1,r28_1.2))) = some (r,0) ∧ CollT R r ∧ r.length ≤ M.length + 13 * V.length:=by
  have run:∀ ys:List (Ggroup × Int),ys.Perm V → ∃ M' r,rangeV (qami to) ys M = some (.inl M') ∧ qalw M' = some (r,0) ∧ CollT R r ∧ r.length ≤ M.length + 13 * V.length:=fun ys hy=>by
    obtain ⟨M',r1,r2,r3⟩:=receive_run hs ys M A (fun p hp=>hf p (hy.mem_iff.1 hp)) hM
    have hM':MapH M' R:=r2.congr fun g hg=>by
      have b:=(vAmt_iff _).1 (hv g hg)
      rw [con_sum hs (hV.perm hy) hg,← hR g hg,w64_id (by omega) (by omega)]
    rw [hy.length_eq] at r3
    obtain ⟨r,c1,c2,c3⟩:=collected_ok hM' (by omega) hv
    exact ⟨M',r,r1,c1,c2,by omega⟩
  obtain ⟨_,r,_,_,c2,c3⟩:=run V (List.Perm.refl _)
  refine ⟨r,relP_of (fun G G' h1 h2=>?_) ?_,c2,c3⟩
  · unfold qamg at h1 h2
    obtain ⟨M',r',a1,a2,a3,a4⟩:=run V (List.Perm.refl _)
    have b1:=rangeP_some.1 h1 V (List.Perm.refl _)
    have b2:=rangeP_some.1 h2 V (List.Perm.refl _)
    rw [a1,Option.bind_some,Sum.elim_inl] at b1 b2
    exact ⟨_,gd_of b1,gd_of b2⟩
  · unfold qamg
    refine rangeP_some.2 fun ys hy=>?_
    obtain ⟨M',r',a1,a2,a3,a4⟩:=run ys hy
    rw [a1,Option.bind_some,Sum.elim_inl]
    refine gd_true ?_
    dsimp only
    rw [if_neg (by simp),a2,Option.bind_some,a3.uniq c2]
theorem redirect_sem {l:GLedger} (h:LOk l) {t:List GEntry} (hv:∀ e ∈ t,vE e = true) (hl:t.length ≤ 30000) {B C:Int} (hB:0 ≤ B) (hC0:0 ≤ C) (hBC:B + C ≤ 17592186044416) (hT:TotB t B) (hL:TotB (ents l) B) (h1:l.Postings.length ≤ 30000) {fr to:GTreaty} (hck:qalv fr to = some 0) (hne:fr.ID ≠ to.ID) {sh:Int → List Int} (hs:Shs to.Parts sh) (hC:∀ X,-C ≤ mv fr.ID (tot t) (tot (ents l)) X ∧ mv fr.ID (tot t) (tot (ents l)) X ≤ C) :
    ∃ r,qalp l t fr to = some (r,0) ∧ CollT (red fr.ID to.ID to.Parts sh (tot t) (tot (ents l))) r ∧ r.length ≤ 15 * (t.length + l.Postings.length) ∧ ∃ V,MapF V (mv fr.ID (tot t) (tot (ents l))):=by
  obtain ⟨w,hw,hwC,hwl⟩:=collect_ex (by omega) hv (hT.ok (by omega))
  have hel:=ents_len l
  obtain ⟨p,hp,hpC,hpl⟩:=collect_ex (by omega) (ents_valid h) (hL.ok (by omega))
  obtain ⟨F,hF,hFz,hFl⟩:=frozen_ok hwC.T hpC.T fr.ID (by omega) (by omega)
  obtain ⟨g1a,g1b⟩:=g1_inv w [] [] (by simpa using hwC.strict) (MapH.nil.congr fun g _=>(tot_nil g).symm)
  simp only [List.length_nil,Nat.zero_add] at g1b
  have hM0:MapH (w.foldl g1 []) (redA (tot t) (tot (ents l)) []):=by
    refine g1a.congr fun g hg=>?_
    unfold redA
    rw [if_neg (by simp),List.nil_append,coll_tot hwC g hg]
  have hV0:MapF ([]:List (Ggroup × Int)) (fun X=>w64 (mvL (tot t) (tot (ents l)) [] X)):=MapF.nil.congr fun X=>by simp [mvL,w64_id]
  have hbd:∀ g,g.Amount = 0 → vAmt (red fr.ID to.ID to.Parts sh (tot t) (tot (ents l)) g) = true:=fun g hg=>by
    rw [vAmt_iff]
    have b1:=hT g hg
    have b3:=hL g hg
    have b4:=hs.bd (p:=g.Party) (hC (gp g)).1 (hC (gp g)).2 (by omega)
    unfold red st
    split
    · split <;> omega
    · split <;> omega
  have run:∀ ys:List (Gheading × Int),ys.Perm F → ∃ r,((rangeV qalr ys (w.foldl g1 [],[])).bind (Sum.elim (fun s58 =>
      relP (fun G=>qamg G s58.1 s58.2 to) fun r25_3 =>
      if (!decide (r25_3.1 = 0)) = true then (some ([],r25_3.1)) else ((qalw r25_3.2).bind fun r28_1 =>
      some (r28_1.1,r28_1.2))) (fun _=>none))) = some (r,0) ∧ CollT (red fr.ID to.ID to.Parts sh (tot t) (tot (ents l))) r ∧ r.length ≤ 15 * (t.length + l.Postings.length) ∧ ∃ V,MapF V (mv fr.ID (tot t) (tot (ents l))):=fun ys hy=>by
    have hk:(ys.map Prod.fst).Perm (keys F):=hy.map Prod.fst
    have eys:ys = (ys.map Prod.fst).map fun k=>(k,st (tot (ents l)) (eh k)):=by
      rw [List.map_map]
      refine (List.map_id ys).symm.trans (List.map_congr_left fun q hq=>?_)
      have hq':=hy.mem_iff.1 hq
      have hqk:q.1 ∈ keys F:=List.mem_map.2 ⟨q,hq',rfl⟩
      have:=hFz.val q.1 hqk
      rw [mget_mem hFz.nodup (v:=q.2) hq'] at this
      show q = (q.1,st (tot (ents l)) (eh q.1))
      rw [← this]
    have hyl:(ys.map Prod.fst).length = F.length:=by rw [hk.length_eq]; simp [keys]
    obtain ⟨M',V',r1,r2,r3,r4,r5⟩:=redRange (T:=tot t) (S:=tot (ents l)) (ys.map Prod.fst) [] (w.foldl g1 []) [] (by simpa using (hk.nodup_iff).2 hFz.nodup) hM0 hV0
    rw [← eys] at r1
    rw [List.nil_append] at r2 r3
    simp only [List.length_nil,Nat.zero_add] at r5
    have hmv:∀ X,w64 (mvL (tot t) (tot (ents l)) (ys.map Prod.fst) X) = mv fr.ID (tot t) (tot (ents l)) X:=fun X=>by
      have:=hC X
      rw [mvL_eq hv (ents_valid h) hFz hk,w64_id (by omega) (by omega)]
    have r3':MapF V' (mv fr.ID (tot t) (tot (ents l))):=r3.congr hmv
    have hA:∀ g,g.Amount = 0 → redA (tot t) (tot (ents l)) (ys.map Prod.fst) g = if mt fr.ID g = true then st (tot (ents l)) g else tot t g:=fun g hg=>by
      unfold redA
      by_cases hgk:he g ∈ ys.map Prod.fst
      · have:=hFz.ofm _ (hk.mem_iff.1 hgk)
        rw [mt_eh] at this
        rw [if_pos hgk,if_pos this]
      · rw [if_neg hgk]
        by_cases hm:mt fr.ID g = true
        · rw [if_pos hm]
          have h1:¬ (tot t (eh (he g)) ≠ 0 ∨ tot (ents l) (eh (he g)) ≠ 0):=fun hc=>hgk (hk.mem_iff.2 (hFz.all _ (by rw [mt_eh]; exact hm) hc))
          rw [eh_he0 hg] at h1
          simp only [not_or,Classical.not_not] at h1
          rw [h1.1,st_zero h1.2]
        · rw [if_neg hm]
    have r2':MapH M' (fun g=>w64 (if mt fr.ID g = true then st (tot (ents l)) g else tot t g)):=r2.congr fun g hg=>by
      have b1:=hT g hg
      have b3:=hL g hg
      rw [hA g hg]
      unfold st
      split
      · split <;> rw [w64_id (by omega) (by omega)]
      · rw [w64_id (by omega) (by omega)]
    obtain ⟨r,c1,c2,c3⟩:=inner_ok (R:=red fr.ID to.ID to.Parts sh (tot t) (tot (ents l))) hs r2' r3' (fun q hq=>by
      rw [r3'.key q hq]
      have:=hC q.1
      omega) (fun g hg=>by
        unfold red
        by_cases hm:mt fr.ID g = true
        · have:g.Treaty = fr.ID:=by
            simp only [mt,Bool.and_eq_true,decide_eq_true_eq] at hm
            exact hm.2
          rw [if_pos hm,if_pos hm,if_neg (fun hc=>hne (this.symm.trans hc))]
          omega
        · rw [if_neg hm,if_neg hm]
          split <;> omega) hbd (by omega)
    refine ⟨r,?_,c2,by omega,V',r3'⟩
    rw [r1,Option.bind_some,Sum.elim_inl]
    exact c1
  obtain ⟨r,_,c2,c3⟩:=run F (List.Perm.refl _)
  refine ⟨r,?_,c2,c3⟩
  unfold qalp
  rw [pvalidate_ok h,Option.bind_some,if_neg (by simp),collect_same,hw,Option.bind_some]
  dsimp only
  rw [if_neg (by simp),hck,Option.bind_some,if_neg (by simp),ptotals_all h,hp,Option.bind_some]
  dsimp only
  rw [if_neg (by simp),g1_loop w 0 (by omega),Option.bind_some,hF,Option.bind_some]
  refine rangeP_some.2 fun ys hy=>?_
  obtain ⟨r',d1,d2,d3⟩:=run ys hy
  rw [d1,d2.uniq c2]
end Go.Proofs.YtdenliplkmjmjaaGreat.Pl
namespace Go.Proofs.YtdenliplkmjmjaaGreat.Pl
open Go
def pr (e:GEntry):Option GEntry:=if e.Kind = 2 ∧ e.Party ≠ 0 then some ⟨5,e.Treaty,e.Party,0,-e.Amount⟩ else none
theorem tot_set:∀ (l:List GEntry) (i:Nat) (hi:i < l.length) (b:Int) (g:GEntry),tot (l.set i (withA l[i] b)) g = tot l g + if hd l[i] = g then b - l[i].Amount else 0
  | [],i,hi,_,_=>by simp at hi
  | x :: l,0,_,b,g=>by
    simp only [List.set_cons_zero,List.getElem_cons_zero,tot_cons]
    have e1:hd (withA x b) = hd x:=rfl
    have e2:(withA x b).Amount = b:=rfl
    rw [e1,e2]
    split <;> omega
  | x :: l,i + 1,hi,b,g=>by
    simp only [List.set_cons_succ,List.getElem_cons_succ,tot_cons]
    rw [tot_set l i (by simpa using hi) b g]
    omega
theorem absA_set:∀ (l:List GEntry) (i:Nat) (hi:i < l.length) (b:Int),absA (l.set i (withA l[i] b)) ≤ absA l + max (b - l[i].Amount) (l[i].Amount - b)
  | [],i,hi,_=>by simp at hi
  | x :: l,0,_,b=>by
    simp only [List.set_cons_zero,List.getElem_cons_zero,absA_cons]
    have e2:(withA x b).Amount = b:=rfl
    rw [e2]
    omega
  | x :: l,i + 1,hi,b=>by
    simp only [List.set_cons_succ,List.getElem_cons_succ,absA_cons]
    have:=absA_set l i (by simpa using hi) b
    omega
theorem absA_get:∀ (l:List GEntry) (e:GEntry),e ∈ l → -(absA l) ≤ e.Amount ∧ e.Amount ≤ absA l
  | [],e,h=>by cases h
  | x :: l,e,h=>by
    rw [absA_cons]
    have h0:=absA_nonneg l
    rcases List.mem_cons.1 h with rfl | h
    · omega
    · have:=absA_get l e h
      omega
theorem priceIndex (res:List GEntry) (x:GPosting) (hl:res.length ≤ 1000000):qala res x = some (-1) ∨ ∃ (i:Nat) (hi:i < res.length),qala res x = some (i:Int) ∧ res[i].Treaty = x.Entry.Treaty ∧ res[i].Party = x.Entry.Party:=by
  unfold qala
  obtain ⟨o,ho,hQ⟩:=loopV_inv (step:=qalb res x) (fun s=>∃ k:Nat,s = (k:Int) ∧ k ≤ res.length) (fun s=>((res.length:Int) - s).toNat) (fun o=>o = .inr () ∨ ∃ (i:Nat) (hi:i < res.length),o = .inl (i:Int) ∧ res[i].Treaty = x.Entry.Treaty ∧ res[i].Party = x.Entry.Party) (by
    rintro s ⟨k,rfl,hk⟩
    unfold qalb qame
    by_cases hk2:k < res.length
    · rw [if_pos (decide_eq_true (by omega)),chk_of (inb_nat hk2),ix_nat hk2,Option.bind_some]
      by_cases hc:(decide (res[k].Treaty = x.Entry.Treaty) && decide (res[k].Party = x.Entry.Party)) = true
      · rw [if_pos hc]
        simp only [Bool.and_eq_true,decide_eq_true_eq] at hc
        exact ⟨_,rfl,.inr ⟨k,hk2,rfl,hc.1,hc.2⟩⟩
      · rw [if_neg hc,w64_id (n:=(k:Int) + 1) (by omega) (by omega)]
        exact ⟨_,rfl,⟨k + 1,by omega,by omega⟩,by omega⟩
    · rw [if_neg (by simp; omega)]
      exact ⟨_,rfl,.inl rfl⟩) 0 ⟨0,rfl,Nat.zero_le _⟩
  rw [ho]
  rcases hQ with rfl | ⟨i,hi,rfl,h1,h2⟩
  · exact .inl rfl
  · exact .inr ⟨i,hi,rfl,h1,h2⟩
theorem prices_ok {ps:List GPosting} (hl:ps.length ≤ 10000) (hA:absA (ps.map (·.Entry)) ≤ 4398046511104):∃ r,qamd ps = some r ∧ r.length ≤ ps.length ∧ absA r ≤ absA (ps.map (·.Entry)) ∧ (∀ e ∈ r,e.Kind = 5 ∧ e.Loss = 0 ∧ e.Party ≠ 0 ∧ ∃ x ∈ ps,e.Treaty = x.Entry.Treaty ∧ e.Party = x.Entry.Party) ∧ ∀ g,g.Amount = 0 → tot r g = tot ((ps.map (·.Entry)).filterMap pr) g:=by
  unfold qamd
  obtain ⟨o,ho,hQ⟩:=loopV_inv (step:=qamf ps) (fun s=>∃ k:Nat,s.2 = (k:Int) ∧ k ≤ ps.length ∧ s.1.length ≤ k ∧ absA s.1 ≤ absA ((ps.take k).map (·.Entry)) ∧ (∀ e ∈ s.1,e.Kind = 5 ∧ e.Loss = 0 ∧ e.Party ≠ 0 ∧ ∃ x ∈ ps,e.Treaty = x.Entry.Treaty ∧ e.Party = x.Entry.Party) ∧ ∀ g,g.Amount = 0 → tot s.1 g = tot (((ps.take k).map (·.Entry)).filterMap pr) g) (fun s=>((ps.length:Int) - s.2).toNat) (fun r=>r.length ≤ ps.length ∧ absA r ≤ absA (ps.map (·.Entry)) ∧ (∀ e ∈ r,e.Kind = 5 ∧ e.Loss = 0 ∧ e.Party ≠ 0 ∧ ∃ x ∈ ps,e.Treaty = x.Entry.Treaty ∧ e.Party = x.Entry.Party) ∧ ∀ g,g.Amount = 0 → tot r g = tot ((ps.map (·.Entry)).filterMap pr) g) (by
    rintro ⟨res,s2⟩ ⟨k,hk0,hk,h1,h2,h3,h4⟩
    dsimp only at hk0 h1 h2 h3 h4
    subst hk0
    unfold qamf
    dsimp only
    by_cases hk2:k < ps.length
    · have hx:ps[k] ∈ ps:=List.getElem_mem hk2
      have eT:(ps.take (k + 1)).map (·.Entry) = (ps.take k).map (·.Entry) ++ [ps[k].Entry]:=by
        rw [List.take_succ_eq_append_getElem hk2,List.map_append]
        rfl
      have eA:absA ((ps.take (k + 1)).map (·.Entry)) = absA ((ps.take k).map (·.Entry)) + max ps[k].Entry.Amount (-ps[k].Entry.Amount):=by
        rw [eT,absA_append,absA_cons]
        simp [absA]
      have eP:∀ g,tot (((ps.take (k + 1)).map (·.Entry)).filterMap pr) g = tot (((ps.take k).map (·.Entry)).filterMap pr) g + tot ([ps[k].Entry].filterMap pr) g:=fun g=>by
        rw [eT,List.filterMap_append,tot_append]
      have hle:absA ((ps.take (k + 1)).map (·.Entry)) ≤ absA (ps.map (·.Entry)):=by
        have:absA (ps.map (·.Entry)) = absA ((ps.take (k + 1)).map (·.Entry)) + absA ((ps.drop (k + 1)).map (·.Entry)):=by
          rw [← absA_append,← List.map_append,List.take_append_drop]
        have h0:=absA_nonneg ((ps.drop (k + 1)).map (·.Entry))
        omega
      rw [if_pos (decide_eq_true (by omega)),chk_of (inb_nat hk2),ix_nat hk2,w64_id (n:=(k:Int) + 1) (by omega) (by omega)]
      by_cases hc:((!decide (ps[k].Entry.Kind = 2)) || (decide (ps[k].Entry.Party = 0))) = true
      · rw [if_pos hc,Option.bind_some]
        have ep:pr ps[k].Entry = none:=by
          unfold pr
          rw [if_neg]
          rintro ⟨a,b⟩
          simp [a,b] at hc
        refine ⟨_,rfl,⟨k + 1,by simp,by omega,by dsimp only; omega,by dsimp only; omega,h3,fun g hg=>?_⟩,by dsimp only; omega⟩
        rw [eP,← h4 g hg]
        simp [ep,tot_nil]
      · rw [if_neg hc]
        have hc':ps[k].Entry.Kind = 2 ∧ ps[k].Entry.Party ≠ 0:=by
          simp only [Bool.or_eq_true,Bool.not_eq_true',decide_eq_false_iff_not,decide_eq_true_eq,not_or,Classical.not_not] at hc
          exact hc
        have ep:pr ps[k].Entry = some ⟨5,ps[k].Entry.Treaty,ps[k].Entry.Party,0,-ps[k].Entry.Amount⟩:=by
          unfold pr
          rw [if_pos hc']
        have eP':∀ g,tot (((ps.take (k + 1)).map (·.Entry)).filterMap pr) g = tot (((ps.take k).map (·.Entry)).filterMap pr) g + if GEntry.mk 5 ps[k].Entry.Treaty ps[k].Entry.Party 0 0 = g then -ps[k].Entry.Amount else 0:=fun g=>by
          rw [eP]
          simp only [List.filterMap_cons,ep,List.filterMap_nil,tot_cons,tot_nil,Int.add_zero]
          rfl
        have key:∀ (res':List GEntry) (i:Nat) (hi:i < res'.length),res'.length ≤ k + 1 → absA res' ≤ absA ((ps.take k).map (·.Entry)) → (∀ e ∈ res',e.Kind = 5 ∧ e.Loss = 0 ∧ e.Party ≠ 0 ∧ ∃ x ∈ ps,e.Treaty = x.Entry.Treaty ∧ e.Party = x.Entry.Party) → (∀ g,g.Amount = 0 → tot res' g = tot (((ps.take k).map (·.Entry)).filterMap pr) g) → res'[i].Treaty = ps[k].Entry.Treaty → res'[i].Party = ps[k].Entry.Party →
            ∃ q,((some (res',(i:Int))).bind fun s25 =>
              chk (inb s25.1 s25.2) <|
              some (upd s25.1 s25.2 (GEntry.mk (ix s25.1 s25.2).Kind (ix s25.1 s25.2).Treaty (ix s25.1 s25.2).Party (ix s25.1 s25.2).Loss (w64 ((ix s25.1 s25.2).Amount - ps[k].Entry.Amount))))) = some q ∧ q.length ≤ k + 1 ∧ absA q ≤ absA ((ps.take (k + 1)).map (·.Entry)) ∧ (∀ e ∈ q,e.Kind = 5 ∧ e.Loss = 0 ∧ e.Party ≠ 0 ∧ ∃ x ∈ ps,e.Treaty = x.Entry.Treaty ∧ e.Party = x.Entry.Party) ∧ ∀ g,g.Amount = 0 → tot q g = tot (((ps.take (k + 1)).map (·.Entry)).filterMap pr) g:=by
          intro res' i hi a1 a2 a3 a4 a5 a6
          have b1:=absA_get res' _ (List.getElem_mem hi)
          have b2:=absA_get (ps.map (·.Entry)) ps[k].Entry (List.mem_map.2 ⟨_,hx,rfl⟩)
          rw [Option.bind_some]
          dsimp only
          rw [chk_of (inb_nat hi),ix_nat hi,w64_id (n:=res'[i].Amount - ps[k].Entry.Amount) (by omega) (by omega)]
          have eu:upd res' (i:Int) (GEntry.mk res'[i].Kind res'[i].Treaty res'[i].Party res'[i].Loss (res'[i].Amount - ps[k].Entry.Amount)) = res'.set i (withA res'[i] (res'[i].Amount - ps[k].Entry.Amount)):=by
            simp [upd,withA]
          rw [eu]
          refine ⟨_,rfl,by simpa using a1,?_,fun e he=>?_,fun g hg=>?_⟩
          · have:=absA_set res' i hi (res'[i].Amount - ps[k].Entry.Amount)
            rw [eA]
            omega
          · rcases List.mem_or_eq_of_mem_set he with he | rfl
            · exact a3 e he
            · exact a3 res'[i] (List.getElem_mem hi)
          · rw [tot_set,a4 g hg,eP']
            have c:=a3 res'[i] (List.getElem_mem hi)
            have:hd res'[i] = GEntry.mk 5 ps[k].Entry.Treaty ps[k].Entry.Party 0 0:=by
              rw [← a5,← a6]
              unfold hd withA
              rw [c.1,c.2.1]
            rw [this]
            congr 1
            split <;> omega
        rcases priceIndex res ps[k] (by omega) with hi | ⟨i,hi,hi1,hi2,hi3⟩
        · rw [hi,Option.bind_some,if_pos (by simp),chk_of (room_of (by simp; omega))]
          obtain ⟨q,q1,q2,q3,q4,q5⟩:=key (res ++ [GEntry.mk 5 ps[k].Entry.Treaty ps[k].Entry.Party 0 0]) res.length (by simp) (by simp; omega) (by rw [absA_append]; simpa [absA] using h2) (fun e he=>by
            rcases List.mem_append.1 he with he | he
            · exact h3 e he
            · rw [List.mem_singleton.1 he]
              exact ⟨rfl,rfl,hc'.2,ps[k],hx,rfl,rfl⟩) (fun g hg=>by
                rw [tot_append,h4 g hg,tot_cons,tot_nil]
                simp) (by simp) (by simp)
          rw [q1,Option.bind_some]
          exact ⟨_,rfl,⟨k + 1,by simp,by omega,q2,q3,q4,q5⟩,by dsimp only; omega⟩
        · rw [hi1,Option.bind_some,if_neg (by simp)]
          obtain ⟨q,q1,q2,q3,q4,q5⟩:=key res i hi (by omega) h2 h3 h4 hi2 hi3
          rw [q1,Option.bind_some]
          exact ⟨_,rfl,⟨k + 1,by simp,by omega,q2,q3,q4,q5⟩,by dsimp only; omega⟩
    · have:k = ps.length:=by omega
      subst this
      rw [if_neg (by simp)]
      rw [List.take_of_length_le (Nat.le_refl _)] at h2 h4
      exact ⟨_,rfl,h1,h2,h3,h4⟩) ([],0) ⟨0,rfl,Nat.zero_le _,by simp,by simp [absA],fun e he=>(by cases he),fun g _=>by simp [tot_nil]⟩
  rw [ho]
  exact ⟨o,rfl,hQ⟩
end Go.Proofs.YtdenliplkmjmjaaGreat.Pl
namespace Go.Proofs.YtdenliplkmjmjaaGreat.Pl
open Go
theorem absA_dist:∀ (a l:List GEntry),a.Pairwise (fun x y=>hd x ≠ hd y) → (∀ e ∈ a,tot l (hd e) = e.Amount) → absA a ≤ absA l:=by
  intro a
  induction a with
  | nil=>intro l _ _; exact absA_nonneg l
  | cons x a ih =>
    intro l hs h
    obtain ⟨h1,h2⟩:=List.pairwise_cons.1 hs
    have hperm:absA l = absA (l.filter fun e=>decide (hd e = hd x)) + absA (l.filter fun e=>!decide (hd e = hd x)):=by
      rw [← absA_append]
      exact absA_perm (List.filter_append_perm _ l).symm
    have hx:max x.Amount (-x.Amount) ≤ absA (l.filter fun e=>decide (hd e = hd x)):=by
      have a1:=h x (by simp)
      have a2:=tot_abs (l.filter fun e=>decide (hd e = hd x)) (hd x)
      have a3:tot (l.filter fun e=>decide (hd e = hd x)) (hd x) = tot l (hd x):=by
        unfold tot
        rw [List.filter_filter]
        congr 1
        exact List.filter_congr fun y _=>by simp
      rw [a3,a1] at a2
      omega
    have ha:=ih (l.filter fun e=>!decide (hd e = hd x)) h2 (fun e he=>by
      rw [← h e (by simp [he])]
      have hne:hd e ≠ hd x:=fun hc=>h1 e he hc.symm
      unfold tot
      rw [List.filter_filter]
      congr 1
      refine List.filter_congr fun y _=>?_
      by_cases hy:hd y = hd e
      · simp [hy,hne]
      · simp [hy])
    rw [absA_cons]
    omega
theorem strict_dist {a:List GEntry} (h:StrictE a):a.Pairwise (fun x y=>hd x ≠ hd y):=h.imp fun {x y} hxy hc=>by
  rw [((hd_eq_iff x y).1 hc).1] at hxy
  cases hxy
theorem absA_collT {D:GEntry → Int} {a l:List GEntry} (h:CollT D a) (hl:∀ g,g.Amount = 0 → tot l g = D g):absA a ≤ absA l :=
  absA_dist a l (strict_dist h.strict) fun e he=>by rw [hl _ (hd_amount e)]; exact ((h.mem e).1 he).2
theorem absA_filter (q:GEntry → Bool) (l:List GEntry):absA (l.filter q) ≤ absA l:=by
  induction l with
  | nil=>simp
  | cons x l ih =>
    rw [List.filter_cons]
    split
    · rw [absA_cons,absA_cons]; omega
    · rw [absA_cons]; omega
theorem absA_neg (l:List GEntry):absA (l.map neg) = absA l:=by
  induction l with
  | nil=>rfl
  | cons x l ih =>
    rw [List.map_cons,absA_cons,absA_cons,ih]
    show max (-x.Amount) (- -x.Amount) + _ = _
    omega
theorem absA_c0 (l:List GEntry):absA (l.map c0) = absA l:=by
  induction l with
  | nil=>rfl
  | cons x l ih=>rw [List.map_cons,absA_cons,absA_cons,ih]; rfl
theorem tot_filter (q:GEntry → Bool) (hq:∀ e,q (hd e) = q e) (u:List GEntry) (h:GEntry):tot (u.filter q) h = if q h = true then tot u h else 0:=by
  induction u with
  | nil=>simp [tot_nil]
  | cons x u ih =>
    by_cases hx:q x = true
    · rw [List.filter_cons_of_pos hx,tot_cons,tot_cons,ih]
      by_cases hh:hd x = h
      · subst hh
        rw [hq,if_pos hx,if_pos rfl,if_pos hx]
      · rw [if_neg hh]
        split <;> omega
    · rw [List.filter_cons_of_neg hx,tot_cons,ih]
      by_cases hh:hd x = h
      · subst hh
        rw [hq,if_neg hx,if_neg hx]
      · rw [if_neg hh]
        split <;> omega
structure Mov (tr:Int) (T S:GEntry → Int) (N:List GEntry):Prop where
  eq:∀ g,g.Amount = 0 → tot N g = if mt tr g = true then T g - st S g else 0
  tre:∀ e ∈ N,e.Treaty = tr
  pty:∀ e ∈ N,0 ≤ e.Party ∧ e.Party ≤ 15
theorem Mov.mvq {tr:Int} {T S:GEntry → Int} {N:List GEntry} (h:Mov tr T S N) (X:Ggroup):tot (N.map c0) (ge tr X) = mv tr T S X:=by
  rw [merged_tot N (fun e he=>.inl (h.pty e he)) (ge tr X) rfl rfl]
  unfold mv
  have hmt:∀ q:Nat,mt tr (wp (q:Int) (ge tr X)) = isR (ge tr X):=fun q=>by
    show (isR (ge tr X) && decide (tr = tr)) = _
    simp
  by_cases hr:isR (ge tr X) = true
  · rw [if_pos hr]
    exact psum_congr fun q=>by rw [h.eq _ rfl,hmt,if_pos hr]
  · rw [if_neg hr]
    have:psum (tot N) (ge tr X) = psum (fun _=>0) (ge tr X):=psum_congr fun q=>by rw [h.eq _ rfl,hmt,if_neg hr]
    rw [this]
    unfold psum
    have:(List.map (fun _:Nat=>(0:Int)) (List.range 16)).sum = 0:=by decide
    exact this
theorem Mov.bd {tr:Int} {T S:GEntry → Int} {N:List GEntry} (h:Mov tr T S N) (X:Ggroup) : -(absA N) ≤ mv tr T S X ∧ mv tr T S X ≤ absA N:=by
  rw [← h.mvq X]
  have:=tot_abs (N.map c0) (ge tr X)
  rw [absA_c0] at this
  omega
def zs (tt:Int) (Ps:List GPart) (sh:Int → List Int) (p:Ggroup × Int):List GEntry:=(qs Ps sh p.2).map fun x=>⟨p.1.kind,tt,x.1,p.1.loss,x.2⟩
def zl (tt:Int) (Ps:List GPart) (sh:Int → List Int) (V:List (Ggroup × Int)):List GEntry:=V.flatMap (zs tt Ps sh)
theorem zs_tot (tt:Int) (Ps:List GPart) (sh:Int → List Int) (p:Ggroup × Int) (g:GEntry):tot (zs tt Ps sh p) g = con tt p.1 (qs Ps sh p.2) g:=by
  unfold zs con
  induction qs Ps sh p.2 with
  | nil=>rfl
  | cons x l ih =>
    rw [List.map_cons,tot_cons,ih,List.map_cons,List.sum_cons]
    congr 1
    have:(hd ⟨p.1.kind,tt,x.1,p.1.loss,x.2⟩ = g) ↔ (g = eh (key1 tt p.1 x.1)):=⟨fun h=>h.symm,fun h=>h.symm⟩
    simp only [this]
theorem tot_flatMap {α:Type} (f:α → List GEntry) (g:GEntry):∀ l:List α,tot (l.flatMap f) g = (l.map fun x=>tot (f x) g).sum
  | []=>rfl
  | x :: l=>by rw [List.flatMap_cons,tot_append,tot_flatMap f g l,List.map_cons,List.sum_cons]
theorem zl_tot {tt:Int} {Ps:List GPart} {sh:Int → List Int} (hs:Shs Ps sh) {V:List (Ggroup × Int)} {f:Ggroup → Int} (hV:MapF V f) {g:GEntry} (hg:g.Amount = 0):tot (zl tt Ps sh V) g = if g.Treaty = tt then shr Ps sh (f (gp g)) g.Party else 0:=by
  unfold zl
  rw [tot_flatMap,← con_sum hs hV hg]
  congr 1
  exact List.map_congr_left fun p _=>zs_tot _ _ _ _ _
theorem absA_pos:∀ (ps:List Int) (xs:List Int) (f:Int × Int → GEntry),(∀ x,(f x).Amount = x.2) → (∀ x ∈ xs,0 ≤ x) → absA ((ps.zip xs).map f) ≤ xs.sum
  | [],xs,f,_,h=>by simpa [absA] using sum_pos h
  | _ :: _,[],f,_,_=>by simp [absA]
  | q :: ps,x :: xs,f,hf,h=>by
    have h1:=h x (by simp)
    have h2:=absA_pos ps xs f hf fun y hy=>h y (by simp [hy])
    simp only [List.zip_cons_cons,List.map_cons,List.sum_cons,absA_cons,hf]
    omega
theorem absA_npos:∀ (ps:List Int) (xs:List Int) (f:Int × Int → GEntry),(∀ x,(f x).Amount = x.2) → (∀ x ∈ xs,x ≤ 0) → absA ((ps.zip xs).map f) ≤ -xs.sum
  | [],xs,f,_,h=>by
    have:=sum_pos (l:=xs.map fun x=>-x) fun y hy=>by
      obtain ⟨z,hz,rfl⟩:=List.mem_map.1 hy
      have:=h z hz
      omega
    rw [neg_map_sum] at this
    simpa [absA] using this
  | _ :: _,[],f,_,_=>by simp [absA]
  | q :: ps,x :: xs,f,hf,h=>by
    have h1:=h x (by simp)
    have h2:=absA_npos ps xs f hf fun y hy=>h y (by simp [hy])
    simp only [List.zip_cons_cons,List.map_cons,List.sum_cons,absA_cons,hf]
    omega
theorem zs_abs {tt:Int} {Ps:List GPart} {sh:Int → List Int} (hs:Shs Ps sh) {p:Ggroup × Int} (h1 : -17592186044416 ≤ p.2) (h2:p.2 ≤ 17592186044416):absA (zs tt Ps sh p) ≤ max p.2 (-p.2):=by
  have hsum:=hs.sum p.2 h1 h2
  unfold zs qs
  by_cases h0:0 ≤ p.2
  · have:=absA_pos (0 :: Ps.map GPart.Party) (sh p.2) (fun x=>⟨p.1.kind,tt,x.1,p.1.loss,x.2⟩) (fun _=>rfl) (hs.pos p.2 h1 h2 h0)
    omega
  · have:=absA_npos (0 :: Ps.map GPart.Party) (sh p.2) (fun x=>⟨p.1.kind,tt,x.1,p.1.loss,x.2⟩) (fun _=>rfl) (hs.neg p.2 h1 h2 (by omega))
    omega
theorem zl_abs {tr tt:Int} {Ps:List GPart} {sh:Int → List Int} (hs:Shs Ps sh) {T S:GEntry → Int} {N:List GEntry} (hN:Mov tr T S N) (hA:absA N ≤ 17592186044416) {V:List (Ggroup × Int)} (hV:MapF V (mv tr T S)):absA (zl tt Ps sh V) ≤ absA N:=by
  have h1:∀ V:List (Ggroup × Int),(∀ p ∈ V,-17592186044416 ≤ p.2 ∧ p.2 ≤ 17592186044416) → absA (zl tt Ps sh V) ≤ absA (V.map fun p=>withA (ge tr p.1) p.2):=fun V=>by
    induction V with
    | nil=>intro _; exact Int.le_refl _
    | cons p V ih =>
      intro h
      have hp:=h p (by simp)
      have a1:=ih fun q hq=>h q (by simp [hq])
      have a2:=zs_abs (tt:=tt) hs hp.1 hp.2
      have e:(withA (ge tr p.1) p.2).Amount = p.2:=rfl
      rw [List.map_cons,absA_cons,e]
      unfold zl at a1 ⊢
      rw [List.flatMap_cons,absA_append]
      omega
  have h2:=h1 V fun p hp=>by
    rw [hV.key p hp]
    have:=hN.bd p.1
    omega
  have h3:absA (V.map fun p=>withA (ge tr p.1) p.2) ≤ absA (N.map c0):=by
    refine absA_dist _ _ ?_ fun e he=>?_
    · rw [List.pairwise_map]
      have hn:V.Pairwise fun a b=>a.1 ≠ b.1:=by
        have:=hV.nodup
        unfold keys at this
        exact List.pairwise_map.1 this
      refine hn.imp fun {a b} hab hc=>hab ?_
      have hc':ge tr a.1 = ge tr b.1:=hc
      obtain ⟨⟨a1,a2⟩,a3⟩:=a
      obtain ⟨⟨b1,b2⟩,b3⟩:=b
      simp only [ge,GEntry.mk.injEq] at hc'
      simp only [Ggroup.mk.injEq]
      exact ⟨hc'.1,hc'.2.2.2.1⟩
    · obtain ⟨p,hp,rfl⟩:=List.mem_map.1 he
      show tot (N.map c0) (ge tr p.1) = p.2
      rw [hN.mvq,hV.key p hp]
  rw [absA_c0] at h3
  omega
theorem red_list {tr tt:Int} {Ps:List GPart} {sh:Int → List Int} (hs:Shs Ps sh) {t:List GEntry} {S:GEntry → Int} {N:List GEntry} (hne:tr ≠ tt) (hN:Mov tr (tot t) S N) {V:List (Ggroup × Int)} (hV:MapF V (mv tr (tot t) S)) {g:GEntry} (hg:g.Amount = 0):tot (t ++ N.map neg ++ zl tt Ps sh V) g = red tr tt Ps sh (tot t) S g:=by
  rw [tot_append,tot_append,tot_neg,hN.eq g hg,zl_tot hs hV hg]
  unfold red
  by_cases hm:mt tr g = true
  · have:g.Treaty = tr:=by
      simp only [mt,Bool.and_eq_true,decide_eq_true_eq] at hm
      exact hm.2
    rw [if_pos hm,if_pos hm,if_neg fun hc=>hne (this.symm.trans hc)]
    omega
  · rw [if_neg hm,if_neg hm]
    split <;> omega
end Go.Proofs.YtdenliplkmjmjaaGreat.Pl
namespace Go.Proofs.YtdenliplkmjmjaaGreat.Pl
open Go
structure Two (fr to:GTreaty) (sh:Int → List Int):Prop where
  ck:qalv fr to = some 0
  ne:fr.ID ≠ to.ID
  lo:0 ≤ to.ID
  hi:to.ID ≤ 1048576
  shs:Shs to.Parts sh
theorem psum_ne {φ:GEntry → Int} {g:GEntry} (h:psum φ g ≠ 0):∃ q:Nat,φ (wp (q:Int) g) ≠ 0:=by
  apply Classical.byContradiction
  intro hc
  apply h
  have:psum φ g = psum (fun _=>0) g:=psum_congr fun q=>Classical.byContradiction fun hq=>hc ⟨q,hq⟩
  rw [this]
  have z:(List.map (fun _:Nat=>(0:Int)) (List.range 16)).sum = 0:=by decide
  exact z
theorem shr_ne {Ps:List GPart} {sh:Int → List Int} {d p:Int} (h:shr Ps sh d p ≠ 0):p = 0 ∨ ∃ x ∈ Ps,x.Party = p:=by
  apply Classical.byContradiction
  intro hc
  apply h
  unfold shr
  have z:∀ l:List (Int × Int),(l.map fun _=>(0:Int)).sum = 0:=fun l=>by
    induction l with
    | nil=>rfl
    | cons y l ih=>simp [ih]
  refine (congrArg List.sum (List.map_congr_left fun x hx=>if_neg fun h2=>hc ?_)).trans (z (qs Ps sh d))
  have:=(List.of_mem_zip (show (x.1,x.2) ∈ (0 :: Ps.map GPart.Party).zip (sh d) from hx)).1
  rcases List.mem_cons.1 this with h3 | h3
  · exact .inl (h2.symm.trans h3)
  · obtain ⟨y,hy,hye⟩:=List.mem_map.1 h3
    exact .inr ⟨y,hy,hye.trans h2⟩
theorem mv_ne {tr:Int} {T S:GEntry → Int} {X:Ggroup} (h:mv tr T S X ≠ 0):isR (ge tr X) = true ∧ ∃ q:Nat,T (wp (q:Int) (ge tr X)) ≠ 0 ∨ S (wp (q:Int) (ge tr X)) ≠ 0:=by
  unfold mv at h
  split at h
  · rename_i hr
    refine ⟨hr,?_⟩
    obtain ⟨q,hq⟩:=psum_ne h
    refine ⟨q,?_⟩
    by_cases h0:T (wp (q:Int) (ge tr X)) = 0
    · right
      intro hS
      apply hq
      show T (wp (q:Int) (ge tr X)) - st S (wp (q:Int) (ge tr X)) = 0
      rw [h0,st_zero hS]
      rfl
    · exact .inl h0
  · exact absurd rfl h
theorem mv_congr {tr:Int} {T S T' S':GEntry → Int} (h:∀ g,g.Amount = 0 → mt tr g = true → T g - st S g = T' g - st S' g) (X:Ggroup):mv tr T S X = mv tr T' S' X:=by
  unfold mv
  split
  · rename_i hr
    exact psum_congr fun q=>h _ rfl (by
      simp only [mt,Bool.and_eq_true,decide_eq_true_eq]
      exact ⟨hr,rfl⟩)
  · rfl
theorem headB_move {g:GEntry} {q tr:Int} (h:headB (wp q (ge tr (gp g))) = true) (h1:0 ≤ g.Treaty ∧ g.Treaty ≤ 1048576) (h2:0 ≤ g.Party ∧ g.Party ≤ 15):headB g = true:=by
  simp only [headB,wp,ge,gp,Bool.and_eq_true] at h ⊢
  obtain ⟨⟨⟨⟨⟨⟨a,b⟩,c⟩,d⟩,_⟩,_⟩,f⟩:=h
  exact ⟨⟨⟨⟨⟨⟨a,b⟩,decide_eq_true h1.1⟩,decide_eq_true h1.2⟩,decide_eq_true h2.1⟩,decide_eq_true h2.2⟩,f⟩
theorem red_entries {fr to:GTreaty} {sh:Int → List Int} (h2:Two fr to sh) {t p r:List GEntry} (hC:CollT (red fr.ID to.ID to.Parts sh (tot t) (tot p)) r) (hv:∀ e ∈ t,vE e = true) (hp:∀ e ∈ p,vE e = true) {B:Int} (hB:B ≤ 17592186044416) (hb:∀ g,g.Amount = 0 → -B ≤ red fr.ID to.ID to.Parts sh (tot t) (tot p) g ∧ red fr.ID to.ID to.Parts sh (tot t) (tot p) g ≤ B) :
    (∀ e ∈ r,vE e = true ∧ e.Amount ≠ 0) ∧ ((∀ e ∈ t,isR e = true) → ∀ e ∈ r,isR e = true):=by
  have key:∀ e ∈ r,headB (hd e) = true ∧ (isR (hd e) = true ∨ tot t (hd e) ≠ 0):=fun e he=>by
    obtain ⟨h0,h1⟩:=(hC.mem e).1 he
    have h2':red fr.ID to.ID to.Parts sh (tot t) (tot p) (hd e) ≠ 0:=by rw [h1]; exact h0
    have hg:=hd_amount e
    generalize hd e = g at h2' hg ⊢
    unfold red at h2'
    split at h2'
    · rename_i hm
      have hr:isR g = true:=by
        simp only [mt,Bool.and_eq_true] at hm
        exact hm.1
      exact ⟨tot_head hp fun hc=>h2' (st_zero hc),.inl hr⟩
    · split at h2'
      · rename_i _ htt
        by_cases a:tot t g = 0
        · rw [a,Int.zero_add] at h2'
          have hmv:mv fr.ID (tot t) (tot p) (gp g) ≠ 0:=fun hc=>h2' (by rw [hc]; exact h2.shs.zero _)
          obtain ⟨hr,q,hq⟩:=mv_ne hmv
          have hpt:0 ≤ g.Party ∧ g.Party ≤ 15:=by
            rcases shr_ne h2' with h | ⟨x,hx,hxe⟩
            · omega
            · have:=h2.shs.pty x hx
              omega
          have h1:=h2.lo
          have h3:=h2.hi
          refine ⟨?_,.inl hr⟩
          rcases hq with hq | hq
          · exact headB_move (tot_head hv hq) (by omega) hpt
          · exact headB_move (tot_head hp hq) (by omega) hpt
        · exact ⟨tot_head hv a,.inr a⟩
      · exact ⟨tot_head hv h2',.inr h2'⟩
  refine ⟨fun e he=>?_,fun hr e he=>?_⟩
  · obtain ⟨h0,h1⟩:=(hC.mem e).1 he
    have:=hb (hd e) (hd_amount e)
    refine ⟨?_,h0⟩
    simp only [vE,Bool.and_eq_true]
    refine ⟨(key e he).1,(vAmt_iff _).2 ?_⟩
    rw [h1] at this
    omega
  · rcases (key e he).2 with h | h
    · exact h
    · obtain ⟨y,hy,hye⟩:=tot_ne h
      have:=hr y hy
      rw [← isR_hd,hye] at this
      exact this
theorem red_bd {tr tt:Int} {Ps:List GPart} {sh:Int → List Int} (hs:Shs Ps sh) {T S:GEntry → Int} {A B C:Int} (_hA:0 ≤ A) (hB:0 ≤ B) (hC0:0 ≤ C) (hC1:C ≤ 17592186044416) (hT:∀ g,g.Amount = 0 → -A ≤ T g ∧ T g ≤ A) (hS:∀ g,g.Amount = 0 → -B ≤ S g ∧ S g ≤ B) (hC:∀ X,-C ≤ mv tr T S X ∧ mv tr T S X ≤ C) {E:Int} (hE1:B ≤ E) (hE2:A + C ≤ E):∀ g,g.Amount = 0 → -E ≤ red tr tt Ps sh T S g ∧ red tr tt Ps sh T S g ≤ E:=fun g hg=>by
  have b1:=hT g hg
  have b3:=hS g hg
  have b4:=hs.bd (p:=g.Party) (hC (gp g)).1 (hC (gp g)).2 hC1
  unfold red st
  split
  · split <;> omega
  · split <;> omega
theorem red_congr {tr tt:Int} {Ps:List GPart} {sh:Int → List Int} {T T' S:GEntry → Int} (h:∀ g,g.Amount = 0 → isR g = true → T g = T' g) {g:GEntry} (hg:g.Amount = 0) (hr:isR g = true):red tr tt Ps sh T S g = red tr tt Ps sh T' S g:=by
  unfold red
  rw [h g hg hr,mv_congr (T':=T') (S':=S) fun k hk hm=>by
    have:isR k = true:=by
      simp only [mt,Bool.and_eq_true] at hm
      exact hm.1
    rw [h k hk this]]
theorem valid_party {l:List GEntry} (hl:∀ e ∈ l,vE e = true):∀ e ∈ l,0 ≤ e.Party ∧ e.Party ≤ 15:=fun e he=>by
  have:=hl e he
  simp only [vE,Bool.and_eq_true] at this
  exact headB_party this.1
theorem mov_self (tr:Int) {p:List GEntry} (hp:∀ e ∈ p,vE e = true):Mov tr (tot p) (tot p) (p.filter fun e=>mt tr e && decide (e.Kind = 2)):=by
  refine ⟨fun g hg=>?_,fun e he=>?_,fun e he=>valid_party hp e (List.mem_filter.1 he).1⟩
  · rw [tot_filter (fun e=>mt tr e && decide (e.Kind = 2)) (fun e=>rfl)]
    unfold st
    by_cases hm:mt tr g = true
    · by_cases hk:g.Kind = 2
      · simp [hm,hk]
      · simp [hm,hk]
    · simp [hm]
  · have:=(List.mem_filter.1 he).2
    simp only [mt,Bool.and_eq_true,decide_eq_true_eq] at this
    exact this.1.2
theorem mov_two (tr:Int) {t p:List GEntry} (ht:∀ e ∈ t,vE e = true) (hp:∀ e ∈ p,vE e = true):Mov tr (tot t) (tot p) (t.filter (mt tr) ++ (p.filter fun e=>mt tr e && !decide (e.Kind = 2)).map neg):=by
  refine ⟨fun g hg=>?_,fun e he=>?_,fun e he=>?_⟩
  · rw [tot_append,tot_neg,tot_filter (mt tr) (fun e=>rfl),tot_filter (fun e=>mt tr e && !decide (e.Kind = 2)) (fun e=>rfl)]
    unfold st
    by_cases hm:mt tr g = true
    · by_cases hk:g.Kind = 2
      · simp [hm,hk]
      · simp [hm,hk]
        omega
    · simp [hm]
  · rcases List.mem_append.1 he with he | he
    · have:=(List.mem_filter.1 he).2
      simp only [mt,Bool.and_eq_true,decide_eq_true_eq] at this
      exact this.2
    · obtain ⟨x,hx,rfl⟩:=List.mem_map.1 he
      have:=(List.mem_filter.1 hx).2
      simp only [mt,Bool.and_eq_true,decide_eq_true_eq] at this
      exact this.1.2
  · rcases List.mem_append.1 he with he | he
    · exact valid_party ht e (List.mem_filter.1 he).1
    · obtain ⟨x,hx,rfl⟩:=List.mem_map.1 he
      exact valid_party hp x (List.mem_filter.1 hx).1
theorem mov_two_abs (tr:Int) (t p:List GEntry):absA (t.filter (mt tr) ++ (p.filter fun e=>mt tr e && !decide (e.Kind = 2)).map neg) ≤ absA t + absA p:=by
  rw [absA_append,absA_neg]
  have:=absA_filter (mt tr) t
  have:=absA_filter (fun e=>mt tr e && !decide (e.Kind = 2)) p
  omega
structure Trs (l:GLedger) (tr tt:Int) (Ps:List GPart) (sh:Int → List Int) (cs1 cs2:List GEntry):Prop where
  tot1:∀ g,g.Amount = 0 → tot cs1 g = if isR g = true then red tr tt Ps sh (tot (ents l)) (tot (ents l)) g - tot (ents l) g else 0
  strict1:StrictE cs1
  nz1:∀ e ∈ cs1,e.Amount ≠ 0
  kind1:∀ e ∈ cs1,e.Kind = 2 ∧ (e.Treaty = tr ∨ e.Treaty = tt)
  tot2:∀ g,g.Amount = 0 → tot cs2 g = tot (cs1.filterMap pr) g
  strict2:StrictE cs2
  nz2:∀ e ∈ cs2,e.Amount ≠ 0
  kind2:∀ e ∈ cs2,e.Kind = 5 ∧ e.Loss = 0 ∧ e.Party ≠ 0 ∧ (e.Treaty = tr ∨ e.Treaty = tt)
  len1:cs1.length ≤ 1000
  len2:cs2.length ≤ 1000
  abs1:absA cs1 ≤ 1649267441664
  v1:∀ e ∈ cs1,vE e = true
  v2:∀ e ∈ cs2,vE e = true
theorem transfer_sem {l:GLedger} {P:Nat} {c:Int} (h:Way l P 824633720832 c) (hA:absA (ents l) ≤ 824633720832) (hc:c < 100) (hP:P ≤ 24) {fr to:GTreaty} {sh:Int → List Int} (h2:Two fr to sh) :
    ∃ cs1 cs2 l3,qals l fr to = some (l3,mkPost l.Closed (lastNo l.Postings + 1) cs1 ++ mkPost l.Closed (lastNo l.Postings + cs1.length + 1) cs2,0) ∧ l3.Closed = l.Closed ∧ l3.Postings = l.Postings ++ (mkPost l.Closed (lastNo l.Postings + 1) cs1 ++ mkPost l.Closed (lastNo l.Postings + cs1.length + 1) cs2) ∧ ents l3 = ents l ++ cs1 ++ cs2 ∧ Way l3 1512 4123168604160 c ∧ Trs l fr.ID to.ID to.Parts sh cs1 cs2:=by
  have h0:=h.closed
  have h1:=h.len
  have h3:=h.last
  have hev:=ents_valid h.ok
  have hel:=ents_len l
  have hs:=h2.shs
  obtain ⟨T0,t1,t2,t3⟩:=collect_ex (by omega) hev (h.bd.ok (by omega))
  have htv:=t2.valid hev (h.bd.ok (by omega))
  have hfl:=List.length_filter_le isR T0
  have hft:∀ g,g.Amount = 0 → tot (T0.filter isR) g = if isR g = true then tot (ents l) g else 0:=fun g hg=>by
    rw [tot_isR,coll_tot t2 g hg]
  have hfv:∀ e ∈ T0.filter isR,vE e = true:=fun e he=>(htv e (List.mem_filter.1 he).1).1
  have hfr:∀ e ∈ T0.filter isR,isR e = true:=fun e he=>(List.mem_filter.1 he).2
  have hfB:TotB (T0.filter isR) 824633720832:=fun g hg=>by
    rw [hft g hg]
    have:=h.bd g hg
    split <;> omega
  have hN:=mov_self fr.ID hev
  have hNA:absA ((ents l).filter fun e=>mt fr.ID e && decide (e.Kind = 2)) ≤ 824633720832:=by
    have:=absA_filter (fun e=>mt fr.ID e && decide (e.Kind = 2)) (ents l)
    omega
  have hmv:∀ X,mv fr.ID (tot (T0.filter isR)) (tot (ents l)) X = mv fr.ID (tot (ents l)) (tot (ents l)) X:=mv_congr fun g hg hm=>by
    have:isR g = true:=by
      simp only [mt,Bool.and_eq_true] at hm
      exact hm.1
    rw [hft g hg,if_pos this]
  have hmb:∀ X,-824633720832 ≤ mv fr.ID (tot (ents l)) (tot (ents l)) X ∧ mv fr.ID (tot (ents l)) (tot (ents l)) X ≤ 824633720832:=fun X=>by
    have:=hN.bd X
    omega
  have hmb':∀ X,-824633720832 ≤ mv fr.ID (tot (T0.filter isR)) (tot (ents l)) X ∧ mv fr.ID (tot (T0.filter isR)) (tot (ents l)) X ≤ 824633720832:=fun X=>by
    rw [hmv X]
    exact hmb X
  obtain ⟨r,r1,r2,r3,V,hV⟩:=redirect_sem h.ok hfv (by omega) (B:=824633720832) (C:=824633720832) (by omega) (by omega) (by omega) hfB h.bd (by omega) h2.ck h2.ne hs hmb'
  have hV':MapF V (mv fr.ID (tot (ents l)) (tot (ents l))):=hV.congr hmv
  have hbd:=red_bd (tr:=fr.ID) (tt:=to.ID) hs (A:=824633720832) (B:=824633720832) (C:=824633720832) (by omega) (by omega) (by omega) (by omega) hfB h.bd hmb' (E:=1649267441664) (by omega) (by omega)
  obtain ⟨rv,rr⟩:=red_entries h2 r2 hfv hev (B:=1649267441664) (by omega) hbd
  have hred:∀ g,g.Amount = 0 → isR g = true → red fr.ID to.ID to.Parts sh (tot (T0.filter isR)) (tot (ents l)) g = red fr.ID to.ID to.Parts sh (tot (ents l)) (tot (ents l)) g:=fun g hg hr=>red_congr (fun x hx hxr=>by rw [hft x hx,if_pos hxr]) hg hr
  have hrt:TotB r 1649267441664:=fun g hg=>by
    rw [collT_tot r2 hg]
    exact hbd g hg
  have hL3:TotB (ents l) 1649267441664:=fun g hg=>by have:=h.bd g hg; omega
  obtain ⟨cs1,s1,s2,s3,s4,s5⟩:=restate_sem h.ok (by omega) (rr hfr) (fun e he=>(rv e he).1) (by omega) (B:=1649267441664) (by omega) hrt hL3 (by omega) (by omega)
  have s4':∀ g,g.Amount = 0 → tot cs1 g = if isR g = true then red fr.ID to.ID to.Parts sh (tot (ents l)) (tot (ents l)) g - tot (ents l) g else 0:=fun g hg=>by
    rw [s4 g hg]
    split
    · rename_i hr
      rw [collT_tot r2 hg,hred g hg hr]
    · rfl
  have hX:∀ g,g.Amount = 0 → tot (((ents l).filter fun e=>mt fr.ID e && decide (e.Kind = 2)).map neg ++ zl to.ID to.Parts sh V) g = tot cs1 g:=fun g hg=>by
    have e:=red_list (t:=ents l) hs h2.ne hN hV' hg
    rw [List.append_assoc,tot_append] at e
    rw [s4' g hg]
    by_cases hr:isR g = true
    · rw [if_pos hr]
      omega
    · rw [if_neg hr,tot_append,tot_neg,hN.eq g hg,zl_tot hs hV' hg]
      have hm:mt fr.ID g ≠ true:=fun hc=>by
        simp only [mt,Bool.and_eq_true] at hc
        exact hr hc.1
      have hz:mv fr.ID (tot (ents l)) (tot (ents l)) (gp g) = 0:=by
        unfold mv
        exact if_neg hr
      rw [if_neg hm,hz,hs.zero]
      split <;> rfl
  have hcC:CollT (tot cs1) cs1:=collT_of_tot s5 (fun e he=>(s2 e he).2) fun g _=>rfl
  have hA1:absA cs1 ≤ 1649267441664:=by
    have a1:=absA_collT hcC hX
    rw [absA_append,absA_neg] at a1
    have a2:=zl_abs (tt:=to.ID) hs hN (by omega) hV'
    omega
  have hk1:∀ e ∈ cs1,e.Kind = 2 ∧ (e.Treaty = fr.ID ∨ e.Treaty = to.ID):=fun e he=>by
    have a1:tot cs1 (hd e) ≠ 0:=by
      rw [tot_strict s5 he]
      exact (s2 e he).2
    rw [s4' _ (hd_amount e)] at a1
    split at a1
    · rename_i hr
      have b1:e.Kind = (hd e).Kind:=rfl
      have b2:e.Treaty = (hd e).Treaty:=rfl
      rw [b1,b2]
      have hg:=hd_amount e
      generalize hd e = g at a1 hr hg ⊢
      unfold red at a1
      split at a1
      · rename_i hm
        simp only [mt,Bool.and_eq_true,decide_eq_true_eq] at hm
        refine ⟨Classical.byContradiction fun hk=>a1 ?_,.inl hm.2⟩
        unfold st
        rw [if_neg hk]
        omega
      · split at a1
        · rename_i htt
          refine ⟨Classical.byContradiction fun hk=>a1 ?_,.inr htt⟩
          have hz:mv fr.ID (tot (ents l)) (tot (ents l)) (gp g) = 0:=by
            apply Classical.byContradiction
            intro hne
            unfold mv at hne
            split at hne
            · obtain ⟨q,hq⟩:=psum_ne hne
              apply hq
              have:st (tot (ents l)) (wp (q:Int) (ge fr.ID (gp g))) = tot (ents l) (wp (q:Int) (ge fr.ID (gp g))):=by
                unfold st
                exact if_neg hk
              rw [this]
              omega
            · exact hne rfl
          rw [hz,hs.zero]
          omega
        · exact absurd (by omega) a1
    · exact absurd rfl a1
  have hpe:(mkPost l.Closed (lastNo l.Postings + 1) cs1).map (·.Entry) = cs1:=qahx _ _ _
  have hpl:(mkPost l.Closed (lastNo l.Postings + 1) cs1).length = cs1.length:=by simp [mkPost_length]
  obtain ⟨prl,p1,p2,p3,p4,p5⟩:=prices_ok (ps:=mkPost l.Closed (lastNo l.Postings + 1) cs1) (by omega) (by rw [hpe]; omega)
  rw [hpe] at p3 p5
  rw [hpl] at p2
  have hpv:∀ e ∈ prl,vE e = true:=fun e he=>by
    obtain ⟨a1,a2,a3,x,hx,a4,a5⟩:=p4 e he
    have hx':x.Entry ∈ cs1:=by
      rw [← hpe]
      exact List.mem_map.2 ⟨x,hx,rfl⟩
    have b1:=(s2 _ hx').1
    have b2:=absA_get prl e he
    simp only [vE,headB,Bool.and_eq_true,decide_eq_true_eq] at b1 ⊢
    obtain ⟨⟨⟨⟨⟨⟨⟨_,_⟩,c3⟩,c4⟩,c5⟩,c6⟩,_⟩,_⟩:=b1
    refine ⟨⟨⟨⟨⟨⟨⟨by omega,by omega⟩,by omega⟩,by omega⟩,by omega⟩,by omega⟩,?_⟩,(vAmt_iff _).2 (by omega)⟩
    rw [if_neg (by omega)]
    simp [a2]
  have hpT:TotB prl 1649267441664:=TotB.of_abs (by omega)
  have hT2:TotB (ents l ++ cs1) 2473901162496:=fun g hg=>by
    rw [tot_append]
    have a:=h.bd g hg
    have b:=tot_abs cs1 g
    omega
  have hw2:=way_post h s2 (n:=744) (by omega) (by omega) (B':=2473901162496) hT2
  have w2:=hw2.len
  have w3:=hw2.last
  obtain ⟨cs2,q1,q2,q3,q4⟩:=post_sem hw2.ok (by show l.Closed ≠ 100; omega) (es:=prl) hpv (by omega) (hpT.ok (by omega)) (by omega) (by omega)
  have hq2:∀ g,g.Amount = 0 → tot cs2 g = tot (cs1.filterMap pr) g:=fun g hg=>by rw [coll_tot q4 g hg,p5 g hg]
  have hw3:=way_post hw2 q2 (n:=744) (by omega) (by omega) (B':=4123168604160) (fun g hg=>by
    rw [tot_append,coll_tot q4 g hg]
    have a:=hw2.bd g hg
    have b:=hpT g hg
    omega)
  rw [show lastNo (GLedger.mk l.Closed (l.Postings ++ mkPost l.Closed (lastNo l.Postings + 1) cs1)).Postings = lastNo l.Postings + cs1.length from lastNo_post h.ok cs1] at q1 hw3
  have hE:ents ⟨l.Closed,(l.Postings ++ mkPost l.Closed (lastNo l.Postings + 1) cs1) ++ mkPost l.Closed (lastNo l.Postings + cs1.length + 1) cs2⟩ = ents l ++ cs1 ++ cs2:=by
    simp only [ents,List.map_append,qahx]
  refine ⟨cs1,cs2,⟨l.Closed,(l.Postings ++ mkPost l.Closed (lastNo l.Postings + 1) cs1) ++ mkPost l.Closed (lastNo l.Postings + cs1.length + 1) cs2⟩,?_,rfl,by simp,hE,hw3.mono (by omega) (by omega) (by omega),⟨s4',s5,fun e he=>(s2 e he).2,hk1,hq2,q4.strict,fun e he=>(q2 e he).2,fun e he=>?_,by omega,by omega,hA1,fun e he=>(s2 e he).1,fun e he=>(q2 e he).1⟩⟩
  · unfold qals
    rw [pvalidate_ok h.ok,Option.bind_some,if_neg (by simp),h2.ck,Option.bind_some,if_neg (by simp),ptotals_all h.ok,t1,Option.bind_some]
    dsimp only
    rw [if_neg (by simp),delete_eq T0 (by omega),Option.bind_some,r1,Option.bind_some]
    dsimp only
    rw [if_neg (by simp),s1,Option.bind_some]
    dsimp only
    rw [if_neg (by simp)]
    unfold qalu
    dsimp only
    have d1:(l.Postings ++ mkPost l.Closed (lastNo l.Postings + 1) cs1).drop (l.Postings.length:Int).toNat = mkPost l.Closed (lastNo l.Postings + 1) cs1:=by
      rw [Int.toNat_natCast,List.drop_left]
    rw [chk_of (decide_eq_true (by omega)),chk_of (decide_eq_true (by simp; omega)),d1,List.nil_append,chk_of (room_of (by rw [hpl]; omega)),Option.bind_some]
    dsimp only
    rw [p1,Option.bind_some,q1,Option.bind_some]
    dsimp only
    have d2:((l.Postings ++ mkPost l.Closed (lastNo l.Postings + 1) cs1) ++ mkPost l.Closed (lastNo l.Postings + cs1.length + 1) cs2).drop ((l.Postings ++ mkPost l.Closed (lastNo l.Postings + 1) cs1).length:Int).toNat = mkPost l.Closed (lastNo l.Postings + cs1.length + 1) cs2:=by
      rw [Int.toNat_natCast,List.drop_left]
    rw [if_neg (by simp),chk_of (decide_eq_true (by omega)),chk_of (decide_eq_true (by simp; omega)),d2,chk_of (room_of (by simp [mkPost_length]; omega)),Option.bind_some]
  · have a1:tot prl (hd e) ≠ 0:=by
      rw [← coll_tot q4 _ (hd_amount e),tot_strict q4.strict he]
      exact (q2 e he).2
    obtain ⟨y,hy,hye⟩:=tot_ne a1
    obtain ⟨b1,b2,b3,x,hx,b4,b5⟩:=p4 y hy
    have hx':x.Entry ∈ cs1:=by
      rw [← hpe]
      exact List.mem_map.2 ⟨x,hx,rfl⟩
    have e1:e.Kind = y.Kind:=by
      have:(hd e).Kind = (hd y).Kind:=by rw [hye]
      exact this
    have e2:e.Loss = y.Loss:=by
      have:(hd e).Loss = (hd y).Loss:=by rw [hye]
      exact this
    have e3:e.Party = y.Party:=by
      have:(hd e).Party = (hd y).Party:=by rw [hye]
      exact this
    have e4:e.Treaty = y.Treaty:=by
      have:(hd e).Treaty = (hd y).Treaty:=by rw [hye]
      exact this
    rw [e1,e2,e3,e4,b4]
    exact ⟨b1,b2,b3,(hk1 _ hx').2⟩
end Go.Proofs.YtdenliplkmjmjaaGreat.Pl
namespace Go.Proofs.YtdenliplkmjmjaaGreat.Pl
open Go
theorem shs_of {Ps:List GPart} (h:Sp.POk Ps) (hsum:(Sp.shs Ps).sum ≤ 1000000):Shs Ps (fun d=>Sp.partsS d (Sp.weightsOf Ps)):=by
  obtain ⟨hb,hs0,hs1⟩:=Sp.shs_bounds h.asc.ok
  have hsl:=Sp.shs_length Ps
  have hlen:=h.len
  have hpe:Sp.partsE Ps = 0:=by
    rw [h.parts,if_neg (by omega)]
  have hws:(Sp.weightsOf Ps).sum = 1000000:=by
    unfold Sp.weightsOf
    rw [List.sum_cons]
    omega
  have hwl:(Sp.weightsOf Ps).length = Ps.length + 1:=by simp [Sp.weightsOf,hsl]
  have hwv:∀ x ∈ Sp.weightsOf Ps,0 ≤ x ∧ x ≤ 1000000:=fun x hx=>by
    rcases List.mem_cons.1 hx with rfl | hx
    · omega
    · have:=hb x hx; omega
  have hs:∀ d,-17592186044416 ≤ d → d ≤ 17592186044416 → Sp.SOk d (Sp.weightsOf Ps):=fun d h1 h2=>⟨by omega,by omega,fun x hx=>by have:=hwv x hx; omega,by omega,by omega⟩
  refine ⟨fun d h1 h2=>?_,fun d h1 h2=>?_,fun d h1 h2=>Sp.partsS_sum (hs d h1 h2),fun d h1 h2 h0 x hx=>?_,fun d h1 h2 h0 x hx=>?_,by omega,fun p hp=>?_⟩
  · rw [Sp.divide_eq]
    unfold Sp.divideS
    rw [if_neg (by simp [hpe]),if_neg (by simp; omega),Sp.splitS_ok (hs d h1 h2)]
  · rw [Sp.partsS_length,hwl]
  · obtain ⟨i,hi,rfl⟩:=List.getElem_of_mem hx
    exact (Sp.partsS_sign (hs d h1 h2) (by rw [Sp.partsS_length] at hi; exact hi)).1 h0
  · obtain ⟨i,hi,rfl⟩:=List.getElem_of_mem hx
    exact (Sp.partsS_sign (hs d h1 h2) (by rw [Sp.partsS_length] at hi; exact hi)).2 h0
  · exact (Sp.okP_iff.1 (h.asc.ok p hp)).1
theorem made_validate {t:GTreaty} {id kind:Int} (hi:1 ≤ id ∧ id ≤ 9) (hk:1 ≤ kind ∧ kind ≤ 6) (h:Sp.TBase t id kind) (h1:kind ≤ 3 → Sp.PropF t) (h2:4 ≤ kind → Sp.ExF t):qagp t = some 0:=by
  rw [Sp.validate_eq h.len,Sp.made_valid hi h hk]
  by_cases h3:kind ≤ 3
  · exact Sp.propF_fields (h1 h3) h.prem
  · exact Sp.exF_fields (h2 (by omega)) h.prem
theorem two_ok (a:List Int) (ha:a.length ≤ 9223372036854775807):∃ x y sh,qams a = some (x,y) ∧ Two x y sh ∧ x.ID = 1 ∧ y.ID = 2:=by
  unfold qams qamy
  obtain ⟨k,e0,h0⟩:=Sp.new_ok ha
  obtain ⟨v1,d1,e1,a1,b1,h1⟩:=Sp.next_ok h0 (n:=6) (by omega) (by omega)
  have w1:w64 (1 + v1) = 1 + v1:=w64_id (by omega) (by omega)
  obtain ⟨x,d2,e2,h2,x1,x2,x3⟩:=Sp.treatyA_ok h1 (id:=1) (kind:=1 + v1) (by omega)
  obtain ⟨v3,d3,e3,a3,b3,h3⟩:=Sp.next_ok h2 (n:=6) (by omega) (by omega)
  have w3:w64 (1 + v3) = 1 + v3:=w64_id (by omega) (by omega)
  obtain ⟨y,d4,e4,h4,y1,y2,y3⟩:=Sp.treatyA_ok h3 (id:=2) (kind:=1 + v3) (by omega)
  have hx:=made_validate (by omega) (by omega) x1 x2 x3
  have hy:=made_validate (by omega) (by omega) y1 y2 y3
  have hp:=y1.parts
  refine ⟨x,y,_,?_,⟨?_,by rw [x1.hid,y1.hid]; omega,by rw [y1.hid]; omega,by rw [y1.hid]; omega,shs_of ⟨by omega,hp.2.1⟩ hp.2.2⟩,x1.hid,y1.hid⟩
  · rw [e0,Option.bind_some,Option.bind_some,e1,Option.bind_some]
    dsimp only
    rw [w1,e2,Option.bind_some]
    dsimp only
    rw [e3,Option.bind_some]
    dsimp only
    rw [w3,e4,Option.bind_some]
  · unfold qalv
    rw [hx,Option.bind_some,if_neg (by simp),hy,Option.bind_some,if_neg (by simp),x1.hid,y1.hid]
    rfl
def exF:GTreaty:=GTreaty.mk 5 6 (GPeriod.mk 0 10) [] [] 0 0 0 0 0 1 0 0 0 0 [] false 0 [] []
def exT:GTreaty:=GTreaty.mk 6 6 (GPeriod.mk 0 10) [] [] 0 0 0 0 0 1 0 0 0 0 [] false 0 [] [(GPart.mk 3 500000)]
theorem ex_two:Two exF exT (fun d=>Sp.partsS d (Sp.weightsOf exT.Parts)):=by
  have h1:qagp exF = some 0:=by
    rw [Sp.validate_eq ⟨by decide,by decide,by decide⟩]
    decide
  have h2:qagp exT = some 0:=by
    rw [Sp.validate_eq ⟨by decide,by decide,by decide⟩]
    decide
  refine ⟨?_,by decide,by decide,by decide,shs_of ⟨by decide,?_⟩ (by decide)⟩
  · unfold qalv
    rw [h1,Option.bind_some,if_neg (by simp),h2,Option.bind_some,if_neg (by simp),if_neg (by decide)]
  · simp [exT,Sp.Asc,Sp.okP]
theorem red_supp {tr tt:Int} {Ps:List GPart} {sh:Int → List Int} (hs:Shs Ps sh) {p:List GEntry} {g:GEntry} (hg:g.Amount = 0) (h:(if isR g = true then red tr tt Ps sh (tot p) (tot p) g - tot p g else 0) ≠ 0):g ∈ p.map hd ++ p.flatMap (fun e=>(0 :: Ps.map GPart.Party).map fun q=>⟨e.Kind,tt,q,e.Loss,0⟩):=by
  split at h
  · by_cases h0:tot p g = 0
    · refine List.mem_append_right _ ?_
      unfold red at h
      rw [h0,st_zero h0] at h
      split at h
      · exact absurd rfl h
      · split at h
        · rename_i htt
          have h1:shr Ps sh (mv tr (tot p) (tot p) (gp g)) g.Party ≠ 0:=fun hc=>h (by rw [hc]; rfl)
          have h2:mv tr (tot p) (tot p) (gp g) ≠ 0:=fun hc=>h1 (by rw [hc]; exact hs.zero _)
          obtain ⟨_,q,hq⟩:=mv_ne h2
          have hq':tot p (wp (q:Int) (ge tr (gp g))) ≠ 0:=hq.elim id id
          obtain ⟨y,hy,hye⟩:=tot_ne hq'
          refine List.mem_flatMap.2 ⟨y,hy,List.mem_map.2 ⟨g.Party,?_,?_⟩⟩
          · rcases shr_ne h1 with h3 | ⟨x,hx,hxe⟩
            · rw [h3]; simp
            · rw [← hxe]
              exact List.mem_cons_of_mem _ (List.mem_map.2 ⟨x,hx,rfl⟩)
          · have k1:y.Kind = g.Kind:=by
              have:(hd y).Kind = (wp (q:Int) (ge tr (gp g))).Kind:=by rw [hye]
              exact this
            have k2:y.Loss = g.Loss:=by
              have:(hd y).Loss = (wp (q:Int) (ge tr (gp g))).Loss:=by rw [hye]
              exact this
            obtain ⟨a,b,c,d,x⟩:=g
            simp only at hg htt k1 k2
            subst hg htt
            rw [k1,k2]
        · exact absurd rfl h
    · obtain ⟨y,hy,hye⟩:=tot_ne h0
      exact List.mem_append_left _ (List.mem_map.2 ⟨y,hy,hye⟩)
  · exact absurd rfl h
theorem awake37:qamp = some true:=by
  unfold qamp
  have hx:∀ e ∈ [(GEntry.mk 2 5 2 7 20)],vE e = true:=by decide
  have hC:Coll [(GEntry.mk 2 5 2 7 20)] [(GEntry.mk 2 5 2 7 20)]:=coll_one (by decide)
  have hT:TotB [(GEntry.mk 2 5 2 7 20)] 824633720832:=TotB.of_abs (by decide)
  have h1:=collect_fine (by simp) hx (hT.ok (by omega)) hC
  have hp:=ppost_eq lok_nil h1 (by simp)
  have hp':ledger_Post ⟨0,[]⟩ [(GEntry.mk 2 5 2 7 20)] = some (⟨0,mkPost 0 1 [(GEntry.mk 2 5 2 7 20)]⟩,0):=by
    rw [hp]
    rfl
  have hw:Way ⟨0,mkPost 0 1 [(GEntry.mk 2 5 2 7 20)]⟩ 1 824633720832 0:=by
    have w0:Way ⟨0,[]⟩ 0 824633720832 0:=⟨lok_nil,by decide,by decide,by decide,fun g _=>by simp [ents,tot_nil]⟩
    exact way_post w0 (cs:=[(GEntry.mk 2 5 2 7 20)]) (by decide) (n:=1) (by simp) (by omega) (B':=824633720832) hT
  have hE:ents ⟨0,mkPost 0 1 [(GEntry.mk 2 5 2 7 20)]⟩ = [(GEntry.mk 2 5 2 7 20)]:=qahx _ _ _
  obtain ⟨cs1,cs2,l3,c1,c2,c3,c4,c5,ht⟩:=transfer_sem hw (by rw [hE]; decide) (by omega) (by omega) ex_two
  have t1:=ht.tot1
  rw [hE] at t1
  have hcs1:cs1 = [(GEntry.mk 2 5 2 7 (-20)),(GEntry.mk 2 6 0 7 10),(GEntry.mk 2 6 3 7 10)] :=
    (collT_of_tot ht.strict1 ht.nz1 t1).uniq (collT_dec (by unfold StrictE; decide) (by decide) (fun g hg hD=>red_supp ex_two.shs hg hD) (by decide))
  have t2:=ht.tot2
  rw [hcs1] at t2
  have hcs2:cs2 = [(GEntry.mk 5 5 2 0 20),(GEntry.mk 5 6 3 0 (-10))] :=
    (collT_of_tot ht.strict2 ht.nz2 t2).uniq (collT_dec (cand:=([(GEntry.mk 2 5 2 7 (-20)),(GEntry.mk 2 6 0 7 10),(GEntry.mk 2 6 3 7 10)].filterMap pr).map hd) (by unfold StrictE; decide) (by decide) (fun g hg hD=>by
      obtain ⟨y,hy,hye⟩:=tot_ne hD
      exact List.mem_map.2 ⟨y,hy,hye⟩) (by decide))
  subst hcs1 hcs2
  rw [Option.bind_some,hp',Option.bind_some]
  dsimp only
  have c1':=c1
  unfold exF exT at c1'
  rw [c1',Option.bind_some]
  simp [mkPost,ix,inb,chk]
end Go.Proofs.YtdenliplkmjmjaaGreat.Pl
namespace Go.Proofs.YtdenliplkmjmjaaGreat.Pl
open Go
theorem mv_zero {tr:Int} {T S:GEntry → Int} (h:∀ g,g.Amount = 0 → mt tr g = true → T g = st S g) (X:Ggroup):mv tr T S X = 0:=by
  have:=mv_congr (T':=fun _=>0) (S':=fun _=>0) (tr:=tr) (T:=T) (S:=S) (fun g hg hm=>by
    rw [h g hg hm]
    show st S g - st S g = (0:Int) - st (fun _=>0) g
    rw [st_zero (S:=fun _=>0) rfl]
    omega) X
  rw [this]
  apply Classical.byContradiction
  intro hc
  obtain ⟨_,q,hq⟩:=mv_ne hc
  exact hq.elim (fun h=>h rfl) fun h=>h rfl
theorem red_mt {tr tt:Int} {Ps:List GPart} {sh:Int → List Int} {T S:GEntry → Int} {g:GEntry} (h:mt tr g = true):red tr tt Ps sh T S g = st S g:=if_pos h
theorem mt_R {tr:Int} {g:GEntry} (h:mt tr g = true):isR g = true:=by
  simp only [mt,Bool.and_eq_true] at h
  exact h.1
theorem st_st {S S':GEntry → Int} {g:GEntry} (h:S' g = st S g):st S' g = st S g:=by
  unfold st at h ⊢
  split
  · rfl
  · rename_i hk
    rw [if_neg hk] at h
    exact h
theorem treatylaw37_TransferLater_law (a0 a1 a2:List Int) (h0:a0.length ≤ 9223372036854775807) (h1:a1.length ≤ 9223372036854775807) (h2:a2.length ≤ 9223372036854775807):qamm a0 a1 a2 = some true:=by
  unfold qamm
  obtain ⟨e1,hk1⟩:=new_ok a0 h0
  obtain ⟨l,d1,e2,_,hM⟩:=ledger_ok hk1 6 (by omega)
  obtain ⟨e3,hk2⟩:=new_ok a1 h1
  obtain ⟨t,d2,e4,_,ht1,ht2⟩:=target_ok hk2 12 (by omega)
  rw [show ((6:Nat):Int) = 6 from rfl] at e2
  rw [show ((12:Nat):Int) = 12 from rfl] at e4
  obtain ⟨x,y,sh,e5,hT,hx,hy⟩:=two_ok a2 h2
  have hw:=hM.way
  have hsm:absA (ents l) ≤ 137438953472 * ((6:Nat):Int):=hM.small
  have htv:∀ e ∈ t,vE e = true:=fun e he=>(ht2 e he).1.valid
  have htr:∀ e ∈ t,isR e = true:=fun e he=>(ht2 e he).2
  have hev:=ents_valid hw.ok
  have hab:=absA_EOk (l:=t) fun e he=>(ht2 e he).1
  obtain ⟨cs1,cs2,l3,c1,c2,c3,c4,c5,hS⟩:=transfer_sem (hw.mono (P':=24) (B':=824633720832) (c':=6) (by omega) (by omega) (by omega)) (by omega) (by omega) (by omega) hT
  have w5:=c5.len
  have hcl:=c5.closed
  have w6:=c5.last
  have hS3:∀ g,g.Amount = 0 → isR g = true → tot (ents l3) g = red x.ID y.ID y.Parts sh (tot (ents l)) (tot (ents l)) g:=fun g hg hr=>by
    rw [c4,tot_append,tot_append,hS.tot1 g hg,if_pos hr]
    have:tot cs2 g = 0:=tot_none fun e he hc=>by
      have k:=(hS.kind2 e he).1
      have:(hd e).Kind = 5:=k
      rw [hc] at this
      simp [isR,this] at hr
    rw [this]
    omega
  have hst3:∀ g,g.Amount = 0 → mt x.ID g = true → st (tot (ents l3)) g = st (tot (ents l)) g:=fun g hg hm=>st_st (by rw [hS3 g hg (mt_R hm),red_mt hm])
  have hmv3:∀ X,mv x.ID (tot t) (tot (ents l3)) X = mv x.ID (tot t) (tot (ents l)) X:=mv_congr fun g hg hm=>by rw [hst3 g hg hm]
  have hmb:∀ X,-1649267441664 ≤ mv x.ID (tot t) (tot (ents l)) X ∧ mv x.ID (tot t) (tot (ents l)) X ≤ 1649267441664:=fun X=>by
    have a1:=(mov_two x.ID htv hev).bd X
    have a2:=mov_two_abs x.ID t (ents l)
    omega
  have hmb3:∀ X,-1649267441664 ≤ mv x.ID (tot t) (tot (ents l3)) X ∧ mv x.ID (tot t) (tot (ents l3)) X ≤ 1649267441664:=fun X=>by
    rw [hmv3 X]
    exact hmb X
  have htB0:TotB t 824633720832:=TotB.of_abs (by omega)
  have htB:TotB t 4123168604160:=TotB.of_abs (by omega)
  obtain ⟨u,u1,u2,u3,_⟩:=redirect_sem c5.ok htv (by omega) (B:=4123168604160) (C:=1649267441664) (by omega) (by omega) (by omega) htB c5.bd (by omega) hT.ck hT.ne hT.shs hmb3
  have hbd:=red_bd (tr:=x.ID) (tt:=y.ID) hT.shs (A:=824633720832) (B:=4123168604160) (C:=1649267441664) (by omega) (by omega) (by omega) (by omega) htB0 c5.bd hmb3 (E:=4123168604160) (by omega) (by omega)
  obtain ⟨uv,ur⟩:=red_entries hT u2 htv (ents_valid c5.ok) (by omega) hbd
  have hut:∀ g,g.Amount = 0 → tot u g = red x.ID y.ID y.Parts sh (tot t) (tot (ents l3)) g:=fun g hg=>collT_tot u2 hg
  have huB:TotB u 4123168604160:=fun g hg=>by
    rw [hut g hg]
    exact hbd g hg
  have hmv0:∀ X,mv x.ID (tot u) (tot (ents l3)) X = 0:=mv_zero fun g hg hm=>by rw [hut g hg,red_mt hm]
  obtain ⟨v,v1,v2,v3,_⟩:=redirect_sem c5.ok (fun e he=>(uv e he).1) (by omega) (B:=4123168604160) (C:=0) (by omega) (by omega) (by omega) huB c5.bd (by omega) hT.ck hT.ne hT.shs (fun X=>by rw [hmv0 X]; omega)
  have hvu:v = u:=by
    refine v2.uniq (u2.congr fun g hg=>?_)
    rw [← hut g hg]
    unfold red
    by_cases hm:mt x.ID g = true
    · rw [if_pos hm,hut g hg,red_mt hm]
    · rw [if_neg hm,hmv0,hT.shs.zero]
      split <;> omega
  subst hvu
  obtain ⟨cs,s1,s2,s3,s4,s5⟩:=restate_sem c5.ok (by omega) (ur htr) (fun e he=>(uv e he).1) (by omega) (B:=4123168604160) (by omega) huB c5.bd (by omega) (by omega)
  have hS4:∀ g,g.Amount = 0 → tot (ents l3 ++ cs) g = if isR g = true then tot v g else tot (ents l3) g:=fun g hg=>by
    rw [tot_append,s4 g hg]
    split <;> omega
  have hw4:=way_post c5 s2 (n:=24372) (by omega) (by omega) (B':=4123168604160) (fun g hg=>by
    rw [hS4 g hg]
    have a:=huB g hg
    have b:=c5.bd g hg
    split <;> omega)
  have hE4:ents ⟨l3.Closed,l3.Postings ++ mkPost l3.Closed (lastNo l3.Postings + 1) cs⟩ = ents l3 ++ cs:=by
    simp only [ents,List.map_append,qahx]
  have w7:=hw4.len
  have hst4:∀ g,g.Amount = 0 → mt x.ID g = true → st (tot (ents l3 ++ cs)) g = st (tot (ents l3)) g:=fun g hg hm=>st_st (by
    rw [hS4 g hg,if_pos (mt_R hm),hut g hg,red_mt hm])
  have hmv4:∀ X,mv x.ID (tot t) (tot (ents l3 ++ cs)) X = mv x.ID (tot t) (tot (ents l3)) X:=mv_congr fun g hg hm=>by rw [hst4 g hg hm]
  obtain ⟨z,z1,z2,z3,_⟩:=redirect_sem hw4.ok htv (by omega) (B:=4123168604160) (C:=1649267441664) (by omega) (by omega) (by omega) htB hw4.bd (by omega) hT.ck hT.ne hT.shs (fun X=>by rw [hE4,hmv4 X]; exact hmb3 X)
  rw [hE4] at z2
  have hzu:z = v:=by
    refine z2.uniq (u2.congr fun g hg=>?_)
    unfold red
    by_cases hm:mt x.ID g = true
    · rw [if_pos hm,if_pos hm,hst4 g hg hm]
    · rw [if_neg hm,if_neg hm,hmv4]
  subst hzu
  simp only [e1,e2,e3,e4,e5,c1,u1,v1,s1,z1,Option.bind_some,decide_true,Bool.and_self,if_true,qakr z (by omega),awake37]
end Go.Proofs.YtdenliplkmjmjaaGreat.Pl
