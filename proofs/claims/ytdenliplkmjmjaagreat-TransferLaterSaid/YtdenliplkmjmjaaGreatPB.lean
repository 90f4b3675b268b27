import GoSem.Core.Sem
import Derived.Below
import Derived.Laws.OwnMore
import Derived.Laws.Rows
import Derived.Deep.Draws
import Derived.OwnWalk
import Derived.Deep.OwnRows
import Derived.Lib.Hide
import Derived.IntWalk
import Derived.Calls
import Derived.RangeFuncRecord
import Derived.OrdersIn
import Derived.TacticsIn
import Derived.Sort.LoopGhostIn
import Derived.Tactics
import Derived.Maps.AppendAt
import Derived.Laws.Tables
import Derived.Laws.Cells
import Derived.Laws.CopyRow
import Derived.ArgAppend
import Derived.Laws.Entries
import Derived.Deep.LoopGhost
import Derived.Test.YtdenliplkmjmjaaGreatPA
import Derived.Laws.Slices
import Derived.Laws.Small
import Derived.Laws.Cover3
import Derived.Laws.MakeOwn
import Derived.Great.BuildSlice
import Derived.StillTail
namespace Go.Proofs.YtdenliplkmjmjaaGreat
open Go
theorem ask_drawn {α:Type}:∀ (a:Ask α) (w:World),w.drawn ≤ (w.ask a).2.drawn
  | .done _,w=>Nat.le_refl _
  | .ask what range k,w=>by
    unfold World.ask
    simp only []
    split
    · exact ask_drawn _ w
    · exact Nat.le_of_succ_le (ask_drawn (k _) { w with drawn:=w.drawn + 1 })
theorem sys_drawn (w:World) (c:Sys):w.drawn ≤ (w.sys c).2.drawn:=by
  unfold World.sys
  have h:=ask_drawn (Kernel.perform c w.os) w
  split
  · exact Nat.le_refl _
  · rename_i e
    rw [e] at h
    exact h
theorem qaof {p:Program} {w w':World} {at_:Addr} {u:TypeId} {k:Addr} {v:Value} {b:Bool} {l:List Addr} (h:w.viewStore p at_ u k v b = .ok (w',l)):w'.drawn = w.drawn:=by
  unfold World.viewStore at h
  simp only [bind,Except.bind] at h
  repeat' split at h
  all_goals first | (cases h; done) | (cases h; rfl) | (simp [pure,Except.pure,throw,throwThe,MonadExceptOf.throw] at h; try (obtain ⟨rfl,_⟩:=h; rfl))
theorem qahb {p:Program} {w w':World} {a:Addr} {v:Value} {b:Bool} {l:List Addr} (hs:w.farStore p a v b = .ok (w',l)):w'.drawn = w.drawn:=by
  unfold World.farStore at hs
  split at hs
  · split at hs
    · rename_i h3
      cases hs
      exact qaof h3
    · cases hs
  · cases hs
theorem run_drawn {α:Type} {p:Program}:∀ (s:Sem α) (w:World) {a:α} {w':World},s.run p w = .ok a w' → w.drawn ≤ w'.drawn:=by
  intro s
  induction s with
  | pure a=>intro w a' w' h; simp only [Sem.run,Result.ok.injEq] at h; rw [h.2]; exact Nat.le_refl _
  | load m a k ih =>
    intro w x w' h
    unfold Sem.run at h
    split at h
    · exact ih _ _ h
    · split at h
      · exact ih _ _ h
      · cases h
  | store m a v k ih =>
    intro w x w' h
    cases v
    case agg=>cases h
    case tuple=>cases h
    all_goals
      unfold Sem.run at h
      split at h
      · split at h
        · cases h
        · exact ih (w.setCell a _) h
      · split at h
        · rename_i w2 l hs
          exact (qahb hs) ▸ ih _ h
        · cases h
  | new o k ih=>intro w x w' h; unfold Sem.run at h; exact ih _ { w with heap:=w.heap.push o } h
  | shape r k ih=>intro w x w' h; unfold Sem.run at h; exact ih _ _ h
  | freeze a n k ih =>
    intro w x w' h
    unfold Sem.run at h
    have:=ih _ h
    unfold World.freeze at this
    split at this <;> exact this
  | frozen a k ih=>intro w x w' h; unfold Sem.run at h; exact ih _ _ h
  | getObj r k ih =>
    intro w x w' h
    unfold Sem.run at h
    split at h
    · cases h
    · exact ih _ _ h
    · cases h
  | setObj r o k ih =>
    intro w x w' h
    unfold Sem.run at h
    split at h
    · cases h
    · exact ih { w with heap:=w.heap.setIfInBounds r o } h
    · cases h
  | choose q k ih =>
    intro w x w' h
    unfold Sem.run at h
    split at h
    · exact ih _ _ h
    · exact Nat.le_of_succ_le (ih _ { w with drawn:=w.drawn + 1 } h)
  | sys c k ih=>intro w x w' h; unfold Sem.run at h; exact Nat.le_trans (sys_drawn w c) (ih _ _ h)
  | program k ih=>intro w x w' h; unfold Sem.run at h; exact ih _ _ h
  | mark m k ih=>intro w x w' h; unfold Sem.run at h; exact ih _ h
  | halt h=>intro w x w' h; unfold Sem.run at h; cases h
end Go.Proofs.YtdenliplkmjmjaaGreat
namespace Go.Proofs.YtdenliplkmjmjaaGreat
open Go.RowKit
def Same (S:Nat → Prop) (w w':World):Prop:=∀ b,S b → w'.heap[b]? = w.heap[b]?
theorem Same.refl (S:Nat → Prop) (w:World):Same S w w:=fun _ _=>rfl
theorem Same.trans {S:Nat → Prop} {a b c:World} (h:Same S a b) (k:Same S b c):Same S a c:=fun i hi=>(k i hi).trans (h i hi)
theorem Same.sub {S T:Nat → Prop} {w w':World} (h:Same S w w') (hs:∀ b,T b → S b):Same T w w':=fun b hb=>h b (hs b hb)
theorem Same.cell {S:Nat → Prop} {w w':World} (h:Same S w w') {p:Addr} (hp:S p.block):w'.cell? p = w.cell? p:=World.cell?_of_block (h _ hp)
theorem Same.drew {S:Nat → Prop} {a w:World} (h:Same S a w):Same S a w.drew:=h
theorem Same.drewN {S:Nat → Prop} {a w:World} (h:Same S a w) (n:Nat):Same S a (w.drewN n):=h
theorem Same.alloc {S:Nat → Prop} {a w:World} (h:Same S a w) (o:Obj) (hs:∀ b,S b → b < w.heap.size):Same S a (w.alloc o) :=
  h.trans fun b hb=>Below.heap_alloc w o b (hs b hb)
theorem Same.setCell {S:Nat → Prop} {a w:World} (h:Same S a w) (p:Addr) (u:Value) (hs:¬ S p.block):Same S a (w.setCell p u) :=
  h.trans fun b hb=>Below.heap_setCell w p u b (fun e=>hs (e ▸ hb))
structure Lay (α:Type) where
  size:Nat
  R:World → (Nat → Prop) → List Value → α → Prop
  len:∀ {w S cs x},R w S cs x → cs.length = size
  one:∀ {w S cs x},R w S cs x → ∀ u ∈ cs,u.oneCell' = true
  keep:∀ {w w':World} {S cs x},R w S cs x → Same S w w' → R w' S cs x
  sub:∀ {w} {S T:Nat → Prop} {cs x},R w S cs x → (∀ b,S b → T b) → R w T cs x
def lFlat {α:Type} (enc:α → List Value) (z:Nat) (hl:∀ x,(enc x).length = z) (h1:∀ x,∀ u ∈ enc x,u.oneCell' = true):Lay α where
  size:=z
  R:=fun _ _ cs x=>cs = enc x
  len:=fun h=>by rw [h]; exact hl _
  one:=fun h u hu=>by rw [h] at hu; exact h1 _ u hu
  keep:=fun h _=>h
  sub:=fun h _=>h
def encI (k:IntKind) (n:Int):List Value:=[.int k n]
def encB (b:Bool):List Value:=[.bool b]
def lInt (k:IntKind):Lay Int:=lFlat (encI k) 1 (fun _=>rfl) (fun _ u hu=>by simp [encI] at hu; subst hu; rfl)
def lBool:Lay Bool:=lFlat encB 1 (fun _=>rfl) (fun _ u hu=>by simp [encB] at hu; subst hu; rfl)
def At (w:World) (b off:Nat) (cs:List Value):Prop:=∀ j u,cs[j]? = some u → w.cell? ⟨b,off + j,none⟩ = some u
theorem At.keep {w w':World} {b off:Nat} {cs:List Value} (h:At w b off cs) (hb:w'.heap[b]? = w.heap[b]?):At w' b off cs :=
  fun j u hu=>(World.cell?_of_block (a:=⟨b,off + j,none⟩) hb).trans (h j u hu)
theorem At.zero {w:World} {b off:Nat} {c:Value} {cs:List Value} (h:At w b off (c :: cs)):w.cell? ⟨b,off,none⟩ = some c:=by simpa using h 0 c rfl
def Els {α:Type} (L:Lay α) (w:World) (S:Nat → Prop) (A:Option Addr) (xs:List α):Prop :=
  xs = [] ∨ ∃ b off,A = some ⟨b,off,none⟩ ∧ S b ∧ ∀ i x,xs[i]? = some x → ∃ cs,L.R w S cs x ∧ At w b (off + i * L.size) cs
theorem Els.keep {α:Type} {L:Lay α} {w w':World} {S:Nat → Prop} {A:Option Addr} {xs:List α} (h:Els L w S A xs) (k:Same S w w'):Els L w' S A xs:=by
  rcases h with h | ⟨b,off,hA,hb,h⟩
  · exact .inl h
  · refine .inr ⟨b,off,hA,hb,fun i x hx=>?_⟩
    obtain ⟨cs,hr,hc⟩:=h i x hx
    exact ⟨cs,L.keep hr k,hc.keep (k b hb)⟩
theorem Els.sub {α:Type} {L:Lay α} {w:World} {S T:Nat → Prop} {A:Option Addr} {xs:List α} (h:Els L w S A xs) (k:∀ b,S b → T b):Els L w T A xs:=by
  rcases h with h | ⟨b,off,hA,hb,h⟩
  · exact .inl h
  · refine .inr ⟨b,off,hA,k b hb,fun i x hx=>?_⟩
    obtain ⟨cs,hr,hc⟩:=h i x hx
    exact ⟨cs,L.sub hr k,hc⟩
def lSlice {α:Type} (L:Lay α):Lay (List α) where
  size:=1
  R:=fun w S cs xs=>∃ A n c,cs = [.slice A n c] ∧ n = xs.length ∧ n ≤ c ∧ Els L w S A xs
  len:=fun ⟨_,_,_,h,_⟩=>by rw [h]; rfl
  one:=fun ⟨_,_,_,h,_⟩ u hu=>by rw [h] at hu; simp at hu; subst hu; rfl
  keep:=fun ⟨A,n,c,h,h0,h1,h2⟩ k=>⟨A,n,c,h,h0,h1,h2.keep k⟩
  sub:=fun ⟨A,n,c,h,h0,h1,h2⟩ k=>⟨A,n,c,h,h0,h1,h2.sub k⟩
def lPair {α β:Type} (L:Lay α) (M:Lay β):Lay (α × β) where
  size:=L.size + M.size
  R:=fun w S cs x=>∃ c d,cs = c ++ d ∧ L.R w S c x.1 ∧ M.R w S d x.2
  len:=fun ⟨_,_,h,h1,h2⟩=>by rw [h,List.length_append,L.len h1,M.len h2]
  one:=fun ⟨_,_,h,h1,h2⟩ u hu=>by
    rw [h,List.mem_append] at hu
    rcases hu with hu | hu
    · exact L.one h1 u hu
    · exact M.one h2 u hu
  keep:=fun ⟨c,d,h,h1,h2⟩ k=>⟨c,d,h,L.keep h1 k,M.keep h2 k⟩
  sub:=fun ⟨c,d,h,h1,h2⟩ k=>⟨c,d,h,L.sub h1 k,M.sub h2 k⟩
def lMap {α β:Type} (f:β → α) (L:Lay α):Lay β where
  size:=L.size
  R:=fun w S cs y=>L.R w S cs (f y)
  len:=fun h=>L.len h
  one:=fun h=>L.one h
  keep:=fun h k=>L.keep h k
  sub:=fun h k=>L.sub h k
abbrev Lay.V {α:Type} (L:Lay α) (w:World) (S:Nat → Prop) (v:Value) (x:α):Prop:=L.R w S [v] x
theorem lSlice_of {α:Type} {L:Lay α} {w:World} {S:Nat → Prop} {A:Option Addr} {n c:Nat} {xs:List α} (h:(lSlice L).R w S [.slice A n c] xs):n = xs.length ∧ n ≤ c ∧ Els L w S A xs:=by
  obtain ⟨A',n',c',h1,h2,h3,h4⟩:=h
  simp only [List.cons.injEq,and_true,Value.slice.injEq] at h1
  obtain ⟨rfl,rfl,rfl⟩:=h1
  exact ⟨h2,h3,h4⟩
theorem Els.nil {α:Type} {L:Lay α} {w:World} {S:Nat → Prop} {A:Option Addr}:Els L w S A []:=.inl rfl
theorem Els.at_ {α:Type} {L:Lay α} {w:World} {S:Nat → Prop} {A:Option Addr} {xs:List α} (h:Els L w S A xs) {i:Nat} (hi:i < xs.length) :
    ∃ b off cs,A = some ⟨b,off,none⟩ ∧ S b ∧ L.R w S cs xs[i] ∧ At w b (off + i * L.size) cs:=by
  rcases h with h | ⟨b,off,hA,hb,h⟩
  · subst h; simp at hi
  · obtain ⟨cs,hr,hc⟩:=h i xs[i] (List.getElem?_eq_getElem hi)
    exact ⟨b,off,cs,hA,hb,hr,hc⟩
theorem Els.take {α:Type} {L:Lay α} {w:World} {S:Nat → Prop} {A:Option Addr} {xs:List α} (h:Els L w S A xs) (n:Nat):Els L w S A (xs.take n):=by
  rcases h with h | ⟨b,off,hA,hb,h⟩
  · subst h; exact .inl (by simp)
  · refine .inr ⟨b,off,hA,hb,fun i x hx=>h i x ?_⟩
    rw [List.getElem?_take] at hx
    split at hx
    · exact hx
    · cases hx
theorem Addr.add_at (b o k:Nat):(⟨b,o,none⟩:Addr).add k = ⟨b,o + k,none⟩:=by unfold Addr.add; split <;> simp_all
theorem Els.drop {α:Type} {L:Lay α} {w:World} {S:Nat → Prop} {A:Option Addr} {xs:List α} (h:Els L w S A xs) (n:Nat):Els L w S (A.map (·.add (n * L.size))) (xs.drop n):=by
  rcases h with h | ⟨b,off,hA,hb,h⟩
  · subst h; exact .inl (by simp)
  · refine .inr ⟨b,off + n * L.size,by rw [hA,Option.map_some,Addr.add_at],hb,fun i x hx=>?_⟩
    rw [List.getElem?_drop] at hx
    obtain ⟨cs,h1,h2⟩:=h _ x hx
    refine ⟨cs,h1,?_⟩
    rw [show off + n * L.size + i * L.size = off + (n + i) * L.size by rw [Nat.add_mul]; omega]
    exact h2
def Cells {α:Type} (L:Lay α) (w:World) (S:Nat → Prop) (cs:List Value) (xs:List α):Prop :=
  cs.length = xs.length * L.size ∧ ∀ i x,xs[i]? = some x → L.R w S ((cs.drop (i * L.size)).take L.size) x
theorem Cells.keep {α:Type} {L:Lay α} {w w':World} {S:Nat → Prop} {cs:List Value} {xs:List α} (h:Cells L w S cs xs) (k:Same S w w'):Cells L w' S cs xs:=⟨h.1,fun i x hx=>L.keep (h.2 i x hx) k⟩
theorem Cells.sub {α:Type} {L:Lay α} {w:World} {S T:Nat → Prop} {cs:List Value} {xs:List α} (h:Cells L w S cs xs) (k:∀ b,S b → T b):Cells L w T cs xs:=⟨h.1,fun i x hx=>L.sub (h.2 i x hx) k⟩
theorem Cells.nil {α:Type} {L:Lay α} {w:World} {S:Nat → Prop}:Cells L w S [] []:=⟨by simp,fun i x hx=>by simp at hx⟩
theorem Cells.one {α:Type} {L:Lay α} {w:World} {S:Nat → Prop} {cs:List Value} {x:α} (h:L.R w S cs x):Cells L w S cs [x]:=by
  have hl:=L.len h
  refine ⟨by simp [hl],fun i y hy=>?_⟩
  match i,hy with
  | 0,hy =>
    simp at hy
    subst hy
    rw [Nat.zero_mul,List.drop_zero,← hl,List.take_length]
    exact h
  | i + 1,hy=>simp at hy
theorem Cells.cat {α:Type} {L:Lay α} {w:World} {S:Nat → Prop} {cs ds:List Value} {xs ys:List α} (h:Cells L w S cs xs) (k:Cells L w S ds ys):Cells L w S (cs ++ ds) (xs ++ ys):=by
  refine ⟨by rw [List.length_append,List.length_append,h.1,k.1,Nat.add_mul],fun i x hx=>?_⟩
  by_cases hi:i < xs.length
  · rw [List.getElem?_append_left hi] at hx
    have h2:=h.2 i x hx
    have hle:i * L.size + L.size ≤ cs.length:=by
      rw [h.1,← Nat.succ_mul]
      exact Nat.mul_le_mul_right _ hi
    rw [List.drop_append_of_le_length (by omega),List.take_append_of_le_length (by rw [List.length_drop]; omega)]
    exact h2
  · rw [List.getElem?_append_right (by omega)] at hx
    have h2:=k.2 _ x hx
    have e:i * L.size = cs.length + (i - xs.length) * L.size:=by
      rw [h.1,← Nat.add_mul]
      congr 1
      omega
    rw [e,← List.drop_drop,List.drop_left]
    exact h2
theorem Cells.ones {α:Type} {L:Lay α} {w:World} {S:Nat → Prop} {cs:List Value} {xs:List α} (h:Cells L w S cs xs):∀ u ∈ cs,u.oneCell' = true:=by
  intro u hu
  obtain ⟨j,hj,rfl⟩:=List.mem_iff_getElem.1 hu
  have hz:0 < L.size:=by
    rcases Nat.eq_zero_or_pos L.size with h0 | h0
    · rw [h.1,h0] at hj; simp at hj
    · exact h0
  have hi:j / L.size < xs.length:=by
    rw [h.1] at hj
    exact Nat.div_lt_of_lt_mul (by rw [Nat.mul_comm]; exact hj)
  have h2:=L.one (h.2 (j / L.size) _ (List.getElem?_eq_getElem hi))
  apply h2
  rw [List.mem_iff_getElem?]
  refine ⟨j % L.size,?_⟩
  rw [List.getElem?_take,if_pos (Nat.mod_lt _ hz),List.getElem?_drop]
  rw [show j / L.size * L.size + j % L.size = j by rw [Nat.mul_comm]; exact Nat.div_add_mod j L.size]
  exact List.getElem?_eq_getElem hj
theorem Cells.at_ {α:Type} {L:Lay α} {w:World} {S:Nat → Prop} {cs:List Value} {xs:List α} (h:Cells L w S cs xs) {i:Nat} (hi:i < xs.length):L.R w S ((cs.drop (i * L.size)).take L.size) xs[i]:=h.2 i _ (List.getElem?_eq_getElem hi)
theorem Cells.set {α:Type} {L:Lay α} {w:World} {S:Nat → Prop} {cs ds:List Value} {xs:List α} {x:α} {i:Nat} (h:Cells L w S cs xs) (hi:i < xs.length) (hx:L.R w S ds x):Cells L w S (cs.take (i * L.size) ++ ds ++ cs.drop (i * L.size + L.size)) (xs.set i x):=by
  have hd:=L.len hx
  have hle:i * L.size + L.size ≤ cs.length:=by
    rw [h.1,← Nat.succ_mul]
    exact Nat.mul_le_mul_right _ hi
  have h1:Cells L w S (cs.take (i * L.size)) (xs.take i):=by
    refine ⟨by rw [List.length_take,List.length_take]; rw [Nat.min_eq_left (by omega),Nat.min_eq_left (by omega)],fun j y hy=>?_⟩
    rw [List.getElem?_take] at hy
    split at hy
    · rename_i hj
      have h2:=h.2 j y hy
      have hle2:j * L.size + L.size ≤ i * L.size:=by
        rw [← Nat.succ_mul]
        exact Nat.mul_le_mul_right _ hj
      rw [List.drop_take,List.take_take,Nat.min_eq_left (by omega)]
      exact h2
    · cases hy
  have h3:Cells L w S (cs.drop (i * L.size + L.size)) (xs.drop (i + 1)):=by
    refine ⟨by rw [List.length_drop,List.length_drop,h.1,Nat.sub_mul,Nat.succ_mul],fun j y hy=>?_⟩
    rw [List.getElem?_drop] at hy
    have h2:=h.2 _ y hy
    rw [List.drop_drop]
    rw [show i * L.size + L.size + j * L.size = (i + 1 + j) * L.size by rw [Nat.add_mul,Nat.succ_mul]]
    exact h2
  rw [List.set_eq_take_append_cons_drop,if_pos hi]
  have h4:=(h1.cat (Cells.one hx)).cat h3
  rw [List.append_assoc (xs.take i)] at h4
  exact h4
theorem Cells.take {α:Type} {L:Lay α} {w:World} {S:Nat → Prop} {cs:List Value} {xs:List α} (h:Cells L w S cs xs) (n:Nat) (hn:n ≤ xs.length):Cells L w S (cs.take (n * L.size)) (xs.take n):=by
  have hle:n * L.size ≤ cs.length:=by rw [h.1]; exact Nat.mul_le_mul_right _ hn
  refine ⟨by rw [List.length_take,List.length_take]; rw [Nat.min_eq_left hle,Nat.min_eq_left hn],fun j y hy=>?_⟩
  rw [List.getElem?_take] at hy
  split at hy
  · rename_i hj
    have h2:=h.2 j y hy
    have hle2:j * L.size + L.size ≤ n * L.size:=by
      rw [← Nat.succ_mul]
      exact Nat.mul_le_mul_right _ hj
    rw [List.drop_take,List.take_take,Nat.min_eq_left (by omega)]
    exact h2
  · cases hy
theorem Cells.flat {α:Type} {L:Lay α} {w:World} {S:Nat → Prop} {enc:α → List Value} (hR:∀ x,L.R w S (enc x) x):∀ xs:List α,Cells L w S (xs.flatMap enc) xs
  | []=>Cells.nil
  | x :: xs=>by
    have h:=(Cells.one (hR x)).cat (Cells.flat hR xs)
    simpa using h
theorem Els.cells {α:Type} {L:Lay α} {w:World} {S:Nat → Prop} {A:Option Addr} {xs:List α} (h:Els L w S A xs) (hne:xs ≠ []):∃ b off cs,A = some ⟨b,off,none⟩ ∧ S b ∧ Cells L w S cs xs ∧ At w b off cs:=by
  rcases h with h | ⟨b,off,hA,hb,hel⟩
  · exact absurd h hne
  · have key:∀ k,k ≤ xs.length → ∃ cs:List Value,At w b off cs ∧ Cells L w S cs (xs.take k):=by
      intro k
      induction k with
      | zero=>intro _; exact ⟨[],fun j u hu=>by simp at hu,by simpa using Cells.nil⟩
      | succ k ih =>
        intro hk
        obtain ⟨cs,hat,hc⟩:=ih (by omega)
        obtain ⟨ds,hd,hda⟩:=hel k xs[k] (List.getElem?_eq_getElem (by omega))
        have hl:cs.length = k * L.size:=by rw [hc.1,List.length_take,Nat.min_eq_left (by omega)]
        refine ⟨cs ++ ds,fun j u hu=>?_,?_⟩
        · by_cases hj:j < cs.length
          · rw [List.getElem?_append_left hj] at hu
            exact hat j u hu
          · rw [List.getElem?_append_right (by omega)] at hu
            have:=hda _ u hu
            rw [show off + j = off + k * L.size + (j - cs.length) by omega]
            exact this
        · rw [List.take_succ_eq_append_getElem (by omega)]
          exact hc.cat (Cells.one hd)
    obtain ⟨cs,h1,h2⟩:=key xs.length (Nat.le_refl _)
    exact ⟨b,off,cs,hA,hb,by simpa using h2,h1⟩
theorem Els.of_cells {α:Type} {L:Lay α} {w:World} {S:Nat → Prop} {b off:Nat} {cs:List Value} {xs:List α} (hb:S b) (hc:Cells L w S cs xs) (ha:At w b off cs):Els L w S (some ⟨b,off,none⟩) xs:=by
  refine .inr ⟨b,off,rfl,hb,fun i x hx=>⟨_,hc.2 i x hx,fun j u hu=>?_⟩⟩
  rw [List.getElem?_take] at hu
  split at hu
  · rw [List.getElem?_drop] at hu
    have:=ha _ u hu
    rw [show off + i * L.size + j = off + (i * L.size + j) by omega]
    exact this
  · cases hu
end Go.Proofs.YtdenliplkmjmjaaGreat
namespace Go.Proofs.YtdenliplkmjmjaaGreat
open Go.RowKit
def look:List (Nat × Value) → Nat → Option Value
  | [],_=>none
  | (j,v) :: σ,i=>bif Nat.beq j i then some v else look σ i
def ev (σ:List (Nat × Value)):Operand → Option Value
  | .tmp t=>look σ t
  | .const v=>some v
  | .global g=>some (.pointer (some ⟨g,0,none⟩))
  | .func f=>some (.func (.func f) #[] #[])
structure FN where
  sz:Nat
  ms:List Nat
  ro:Option Nat
def markD (r:Nat):Deferred:={ target:=.collected r,args:=#[] }
abbrev FW (ro:Option Nat):Fence:={ Fence.wide with round:=ro }
structure Fr (n:FN) (σ:List (Nat × Value)) (a:Act):Prop where
  defers:a.defers = n.ms.map markD
  size:a.tmps.size = n.sz
  at_:∀ i v,look σ i = some v → a.tmps.getD i undef = v
theorem Fr.eval {n:FN} {σ:List (Nat × Value)} {a:Act} (h:Fr n σ a) {x:Operand} {v:Value} (hx:ev σ x = some v):a.eval x = v:=by
  cases x <;> simp only [ev,Option.some.injEq] at hx <;> simp only [Act.eval]
  · exact h.at_ _ _ hx
  · exact hx
  · exact hx
  · exact hx
theorem Fr.put {n:FN} {σ:List (Nat × Value)} {a:Act} (h:Fr n σ a) {d:Nat} (hd:d < n.sz) (v:Value):Fr n ((d,v) :: σ) (a.put (some d) v):=by
  refine ⟨h.defers,by simp [Act.put,h.size],fun i u hu=>?_⟩
  simp only [look] at hu
  cases hb:Nat.beq d i with
  | true =>
    rw [hb] at hu
    have:=Nat.eq_of_beq_eq_true hb
    subst this
    simp only [cond_true,Option.some.injEq] at hu
    simp [Act.put,h.size,hd,hu]
  | false =>
    rw [hb] at hu
    have hne:d ≠ i:=fun e=>by subst e; simp at hb
    have:=h.at_ i u hu
    simpa [Act.put,Array.getElem?_setIfInBounds_ne hne] using this
theorem Fr.sub {n:FN} {σ τ:List (Nat × Value)} {a:Act} (h:Fr n σ a) (hs:∀ p ∈ τ,look σ p.1 = some p.2):Fr n τ a:=by
  refine ⟨h.defers,h.size,fun i v hv=>h.at_ i v ?_⟩
  induction τ with
  | nil=>cases hv
  | cons p τ ih =>
    obtain ⟨j,u⟩:=p
    simp only [look] at hv
    cases hb:Nat.beq j i with
    | true =>
      rw [hb] at hv
      have:=Nat.eq_of_beq_eq_true hb
      subst this
      simp only [cond_true,Option.some.injEq] at hv
      subst hv
      exact hs (j,u) (by simp)
    | false =>
      rw [hb] at hv
      exact ih (fun p hp=>hs p (List.mem_cons_of_mem _ hp)) hv
theorem Fr.start {n:Nat} {args:Array Value} {σ:List (Nat × Value)} (hl:args.size ≤ n) (hs:∀ i v,look σ i = some v → args[i]? = some v) :
    Fr ⟨n,[],none⟩ σ { tmps:=args ++ Array.replicate (n - args.size) undef,defers:=[] }:=by
  refine ⟨rfl,by simp; omega,fun i v hv=>?_⟩
  have h:=hs i v hv
  have hi:i < args.size:=(Array.getElem?_eq_some_iff.1 h).1
  simp [Array.getElem?_append_left hi,h]
structure Ent where
  own:Nat → Prop
  ok:World → (Nat → Prop) → Prop
  lt:∀ {w:World} {S:Nat → Prop} {b:Nat},ok w S → own b → b < w.heap.size
  keep:∀ {w w':World} {S:Nat → Prop},ok w S → (∀ b,own b → w'.heap[b]? = w.heap[b]?) → Same S w w' → ok w' S
  sub:∀ {w:World} {S T:Nat → Prop},ok w S → (∀ b,S b → T b) → ok w T
def eBlk (b:Nat) (t:TypeId) (cs:List Value):Ent where
  own:=fun x=>some b = some x
  ok:=fun w _=>w.heap[b]? = some (.cells cs.toArray t (0,0))
  lt:=fun hk hb=>by
    simp only [Option.some.injEq] at hb
    subst hb
    exact (Array.getElem?_eq_some_iff.1 hk).1
  keep:=fun hk hs _=>(hs b rfl).trans hk
  sub:=fun hk _=>hk
def ownsT (w:World) (e:TypeId) (size:Nat) (v:Value) (n:Nat) (xs:List Value):Prop :=
  xs.length = n * size ∧ ((v = .slice none 0 0 ∧ n = 0) ∨ ∃ g cap cur,v = .slice (some ⟨g,0,none⟩) n cap ∧ 0 ≤ g ∧ w.heap[g]? = some (.cells cur e (0,0)) ∧ n ≤ cap ∧ cap ≤ maxLen ∧ cap * size ≤ cur.size ∧ cur.toList.take (n * size) = xs)
theorem ownsT_of {w:World} {base:Nat} {e:TypeId} {size:Nat} {v:Value} {n:Nat} {xs:List Value} (h:w.ownsRow base e size v n xs):ownsT w e size v n xs :=
  ⟨h.1,h.2.imp id fun ⟨g,cap,cur,h1,_,h3,h4,h5,h6,h7⟩=>⟨g,cap,cur,h1,Nat.zero_le _,h3,h4,h5,Nat.le_of_eq h6.symm,h7⟩⟩
theorem ownsT_lt {w:World} {e:TypeId} {size:Nat} {v:Value} {n:Nat} {xs:List Value} (h:ownsT w e size v n xs) {b:Nat} (hb:v.ownBlock = some b):b < w.heap.size:=by
  rcases h.2 with ⟨rfl,_⟩ | ⟨g,_,_,rfl,_,hg,_⟩
  · cases hb
  · simp only [Value.ownBlock,Option.some.injEq] at hb
    subst hb
    exact (Array.getElem?_eq_some_iff.1 hg).1
theorem qakm {P:Program} (w:World) (t ty e:TypeId) (i:TypeInfo) (z:Value) (size bytes:Nat) (ht:P.underlying t = some (.slice e)) (hi:P.info? e = some i) (hz:i.zero = some z)
    (hsize:i.size = size) (hby:i.bytes = bytes) (hzs:z.cells.size = size) (hsz:0 < size) (v:Value) (n:Nat) (xs:List Value) (hown:ownsT w e size v n xs)
    (a:Addr) (m c:Nat) (news:List Value) (hl:news.length = m * size) (hnews:∀ j u,news[j]? = some u → w.cell? (a.add j) = some u) (h1:∀ u ∈ news,u.oneCell' = true)
    (h63:n + m ≤ maxLen) (hbytes:(n + m) * bytes ≤ 140737488355328) :
    ∃ v' w',(Builtin.append_ #[t,t] ty #[v,.slice (some a) m c]).run P w = .ok v' w' ∧ ownsT w' e size v' (n + m) (xs ++ news) ∧ w.grownBy w' v.ownBlock ∧ (∀ b,v'.ownBlock = some b → v.ownBlock = some b ∨ w.heap.size ≤ b):=by
  obtain ⟨hxl,⟨rfl,rfl⟩ | ⟨g,cap,cur,rfl,_,hg,hnc,hcm,hcs,htk⟩⟩:=hown
  · have hx0:xs = []:=List.eq_nil_of_length_eq_zero (by simpa using hxl)
    subst hx0
    obtain ⟨v',w',h2,h3,h4,_,h6⟩:=run_append_own_at (P:=P) w 0 t ty e i z size bytes ht hi hz hsize hby hzs hsz (.slice none 0 0) 0 [] (World.ownsRow_nil w 0 e size) a m c news hl hnews h1 h63 hbytes (Nat.zero_le _)
    refine ⟨v',w',h2,ownsT_of h3,h4,fun b hb=>?_⟩
    rcases h6 with h6 | h6
    · exact .inl (h6 ▸ hb)
    · rw [h6] at hb
      simp only [Option.some.injEq] at hb
      exact .inr (by omega)
  · by_cases hroom:n + m ≤ cap
    · subst hsize
      have hfc:=run_firstCells_some (P:=P) w i.size m a m c news hl hnews
      have hle:n * i.size + news.length ≤ cur.size:=by
        rw [hl,← Nat.add_mul]
        exact Nat.le_trans (Nat.mul_le_mul_right _ hroom) hcs
      have hst:=run_storeCells_at (P:=P) g (n * i.size) e news 0 cur w hg (by simpa using hle) h1
      simp only [Nat.add_zero] at hst
      have hr:(Builtin.append_ #[t,t] ty #[.slice (some ⟨g,0,none⟩) n cap,.slice (some a) m c]).run P w = .ok (.slice (some ⟨g,0,none⟩) (n + m) cap) (w.setRow g (cur.toList.take (n * i.size) ++ news ++ cur.toList.drop (n * i.size + news.length)).toArray):=by
        simp [Builtin.append_,run_underlying ht,Go.sizeOf,typeInfo,hi,Builtin.lenOf,hroom,hfc,Addr.add_lit,hst]
      refine ⟨_,_,hr,⟨by rw [List.length_append,hxl,hl,Nat.add_mul],.inr ⟨g,cap,_,rfl,Nat.zero_le _,setRow_heap w g cur _ e _ hg,hroom,hcm,?_,?_⟩⟩,⟨rfl,rfl,rfl,by simp,fun k _ hk=>setRow_other w g k _ (fun e=>hk (by simp [Value.ownBlock,e]))⟩,fun b hb=>.inl hb⟩
      · simp only [List.size_toArray,List.length_append,List.length_take,List.length_drop,Array.length_toList]
        omega
      · have e1:(cur.toList.take (n * i.size)).length = n * i.size:=by simp; omega
        rw [htk] at e1 ⊢
        simp only [List.append_assoc]
        rw [show (n + m) * i.size = xs.length + news.length by rw [Nat.add_mul,hl,hxl],← List.append_assoc,← List.length_append]
        exact List.take_left
    · obtain ⟨v',w',h2,h3,h4⟩:=run_append_arg_grows (P:=P) w t ty e i z size bytes ht hi hz hsize hby hzs hsz ⟨g,0,none⟩ n cap xs hxl (fun j u hu=>by
        rw [Addr.add_at,Nat.zero_add]
        have hu2:cur[j]? = some u:=by
          rw [← htk,List.getElem?_take] at hu
          split at hu
          · simpa using hu
          · cases hu
        simp [World.cell?,hg,hu2]) a m c news hl hnews (by omega) h63 hbytes
      refine ⟨v',w',h2,ownsT_of h3,⟨h4.os,h4.tape,h4.output,h4.size,fun k hk _=>h4.block k hk (by simp)⟩,fun b hb=>.inr ?_⟩
      rcases h3.2 with ⟨rfl,_⟩ | ⟨g',_,_,rfl,hg',_⟩
      · cases hb
      · simp only [Value.ownBlock,Option.some.injEq] at hb
        omega
def eS {α:Type} (L:Lay α) (e:TypeId) (A:Option Addr) (n c:Nat) (xs:List α):Ent where
  own:=fun x=>(if c = 0 then none else (Value.slice A n c).ownBlock) = some x
  ok:=fun w S=>n = xs.length ∧ ((c = 0 ∧ xs = []) ∨ (c ≠ 0 ∧ ∃ cs,ownsT w e L.size (.slice A n c) n cs ∧ Cells L w S cs xs))
  lt:=fun ⟨_,hk⟩ hb=>by
    rcases hk with ⟨hc,_⟩ | ⟨hc,cs,hk,_⟩
    · rw [if_pos hc] at hb; cases hb
    · rw [if_neg hc] at hb; exact ownsT_lt hk hb
  keep:=fun ⟨hn,hk⟩ hs hS=>by
    refine ⟨hn,?_⟩
    rcases hk with hk | ⟨h0,cs,hk,hc⟩
    · exact .inl hk
    · refine .inr ⟨h0,cs,⟨hk.1,?_⟩,hc.keep hS⟩
      rcases hk.2 with hn | ⟨g,cap,cur,hv,hg0,hg,rest⟩
      · exact .inl hn
      · refine .inr ⟨g,cap,cur,hv,hg0,(hs g ?_).trans hg,rest⟩
        rw [if_neg h0,hv]
        rfl
  sub:=fun ⟨hn,hk⟩ h=>⟨hn,hk.imp id fun ⟨h0,cs,hk,hc⟩=>⟨h0,cs,hk,hc.sub h⟩⟩
structure Fact where
  R:World → (Nat → Prop) → Prop
  keep:∀ {w w':World} {S:Nat → Prop},R w S → Same S w w' → R w' S
  sub:∀ {w:World} {S T:Nat → Prop},R w S → (∀ b,S b → T b) → R w T
def fC {α:Type} (L:Lay α) (cs:List Value) (x:α):Fact:=⟨fun w S=>L.R w S cs x,fun h k=>L.keep h k,fun h k=>L.sub h k⟩
abbrev fV {α:Type} (L:Lay α) (v:Value) (x:α):Fact:=fC L [v] x
structure Cx where
  W0:World
  S:Nat → Prop
  M:Nat → Prop
def Im (C:Cx) (η:List Ent) (w:World):Nat → Prop:=fun b=>b < w.heap.size ∧ (C.W0.heap.size ≤ b ∨ C.S b ∨ C.M b) ∧ ∀ h ∈ η,¬ h.own b
structure St (C:Cx) (η:List Ent) (ι:List Fact) (w:World):Prop where
  os:w.os = C.W0.os
  tape:w.tape = C.W0.tape
  output:w.output = C.W0.output ∧ C.W0.drawn ≤ w.drawn
  size:C.W0.heap.size ≤ w.heap.size
  old:∀ b,b < C.W0.heap.size → ¬ C.M b → w.heap[b]? = C.W0.heap[b]?
  ents:∀ h ∈ η,h.ok w (Im C η w)
  place:∀ h ∈ η,∀ b,h.own b → C.W0.heap.size ≤ b ∨ C.M b
  apart:η.Pairwise fun h k=>∀ b,h.own b → ¬ k.own b
  facts:∀ f ∈ ι,f.R w (Im C η w)
section
variable {C:Cx} {η:List Ent} {ι:List Fact} {w w':World}
theorem St.ext (h:St C η ι w) (hb:Below w.heap.size w w') (hd:w.drawn ≤ w'.drawn):St C η ι w':=by
  refine ⟨hb.os.trans h.os,hb.tape.trans h.tape,⟨hb.output.trans h.output.1,Nat.le_trans h.output.2 hd⟩,Nat.le_trans h.size hb.size,fun b hlt hm=>(hb.block b (Nat.lt_of_lt_of_le hlt h.size)).trans (h.old b hlt hm),fun e he=>?_,h.place,h.apart,fun f hf=>?_⟩
  · exact e.sub (e.keep (h.ents e he) (fun b hbk=>hb.block b (e.lt (h.ents e he) hbk)) fun b hb'=>hb.block b hb'.1) fun b hb'=>⟨Nat.lt_of_lt_of_le hb'.1 hb.size,hb'.2⟩
  · refine f.sub (f.keep (h.facts f hf) fun b hb'=>hb.block b hb'.1) fun b hb'=>⟨Nat.lt_of_lt_of_le hb'.1 hb.size,hb'.2⟩
theorem St.drew (h:St C η ι w):St C η ι w.drew:=⟨h.os,h.tape,⟨h.output.1,Nat.le_succ_of_le h.output.2⟩,h.size,h.old,fun e he=>e.keep (h.ents e he) (fun _ _=>rfl) fun _ _=>rfl,h.place,h.apart,fun f hf=>f.keep (h.facts f hf) fun _ _=>rfl⟩
theorem St.tail {e:Ent} (h:St C (e :: η) ι w):St C η ι w :=
  ⟨h.os,h.tape,h.output,h.size,h.old,fun x hx=>x.sub (h.ents x (List.mem_cons_of_mem _ hx)) fun _ hb=>⟨hb.1,hb.2.1,fun x hx=>hb.2.2 x (List.mem_cons_of_mem _ hx)⟩,fun x hx=>h.place x (List.mem_cons_of_mem _ hx),(List.pairwise_cons.1 h.apart).2,
    fun f hf=>f.sub (h.facts f hf) fun _ hb=>⟨hb.1,hb.2.1,fun x hx=>hb.2.2 x (List.mem_cons_of_mem _ hx)⟩⟩
theorem St.subFacts {κ:List Fact} (h:St C η ι w) (hs:∀ f ∈ κ,f ∈ ι):St C η κ w:=⟨h.os,h.tape,h.output,h.size,h.old,h.ents,h.place,h.apart,fun f hf=>h.facts f (hs f hf)⟩
theorem St.fact {f:Fact} (h:St C η ι w) (hf:f.R w (Im C η w)):St C η (f :: ι) w :=
  ⟨h.os,h.tape,h.output,h.size,h.old,h.ents,h.place,h.apart,fun g hg=>by
    rcases List.mem_cons.1 hg with rfl | hg
    · exact hf
    · exact h.facts g hg⟩
theorem St.subEnts {θ:List Ent} (h:St C η ι w) (hs:List.Sublist θ η):St C θ ι w :=
  ⟨h.os,h.tape,h.output,h.size,h.old,fun x hx=>x.sub (h.ents x (hs.subset hx)) fun _ hb=>⟨hb.1,hb.2.1,fun x hx=>hb.2.2 x (hs.subset hx)⟩,fun x hx=>h.place x (hs.subset hx),h.apart.sublist hs,
    fun f hf=>f.sub (h.facts f hf) fun _ hb=>⟨hb.1,hb.2.1,fun x hx=>hb.2.2 x (hs.subset hx)⟩⟩
theorem St.alloc (h:St C η ι w) (t:TypeId) (cs:List Value):St C (eBlk w.heap.size t cs :: η) ι (w.alloc (.cells cs.toArray t)):=by
  have hb:Below w.heap.size w (w.alloc (.cells cs.toArray t)):=(Below.refl _ _).alloc (Nat.le_refl _) _
  have hx:=h.ext hb (Nat.le_refl _)
  have hsub:∀ b,Im C η w b → Im C (eBlk w.heap.size t cs :: η) (w.alloc (.cells cs.toArray t)) b:=fun b hb'=>⟨Nat.lt_of_lt_of_le hb'.1 hb.size,hb'.2.1,fun e he=>by
    rcases List.mem_cons.1 he with rfl | he
    · simp only [eBlk,Option.some.injEq]
      have:=hb'.1
      omega
    · exact hb'.2.2 e he⟩
  refine ⟨hx.os,hx.tape,hx.output,hx.size,hx.old,fun e he=>?_,fun e he b hbk=>?_,List.pairwise_cons.2 ⟨fun e he b hbk hk=>?_,h.apart⟩,fun f hf=>?_⟩
  · rcases List.mem_cons.1 he with rfl | he
    · exact heap_alloc_new w _
    · exact e.sub (e.keep (h.ents e he) (fun b hbk=>hb.block b (e.lt (h.ents e he) hbk)) fun b hb'=>hb.block b hb'.1) (hsub)
  · rcases List.mem_cons.1 he with rfl | he
    · simp only [eBlk,Option.some.injEq] at hbk
      subst hbk
      exact .inl h.size
    · exact h.place e he b hbk
  · simp only [eBlk,Option.some.injEq] at hbk
    subst hbk
    have:=e.lt (h.ents e he) hk
    omega
  · refine f.sub (f.keep (h.facts f hf) fun b hb'=>hb.block b hb'.1) fun b hb'=>⟨Nat.lt_of_lt_of_le hb'.1 hb.size,hb'.2.1,fun e he=>?_⟩
    rcases List.mem_cons.1 he with rfl | he
    · simp only [eBlk,Option.some.injEq]
      have:=hb'.1
      omega
    · exact hb'.2.2 e he
theorem St.turn {θ₁ θ₂:List Ent} {e e':Ent} (h:St C (θ₁ ++ e :: θ₂) ι w) (hos:w'.os = w.os) (ht:w'.tape = w.tape) (ho:w'.output = w.output ∧ w.drawn ≤ w'.drawn) (hsz:w.heap.size ≤ w'.heap.size)
    (hsame:∀ b,b < w.heap.size → ¬ e.own b → w'.heap[b]? = w.heap[b]?) (hok:e'.ok w' (Im C (θ₁ ++ e :: θ₂) w)) (hbk:∀ b,e'.own b → e.own b ∨ w.heap.size ≤ b):St C (θ₁ ++ e' :: θ₂) ι w':=by
  have hin:e ∈ θ₁ ++ e :: θ₂:=by simp
  have hap:=h.apart
  rw [List.pairwise_append,List.pairwise_cons] at hap
  have hother:∀ x,x ∈ θ₁ ∨ x ∈ θ₂ → ∀ b,x.own b → ¬ e.own b:=by
    intro x hx b hb he
    rcases hx with hx | hx
    · exact hap.2.2 x hx e (by simp) b hb he
    · exact hap.2.1.1 x hx b he hb
  have hin':∀ x,x ∈ θ₁ ∨ x ∈ θ₂ → x ∈ θ₁ ++ e :: θ₂:=by
    intro x hx
    rcases hx with hx | hx <;> simp [hx]
  have hsub:∀ b,Im C (θ₁ ++ e :: θ₂) w b → Im C (θ₁ ++ e' :: θ₂) w' b:=fun b hb'=>⟨Nat.lt_of_lt_of_le hb'.1 hsz,hb'.2.1,fun x hx he=>by
    rw [List.mem_append,List.mem_cons] at hx
    rcases hx with hx | rfl | hx
    · exact hb'.2.2 x (hin' x (.inl hx)) he
    · rcases hbk b he with h1 | h1
      · exact hb'.2.2 e hin h1
      · have:=hb'.1
        omega
    · exact hb'.2.2 x (hin' x (.inr hx)) he⟩
  have hS:Same (Im C (θ₁ ++ e :: θ₂) w) w w':=fun b hb'=>hsame b hb'.1 (hb'.2.2 e hin)
  refine ⟨hos.trans h.os,ht.trans h.tape,⟨ho.1.trans h.output.1,Nat.le_trans h.output.2 ho.2⟩,Nat.le_trans h.size hsz,fun b hlt hm=>?_,fun x hx=>?_,fun x hx b hb=>?_,?_,fun f hf=>f.sub (f.keep (h.facts f hf) hS) hsub⟩
  · refine (hsame b (Nat.lt_of_lt_of_le hlt h.size) fun he=>?_).trans (h.old b hlt hm)
    rcases h.place e hin b he with h1 | h1
    · omega
    · exact hm h1
  · rw [List.mem_append,List.mem_cons] at hx
    rcases hx with hx | rfl | hx
    · have hk:=h.ents x (hin' x (.inl hx))
      exact x.sub (x.keep hk (fun b hb=>hsame b (x.lt hk hb) (hother x (.inl hx) b hb)) hS) hsub
    · exact x.sub hok hsub
    · have hk:=h.ents x (hin' x (.inr hx))
      exact x.sub (x.keep hk (fun b hb=>hsame b (x.lt hk hb) (hother x (.inr hx) b hb)) hS) hsub
  · rw [List.mem_append,List.mem_cons] at hx
    rcases hx with hx | rfl | hx
    · exact h.place x (hin' x (.inl hx)) b hb
    · rcases hbk b hb with h1 | h1
      · exact h.place e hin b h1
      · exact .inl (Nat.le_trans h.size h1)
    · exact h.place x (hin' x (.inr hx)) b hb
  · have hnew:∀ x,x ∈ θ₁ ∨ x ∈ θ₂ → ∀ b,x.own b → ¬ e'.own b:=by
      intro x hx b hb he
      rcases hbk b he with h1 | h1
      · exact hother x hx b hb h1
      · have:=x.lt (h.ents x (hin' x hx)) hb
        omega
    rw [List.pairwise_append,List.pairwise_cons]
    refine ⟨hap.1,⟨fun x hx b hb hx'=>hnew x (.inr hx) b hx' hb,hap.2.1.2⟩,fun x hx y hy b hb hy'=>?_⟩
    rcases List.mem_cons.1 hy with rfl | hy
    · exact hnew x (.inl hx) b hb hy'
    · exact hap.2.2 x hx y (List.mem_cons_of_mem _ hy) b hb hy'
end
def Sw (η:List Ent) (e e':Ent) (θ:List Ent):Prop:=∃ θ₁ θ₂,η = θ₁ ++ e :: θ₂ ∧ θ = θ₁ ++ e' :: θ₂
theorem Sw.head {e e':Ent} {η:List Ent}:Sw (e :: η) e e' (e' :: η):=⟨[],η,rfl,rfl⟩
theorem Sw.tail {e e' h:Ent} {η θ:List Ent} (k:Sw η e e' θ):Sw (h :: η) e e' (h :: θ):=by
  obtain ⟨a,b,rfl,rfl⟩:=k
  exact ⟨h :: a,b,rfl,rfl⟩
theorem Sw.mem {η θ:List Ent} {e e':Ent} (h:Sw η e e' θ):e ∈ η:=by
  obtain ⟨a,b,rfl,_⟩:=h
  simp
def SwF (η:List Ent) (e:Ent) (F:Ent → List Ent):Prop:=∀ e',Sw η e e' (F e')
theorem SwF.head {e:Ent} {η:List Ent}:SwF (e :: η) e (fun e'=>e' :: η):=fun _=>Sw.head
theorem SwF.tail {e h:Ent} {η:List Ent} {F:Ent → List Ent} (k:SwF η e F):SwF (h :: η) e (fun e'=>h :: F e'):=fun e'=>(k e').tail
theorem SwF.mem {η:List Ent} {e:Ent} {F:Ent → List Ent} (h:SwF η e F):e ∈ η:=(h e).mem
theorem St.sw {C:Cx} {η θ:List Ent} {ι:List Fact} {e e':Ent} {w w':World} (hs:Sw η e e' θ) (h:St C η ι w) (hos:w'.os = w.os) (ht:w'.tape = w.tape) (ho:w'.output = w.output ∧ w.drawn ≤ w'.drawn) (hsz:w.heap.size ≤ w'.heap.size)
    (hsame:∀ b,b < w.heap.size → ¬ e.own b → w'.heap[b]? = w.heap[b]?) (hok:e'.ok w' (Im C η w)) (hbk:∀ b,e'.own b → e.own b ∨ w.heap.size ≤ b):St C θ ι w':=by
  obtain ⟨a,b,rfl,rfl⟩:=hs
  exact h.turn hos ht ho hsz hsame hok hbk
theorem St.ent {C:Cx} {η:List Ent} {ι:List Fact} {e:Ent} {w:World} (h:St C η ι w) (hs:e ∈ η):e.ok w (Im C η w):=h.ents e hs
end Go.Proofs.YtdenliplkmjmjaaGreat
namespace Go.Proofs.YtdenliplkmjmjaaGreat
open Go.RowKit
def WC (P:Program) (C:Cx) (n:FN) (c:Code) (Q:Exit → Act → World → Prop) (σ:List (Nat × Value)) (η:List Ent) (ι:List Fact):Prop :=
  ∀ a w,Fr n σ a → St C η ι w → c.wpIn (FW n.ro) 0 P Q a w
def WL (P:Program) (C:Cx) (n:FN) (ops:Array Oper) (Q:Exit → Act → World → Prop) (l:List Oper) (σ:List (Nat × Value)) (η:List Ent) (ι:List Fact):Prop :=
  ∀ a w,Fr n σ a → St C η ι w → wpListIn (FW n.ro) 0 P ops Q l a w
def PN (C:Cx) (n:FN) (Q:Exit → Act → World → Prop) (e:Exit) (σ:List (Nat × Value)) (η:List Ent) (ι:List Fact):Prop :=
  ∀ a w,Fr n σ a → St C η ι w → Q e a w
section
variable {P:Program} {C:Cx} {n:FN} {Q:Exit → Act → World → Prop} {σ:List (Nat × Value)} {η:List Ent} {ι:List Fact}
theorem semAt_value {ro:Option Nat} {o:Oper} {ρ:Operand → Value} {w w':World} {v:Value} (h:(execOp ρ o).run P w = .ok (.value v) w'):(o.semAt ro ρ).run P w = .ok (.value v) w':=by
  cases ro with
  | none=>exact h
  | some l =>
    by_cases hd:∀ c,o.op ≠ .defer c
    · rw [Oper.semAt_some l ρ o hd]
      exact h
    · exfalso
      obtain ⟨c,hc⟩:=Classical.not_forall.1 hd
      simp only [ne_eq,Classical.not_not] at hc
      simp only [execOp,hc,Sem.run_bind] at h
      cases hr:(resolve ρ c o.type).run P w <;> simp [hr,Result.andThen] at h
theorem pn_then {y:Code} (h:WC P C n y Q σ η ι):PN C n (Exit.then (y.wpIn (FW n.ro) 0 P Q) Q) .normal σ η ι:=h
theorem px_then {K:Act → World → Prop} {i:Nat} (h:PN C n Q (.exit i) σ η ι):PN C n (Exit.then K Q) (.exit i) σ η ι:=h
theorem pr_then {K:Act → World → Prop} (h:PN C n Q .ret σ η ι):PN C n (Exit.then K Q) .ret σ η ι:=h
theorem pn_block {i:Nat} (h:PN C n Q .normal σ η ι):PN C n (Exit.inBlock i Q) .normal σ η ι:=h
theorem pr_block {i:Nat} (h:PN C n Q .ret σ η ι):PN C n (Exit.inBlock i Q) .ret σ η ι:=h
theorem px_block {i:Nat} (h:PN C n Q .normal σ η ι):PN C n (Exit.inBlock i Q) (.exit i) σ η ι:=fun a w hf hs=>by
  simp only [Exit.inBlock,if_true]
  exact h a w hf hs
theorem px_block_ne {i j:Nat} (hne:Nat.beq j i = false) (h:PN C n Q (.exit j) σ η ι):PN C n (Exit.inBlock i Q) (.exit j) σ η ι:=fun a w hf hs=>by
  have:j ≠ i:=fun e=>by subst e; simp at hne
  simp only [Exit.inBlock,if_neg this]
  exact h a w hf hs
theorem wc_seq {x y:Code} (h:WC P C n x (Exit.then (y.wpIn (FW n.ro) 0 P Q) Q) σ η ι):WC P C n (.seq x y) Q σ η ι:=fun a w hf hs=>wpIn_seq (h a w hf hs)
theorem wc_skip (h:PN C n Q .normal σ η ι):WC P C n .skip Q σ η ι:=fun a w hf hs=>wpIn_skip (h a w hf hs)
theorem wc_exit {i:Nat} (h:PN C n Q (.exit i) σ η ι):WC P C n (.exit i) Q σ η ι:=fun a w hf hs=>wpIn_exit (h a w hf hs)
theorem wc_ret (h:PN C n Q .ret σ η ι):WC P C n .ret Q σ η ι:=fun a w hf hs=>wpIn_ret (h a w hf hs)
theorem wc_block {i:Nat} {c:Code} (h:WC P C n c (Exit.inBlock i Q) σ η ι):WC P C n (.block i c) Q σ η ι:=fun a w hf hs=>wpIn_block (h a w hf hs)
theorem wc_cond {c:Operand} {x y:Code} {b:Bool} (hc:ev σ c = some (.bool b)) (ht:b = true → WC P C n x Q σ η ι) (hf:b = false → WC P C n y Q σ η ι):WC P C n (.cond c x y) Q σ η ι :=
  fun a w hfr hs=>wpIn_cond_split (hfr.eval hc) (fun e=>ht e a w hfr hs) (fun e=>hf e a w hfr hs)
theorem wc_region {id:Nat} {l:List Oper} (h:WL P C n l.toArray Q l σ η ι):WC P C n (.region id l.toArray false) Q σ η ι:=fun a w hf hs=>by
  exact wpIn_region_lit (h a w hf hs)
theorem wl_nil {ops:Array Oper} (h:PN C n Q .normal σ η ι):WL P C n ops Q [] σ η ι:=h
def Subs:List (Nat × Value) → List (Nat × Value) → Prop
  | [],_=>True
  | (i,v) :: τ,σ=>look σ i = some v ∧ Subs τ σ
theorem Subs.fr {τ:List (Nat × Value)} (h:Subs τ σ) {a:Act} (hf:Fr n σ a):Fr n τ a:=by
  refine hf.sub fun p hp=>?_
  induction τ with
  | nil=>cases hp
  | cons q τ ih =>
    obtain ⟨i,v⟩:=q
    rcases List.mem_cons.1 hp with rfl | hp
    · exact h.1
    · exact ih h.2 hp
def Some (C:Cx) (n:FN) {G:Type} (I:G → Prop) (σ:G → List (Nat × Value)) (η:G → List Ent) (ι:G → List Fact) (a:Act) (w:World):Prop:=∃ g,I g ∧ Fr n (σ g) a ∧ St C (η g) (ι g) w
theorem wc_loop {c:Code} {G:Type} (I:G → Prop) (μ:G → Nat) (τ:G → List (Nat × Value)) (θ:G → List Ent) (κ:G → List Fact) (g:G) (hI:I g) (hs:Subs (τ g) σ) (he:∀ w,St C η ι w → St C (θ g) (κ g) w)
    (round:∀ g,I g → WC P C n c (Exit.then (Some C n (fun g'=>I g' ∧ μ g' < μ g) τ θ κ) Q) (τ g) (θ g) (κ g)):WC P C n (.loop c) Q σ η ι:=by
  intro a w hf hst
  refine wpIn_loop_ghost (fun m a w=>∃ g,I g ∧ μ g = m ∧ Fr n (τ g) a ∧ St C (θ g) (κ g) w) (μ g) ⟨g,hI,rfl,hs.fr hf,he w hst⟩ ?_
  rintro m a w ⟨g',hI',rfl,hf',hst'⟩
  refine Code.wpIn_mono ?_ (round g' hI' a w hf' hst')
  intro e a w hq
  cases e <;> try exact hq
  obtain ⟨g2,⟨h1,h2⟩,h3,h4⟩:=hq
  exact ⟨μ g2,h2,g2,h1,rfl,h3,h4⟩
theorem pn_some {G:Type} {I:G → Prop} {τ:G → List (Nat × Value)} {θ:G → List Ent} {κ:G → List Fact} (g:G) (hI:I g) (hs:Subs (τ g) σ) (he:∀ w,St C η ι w → St C (θ g) (κ g) w) :
    PN C n (Exit.then (Some C n I τ θ κ) Q) .normal σ η ι:=fun _ w hf hst=>⟨g,hI,hs.fr hf,he w hst⟩
def Det (P:Program) (C:Cx) (o:Oper) (σ:List (Nat × Value)) (η:List Ent) (ι:List Fact) (v:Value):Prop :=
  ∀ (ρ:Operand → Value) (w:World),(∀ x u,ev σ x = some u → ρ x = u) → St C η ι w → (execOp ρ o).run P w = .ok (.value v) w
theorem wl_det {ops:Array Oper} {o:Oper} {rest:List Oper} {v:Value} {d:Nat} (hd:o.dst = some d) (hg:o.guard = none) (h:Det P C o σ η ι v) (hn:Nat.blt d n.sz = true)
    (k:WL P C n ops Q rest ((d,v) :: σ) η ι):WL P C n ops Q (o :: rest) σ η ι:=by
  intro a w hf hst
  refine wpListIn_plain hg fun K hK=>⟨fun _ _=>trivial,?_⟩
  rw [semAt_value (h a.eval w (fun x u hx=>hf.eval hx) hst),Oper.uponIn_value,hd]
  exact hK _ _ (k _ _ (hf.put (by simpa [Nat.blt_eq] using hn) v) hst)
theorem tmp_bool {a:Act} {g:Nat} {b:Bool} (h:a.tmps.getD g undef = .bool b):a.tmps[g]? = some (.bool b):=by
  cases hg:a.tmps[g]? with
  | none=>simp [hg,undef] at h
  | some v=>simp [hg] at h; rw [h]
theorem wl_off {ops:Array Oper} {o:Oper} {rest:List Oper} {d j g:Nat} {b x:Bool} {og:Oper} (hd:o.dst = some d) (hg:o.guard = some (j,b)) (ho:ops[j]? = some og) (hgd:og.dst = some g) (hv:look σ g = some (.bool x)) (hx:x = !b) (hn:Nat.blt d n.sz = true)
    (k:WL P C n ops Q rest ((d,undef) :: σ) η ι):WL P C n ops Q (o :: rest) σ η ι:=by
  intro a w hf hst
  subst hx
  have hy:yielded ops a.tmps j = some (!b):=by
    have:=tmp_bool (hf.at_ g _ hv)
    simp [yielded,ho,hgd,this]
  unfold wpListIn
  have hw:Region.wanted o (yielded ops a.tmps) = false:=by simp only [Region.wanted,hg,hy]; cases b <;> rfl
  rw [hw]
  simp only [Bool.false_eq_true,if_false,hd]
  exact ⟨fun _ _=>trivial,k _ _ (hf.put (by simpa [Nat.blt_eq] using hn) undef) hst⟩
theorem wl_on {ops:Array Oper} {o:Oper} {rest:List Oper} {j g:Nat} {b x:Bool} {og:Oper} (hg:o.guard = some (j,b)) (ho:ops[j]? = some og) (hgd:og.dst = some g) (hv:look σ g = some (.bool x)) (hx:x = b)
    (k:WL P C n ops Q ({ o with guard:=none } :: rest) σ η ι):WL P C n ops Q (o :: rest) σ η ι:=by
  intro a w hf hst
  subst hx
  have hy:yielded ops a.tmps j = some x:=by
    have:=tmp_bool (hf.at_ g _ hv)
    simp [yielded,ho,hgd,this]
  have hw:Region.wanted o (yielded ops a.tmps) = true:=by simp [Region.wanted,hg,hy]
  have h:=k a w hf hst
  unfold wpListIn at h ⊢
  rw [hw]
  exact h
def QN (C:Cx) (n:FN) (τ:List (Nat × Value)) (θ:List Ent) (κ:List Fact):Exit → Act → World → Prop:=fun e a w=>e = .normal ∧ Fr n τ a ∧ St C θ κ w
theorem wpList_cut {ro:Option Nat} {ops:Array Oper} {K:Act → World → Prop} {l2:List Oper} (hk:∀ a w,K a w → wpListIn (FW ro) 0 P ops Q l2 a w):∀ (l1:List Oper) (a:Act) (w:World),wpListIn (FW ro) 0 P ops (fun e a w=>e = .normal ∧ K a w) l1 a w → wpListIn (FW ro) 0 P ops Q (l1 ++ l2) a w
  | [],a,w,h=>hk a w h.2
  | o :: l1,a,w,h=>by
    simp only [List.cons_append]
    unfold wpListIn at h ⊢
    split
    · rename_i hw
      rw [if_pos hw] at h
      unfold Oper.wpIn at h ⊢
      refine ⟨h.1,?_⟩
      have h:=h.2
      generalize (o.semAt (FW ro).round a.eval).run P w = r at h
      cases r with
      | ok x w' =>
        cases x <;> simp only [Oper.uponIn] at h ⊢ <;> first
          | exact wpList_cut hk l1 _ _ h
          | exact ⟨h.1,CallsIn.mono h.2 (fun e w'' he=>by
              cases e with
              | returned v=>exact wpList_cut hk l1 _ _ he
              | panicked c=>exact absurd he.1 (by simp)
              | outgrown=>obtain ⟨a0,w0,h0,_⟩:=he; cases h0)⟩
          | exact ⟨h.1,RowsIn.mono h.2 (fun _ _ he=>wpList_cut hk l1 _ _ he)⟩
          | exact ⟨h.1,RoundIn.mono h.2 (fun e w'' he=>by
              cases e with
              | returned v=>exact wpList_cut hk l1 _ _ he
              | panicked c=>exact absurd he.1 (by simp)
              | outgrown=>obtain ⟨a0,w0,h0,_⟩:=he; cases h0)⟩
          | exact h
      | halt x w'=>cases x <;> simp only [Oper.uponIn] at h ⊢ <;> first | exact h.elim | exact absurd h.1 (by simp)
    · rename_i hw
      rw [if_neg hw] at h
      exact ⟨h.1,wpList_cut hk l1 _ _ h.2⟩
theorem wl_cut {ops:Array Oper} {l:List Oper} {τ:List (Nat × Value)} {θ:List Ent} {κ:List Fact} (k:Nat) (h1:WL P C n ops (QN C n τ θ κ) (l.take k) σ η ι) (h2:WL P C n ops Q (l.drop k) τ θ κ):WL P C n ops Q l σ η ι:=by
  intro a w hf hst
  rw [← List.take_append_drop k l]
  exact wpList_cut (K:=fun a w=>Fr n τ a ∧ St C θ κ w) (fun a w h=>h2 a w h.1 h.2) _ a w (h1 a w hf hst)
theorem wl_guard {ops:Array Oper} {l:List Oper} {x:Bool} {τ:List (Nat × Value)} {θ:List Ent} {κ:List Fact} (k:Nat) (on:x = true → WL P C n ops (QN C n τ θ κ) (l.take k) σ η ι) (off:x = false → WL P C n ops (QN C n τ θ κ) (l.take k) σ η ι)
    (rest:WL P C n ops Q (l.drop k) τ θ κ):WL P C n ops Q l σ η ι:=by
  refine wl_cut k ?_ rest
  cases hx:x
  · exact off hx
  · exact on hx
def MeetG (C:Cx) (n:FN) {G:Type} (I:G → Prop) (τ:G → List (Nat × Value)) (θ:G → List Ent) (κ:G → List Fact) (a:Act) (w:World):Prop:=∃ g,I g ∧ Fr n (τ g) a ∧ St C (θ g) (κ g) w
theorem wc_meetG {x y:Code} {G:Type} (I:G → Prop) (τ:G → List (Nat × Value)) (θ:G → List Ent) (κ:G → List Fact) (h1:WC P C n x (Exit.then (MeetG C n I τ θ κ) Q) σ η ι) (h2:∀ g,I g → WC P C n y Q (τ g) (θ g) (κ g)):WC P C n (.seq x y) Q σ η ι:=by
  intro a w hf hst
  refine wpIn_seq (Code.wpIn_mono ?_ (h1 a w hf hst))
  intro e a w hq
  cases e <;> try exact hq
  obtain ⟨g,hg,h3,h4⟩:=hq
  exact h2 g hg a w h3 h4
theorem wc_meetN {x:Code} {G:Type} (I:G → Prop) (τ:G → List (Nat × Value)) (θ:G → List Ent) (κ:G → List Fact) (h1:WC P C n x (Exit.then (MeetG C n I τ θ κ) Q) σ η ι) (h2:∀ g,I g → PN C n Q .normal (τ g) (θ g) (κ g)):WC P C n x Q σ η ι:=by
  intro a w hf hst
  refine Code.wpIn_mono ?_ (h1 a w hf hst)
  intro e a w hq
  cases e <;> try exact hq
  obtain ⟨g,hg,h3,h4⟩:=hq
  exact h2 g hg a w h3 h4
theorem pn_meetG {G:Type} {I:G → Prop} {τ:G → List (Nat × Value)} {θ:G → List Ent} {κ:G → List Fact} (g:G) (hI:I g) (hs:Subs (τ g) σ) (he:∀ w,St C η ι w → St C (θ g) (κ g) w):PN C n (Exit.then (MeetG C n I τ θ κ) Q) .normal σ η ι:=fun _ w hf hst=>⟨g,hI,hs.fr hf,he w hst⟩
def Ext (τ σ:List (Nat × Value)):Prop:=∀ i v,look τ i = some v → look σ i = some v
theorem ext_refl:Ext σ σ:=fun _ _ h=>h
theorem ext_skip {τ:List (Nat × Value)} {d:Nat} {v:Value} (hd:look τ d = none) (h:Ext τ σ):Ext τ ((d,v) :: σ):=fun i u hu=>by
  have h2:=h i u hu
  simp only [look]
  cases hb:Nat.beq d i with
  | true =>
    have:=Nat.eq_of_beq_eq_true hb
    subst this
    rw [hd] at hu
    cases hu
  | false=>exact h2
theorem ext_cons {τ:List (Nat × Value)} {d:Nat} {v:Value} (hd:look σ d = some v) (h:Ext τ σ):Ext ((d,v) :: τ) σ:=fun i u hu=>by
  simp only [look] at hu
  cases hb:Nat.beq d i with
  | true =>
    have:=Nat.eq_of_beq_eq_true hb
    subst this
    rw [hb] at hu
    simp only [cond_true,Option.some.injEq] at hu
    subst hu
    exact hd
  | false =>
    rw [hb] at hu
    exact h i u hu
theorem Ext.fr {τ:List (Nat × Value)} (h:Ext τ σ) {a:Act} (hf:Fr n σ a):Fr n τ a:=⟨hf.defers,hf.size,fun i v hv=>hf.at_ i v (h i v hv)⟩
theorem pn_qnE {τ:List (Nat × Value)} {θ:List Ent} {κ:List Fact} (hs:Ext τ σ) (he:∀ w,St C η ι w → St C θ κ w):PN C n (QN C n τ θ κ) .normal σ η ι:=fun _ w hf hst=>⟨rfl,hs.fr hf,he w hst⟩
theorem wl_way {ops:Array Oper} {l:List Oper} (x r:Bool) (k dp:Nat) (on:x = true → WL P C n ops (QN C n ((dp,.bool r) :: σ) η ι) (l.take k) σ η ι) (off:x = false → WL P C n ops (QN C n ((dp,.bool r) :: σ) η ι) (l.take k) σ η ι)
    (rest:WL P C n ops Q (l.drop k) ((dp,.bool r) :: σ) η ι):WL P C n ops Q l σ η ι:=wl_guard k on off rest
theorem pn_know {e:Exit} {p:Prop} (hp:∀ w,St C η ι w → p) (h:p → PN C n Q e σ η ι):PN C n Q e σ η ι:=fun a w hf hst=>h (hp w hst) a w hf hst
theorem elimL {A B R:Type} {f:A → Option R} {g:B → Option R} {a:A} {r:R} (h:Sum.elim f g (.inl a) = some r):f a = some r:=h
theorem elimR {A B R:Type} {f:A → Option R} {g:B → Option R} {b:B} {r:R} (h:Sum.elim f g (.inr b) = some r):g b = some r:=h
def NextOk {S O:Type} (step:S → Option (S ⊕ O)) (k:Nat) (q:S ⊕ O) (o:O):Prop:=match q with | .inl s'=>IterN step k s' o | .inr o'=>o' = o
theorem IterN.pos {S O:Type} {step:S → Option (S ⊕ O)} {k:Nat} {s:S} {o:O} (h:IterN step k s o):∃ k',k = k' + 1 ∧ ∃ q,step s = some q ∧ NextOk step k' q o:=by
  cases k with
  | zero=>exact h.elim
  | succ k =>
    obtain ⟨q,h1,h2⟩:=h
    exact ⟨k,rfl,q,h1,h2⟩
theorem nextL {S O:Type} {step:S → Option (S ⊕ O)} {k:Nat} {s':S} {o:O} (h:NextOk step k (.inl s') o):IterN step k s' o:=h
theorem nextR {S O:Type} {step:S → Option (S ⊕ O)} {k:Nat} {o o':O} (h:NextOk step k (.inr o') o):o' = o:=h
theorem s0 {e:Ent} {η:List Ent}:SwF (e :: η) e (fun e'=>e' :: η):=SwF.head
theorem ss {e h:Ent} {η:List Ent} {F:Ent → List Ent} (k:SwF η e F):SwF (h :: η) e (fun e'=>h :: F e'):=k.tail
theorem wc_st {c:Code} {θ:List Ent} {κ:List Fact} (he:∀ w,St C η ι w → St C θ κ w) (h:WC P C n c Q σ θ κ):WC P C n c Q σ η ι:=fun a w hf hst=>h a w hf (he w hst)
theorem wl_st {ops:Array Oper} {l:List Oper} {θ:List Ent} {κ:List Fact} (he:∀ w,St C η ι w → St C θ κ w) (h:WL P C n ops Q l σ θ κ):WL P C n ops Q l σ η ι:=fun a w hf hst=>h a w hf (he w hst)
theorem pn_st {e:Exit} {θ:List Ent} {κ:List Fact} (he:∀ w,St C η ι w → St C θ κ w) (h:PN C n Q e σ θ κ):PN C n Q e σ η ι:=fun a w hf hst=>h a w hf (he w hst)
theorem wc_know {c:Code} {p:Prop} (hp:∀ w,St C η ι w → p) (h:p → WC P C n c Q σ η ι):WC P C n c Q σ η ι:=fun a w hf hst=>h (hp w hst) a w hf hst
theorem wl_know {ops:Array Oper} {l:List Oper} {p:Prop} (hp:∀ w,St C η ι w → p) (h:p → WL P C n ops Q l σ η ι):WL P C n ops Q l σ η ι:=fun a w hf hst=>h (hp w hst) a w hf hst
def Rem (η:List Ent) (e:Ent) (θ:List Ent):Prop:=∃ θ₁ θ₂,η = θ₁ ++ e :: θ₂ ∧ θ = θ₁ ++ θ₂
theorem Rem.head {e:Ent} {η:List Ent}:Rem (e :: η) e η:=⟨[],η,rfl,rfl⟩
theorem Rem.tail {e h:Ent} {η θ:List Ent} (k:Rem η e θ):Rem (h :: η) e (h :: θ):=by
  obtain ⟨a,b,rfl,rfl⟩:=k
  exact ⟨h :: a,b,rfl,rfl⟩
theorem Rem.sub {η θ:List Ent} {e:Ent} (h:Rem η e θ):θ.Sublist η:=by
  obtain ⟨a,b,rfl,rfl⟩:=h
  simp
theorem Rem.mem {η θ:List Ent} {e:Ent} (h:Rem η e θ):e ∈ η:=by
  obtain ⟨a,b,rfl,_⟩:=h
  simp
theorem Rem.perm {η θ:List Ent} {e:Ent} (h:Rem η e θ):η.Perm (e :: θ):=by
  obtain ⟨a,b,rfl,rfl⟩:=h
  exact List.perm_middle
theorem r0 {e:Ent} {η:List Ent}:Rem (e :: η) e η:=Rem.head
theorem rs {e h:Ent} {η θ:List Ent} (k:Rem η e θ):Rem (h :: η) e (h :: θ):=k.tail
theorem m0 {α:Type} {e:α} {l:List α}:e ∈ e :: l:=List.mem_cons_self
theorem ms {α:Type} {e h:α} {l:List α} (k:e ∈ l):e ∈ h :: l:=List.mem_cons_of_mem _ k
theorem Im.perm {θ:List Ent} {w:World} (hp:η.Perm θ) {b:Nat} (h:Im C η w b):Im C θ w b:=⟨h.1,h.2.1,fun x hx=>h.2.2 x (hp.mem_iff.2 hx)⟩
theorem St.perm {θ:List Ent} {w:World} (h:St C η ι w) (hp:η.Perm θ):St C θ ι w :=
  ⟨h.os,h.tape,h.output,h.size,h.old,fun x hx=>x.sub (h.ents x (hp.mem_iff.2 hx)) fun _ hb=>hb.perm hp,fun x hx=>h.place x (hp.mem_iff.2 hx),
    h.apart.perm hp fun {_ _} hxy b hy hx=>hxy b hx hy,
    fun f hf=>f.sub (h.facts f hf) fun _ hb=>hb.perm hp⟩
def Sel:List Ent → List Ent → Prop
  | [],_=>True
  | e :: θ,η=>∃ η',Rem η e η' ∧ Sel θ η'
theorem Sel.perm:∀ {θ η:List Ent},Sel θ η → ∃ r,η.Perm (θ ++ r)
  | [],η,_=>⟨η,List.Perm.refl _⟩
  | e :: θ,η,⟨η',h1,h2⟩=>by
    obtain ⟨r,hr⟩:=Sel.perm h2
    exact ⟨r,h1.perm.trans (List.Perm.cons e hr)⟩
def AllIn:List Fact → List Fact → Prop
  | [],_=>True
  | f :: l,ι=>f ∈ ι ∧ AllIn l ι
theorem AllIn.all:∀ {l ι:List Fact},AllIn l ι → ∀ f ∈ l,f ∈ ι
  | [],_,_,_,h=>by cases h
  | x :: l,ι,h,f,hf=>by
    rcases List.mem_cons.1 hf with rfl | hf
    · exact h.1
    · exact AllIn.all h.2 f hf
theorem St.to {θ:List Ent} {κ:List Fact} {w:World} (h:St C η ι w) (hs:Sel θ η) (hk:AllIn κ ι):St C θ κ w:=by
  obtain ⟨r,hr⟩:=hs.perm
  exact ((h.perm hr).subEnts (List.sublist_append_left θ r)).subFacts hk.all
theorem St.drop {κ:List Fact} {w:World} (h:St C η ι w) (hk:AllIn κ ι):St C η κ w:=h.subFacts hk.all
end
end Go.Proofs.YtdenliplkmjmjaaGreat
namespace Go.Proofs.YtdenliplkmjmjaaGreat
open Go.RowKit
def isAggB (P:Program) (t:TypeId):Bool:=match P.underlying t with | some (.struct _)=>true | some (.array _ _)=>true | _=>false
def sizeB (P:Program) (t:TypeId):Option Nat:=(P.info? t).map (·.size)
def fieldB (P:Program) (s f:Nat):Option (Nat × Nat):=match P.underlying s with
  | some (.struct fs)=>(fs[f]?).bind fun x=>(sizeB P x.type).map fun z=>(x.offset,z)
  | _=>none
theorem run_load1 {P:Program} {w:World} {t:TypeId} {a:Addr} {v:Value} (ha:isAggB P t = false) (hu:(P.underlying t).isSome = true) (hc:w.cell? a = some v):(Instr.loadAt t (.pointer (some a))).run P w = .ok v w:=by
  obtain ⟨d,hd⟩:=Option.isSome_iff_exists.1 hu
  simp only [isAggB,hd] at ha
  have h1:(isAgg t).run P w = .ok false w:=by
    simp only [isAgg,Sem.run_bind,run_underlying hd,Result.andThen_ok]
    cases d <;> simp_all
  simp [Instr.loadAt,Instr.sureAddr,loadVar,h1,hc]
theorem run_loadN {P:Program} {w:World} {t:TypeId} {b o:Nat} {cs:List Value} (ha:isAggB P t = true) (hz:sizeB P t = some cs.length) (hc:∀ j v,cs[j]? = some v → w.cell? ⟨b,o + j,none⟩ = some v) :
    (Instr.loadAt t (.pointer (some ⟨b,o,none⟩))).run P w = .ok (.agg cs.toArray) w:=by
  obtain ⟨i,hi,hsz⟩:∃ i,P.info? t = some i ∧ i.size = cs.length:=by
    simp only [sizeB,Option.map_eq_some_iff] at hz
    exact hz
  have h1:(isAgg t).run P w = .ok true w:=by
    simp only [isAggB] at ha
    cases hd:P.underlying t with
    | none=>simp [hd] at ha
    | some d =>
      simp only [hd] at ha
      simp only [isAgg,Sem.run_bind,run_underlying hd,Result.andThen_ok]
      cases d <;> simp_all
  have h2:(Go.sizeOf t).run P w = .ok cs.length w:=by simp [Go.sizeOf,typeInfo,hi,hsz]
  have h3:=run_loadCells_list (P:=P) (w:=w) ⟨b,o,none⟩ cs (fun j v hv=>by
    have:=hc j v hv
    rw [show (⟨b,o,none⟩:Addr).add j = ⟨b,o + j,none⟩ by unfold Addr.add; split <;> simp_all]
    exact this)
  simp [Instr.loadAt,Instr.sureAddr,loadVar,h1,h2,h3]
section
variable {P:Program} {C:Cx} {n:FN} {Q:Exit → Act → World → Prop} {σ:List (Nat × Value)} {η:List Ent} {ι:List Fact}
variable {d:Option Tmp} {ty:TypeId} {pos:String} {af:Array Edge} {gd:Option (Nat × Bool)}
theorem det_move {x:Operand} {v:Value} (hx:ev σ x = some v):Det P C ⟨d,.move x,ty,pos,af,gd⟩ σ η ι v:=fun ρ w hρ _=>by simp [execOp,hρ _ _ hx]
theorem det_assign {x:Operand} {v:Value} (hx:ev σ x = some v):Det P C ⟨d,.assign x,ty,pos,af,gd⟩ σ η ι v:=fun ρ w hρ _=>by simp [execOp,hρ _ _ hx]
theorem det_pick {c x y:Operand} {b:Bool} {u v:Value} (hc:ev σ c = some (.bool b)) (hx:ev σ x = some u) (hy:ev σ y = some v):Det P C ⟨d,.pick c x y,ty,pos,af,gd⟩ σ η ι (if b then u else v) :=
  fun ρ w hρ _=>by simp [execOp,hρ _ _ hc,hρ _ _ hx,hρ _ _ hy,asBool]
theorem det_pick_on {c x y:Operand} {p:Bool} {u v:Value} (hc:ev σ c = some (.bool p)) (hp:p = true) (hx:ev σ x = some u) (hy:ev σ y = some v):Det P C ⟨d,.pick c x y,ty,pos,af,gd⟩ σ η ι u:=by
  subst hp; simpa using det_pick (P:=P) (C:=C) (d:=d) (ty:=ty) (pos:=pos) (af:=af) (gd:=gd) (η:=η) (ι:=ι) hc hx hy
theorem det_pick_off {c x y:Operand} {p:Bool} {u v:Value} (hc:ev σ c = some (.bool p)) (hp:p = false) (hx:ev σ x = some u) (hy:ev σ y = some v):Det P C ⟨d,.pick c x y,ty,pos,af,gd⟩ σ η ι v:=by
  subst hp; simpa using det_pick (P:=P) (C:=C) (d:=d) (ty:=ty) (pos:=pos) (af:=af) (gd:=gd) (η:=η) (ι:=ι) hc hx hy
theorem det_and_on {c x y:Operand} {p q r:Bool} (hc:ev σ c = some (.bool p)) (hx:ev σ x = some (.bool q)) (hy:ev σ y = some (.bool r)) (hp:p = true):Det P C ⟨d,.pick c x y,ty,pos,af,gd⟩ σ η ι (.bool (p && q)):=by
  subst hp; simpa using det_pick (P:=P) (C:=C) (d:=d) (ty:=ty) (pos:=pos) (af:=af) (gd:=gd) (η:=η) (ι:=ι) hc hx hy
theorem det_and_off {c x y:Operand} {p q:Bool} {u:Value} (hc:ev σ c = some (.bool p)) (hx:ev σ x = some u) (hy:ev σ y = some (.bool false)) (hp:p = false):Det P C ⟨d,.pick c x y,ty,pos,af,gd⟩ σ η ι (.bool (p && q)):=by
  subst hp; simpa using det_pick (P:=P) (C:=C) (d:=d) (ty:=ty) (pos:=pos) (af:=af) (gd:=gd) (η:=η) (ι:=ι) hc hx hy
theorem det_or_off {c x y:Operand} {p q r:Bool} (hc:ev σ c = some (.bool p)) (hx:ev σ x = some (.bool q)) (hy:ev σ y = some (.bool r)) (hp:p = false):Det P C ⟨d,.pick c x y,ty,pos,af,gd⟩ σ η ι (.bool (p || r)):=by
  subst hp; simpa using det_pick (P:=P) (C:=C) (d:=d) (ty:=ty) (pos:=pos) (af:=af) (gd:=gd) (η:=η) (ι:=ι) hc hx hy
theorem det_or_on {c x y:Operand} {p r:Bool} {u:Value} (hc:ev σ c = some (.bool p)) (hx:ev σ x = some (.bool true)) (hy:ev σ y = some u) (hp:p = true):Det P C ⟨d,.pick c x y,ty,pos,af,gd⟩ σ η ι (.bool (p || r)):=by
  subst hp; simpa using det_pick (P:=P) (C:=C) (d:=d) (ty:=ty) (pos:=pos) (af:=af) (gd:=gd) (η:=η) (ι:=ι) hc hx hy
theorem det_field {x:Operand} {s f b o off z:Nat} (hx:ev σ x = some (.pointer (some ⟨b,o,none⟩))) (hf:fieldB P s f = some (off,z)) (hz:Nat.blt 0 z = true) :
    Det P C ⟨d,.fieldAddr s x f,ty,pos,af,gd⟩ σ η ι (.pointer (some ⟨b,o + off,none⟩)):=fun ρ w hρ _=>by
  unfold fieldB at hf
  cases hu:P.underlying s with
  | none=>simp [hu] at hf
  | some ds =>
    simp only [hu] at hf
    split at hf
    · rename_i fs hds
      obtain rfl:ds = .struct fs:=by simpa using hds
      obtain ⟨fl,hfl,h2⟩:=Option.bind_eq_some_iff.1 hf
      obtain ⟨z',hz',h3⟩:=Option.map_eq_some_iff.1 h2
      simp only [Prod.mk.injEq] at h3
      obtain ⟨rfl,rfl⟩:=h3
      obtain ⟨i,hi,rfl⟩:∃ i,P.info? fl.type = some i ∧ i.size = z':=by simpa [sizeB] using hz'
      have hne:i.size ≠ 0:=by intro e; rw [e] at hz; cases hz
      have hadd:(⟨b,o,none⟩:Addr).add fl.offset = ⟨b,o + fl.offset,none⟩:=by unfold Addr.add; split <;> simp_all
      simp [execOp,hρ _ _ hx,Instr.fieldAt,run_underlying hu,hfl,Instr.sureAddr,fieldPlace,Go.sizeOf,typeInfo,hi,hne,hadd]
    · cases hf
theorem det_load {x:Operand} {t b o:Nat} {tt:TypeId} {cs:List Value} {v:Value} (hx:ev σ x = some (.pointer (some ⟨b,o,none⟩))) (he:eBlk b tt cs ∈ η) (hc:cs[o]? = some v)
    (ha:isAggB P t = false) (hu:(P.underlying t).isSome = true):Det P C ⟨d,.load t x,ty,pos,af,gd⟩ σ η ι v:=fun ρ w hρ hst=>by
  have hk:w.heap[b]? = some (.cells cs.toArray tt (0,0)):=hst.ent he
  have hcell:w.cell? ⟨b,o,none⟩ = some v:=by simp [World.cell?,hk,hc]
  simp [execOp,hρ _ _ hx,run_load1 ha hu hcell]
theorem det_loadN {x:Operand} {t b o:Nat} {tt:TypeId} {cs cells:List Value} (hx:ev σ x = some (.pointer (some ⟨b,o,none⟩))) (he:eBlk b tt cs ∈ η) (hc:(cs.drop o).take cells.length = cells)
    (ha:isAggB P t = true) (hz:sizeB P t = some cells.length):Det P C ⟨d,.load t x,ty,pos,af,gd⟩ σ η ι (.agg cells.toArray):=fun ρ w hρ hst=>by
  have hk:w.heap[b]? = some (.cells cs.toArray tt (0,0)):=hst.ent he
  have hr:=run_loadN (P:=P) (w:=w) (b:=b) (o:=o) (cs:=cells) ha hz (fun j v hv=>by
    rw [← hc,List.getElem?_take] at hv
    split at hv
    · rw [List.getElem?_drop] at hv; simp [World.cell?,hk,hv]
    · cases hv)
  simp [execOp,hρ _ _ hx,hr]
def fAt (b off:Nat) (cs:List Value):Fact:=⟨fun w S=>S b ∧ At w b off cs,fun h k=>⟨h.1,h.2.keep (k _ h.1)⟩,fun h k=>⟨k _ h.1,h.2⟩⟩
theorem det_add {x y:Operand} {t u:TypeId} {k:IntKind} {i j:Int} (hx:ev σ x = some (.int k i)) (hy:ev σ y = some (.int k j)):Det P C ⟨d,.binOp .add t x y u,ty,pos,af,gd⟩ σ η ι (.int k (k.wrap (i + j))) :=
  fun ρ w hρ _=>by simp [execOp,hρ _ _ hx,hρ _ _ hy,eqGuard,binOp,Op.intArith]
theorem det_sub {x y:Operand} {t u:TypeId} {k:IntKind} {i j:Int} (hx:ev σ x = some (.int k i)) (hy:ev σ y = some (.int k j)):Det P C ⟨d,.binOp .sub t x y u,ty,pos,af,gd⟩ σ η ι (.int k (k.wrap (i - j))) :=
  fun ρ w hρ _=>by simp [execOp,hρ _ _ hx,hρ _ _ hy,eqGuard,binOp,Op.intArith]
theorem det_mul {x y:Operand} {t u:TypeId} {k:IntKind} {i j:Int} (hx:ev σ x = some (.int k i)) (hy:ev σ y = some (.int k j)):Det P C ⟨d,.binOp .mul t x y u,ty,pos,af,gd⟩ σ η ι (.int k (k.wrap (i * j))) :=
  fun ρ w hρ _=>by simp [execOp,hρ _ _ hx,hρ _ _ hy,eqGuard,binOp,Op.intArith]
theorem det_lss {x y:Operand} {t u:TypeId} {k:IntKind} {i j:Int} (hx:ev σ x = some (.int k i)) (hy:ev σ y = some (.int k j)):Det P C ⟨d,.binOp .lss t x y u,ty,pos,af,gd⟩ σ η ι (.bool (decide (i < j))) :=
  fun ρ w hρ _=>by simp [execOp,hρ _ _ hx,hρ _ _ hy,eqGuard,binOp,Op.intCmp]
theorem det_leq {x y:Operand} {t u:TypeId} {k:IntKind} {i j:Int} (hx:ev σ x = some (.int k i)) (hy:ev σ y = some (.int k j)):Det P C ⟨d,.binOp .leq t x y u,ty,pos,af,gd⟩ σ η ι (.bool (decide (i ≤ j))) :=
  fun ρ w hρ _=>by simp [execOp,hρ _ _ hx,hρ _ _ hy,eqGuard,binOp,Op.intCmp]
theorem det_gtr {x y:Operand} {t u:TypeId} {k:IntKind} {i j:Int} (hx:ev σ x = some (.int k i)) (hy:ev σ y = some (.int k j)):Det P C ⟨d,.binOp .gtr t x y u,ty,pos,af,gd⟩ σ η ι (.bool (decide (j < i))) :=
  fun ρ w hρ _=>by simp [execOp,hρ _ _ hx,hρ _ _ hy,eqGuard,binOp,Op.intCmp]
theorem det_geq {x y:Operand} {t u:TypeId} {k:IntKind} {i j:Int} (hx:ev σ x = some (.int k i)) (hy:ev σ y = some (.int k j)):Det P C ⟨d,.binOp .geq t x y u,ty,pos,af,gd⟩ σ η ι (.bool (decide (j ≤ i))) :=
  fun ρ w hρ _=>by simp [execOp,hρ _ _ hx,hρ _ _ hy,eqGuard,binOp,Op.intCmp]
theorem det_eql {x y:Operand} {t u:TypeId} {k:IntKind} {i j:Int} (hx:ev σ x = some (.int k i)) (hy:ev σ y = some (.int k j)):Det P C ⟨d,.binOp .eql t x y u,ty,pos,af,gd⟩ σ η ι (.bool (decide (i = j))) :=
  fun ρ w hρ _=>by simp [execOp,hρ _ _ hx,hρ _ _ hy,eqGuard,binOp,Op.intCmp]; rfl
theorem det_neq {x y:Operand} {t u:TypeId} {k:IntKind} {i j:Int} (hx:ev σ x = some (.int k i)) (hy:ev σ y = some (.int k j)):Det P C ⟨d,.binOp .neq t x y u,ty,pos,af,gd⟩ σ η ι (.bool (!decide (i = j))) :=
  fun ρ w hρ _=>by simp [execOp,hρ _ _ hx,hρ _ _ hy,eqGuard,binOp,Op.intCmp,bne]; rfl
theorem det_quo {x y:Operand} {t u:TypeId} {k:IntKind} {i j:Int} (hx:ev σ x = some (.int k i)) (hy:ev σ y = some (.int k j)) (h0:j ≠ 0):Det P C ⟨d,.binOp .quo t x y u,ty,pos,af,gd⟩ σ η ι (.int k (k.wrap (i.tdiv j))) :=
  fun ρ w hρ _=>by simp [execOp,hρ _ _ hx,hρ _ _ hy,eqGuard,binOp,Op.intDiv,h0]
theorem det_rem {x y:Operand} {t u:TypeId} {k:IntKind} {i j:Int} (hx:ev σ x = some (.int k i)) (hy:ev σ y = some (.int k j)) (h0:j ≠ 0):Det P C ⟨d,.binOp .rem t x y u,ty,pos,af,gd⟩ σ η ι (.int k (i.tmod j)) :=
  fun ρ w hρ _=>by simp [execOp,hρ _ _ hx,hρ _ _ hy,eqGuard,binOp,Op.intDiv,h0]
theorem det_not {x:Operand} {t:TypeId} {b:Bool} (hx:ev σ x = some (.bool b)):Det P C ⟨d,.unOp .not t x,ty,pos,af,gd⟩ σ η ι (.bool (!b)) :=
  fun ρ w hρ _=>by simp [execOp,hρ _ _ hx,Op.unary]
theorem det_neg {x:Operand} {t:TypeId} {k:IntKind} {i:Int} (hx:ev σ x = some (.int k i)):Det P C ⟨d,.unOp .neg t x,ty,pos,af,gd⟩ σ η ι (.int k (k.wrap (0 - i))) :=
  fun ρ w hρ _=>by simp [execOp,hρ _ _ hx,Op.unary,Op.intArith]
theorem det_conv {x:Operand} {s t:TypeId} {k k':IntKind} {i:Int} (hx:ev σ x = some (.int k' i)) (hs:(P.underlying s).isSome = true) (ht:P.underlying t = some (.int k)):Det P C ⟨d,.convert s t x,ty,pos,af,gd⟩ σ η ι (.int k (k.wrap i)) :=
  fun ρ w hρ _=>by
    obtain ⟨ds,hds⟩:=Option.isSome_iff_exists.1 hs
    simp [execOp,hρ _ _ hx,convert,run_underlying hds,run_underlying ht,Conv.intToInt]
theorem det_len {x:Operand} {t e:TypeId} {A:Option Addr} {m c:Nat} (hx:ev σ x = some (.slice A m c)) (ht:P.underlying t = some (.slice e)) :
    Det P C ⟨d,.call { callee:=.builtin .len,args:=#[x],argTypes:=#[t] },ty,pos,af,gd⟩ σ η ι (.int .i64 (m:Int)):=fun ρ w hρ _=>by
  simp [execOp,resolve,invoke,builtin,Builtin.len_,hρ _ _ hx,run_underlying ht,goInt]
theorem det_min {x y:Operand} {t u:TypeId} {k:IntKind} {i j:Int} (hx:ev σ x = some (.int k i)) (hy:ev σ y = some (.int k j)) :
    Det P C ⟨d,.call { callee:=.builtin .min,args:=#[x,y],argTypes:=#[t,u] },ty,pos,af,gd⟩ σ η ι (.int k (if j < i then j else i)):=fun ρ w hρ _=>by
  simp [execOp,resolve,invoke,builtin,Builtin.min_,Builtin.min2,hρ _ _ hx,hρ _ _ hy]
theorem det_extract {x:Operand} {vs:List Value} {i:Nat} {v:Value} (hx:ev σ x = some (.tuple vs.toArray)) (hv:vs[i]? = some v):Det P C ⟨d,.extract x i,ty,pos,af,gd⟩ σ η ι v :=
  fun ρ w hρ _=>by simp [execOp,hρ _ _ hx,Instr.extract,hv]
end
end Go.Proofs.YtdenliplkmjmjaaGreat
namespace Go.Proofs.YtdenliplkmjmjaaGreat
open Go.RowKit
def resOk (P:Program) (K:Value → World → Prop):Result Next → Prop
  | .ok (.value v) w=>K v w
  | .ok .skip w=>K undef w
  | .ok (.enter f args) w=>Calls P f args w fun e w'=>∃ v,e = .returned v ∧ K v w'
  | .ok (.round l f tmps assign body) w=>RoundIn Fence.wide 0 P l f tmps assign body w fun e w'=>∃ v,e = .returned v ∧ K v w'
  | _=>False
def ActOk (P:Program) (C:Cx) (o:Oper) (σ:List (Nat × Value)) (η:List Ent) (ι:List Fact) (R:Value → List Ent → List Fact → Prop):Prop :=
  ∀ (ρ:Operand → Value) (w:World),(∀ x u,ev σ x = some u → ρ x = u) → St C η ι w → resOk P (fun v w'=>∃ θ κ,R v θ κ ∧ St C θ κ w') ((execOp ρ o).run P w)
section
variable {P:Program} {C:Cx} {n:FN} {Q:Exit → Act → World → Prop} {σ:List (Nat × Value)} {η:List Ent} {ι:List Fact}
theorem upon_of_resOk {ro:Option Nat} {o:Oper} {a:Act} {next:Act → World → Prop} {r:Result Next} {K:Value → World → Prop} (h:resOk P K r) (hk:∀ v w,K v w → next (a.put o.dst v) w):o.uponIn (FW ro) 0 P a next Q r:=by
  cases r with
  | ok x w =>
    cases x <;> simp only [resOk] at h
    · exact hk _ _ h
    · exact hk _ _ h
    · exact ⟨fun h=>(by cases h),CallsIn.mono (F:=Fence.wide) (callsIn_wide.2 h) (fun e w' ⟨v,he,hv⟩=>by subst he; exact hk _ _ hv)⟩
    · exact ⟨fun h=>(by cases h),RoundIn.mono (F:=Fence.wide) h (fun e w' ⟨v,he,hv⟩=>by subst he; exact hk _ _ hv)⟩
  | halt x w=>exact h.elim
theorem semAt_resOk {ro:Option Nat} {o:Oper} {ρ:Operand → Value} {w:World} {K:Value → World → Prop} (h:resOk P K ((execOp ρ o).run P w)):resOk P K ((o.semAt ro ρ).run P w):=by
  cases ro with
  | none=>exact h
  | some l =>
    by_cases hd:∀ c,o.op ≠ .defer c
    · rw [Oper.semAt_some l ρ o hd]
      exact h
    · exfalso
      obtain ⟨c,hc⟩:=Classical.not_forall.1 hd
      simp only [ne_eq,Classical.not_not] at hc
      simp only [execOp,hc,Sem.run_bind] at h
      cases hr:(resolve ρ c o.type).run P w <;> simp [hr,Result.andThen,resOk] at h
theorem wl_act {ops:Array Oper} {o:Oper} {rest:List Oper} {d:Nat} {R:Value → List Ent → List Fact → Prop} (h:ActOk P C o σ η ι R) (hd:o.dst = some d) (hg:o.guard = none) (hn:Nat.blt d n.sz = true)
    (k:∀ v θ κ,R v θ κ → WL P C n ops Q rest ((d,v) :: σ) θ κ):WL P C n ops Q (o :: rest) σ η ι:=by
  intro a w hf hst
  refine wpListIn_plain hg fun K hK=>⟨fun _ _=>trivial,?_⟩
  refine upon_of_resOk (semAt_resOk (h a.eval w (fun x u hx=>hf.eval hx) hst)) ?_
  rintro v w' ⟨θ,κ,hr,hs⟩
  rw [hd]
  exact hK _ _ (k v θ κ hr _ _ (hf.put (by simpa [Nat.blt_eq] using hn) v) hs)
theorem wl_act0 {ops:Array Oper} {o:Oper} {rest:List Oper} {R:Value → List Ent → List Fact → Prop} (h:ActOk P C o σ η ι R) (hd:o.dst = none) (hg:o.guard = none)
    (k:∀ v θ κ,R v θ κ → WL P C n ops Q rest σ θ κ):WL P C n ops Q (o :: rest) σ η ι:=by
  intro a w hf hst
  refine wpListIn_plain hg fun K hK=>⟨fun _ _=>trivial,?_⟩
  refine upon_of_resOk (semAt_resOk (h a.eval w (fun x u hx=>hf.eval hx) hst)) ?_
  rintro v w' ⟨θ,κ,hr,hs⟩
  rw [hd]
  exact hK _ _ (k v θ κ hr _ _ hf hs)
variable {d:Option Tmp} {ty:TypeId} {pos:String} {af:Array Edge} {gd:Option (Nat × Bool)}
def Made (η:List Ent) (ι:List Fact) (t:TypeId) (cs:List Value) (f:Nat → Value) (v:Value) (θ:List Ent) (κ:List Fact):Prop:=∃ b,v = f b ∧ θ = eBlk b t cs :: η ∧ κ = ι
theorem act_box {t:TypeId} {x:Operand} {v:Value} {cs:List Value} (hx:ev σ x = some v) (hc:v.cells = cs.toArray) :
    ActOk P C ⟨d,.box t x,ty,pos,af,gd⟩ σ η ι (Made η ι t cs fun b=>.pointer (some ⟨b,0,none⟩)):=fun ρ w hρ hst=>by
  have hr:(execOp ρ ⟨d,.box t x,ty,pos,af,gd⟩).run P w = .ok (.value (.pointer (some ⟨w.heap.size,0,none⟩))) (w.alloc (.cells cs.toArray t)):=by
    simp [execOp,hρ _ _ hx,Instr.box,newVar,newRow,hc]
  rw [hr]
  exact ⟨_,_,⟨_,rfl,rfl,rfl⟩,hst.alloc t cs⟩
def zeroB (P:Program) (t:TypeId):Option Value:=(P.info? t).bind (·.zero)
theorem act_alloc {t:TypeId} {z:Value} {cs:List Value} (hz:zeroB P t = some z) (hc:z.cells = cs.toArray) :
    ActOk P C ⟨d,.alloc t,ty,pos,af,gd⟩ σ η ι (Made η ι t cs fun b=>.pointer (some ⟨b,0,none⟩)):=fun ρ w _ hst=>by
  obtain ⟨i,hi,hiz⟩:=Option.bind_eq_some_iff.1 hz
  have hr:(execOp ρ ⟨d,.alloc t,ty,pos,af,gd⟩).run P w = .ok (.value (.pointer (some ⟨w.heap.size,0,none⟩))) (w.alloc (.cells cs.toArray t)):=by
    simp [execOp,Instr.alloc,zeroValue,typeInfo,hi,hiz,newVar,newRow,hc]
  rw [hr]
  exact ⟨_,_,⟨_,rfl,rfl,rfl⟩,hst.alloc t cs⟩
def evParts (σ:List (Nat × Value)):List (Nat × Operand) → Option (List (Nat × Value))
  | []=>some []
  | (i,x) :: l=>match ev σ x,evParts σ l with
    | some v,some r=>some ((i,v) :: r)
    | _,_=>none
theorem evParts_map {ρ:Operand → Value} (hρ:∀ x u,ev σ x = some u → ρ x = u):∀ {l:List (Nat × Operand)} {r:List (Nat × Value)},evParts σ l = some r → l.map (fun p=>(p.1,ρ p.2)) = r
  | [],r,h=>by simp [evParts] at h; simp [h]
  | (i,x) :: l,r,h=>by
    unfold evParts at h
    split at h
    · rename_i v r' hv hr
      simp only [Option.some.injEq] at h
      subst h
      simp [hρ _ _ hv,evParts_map hρ hr]
    · cases h
def evVals (σ:List (Nat × Value)):Nat → List (Nat × Operand) → Option (List Value)
  | _,[]=>some []
  | k,(i,x) :: l=>bif Nat.beq i k then (match ev σ x,evVals σ (k + 1) l with
    | some v,some r=>some (v :: r)
    | _,_=>none) else none
theorem evVals_map {ρ:Operand → Value} (hρ:∀ x u,ev σ x = some u → ρ x = u):∀ {l:List (Nat × Operand)} {k:Nat} {r:List Value},evVals σ k l = some r → l.map (fun p=>(p.1,ρ p.2)) = (r.zipIdx k).map fun x=>(x.2,x.1)
  | [],k,r,h=>by simp [evVals] at h; simp [h]
  | (i,x) :: l,k,r,h=>by
    unfold evVals at h
    cases hb:Nat.beq i k with
    | false=>rw [hb] at h; cases h
    | true =>
      rw [hb] at h
      have hik:=Nat.eq_of_beq_eq_true hb
      subst hik
      simp only [cond_true] at h
      split at h
      · rename_i v r' hv hr
        simp only [Option.some.injEq] at h
        subst h
        simp [hρ _ _ hv,evVals_map hρ hr,List.zipIdx_cons]
      · cases h
def flatV:List Value → List Value
  | []=>[]
  | v :: l=>v.cells.toList ++ flatV l
theorem flatV_eq:∀ l:List Value,flatV l = l.flatMap fun v=>v.cells.toList
  | []=>rfl
  | v :: l=>by simp [flatV,flatV_eq l]
def Sized (z:Nat):List Value → Prop
  | []=>True
  | v :: l=>v.cells.size = z ∧ Sized z l
theorem Sized.all {z:Nat}:∀ {l:List Value},Sized z l → ∀ v ∈ l,v.cells.size = z
  | [],_,_,h=>by cases h
  | x :: l,h,v,hv=>by
    rcases List.mem_cons.1 hv with rfl | hv
    · exact h.1
    · exact Sized.all h.2 v hv
def Ones:List Value → Prop
  | []=>True
  | u :: l=>u.oneCell' = true ∧ Ones l
theorem Ones.all:∀ {l:List Value},Ones l → ∀ u ∈ l,u.oneCell' = true
  | [],_,_,h=>by cases h
  | x :: l,h,u,hu=>by
    rcases List.mem_cons.1 hu with rfl | hu
    · exact h.1
    · exact Ones.all h.2 u hu
theorem act_store {t b o:Nat} {tt:TypeId} {x y:Operand} {v:Value} {cs cells cs':List Value} {F:Ent → List Ent} (hx:ev σ x = some (.pointer (some ⟨b,o,none⟩))) (hy:ev σ y = some v) (hv:v.cells = cells.toArray)
    (hs:SwF η (eBlk b tt cs) F) (hc:cs.take o ++ cells ++ cs.drop (o + cells.length) = cs') (hl:o + cells.length ≤ cs.length) (hz:sizeB P t = some cells.length) (h1:Ones cells) :
    ActOk P C ⟨d,.store t x y,ty,pos,af,gd⟩ σ η ι (fun _ θ κ=>θ = F (eBlk b tt cs') ∧ κ = ι):=fun ρ w hρ hst=>by
  have hk:w.heap[b]? = some (.cells cs.toArray tt (0,0)):=hst.ent hs.mem
  obtain ⟨i,hi,hsz⟩:∃ i,P.info? t = some i ∧ i.size = cells.length:=by simpa [sizeB] using hz
  have hst2:=run_storeCells_at (P:=P) b o tt cells 0 cs.toArray w hk (by simpa using hl) h1.all
  have hr:(execOp ρ ⟨d,.store t x y,ty,pos,af,gd⟩).run P w = .ok .skip (w.setRow b cs'.toArray):=by
    simp only [Nat.add_zero,hc] at hst2
    simp [execOp,hρ _ _ hx,hρ _ _ hy,Instr.storeAt,Instr.sureAddr,storeVar,Go.sizeOf,typeInfo,hi,hsz,hv,hst2]
  rw [hr]
  refine ⟨_,ι,⟨rfl,rfl⟩,hst.sw (hs (eBlk b tt cs')) rfl rfl ⟨rfl,Nat.le_refl _⟩ (by simp [World.setRow]) (fun b' _ hne=>?_) ?_ (fun b' h=>.inl h)⟩
  · have hne':b ≠ b':=fun e=>hne (by simp [eBlk,e])
    simp [World.setRow,Array.getElem?_modify,hne']
  · exact setRow_heap w b cs.toArray _ tt _ hk
def Blocks (η:List Ent):Nat → Prop:=fun b=>∃ h ∈ η,h.own b
def Spec (P:Program) (f:FuncId) (args:List Value) (η:List Ent) (ι:List Fact) (Post:Value → List Ent → List Fact → Prop):Prop :=
  ∀ C:Cx,(∀ b,C.M b ↔ Blocks η b) → St C η ι C.W0 → Calls P f args.toArray C.W0 fun e w'=>∃ v θ κ,e = .returned v ∧ Post v θ κ ∧ St C θ κ w'
def SpecT (T:World → (Ending → World → Prop) → Prop) (η:List Ent) (ι:List Fact) (Post:Value → List Ent → List Fact → Prop):Prop :=
  ∀ C:Cx,(∀ b,C.M b ↔ Blocks η b) → St C η ι C.W0 → T C.W0 fun e w'=>∃ v θ κ,e = .returned v ∧ Post v θ κ ∧ St C θ κ w'
theorem Spec.mono {f:FuncId} {args:List Value} {Post Post':Value → List Ent → List Fact → Prop} (h:Spec P f args η ι Post) (hp:∀ v θ κ,Post v θ κ → Post' v θ κ):Spec P f args η ι Post' :=
  fun C hM hst=>(h C hM hst).mono fun _ _ ⟨v,θ,κ,he,hq,hs⟩=>⟨v,θ,κ,he,hp v θ κ hq,hs⟩
def Lent (e:Ent) (g:Fact):Prop:=∀ w S,e.ok w S → g.R w (fun b=>S b ∨ e.own b)
theorem lent_eS {α:Type} {L:Lay α} {e:TypeId} {A:Option Addr} {m c:Nat} {xs:List α}:Lent (eS L e A m c xs) (fV (lSlice L) (.slice A m c) xs):=by
  rintro w S ⟨hn,⟨h0,hx⟩ | ⟨hc0,cs,hk,hc⟩⟩
  · subst h0 hx
    exact ⟨A,m,0,rfl,hn,by rw [hn]; exact Nat.le_refl _,.inl rfl⟩
  rcases hk.2 with ⟨hv,h0⟩ | ⟨g,cap,cur,hv,_,hg,hnc,_,hcs,htk⟩
  · simp only [Value.slice.injEq] at hv
    exact ⟨A,m,c,rfl,hn,by omega,.inl (List.eq_nil_of_length_eq_zero (by omega))⟩
  · simp only [Value.slice.injEq,true_and] at hv
    obtain ⟨rfl,rfl⟩:=hv
    refine ⟨_,_,_,rfl,hn,hnc,Els.of_cells (cs:=cs) (.inr (if_neg hc0)) (hc.sub fun b hb=>.inl hb) fun q u hu=>?_⟩
    have hu2:cur[q]? = some u:=by
      rw [← htk,List.getElem?_take] at hu
      split at hu
      · simpa using hu
      · cases hu
    simp [World.cell?,hg,hu2]
def LendIn (ι:List Fact) (lam:List Ent):List Fact → Prop
  | []=>True
  | g :: κ=>(g ∈ ι ∨ ∃ e ∈ lam,Lent e g) ∧ LendIn ι lam κ
theorem LendIn.all {lam:List Ent}:∀ {κ:List Fact},LendIn ι lam κ → ∀ g ∈ κ,g ∈ ι ∨ ∃ e ∈ lam,Lent e g
  | [],_,_,h=>by cases h
  | x :: κ,h,g,hg=>by
    rcases List.mem_cons.1 hg with rfl | hg
    · exact h.1
    · exact LendIn.all h.2 g hg
def AllE:List Ent → List Ent → Prop
  | [],_=>True
  | e :: l,η=>e ∈ η ∧ AllE l η
theorem AllE.all:∀ {l η:List Ent},AllE l η → ∀ f ∈ l,f ∈ η
  | [],_,_,_,h=>by cases h
  | x :: l,η,h,f,hf=>by
    rcases List.mem_cons.1 hf with rfl | hf
    · exact h.1
    · exact AllE.all h.2 f hf
def Ent.Plain (e:Ent):Prop:=∀ w S T,e.ok w S → e.ok w T
theorem plain_eBlk {b:Nat} {t:TypeId} {cs:List Value}:(eBlk b t cs).Plain:=fun _ _ _ h=>h
theorem plain_eS {α:Type} {enc:α → List Value} {z:Nat} {hl:∀ x,(enc x).length = z} {h1:∀ x,∀ u ∈ enc x,u.oneCell' = true} {e:TypeId} {A:Option Addr} {m c:Nat} {xs:List α}:(eS (lFlat enc z hl h1) e A m c xs).Plain:=fun _ _ _ ⟨hn,hk⟩=>⟨hn,hk.imp id fun ⟨h0,cs,hk,hc⟩=>⟨h0,cs,hk,hc.1,hc.2⟩⟩
def Plains:List Ent → Prop
  | []=>True
  | e :: l=>e.Plain ∧ Plains l
theorem Plains.all:∀ {l:List Ent},Plains l → ∀ f ∈ l,f.Plain
  | [],_,_,h=>by cases h
  | x :: l,h,f,hf=>by
    rcases List.mem_cons.1 hf with rfl | hf
    · exact h.1
    · exact Plains.all h.2 f hf
theorem St.callT {T:World → (Ending → World → Prop) → Prop} (hT:∀ {w:World} {R R':Ending → World → Prop},T w R → (∀ e w',R e w' → R' e w') → T w R') {θ₀ ηr:List Ent} {κ₀:List Fact} {Post:Value → List Ent → List Fact → Prop} (hc:SpecT T θ₀ κ₀ Post) {w:World} (hst:St C (θ₀ ++ ηr) ι w) (lam:List Ent) (hl:∀ e ∈ lam,e ∈ ηr) (hk:∀ g ∈ κ₀,g ∈ ι ∨ ∃ e ∈ lam,Lent e g) :
    T w fun e w'=>∃ v θ κ,e = .returned v ∧ Post v θ κ ∧ ((lam = [] ∨ ∀ h ∈ θ,h.Plain) → St C (θ ++ ηr) ι w') ∧ (lam = [] → St C (θ ++ ηr) (κ ++ ι) w'):=by
  have hap:=List.pairwise_append.1 hst.apart
  have hlamlt:∀ b,Blocks lam b → b < w.heap.size:=fun b ⟨e,he,heb⟩=>e.lt (hst.ents e (List.mem_append_right _ (hl e he))) heb
  have hlam0:∀ b,Blocks lam b → ∀ h ∈ θ₀,¬ h.own b:=fun b ⟨e,he,heb⟩ h hh hhb=>hap.2.2 h hh e (hl e he) b hhb heb
  have hst0:St ⟨w,fun b=>Im C (θ₀ ++ ηr) w b ∨ Blocks lam b,Blocks θ₀⟩ θ₀ κ₀ w:=by
    have hin:∀ b,Im C (θ₀ ++ ηr) w b → Im ⟨w,fun b=>Im C (θ₀ ++ ηr) w b ∨ Blocks lam b,Blocks θ₀⟩ θ₀ w b:=fun b hb=>⟨hb.1,.inr (.inl (.inl hb)),fun h hh=>hb.2.2 h (List.mem_append_left _ hh)⟩
    refine ⟨rfl,rfl,⟨rfl,Nat.le_refl _⟩,Nat.le_refl _,fun _ _ _=>rfl,fun h hh=>h.sub (hst.ents h (List.mem_append_left _ hh)) hin,fun h hh b hb=>.inr ⟨h,hh,hb⟩,hap.1,fun g hg=>?_⟩
    rcases hk g hg with h1 | ⟨e,he,h1⟩
    · exact g.sub (hst.facts g h1) hin
    · refine g.sub (h1 w _ (hst.ents e (List.mem_append_right _ (hl e he)))) fun b hb=>?_
      rcases hb with hb | hb
      · exact hin b hb
      · exact ⟨hlamlt b ⟨e,he,hb⟩,.inr (.inl (.inr ⟨e,he,hb⟩)),hlam0 b ⟨e,he,hb⟩⟩
  refine hT (hc _ (fun _=>Iff.rfl) hst0) ?_
  rintro e w' ⟨v,θ,κ,he,hp,hs⟩
  refine ⟨v,θ,κ,he,hp,?_⟩
  have hsz:w.heap.size ≤ w'.heap.size:=hs.size
  have hold:∀ b,b < w.heap.size → ¬ Blocks θ₀ b → w'.heap[b]? = w.heap[b]?:=hs.old
  have hplace:∀ h ∈ θ,∀ b,h.own b → w.heap.size ≤ b ∨ Blocks θ₀ b:=hs.place
  have hr:∀ h ∈ ηr,∀ b,h.own b → b < w.heap.size ∧ ¬ Blocks θ₀ b:=fun h hh b hb =>
    ⟨h.lt (hst.ents h (List.mem_append_right _ hh)) hb,fun ⟨g,hg,hgb⟩=>hap.2.2 g hg h hh b hgb hb⟩
  have hB:∀ b,Blocks θ₀ b → C.W0.heap.size ≤ b ∨ C.M b:=fun b ⟨g,hg,hgb⟩=>hst.place g (List.mem_append_left _ hg) b hgb
  have hsame:Same (Im C (θ₀ ++ ηr) w) w w':=fun b hb=>hold b hb.1 fun ⟨g',hg',hgb⟩=>hb.2.2 g' (List.mem_append_left _ hg') hgb
  have hsub1:∀ b,Im C (θ₀ ++ ηr) w b → Im C (θ ++ ηr) w' b:=fun b hb=>⟨Nat.lt_of_lt_of_le hb.1 hsz,hb.2.1,fun h hh hbb=>by
    rcases List.mem_append.1 hh with hh | hh
    · rcases hplace h hh b hbb with h3 | h3
      · have:=hb.1
        omega
      · obtain ⟨g',hg',hgb⟩:=h3
        exact hb.2.2 g' (List.mem_append_left _ hg') hgb
    · exact hb.2.2 h (List.mem_append_right _ hh) hbb⟩
  have hsub2:lam = [] → ∀ b,Im ⟨w,fun b=>Im C (θ₀ ++ ηr) w b ∨ Blocks lam b,Blocks θ₀⟩ θ w' b → Im C (θ ++ ηr) w' b:=fun hlam b hb=>⟨hb.1,by
      rcases hb.2.1 with h1 | h1 | h1
      · exact .inl (Nat.le_trans hst.size h1)
      · rcases h1 with h1 | ⟨e,he,_⟩
        · exact h1.2.1
        · rw [hlam] at he; cases he
      · rcases hB b h1 with h4 | h4
        · exact .inl h4
        · exact .inr (.inr h4),fun h hh=>by
      rcases List.mem_append.1 hh with hh | hh
      · exact hb.2.2 h hh
      · intro hbb
        obtain ⟨h1,h2⟩:=hr h hh b hbb
        rcases hb.2.1 with h3 | h3 | h3
        · have h4:w.heap.size ≤ b:=h3
          omega
        · rcases h3 with h3 | ⟨e,he,_⟩
          · exact h3.2.2 h (List.mem_append_right _ hh) hbb
          · rw [hlam] at he; cases he
        · exact h2 h3⟩
  have main:(lam = [] ∨ ∀ h ∈ θ,h.Plain) → St C (θ ++ ηr) ι w':=by
    intro hpl
    refine ⟨hs.os.trans hst.os,hs.tape.trans hst.tape,⟨hs.output.1.trans hst.output.1,Nat.le_trans hst.output.2 hs.output.2⟩,Nat.le_trans hst.size hsz,fun b hb hm=>?_,fun h hh=>?_,fun h hh b hb=>?_,?_,fun g hg=>g.sub (g.keep (hst.facts g hg) hsame) hsub1⟩
    · refine (hold b (Nat.lt_of_lt_of_le hb hst.size) fun hB'=>?_).trans (hst.old b hb hm)
      rcases hB b hB' with h1 | h1
      · omega
      · exact hm h1
    · rcases List.mem_append.1 hh with hh | hh
      · rcases hpl with h0 | hpl
        · exact h.sub (hs.ents h hh) (hsub2 h0)
        · exact hpl h hh _ _ _ (hs.ents h hh)
      · exact h.sub (h.keep (hst.ents h (List.mem_append_right _ hh)) (fun b hb=>hold b (hr h hh b hb).1 (hr h hh b hb).2) hsame) hsub1
    · rcases List.mem_append.1 hh with hh | hh
      · rcases hplace h hh b hb with h1 | h1
        · exact .inl (Nat.le_trans hst.size h1)
        · exact hB b h1
      · exact hst.place h (List.mem_append_right _ hh) b hb
    · refine List.pairwise_append.2 ⟨hs.apart,hap.2.1,fun h hh g hg b hb hgb=>?_⟩
      obtain ⟨h1,h2⟩:=hr g hg b hgb
      rcases hplace h hh b hb with h3 | h3
      · omega
      · exact h2 h3
  refine ⟨main,fun hlam=>?_⟩
  have hm:=main (.inl hlam)
  refine ⟨hm.os,hm.tape,hm.output,hm.size,hm.old,hm.ents,hm.place,hm.apart,fun g hg=>?_⟩
  rcases List.mem_append.1 hg with hg | hg
  · exact g.sub (hs.facts g hg) (hsub2 hlam)
  · exact hm.facts g hg
theorem St.callL {f:FuncId} {args:List Value} {θ₀ ηr:List Ent} {κ₀:List Fact} {Post:Value → List Ent → List Fact → Prop} (hc:Spec P f args θ₀ κ₀ Post) {w:World} (hst:St C (θ₀ ++ ηr) ι w) (lam:List Ent) (hl:∀ e ∈ lam,e ∈ ηr) (hk:∀ g ∈ κ₀,g ∈ ι ∨ ∃ e ∈ lam,Lent e g) :
    Calls P f args.toArray w fun e w'=>∃ v θ κ,e = .returned v ∧ Post v θ κ ∧ ((lam = [] ∨ ∀ h ∈ θ,h.Plain) → St C (θ ++ ηr) ι w') ∧ (lam = [] → St C (θ ++ ηr) (κ ++ ι) w') :=
  St.callT (T:=fun w R=>Calls P f args.toArray w R) (fun h hr=>h.mono hr) hc hst lam hl hk
theorem St.call {f:FuncId} {args:List Value} {θ₀ ηr:List Ent} {κ₀:List Fact} {Post:Value → List Ent → List Fact → Prop} (hc:Spec P f args θ₀ κ₀ Post) {w:World} (hst:St C (θ₀ ++ ηr) ι w) (hk:∀ g ∈ κ₀,g ∈ ι) :
    Calls P f args.toArray w fun e w'=>∃ v θ κ,e = .returned v ∧ Post v θ κ ∧ St C (θ ++ ηr) (κ ++ ι) w' :=
  (hst.callL hc [] (fun _ h=>by cases h) fun g hg=>.inl (hk g hg)).mono fun _ _ ⟨v,θ,κ,he,hp,_,h⟩=>⟨v,θ,κ,he,hp,h rfl⟩
def evL (σ:List (Nat × Value)):List Operand → Option (List Value)
  | []=>some []
  | x :: l=>match ev σ x,evL σ l with
    | some v,some r=>some (v :: r)
    | _,_=>none
theorem evL_map {ρ:Operand → Value} (hρ:∀ x u,ev σ x = some u → ρ x = u):∀ {l:List Operand} {r:List Value},evL σ l = some r → l.map ρ = r
  | [],r,h=>by simp [evL] at h; simp [h]
  | x :: l,r,h=>by
    unfold evL at h
    split at h
    · rename_i v r' hv hr
      simp only [Option.some.injEq] at h
      subst h
      simp [hρ _ _ hv,evL_map hρ hr]
    · cases h
def bodyB (P:Program) (f:FuncId):Bool:=match P.funcs[f]? with
  | some fn=>!(fn.name == "runtime.NumGoroutine") && fn.body.isSome
  | none=>false
theorem run_callFunc {f:FuncId} {args:Array Value} {w:World} (hb:bodyB P f = true):(callFunc f args).run P w = .ok (.enter f args) w:=by
  unfold bodyB at hb
  cases hf:P.funcs[f]? with
  | none=>simp [hf] at hb
  | some fn =>
    simp [hf] at hb
    obtain ⟨h1,h2⟩:=hb
    cases hx:fn.body with
    | none=>simp [hx] at h2
    | some c=>simp [callFunc,hf,h1,hx]
def Rems (η:List Ent):List Ent → List Ent → Prop
  | [],ηr=>η = ηr
  | e :: θ₀,ηr=>∃ η',Rem η e η' ∧ Rems η' θ₀ ηr
theorem Rems.perm:∀ {θ₀ η ηr:List Ent},Rems η θ₀ ηr → η.Perm (θ₀ ++ ηr)
  | [],_,_,h=>by cases h; exact List.Perm.refl _
  | e :: θ₀,η,ηr,⟨η',h1,h2⟩=>h1.perm.trans (List.Perm.cons e (Rems.perm h2))
theorem act_call {f:FuncId} {x:Operand} {xs:List Operand} {ts:Array TypeId} {cap:List Value} {args vs:List Value} {θ₀ ηr:List Ent} {κ₀:List Fact} {Post:Value → List Ent → List Fact → Prop}
    (hc:Spec P f args θ₀ κ₀ Post) (hx:ev σ x = some (.func (.func f) #[] cap.toArray)) (hvs:evL σ xs = some vs) (hargs:vs ++ cap = args) (hb:bodyB P f = true) (hη:θ₀ ++ ηr = η) (hk:AllIn κ₀ ι) :
    ActOk P C ⟨d,.call { callee:=.value x,args:=xs.toArray,argTypes:=ts },ty,pos,af,gd⟩ σ η ι (fun v θ' κ'=>∃ θ κ,Post v θ κ ∧ θ' = θ ++ ηr ∧ κ' = κ ++ ι):=fun ρ w hρ hst=>by
  subst hη hargs
  have hr:(execOp ρ ⟨d,.call { callee:=.value x,args:=xs.toArray,argTypes:=ts },ty,pos,af,gd⟩).run P w = .ok (.enter f (vs ++ cap).toArray) w:=by
    have hm:=evL_map hρ hvs
    simp [execOp,resolve,hρ _ _ hx,Deferred.ofValue,invoke,hm,run_callFunc hb]
  rw [hr]
  refine (hst.call hc hk.all).mono ?_
  rintro e w' ⟨v,θ,κ,rfl,hp,hs⟩
  exact ⟨v,rfl,_,_,⟨θ,κ,hp,rfl,rfl⟩,hs⟩
theorem act_callS {f:FuncId} {x:Operand} {xs:List Operand} {ts:Array TypeId} {cap:List Value} {args vs:List Value} {θ₀ ηr:List Ent} {κ₀:List Fact} {Post:Value → List Ent → List Fact → Prop}
    (hc:Spec P f args θ₀ κ₀ Post) (hx:ev σ x = some (.func (.func f) #[] cap.toArray)) (hvs:evL σ xs = some vs) (hargs:vs ++ cap = args) (hb:bodyB P f = true) (hη:Rems η θ₀ ηr) (hk:AllIn κ₀ ι) :
    ActOk P C ⟨d,.call { callee:=.value x,args:=xs.toArray,argTypes:=ts },ty,pos,af,gd⟩ σ η ι (fun v θ' κ'=>∃ θ κ,Post v θ κ ∧ θ' = θ ++ ηr ∧ κ' = κ ++ ι):=fun ρ w hρ hst =>
  act_call hc hx hvs hargs hb rfl hk ρ w hρ (hst.perm hη.perm)
theorem act_callL {f:FuncId} {x:Operand} {xs:List Operand} {ts:Array TypeId} {cap:List Value} {args vs:List Value} {θ₀ ηr:List Ent} {κ₀:List Fact} {Post:Value → List Ent → List Fact → Prop} (lam:List Ent)
    (hc:Spec P f args θ₀ κ₀ Post) (hpl:∀ v θ κ,Post v θ κ → Plains θ) (hx:ev σ x = some (.func (.func f) #[] cap.toArray)) (hvs:evL σ xs = some vs) (hargs:vs ++ cap = args) (hb:bodyB P f = true) (hη:Rems η θ₀ ηr) (hl:AllE lam ηr) (hk:LendIn ι lam κ₀) :
    ActOk P C ⟨d,.call { callee:=.value x,args:=xs.toArray,argTypes:=ts },ty,pos,af,gd⟩ σ η ι (fun v θ' κ'=>∃ θ κ,Post v θ κ ∧ θ' = θ ++ ηr ∧ κ' = ι):=fun ρ w hρ hst=>by
  subst hargs
  have hr:(execOp ρ ⟨d,.call { callee:=.value x,args:=xs.toArray,argTypes:=ts },ty,pos,af,gd⟩).run P w = .ok (.enter f (vs ++ cap).toArray) w:=by
    have hm:=evL_map hρ hvs
    simp [execOp,resolve,hρ _ _ hx,Deferred.ofValue,invoke,hm,run_callFunc hb]
  rw [hr]
  refine ((hst.perm hη.perm).callL hc lam hl.all hk.all).mono ?_
  rintro e w' ⟨v,θ,κ,rfl,hp,hs,_⟩
  exact ⟨v,rfl,_,_,⟨θ,κ,hp,rfl,rfl⟩,hs (.inr (hpl v θ κ hp).all)⟩
def RetQ (C:Cx) (Post:Value → List Ent → List Fact → Prop) (e:Ending) (w':World):Prop:=∃ v θ κ,e = .returned v ∧ Post v θ κ ∧ St C θ κ w'
def argσ:Nat → List Value → List (Nat × Value)
  | _,[]=>[]
  | i,v :: l=>(i,v) :: argσ (i + 1) l
theorem argσ_look:∀ (l:List Value) (k i:Nat) (v:Value),look (argσ k l) i = some v → k ≤ i ∧ l[i - k]? = some v
  | [],_,_,_,h=>by cases h
  | u :: l,k,i,v,h=>by
    simp only [argσ,look] at h
    cases hb:Nat.beq k i with
    | true =>
      rw [hb] at h
      have:=Nat.eq_of_beq_eq_true hb
      subst this
      simp only [cond_true,Option.some.injEq] at h
      exact ⟨Nat.le_refl _,by simp [h]⟩
    | false =>
      rw [hb] at h
      have hne:k ≠ i:=fun e=>by subst e; simp at hb
      obtain ⟨h1,h2⟩:=argσ_look l (k + 1) i v h
      refine ⟨by omega,?_⟩
      rw [show i - k = (i - (k + 1)) + 1 by omega]
      simpa using h2
theorem spec_of {f:FuncId} {fn:Func} {c:Code} {args:List Value} {Post:Value → List Ent → List Fact → Prop} {σ:List (Nat × Value)} {n:Nat} (hf:P.funcs[f]? = some fn) (hb:fn.body = some c) (hn:fn.ntmps = n) (hl:Nat.ble args.length n = true) (hσ:argσ 0 args = σ)
    (h:∀ C:Cx,WC P C ⟨n,[],none⟩ c (bodyPostM Fence.wide 0 P fn (RetQ C Post)) σ η ι):Spec P f args η ι Post:=by
  subst hσ
  intro C hM hst
  refine callsIn_wide.1 (callsIn_of_wp_marks (F:=Fence.wide) hf hb trivial (h C _ _ ?_ hst))
  rw [hn]
  refine Fr.start (by simpa using hl) fun i v hv=>?_
  have:=argσ_look args 0 i v hv
  simpa using this.2
def ResOk (P:Program) (C:Cx) (σ:List (Nat × Value)) (η:List Ent) (ι:List Fact):List ResultVar → List Value → Prop
  | [],[]=>True
  | .tmp t :: rs,v :: vs=>look σ t = some v ∧ ResOk P C σ η ι rs vs
  | .cell t ty :: rs,v :: vs=>(∃ b tt cs,look σ t = some (.pointer (some ⟨b,0,none⟩)) ∧ eBlk b tt cs ∈ η ∧ ((isAggB P ty = true ∧ sizeB P ty = some cs.length ∧ v = .agg cs.toArray) ∨ (isAggB P ty = false ∧ (P.underlying ty).isSome = true ∧ cs = [v]))) ∧ ResOk P C σ η ι rs vs
  | _,_=>False
theorem ResOk.run {a:Act} {w:World} (hf:Fr n σ a) (hst:St C η ι w):∀ {rs:List ResultVar} {vs:List Value},ResOk P C σ η ι rs vs →
    (rs.mapM (m:=Sem) fun | .tmp t=>pure (a.tmps.getD t undef) | .cell x t=>do loadVar t (← asAddr (a.tmps.getD x undef))).run P w = .ok vs w
  | [],[],_=>by simp
  | .tmp t :: rs,v :: vs,h=>by
    have:=ResOk.run hf hst h.2
    have ht:=hf.at_ _ _ h.1
    simp only [List.mapM_cons,Sem.run_bind,Sem.run_pure,Result.andThen_ok,this,ht]
  | .cell t ty :: rs,v :: vs,h=>by
    obtain ⟨⟨b,tt,cs,hl,he,hv⟩,h2⟩:=h
    have h3:=ResOk.run hf hst h2
    have ht:=hf.at_ _ _ hl
    have hk:w.heap[b]? = some (.cells cs.toArray tt (0,0)):=hst.ent he
    have hr':(loadVar ty ⟨b,0,none⟩).run P w = .ok v w:=by
      rcases hv with ⟨ha,hz,rfl⟩ | ⟨ha,hu,rfl⟩
      · have hr:=run_loadN (P:=P) (w:=w) (t:=ty) (b:=b) (o:=0) (cs:=cs) ha hz (fun j u hu=>by simp [World.cell?,hk,hu])
        simpa [Instr.loadAt,Instr.sureAddr] using hr
      · have hr:=run_load1 (P:=P) (w:=w) (t:=ty) (a:=⟨b,0,none⟩) (v:=v) ha hu (by simp [World.cell?,hk])
        simpa [Instr.loadAt,Instr.sureAddr] using hr
    have has:(asAddr (.pointer (some ⟨b,0,none⟩))).run P w = .ok ⟨b,0,none⟩ w:=rfl
    simp only [List.mapM_cons,Sem.run_bind,Sem.run_pure,Result.andThen_ok,h3,ht,has,hr']
  | [],_ :: _,h=>h.elim
  | .tmp _ :: _,[],h=>h.elim
  | .cell _ _ :: _,[],h=>h.elim
def retV:List Value → Value
  | [v]=>v
  | vs=>.tuple vs.toArray
theorem pn_ret {sz:Nat} {ro:Option Nat} {fn:Func} {rs:List ResultVar} {vs:List Value} {Post:Value → List Ent → List Fact → Prop} {θ:List Ent} {κ:List Fact} (hrs:fn.results = rs.toArray) (hr:ResOk P C σ η ι rs vs) (hp:Post (retV vs) θ κ) (hs:∀ w,St C η ι w → St C θ κ w) :
    PN C ⟨sz,[],ro⟩ (bodyPostM Fence.wide 0 P fn (RetQ C Post)) .ret σ η ι:=by
  intro a w hf hst
  show LeavesInM Fence.wide 0 P fn a.tmps _ a.defers .returning w
  rw [hf.defers]
  refine ⟨retV vs,?_,_,_,_,rfl,hp,hs w hst⟩
  have h:=ResOk.run hf hst hr
  have hm:(fn.results.mapM (m:=Sem) fun | .tmp t=>pure (a.tmps.getD t undef) | .cell x t=>do loadVar t (← asAddr (a.tmps.getD x undef))).run P w = .ok vs.toArray w:=by
    rw [hrs,List.mapM_toArray]
    simp only [Sem.run_map,h]
    rfl
  have e:(results fn a.tmps).run P w = ((fn.results.mapM (m:=Sem) fun | .tmp t=>pure (a.tmps.getD t undef) | .cell x t=>do loadVar t (← asAddr (a.tmps.getD x undef))).run P w).andThen
      fun vs w'=>.ok (if h:vs.size = 1 then vs[0] else .tuple vs) w':=by
    unfold results
    simp only [Sem.run_bind,Sem.run_pure]
    rfl
  rw [e,hm,Result.andThen_ok]
  match vs with
  | []=>rfl
  | [v]=>rfl
  | v :: u :: vs=>simp [retV]
theorem pn_fall {fn:Func} {R:Ending → World → Prop} (h:PN C n (bodyPostM Fence.wide 0 P fn R) .ret σ η ι):PN C n (bodyPostM Fence.wide 0 P fn R) .normal σ η ι:=h
theorem St.only {w:World} {κ:List Fact} (h:St C η ι w) (hk:AllIn κ ι):St C [] κ w:=(h.subEnts (List.nil_sublist η)).subFacts hk.all
end
end Go.Proofs.YtdenliplkmjmjaaGreat
namespace Go.Proofs.YtdenliplkmjmjaaGreat
open Go.RowKit
def ancB (A:List (List Nat)) (j i:Nat):Bool:=(A.getD j []).contains i
def okA (ops:Array Oper) (A:List (List Nat)):Bool:=(List.range ops.size).all fun j=>match ops[j]? with
  | some o=>(o.after.toList.all fun e=>!Region.binds .any e || Nat.blt e.on j) && (A.getD j []).all fun i=>o.after.toList.any fun e=>Region.binds .any e && (e.on == i || ancB A e.on i)
  | none=>false
def dstB (ops:Array Oper) (i:Nat):Option Nat:=(ops[i]?).bind (·.dst)
inductive Plan where
  | done
  | det (i:Nat) (p:Plan)
  | alt (y:Nat) (p q:Plan)
  | dead
def Plan.rem:Plan → List Nat
  | .done=>[]
  | .det i p=>i :: p.rem
  | .alt y p _=>y :: p.rem
  | .dead=>[]
def Plan.heads:Plan → List Nat
  | .alt y _ q=>y :: q.heads
  | _=>[]
def Plan.acts:Plan → List Nat
  | .done=>[]
  | .det _ p=>p.acts
  | .alt y p q=>y :: (p.acts ++ q.acts)
  | .dead=>[]
def Plan.same (R:List Nat):Plan → Bool
  | .alt y p q=>R.contains y && (R.all (fun z=>z == y || p.rem.contains z) && p.rem.all (fun z=>R.contains z) && !p.rem.contains y && q.same R)
  | _=>true
def stepB (ops:Array Oper) (A:List (List Nat)) (n:Nat) (pre:List (Nat × Bool)) (i:Nat) (x:Bool):Bool :=
  match ops[i]? with
  | none=>false
  | some o=>(match o.op with | .select _ _=>false | _=>true) && (match o.dst with | none=>x | some d=>pre.all fun p=>dstB ops p.1 != some d) &&
      (o.looksAt ops).all fun t=>(List.range n).all fun k=>dstB ops k != some t || (ancB A i k && pre.any fun p=>p.1 == k) || (ancB A k i && pre.all fun p=>p.1 != k)
def dxGo (ops:Array Oper) (A:List (List Nat)) (n:Nat):List (Nat × Bool) → Bool → Plan → Bool
  | _,_,.done=>true
  | pre,_,.det i p=>stepB ops A n pre i false && !p.rem.contains i && dxGo ops A n ((i,false) :: pre) true p
  | pre,e,.alt y p q=>(!e || ((Plan.alt y p q).rem.all (fun z=>(Plan.alt y p q).heads.contains z || (Plan.alt y p q).heads.any fun h=>ancB A z h) && (Plan.alt y p q).same (Plan.alt y p q).rem)) && stepB ops A n pre y true && dxGo ops A n ((y,true) :: pre) true p && dxGo ops A n pre false q
  | _,e,.dead=>!e
def headL (ops:Array Oper) (n:Nat):Array Bool:=(Array.range ops.size).map fun i=>Nat.blt i n
def dxB (ops:Array Oper) (A:List (List Nat)) (ord:Plan) (n:Nat):Bool :=
  okA ops A && Nat.ble n ops.size && (List.range n).all (fun i=>ord.rem.contains i) && ord.rem.all (fun i=>Nat.blt i n) && dxGo ops A n [] true ord &&
  ((List.range ops.size).all fun j=>Nat.blt j n || (List.range n).all fun i=>ancB A j i) && Region.seqB .any ops (ops.size - n) n (headL ops n)
section
variable {P:Program} {C:Cx} {m:FN} {ops:Array Oper} {A:List (List Nat)}
def Closed (ops:Array Oper) (listed:Array Bool):Prop:=∀ j oj,ops[j]? = some oj → listed.getD j false = true → ∀ e ∈ oj.after,Region.binds .any e = true → listed.getD e.on false = true
theorem okA_spec (h:okA ops A = true) {j:Nat} {o:Oper} (ho:ops[j]? = some o):(∀ e ∈ o.after,Region.binds .any e = true → e.on < j) ∧ ∀ i,ancB A j i = true → ∃ e ∈ o.after,Region.binds .any e = true ∧ (e.on = i ∨ ancB A e.on i = true):=by
  have hj:j < ops.size:=(Array.getElem?_eq_some_iff.1 ho).1
  have h1:=List.all_eq_true.1 h j (List.mem_range.2 hj)
  simp only [ho,Bool.and_eq_true] at h1
  refine ⟨fun e he hb=>?_,fun i hi=>?_⟩
  · have:=List.all_eq_true.1 h1.1 e (by simpa using he)
    simpa [hb] using this
  · have:=List.all_eq_true.1 h1.2 i (by simpa [ancB] using hi)
    obtain ⟨e,he,h2⟩:=List.any_eq_true.1 this
    simp only [Bool.and_eq_true,Bool.or_eq_true,beq_iff_eq] at h2
    exact ⟨e,by simpa using he,h2.1,h2.2⟩
theorem anc_listed (h:okA ops A = true) {listed:Array Bool} (hc:Closed ops listed):∀ (j:Nat) (o:Oper),ops[j]? = some o → (∀ e ∈ o.after,Region.binds .any e = true → listed.getD e.on false = true) → ∀ i,ancB A j i = true → listed.getD i false = true:=by
  intro j
  induction j using Nat.strongRecOn with
  | _ j ih =>
    intro o ho hall i hi
    obtain ⟨e,he,hb,h1⟩:=(okA_spec h ho).2 i hi
    have hl:=hall e he hb
    rcases h1 with h1 | h1
    · rw [← h1]; exact hl
    · have hlt:=(okA_spec h ho).1 e he hb
      cases hoe:ops[e.on]? with
      | none =>
        unfold okA at h
        unfold ancB at h1
        have:ops.size ≤ e.on:=by
          rcases Nat.lt_or_ge e.on ops.size with h2 | h2
          · simp [h2] at hoe
          · exact h2
        have hj:j < ops.size:=(Array.getElem?_eq_some_iff.1 ho).1
        omega
      | some oe=>exact ih e.on hlt oe hoe (fun e' he' hb'=>hc e.on oe hoe hl e' he' hb') i h1
def GRun (P:Program) (o:Oper) (σ:List (Nat × Value)) (Z:World → Prop) (v:Value):Prop :=
  ∀ (ρ:Operand → Value) (w:World),(∀ x ∈ o.op.operands,∀ u,ev σ x = some u → ρ x = u) → Z w → (execOp ρ o).run P w = .ok (.value v) w
theorem GRun.of {o:Oper} {σ:List (Nat × Value)} {η:List Ent} {ι:List Fact} {v:Value} (hs:∀ cs b,o.op ≠ .select cs b) (h:Det P C o σ η ι v):GRun P o σ (St C η ι) v:=by
  intro ρ w hρ hst
  have e:execOp ρ o = execOp (fun x=>(ev σ x).getD (ρ x)) o:=execOp_congr o hs fun x hx=>by
    cases hv:ev σ x with
    | none=>simp
    | some u=>simp [hρ x hx u hv]
  rw [e]
  exact h _ w (fun x u hx=>by simp [hx]) hst
def GDet (P:Program) (ops:Array Oper) (o:Oper) (σ:List (Nat × Value)) (Z:World → Prop) (v:Value):Prop :=
  (o.guard = none ∧ GRun P o σ Z v) ∨ ∃ j b g,o.guard = some (j,b) ∧ dstB ops j = some g ∧ ((look σ g = some (.bool b) ∧ GRun P o σ Z v) ∨ (∃ u,look σ g = some u ∧ u ≠ .bool b ∧ v = undef))
def pushD (d:Option Nat) (v:Value) (σ:List (Nat × Value)):List (Nat × Value):=match d with | some d=>(d,v) :: σ | none=>σ
def HX (P:Program) (C:Cx) (m:FN) (ops:Array Oper) (A:List (List Nat)) (K:List (Nat × Value) → List Ent → List Fact → Prop):Plan → List (Nat × Value) → List Ent → List Fact → (World → Prop) → Prop
  | .done,σ,η,ι,_=>K σ η ι
  | .det i r,σ,η,ι,Z=>∃ o d v,ops[i]? = some o ∧ o.dst = some d ∧ Nat.blt d m.sz = true ∧ (GDet P ops o σ Z v ∨ ((r.acts.all fun y=>ancB A y i) = true ∧ GDet P ops o σ (St C η ι) v)) ∧ HX P C m ops A K r ((d,v) :: σ) η ι Z
  | .alt i r q,σ,η,ι,Z=>(∃ o,ops[i]? = some o ∧ (∀ d,o.dst = some d → Nat.blt d m.sz = true) ∧ (o.guard = none ∨ ∃ j b g,o.guard = some (j,b) ∧ dstB ops j = some g ∧ look σ g = some (.bool b)) ∧ ActOk P C o σ η ι fun v θ κ=>∃ Z',(∀ w,St C θ κ w → Z' w) ∧ (∀ w,Z' w → Z w) ∧ HX P C m ops A K r (pushD o.dst v σ) θ κ Z') ∧ HX P C m ops A K q σ η ι Z
  | .dead,_,_,_,_=>True
theorem St.less {η ηn:List Ent} {ι ιn:List Fact} {w:World} (h:St C (ηn ++ η) (ιn ++ ι) w):St C η ι w:=(h.subEnts (List.sublist_append_right ηn η)).subFacts fun f hf=>by simp [hf]
theorem look_other {σ:List (Nat × Value)} {d t:Nat} {v:Value} (h:d ≠ t):look ((d,v) :: σ) t = look σ t:=by
  have:Nat.beq d t = false:=by
    cases hb:Nat.beq d t with
    | false=>rfl
    | true=>exact absurd (Nat.eq_of_beq_eq_true hb) h
  simp [look,this]
theorem look_same {σ:List (Nat × Value)} {d:Nat} {v:Value}:look ((d,v) :: σ) d = some v:=by simp [look]
theorem looks_operand {o:Oper} {t:Nat} (h:Operand.tmp t ∈ o.op.operands):t ∈ o.looksAt ops:=by
  unfold Oper.looksAt
  refine List.mem_append_left _ ?_
  rw [List.mem_filterMap]
  exact ⟨.tmp t,by simpa using h,rfl⟩
theorem looks_guard {o:Oper} {j g:Nat} {b:Bool} (h:o.guard = some (j,b)) (hg:dstB ops j = some g):g ∈ o.looksAt ops:=by
  unfold Oper.looksAt
  refine List.mem_append_right _ ?_
  simp only [h]
  unfold dstB at hg
  simp [hg]
theorem GDet.mono {o:Oper} {σ:List (Nat × Value)} {Z Z':World → Prop} {v:Value} (h:GDet P ops o σ Z v) (hz:∀ w,Z' w → Z w):GDet P ops o σ Z' v:=by
  have hr:GRun P o σ Z v → GRun P o σ Z' v:=fun h ρ w hρ hst=>h ρ w hρ (hz w hst)
  rcases h with ⟨h1,h2⟩ | ⟨j,b,g,h1,h2,h3⟩
  · exact .inl ⟨h1,hr h2⟩
  · exact .inr ⟨j,b,g,h1,h2,h3.imp (fun h=>⟨h.1,hr h.2⟩) id⟩
theorem stepB_spec {n i:Nat} {x:Bool} {pre:List (Nat × Bool)} (h:stepB ops A n pre i x = true):∃ o,ops[i]? = some o ∧ (x = false → ∃ d,o.dst = some d) ∧ (∀ cs b,o.op ≠ .select cs b) ∧ (∀ d,o.dst = some d → ∀ p ∈ pre,dstB ops p.1 ≠ some d) ∧
    (∀ t ∈ o.looksAt ops,∀ k,k < n → dstB ops k = some t → (ancB A i k = true ∧ ∃ p ∈ pre,p.1 = k) ∨ (ancB A k i = true ∧ ∀ p ∈ pre,p.1 ≠ k)):=by
  unfold stepB at h
  cases ho:ops[i]? with
  | none=>simp [ho] at h
  | some o =>
    simp only [ho,Bool.and_eq_true] at h
    obtain ⟨⟨h1,h2⟩,h5⟩:=h
    refine ⟨o,rfl,fun hx=>?_,fun cs b e=>by simp [e] at h1,fun d hd p hp=>?_,fun t ht k hk hkt=>?_⟩
    · cases hd:o.dst with
      | none=>simp [hd,hx] at h2
      | some d=>exact ⟨d,rfl⟩
    · simp only [hd] at h2
      simpa using List.all_eq_true.1 h2 p hp
    · have:=List.all_eq_true.1 (List.all_eq_true.1 h5 t ht) k (List.mem_range.2 hk)
      simp only [hkt,bne_self_eq_false,Bool.false_or,Bool.or_eq_true,Bool.and_eq_true] at this
      rcases this with this | this
      · obtain ⟨p,hp,hpk⟩:=List.any_eq_true.1 this.2
        exact .inl ⟨this.1,p,hp,by simpa using hpk⟩
      · exact .inr ⟨this.1,fun p hp=>by simpa using List.all_eq_true.1 this.2 p hp⟩
theorem dxGo_det {n i:Nat} {e:Bool} {pre:List (Nat × Bool)} {r:Plan} (h:dxGo ops A n pre e (.det i r) = true):stepB ops A n pre i false = true ∧ i ∉ r.rem ∧ dxGo ops A n ((i,false) :: pre) true r = true:=by
  simp only [dxGo,Bool.and_eq_true] at h
  exact ⟨h.1.1,by simpa using h.1.2,h.2⟩
theorem alt_find {m':FN} {K:List (Nat × Value) → List Ent → List Fact → Prop} {σ:List (Nat × Value)} {η:List Ent} {ι:List Fact} {Z:World → Prop} {n y:Nat} {pre:List (Nat × Bool)} {R:List Nat}:∀ {r:Plan} {e:Bool},y ∈ r.heads → dxGo ops A n pre e r = true → r.same R = true → HX P C m' ops A K r σ η ι Z →
    ∃ p,stepB ops A n pre y true = true ∧ dxGo ops A n ((y,true) :: pre) true p = true ∧ (∀ z ∈ R,z = y ∨ z ∈ p.rem) ∧ (∀ z ∈ p.rem,z ∈ R) ∧ y ∉ p.rem ∧ HX P C m' ops A K (.alt y p .dead) σ η ι Z
  | .done,_,h,_,_,_=>by cases h
  | .det _ _,_,h,_,_,_=>by cases h
  | .dead,_,h,_,_,_=>by cases h
  | .alt y' p q,e,hy,hgo,hs,hx=>by
    simp only [dxGo,Bool.and_eq_true] at hgo
    simp only [Plan.same,Bool.and_eq_true] at hs
    by_cases hyy:y = y'
    · subst hyy
      refine ⟨p,hgo.1.1.2,hgo.1.2,fun z hz=>?_,fun z hz=>?_,by simpa using hs.2.1.2,hx.1,trivial⟩
      · have:=List.all_eq_true.1 hs.2.1.1.1 z hz
        simpa using this
      · have:=List.all_eq_true.1 hs.2.1.1.2 z hz
        simpa using this
    · simp only [Plan.heads,List.mem_cons] at hy
      exact alt_find (hy.resolve_left hyy) hgo.2 hs.2.2 hx.2
def Whence (ops:Array Oper) (A:List (List Nat)) (n:Nat) (pre:List (Nat × Bool)) (σ0 σ:List (Nat × Value)) (i t:Nat) (u:Value):Prop :=
  (∃ k,k < n ∧ dstB ops k = some t ∧ ancB A i k = true ∧ (∃ q ∈ pre,q.1 = k) ∧ look σ t = some u) ∨ ((∀ k,k < n → dstB ops k = some t → ancB A k i = true) ∧ look σ0 t = some u)
structure DInv (P:Program) (C:Cx) (m:FN) (ops:Array Oper) (A:List (List Nat)) (n:Nat) (σ0:List (Nat × Value)) (K:List (Nat × Value) → List Ent → List Fact → Prop) (pre:List (Nat × Bool)) (r:Plan) (σ:List (Nat × Value)) (η:List Ent) (ι:List Fact) (Z:World → Prop) (listed:Array Bool) (a:Act) (w:World):Prop where
  hx:HX P C m ops A K r σ η ι Z
  zst:∀ w,St C η ι w → Z w
  go:dxGo ops A n pre true r = true
  cover:∀ i,i < n → (∃ p ∈ pre,p.1 = i) ∨ i ∈ r.rem
  small:∀ p ∈ pre,p.1 < n
  smallr:∀ i ∈ r.rem,i < n
  st:St C η ι w
  defers:a.defers = m.ms.map markD
  size:a.tmps.size = m.sz
  lsize:listed.size = ops.size
  closed:Closed ops listed
  head:∀ i,listed.getD i false = true → i < n
  ext:∀ p ∈ pre,p.2 = true → listed.getD p.1 false = true
  rest:∀ i ∈ r.rem,listed.getD i false = false
  nopre:∀ i ∈ r.rem,∀ p ∈ pre,p.1 ≠ i
  apart:∀ p ∈ pre,∀ q ∈ pre,∀ d,dstB ops p.1 = some d → dstB ops q.1 = some d → p.1 = q.1
  info:∀ p ∈ pre,p.2 = false → ∃ o d v σp,ops[p.1]? = some o ∧ o.dst = some d ∧ Nat.blt d m.sz = true ∧ look σ d = some v ∧ (∀ cs b,o.op ≠ .select cs b) ∧ (listed.getD p.1 false = true ∨ GDet P ops o σp Z v ∨ ((r.acts.all fun y=>ancB A y p.1) = true ∧ GDet P ops o σp (St C η ι) v)) ∧ ∀ t ∈ o.looksAt ops,∀ u,look σp t = some u → Whence ops A n pre σ0 σ p.1 t u
  slot:∀ p ∈ pre,listed.getD p.1 false = true → ∀ d v,dstB ops p.1 = some d → look σ d = some v → a.tmps.getD d undef = v
  base:∀ t,(∀ k,k < n → dstB ops k = some t → listed.getD k false = false) → ∀ u,look σ0 t = some u → a.tmps.getD t undef = u
  bases:∀ t,(∀ p ∈ pre,dstB ops p.1 ≠ some t) → look σ t = look σ0 t
variable {n:Nat} {σ0 σ:List (Nat × Value)} {K:List (Nat × Value) → List Ent → List Fact → Prop} {pre:List (Nat × Bool)} {r:Plan} {η:List Ent} {ι:List Fact} {Z:World → Prop} {listed:Array Bool} {a:Act} {w:World}
theorem dstB_of {i d:Nat} {o:Oper} (ho:ops[i]? = some o) (hd:o.dst = some d):dstB ops i = some d:=by simp [dstB,ho,hd]
theorem dstB_dst {i:Nat} {o:Oper} (ho:ops[i]? = some o):dstB ops i = o.dst:=by simp [dstB,ho]
theorem DInv.whence (h:DInv P C m ops A n σ0 K pre r σ η ι Z listed a w) {i:Nat} {o:Oper} (hl:∀ t ∈ o.looksAt ops,∀ k,k < n → dstB ops k = some t → (ancB A i k = true ∧ ∃ p ∈ pre,p.1 = k) ∨ (ancB A k i = true ∧ ∀ p ∈ pre,p.1 ≠ k)) {t:Nat} (ht:t ∈ o.looksAt ops) {u:Value} (hu:look σ t = some u):Whence ops A n pre σ0 σ i t u:=by
  by_cases hk:∃ k,k < n ∧ dstB ops k = some t ∧ ancB A i k = true ∧ ∃ p ∈ pre,p.1 = k
  · obtain ⟨k,h1,h2,h3,h4⟩:=hk
    exact .inl ⟨k,h1,h2,h3,h4,hu⟩
  · have h2:∀ k,k < n → dstB ops k = some t → ancB A k i = true ∧ ∀ p ∈ pre,p.1 ≠ k:=fun k hkn hkt=>(hl t ht k hkn hkt).resolve_left fun h3=>hk ⟨k,hkn,hkt,h3.1,h3.2⟩
    refine .inr ⟨fun k hkn hkt=>(h2 k hkn hkt).1,?_⟩
    rw [← h.bases t fun p hp hpt=>(h2 p.1 (h.small p hp) hpt).2 p hp rfl]
    exact hu
theorem DInv.reads (h:DInv P C m ops A n σ0 K pre r σ η ι Z listed a w) (hA:okA ops A = true) {i:Nat} {o:Oper} (ho:ops[i]? = some o) (hun:listed.getD i false = false) (hall:∀ e ∈ o.after,Region.binds .any e = true → listed.getD e.on false = true) {t:Nat} {u:Value} (hw:Whence ops A n pre σ0 σ i t u):a.tmps.getD t undef = u:=by
  rcases hw with ⟨k,h1,h2,h3,⟨q,hq,hqk⟩,h5⟩ | ⟨h1,h2⟩
  · exact h.slot q hq (by rw [hqk]; exact anc_listed hA h.closed i o ho hall k h3) t u (by rw [hqk]; exact h2) h5
  · refine h.base t (fun k hkn hkt=>?_) u h2
    cases hv:listed.getD k false with
    | false=>rfl
    | true =>
      exfalso
      have hk:∃ ok,ops[k]? = some ok:=by
        cases hok:ops[k]? with
        | none=>simp [dstB,hok] at hkt
        | some ok=>exact ⟨ok,rfl⟩
      obtain ⟨ok,hok⟩:=hk
      have:=anc_listed hA h.closed k ok hok (fun e he hb=>h.closed k ok hok hv e he hb) i (h1 k hkn hkt)
      rw [hun] at this
      cases this
theorem DInv.unroll {i:Nat} (h:DInv P C m ops A n σ0 K pre (.det i r) σ η ι Z listed a w):∃ d v,DInv P C m ops A n σ0 K ((i,false) :: pre) r ((d,v) :: σ) η ι Z listed a w:=by
  obtain ⟨o,d,v,ho,hd,hdm,hg,hx⟩:=h.hx
  obtain ⟨hstep,hni,hgo⟩:=dxGo_det h.go
  obtain ⟨o',ho',_,hsel,hdist,hlooks⟩:=stepB_spec hstep
  obtain rfl:o' = o:=Option.some.inj (ho'.symm.trans ho)
  have hi:i < n:=h.smallr i (by simp [Plan.rem])
  have hold:∀ p ∈ pre,∀ dp,dstB ops p.1 = some dp → d ≠ dp:=fun p hp dp hdp e=>hdist d hd p hp (e ▸ hdp)
  have hwk:∀ j t u,Whence ops A n pre σ0 σ j t u → Whence ops A n ((i,false) :: pre) σ0 ((d,v) :: σ) j t u:=fun j t u hw=>by
    rcases hw with ⟨k,h1,h2,h3,⟨q,hq,hqk⟩,h5⟩ | hw
    · refine .inl ⟨k,h1,h2,h3,⟨q,List.mem_cons_of_mem _ hq,hqk⟩,?_⟩
      rw [look_other (hold q hq t (by rw [hqk]; exact h2))]
      exact h5
    · exact .inr hw
  refine ⟨d,v,hx,h.zst,hgo,fun j hj=>?_,fun p hp=>?_,fun j hj=>h.smallr j (by simp [Plan.rem,hj]),h.st,h.defers,h.size,h.lsize,h.closed,h.head,fun p hp hp2=>?_,fun j hj=>h.rest j (by simp [Plan.rem,hj]),fun j hj p hp=>?_,fun p hp q hq dd h1 h2=>?_,fun p hp hp2=>?_,fun p hp hl dp u hdp hu=>?_,h.base,fun t ht=>?_⟩
  · rcases h.cover j hj with ⟨p,hp,hpj⟩ | hj2
    · exact .inl ⟨p,List.mem_cons_of_mem _ hp,hpj⟩
    · simp only [Plan.rem,List.mem_cons] at hj2
      rcases hj2 with rfl | hj2
      · exact .inl ⟨(j,false),by simp,rfl⟩
      · exact .inr hj2
  · rcases List.mem_cons.1 hp with rfl | hp
    · exact hi
    · exact h.small p hp
  · rcases List.mem_cons.1 hp with rfl | hp
    · cases hp2
    · exact h.ext p hp hp2
  · rcases List.mem_cons.1 hp with rfl | hp
    · intro e
      simp only at e
      exact hni (e ▸ hj)
    · exact h.nopre j (by simp [Plan.rem,hj]) p hp
  · rcases List.mem_cons.1 hp with rfl | hp
    · rcases List.mem_cons.1 hq with rfl | hq
      · rfl
      · have e:d = dd:=Option.some.inj ((dstB_of ho hd).symm.trans h1)
        exact absurd h2 (e ▸ hdist d hd q hq)
    · rcases List.mem_cons.1 hq with rfl | hq
      · have e:d = dd:=Option.some.inj ((dstB_of ho hd).symm.trans h2)
        exact absurd h1 (e ▸ hdist d hd p hp)
      · exact h.apart p hp q hq dd h1 h2
  · rcases List.mem_cons.1 hp with rfl | hp
    · exact ⟨o',d,v,σ,ho,hd,hdm,look_same,hsel,.inr hg,fun t ht u hu=>hwk _ _ _ (h.whence hlooks ht hu)⟩
    · obtain ⟨op,dp,vp,σp,hop,hdp,hdpm,hlp,hselp,hgp,hlk⟩:=h.info p hp hp2
      exact ⟨op,dp,vp,σp,hop,hdp,hdpm,by rw [look_other (hold p hp dp (dstB_of hop hdp))]; exact hlp,hselp,hgp,fun t ht u hu=>hwk _ _ _ (hlk t ht u hu)⟩
  · rcases List.mem_cons.1 hp with rfl | hp
    · have:=h.rest i (by simp [Plan.rem])
      simp only at hl
      rw [this] at hl
      cases hl
    · rw [look_other (hold p hp dp hdp)] at hu
      exact h.slot p hp hl dp u hdp hu
  · have hne:d ≠ t:=fun e=>ht (i,false) (by simp) (e ▸ dstB_of ho hd)
    rw [look_other hne]
    exact h.bases t fun p hp=>ht p (List.mem_cons_of_mem _ hp)
theorem DInv.unrolls:∀ (r:Plan) (pre:List (Nat × Bool)) (σ:List (Nat × Value)),DInv P C m ops A n σ0 K pre r σ η ι Z listed a w → ∃ pre' r' σ',DInv P C m ops A n σ0 K pre' r' σ' η ι Z listed a w ∧ (r' = .done ∨ ∃ y p q,r' = .alt y p q)
  | .done,pre,σ,h=>⟨pre,.done,σ,h,.inl rfl⟩
  | .alt y p q,pre,σ,h=>⟨pre,_,σ,h,.inr ⟨y,p,q,rfl⟩⟩
  | .dead,pre,σ,h=>by
    have:=h.go
    simp [dxGo] at this
  | .det i s,pre,σ,h=>by
    obtain ⟨d,v,h'⟩:=h.unroll
    exact DInv.unrolls s _ _ h'
theorem closed_set {i:Nat} {o:Oper} (hc:Closed ops listed) (ho:ops[i]? = some o) (hall:∀ e ∈ o.after,Region.binds .any e = true → listed.getD e.on false = true):Closed ops (listed.setIfInBounds i true):=by
  intro j oj hj hl e he hb
  by_cases hij:i = j
  · subst hij
    obtain rfl:oj = o:=Option.some.inj (hj.symm.trans ho)
    exact getD_set_true (hall e he hb)
  · rw [getD_set_ne false hij] at hl
    exact getD_set_true (hc j oj hj hl e he hb)
theorem listed_set {i j:Nat} (h:(listed.setIfInBounds i true).getD j false = true):i = j ∨ listed.getD j false = true:=by
  by_cases hij:i = j
  · exact .inl hij
  · rw [getD_set_ne false hij] at h
    exact .inr h
theorem listed_old {i j:Nat} (hs:i < listed.size) (h:(listed.setIfInBounds i true).getD j false = false):i ≠ j ∧ listed.getD j false = false:=by
  by_cases hij:i = j
  · subst hij
    simp [hs] at h
  · rw [getD_set_ne false hij] at h
    exact ⟨hij,h⟩
theorem getD_put {a:Act} {d t:Nat} {v:Value} (h:d ≠ t):(a.put (some d) v).tmps.getD t undef = a.tmps.getD t undef:=by
  simp [Act.put,Array.getElem?_setIfInBounds_ne h]
theorem getD_put_same {a:Act} {d:Nat} {v:Value} (h:d < a.tmps.size):(a.put (some d) v).tmps.getD d undef = v:=by
  simp [Act.put,h]
theorem DInv.detStep (h:DInv P C m ops A n σ0 K pre r σ η ι Z listed a w) {i d:Nat} {v:Value} {o:Oper} (hp:(i,false) ∈ pre) (hls:i < ops.size) (ho:ops[i]? = some o) (hd:o.dst = some d) (hdm:Nat.blt d m.sz = true) (hv:look σ d = some v)
    (hall:∀ e ∈ o.after,Region.binds .any e = true → listed.getD e.on false = true)  :
    DInv P C m ops A n σ0 K pre r σ η ι Z (listed.setIfInBounds i true) (a.put (some d) v) w:=by
  have hin:i < n:=h.small (i,false) hp
  have hdm':d < a.tmps.size:=by rw [h.size]; simpa [Nat.blt_eq] using hdm
  refine ⟨h.hx,h.zst,h.go,h.cover,h.small,h.smallr,h.st,h.defers,by simp [Act.put,h.size],by simp [h.lsize],closed_set h.closed ho hall,fun j hj=>?_,fun p hpp hp2=>getD_set_true (h.ext p hpp hp2),fun j hj=>?_,h.nopre,h.apart,fun p hpp hp2=>?_,fun p hpp hl dp u hdp hu=>?_,fun t ht u hu=>?_,h.bases⟩
  · rcases listed_set hj with rfl | hj
    · exact hin
    · exact h.head j hj
  · have hne:i ≠ j:=h.nopre j hj (i,false) hp
    rw [getD_set_ne false hne]
    exact h.rest j hj
  · obtain ⟨op,dp,vp,σp,hop,hdp,hdpm,hlp,hselp,hgp,hlk⟩:=h.info p hpp hp2
    exact ⟨op,dp,vp,σp,hop,hdp,hdpm,hlp,hselp,hgp.imp (fun hl=>getD_set_true hl) id,hlk⟩
  · by_cases he:d = dp
    · subst he
      rw [getD_put_same hdm']
      exact Option.some.inj (hv.symm.trans hu)
    · rw [getD_put he]
      rcases listed_set hl with e | hl
      · rw [← e,dstB_of ho hd] at hdp
        exact absurd (Option.some.inj hdp) he
      · exact h.slot p hpp hl dp u hdp hu
  · have hls':i < listed.size:=by rw [h.lsize]; exact hls
    have hne:d ≠ t:=fun e=>(listed_old hls' (ht i hin (e ▸ dstB_of ho hd))).1 rfl
    rw [getD_put hne]
    exact h.base t (fun k hkn hkt=>(listed_old hls' (ht k hkn hkt)).2) u hu
theorem DInv.extStep (hA:okA ops A = true) {y:Nat} {v:Value} {o:Oper} {θ:List Ent} {κ:List Fact} {Z':World → Prop} {w':World} {r0:Plan} (h:DInv P C m ops A n σ0 K pre r0 σ η ι Z listed a w) (hstep:stepB ops A n pre y true = true) (hgo:dxGo ops A n ((y,true) :: pre) true r = true) (hcov:∀ z ∈ r0.rem,z = y ∨ z ∈ r.rem) (hsub:∀ z ∈ r.rem,z ∈ r0.rem) (hyr:y ∉ r.rem) (hya:y ∈ r0.acts) (hy0:y ∈ r0.rem) (ho:ops[y]? = some o) (hdm:∀ d,o.dst = some d → Nat.blt d m.sz = true)
    (hall:∀ e ∈ o.after,Region.binds .any e = true → listed.getD e.on false = true) (hls:y < ops.size) (hz1:∀ w,St C θ κ w → Z' w) (hz2:∀ w,Z' w → Z w) (hst:St C θ κ w') (hx:HX P C m ops A K r (pushD o.dst v σ) θ κ Z') :
    DInv P C m ops A n σ0 K ((y,true) :: pre) r (pushD o.dst v σ) θ κ Z' (listed.setIfInBounds y true) (a.put o.dst v) w':=by
  obtain ⟨o',ho',_,hsel,hdist,hlooks⟩:=stepB_spec hstep
  obtain rfl:o' = o:=Option.some.inj (ho'.symm.trans ho)
  have hi:y < n:=h.smallr y hy0
  have hls':y < listed.size:=by rw [h.lsize]; exact hls
  have hlk:∀ p ∈ pre,∀ dp,dstB ops p.1 = some dp → look (pushD o'.dst v σ) dp = look σ dp:=fun p hp dp hdp=>by
    cases hd:o'.dst with
    | none=>rfl
    | some d=>exact look_other fun e=>hdist d hd p hp (e ▸ hdp)
  have hwk:∀ j t u,Whence ops A n pre σ0 σ j t u → Whence ops A n ((y,true) :: pre) σ0 (pushD o'.dst v σ) j t u:=fun j t u hw=>by
    rcases hw with ⟨k,h1,h2,h3,⟨q,hq,hqk⟩,h5⟩ | hw
    · exact .inl ⟨k,h1,h2,h3,⟨q,List.mem_cons_of_mem _ hq,hqk⟩,by rw [hlk q hq t (by rw [hqk]; exact h2)]; exact h5⟩
    · exact .inr hw
  have hpt:∀ t,(∀ d,o'.dst = some d → d ≠ t) → (a.put o'.dst v).tmps.getD t undef = a.tmps.getD t undef:=fun t ht=>by
    cases hd:o'.dst with
    | none=>rfl
    | some d=>exact getD_put (ht d hd)
  refine ⟨hx,hz1,hgo,fun j hj=>?_,fun p hp=>?_,fun j hj=>h.smallr j (hsub j hj),hst,by cases hd:o'.dst <;> simp [Act.put,h.defers],by cases hd:o'.dst <;> simp [Act.put,h.size],by simp [h.lsize],closed_set h.closed ho hall,fun j hj=>?_,fun p hp hp2=>?_,fun j hj=>?_,fun j hj p hp=>?_,fun p hp q hq dd h1 h2=>?_,fun p hp hp2=>?_,fun p hp hl dp u hdp hu=>?_,fun t ht u hu=>?_,fun t ht=>?_⟩
  · rcases h.cover j hj with ⟨p,hp,hpj⟩ | hj2
    · exact .inl ⟨p,List.mem_cons_of_mem _ hp,hpj⟩
    · rcases hcov j hj2 with rfl | hj2
      · exact .inl ⟨(j,true),by simp,rfl⟩
      · exact .inr hj2
  · rcases List.mem_cons.1 hp with rfl | hp
    · exact hi
    · exact h.small p hp
  · rcases listed_set hj with rfl | hj
    · exact hi
    · exact h.head j hj
  · rcases List.mem_cons.1 hp with rfl | hp
    · simp [hls,h.lsize]
    · exact getD_set_true (h.ext p hp hp2)
  · have hne:y ≠ j:=fun e=>hyr (e ▸ hj)
    rw [getD_set_ne false hne]
    exact h.rest j (hsub j hj)
  · rcases List.mem_cons.1 hp with rfl | hp
    · intro e
      simp only at e
      exact hyr (e ▸ hj)
    · exact h.nopre j (hsub j hj) p hp
  · rcases List.mem_cons.1 hp with rfl | hp
    · rcases List.mem_cons.1 hq with rfl | hq
      · rfl
      · rw [dstB_dst ho] at h1
        exact absurd h2 (hdist dd h1 q hq)
    · rcases List.mem_cons.1 hq with rfl | hq
      · rw [dstB_dst ho] at h2
        exact absurd h1 (hdist dd h2 p hp)
      · exact h.apart p hp q hq dd h1 h2
  · rcases List.mem_cons.1 hp with rfl | hp
    · cases hp2
    · obtain ⟨op,dp,vp,σp,hop,hdp,hdpm,hlp,hselp,hgp,hlk2⟩:=h.info p hp hp2
      exact ⟨op,dp,vp,σp,hop,hdp,hdpm,by rw [hlk p hp dp (dstB_of hop hdp)]; exact hlp,hselp,(by
        rcases hgp with hl | hgp | ⟨hal,_⟩
        · exact .inl (getD_set_true hl)
        · exact .inr (.inl (hgp.mono hz2))
        · exact .inl (getD_set_true (anc_listed hA h.closed y o' ho hall p.1 (List.all_eq_true.1 hal y hya)))),fun t ht u hu=>hwk _ _ _ (hlk2 t ht u hu)⟩
  · rcases List.mem_cons.1 hp with rfl | hp
    · rw [dstB_dst ho] at hdp
      rw [hdp] at hu ⊢
      have hdm':dp < a.tmps.size:=by rw [h.size]; simpa [Nat.blt_eq] using hdm dp hdp
      rw [getD_put_same hdm']
      simp only [pushD] at hu
      rw [look_same] at hu
      exact Option.some.inj hu
    · have hne:∀ d,o'.dst = some d → d ≠ dp:=fun d hd e=>hdist d hd p hp (e ▸ hdp)
      rw [hpt dp hne]
      rw [hlk p hp dp hdp] at hu
      rcases listed_set hl with e | hl
      · rw [← e,dstB_dst ho] at hdp
        exact absurd rfl (hne dp hdp)
      · exact h.slot p hp hl dp u hdp hu
  · rw [hpt t fun d hd e=>(listed_old hls' (ht y hi (e ▸ dstB_of ho hd))).1 rfl]
    exact h.base t (fun k hkn hkt=>(listed_old hls' (ht k hkn hkt)).2) u hu
  · have h2:=h.bases t fun p hp=>ht p (List.mem_cons_of_mem _ hp)
    rw [← h2]
    cases hd:o'.dst with
    | none=>rfl
    | some d=>exact look_other fun e=>ht (y,true) (by simp) (e ▸ dstB_of ho hd)
def unl (ops:Array Oper) (listed:Array Bool):Nat:=((List.range ops.size).filter fun i=>!listed.getD i false).length
theorem filter_flip {i:Nat} (p:Nat → Bool) (hp:p i = true):∀ l:List Nat,l.Nodup → i ∈ l → (l.filter fun j=>p j && !(j == i)).length + 1 = (l.filter p).length
  | [],_,h=>by cases h
  | x :: l,hn,h=>by
    rw [List.nodup_cons] at hn
    by_cases hx:x = i
    · subst hx
      have e:(l.filter fun j=>p j && !(j == x)) = l.filter p:=by
        apply List.filter_congr
        intro j hj
        have:j ≠ x:=fun e=>hn.1 (e ▸ hj)
        simp [this]
      simp [hp,e]
    · have hi:i ∈ l:=by
        rcases List.mem_cons.1 h with h | h
        · exact absurd h.symm hx
        · exact h
      have ih:=filter_flip p hp l hn.2 hi
      simp only [List.filter_cons]
      have hb:(x == i) = false:=by simpa using hx
      cases hpx:p x <;> simp [hb] <;> omega
theorem unl_set {i:Nat} (hi:i < ops.size) (hs:listed.size = ops.size) (hl:listed.getD i false = false):unl ops (listed.setIfInBounds i true) + 1 = unl ops listed:=by
  unfold unl
  rw [← filter_flip (fun j=>!listed.getD j false) (by simp [hl]) (List.range ops.size) List.nodup_range (List.mem_range.2 hi)]
  congr 2
  apply List.filter_congr
  intro j _
  by_cases hij:i = j
  · subst hij
    simp [hi,hs]
  · have hb:(j == i) = false:=by simpa using fun e=>hij e.symm
    rw [getD_set_ne false hij,hb]
    simp
theorem unl_pos {i:Nat} (hi:i < ops.size) (hl:listed.getD i false = false):0 < unl ops listed:=by
  unfold unl
  apply List.length_pos_of_mem (a:=i)
  rw [List.mem_filter]
  exact ⟨List.mem_range.2 hi,by simp [hl]⟩
theorem some_ready (hA:okA ops A = true) (hs:listed.size = ops.size) {i:Nat} (hi:i < ops.size) (hl:listed.getD i false = false):Region.ready .any ops listed ≠ []:=by
  induction i using Nat.strongRecOn with
  | _ i ih =>
    obtain ⟨o,ho⟩:∃ o,ops[i]? = some o:=⟨ops[i],by simp [hi]⟩
    by_cases hall:∀ e ∈ o.after,Region.binds .any e = true → listed.getD e.on false = true
    · have:i ∈ Region.ready .any ops listed:=mem_ready.2 ⟨getD_in (by omega) hl,o,ho,hall⟩
      intro e
      rw [e] at this
      cases this
    · have:∃ e ∈ o.after,Region.binds .any e = true ∧ listed.getD e.on false = false:=by
        apply Classical.byContradiction
        intro hno
        apply hall
        intro e he hb
        cases hv:listed.getD e.on false with
        | true=>rfl
        | false=>exact absurd ⟨e,he,hb,hv⟩ hno
      obtain ⟨e,he,hb,hv⟩:=this
      have hlt:=(okA_spec hA ho).1 e he hb
      exact ih e.on hlt (by omega) hv
variable {Q:Exit → Act → World → Prop}
theorem qaog {F:Fence} {md:Region.Mode} {Q':Exit → Act → World → Prop}:∀ (l:List Oper) (k:Nat) (listed:Array Bool) (a:Act) (w:World),(∀ j,l[j]? = ops[k + j]?) →
    Region.seqB md ops l.length k listed = true → wpListIn F 0 P ops Q' l a w → wpAnyIn F 0 P md ops Q' l.length listed a w
  | [],_,_,_,_,_,hB,h=>⟨by simpa [Region.seqB] using hB,h⟩
  | o :: l,k,listed,a,w,hl,hB,h=>by
    have h0:ops[k]? = some o:=by simpa using (hl 0).symm
    simp only [List.length_cons,Region.seqB,Bool.and_eq_true,decide_eq_true_eq] at hB
    refine ⟨fun h1=>(by rw [hB.1] at h1; cases h1),fun i hi=>?_⟩
    rw [hB.1] at hi
    have hik:i = k:=by simpa using hi
    subst hik
    have hw:wpOpIn F 0 P ops Q' i (wpListIn F 0 P ops Q' l) a w:=by unfold wpOpIn; simp only [h0]; exact h
    exact wpOpIn_mono (fun a' w' h'=>qaog l (i + 1) _ a' w' (fun j=>by have:=hl (j + 1); simpa [Nat.add_assoc,Nat.add_comm 1 j] using this) hB.2 h') hw
theorem wpOp_of {ro:Option Nat} {i:Nat} {o:Oper} {Kn:Act → World → Prop} (ho:ops[i]? = some o) (hg:Region.wanted o (yielded ops a.tmps) = true) (h:o.wpIn (FW ro) 0 P a w Kn Q):wpOpIn (FW ro) 0 P ops Q i Kn a w:=by
  unfold wpOpIn
  simp only [ho,hg,if_true]
  exact h
theorem headL_eq (hs:listed.size = ops.size) (h1:∀ i,listed.getD i false = true → i < n) (h2:∀ i,i < n → listed.getD i false = true):listed = headL ops n:=by
  apply Array.ext
  · simp [headL,hs]
  · intro i hi hi'
    simp only [headL,Array.getElem_map,Array.getElem_range]
    have e:listed.getD i false = listed[i]:=by simp [hi]
    cases hv:listed[i] with
    | true =>
      have:=h1 i (by rw [e,hv])
      simp [Nat.blt_eq,this]
    | false =>
      by_cases hin:i < n
      · have:=h2 i hin
        rw [e,hv] at this
        cases this
      · have:Nat.blt i n = false:=by
          cases hb:Nat.blt i n with
          | false=>rfl
          | true=>exact absurd (by simpa [Nat.blt_eq] using hb) hin
        rw [this]
theorem filter_ge (n:Nat):∀ s,n ≤ s → ((List.range s).filter fun i=>!Nat.blt i n).length = s - n
  | 0,h=>by simp
  | s + 1,h=>by
    rw [List.range_succ,List.filter_append,List.length_append]
    by_cases hn:n ≤ s
    · have:=filter_ge n s hn
      have hb:Nat.blt s n = false:=by
        cases hb:Nat.blt s n with
        | false=>rfl
        | true => have : s < n := by simpa [Nat.blt_eq] using hb
                  omega
      simp [hb,this]
      omega
    · have e:n = s + 1:=by omega
      subst e
      have h0:(List.range s).filter (fun i=>!Nat.blt i (s + 1)) = []:=by
        rw [List.filter_eq_nil_iff]
        intro i hi
        have:=List.mem_range.1 hi
        have hb:Nat.blt i (s + 1) = true:=by simp [Nat.blt_eq]; omega
        simp [hb]
      have hb:Nat.blt s (s + 1) = true:=by simp [Nat.blt_eq]
      simp [h0,hb]
theorem heads_same {R:List Nat} {z:Nat}:∀ {r:Plan},r.same R = true → z ∈ r.heads → z ∈ R
  | .done,_,h=>by cases h
  | .det _ _,_,h=>by cases h
  | .dead,_,h=>by cases h
  | .alt y p q,hs,hz=>by
    simp only [Plan.same,Bool.and_eq_true] at hs
    simp only [Plan.heads,List.mem_cons] at hz
    rcases hz with rfl | hz
    · simpa using hs.1
    · exact heads_same hs.2.2 hz
theorem heads_acts {z:Nat}:∀ {r:Plan},z ∈ r.heads → z ∈ r.acts
  | .done,h=>by cases h
  | .det _ _,h=>by cases h
  | .dead,h=>by cases h
  | .alt y p q,hz=>by
    simp only [Plan.heads,List.mem_cons] at hz
    simp only [Plan.acts,List.mem_cons,List.mem_append]
    rcases hz with rfl | hz
    · exact .inl rfl
    · exact .inr (.inr (heads_acts hz))
theorem DInv.any (hA:okA ops A = true) (htail:∀ j,n ≤ j → j < ops.size → ∀ i,i < n → ancB A j i = true) (hn:n ≤ ops.size) (hseq:Region.seqB .any ops (ops.size - n) n (headL ops n) = true)
    (hK:∀ σ η ι,K σ η ι → ∀ a w,Fr m σ a → St C η ι w → wpListIn (FW m.ro) 0 P ops Q (ops.toList.drop n) a w) :
    ∀ (fuel:Nat) (pre:List (Nat × Bool)) (r:Plan) (σ:List (Nat × Value)) (η:List Ent) (ι:List Fact) (Z:World → Prop) (listed:Array Bool) (a:Act) (w:World),fuel = unl ops listed → DInv P C m ops A n σ0 K pre r σ η ι Z listed a w → wpAnyIn (FW m.ro) 0 P .any ops Q fuel listed a w:=by
  intro fuel
  induction fuel with
  | zero =>
    intro pre r σ η ι Z listed a w hf h
    obtain ⟨pre,r,σ,h,hr⟩:=DInv.unrolls r pre σ h
    by_cases hall:∀ i,i < n → listed.getD i false = true
    · have hL:=headL_eq h.lsize h.head hall
      have hlen:(ops.toList.drop n).length = 0:=by
        have:unl ops listed = ops.size - n:=by
          rw [hL]
          unfold unl
          rw [← filter_ge n ops.size hn]
          congr 1
          apply List.filter_congr
          intro i hi
          simp [headL,List.mem_range.1 hi]
        simp
        omega
      obtain rfl:r = .done:=by
        rcases hr with hr | ⟨y,p,q,hr⟩
        · exact hr
        · subst hr
          have h1:=h.rest y (by simp [Plan.rem])
          have h2:=hall y (h.smallr y (by simp [Plan.rem]))
          rw [h1] at h2
          cases h2
      have hfr:Fr m σ a:=⟨h.defers,h.size,fun t u hu=>by
        by_cases hk:∃ k,k < n ∧ dstB ops k = some t
        · obtain ⟨k,hkn,hkt⟩:=hk
          rcases h.cover k hkn with ⟨p,hp,hpk⟩ | hp
          · exact h.slot p hp (by rw [hpk]; exact hall k hkn) t u (by rw [hpk]; exact hkt) hu
          · cases hp
        · have hb:=h.bases t fun p hp hpt=>hk ⟨p.1,h.small p hp,hpt⟩
          exact h.base t (fun k hkn hkt=>absurd ⟨k,hkn,hkt⟩ hk) u (by rw [← hb]; exact hu)⟩
      have hw:=hK σ η ι h.hx a w hfr h.st
      have:=qaog (md:=.any) (ops.toList.drop n) n listed a w (fun j=>by simp) (by rw [hL]; simpa using hseq) hw
      rw [hlen] at this
      exact this
    · exfalso
      have:∃ i,i < n ∧ listed.getD i false = false:=by
        apply Classical.byContradiction
        intro hno
        apply hall
        intro i hi
        cases hv:listed.getD i false with
        | true=>rfl
        | false=>exact absurd ⟨i,hi,hv⟩ hno
      obtain ⟨i,hi,hl⟩:=this
      have:=unl_pos (ops:=ops) (i:=i) (by omega) hl
      omega
  | succ fuel ih =>
    intro pre r σ η ι Z listed a w hf h
    obtain ⟨pre,r,σ,h,hr⟩:=DInv.unrolls r pre σ h
    by_cases hall:∀ i,i < n → listed.getD i false = true
    · have hL:=headL_eq h.lsize h.head hall
      have hlen:(ops.toList.drop n).length = fuel + 1:=by
        have:unl ops listed = ops.size - n:=by
          rw [hL]
          unfold unl
          rw [← filter_ge n ops.size hn]
          congr 1
          apply List.filter_congr
          intro i hi
          simp [headL,List.mem_range.1 hi]
        simp
        omega
      obtain rfl:r = .done:=by
        rcases hr with hr | ⟨y,p,q,hr⟩
        · exact hr
        · subst hr
          have h1:=h.rest y (by simp [Plan.rem])
          have h2:=hall y (h.smallr y (by simp [Plan.rem]))
          rw [h1] at h2
          cases h2
      have hfr:Fr m σ a:=⟨h.defers,h.size,fun t u hu=>by
        by_cases hk:∃ k,k < n ∧ dstB ops k = some t
        · obtain ⟨k,hkn,hkt⟩:=hk
          rcases h.cover k hkn with ⟨p,hp,hpk⟩ | hp
          · exact h.slot p hp (by rw [hpk]; exact hall k hkn) t u (by rw [hpk]; exact hkt) hu
          · cases hp
        · have hb:=h.bases t fun p hp hpt=>hk ⟨p.1,h.small p hp,hpt⟩
          exact h.base t (fun k hkn hkt=>absurd ⟨k,hkn,hkt⟩ hk) u (by rw [← hb]; exact hu)⟩
      have hw:=hK σ η ι h.hx a w hfr h.st
      have:=qaog (md:=.any) (ops.toList.drop n) n listed a w (fun j=>by simp) (by rw [hL]; simpa using hseq) hw
      rw [hlen] at this
      exact this
    · have hex:∃ i,i < n ∧ listed.getD i false = false:=by
        apply Classical.byContradiction
        intro hno
        apply hall
        intro i hi
        cases hv:listed.getD i false with
        | true=>rfl
        | false=>exact absurd ⟨i,hi,hv⟩ hno
      obtain ⟨i0,hi0,hl0⟩:=hex
      refine ⟨fun h0=>absurd h0 (some_ready hA h.lsize (i:=i0) (by omega) hl0),fun i hi=>?_⟩
      obtain ⟨hun,o,ho,hed⟩:=mem_ready.1 hi
      have hisz:i < ops.size:=(Array.getElem?_eq_some_iff.1 ho).1
      have hunl:=getD_both hun
      have hin:i < n:=by
        rcases Nat.lt_or_ge i n with h1 | h1
        · exact h1
        · have:=anc_listed hA h.closed i o ho hed i0 (htail i h1 hisz i0 hi0)
          rw [hl0] at this
          cases this
      have hfuel:fuel = unl ops (listed.setIfInBounds i true):=by
        have:=unl_set hisz h.lsize hunl
        omega
      rcases h.cover i hin with ⟨⟨pi,px⟩,hp,hpi⟩ | hp
      · simp only at hpi
        subst hpi
        cases px with
        | true =>
          have:=h.ext _ hp rfl
          simp only at this
          rw [hunl] at this
          cases this
        | false =>
          obtain ⟨o',d,v,σp,ho',hd,hdm,hlv,hsel,hg,hlk⟩:=h.info _ hp rfl
          obtain rfl:o' = o:=Option.some.inj (ho'.symm.trans ho)
          have hg:GDet P ops o' σp (St C η ι) v:=by
            rcases hg with hl | hg | ⟨_,hg⟩
            · simp only at hl
              rw [hunl] at hl
              cases hl
            · exact hg.mono h.zst
            · exact hg
          have hag:∀ t ∈ o'.looksAt ops,∀ u,look σp t = some u → a.tmps.getD t undef = u:=fun t ht u hu=>h.reads hA ho hunl hed (hlk t ht u hu)
          have hnext:=ih pre r σ η ι Z _ _ w hfuel (h.detStep hp hisz ho hd hdm hlv hed)
          have hops:∀ x ∈ o'.op.operands,∀ u,ev σp x = some u → a.eval x = u:=fun x hx u hu=>by
            cases x with
            | tmp t=>exact hag t (looks_operand hx) u hu
            | _=>simpa [ev,Act.eval] using hu
          rcases hg with ⟨hgn,hgr⟩ | ⟨j,b,g,hgj,hdj,hgg⟩
          · refine wpOp_of ho (by simp [Region.wanted,hgn]) ?_
            refine ⟨fun _ _=>trivial,?_⟩
            rw [semAt_value (hgr a.eval w hops h.st),Oper.uponIn_value,hd]
            exact hnext
          · have hyv:∀ x,look σp g = some (.bool x) → yielded ops a.tmps j = some x:=fun x hxx=>by
              have:=tmp_bool (hag g (looks_guard hgj hdj) _ hxx)
              unfold yielded
              unfold dstB at hdj
              simp [hdj,this]
            rcases hgg with ⟨hgb,hgr⟩ | ⟨u,hgb,hub,rfl⟩
            · refine wpOp_of ho (by simp [Region.wanted,hgj,hyv _ hgb]) ?_
              refine ⟨fun _ _=>trivial,?_⟩
              rw [semAt_value (hgr a.eval w hops h.st),Oper.uponIn_value,hd]
              exact hnext
            · unfold wpOpIn
              have hw:Region.wanted o' (yielded ops a.tmps) = false:=by
                have hgv:=hag g (looks_guard hgj hdj) _ hgb
                have hyn:yielded ops a.tmps j ≠ some b:=fun hy=>by
                  unfold yielded at hy
                  unfold dstB at hdj
                  simp only [hdj,Option.bind_some] at hy
                  split at hy
                  · rename_i x hx
                    simp only [Option.some.injEq] at hy
                    subst hy
                    apply hub
                    rw [← hgv]
                    simp [hx]
                  · cases hy
                simp only [Region.wanted,hgj]
                simpa using hyn
              simp only [ho,hw,Bool.false_eq_true,if_false,hd]
              exact ⟨fun _ _=>trivial,hnext⟩
      · rcases hr with hr | ⟨y,s,q,hr⟩
        · subst hr
          cases hp
        · have hgo:=h.go
          rw [hr] at hgo
          simp only [dxGo,Bool.and_eq_true,Bool.not_true,Bool.false_or] at hgo
          obtain ⟨⟨⟨⟨hwait,hsame⟩,_⟩,_⟩,_⟩:=hgo
          rw [← hr] at hwait hsame
          have hhead:i ∈ r.heads:=by
            have h1:=List.all_eq_true.1 hwait i hp
            simp only [Bool.or_eq_true,List.contains_eq_mem,decide_eq_true_eq] at h1
            rcases h1 with h1 | h1
            · exact h1
            · exfalso
              obtain ⟨z,hz,hzi⟩:=List.any_eq_true.1 h1
              have h2:=anc_listed hA h.closed i o ho hed z hzi
              have h3:z ∈ r.rem:=heads_same hsame hz
              rw [h.rest z h3] at h2
              cases h2
          obtain ⟨p',hstep,hgo',hcov,hsub,hyr,hxa⟩:=alt_find hhead h.go hsame h.hx
          obtain ⟨oy,hoy,_,_,_,hlooks⟩:=stepB_spec hstep
          obtain rfl:oy = o:=Option.some.inj (hoy.symm.trans ho)
          have hag:∀ t ∈ oy.looksAt ops,∀ u,look σ t = some u → a.tmps.getD t undef = u:=fun t ht u hu=>h.reads hA ho hunl hed (h.whence hlooks ht hu)
          obtain ⟨⟨o2,ho2,hdm2,hwant,hact⟩,_⟩:=hxa
          obtain rfl:o2 = oy:=Option.some.inj (ho2.symm.trans ho)
          have hops:∀ x ∈ o2.op.operands,∀ u,ev σ x = some u → a.eval x = u:=fun x hx u hu=>by
            cases x with
            | tmp t=>exact hag t (looks_operand hx) u hu
            | _=>simpa [ev,Act.eval] using hu
          have hsel:∀ cs b,o2.op ≠ .select cs b:=by
            obtain ⟨o3,ho3,_,hsel,_⟩:=stepB_spec hstep
            obtain rfl:o3 = o2:=Option.some.inj (ho3.symm.trans ho)
            exact hsel
          refine wpOp_of ho (by
            rcases hwant with hgn | ⟨j,b,g,hgj,hdj,hgb⟩
            · simp [Region.wanted,hgn]
            · have:=tmp_bool (hag g (looks_guard hgj hdj) _ hgb)
              have hyv:yielded ops a.tmps j = some b:=by
                unfold yielded
                unfold dstB at hdj
                simp [hdj,this]
              simp [Region.wanted,hgj,hyv]) ?_
          refine ⟨fun _ _=>trivial,?_⟩
          have e:execOp a.eval o2 = execOp (fun x=>(ev σ x).getD (a.eval x)) o2:=execOp_congr o2 hsel fun x hx=>by
            cases hv:ev σ x with
            | none=>simp
            | some u=>simp [hops x hx u hv]
          refine upon_of_resOk (semAt_resOk (by rw [e]; exact hact _ w (fun x u hx=>by simp [hx]) h.st)) ?_
          rintro v w' ⟨θ,κ,⟨Z',hz1,hz2,hx⟩,hs⟩
          exact ih _ _ _ _ _ _ _ _ _ hfuel (h.extStep hA hstep hgo' hcov hsub hyr (heads_acts hhead) hp ho hdm2 hed hisz hz1 hz2 hs hx)
theorem dx_regionZ {Z:World → Prop} {id:Nat} {l:List Oper} {ord:Plan} (n:Nat) (A:List (List Nat)) (hm:P.follows .mixedOrders = true) (hB:dxB l.toArray A ord n = true) {σ:List (Nat × Value)} {η:List Ent} {ι:List Fact} (hz:∀ w,St C η ι w → Z w)
    (h:HX P C m l.toArray A (fun σ η ι=>WL P C m l.toArray Q (l.drop n) σ η ι) ord σ η ι Z):WC P C m (.region id l.toArray true) Q σ η ι:=by
  intro a w hf hst
  simp only [dxB,Bool.and_eq_true] at hB
  obtain ⟨⟨⟨⟨⟨⟨hA,hn⟩,hc⟩,hsm⟩,hgo⟩,htl⟩,hseq⟩:=hB
  have hn':n ≤ l.toArray.size:=by simpa using hn
  refine wpIn_region_any hm ?_
  refine DInv.any (σ0:=σ) (K:=fun σ η ι=>WL P C m l.toArray Q (l.drop n) σ η ι) hA (fun j hj hjs i hi=>?_) hn' hseq (fun σ η ι hk a w hf hs=>hk a w hf hs) _ [] ord σ η ι Z _ a _ ?_ ?_
  · have h1:=List.all_eq_true.1 htl j (List.mem_range.2 hjs)
    simp only [Bool.or_eq_true,Nat.blt_eq] at h1
    rcases h1 with h1 | h1
    · omega
    · exact List.all_eq_true.1 h1 i (List.mem_range.2 hi)
  · unfold unl
    rw [List.filter_eq_self.2 (fun i _=>by rw [getD_replicate_false]; rfl)]
    simp
  · refine ⟨h,hz,hgo,fun i hi=>?_,fun p hp=>(by cases hp),fun i hi=>?_,hst.drew,hf.defers,hf.size,by simp,fun j oj _ hl=>(by rw [getD_replicate_false] at hl; cases hl),fun i hl=>(by rw [getD_replicate_false] at hl; cases hl),fun p hp=>(by cases hp),fun p _=>getD_replicate_false _ _,fun _ _ p hp=>(by cases hp),fun p hp=>(by cases hp),fun p hp=>(by cases hp),fun p hp=>(by cases hp),fun t _ u hu=>hf.at_ t u hu,fun t _=>rfl⟩
    · have:=List.all_eq_true.1 hc i (List.mem_range.2 hi)
      exact .inr (by simpa using this)
    · have:=List.all_eq_true.1 hsm i hi
      simpa [Nat.blt_eq] using this
theorem dx_region {id:Nat} {l:List Oper} {ord:Plan} (n:Nat) (A:List (List Nat)) (hm:P.follows .mixedOrders = true) (hB:dxB l.toArray A ord n = true) {σ:List (Nat × Value)} {η:List Ent} {ι:List Fact}
    (h:HX P C m l.toArray A (fun σ η ι=>WL P C m l.toArray Q (l.drop n) σ η ι) ord σ η ι (St C η ι)):WC P C m (.region id l.toArray true) Q σ η ι:=dx_regionZ n A hm hB (fun _ h=>h) h
theorem hx_det {i d:Nat} {o:Oper} {r:Plan} {σ:List (Nat × Value)} {η η₀:List Ent} {ι ι₀:List Fact} {v:Value} (ho:ops[i]? = some o) (hd:o.dst = some d) (hg:o.guard = none) (hs:∀ cs b,o.op ≠ .select cs b) (h:Det P C o σ η₀ ι₀ v) (hn:Nat.blt d m.sz = true)
    (k:HX P C m ops A K r ((d,v) :: σ) η ι (St C η₀ ι₀)):HX P C m ops A K (.det i r) σ η ι (St C η₀ ι₀):=⟨o,d,v,ho,hd,hn,.inl (.inl ⟨hg,.of hs h⟩),k⟩
theorem hx_on {i d j g:Nat} {b x:Bool} {o:Oper} {r:Plan} {σ:List (Nat × Value)} {η η₀:List Ent} {ι ι₀:List Fact} {v:Value} (ho:ops[i]? = some o) (hd:o.dst = some d) (hg:o.guard = some (j,b)) (hj:dstB ops j = some g) (hv:look σ g = some (.bool x)) (hx:x = b) (hs:∀ cs b,o.op ≠ .select cs b) (h:Det P C o σ η₀ ι₀ v) (hn:Nat.blt d m.sz = true)
    (k:HX P C m ops A K r ((d,v) :: σ) η ι (St C η₀ ι₀)):HX P C m ops A K (.det i r) σ η ι (St C η₀ ι₀):=⟨o,d,v,ho,hd,hn,.inl (.inr ⟨j,b,g,hg,hj,.inl ⟨hx ▸ hv,.of hs h⟩⟩),k⟩
theorem hx_off {i d j g:Nat} {b x:Bool} {o:Oper} {r:Plan} {σ:List (Nat × Value)} {η η₀:List Ent} {ι ι₀:List Fact} (ho:ops[i]? = some o) (hd:o.dst = some d) (hg:o.guard = some (j,b)) (hj:dstB ops j = some g) (hv:look σ g = some (.bool x)) (hx:x = !b) (hn:Nat.blt d m.sz = true)
    (k:HX P C m ops A K r ((d,undef) :: σ) η ι (St C η₀ ι₀)):HX P C m ops A K (.det i r) σ η ι (St C η₀ ι₀):=⟨o,d,undef,ho,hd,hn,.inl (.inr ⟨j,b,g,hg,hj,.inr ⟨_,hv,by subst hx; cases b <;> simp,rfl⟩⟩),k⟩
theorem hx_none {i d j g:Nat} {b:Bool} {o:Oper} {r:Plan} {σ:List (Nat × Value)} {η η₀:List Ent} {ι ι₀:List Fact} (ho:ops[i]? = some o) (hd:o.dst = some d) (hg:o.guard = some (j,b)) (hj:dstB ops j = some g) (hv:look σ g = some undef) (hn:Nat.blt d m.sz = true)
    (k:HX P C m ops A K r ((d,undef) :: σ) η ι (St C η₀ ι₀)):HX P C m ops A K (.det i r) σ η ι (St C η₀ ι₀):=⟨o,d,undef,ho,hd,hn,.inl (.inr ⟨j,b,g,hg,hj,.inr ⟨_,hv,by simp [undef],rfl⟩⟩),k⟩
theorem ActOk.mono {o:Oper} {σ:List (Nat × Value)} {η:List Ent} {ι:List Fact} {R R':Value → List Ent → List Fact → Prop} (h:ActOk P C o σ η ι R) (hr:∀ v θ κ,R v θ κ → R' v θ κ):ActOk P C o σ η ι R':=by
  intro ρ w hρ hst
  have h1:=h ρ w hρ hst
  generalize (execOp ρ o).run P w = res at h1
  cases res with
  | ok x w' =>
    cases x <;> simp only [resOk] at h1 ⊢
    · obtain ⟨θ,κ,h2,h3⟩:=h1; exact ⟨θ,κ,hr _ _ _ h2,h3⟩
    · obtain ⟨θ,κ,h2,h3⟩:=h1; exact ⟨θ,κ,hr _ _ _ h2,h3⟩
    · exact h1.mono fun e w' ⟨v,he,θ,κ,h2,h3⟩=>⟨v,he,θ,κ,hr _ _ _ h2,h3⟩
    · exact h1.mono fun e w' ⟨v,he,θ,κ,h2,h3⟩=>⟨v,he,θ,κ,hr _ _ _ h2,h3⟩
  | halt x w'=>exact h1.elim
theorem hx_actG {i d j g:Nat} {b x:Bool} {o:Oper} {r:Plan} {σ:List (Nat × Value)} {η:List Ent} {ι:List Fact} {R:Value → List Ent → List Fact → Prop} (ho:ops[i]? = some o) (hd:o.dst = some d) (hg:o.guard = some (j,b)) (hj:dstB ops j = some g) (hv:look σ g = some (.bool x)) (hx:x = b) (h:ActOk P C o σ η ι R) (hn:Nat.blt d m.sz = true)
    (hm:∀ v θ κ,R v θ κ → ∃ ηn ιn,θ = ηn ++ η ∧ κ = ιn ++ ι) (k:∀ v θ κ,R v θ κ → HX P C m ops A K r ((d,v) :: σ) θ κ (St C θ κ)):HX P C m ops A K (.alt i r .dead) σ η ι (St C η ι) :=
  ⟨⟨o,ho,fun d' hd'=>by rw [hd] at hd'; cases hd'; exact hn,.inr ⟨j,b,g,hg,hj,hx ▸ hv⟩,by rw [hd]; exact h.mono fun v θ κ hr=>⟨St C θ κ,fun _ h=>h,fun w hs=>by obtain ⟨ηn,ιn,rfl,rfl⟩:=hm v θ κ hr; exact hs.less,k v θ κ hr⟩⟩,trivial⟩
theorem hx_act {i d:Nat} {o:Oper} {r:Plan} {σ:List (Nat × Value)} {η:List Ent} {ι:List Fact} {R:Value → List Ent → List Fact → Prop} (ho:ops[i]? = some o) (hd:o.dst = some d) (hg:o.guard = none) (h:ActOk P C o σ η ι R) (hn:Nat.blt d m.sz = true)
    (hm:∀ v θ κ,R v θ κ → ∃ ηn ιn,θ = ηn ++ η ∧ κ = ιn ++ ι) (k:∀ v θ κ,R v θ κ → HX P C m ops A K r ((d,v) :: σ) θ κ (St C θ κ)):HX P C m ops A K (.alt i r .dead) σ η ι (St C η ι) :=
  ⟨⟨o,ho,fun d' hd'=>by rw [hd] at hd'; cases hd'; exact hn,.inl hg,by rw [hd]; exact h.mono fun v θ κ hr=>⟨St C θ κ,fun _ h=>h,fun w hs=>by obtain ⟨ηn,ιn,rfl,rfl⟩:=hm v θ κ hr; exact hs.less,k v θ κ hr⟩⟩,trivial⟩
theorem hx_mut {i d:Nat} {o:Oper} {r:Plan} {σ:List (Nat × Value)} {η η₀:List Ent} {ι ι₀:List Fact} {R:Value → List Ent → List Fact → Prop} (ho:ops[i]? = some o) (hd:o.dst = some d) (hg:o.guard = none) (h:ActOk P C o σ η ι R) (hn:Nat.blt d m.sz = true)
    (hm:∀ v θ κ,R v θ κ → ∀ w,St C θ κ w → St C η₀ ι₀ w) (k:∀ v θ κ,R v θ κ → HX P C m ops A K r ((d,v) :: σ) θ κ (St C η₀ ι₀)):HX P C m ops A K (.alt i r .dead) σ η ι (St C η₀ ι₀) :=
  ⟨⟨o,ho,fun d' hd'=>by rw [hd] at hd'; cases hd'; exact hn,.inl hg,by rw [hd]; exact h.mono fun v θ κ hr=>⟨St C η₀ ι₀,hm v θ κ hr,fun _ h=>h,k v θ κ hr⟩⟩,trivial⟩
theorem hx_mut0 {i:Nat} {o:Oper} {r:Plan} {σ:List (Nat × Value)} {η η₀:List Ent} {ι ι₀:List Fact} {R:Value → List Ent → List Fact → Prop} (ho:ops[i]? = some o) (hd:o.dst = none) (hg:o.guard = none) (h:ActOk P C o σ η ι R)
    (hm:∀ v θ κ,R v θ κ → ∀ w,St C θ κ w → St C η₀ ι₀ w) (k:∀ v θ κ,R v θ κ → HX P C m ops A K r σ θ κ (St C η₀ ι₀)):HX P C m ops A K (.alt i r .dead) σ η ι (St C η₀ ι₀) :=
  ⟨⟨o,ho,fun d' hd'=>(by rw [hd] at hd'; cases hd'),.inl hg,by rw [hd]; exact h.mono fun v θ κ hr=>⟨St C η₀ ι₀,hm v θ κ hr,fun _ h=>h,k v θ κ hr⟩⟩,trivial⟩
theorem hx_end {l:List Oper} {n:Nat} {σ:List (Nat × Value)} {η:List Ent} {ι:List Fact} {Z:World → Prop} (h:WL P C m l.toArray Q (l.drop n) σ η ι):HX P C m l.toArray A (fun σ η ι=>WL P C m l.toArray Q (l.drop n) σ η ι) .done σ η ι Z:=h
theorem hx_or {i:Nat} {r q:Plan} {σ:List (Nat × Value)} {η:List Ent} {ι:List Fact} {Z:World → Prop} (h1:HX P C m ops A K (.alt i r .dead) σ η ι Z) (h2:HX P C m ops A K q σ η ι Z):HX P C m ops A K (.alt i r q) σ η ι Z:=⟨h1.1,h2⟩
end
end Go.Proofs.YtdenliplkmjmjaaGreat
