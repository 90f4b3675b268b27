import GoSem.Core.View
import Derived.Sort.AssemblyPlain
import Derived.Shelf.SlSortCmp.Insertion
import Derived.Lib.BitFns
namespace Go.Proofs.YtdenliplkmjmjaaGreat
abbrev w64 (n:Int):Int:=IntKind.i64.wrap n
abbrev u64 (n:Int):Int:=IntKind.u64.wrap n
def bAnd (k:IntKind) (x y:Int):Int:=k.wrap ((BitVec.ofInt k.bits x &&& BitVec.ofInt k.bits y).toNat:Int)
def bOr (k:IntKind) (x y:Int):Int:=k.wrap ((BitVec.ofInt k.bits x ||| BitVec.ofInt k.bits y).toNat:Int)
def bShl (k:IntKind) (x y:Int):Int:=k.wrap (x * 2 ^ (min y.toNat k.bits))
def bShr (k:IntKind) (x y:Int):Int:=x.fdiv (2 ^ (min y.toNat k.bits))
def minI (x y:Int):Int:=if y < x then y else x
def chk {α:Type} (b:Bool) (k:Option α):Option α:=if b = true then k else none
def ix {α:Type} [Inhabited α] (xs:List α) (i:Int):α:=xs.getD i.toNat default
def inb {α:Type} (xs:List α) (i:Int):Bool:=decide (0 ≤ i) && decide (i < (xs.length:Int))
def upd {α:Type} (xs:List α) (i:Int) (x:α):List α:=xs.set i.toNat x
def room (n:Nat):Bool:=decide (n ≤ 1000000000)
def sel {α:Type} (xs:List α) (lo hi:Int):List α:=(xs.take hi.toNat).drop lo.toNat
theorem chk_some {α:Type} {b:Bool} {k:Option α} {r:α} (h:chk b k = some r):b = true ∧ k = some r:=by
  unfold chk at h
  split at h
  · exact ⟨‹_›,h⟩
  · cases h
theorem chk_true {α:Type} {k:Option α}:chk true k = k:=rfl
theorem chk_of {α:Type} {b:Bool} {k:Option α} (h:b = true):chk b k = k:=by rw [h]; rfl
theorem bind_some {α β:Type} {x:Option α} {f:α → Option β} {r:β} (h:x.bind f = some r):∃ a,x = some a ∧ f a = some r:=Option.bind_eq_some_iff.1 h
theorem ifT {α:Type} {b:Bool} {x y:Option α} {r:α} (h:(if b = true then x else y) = some r) (hb:b = true):x = some r:=by rw [if_pos hb] at h; exact h
theorem ifF {α:Type} {b:Bool} {x y:Option α} {r:α} (h:(if b = true then x else y) = some r) (hb:b = false):y = some r:=by rw [if_neg (by rw [hb]; decide)] at h; exact h
def IterN {S O:Type} (step:S → Option (S ⊕ O)):Nat → S → O → Prop
  | 0,_,_=>False
  | k + 1,s,o=>∃ q,step s = some q ∧ match q with | .inl s'=>IterN step k s' o | .inr o'=>o' = o
theorem IterN.det {S O:Type} {step:S → Option (S ⊕ O)}:∀ {k l:Nat} {s:S} {o o':O},IterN step k s o → IterN step l s o' → o = o'
  | 0,_,_,_,_,h,_=>h.elim
  | _ + 1,0,_,_,_,_,h=>h.elim
  | k + 1,l + 1,s,o,o',⟨q,h1,h2⟩,⟨q',h3,h4⟩=>by
    rw [h1] at h3
    cases h3
    cases q with
    | inl s'=>exact IterN.det h2 h4
    | inr x=>exact h2.symm.trans h4
open Classical in
noncomputable def loopV {S O:Type} (step:S → Option (S ⊕ O)) (s:S):Option O:=if h:∃ o,∃ k,IterN step k s o then some h.choose else none
theorem loopV_some {S O:Type} {step:S → Option (S ⊕ O)} {s:S} {o:O}:loopV step s = some o ↔ ∃ k,IterN step k s o:=by
  unfold loopV
  split
  · rename_i h
    obtain ⟨k,hk⟩:=h.choose_spec
    constructor
    · intro e
      simp only [Option.some.injEq] at e
      exact ⟨k,e ▸ hk⟩
    · rintro ⟨l,hl⟩
      rw [IterN.det hk hl]
  · rename_i h
    constructor
    · intro e; cases e
    · intro e; exact absurd ⟨o,e⟩ h
theorem loopV_next {S O:Type} {step:S → Option (S ⊕ O)} {s s':S} (h:step s = some (.inl s')):loopV step s = loopV step s':=by
  apply Option.ext
  intro o
  rw [loopV_some,loopV_some]
  constructor
  · rintro ⟨k,hk⟩
    cases k with
    | zero=>exact hk.elim
    | succ k =>
      obtain ⟨q,h1,h2⟩:=hk
      rw [h] at h1
      cases h1
      exact ⟨k,h2⟩
  · rintro ⟨k,hk⟩
    exact ⟨k + 1,_,h,hk⟩
theorem loopV_stop {S O:Type} {step:S → Option (S ⊕ O)} {s:S} {o:O} (h:step s = some (.inr o)):loopV step s = some o :=
  loopV_some.2 ⟨1,_,h,rfl⟩
theorem loopV_inv {S O:Type} {step:S → Option (S ⊕ O)} (I:S → Prop) (μ:S → Nat) (Q:O → Prop)
    (h:∀ s,I s → ∃ q,step s = some q ∧ match q with | .inl s'=>I s' ∧ μ s' < μ s | .inr o=>Q o) (s:S) (hs:I s):∃ o,loopV step s = some o ∧ Q o:=by
  suffices H:∀ n s,μ s = n → I s → ∃ o,loopV step s = some o ∧ Q o from H _ s rfl hs
  intro n
  induction n using Nat.strongRecOn with
  | _ n ih =>
    intro s hn hs
    obtain ⟨q,h1,h2⟩:=h s hs
    cases q with
    | inl s' =>
      obtain ⟨o,ho,hq⟩:=ih _ (hn ▸ h2.2) s' rfl h2.1
      exact ⟨o,(loopV_next h1).trans ho,hq⟩
    | inr o=>exact ⟨o,loopV_stop h1,h2⟩
open Classical in
noncomputable def recV {α:Type} (g:Nat → Option α):Option α:=if h:∃ k,∃ r,g k = some r then g h.choose else none
theorem recV_some {α:Type} {g:Nat → Option α} {r:α} (h:recV g = some r):∃ k,g k = some r:=by
  unfold recV at h
  split at h
  · exact ⟨_,h⟩
  · cases h
end Go.Proofs.YtdenliplkmjmjaaGreat
namespace Go.Proofs.YtdenliplkmjmjaaGreat
open Go.Sort
structure Orders {α:Type} (c:α → α → Option Int) (xs:List α):Prop where
  len:xs.length < 4611686018427387904
  def_:∀ x ∈ xs,∀ y ∈ xs,∃ r,c x y = some r
  irr:∀ x ∈ xs,∀ r,c x x = some r → ¬ r < 0
  trans:∀ x ∈ xs,∀ y ∈ xs,∀ z ∈ xs,∀ r s t,c x y = some r → c y z = some s → c x z = some t → r < 0 → s < 0 → t < 0
  ntrans:∀ x ∈ xs,∀ y ∈ xs,∀ z ∈ xs,∀ r s t,c x y = some r → c y z = some s → c x z = some t → ¬ r < 0 → ¬ s < 0 → ¬ t < 0
def cfOf {α:Type} (c:α → α → Option Int) (xs:List α) (x y:{x // x ∈ xs}):Int:=(c x.1 y.1).getD 0
theorem cfOf_eq {α:Type} {c:α → α → Option Int} {xs:List α} (h:Orders c xs) (x y:{x // x ∈ xs}):c x.1 y.1 = some (cfOf c xs x y):=by
  obtain ⟨r,hr⟩:=h.def_ x.1 x.2 y.1 y.2
  simp [cfOf,hr]
theorem cfOf_swo {α:Type} {c:α → α → Option Int} {xs:List α} (h:Orders c xs):SWO (ltOf (cfOf c xs)) where
  irrefl x:=by
    have:=h.irr x.1 x.2 _ (cfOf_eq h x x)
    simpa [ltOf] using this
  trans x y z h1 h2:=by
    have:=h.trans x.1 x.2 y.1 y.2 z.1 z.2 _ _ _ (cfOf_eq h x y) (cfOf_eq h y z) (cfOf_eq h x z)
    simp only [ltOf,decide_eq_true_eq] at h1 h2 ⊢
    exact this h1 h2
  ntrans x y z h1 h2:=by
    have:=h.ntrans x.1 x.2 y.1 y.2 z.1 z.2 _ _ _ (cfOf_eq h x y) (cfOf_eq h y z) (cfOf_eq h x z)
    simp only [ltOf,decide_eq_false_iff_not] at h1 h2 ⊢
    exact this h1 h2
theorem ne_inh {α:Type} {xs:List α} (h:xs ≠ []):Nonempty {x // x ∈ xs}:=by
  cases xs with
  | nil=>exact (h rfl).elim
  | cons a l=>exact ⟨⟨a,by simp⟩⟩
noncomputable def sortedA {α:Type} (c:α → α → Option Int) (xs:List α) (h:xs ≠ []):Array {x // x ∈ xs} :=
  letI:Inhabited {x // x ∈ xs}:=⟨Classical.choice (ne_inh h)⟩
  pdq (ltOf (cfOf c xs)) xs.attach.toArray 0 xs.attach.toArray.size (Lib.bitLen xs.attach.toArray.size) true true
open Classical in
noncomputable def sortV {α:Type} (c:α → α → Option Int) (xs:List α):Option (List α) :=
  if h:xs = [] then some [] else if Orders c xs then some ((sortedA c xs h).toList.map Subtype.val) else none
theorem sortV_nil {α:Type} (c:α → α → Option Int):sortV c [] = some []:=by simp [sortV]
theorem sortV_inv {α:Type} {c:α → α → Option Int} {xs ys:List α} (h:sortV c xs = some ys) (hx:xs ≠ []):Orders c xs ∧ ys = (sortedA c xs hx).toList.map Subtype.val:=by
  unfold sortV at h
  rw [dif_neg hx] at h
  split at h
  · rename_i ho
    exact ⟨ho,by simpa using h.symm⟩
  · cases h
theorem sortedA_spec {α:Type} {c:α → α → Option Int} {xs:List α} (hx:xs ≠ []) (ho:Orders c xs) :
    (sortedA c xs hx).size = xs.length ∧ ((sortedA c xs hx).toList.map Subtype.val).Perm xs ∧ ((sortedA c xs hx).toList.map Subtype.val).Pairwise fun a b=>∀ r,c b a = some r → ¬ r < 0:=by
  letI:Inhabited {x // x ∈ xs}:=⟨Classical.choice (ne_inh hx)⟩
  have h:=pdq_sorts (ltOf (cfOf c xs)) (cfOf_swo ho) xs.attach.toArray 0 xs.attach.toArray.size (Lib.bitLen xs.attach.toArray.size) true true (Nat.zero_le _) (Nat.le_refl _) (Or.inl rfl)
  have he:sortedA c xs hx = pdq (ltOf (cfOf c xs)) xs.attach.toArray 0 xs.attach.toArray.size (Lib.bitLen xs.attach.toArray.size) true true:=rfl
  rw [← he] at h
  generalize sortedA c xs hx = d at h ⊢
  obtain ⟨⟨h1,_,h2⟩,h3⟩:=h
  have hs:d.size = xs.length:=by simpa using h1
  refine ⟨hs,?_,?_⟩
  · have h4:d.toList.Perm xs.attach:=by
      have e1:d.extract 0 xs.attach.toArray.size = d:=by
        rw [← h1]
        simp
      have e2:xs.attach.toArray.extract 0 xs.attach.toArray.size = xs.attach.toArray:=Array.extract_size
      rw [e1,e2] at h2
      simpa using h2
    have h5:=h4.map Subtype.val
    rwa [List.attach_map_subtype_val] at h5
  · rw [List.pairwise_map,List.pairwise_iff_getElem]
    intro i j hi hj hij r hr
    have h4:=h3 i j (Nat.zero_le _) hij (by simpa [hs] using hj)
    simp only [ltOf,decide_eq_false_iff_not] at h4
    have hi':i < d.size:=by simpa using hi
    have hj':j < d.size:=by simpa using hj
    rw [getElem!_pos d i hi',getElem!_pos d j hj'] at h4
    have h5:=cfOf_eq ho d[j] d[i]
    simp only [Array.getElem_toList] at hr
    rw [hr] at h5
    cases h5
    exact h4
theorem sortV_spec {α:Type} {c:α → α → Option Int} {xs ys:List α} (h:sortV c xs = some ys):ys.Perm xs ∧ ys.Pairwise fun a b=>∀ r,c b a = some r → ¬ r < 0:=by
  by_cases hx:xs = []
  · subst hx
    rw [sortV_nil] at h
    cases h
    simp
  · obtain ⟨ho,rfl⟩:=sortV_inv h hx
    exact (sortedA_spec hx ho).2
theorem sortV_ok {α:Type} {c:α → α → Option Int} {xs:List α} (ho:Orders c xs):∃ ys,sortV c xs = some ys ∧ ys.Perm xs ∧ ys.Pairwise fun a b=>∀ r,c b a = some r → ¬ r < 0:=by
  have:∃ ys,sortV c xs = some ys:=by
    by_cases hx:xs = []
    · subst hx
      exact ⟨_,sortV_nil c⟩
    · unfold sortV
      rw [dif_neg hx,if_pos ho]
      exact ⟨_,rfl⟩
  obtain ⟨ys,hy⟩:=this
  exact ⟨ys,hy,sortV_spec hy⟩
end Go.Proofs.YtdenliplkmjmjaaGreat
namespace Go.Proofs.YtdenliplkmjmjaaGreat
def mul64V (x y:Int):Option (Int × Int):=if 0 ≤ x ∧ x < 18446744073709551616 ∧ 0 ≤ y ∧ y < 18446744073709551616 then some (x * y / 18446744073709551616,x * y % 18446744073709551616) else none
def lz64V (x:Int):Option Int:=if 0 ≤ x ∧ x ≤ 18446744073709551615 then some (64 - (Lib.bitLen x.toNat:Int)) else none
end Go.Proofs.YtdenliplkmjmjaaGreat
namespace Go.Proofs.YtdenliplkmjmjaaGreat
section
variable {K V:Type} [DecidableEq K]
def mget:List (K × V) → K → V → V
  | [],_,d=>d
  | p :: m,x,d=>if p.1 = x then p.2 else mget m x d
def mset:List (K × V) → K → V → List (K × V)
  | [],x,v=>[(x,v)]
  | p :: m,x,v=>if p.1 = x then (p.1,v) :: m else p :: mset m x v
def mfi:List (K × V) → K → Option Nat
  | [],_=>none
  | p :: m,x=>if p.1 = x then some 0 else (mfi m x).map (· + 1)
theorem mset_mset (m:List (K × V)) (x:K) (u v:V):mset (mset m x u) x v = mset m x v:=by
  induction m with
  | nil=>simp [mset]
  | cons p m ih =>
    by_cases h:p.1 = x
    · simp [mset,h]
    · simp [mset,h,ih]
theorem qahw (m:List (K × V)) (x y:K) (d:V):mget (mset m x (mget m x d)) y d = mget m y d:=by
  induction m with
  | nil=>simp [mset,mget]
  | cons p m ih =>
    simp only [mset,mget]
    by_cases h:p.1 = x
    · simp only [h,if_true]
      simp only [mget]
    · simp only [h,if_false]
      simp only [mget,ih]
theorem mget_mset (m:List (K × V)) (x y:K) (v d:V):mget (mset m x v) y d = if x = y then v else mget m y d:=by
  induction m with
  | nil=>simp [mset,mget]
  | cons p m ih =>
    simp only [mset,mget]
    by_cases h:p.1 = x
    · subst h
      simp only [if_true,mget]
      split <;> simp_all
    · simp only [h,if_false,mget,ih]
      by_cases h2:x = y
      · subst h2; simp [h]
      · simp [h2]
theorem mfi_lt {m:List (K × V)} {x:K} {i:Nat} (h:mfi m x = some i):i < m.length:=by
  induction m generalizing i with
  | nil=>cases h
  | cons p m ih =>
    unfold mfi at h
    split at h
    · simp at h; subst h; simp
    · obtain ⟨j,hj,rfl⟩:=Option.map_eq_some_iff.1 h
      have:=ih hj
      simp; omega
theorem mfi_at {m:List (K × V)} {x:K} {i:Nat} (h:mfi m x = some i):∃ v,m[i]? = some (x,v) ∧ ∀ d,mget m x d = v:=by
  induction m generalizing i with
  | nil=>cases h
  | cons p m ih =>
    unfold mfi at h
    split at h
    · rename_i hp
      simp at h; subst h
      exact ⟨p.2,by simp [← hp],fun d=>by simp [mget,hp]⟩
    · rename_i hp
      obtain ⟨j,hj,rfl⟩:=Option.map_eq_some_iff.1 h
      obtain ⟨v,h1,h2⟩:=ih hj
      exact ⟨v,by simpa using h1,fun d=>by simp [mget,hp,h2]⟩
theorem mfi_none {m:List (K × V)} {x:K} (h:mfi m x = none):(∀ d,mget m x d = d) ∧ ∀ v,mset m x v = m ++ [(x,v)]:=by
  induction m with
  | nil=>exact ⟨fun d=>rfl,fun v=>rfl⟩
  | cons p m ih =>
    unfold mfi at h
    split at h
    · cases h
    · rename_i hp
      have:=ih (by simpa using h)
      exact ⟨fun d=>by simp [mget,hp,this.1],fun v=>by simp [mset,hp,this.2]⟩
theorem mfi_set {m:List (K × V)} {x:K} {i:Nat} (h:mfi m x = some i) (v:V):mset m x v = m.set i (x,v):=by
  induction m generalizing i with
  | nil=>cases h
  | cons p m ih =>
    unfold mfi at h
    split at h
    · rename_i hp
      simp at h; subst h
      simp [mset,hp]
    · rename_i hp
      obtain ⟨j,hj,rfl⟩:=Option.map_eq_some_iff.1 h
      simp [mset,hp,ih hj]
end
def rangeV {E S O:Type} (body:E → S → Option (S ⊕ O)):List E → S → Option (S ⊕ O)
  | [],s=>some (.inl s)
  | e :: l,s=>(body e s).bind fun q=>match q with
    | .inl s'=>rangeV body l s'
    | .inr o=>some (.inr o)
def RAll {E S O R:Type} (body:E → S → Option (S ⊕ O)) (k:S ⊕ O → Option R) (xs:List E) (s:S) (r:R):Prop:=∀ ys,ys.Perm xs → (rangeV body ys s).bind k = some r
open Classical in
noncomputable def rangeP {E S O R:Type} (body:E → S → Option (S ⊕ O)) (xs:List E) (s:S) (k:S ⊕ O → Option R):Option R:=if h:∃ r,RAll body k xs s r then some h.choose else none
theorem rangeP_some {E S O R:Type} {body:E → S → Option (S ⊕ O)} {xs:List E} {s:S} {k:S ⊕ O → Option R} {r:R}:rangeP body xs s k = some r ↔ RAll body k xs s r:=by
  unfold rangeP
  split
  · rename_i h
    have h1:=h.choose_spec
    constructor
    · intro e
      simp only [Option.some.injEq] at e
      exact e ▸ h1
    · intro h2
      have a:=h1 xs (List.Perm.refl _)
      have b:=h2 xs (List.Perm.refl _)
      rw [a] at b
      exact b
  · rename_i h
    constructor
    · intro e; cases e
    · intro e; exact absurd ⟨r,e⟩ h
def RNext {E S O R:Type} (body:E → S → Option (S ⊕ O)) (k:S ⊕ O → Option R) (xs:List E) (r:R):S ⊕ O → Prop
  | .inl s'=>RAll body k xs s' r
  | .inr o=>k (.inr o) = some r
theorem RAll.nil {E S O R:Type} {body:E → S → Option (S ⊕ O)} {k:S ⊕ O → Option R} {s:S} {r:R} (h:RAll body k [] s r):k (.inl s) = some r:=h [] (List.Perm.refl _)
theorem RAll.cons {E S O R:Type} {body:E → S → Option (S ⊕ O)} {k:S ⊕ O → Option R} {xs xs':List E} {s:S} {r:R} {e:E} (h:RAll body k xs s r) (hp:xs.Perm (e :: xs')):∃ q,body e s = some q ∧ RNext body k xs' r q:=by
  have h0:=h (e :: xs') hp.symm
  unfold rangeV at h0
  cases hb:body e s with
  | none=>rw [hb] at h0; cases h0
  | some q =>
    refine ⟨q,rfl,?_⟩
    cases q with
    | inl s' =>
      intro ys hy
      have h1:=h (e :: ys) ((List.Perm.cons e hy).trans hp.symm)
      unfold rangeV at h1
      rw [hb] at h1
      exact h1
    | inr o =>
      rw [hb] at h0
      exact h0
theorem rnextL {E S O R:Type} {body:E → S → Option (S ⊕ O)} {k:S ⊕ O → Option R} {xs:List E} {r:R} {s:S} (h:RNext body k xs r (.inl s)):RAll body k xs s r:=h
theorem rnextR {E S O R:Type} {body:E → S → Option (S ⊕ O)} {k:S ⊕ O → Option R} {xs:List E} {r:R} {o:O} (h:RNext body k xs r (.inr o)):k (.inr o) = some r:=h
open Classical in
noncomputable def permP {α R:Type} (xs:List α) (k:List α → Option R):Option R:=if h:∃ r,∀ l:List α,l.Perm xs → k l = some r then some h.choose else none
theorem permP_some {α R:Type} {xs:List α} {k:List α → Option R} {r:R}:permP xs k = some r ↔ ∀ l:List α,l.Perm xs → k l = some r:=by
  unfold permP
  split
  · rename_i h
    have h1:=h.choose_spec
    constructor
    · intro e
      simp only [Option.some.injEq] at e
      exact e ▸ h1
    · intro h2
      have a:=h1 xs (List.Perm.refl _)
      have b:=h2 xs (List.Perm.refl _)
      rw [a] at b
      exact b
  · rename_i h
    constructor
    · intro e; cases e
    · intro e; exact absurd ⟨r,e⟩ h
def eraseY {K:Type} [DecidableEq K] (x:K) (s:List K):Option (List K ⊕ Empty):=if x ∈ s then some (.inl (s.erase x)) else none
theorem eraseY_some {K:Type} [DecidableEq K] {x:K} {s:List K} {r:List K ⊕ Empty} (h:eraseY x s = some r):x ∈ s ∧ r = .inl (s.erase x):=by
  unfold eraseY at h
  split at h
  · rename_i hx
    simp only [Option.some.injEq] at h
    exact ⟨hx,h.symm⟩
  · cases h
theorem rangeV_keys {K V O:Type} [DecidableEq K] (body:K × V → List K → Option (List K ⊕ O)) (hb:∀ p s,p.1 ∈ s → body p s = some (.inl (s.erase p.1))):∀ (ys:List (K × V)) (s:List K),(ys.map Prod.fst).Perm s → rangeV body ys s = some (.inl [])
  | [],s,h=>by
    have:s = []:=List.perm_nil.1 (by simpa using h.symm)
    subst this
    rfl
  | p :: ys,s,h=>by
    have hp:p.1 ∈ s:=h.subset (by simp)
    unfold rangeV
    rw [hb p s hp]
    refine rangeV_keys body hb ys _ ?_
    have h2:(p.1 :: ys.map Prod.fst).Perm s:=by simpa using h
    exact (List.cons_perm_iff_perm_erase.1 h2).2
theorem erase_perm {K:Type} [DecidableEq K] {l s keys:List K} {x:K} (h:(l ++ s).Perm keys) (hx:x ∈ s):((l ++ [x]) ++ s.erase x).Perm keys:=by
  refine List.Perm.trans ?_ h
  rw [List.append_assoc]
  exact List.Perm.append_left l (List.perm_cons_erase hx).symm
theorem room_perm {K V:Type} [DecidableEq K] {l s:List K} {m:List (K × V)} {x:K} (hr:room m.length = true) (h:(l ++ s).Perm (m.map Prod.fst)) (hx:x ∈ s):room (l ++ [x]).length = true:=by
  have h1:=h.length_eq
  have h2:=List.length_pos_of_mem hx
  simp only [room,decide_eq_true_eq,List.length_append,List.length_map,List.length_cons,List.length_nil] at hr h1 ⊢
  omega
open Classical in
noncomputable def gd (p:Prop):Option Unit:=if p then some () else none
theorem gd_of {p:Prop} {u:Unit} (h:gd p = some u):p:=by
  unfold gd at h
  split at h
  · assumption
  · cases h
theorem gd_true {p:Prop} (h:p):gd p = some ():=by unfold gd; rw [if_pos h]
open Classical in
noncomputable def relP {R X:Type} (F:(R → Prop) → Option Unit) (k:R → Option X):Option X:=if h:∃ x,F (fun r=>k r = some x) = some () then some h.choose else none
theorem relP_some {R X:Type} {F:(R → Prop) → Option Unit} {k:R → Option X} {x:X} (h:relP F k = some x):F (fun r=>k r = some x) = some ():=by
  unfold relP at h
  split at h
  · rename_i hx
    simp only [Option.some.injEq] at h
    exact h ▸ hx.choose_spec
  · cases h
theorem relP_of {R X:Type} {F:(R → Prop) → Option Unit} {k:R → Option X} {x:X} (hF:∀ G G',F G = some () → F G' = some () → ∃ r,G r ∧ G' r) (h:F (fun r=>k r = some x) = some ()):relP F k = some x:=by
  unfold relP
  have hx:∃ x,F (fun r=>k r = some x) = some ():=⟨x,h⟩
  rw [dif_pos hx]
  obtain ⟨r,h1,h2⟩:=hF _ _ hx.choose_spec h
  rw [h1] at h2
  exact h2
end Go.Proofs.YtdenliplkmjmjaaGreat
