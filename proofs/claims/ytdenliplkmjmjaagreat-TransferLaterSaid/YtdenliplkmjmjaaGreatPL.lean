import Derived.Test.YtdenliplkmjmjaaGreatPA
import Derived.Test.YtdenliplkmjmjaaGreatPP
namespace Go.Proofs.YtdenliplkmjmjaaGreat.Pl
theorem w64_id {n:Int} (h1 : -9223372036854775808 ≤ n) (h2:n ≤ 9223372036854775807):w64 n = n:=by
  simp only [IntKind.wrap,IntKind.bits,IntKind.signed]
  simp only [Bool.true_and,ge_iff_le,decide_eq_true_eq]
  split <;> omega
theorem inb_of {α:Type} {xs:List α} {i:Int} (h0:0 ≤ i) (h1:i < xs.length):inb xs i = true:=by simp [inb,h0,h1]
theorem inb_nat {α:Type} {xs:List α} {k:Nat} (h:k < xs.length):inb xs (k:Int) = true:=inb_of (by omega) (by omega)
theorem ix_nat {α:Type} [Inhabited α] {xs:List α} {k:Nat} (h:k < xs.length):ix xs (k:Int) = xs[k]:=by simp [ix,h]
theorem room_of {n:Nat} (h:n ≤ 1000000000):room n = true:=by simp [room,h]
theorem chk_true {α:Type} {b:Bool} {x:Option α} (h:b = true):chk b x = x:=by subst h; rfl
theorem loopV_run {S O:Type} {step:S → Option (S ⊕ O)} (f:Nat → S) (n:Nat) (h:∀ k,k < n → step (f k) = some (.inl (f (k + 1)))):loopV step (f 0) = loopV step (f n):=by
  induction n with
  | zero=>rfl
  | succ n ih=>rw [ih fun k hk=>h k (by omega),loopV_next (h n (by omega))]
theorem loopV_done {S O:Type} {step:S → Option (S ⊕ O)} (f:Nat → S) (n:Nat) (o:O) (h:∀ k,k < n → step (f k) = some (.inl (f (k + 1)))) (hs:step (f n) = some (.inr o)):loopV step (f 0) = some o:=by
  rw [loopV_run f n h,loopV_stop hs]
theorem loopV_congr {S O:Type} {f g:S → Option (S ⊕ O)} (h:∀ s,f s = g s) (s:S):loopV f s = loopV g s:=by
  have:f = g:=funext h
  rw [this]
theorem recV_eq {α:Type} {g:Nat → Option α} {r:α} (h1:∀ k r',g k = some r' → r' = r) (k:Nat) (h2:g k = some r):recV g = some r:=by
  cases h:recV g with
  | none =>
    unfold recV at h
    split at h
    · rename_i hex
      obtain ⟨x,hx⟩:=hex.choose_spec
      rw [hx] at h
      cases h
    · rename_i hex
      exact absurd ⟨k,r,h2⟩ hex
  | some x =>
    obtain ⟨l,hl⟩:=recV_some h
    rw [h1 l x hl]
end Go.Proofs.YtdenliplkmjmjaaGreat.Pl
namespace Go.Proofs.YtdenliplkmjmjaaGreat.Pl
def kLt (a b:GEntry):Bool :=
  decide (a.Kind < b.Kind) || (decide (a.Kind = b.Kind) && (decide (a.Treaty < b.Treaty) || (decide (a.Treaty = b.Treaty) && (decide (a.Party < b.Party) || (decide (a.Party = b.Party) && decide (a.Loss < b.Loss))))))
theorem before_eq (a b:GEntry):qann a b = some (kLt a b):=by
  unfold qann kLt
  by_cases h1:a.Kind = b.Kind
  · by_cases h2:a.Treaty = b.Treaty
    · by_cases h3:a.Party = b.Party <;> simp [h1,h2,h3]
    · simp [h1,h2]
  · simp [h1]
theorem kLt_irrefl (a:GEntry):kLt a a = false:=by simp [kLt]
theorem kLt_iff (a b:GEntry):kLt a b = true ↔ (a.Kind < b.Kind ∨ (a.Kind = b.Kind ∧ (a.Treaty < b.Treaty ∨ (a.Treaty = b.Treaty ∧ (a.Party < b.Party ∨ (a.Party = b.Party ∧ a.Loss < b.Loss)))))):=by
  simp [kLt]
theorem kLt_trans {a b c:GEntry} (h1:kLt a b = true) (h2:kLt b c = true):kLt a c = true:=by
  rw [kLt_iff] at *; omega
theorem kLe_trans {a b c:GEntry} (h1:kLt b a = false) (h2:kLt c b = false):kLt c a = false:=by
  have e1:¬ _:=mt (kLt_iff b a).2 (by simp [h1])
  have e2:¬ _:=mt (kLt_iff c b).2 (by simp [h2])
  cases h:kLt c a with
  | false=>rfl
  | true=>rw [kLt_iff] at h; omega
def mergeL:List GEntry → List GEntry → List GEntry
  | [],b=>b
  | a,[]=>a
  | x :: a,y :: b=>if kLt y x then y :: mergeL (x :: a) b else x :: mergeL a (y :: b)
  termination_by a b=>a.length + b.length
theorem mergeL_perm:∀ a b,(mergeL a b).Perm (a ++ b)
  | [],b=>by simp [mergeL]
  | x :: a,[]=>by simp [mergeL]
  | x :: a,y :: b=>by
    unfold mergeL
    split
    · exact (List.Perm.cons y (mergeL_perm (x :: a) b)).trans (List.perm_middle.symm)
    · exact List.Perm.cons x (mergeL_perm a (y :: b))
  termination_by a b=>a.length + b.length
def SortedE (l:List GEntry):Prop:=l.Pairwise fun a b=>kLt b a = false
theorem mergeL_sorted:∀ a b,SortedE a → SortedE b → SortedE (mergeL a b)
  | [],b,_,hb=>by simpa [mergeL] using hb
  | x :: a,[],ha,_=>by simpa [mergeL] using ha
  | x :: a,y :: b,ha,hb=>by
    have ha':=List.pairwise_cons.1 ha
    have hb':=List.pairwise_cons.1 hb
    unfold mergeL
    split
    · rename_i h
      refine List.pairwise_cons.2 ⟨fun z hz=>?_,mergeL_sorted (x :: a) b ha hb'.2⟩
      have hz':=(mergeL_perm (x :: a) b).mem_iff.1 hz
      have hxy:kLt x y = false:=by
        cases hc:kLt x y with
        | false=>rfl
        | true=>have:=kLt_trans h hc; rw [kLt_irrefl] at this; cases this
      rcases List.mem_append.1 hz' with hz' | hz'
      · rcases List.mem_cons.1 hz' with rfl | hz'
        · exact hxy
        · exact kLe_trans hxy (ha'.1 z hz')
      · exact hb'.1 z hz'
    · rename_i h
      refine List.pairwise_cons.2 ⟨fun z hz=>?_,mergeL_sorted a (y :: b) ha'.2 hb⟩
      have hz':=(mergeL_perm a (y :: b)).mem_iff.1 hz
      have hyx:kLt y x = false:=by simpa using h
      rcases List.mem_append.1 hz' with hz' | hz'
      · exact ha'.1 z hz'
      · rcases List.mem_cons.1 hz' with rfl | hz'
        · exact hyx
        · exact kLe_trans hyx (hb'.1 z hz')
  termination_by a b=>a.length + b.length
def msort (l:List GEntry):List GEntry:=if h:l.length < 2 then l else mergeL (msort (l.take (l.length / 2))) (msort (l.drop (l.length / 2)))
  termination_by l.length
  decreasing_by
  · simp only [List.length_take]; omega
  · simp only [List.length_drop]; omega
theorem msort_perm (l:List GEntry):(msort l).Perm l:=by
  unfold msort
  split
  · exact List.Perm.refl _
  · have h1:=msort_perm (l.take (l.length / 2))
    have h2:=msort_perm (l.drop (l.length / 2))
    have h3:=(mergeL_perm (msort (l.take (l.length / 2))) (msort (l.drop (l.length / 2)))).trans (h1.append h2)
    rwa [List.take_append_drop] at h3
  termination_by l.length
  decreasing_by
  · simp only [List.length_take]; omega
  · simp only [List.length_drop]; omega
theorem msort_sorted (l:List GEntry):SortedE (msort l):=by
  unfold msort
  split
  · rename_i h
    match l,h with
    | [],_=>exact List.Pairwise.nil
    | [x],_=>exact List.pairwise_singleton _ _
    | x :: y :: l,h=>simp at h; omega
  · exact mergeL_sorted _ _ (msort_sorted _) (msort_sorted _)
  termination_by l.length
  decreasing_by
  · simp only [List.length_take]; omega
  · simp only [List.length_drop]; omega
theorem mergeLoop (a b out:List GEntry) (h:out.length + a.length + b.length ≤ 1000000000) :
    ∃ a' b' out',loopV qaoa (a,b,out) = some (a',b',out') ∧ (out' ++ a') ++ b' = out ++ mergeL a b:=by
  suffices H:∀ n a b out,a.length + b.length = n → out.length + a.length + b.length ≤ 1000000000 →
      ∃ a' b' out',loopV qaoa (a,b,out) = some (a',b',out') ∧ (out' ++ a') ++ b' = out ++ mergeL a b from H _ a b out rfl h
  intro n
  induction n with
  | zero =>
    intro a b out hn _
    have ha:a = []:=List.eq_nil_of_length_eq_zero (by omega)
    have hb:b = []:=List.eq_nil_of_length_eq_zero (by omega)
    subst ha hb
    exact ⟨[],[],out,loopV_stop (by simp [qaoa]),by simp [mergeL]⟩
  | succ n ih =>
    intro a b out hn hle
    match a,b with
    | [],b=>exact ⟨[],b,out,loopV_stop (by simp [qaoa]),by simp [mergeL]⟩
    | x :: a,[]=>exact ⟨x :: a,[],out,loopV_stop (by simp [qaoa]),by simp [mergeL]⟩
    | x :: a,y :: b =>
      simp only [List.length_cons] at hn hle
      cases hk:kLt y x with
      | true =>
        have hs:qaoa (x :: a,y :: b,out) = some (.inl (x :: a,b,out ++ [y])):=by
          unfold qaoa
          have c1:inb (y :: b) 0 = true:=inb_of (by omega) (by simp <;> omega)
          have c2:inb (x :: a) 0 = true:=inb_of (by omega) (by simp <;> omega)
          have h1:room (out ++ [y]).length = true:=room_of (by simp <;> omega)
          have c3:decide ((1:Int) ≤ ((y :: b).length:Int)) = true:=by simp <;> omega
          have c4:(decide (0 < ((x :: a).length:Int)) && decide (0 < ((y :: b).length:Int))) = true:=by simp <;> omega
          dsimp only
          have e1:ix (y :: b) 0 = y:=rfl
          have e2:ix (x :: a) 0 = x:=rfl
          simp only [c4,if_true,chk_of c1,chk_of c2,e1,e2,before_eq,hk,Option.bind_some,chk_of h1,chk_of c3]
          rfl
        obtain ⟨a',b',out',h1,h2⟩:=ih (x :: a) b (out ++ [y]) (by simp <;> omega) (by simp <;> omega)
        refine ⟨a',b',out',(loopV_next hs).trans h1,?_⟩
        rw [h2]
        conv=>rhs; unfold mergeL
        simp [hk]
      | false =>
        have hs:qaoa (x :: a,y :: b,out) = some (.inl (a,y :: b,out ++ [x])):=by
          unfold qaoa
          have c1:inb (y :: b) 0 = true:=inb_of (by omega) (by simp <;> omega)
          have c2:inb (x :: a) 0 = true:=inb_of (by omega) (by simp <;> omega)
          have h1:room (out ++ [x]).length = true:=room_of (by simp <;> omega)
          have c3:decide ((1:Int) ≤ ((x :: a).length:Int)) = true:=by simp <;> omega
          have c4:(decide (0 < ((x :: a).length:Int)) && decide (0 < ((y :: b).length:Int))) = true:=by simp <;> omega
          dsimp only
          have e1:ix (y :: b) 0 = y:=rfl
          have e2:ix (x :: a) 0 = x:=rfl
          simp only [c4,if_true,chk_of c1,chk_of c2,e1,e2,before_eq,hk,Option.bind_some,Bool.false_eq_true,if_false,chk_of h1,chk_of c3]
          rfl
        obtain ⟨a',b',out',h1,h2⟩:=ih a (y :: b) (out ++ [x]) (by simp <;> omega) (by simp <;> omega)
        refine ⟨a',b',out',(loopV_next hs).trans h1,?_⟩
        rw [h2]
        conv=>rhs; unfold mergeL
        simp [hk]
theorem half_eq (n:Nat) (h:n ≤ 1000000000):w64 ((n:Int).tdiv 2) = ((n / 2:Nat):Int):=by
  have e:(n:Int).tdiv 2 = ((n / 2:Nat):Int):=by simp [Int.tdiv]
  rw [e,w64_id (by omega) (by omega)]
theorem sorted_F (self:List GEntry → Option (List GEntry)) (l a b:List GEntry) (hl:l.length ≤ 1000000000) (h2:2 ≤ l.length) (ha:self (l.take (l.length / 2)) = some a) (hb:self (l.drop (l.length / 2)) = some b) (hab:a.length + b.length = l.length):qanz self l = some (mergeL a b):=by
  unfold qanz
  have h1:decide ((l.length:Int) < 2) = false:=by simp <;> omega
  rw [half_eq _ hl]
  obtain ⟨a',b',out',h3,h4⟩:=mergeLoop a b [] (by simp <;> omega)
  have h5:(mergeL a b).length = l.length:=by rw [(mergeL_perm a b).length_eq,List.length_append,hab]
  simp only [List.nil_append] at h4
  have h6:room (mergeL a b).length = true:=by rw [h5]; exact room_of hl
  have h7:room (out' ++ a').length = true:=room_of (by have:=h5; rw [← h4] at this; simp at this ⊢; omega)
  have hc1:decide ((0:Int) ≤ ((l.length / 2:Nat):Int)) = true:=by simp <;> omega
  have hc2:decide (((l.length / 2:Nat):Int) ≤ (l.length:Int)) = true:=by simp <;> omega
  simp only [h1,Bool.false_eq_true,if_false,chk_of hc1,chk_of hc2,Int.toNat_natCast,ha,hb,Option.bind_some,h3,chk_of h7,chk_of h6,h4]
theorem sorted_F1 (self:List GEntry → Option (List GEntry)) (l:List GEntry) (h2:l.length < 2):qanz self l = some l:=by
  unfold qanz
  have h1:decide ((l.length:Int) < 2) = true:=by simp <;> omega
  simp only [h1,if_true,chk_of (room_of (show l.length ≤ 1000000000 by omega))]
theorem sorted_n_eq:∀ (k:Nat) (l r:List GEntry),l.length ≤ 1000000000 → qaob k l = some r → r = msort l
  | 0,_,_,_,h=>by cases h
  | k + 1,l,r,hl,h=>by
    unfold qaob at h
    by_cases h2:l.length < 2
    · rw [sorted_F1 _ l h2] at h
      unfold msort
      rw [dif_pos h2]
      exact (Option.some.inj h).symm
    · cases ha:qaob k (l.take (l.length / 2)) with
      | none =>
        exfalso
        unfold qanz at h
        have h1:decide ((l.length:Int) < 2) = false:=by simp <;> omega
        rw [half_eq _ hl] at h
        have hc1:decide ((0:Int) ≤ ((l.length / 2:Nat):Int)) = true:=by simp <;> omega
        have hc2:decide (((l.length / 2:Nat):Int) ≤ (l.length:Int)) = true:=by simp <;> omega
        simp only [h1,Bool.false_eq_true,if_false,chk_of hc1,chk_of hc2,Int.toNat_natCast,ha,Option.bind_none] at h
        cases h
      | some a =>
        cases hb:qaob k (l.drop (l.length / 2)) with
        | none =>
          exfalso
          unfold qanz at h
          have h1:decide ((l.length:Int) < 2) = false:=by simp <;> omega
          rw [half_eq _ hl] at h
          have hc1:decide ((0:Int) ≤ ((l.length / 2:Nat):Int)) = true:=by simp <;> omega
          have hc2:decide (((l.length / 2:Nat):Int) ≤ (l.length:Int)) = true:=by simp <;> omega
          simp only [h1,Bool.false_eq_true,if_false,chk_of hc1,chk_of hc2,Int.toNat_natCast,ha,hb,Option.bind_none,Option.bind_some] at h
          cases h
        | some b =>
          have ea:=sorted_n_eq k _ a (by simp only [List.length_take]; omega) ha
          have eb:=sorted_n_eq k _ b (by simp only [List.length_drop]; omega) hb
          have hla:a.length = (l.take (l.length / 2)).length:=by rw [ea,(msort_perm _).length_eq]
          have hlb:b.length = (l.drop (l.length / 2)).length:=by rw [eb,(msort_perm _).length_eq]
          rw [sorted_F _ l a b hl (by omega) ha hb (by rw [hla,hlb,List.length_take,List.length_drop]; omega)] at h
          unfold msort
          rw [dif_neg h2,← ea,← eb]
          exact (Option.some.inj h).symm
theorem sorted_n_some:∀ (k:Nat) (l:List GEntry),l.length ≤ 1000000000 → l.length ≤ k → qaob (k + 1) l = some (msort l)
  | k,l,hl,hk=>by
    unfold qaob
    by_cases h2:l.length < 2
    · rw [sorted_F1 _ l h2]
      unfold msort
      rw [dif_pos h2]
    · match k with
      | 0=>omega
      | k + 1 =>
        have ha:=sorted_n_some k (l.take (l.length / 2)) (by simp only [List.length_take]; omega) (by simp only [List.length_take]; omega)
        have hb:=sorted_n_some k (l.drop (l.length / 2)) (by simp only [List.length_drop]; omega) (by simp only [List.length_drop]; omega)
        rw [sorted_F _ l _ _ hl (by omega) ha hb (by rw [(msort_perm _).length_eq,(msort_perm _).length_eq,List.length_take,List.length_drop]; omega)]
        conv=>rhs; unfold msort
        rw [dif_neg h2]
theorem sorted_eq (l:List GEntry) (hl:l.length ≤ 1000000000):qany l = some (msort l) :=
  recV_eq (fun k r h=>sorted_n_eq k l r hl h) (l.length + 1) (sorted_n_some _ l hl (Nat.le_refl _))
end Go.Proofs.YtdenliplkmjmjaaGreat.Pl
namespace Go.Proofs.YtdenliplkmjmjaaGreat.Pl
def sumA (l:List GEntry):Int:=(l.map (·.Amount)).sum
theorem sumA_cons (x:GEntry) (l:List GEntry):sumA (x :: l) = x.Amount + sumA l:=by simp [sumA]
theorem sumA_append (a b:List GEntry):sumA (a ++ b) = sumA a + sumA b:=by simp [sumA]
def vAmt (n:Int):Bool:=decide (-17592186044416 ≤ n) && decide (n ≤ 17592186044416)
def withA (e:GEntry) (a:Int):GEntry:={ e with Amount:=a }
def grp (l:List GEntry):Option (List GEntry) :=
  match l with
  | []=>some []
  | x :: l =>
    let a:=x.Amount + sumA (l.takeWhile fun y=>!kLt x y)
    if vAmt a = true then (grp (l.dropWhile fun y=>!kLt x y)).map fun r=>if a = 0 then r else withA x a :: r
    else none
  termination_by l.length
  decreasing_by
  · have:=(List.dropWhile_suffix (fun y=>!kLt x y) (l:=l)).length_le
    simp only [List.length_cons]; omega
def Amts (l:List GEntry):Prop:=∀ e ∈ l,-17592186044416 ≤ e.Amount ∧ e.Amount ≤ 17592186044416
theorem sumA_range {l:List GEntry} (h:Amts l) : -17592186044416 * (l.length:Int) ≤ sumA l ∧ sumA l ≤ 17592186044416 * (l.length:Int):=by
  induction l with
  | nil=>simp [sumA]
  | cons x l ih =>
    have h1:=ih fun e he=>h e (by simp [he])
    have h2:=h x (by simp)
    rw [sumA_cons,List.length_cons]
    omega
theorem Amts.sub {l m:List GEntry} (h:Amts l) (hs:∀ e ∈ m,e ∈ l):Amts m:=fun e he=>h e (hs e he)
theorem drop_cons {α:Type} {s:List α} {k:Nat} {x:α} {l:List α} (h:s.drop k = x :: l):k < s.length ∧ s[k]? = some x ∧ s.drop (k + 1) = l:=by
  have hk:k < s.length:=by
    rcases Nat.lt_or_ge k s.length with h1 | h1
    · exact h1
    · rw [List.drop_eq_nil_of_le h1] at h; cases h
  rw [List.drop_eq_getElem_cons hk] at h
  simp only [List.cons.injEq] at h
  exact ⟨hk,by rw [List.getElem?_eq_getElem hk,h.1],h.2⟩
theorem ix_get {α:Type} [Inhabited α] {s:List α} {k:Nat} {x:α} (h:s[k]? = some x):ix s (k:Int) = x:=by
  obtain ⟨h1,h2⟩:=List.getElem?_eq_some_iff.1 h
  rw [ix_nat h1,h2]
theorem sumsInner (s:List GEntry) (out:List GEntry) (i:Nat) (hs:s.length ≤ 65536) (hA:Amts s) (x:GEntry) (hx:s[i]? = some x):∀ (l:List GEntry) (j:Nat) (a:Int),s.drop j = l → j ≤ s.length → -17592186044416 * (j:Int) ≤ a → a ≤ 17592186044416 * (j:Int) →
    loopV (qaoe s (out,(i:Int))) ((j:Int),a) = some (((j + (l.takeWhile fun y=>!kLt x y).length:Nat):Int),a + sumA (l.takeWhile fun y=>!kLt x y)):=by
  intro l
  induction l with
  | nil =>
    intro j a hl hj _ _
    have hjl:s.length ≤ j:=by simpa [List.drop_eq_nil_iff] using hl
    refine loopV_stop ?_
    unfold qaoe
    have h1:decide ((j:Int) < (s.length:Int)) = false:=by simp <;> omega
    simp only [h1,Bool.false_eq_true,if_false,Option.bind_some]
    simp [sumA]
  | cons y l ih =>
    intro j a hl hj h1 h2
    obtain ⟨hk,hy,hd⟩:=drop_cons hl
    have hc:decide ((j:Int) < (s.length:Int)) = true:=by simp <;> omega
    have hy2:ix s (j:Int) = y:=ix_get hy
    have hym:=hA y (List.mem_of_getElem? hy)
    have hcmp:kLt (GEntry.mk (ix s (i:Int)).Kind (ix s (i:Int)).Treaty (ix s (i:Int)).Party (ix s (i:Int)).Loss a) y = kLt x y:=by rw [ix_get hx]; rfl
    cases hb:kLt x y with
    | true =>
      refine (loopV_stop (o:=((j:Int),a)) ?_).trans ?_
      · unfold qaoe
        simp only [hc,if_true,chk_of (inb_nat hk),before_eq,hy2,hcmp,hb,Option.bind_some,Bool.not_true,Bool.false_eq_true,if_false]
      · simp [hb,sumA]
    | false =>
      have hst:qaoe s (out,(i:Int)) ((j:Int),a) = some (.inl (((j + 1:Nat):Int),a + y.Amount)):=by
        unfold qaoe
        have e1:w64 ((j:Int) + 1) = ((j + 1:Nat):Int):=by rw [w64_id (by omega) (by omega)]; rfl
        have e2:w64 (a + y.Amount) = a + y.Amount:=w64_id (by omega) (by omega)
        simp only [hc,if_true,chk_of (inb_nat hk),before_eq,hcmp,hb,Option.bind_some,Bool.not_false,hy2,e1,e2]
      rw [loopV_next hst,ih (j + 1) (a + y.Amount) hd (by omega) (by omega) (by omega)]
      simp only [List.takeWhile_cons,hb,Bool.not_false,if_true,List.length_cons,sumA_cons]
      congr 2
      · omega
      · omega
theorem sumsOuter (s:List GEntry) (hs:s.length ≤ 65536) (hA:Amts s):∀ (n:Nat) (l:List GEntry) (i:Nat) (out:List GEntry),l.length = n → s.drop i = l → i ≤ s.length → out.length ≤ i →
    loopV (qaod s) (out,(i:Int)) = some (match grp l with | none=>.inl ([],false) | some r=>.inr (out ++ r)):=by
  intro n
  induction n using Nat.strongRecOn with
  | _ n ih =>
    intro l i out hn hl hi ho
    match l,hl with
    | [],hl =>
      have hjl:s.length ≤ i:=by simpa [List.drop_eq_nil_iff] using hl
      refine loopV_stop ?_
      unfold qaod
      have h1:decide ((i:Int) < (s.length:Int)) = false:=by simp <;> omega
      simp only [h1,Bool.false_eq_true,if_false]
      simp [grp]
    | x :: l,hl =>
      obtain ⟨hk,hx,hd⟩:=drop_cons hl
      have hc:decide ((i:Int) < (s.length:Int)) = true:=by simp <;> omega
      have hx2:ix s (i:Int) = x:=ix_get hx
      have hxm:=hA x (List.mem_of_getElem? hx)
      have e1:w64 ((i:Int) + 1) = ((i + 1:Nat):Int):=by rw [w64_id (by omega) (by omega)]; rfl
      have hin:=sumsInner s out i hs hA x hx l (i + 1) x.Amount hd (by omega) (by omega) (by omega)
      have hsplit:l = (l.takeWhile fun y=>!kLt x y) ++ (l.dropWhile fun y=>!kLt x y):=(List.takeWhile_append_dropWhile).symm
      have hnext:s.drop (i + 1 + (l.takeWhile fun y=>!kLt x y).length) = l.dropWhile fun y=>!kLt x y:=by
        rw [← List.drop_drop,hd]
        have h3:=List.drop_left (l₁:=l.takeWhile fun y=>!kLt x y) (l₂:=l.dropWhile fun y=>!kLt x y)
        rwa [← hsplit] at h3
      have hlen:=congrArg List.length hsplit
      rw [List.length_append] at hlen
      have hll:l.length = s.length - (i + 1):=by rw [← hd,List.length_drop]
      simp only [List.length_cons] at hn
      conv=>rhs; unfold grp
      simp only
      cases hv:vAmt (x.Amount + sumA (l.takeWhile fun y=>!kLt x y)) with
      | false =>
        refine loopV_stop ?_
        unfold qaod
        simp only [hc,if_true,chk_of (inb_nat hk),hx2,e1,hin,Option.bind_some,qanm]
        have hv':(decide (-17592186044416 ≤ x.Amount + sumA (l.takeWhile fun y=>!kLt x y)) && decide (x.Amount + sumA (l.takeWhile fun y=>!kLt x y) ≤ 17592186044416)) = false:=hv
        simp [hv']
      | true =>
        have hv':(decide (-17592186044416 ≤ x.Amount + sumA (l.takeWhile fun y=>!kLt x y)) && decide (x.Amount + sumA (l.takeWhile fun y=>!kLt x y) ≤ 17592186044416)) = true:=hv
        by_cases h0:x.Amount + sumA (l.takeWhile fun y=>!kLt x y) = 0
        · have hst:qaod s (out,(i:Int)) = some (.inl (out,((i + 1 + (l.takeWhile fun y=>!kLt x y).length:Nat):Int))):=by
            unfold qaod
            simp only [hc,if_true,chk_of (inb_nat hk),hx2,e1,hin,Option.bind_some,qanm,hv',Bool.not_true,Bool.false_eq_true,if_false]
            simp [h0]
          rw [loopV_next hst,ih _ (by omega) _ (i + 1 + (l.takeWhile fun y=>!kLt x y).length) out rfl hnext (by omega) (by omega)]
          simp only [if_true,h0]
          cases grp (l.dropWhile fun y=>!kLt x y) <;> rfl
        · have hroom:room (out ++ [withA x (x.Amount + sumA (l.takeWhile fun y=>!kLt x y))]).length = true:=room_of (by simp <;> omega)
          have hst:qaod s (out,(i:Int)) = some (.inl (out ++ [withA x (x.Amount + sumA (l.takeWhile fun y=>!kLt x y))],((i + 1 + (l.takeWhile fun y=>!kLt x y).length:Nat):Int))):=by
            unfold qaod
            have h0':(!decide (x.Amount + sumA (l.takeWhile fun y=>!kLt x y) = 0)) = true:=by simp [h0]
            simp only [hc,if_true,chk_of (inb_nat hk),hx2,e1,hin,Option.bind_some,qanm,hv',Bool.not_true,Bool.false_eq_true,if_false,h0']
            first | exact chk_of hroom | exact (congrArg (fun z=>Option.bind z _) (chk_of hroom)).trans rfl
          rw [loopV_next hst,ih _ (by omega) _ (i + 1 + (l.takeWhile fun y=>!kLt x y).length) _ rfl hnext (by omega) (by simp <;> omega)]
          simp only [if_true,if_neg h0]
          cases grp (l.dropWhile fun y=>!kLt x y) <;> simp
theorem msort_length (l:List GEntry):(msort l).length = l.length:=(msort_perm l).length_eq
theorem sums_eq (l:List GEntry) (hl:l.length ≤ 65536) (hA:Amts l):qaoc l = some (match grp (msort l) with | none=>([],false) | some r=>(r,true)):=by
  unfold qaoc
  have hA':Amts (msort l):=hA.sub fun e he=>(msort_perm l).mem_iff.1 he
  have h:=sumsOuter (msort l) (by rw [msort_length]; exact hl) hA' _ (msort l) 0 [] rfl rfl (Nat.zero_le _) (Nat.zero_le _)
  simp only [sorted_eq l (by omega),Option.bind_some]
  rw [show ((0:Nat):Int) = 0 from rfl] at h
  rw [h]
  cases grp (msort l) <;> rfl
end Go.Proofs.YtdenliplkmjmjaaGreat.Pl
namespace Go.Proofs.YtdenliplkmjmjaaGreat.Pl
def headB (e:GEntry):Bool:=decide (1 ≤ e.Kind) && decide (e.Kind ≤ 5) && decide (0 ≤ e.Treaty) && decide (e.Treaty ≤ 1048576) && decide (0 ≤ e.Party) && decide (e.Party ≤ 15) &&
  (if e.Kind = 1 ∨ e.Kind = 2 then decide (1 ≤ e.Loss) && decide (e.Loss ≤ 1048576) else decide (e.Loss = 0))
def vE (e:GEntry):Bool:=headB e && vAmt e.Amount
theorem rvalid_eq (e:GEntry):qanv e = some (vE e):=by
  unfold qanv vE headB vAmt qanm
  by_cases h1:e.Kind = 1 ∨ e.Kind = 2
  · have h1':(decide (e.Kind = 1) || decide (e.Kind = 2)) = true:=by simpa using h1
    simp only [h1',if_true,h1,Option.bind_some]
    generalize (decide (1 ≤ e.Kind) && decide (e.Kind ≤ 5) && decide (0 ≤ e.Treaty) && decide (e.Treaty ≤ 1048576) && decide (0 ≤ e.Party) && decide (e.Party ≤ 15) && (decide (1 ≤ e.Loss) && decide (e.Loss ≤ 1048576))) = b
    cases b <;> simp
  · have h1':(decide (e.Kind = 1) || decide (e.Kind = 2)) = false:=by simpa using h1
    simp only [h1',Bool.false_eq_true,if_false,h1,Option.bind_some]
    generalize (decide (1 ≤ e.Kind) && decide (e.Kind ≤ 5) && decide (0 ≤ e.Treaty) && decide (e.Treaty ≤ 1048576) && decide (0 ≤ e.Party) && decide (e.Party ≤ 15) && decide (e.Loss = 0)) = b
    cases b <;> simp
theorem pvalid_eq (e:GEntry):ledger_Valid e = some (vE e):=by
  unfold ledger_Valid amount_Valid
  have hv:vE e = (headB e && vAmt e.Amount):=rfl
  unfold headB vAmt at hv
  by_cases h1:e.Kind = 1 ∨ e.Kind = 2
  · have h1':(decide (e.Kind = 1) || decide (e.Kind = 2)) = true:=by simpa using h1
    simp only [h1,if_true] at hv
    simp only [h1',if_true,Option.bind_some]
    by_cases a1:e.Kind < 1 <;> by_cases a2:5 < e.Kind <;> by_cases a3:e.Treaty < 0 <;> by_cases a4:1048576 < e.Treaty <;> by_cases a5:e.Party < 0 <;> by_cases a6:15 < e.Party <;> by_cases a7 : -17592186044416 ≤ e.Amount <;> by_cases a8:e.Amount ≤ 17592186044416 <;>
      simp [hv,a1,a2,a3,a4,a5,a6,a7,a8] <;> first | omega | (intros; omega) | skip
    all_goals first | (rw [Bool.eq_iff_iff]; simp; omega) | skip
  · have h1':(decide (e.Kind = 1) || decide (e.Kind = 2)) = false:=by simpa using h1
    simp only [h1,if_false] at hv
    simp only [h1',Bool.false_eq_true,if_false,Option.bind_some]
    by_cases a1:e.Kind < 1 <;> by_cases a2:5 < e.Kind <;> by_cases a3:e.Treaty < 0 <;> by_cases a4:1048576 < e.Treaty <;> by_cases a5:e.Party < 0 <;> by_cases a6:15 < e.Party <;> by_cases a7 : -17592186044416 ≤ e.Amount <;> by_cases a8:e.Amount ≤ 17592186044416 <;>
      simp [hv,a1,a2,a3,a4,a5,a6,a7,a8] <;> first | omega | (intros; omega) | skip
    all_goals first | (rw [Bool.eq_iff_iff]; simp; omega) | skip
end Go.Proofs.YtdenliplkmjmjaaGreat.Pl
namespace Go.Proofs.YtdenliplkmjmjaaGreat.Pl
theorem vAmt_iff (n:Int):vAmt n = true ↔ -17592186044416 ≤ n ∧ n ≤ 17592186044416:=by simp [vAmt]
theorem vE_amt {e:GEntry} (h:vE e = true) : -17592186044416 ≤ e.Amount ∧ e.Amount ≤ 17592186044416:=by
  simp only [vE,Bool.and_eq_true] at h
  exact (vAmt_iff _).1 h.2
theorem Amts.of_valid {l:List GEntry} (h:∀ e ∈ l,vE e = true):Amts l:=fun e he=>vE_amt (h e he)
theorem collect_all {l:List GEntry} (hl:l.length ≤ 65536) (h:∀ e ∈ l,vE e = true):qanp l = some (match grp (msort l) with | none=>([],3) | some r=>(r,0)):=by
  unfold qanp
  have h1:decide (65536 < (l.length:Int)) = false:=by simp <;> omega
  have hloop:loopV (qanq l) 0 = some (.inr ()):=by
    refine loopV_done (fun k=>(k:Int)) l.length _ (fun k hk=>?_) ?_
    · unfold qanq
      have hc:decide ((k:Int) < (l.length:Int)) = true:=by simp <;> omega
      have e1:w64 ((k:Int) + 1) = ((k + 1:Nat):Int):=by rw [w64_id (by omega) (by omega)]; rfl
      have hv:vE l[k] = true:=h _ (List.getElem_mem hk)
      simp only [hc,if_true,chk_of (inb_nat hk),ix_nat hk,rvalid_eq,hv,Option.bind_some,Bool.not_true,Bool.false_eq_true,if_false,e1]
    · unfold qanq
      have hc:decide ((l.length:Int) < (l.length:Int)) = false:=by simp
      simp only [hc,Bool.false_eq_true,if_false]
  simp only [h1,Bool.false_eq_true,if_false,hloop,Option.bind_some,Sum.elim_inr,Sum.elim_inl,sums_eq l hl (Amts.of_valid h)]
  cases grp (msort l) <;> simp
def absA (l:List GEntry):Int:=(l.map fun e=>max e.Amount (-e.Amount)).sum
theorem absA_cons (x:GEntry) (l:List GEntry):absA (x :: l) = max x.Amount (-x.Amount) + absA l:=by simp [absA]
theorem absA_append (a b:List GEntry):absA (a ++ b) = absA a + absA b:=by simp [absA]
theorem absA_nonneg (l:List GEntry):0 ≤ absA l:=by
  induction l with
  | nil=>simp [absA]
  | cons x l ih=>rw [absA_cons]; omega
theorem absA_perm {a b:List GEntry} (h:a.Perm b):absA a = absA b:=by
  induction h with
  | nil=>rfl
  | cons x _ ih=>rw [absA_cons,absA_cons,ih]
  | swap x y l=>rw [absA_cons,absA_cons,absA_cons,absA_cons]; omega
  | trans _ _ h1 h2=>exact h1.trans h2
theorem sumA_abs (l:List GEntry):sumA l ≤ absA l ∧ -(absA l) ≤ sumA l:=by
  induction l with
  | nil=>simp [absA,sumA]
  | cons x l ih=>rw [absA_cons,sumA_cons]; omega
theorem grp_ok (n:Nat):∀ l:List GEntry,l.length = n → absA l ≤ 17592186044416 → (∀ e ∈ l,headB e = true) → ∃ r,grp l = some r ∧ r.length ≤ l.length ∧ absA r ≤ absA l ∧ ∀ e ∈ r,vE e = true ∧ e.Amount ≠ 0:=by
  induction n using Nat.strongRecOn with
  | _ n ih =>
    intro l hn hb hh
    match l with
    | []=>exact ⟨[],by simp [grp],by simp,by simp,fun e he=>by cases he⟩
    | x :: l =>
      have hsplit:l = (l.takeWhile fun y=>!kLt x y) ++ (l.dropWhile fun y=>!kLt x y):=(List.takeWhile_append_dropWhile).symm
      have habs:absA l = absA (l.takeWhile fun y=>!kLt x y) + absA (l.dropWhile fun y=>!kLt x y):=by rw [← absA_append,← hsplit]
      have hlen:=congrArg List.length hsplit
      rw [List.length_append] at hlen
      rw [absA_cons] at hb
      have h1:=sumA_abs (l.takeWhile fun y=>!kLt x y)
      have h2:=absA_nonneg (l.takeWhile fun y=>!kLt x y)
      have h3:=absA_nonneg (l.dropWhile fun y=>!kLt x y)
      simp only [List.length_cons] at hn
      obtain ⟨r,hr,hrl,hra,hre⟩:=ih _ (by omega) (l.dropWhile fun y=>!kLt x y) rfl (by omega) (fun e he=>hh e (List.mem_cons_of_mem _ ((List.dropWhile_suffix _).subset he)))
      unfold grp
      simp only
      have hv:vAmt (x.Amount + sumA (l.takeWhile fun y=>!kLt x y)) = true:=(vAmt_iff _).2 (by omega)
      rw [if_pos hv,hr]
      refine ⟨_,rfl,?_⟩
      dsimp only
      by_cases h0:x.Amount + sumA (l.takeWhile fun y=>!kLt x y) = 0
      · rw [if_pos h0]
        exact ⟨by simp only [List.length_cons]; omega,by rw [absA_cons]; omega,hre⟩
      · rw [if_neg h0]
        refine ⟨by simp only [List.length_cons]; omega,?_,fun e he=>?_⟩
        · rw [absA_cons,absA_cons]
          have:(withA x (x.Amount + sumA (l.takeWhile fun y=>!kLt x y))).Amount = x.Amount + sumA (l.takeWhile fun y=>!kLt x y):=rfl
          rw [this]
          omega
        · rcases List.mem_cons.1 he with rfl | he
          · refine ⟨?_,h0⟩
            have hx:headB x = true:=hh x (by simp)
            have:headB (withA x (x.Amount + sumA (l.takeWhile fun y=>!kLt x y))) = headB x:=rfl
            simp only [vE,this,hx,Bool.true_and]
            exact hv
          · exact hre e he
theorem collect_ok {l:List GEntry} (hl:l.length ≤ 65536) (h:∀ e ∈ l,vE e = true) (hb:absA l ≤ 17592186044416) :
    ∃ r,qanp l = some (r,0) ∧ r.length ≤ l.length ∧ absA r ≤ absA l ∧ ∀ e ∈ r,vE e = true ∧ e.Amount ≠ 0:=by
  have hp:=msort_perm l
  obtain ⟨r,h1,h2,h3,h4⟩:=grp_ok _ (msort l) rfl (by rw [absA_perm hp]; exact hb) (fun e he=>by have:=h e (hp.mem_iff.1 he); simp only [vE,Bool.and_eq_true] at this; exact this.1)
  exact ⟨r,by rw [collect_all hl h,h1],by rw [msort_length] at h2; exact h2,by rw [absA_perm hp] at h3; exact h3,h4⟩
structure LOk (l:GLedger):Prop where
  c0:0 ≤ l.Closed
  c1:l.Closed ≤ 100
  len:l.Postings.length ≤ 65536
  ent:∀ p ∈ l.Postings,vE p.Entry = true ∧ p.Entry.Amount ≠ 0 ∧ 1 ≤ p.Number ∧ p.Number ≤ 65536 ∧ 0 ≤ p.Period ∧ p.Period ≤ l.Closed
  ord:∀ (i:Nat) (h:i + 1 < l.Postings.length),(l.Postings[i]).Number < (l.Postings[i + 1]).Number ∧ (l.Postings[i]).Period ≤ (l.Postings[i + 1]).Period
theorem w64_pred (k:Nat) (h0:0 < k) (h:k ≤ 65536):w64 ((k:Int) - 1) = ((k - 1:Nat):Int):=by rw [w64_id (by omega) (by omega)]; omega
theorem rvalidate_ok {l:GLedger} (h:LOk l):qanw l = some 0:=by
  unfold qanw
  have hc0:=h.c0
  have hc1:=h.c1
  have hl:=h.len
  have h1:((decide (l.Closed < 0) || decide (100 < l.Closed)) || decide (65536 < (l.Postings.length:Int))) = false:=by simp <;> omega
  have hloop:loopV (qanx l) 0 = some (.inr ()):=by
    refine loopV_done (fun k=>(k:Int)) l.Postings.length _ (fun k hk=>?_) ?_
    · unfold qanx
      have hc:decide ((k:Int) < (l.Postings.length:Int)) = true:=by simp <;> omega
      have e1:w64 ((k:Int) + 1) = ((k + 1:Nat):Int):=by rw [w64_id (by omega) (by omega)]; rfl
      obtain ⟨a1,a2,a3,a4,a5,a6⟩:=h.ent _ (List.getElem_mem hk)
      have hb:((((((!true) || decide ((l.Postings[k]).Entry.Amount = 0)) || decide ((l.Postings[k]).Number < 1)) || decide (65536 < (l.Postings[k]).Number)) || decide ((l.Postings[k]).Period < 0)) || decide (l.Closed < (l.Postings[k]).Period)) = false:=by simp <;> omega
      simp only [hc,if_true,chk_of (inb_nat hk),ix_nat hk,rvalid_eq,a1,Option.bind_some,hb,Bool.false_eq_true,if_false,e1]
      by_cases hk0:0 < k
      · have hd:decide ((0:Int) < (k:Int)) = true:=by simp <;> omega
        have hk1:k - 1 < l.Postings.length:=by omega
        obtain ⟨b1,b2⟩:=h.ord (k - 1) (by omega)
        have ek:k - 1 + 1 = k:=by omega
        simp only [ek] at b1 b2
        have d1:decide ((l.Postings[k]).Number ≤ (l.Postings[k - 1]).Number) = false:=by simp <;> omega
        have d2:decide ((l.Postings[k]).Period < (l.Postings[k - 1]).Period) = false:=by simp <;> omega
        simp only [hd,if_true,w64_pred k hk0 (by omega),ix_nat hk1,d1,Bool.false_eq_true,if_false,chk_of (inb_nat hk1),d2,Option.bind_some]
      · have hd:decide ((0:Int) < (k:Int)) = false:=by simp <;> omega
        simp only [hd,Bool.false_eq_true,if_false,Option.bind_some]
    · unfold qanx
      have hc:decide ((l.Postings.length:Int) < (l.Postings.length:Int)) = false:=by simp
      simp only [hc,Bool.false_eq_true,if_false]
  simp only [h1,Bool.false_eq_true,if_false,hloop,Option.bind_some,Sum.elim_inr,Sum.elim_inl]
theorem validate_same (l:GLedger):qahp l = qanw l:=by
  unfold qahp qanw
  have e:∀ s,qahq l s = qanx l s:=by
    intro s
    unfold qahq qanx
    cases decide (s < (l.Postings.length:Int)) with
    | false=>rfl
    | true =>
      simp only [if_true,chk]
      cases inb l.Postings s with
      | false=>rfl
      | true =>
        simp only [if_true,pvalid_eq,rvalid_eq,Option.bind_some]
        generalize vE (ix l.Postings s).Entry = b
        generalize decide ((ix l.Postings s).Entry.Amount = 0) = b1
        generalize decide ((ix l.Postings s).Number < 1) = b2
        generalize decide (65536 < (ix l.Postings s).Number) = b3
        generalize decide ((ix l.Postings s).Period < 0) = b4
        generalize decide (l.Closed < (ix l.Postings s).Period) = b5
        cases b <;> cases b1 <;> cases b2 <;> cases b3 <;> cases b4 <;> cases b5 <;> simp
  rw [loopV_congr e]
theorem pvalidate_ok {l:GLedger} (h:LOk l):qahp l = some 0:=(validate_same l).trans (rvalidate_ok h)
end Go.Proofs.YtdenliplkmjmjaaGreat.Pl
namespace Go.Proofs.YtdenliplkmjmjaaGreat.Pl
open Go
def cmp3 (a b:Int):Int:=if a < b then -1 else if b < a then 1 else 0
theorem compare_i (a b:Int):qagi a b = some (cmp3 a b):=by
  unfold qagi cmp_isNaN_int cmp3
  by_cases h1:a < b
  · simp [h1]
  · by_cases h2:b < a <;> simp [h1,h2]
def fstNZ:List Int → Int
  | []=>0
  | a :: l=>if a = 0 then fstNZ l else a
theorem or_eq (l:List Int) (hl:l.length ≤ 1000):cmp_Or_int l = some (fstNZ l):=by
  unfold cmp_Or_int
  have key:∀ (m:List Int) (k:Nat),l.drop k = m → k ≤ l.length → ∃ o,loopV (cmp_Or_int_l8 l) (k:Int) = some o ∧ ((o = .inr () ∧ fstNZ m = 0) ∨ o = .inl (fstNZ m)):=by
    intro m
    induction m with
    | nil =>
      intro k hk hle
      have hjl:l.length ≤ k:=by simpa [List.drop_eq_nil_iff] using hk
      refine ⟨.inr (),loopV_stop ?_,.inl ⟨rfl,rfl⟩⟩
      unfold cmp_Or_int_l8
      rw [if_neg (by simp; omega)]
    | cons a m ih =>
      intro k hk hle
      obtain ⟨h1,h2,h3⟩:=drop_cons hk
      by_cases ha:a = 0
      · obtain ⟨o,ho,hq⟩:=ih (k + 1) h3 (by omega)
        refine ⟨o,?_,by simpa [fstNZ,ha] using hq⟩
        refine (loopV_next (s':=((k + 1:Nat):Int)) ?_).trans ho
        unfold cmp_Or_int_l8
        rw [if_pos (by simp; omega),chk_of (inb_nat h1),ix_get h2,w64_id (by omega) (by omega)]
        simp [ha]
      · refine ⟨.inl a,loopV_stop ?_,.inr (by simp [fstNZ,ha])⟩
        unfold cmp_Or_int_l8
        rw [if_pos (by simp; omega),chk_of (inb_nat h1),ix_get h2]
        simp [ha]
  obtain ⟨o,ho,hq⟩:=key l 0 rfl (Nat.zero_le _)
  rw [show ((0:Nat):Int) = 0 from rfl] at ho
  rw [ho]
  rcases hq with ⟨rfl,h⟩ | rfl
  · simp [h]
  · simp
def cmpE (a b:GEntry):Int:=fstNZ [cmp3 a.Kind b.Kind,cmp3 a.Treaty b.Treaty,cmp3 a.Party b.Party,cmp3 a.Loss b.Loss]
theorem compare_eq (a b:GEntry):qahr a b = some (cmpE a b):=by
  unfold qahr
  simp only [compare_i,Option.bind_some]
  rw [or_eq _ (by simp)]
  rfl
theorem cmpE_lt (a b:GEntry):cmpE a b < 0 ↔ kLt a b = true:=by
  rw [kLt_iff]
  unfold cmpE fstNZ fstNZ fstNZ fstNZ fstNZ cmp3
  by_cases h1:a.Kind < b.Kind
  · simp [h1]
  · by_cases h2:b.Kind < a.Kind
    · simp [h1,h2]; omega
    · by_cases h3:a.Treaty < b.Treaty
      · simp [h1,h2,h3]; omega
      · by_cases h4:b.Treaty < a.Treaty
        · simp [h1,h2,h3,h4]; omega
        · by_cases h5:a.Party < b.Party
          · simp [h1,h2,h3,h4,h5]; omega
          · by_cases h6:b.Party < a.Party
            · simp [h1,h2,h3,h4,h5,h6]; omega
            · by_cases h7:a.Loss < b.Loss
              · simp [h1,h2,h3,h4,h5,h6,h7]; omega
              · by_cases h8:b.Loss < a.Loss
                · simp [h1,h2,h3,h4,h5,h6,h7,h8]
                · simp [h1,h2,h3,h4,h5,h6,h7,h8]
theorem orders_of {c:GEntry → GEntry → Option Int} (hc:∀ a b,c a b = some (cmpE a b)) {xs:List GEntry} (hl:xs.length ≤ 100000000):Orders c xs where
  len:=by omega
  def_:=fun x _ y _=>⟨_,hc x y⟩
  irr:=fun x _ r hr=>by
    rw [hc] at hr
    cases hr
    rw [cmpE_lt,kLt_irrefl]
    simp
  trans:=fun x _ y _ z _ r s t h1 h2 h3 h4 h5=>by
    rw [hc] at h1 h2 h3
    cases h1; cases h2; cases h3
    rw [cmpE_lt] at *
    exact kLt_trans h4 h5
  ntrans:=fun x _ y _ z _ r s t h1 h2 h3 h4 h5=>by
    rw [hc] at h1 h2 h3
    cases h1; cases h2; cases h3
    rw [cmpE_lt] at *
    have h4':kLt x y = false:=by simpa using h4
    have h5':kLt y z = false:=by simpa using h5
    have:=kLe_trans h5' h4'
    simp [this]
theorem kLt_le {a b c:GEntry} (h1:kLt a b = true) (h2:kLt c b = false):kLt a c = true:=by
  have e2:¬ _:=mt (kLt_iff c b).2 (by simp [h2])
  rw [kLt_iff] at h1 ⊢
  omega
def hd (e:GEntry):GEntry:=withA e 0
theorem hd_withA (e:GEntry) (a:Int):hd (withA e a) = hd e:=rfl
theorem hd_amount (e:GEntry):(hd e).Amount = 0:=rfl
theorem withA_hd (e:GEntry):withA (hd e) e.Amount = e:=rfl
theorem hd_eq_iff (a b:GEntry):hd a = hd b ↔ (kLt a b = false ∧ kLt b a = false):=by
  constructor
  · intro h
    have h1:kLt a b = kLt (hd a) (hd b):=rfl
    have h2:kLt b a = kLt (hd b) (hd a):=rfl
    rw [h1,h2,h]
    simp [kLt_irrefl]
  · rintro ⟨h1,h2⟩
    have e1:¬ _:=mt (kLt_iff a b).2 (by simp [h1])
    have e2:¬ _:=mt (kLt_iff b a).2 (by simp [h2])
    obtain ⟨k,t,p,l,x⟩:=a
    obtain ⟨k',t',p',l',x'⟩:=b
    simp only [hd,withA,GEntry.mk.injEq,and_true]
    simp only at e1 e2
    omega
def tot (l:List GEntry) (h:GEntry):Int:=sumA (l.filter fun e=>decide (hd e = h))
theorem tot_nil (h:GEntry):tot [] h = 0:=rfl
theorem tot_cons (x:GEntry) (l:List GEntry) (h:GEntry):tot (x :: l) h = (if hd x = h then x.Amount else 0) + tot l h:=by
  unfold tot
  by_cases hx:hd x = h
  · simp [hx,sumA_cons]
  · simp [hx]
theorem tot_append (a b:List GEntry) (h:GEntry):tot (a ++ b) h = tot a h + tot b h:=by
  unfold tot
  rw [List.filter_append,sumA_append]
theorem tot_perm {a b:List GEntry} (hp:a.Perm b) (h:GEntry):tot a h = tot b h:=by
  induction hp with
  | nil=>rfl
  | cons x _ ih=>rw [tot_cons,tot_cons,ih]
  | swap x y l=>simp only [tot_cons]; omega
  | trans _ _ h1 h2=>exact h1.trans h2
theorem tot_none {l:List GEntry} {h:GEntry} (hn:∀ e ∈ l,hd e ≠ h):tot l h = 0:=by
  induction l with
  | nil=>rfl
  | cons x l ih =>
    rw [tot_cons,if_neg (hn x (by simp)),ih fun e he=>hn e (by simp [he])]
    rfl
theorem tot_one {l:List GEntry} {h:GEntry} (hn:∀ e ∈ l,hd e = h):tot l h = sumA l:=by
  unfold tot
  rw [List.filter_eq_self.2 fun e he=>by simpa using hn e he]
theorem tot_range {l:List GEntry} (hA:Amts l) (h:GEntry) : -17592186044416 * (l.length:Int) ≤ tot l h ∧ tot l h ≤ 17592186044416 * (l.length:Int):=by
  have h1:=sumA_range (hA.sub (m:=l.filter fun e=>decide (hd e = h)) fun e he=>(List.mem_filter.1 he).1)
  have h2:=List.length_filter_le (fun e=>decide (hd e = h)) l
  unfold tot
  omega
def StrictE (l:List GEntry):Prop:=l.Pairwise fun a b=>kLt a b = true
theorem strict_ext:∀ {a b:List GEntry},StrictE a → StrictE b → (∀ e,e ∈ a ↔ e ∈ b) → a = b
  | [],[],_,_,_=>rfl
  | [],y :: b,_,_,h=>absurd ((h y).2 (by simp)) (by simp)
  | x :: a,[],_,_,h=>absurd ((h x).1 (by simp)) (by simp)
  | x :: a,y :: b,ha,hb,h=>by
    have ha':=List.pairwise_cons.1 ha
    have hb':=List.pairwise_cons.1 hb
    have hxy:x = y:=by
      have h1:=(h x).1 (by simp)
      have h2:=(h y).2 (by simp)
      rcases List.mem_cons.1 h1 with h1 | h1
      · exact h1
      · rcases List.mem_cons.1 h2 with h2 | h2
        · exact h2.symm
        · have h3:=kLt_trans (ha'.1 y h2) (hb'.1 x h1)
          rw [kLt_irrefl] at h3
          cases h3
    subst hxy
    congr 1
    refine strict_ext ha'.2 hb'.2 fun e=>?_
    constructor
    · intro he
      have h1:=(h e).1 (by simp [he])
      rcases List.mem_cons.1 h1 with h1 | h1
      · subst h1
        have:=ha'.1 e he
        rw [kLt_irrefl] at this
        cases this
      · exact h1
    · intro he
      have h1:=(h e).2 (by simp [he])
      rcases List.mem_cons.1 h1 with h1 | h1
      · subst h1
        have:=hb'.1 e he
        rw [kLt_irrefl] at this
        cases this
      · exact h1
structure Coll (l r:List GEntry):Prop where
  strict:StrictE r
  mem:∀ e,e ∈ r ↔ (e.Amount ≠ 0 ∧ tot l (hd e) = e.Amount)
theorem Coll.uniq {l a b:List GEntry} (ha:Coll l a) (hb:Coll l b):a = b:=strict_ext ha.strict hb.strict fun e=>by rw [ha.mem,hb.mem]
def TotOk (l:List GEntry):Prop:=∀ e ∈ l,vAmt (tot l (hd e)) = true
theorem twImp {α:Type} {p:α → Bool} {l:List α} {e:α} (h:e ∈ l.takeWhile p):p e = true:=by
  induction l with
  | nil=>cases h
  | cons a l ih =>
    rw [List.takeWhile_cons] at h
    split at h
    · rename_i hp
      rcases List.mem_cons.1 h with rfl | h
      · exact hp
      · exact ih h
    · cases h
theorem grp_spec (n:Nat):∀ s:List GEntry,s.length = n → SortedE s → match grp s with | none=>¬ TotOk s | some r=>TotOk s ∧ Coll s r:=by
  induction n using Nat.strongRecOn with
  | _ n ih =>
    intro s hn hs
    match s with
    | [] =>
      have e0:grp [] = some []:=by unfold grp; rfl
      rw [e0]
      exact ⟨fun e he=>(by cases he),⟨List.Pairwise.nil,fun e=>by simp only [List.not_mem_nil,tot_nil,false_iff]; omega⟩⟩
    | x :: l =>
      have hs':=List.pairwise_cons.1 hs
      have hsplit:l = (l.takeWhile fun y=>!kLt x y) ++ (l.dropWhile fun y=>!kLt x y):=(List.takeWhile_append_dropWhile).symm
      have htw:∀ e ∈ l.takeWhile (fun y=>!kLt x y),hd e = hd x:=fun e he=>by
        have h1:=twImp he
        have h2:=hs'.1 e ((List.takeWhile_sublist _).subset he)
        exact (hd_eq_iff e x).2 ⟨h2,by simpa using h1⟩
      have hdsub:List.Sublist (l.dropWhile fun y=>!kLt x y) l:=List.dropWhile_sublist _
      have hsd:SortedE (l.dropWhile fun y=>!kLt x y):=hs'.2.sublist hdsub
      have hdw:∀ e ∈ l.dropWhile (fun y=>!kLt x y),kLt x e = true:=by
        cases hq:l.dropWhile (fun y=>!kLt x y) with
        | nil=>intro e he; cases he
        | cons y m =>
          have hy:kLt x y = true:=by
            have:=List.head_dropWhile_not (fun y=>!kLt x y) (l:=l) (by rw [hq]; simp)
            simp only [hq,List.head_cons] at this
            simpa using this
          rw [hq] at hsd
          intro e he
          rcases List.mem_cons.1 he with rfl | he
          · exact hy
          · exact kLt_le hy ((List.pairwise_cons.1 hsd).1 e he)
      have hne:∀ e ∈ l.dropWhile (fun y=>!kLt x y),hd e ≠ hd x:=fun e he hc=>by
        have:=hdw e he
        rw [((hd_eq_iff e x).1 hc).2] at this
        cases this
      generalize htwe:l.takeWhile (fun y=>!kLt x y) = tw at hsplit htw
      generalize hdwe:l.dropWhile (fun y=>!kLt x y) = dw at hsplit hsd hdw hne hdsub
      have t1:tot (x :: l) (hd x) = x.Amount + sumA tw:=by
        rw [tot_cons,if_pos rfl,hsplit,tot_append,tot_one htw,tot_none hne]
        omega
      have t2:∀ h,h ≠ hd x → tot (x :: l) h = tot dw h:=fun h hh=>by
        rw [tot_cons,if_neg (fun e=>hh e.symm),hsplit,tot_append,tot_none (l:=tw) (h:=h) (fun e he hc=>hh (hc.symm.trans (htw e he)))]
        omega
      have hlen:=congrArg List.length hsplit
      rw [List.length_append] at hlen
      simp only [List.length_cons] at hn
      have hrec:=ih dw.length (by omega) dw rfl hsd
      have hmem:∀ e ∈ x :: l,e = x ∨ e ∈ tw ∨ e ∈ dw:=fun e he=>by
        rcases List.mem_cons.1 he with he | he
        · exact .inl he
        · rw [hsplit] at he
          exact .inr (List.mem_append.1 he)
      have hin:∀ e ∈ dw,e ∈ x :: l:=fun e he=>List.mem_cons_of_mem _ (hdsub.subset he)
      unfold grp
      simp only [htwe,hdwe]
      cases hv:vAmt (x.Amount + sumA tw) with
      | false =>
        simp only [Bool.false_eq_true,if_false]
        intro hT
        have:=hT x (by simp)
        rw [t1,hv] at this
        cases this
      | true =>
        simp only [if_true]
        cases hg:grp dw with
        | none =>
          rw [hg] at hrec
          simp only [Option.map_none]
          intro hT
          apply hrec
          intro e he
          have:=hT e (hin e he)
          rwa [t2 _ (hne e he)] at this
        | some r =>
          rw [hg] at hrec
          obtain ⟨hT,hC⟩:=hrec
          simp only [Option.map_some]
          have hr:∀ e ∈ r,hd e ≠ hd x ∧ kLt x e = true:=fun e he=>by
            obtain ⟨h1,h2⟩:=(hC.mem e).1 he
            have hex:∃ y ∈ dw,hd y = hd e:=by
              apply Classical.byContradiction
              intro hno
              have:=tot_none (l:=dw) (h:=hd e) (fun y hy hc=>hno ⟨y,hy,hc⟩)
              omega
            obtain ⟨y,hy,hye⟩:=hex
            refine ⟨fun hc=>hne y hy (hye.trans hc),?_⟩
            have h3:kLt x e = kLt x (hd e):=rfl
            have h4:kLt x y = kLt x (hd y):=rfl
            rw [h3,← hye,← h4]
            exact hdw y hy
          refine ⟨fun e he=>?_,?_,fun e=>?_⟩
          · rcases hmem e he with rfl | he | he
            · rw [t1]; exact hv
            · rw [htw e he,t1]; exact hv
            · rw [t2 _ (hne e he)]
              exact hT e he
          · split
            · exact hC.strict
            · exact List.pairwise_cons.2 ⟨fun e he=>(hr e he).2,hC.strict⟩
          · by_cases hx:hd e = hd x
            · have hner:e ∉ r:=fun he=>(hr e he).1 hx
              rw [hx,t1]
              by_cases h0:x.Amount + sumA tw = 0
              · rw [if_pos h0,h0]
                constructor
                · intro he; exact absurd he hner
                · intro he; exact absurd he.2.symm he.1
              · rw [if_neg h0,List.mem_cons]
                constructor
                · rintro (rfl | he)
                  · exact ⟨h0,rfl⟩
                  · exact absurd he hner
                · rintro ⟨_,h2⟩
                  left
                  rw [← withA_hd e,hx,← h2]
                  rfl
            · rw [t2 _ hx,← hC.mem]
              by_cases h0:x.Amount + sumA tw = 0
              · rw [if_pos h0]
              · rw [if_neg h0,List.mem_cons]
                constructor
                · rintro (rfl | he)
                  · exact absurd rfl hx
                  · exact he
                · intro he; exact .inr he
theorem totOk_perm {a b:List GEntry} (hp:a.Perm b):TotOk a ↔ TotOk b :=
  ⟨fun h e he=>by rw [← tot_perm hp]; exact h e (hp.mem_iff.2 he),fun h e he=>by rw [tot_perm hp]; exact h e (hp.mem_iff.1 he)⟩
theorem Coll.perm {a b r:List GEntry} (hp:a.Perm b) (h:Coll a r):Coll b r:=⟨h.strict,fun e=>by rw [h.mem,tot_perm hp]⟩
theorem grp_msort (l:List GEntry):match grp (msort l) with | none=>¬ TotOk l | some r=>TotOk l ∧ Coll l r:=by
  have h:=grp_spec _ (msort l) rfl (msort_sorted l)
  have hp:=msort_perm l
  cases hg:grp (msort l) with
  | none =>
    rw [hg] at h
    exact fun hT=>h ((totOk_perm hp).2 hT)
  | some r =>
    rw [hg] at h
    exact ⟨(totOk_perm hp).1 h.1,h.2.perm hp⟩
end Go.Proofs.YtdenliplkmjmjaaGreat.Pl
namespace Go.Proofs.YtdenliplkmjmjaaGreat.Pl
open Go
section
variable {K V:Type} [DecidableEq K]
def keys (m:List (K × V)):List K:=m.map Prod.fst
theorem mem_mset {m:List (K × V)} (hn:(keys m).Nodup) {k:K} {v:V} {p:K × V}:p ∈ mset m k v ↔ p = (k,v) ∨ (p ∈ m ∧ p.1 ≠ k):=by
  induction m with
  | nil=>simp [mset]
  | cons q m ih =>
    simp only [keys,List.map_cons,List.nodup_cons] at hn
    unfold mset
    by_cases hq:q.1 = k
    · rw [if_pos hq]
      simp only [List.mem_cons]
      constructor
      · rintro (rfl | h)
        · left; rw [← hq]
        · right
          refine ⟨.inr h,fun hc=>hn.1 ?_⟩
          rw [hq,← hc]
          exact List.mem_map_of_mem h
      · rintro (rfl | ⟨rfl | h,h2⟩)
        · left; rw [hq]
        · exact absurd hq h2
        · exact .inr h
    · rw [if_neg hq]
      simp only [List.mem_cons,ih hn.2]
      constructor
      · rintro (rfl | rfl | ⟨h,h2⟩)
        · exact .inr ⟨.inl rfl,hq⟩
        · exact .inl rfl
        · exact .inr ⟨.inr h,h2⟩
      · rintro (rfl | ⟨rfl | h,h2⟩)
        · exact .inr (.inl rfl)
        · exact .inl rfl
        · exact .inr (.inr ⟨h,h2⟩)
theorem keys_mset {m:List (K × V)} {k:K} {v:V} {x:K}:x ∈ keys (mset m k v) ↔ x = k ∨ x ∈ keys m:=by
  induction m with
  | nil=>simp [mset,keys]
  | cons q m ih =>
    unfold mset
    by_cases hq:q.1 = k
    · rw [if_pos hq]
      simp only [keys,List.map_cons,List.mem_cons]
      constructor
      · rintro (rfl | h)
        · exact .inl hq
        · exact .inr (.inr h)
      · rintro (rfl | rfl | h)
        · exact .inl hq.symm
        · exact .inl rfl
        · exact .inr h
    · rw [if_neg hq]
      simp only [keys,List.map_cons,List.mem_cons] at ih ⊢
      rw [ih]
      constructor
      · rintro (h | h | h)
        · exact .inr (.inl h)
        · exact .inl h
        · exact .inr (.inr h)
      · rintro (h | h | h)
        · exact .inr (.inl h)
        · exact .inl h
        · exact .inr (.inr h)
theorem nodup_mset {m:List (K × V)} (hn:(keys m).Nodup) {k:K} {v:V}:(keys (mset m k v)).Nodup:=by
  induction m with
  | nil=>simp [mset,keys]
  | cons q m ih =>
    have hn':=hn
    simp only [keys,List.map_cons,List.nodup_cons] at hn'
    unfold mset
    by_cases hq:q.1 = k
    · rw [if_pos hq]
      exact hn
    · rw [if_neg hq]
      simp only [keys,List.map_cons,List.nodup_cons]
      refine ⟨fun h=>?_,ih hn'.2⟩
      rcases keys_mset.1 h with h | h
      · exact hq h
      · exact hn'.1 h
theorem mget_mem {m:List (K × V)} (hn:(keys m).Nodup) {k:K} {v d:V} (h:(k,v) ∈ m):mget m k d = v:=by
  induction m with
  | nil=>cases h
  | cons q m ih =>
    simp only [keys,List.map_cons,List.nodup_cons] at hn
    unfold mget
    rcases List.mem_cons.1 h with rfl | h
    · rw [if_pos rfl]
    · rw [if_neg fun hc=>hn.1 (by rw [hc]; exact List.mem_map_of_mem (f:=Prod.fst) h)]
      exact ih hn.2 h
theorem mget_not {m:List (K × V)} {k:K} {d:V} (h:k ∉ keys m):mget m k d = d:=by
  induction m with
  | nil=>rfl
  | cons q m ih =>
    simp only [keys,List.map_cons,List.mem_cons,not_or] at h
    unfold mget
    rw [if_neg fun hc=>h.1 hc.symm]
    exact ih h.2
theorem length_mset (m:List (K × V)) (k:K) (v:V):(mset m k v).length ≤ m.length + 1:=by
  induction m with
  | nil=>simp [mset]
  | cons q m ih =>
    unfold mset
    split
    · simp
    · simp only [List.length_cons]; omega
end
theorem keys_perm {K V:Type} {a b:List (K × V)} (h:a.Perm b):(keys a).Perm (keys b):=h.map _
structure MapOf (M:List (GEntry × Int)) (T:GEntry → Int):Prop where
  nodup:(keys M).Nodup
  key:∀ p ∈ M,p.1.Amount = 0 ∧ p.2 = T p.1
  all:∀ h:GEntry,h.Amount = 0 → T h ≠ 0 → h ∈ keys M
theorem MapOf.nil:MapOf [] (fun _=>0):=⟨by simp [keys],fun p hp=>(by cases hp),fun h _ h2=>absurd rfl h2⟩
theorem MapOf.get {M:List (GEntry × Int)} {T:GEntry → Int} (hM:MapOf M T) {h:GEntry} (h0:h.Amount = 0):mget M h 0 = T h:=by
  by_cases hk:h ∈ keys M
  · obtain ⟨p,hp,rfl⟩:=List.mem_map.1 hk
    rw [mget_mem hM.nodup (v:=p.2) hp,(hM.key p hp).2]
  · rw [mget_not hk]
    apply Classical.byContradiction
    intro hne
    exact hk (hM.all h h0 fun hc=>hne hc.symm)
theorem MapOf.set {M:List (GEntry × Int)} {T T':GEntry → Int} (hM:MapOf M T) {h:GEntry} (h0:h.Amount = 0) {v:Int} (hv:v = T' h) (hT:∀ g,g ≠ h → T' g = T g):MapOf (mset M h v) T':=by
  refine ⟨nodup_mset hM.nodup,fun p hp=>?_,fun g hg hne=>?_⟩
  · rcases (mem_mset hM.nodup).1 hp with rfl | ⟨hp,hk⟩
    · exact ⟨h0,hv⟩
    · rw [hT _ hk]
      exact hM.key p hp
  · rw [keys_mset]
    by_cases hgh:g = h
    · exact .inl hgh
    · right
      refine hM.all g hg ?_
      rw [← hT g hgh]
      exact hne
theorem MapOf.congr {M:List (GEntry × Int)} {T T':GEntry → Int} (hM:MapOf M T) (h:∀ g,g.Amount = 0 → T g = T' g):MapOf M T' :=
  ⟨hM.nodup,fun p hp=>⟨(hM.key p hp).1,by rw [(hM.key p hp).2,h _ (hM.key p hp).1]⟩,fun g hg hne=>hM.all g hg (by rw [h g hg]; exact hne)⟩
def mkE (p:GEntry × Int):Option GEntry:=if p.2 = 0 then none else some (withA p.1 p.2)
def RoundOk (b:GEntry × Int → List GEntry → Option (List GEntry ⊕ (List GEntry × Int))):Prop :=
  ∀ p s,s.length ≤ 1000000 → b p s = if vAmt p.2 = true then (some (.inl (s ++ (mkE p).toList))) else some (.inr ([],3))
theorem range_ok {b:GEntry × Int → List GEntry → Option (List GEntry ⊕ (List GEntry × Int))} (hb:RoundOk b):∀ (ys:List (GEntry × Int)) (s:List GEntry),s.length + ys.length ≤ 1000000 → (∀ p ∈ ys,vAmt p.2 = true) → rangeV b ys s = some (.inl (s ++ ys.filterMap mkE))
  | [],s,_,_=>by simp [rangeV]
  | p :: ys,s,hl,hv=>by
    simp only [List.length_cons] at hl
    have hlen:(mkE p).toList.length ≤ 1:=by unfold mkE; split <;> simp
    unfold rangeV
    rw [hb p s (by omega),if_pos (hv p (by simp)),Option.bind_some]
    dsimp only
    rw [range_ok hb ys _ (by rw [List.length_append]; omega) fun q hq=>hv q (by simp [hq])]
    congr 2
    rw [List.append_assoc]
    congr 1
    cases h:mkE p <;> simp [h]
theorem range_bad {b:GEntry × Int → List GEntry → Option (List GEntry ⊕ (List GEntry × Int))} (hb:RoundOk b):∀ (ys:List (GEntry × Int)) (s:List GEntry),s.length + ys.length ≤ 1000000 → (∃ p ∈ ys,vAmt p.2 = false) → rangeV b ys s = some (.inr ([],3))
  | [],s,_,h=>by obtain ⟨p,hp,_⟩:=h; cases hp
  | p :: ys,s,hl,h=>by
    simp only [List.length_cons] at hl
    have hlen:(mkE p).toList.length ≤ 1:=by unfold mkE; split <;> simp
    unfold rangeV
    rw [hb p s (by omega)]
    cases hv:vAmt p.2 with
    | false=>simp
    | true =>
      simp only [if_true,Option.bind_some]
      obtain ⟨q,hq,hqv⟩:=h
      rcases List.mem_cons.1 hq with rfl | hq
      · rw [hv] at hqv; cases hqv
      · exact range_bad hb ys _ (by rw [List.length_append]; omega) ⟨q,hq,hqv⟩
structure CollT (T:GEntry → Int) (r:List GEntry):Prop where
  strict:StrictE r
  mem:∀ e,e ∈ r ↔ (e.Amount ≠ 0 ∧ T (hd e) = e.Amount)
theorem CollT.uniq {T:GEntry → Int} {a b:List GEntry} (ha:CollT T a) (hb:CollT T b):a = b:=strict_ext ha.strict hb.strict fun e=>by rw [ha.mem,hb.mem]
theorem Coll.T {l r:List GEntry} (h:Coll l r):CollT (tot l) r:=⟨h.strict,h.mem⟩
theorem CollT.congr {T T':GEntry → Int} {r:List GEntry} (h:CollT T r) (hT:∀ g,g.Amount = 0 → T g = T' g):CollT T' r:=⟨h.strict,fun e=>by rw [h.mem,hT _ (hd_amount e)]⟩
theorem sort_collT {c:GEntry → GEntry → Option Int} (hc:∀ a b,c a b = some (cmpE a b)) {M ys:List (GEntry × Int)} {T:GEntry → Int} (hM:MapOf M T) (hp:ys.Perm M) (hl:M.length ≤ 1000000):∃ r,sortV c (ys.filterMap mkE) = some r ∧ CollT T r:=by
  have hlen:(ys.filterMap mkE).length ≤ ys.length:=List.length_filterMap_le _ _
  have hyl:=hp.length_eq
  obtain ⟨r,hr,hperm,hsort⟩:=sortV_ok (orders_of hc (xs:=ys.filterMap mkE) (by omega))
  refine ⟨r,hr,?_⟩
  have hmem:∀ e,e ∈ r ↔ (e.Amount ≠ 0 ∧ T (hd e) = e.Amount):=by
    intro e
    rw [hperm.mem_iff,List.mem_filterMap]
    constructor
    · rintro ⟨p,hpm,hpe⟩
      have hpM:=hp.mem_iff.1 hpm
      unfold mkE at hpe
      split at hpe
      · cases hpe
      · rename_i h0
        cases hpe
        obtain ⟨k1,k2⟩:=hM.key p hpM
        refine ⟨h0,?_⟩
        have:hd (withA p.1 p.2) = p.1:=by
          obtain ⟨⟨a,b,c,d,x⟩,v⟩:=p
          simp only at k1
          subst k1
          rfl
        rw [this,← k2]
        rfl
    · rintro ⟨h0,hT⟩
      have hk:=hM.all (hd e) (hd_amount e) (by rw [hT]; exact h0)
      obtain ⟨p,hpM,hpk⟩:=List.mem_map.1 hk
      have h2:=(hM.key p hpM).2
      rw [hpk,hT] at h2
      refine ⟨p,hp.mem_iff.2 hpM,?_⟩
      unfold mkE
      rw [if_neg (by rw [h2]; exact h0),hpk,h2]
      rfl
  refine ⟨?_,hmem⟩
  have hap:(ys.filterMap mkE).Pairwise fun a b=>hd a ≠ hd b:=by
    have h1:ys.Pairwise fun p q=>p.1 ≠ q.1:=by
      have:=((keys_perm hp).nodup_iff).2 hM.nodup
      unfold keys at this
      exact List.pairwise_map.1 this
    have hz:∀ p ∈ ys,p.1.Amount = 0:=fun p hpm=>(hM.key p (hp.mem_iff.1 hpm)).1
    clear hmem hsort hperm hr hyl hlen hp
    induction ys with
    | nil=>exact List.Pairwise.nil
    | cons p ys ih =>
      have h1':=List.pairwise_cons.1 h1
      have ih':=ih h1'.2 (fun q hq=>hz q (by simp [hq]))
      cases hpe:mkE p with
      | none=>rw [List.filterMap_cons_none hpe]; exact ih'
      | some e =>
        rw [List.filterMap_cons_some hpe]
        refine List.pairwise_cons.2 ⟨fun e' he'=>?_,ih'⟩
        obtain ⟨q,hq,hqe⟩:=List.mem_filterMap.1 he'
        have hh:∀ {q:GEntry × Int} {e:GEntry},q.1.Amount = 0 → mkE q = some e → hd e = q.1:=by
          intro q e hq0 hqe
          unfold mkE at hqe
          split at hqe
          · cases hqe
          · cases hqe
            obtain ⟨⟨a,b,c,d,x⟩,v⟩:=q
            simp only at hq0
            subst hq0
            rfl
        rw [hh (hz p (by simp)) hpe,hh (hz q (by simp [hq])) hqe]
        exact h1'.1 q hq
  have hap2:r.Pairwise fun a b=>hd a ≠ hd b:=(hperm.pairwise_iff (fun {x y} h=>fun hc=>h hc.symm)).2 hap
  have hboth:=hsort.and hap2
  refine hboth.imp ?_
  rintro a b ⟨h1,h2⟩
  have h3:=h1 _ (hc b a)
  rw [cmpE_lt] at h3
  cases h4:kLt a b with
  | true=>rfl
  | false=>exact absurd ((hd_eq_iff a b).2 ⟨h4,by simpa using h3⟩) h2
theorem collect_map {b:GEntry × Int → List GEntry → Option (List GEntry ⊕ (List GEntry × Int))} (hb:RoundOk b) {c:GEntry → GEntry → Option Int} (hc:∀ x y,c x y = some (cmpE x y)) {M:List (GEntry × Int)} {T:GEntry → Int} (hM:MapOf M T) (hl:M.length ≤ 1000000)
    {k:List GEntry ⊕ (List GEntry × Int) → Option (List GEntry × Int)} (hk1:∀ s,k (.inl s) = (sortV c s).bind fun r=>some (r,0)) (hk2:∀ t,k (.inr t) = some t) {s0:List GEntry} (hs0:s0 = []) :
    ((∀ p ∈ M,vAmt p.2 = true) → ∃ r,rangeP b M s0 k = some (r,0) ∧ CollT T r) ∧ ((∃ p ∈ M,vAmt p.2 = false) → rangeP b M s0 k = some ([],3)):=by
  subst hs0
  constructor
  · intro hv
    obtain ⟨r,_,hr⟩:=sort_collT hc hM (List.Perm.refl M) hl
    refine ⟨r,rangeP_some.2 fun ys hy=>?_,hr⟩
    rw [range_ok hb ys [] (by have:=hy.length_eq; simp; omega) fun p hp=>hv p (hy.mem_iff.1 hp),Option.bind_some,hk1]
    obtain ⟨r',h1,h2⟩:=sort_collT hc hM hy hl
    rw [List.nil_append,h1,Option.bind_some,h2.uniq hr]
  · rintro ⟨p,hp,hv⟩
    refine rangeP_some.2 fun ys hy=>?_
    rw [range_bad hb ys [] (by have:=hy.length_eq; simp; omega) ⟨p,hy.mem_iff.2 hp,hv⟩,Option.bind_some,hk2]
end Go.Proofs.YtdenliplkmjmjaaGreat.Pl
namespace Go.Proofs.YtdenliplkmjmjaaGreat.Pl
open Go
theorem lround:RoundOk qahj:=by
  intro p s hs
  unfold qahj amount_Valid
  rw [Option.bind_some]
  have e2:(decide (-17592186044416 ≤ p.2) && decide (p.2 ≤ 17592186044416)) = vAmt p.2:=rfl
  rw [e2]
  cases hv:vAmt p.2 with
  | false=>simp
  | true =>
    by_cases h0:p.2 = 0
    · simp [mkE,h0]
    · have hr:room (s ++ [GEntry.mk p.1.Kind p.1.Treaty p.1.Party p.1.Loss p.2]).length = true:=room_of (by simp; omega)
      rw [chk_of hr]
      simp [mkE,h0,withA]
def bld (m:List (GEntry × Int)) (e:GEntry):List (GEntry × Int):=mset m (hd e) (w64 (mget m (hd e) 0 + e.Amount))
theorem bld_of {l:List GEntry} (hl:l.length ≤ 100000) (hA:Amts l):∀ k,k ≤ l.length → MapOf ((l.take k).foldl bld []) (tot (l.take k)) ∧ ((l.take k).foldl bld []).length ≤ k:=by
  intro k
  induction k with
  | zero=>intro _; exact ⟨MapOf.nil.congr fun g _=>by simp [tot_nil],by simp⟩
  | succ k ih =>
    intro hk
    obtain ⟨h1,h2⟩:=ih (by omega)
    have hkl:k < l.length:=by omega
    rw [List.take_succ_eq_append_getElem hkl,List.foldl_append]
    simp only [List.foldl_cons,List.foldl_nil]
    have hr:=tot_range (hA.sub (m:=l.take k) fun e he=>List.mem_of_mem_take he) (hd l[k])
    have hx:=hA l[k] (List.getElem_mem hkl)
    have hlen:(l.take k).length = k:=by rw [List.length_take]; omega
    rw [hlen] at hr
    have e1:w64 (mget ((l.take k).foldl bld []) (hd l[k]) 0 + l[k].Amount) = tot (l.take k) (hd l[k]) + l[k].Amount:=by
      rw [h1.get (hd_amount _),w64_id (by omega) (by omega)]
    have e2:bld ((l.take k).foldl bld []) l[k] = mset ((l.take k).foldl bld []) (hd l[k]) (tot (l.take k) (hd l[k]) + l[k].Amount):=by
      rw [← e1]
      rfl
    rw [e2]
    refine ⟨?_,?_⟩
    · refine h1.set (hd_amount _) ?_ fun g hg=>?_
      · rw [tot_append,tot_cons,if_pos rfl,tot_nil]
        omega
      · rw [tot_append,tot_cons,if_neg (fun hc=>hg hc.symm),tot_nil]
        omega
    · have:=length_mset ((l.take k).foldl bld []) (hd l[k]) (tot (l.take k) (hd l[k]) + l[k].Amount)
      omega
theorem qahg {l:List GEntry} (hl:l.length ≤ 65536) (h:∀ e ∈ l,vE e = true):qahh l = qanp l:=by
  rw [collect_all hl h]
  unfold qahh
  have hA:=Amts.of_valid h
  have hloop:loopV (qahi l) ([],0) = some (.inr (l.foldl bld [])):=by
    have hd:=loopV_done (step:=qahi l) (fun k=>((l.take k).foldl bld [],(k:Int))) l.length (.inr (l.foldl bld [])) (fun k hk=>?_) ?_
    · simpa using hd
    · unfold qahi
      have e1:w64 ((k:Int) + 1) = ((k + 1:Nat):Int):=by rw [w64_id (by omega) (by omega)]; rfl
      dsimp only
      rw [if_pos (by simp; omega),chk_of (inb_nat hk),ix_nat hk,pvalid_eq,Option.bind_some,h _ (List.getElem_mem hk),e1,List.take_succ_eq_append_getElem hk,List.foldl_append]
      simp only [Bool.not_true,Bool.false_eq_true,if_false,List.foldl_cons,List.foldl_nil]
      rfl
    · unfold qahi
      dsimp only
      rw [if_neg (by simp),List.take_of_length_le (Nat.le_refl _)]
  rw [if_neg (by simp; omega),hloop]
  simp only [Option.bind_some,Sum.elim_inr,Sum.elim_inl]
  obtain ⟨hM,hlen⟩:=bld_of (by omega) hA l.length (Nat.le_refl _)
  rw [List.take_of_length_le (Nat.le_refl _)] at hM hlen
  rw [chk_of (by simp),chk_of (by simp; omega)]
  have hcm:=collect_map (M:=l.foldl bld []) lround compare_eq hM (by omega) (k:=Sum.elim (fun s42=>(qale s42).bind fun r22_1=>some (r22_1,0)) (fun t42=>some t42)) (fun s=>rfl) (fun t=>rfl) (s0:=List.replicate (0:Int).toNat (GEntry.mk 0 0 0 0 0)) rfl
  have hkeys:∀ e ∈ l,hd e ∈ keys (l.foldl bld []):=by
    have key:∀ (l:List GEntry) (m:List (GEntry × Int)) (g:GEntry),(g ∈ keys m ∨ ∃ e ∈ l,hd e = g) → g ∈ keys (l.foldl bld m):=by
      intro l
      induction l with
      | nil =>
        intro m g hg
        rcases hg with hg | ⟨e,he,_⟩
        · exact hg
        · cases he
      | cons x l ih =>
        intro m g hg
        rw [List.foldl_cons]
        apply ih
        rcases hg with hg | ⟨e,he,rfl⟩
        · exact .inl (keys_mset.2 (.inr hg))
        · rcases List.mem_cons.1 he with rfl | he
          · exact .inl (keys_mset.2 (.inl rfl))
          · exact .inr ⟨e,he,rfl⟩
    exact fun e he=>key l [] (hd e) (.inr ⟨e,he,rfl⟩)
  have hfrom:∀ p ∈ l.foldl bld [],∃ e ∈ l,hd e = p.1:=by
    have key:∀ (l:List GEntry) (m:List (GEntry × Int)) (g:GEntry),g ∈ keys (l.foldl bld m) → g ∈ keys m ∨ ∃ e ∈ l,hd e = g:=by
      intro l
      induction l with
      | nil=>intro m g hg; exact .inl hg
      | cons x l ih =>
        intro m g hg
        rw [List.foldl_cons] at hg
        rcases ih _ g hg with hg | ⟨e,he,rfl⟩
        · rcases keys_mset.1 hg with rfl | hg
          · exact .inr ⟨x,by simp,rfl⟩
          · exact .inl hg
        · exact .inr ⟨e,by simp [he],rfl⟩
    intro p hp
    rcases key l [] p.1 (List.mem_map_of_mem hp) with h1 | h1
    · simp [keys] at h1
    · exact h1
  have hg:=grp_msort l
  cases hgr:grp (msort l) with
  | none =>
    rw [hgr] at hg
    refine hcm.2 ?_
    apply Classical.byContradiction
    intro hno
    apply hg
    intro e he
    obtain ⟨p,hp,hpk⟩:=List.mem_map.1 (hkeys e he)
    cases hv:vAmt (tot l (hd e)) with
    | true=>rfl
    | false =>
      exfalso
      refine hno ⟨p,hp,?_⟩
      rw [(hM.key p hp).2,hpk,hv]
  | some r =>
    rw [hgr] at hg
    obtain ⟨r',h1,h2⟩:=hcm.1 fun p hp=>by
      obtain ⟨e,he,hpe⟩:=hfrom p hp
      rw [(hM.key p hp).2,← hpe]
      exact hg.1 e he
    rw [h1,h2.uniq hg.2.T]
theorem collect_inv1 {l:List GEntry} (hl:l.length ≤ 65536) (h:¬ ∀ e ∈ l,vE e = true):qahh l = some ([],1):=by
  unfold qahh
  have key:=loopV_inv (step:=qahi l) (fun s=>∃ k:Nat,s.2 = (k:Int) ∧ k ≤ l.length ∧ ∀ j (hj:j < l.length),j < k → vE l[j] = true) (fun s=>l.length - s.2.toNat) (fun o=>o = .inl ([],1)) ?_ ([],0) ⟨0,rfl,by omega,fun j _ h=>by omega⟩
  · obtain ⟨o,ho,rfl⟩:=key
    rw [if_neg (by simp; omega),ho]
    simp
  · rintro ⟨m,i⟩ ⟨k,hk0,hk,hj⟩
    dsimp only at hk0
    subst hk0
    unfold qahi
    dsimp only
    by_cases hkl:k < l.length
    · have ek:w64 ((k:Int) + 1) = (k:Int) + 1:=w64_id (by omega) (by omega)
      rw [if_pos (by simp; omega),chk_of (inb_nat hkl),ix_nat hkl,pvalid_eq,Option.bind_some,ek]
      cases hv:vE l[k] with
      | false=>exact ⟨_,rfl,rfl⟩
      | true =>
        refine ⟨_,rfl,⟨k + 1,by simp,by omega,fun j hj1 hj2=>?_⟩,by simp; omega⟩
        by_cases e:j = k
        · subst e; exact hv
        · exact hj j hj1 (by omega)
    · exfalso
      apply h
      intro e he
      obtain ⟨j,hj1,rfl⟩:=List.getElem_of_mem he
      exact hj j hj1 (by omega)
theorem collect_inv2 {l:List GEntry} (hl:l.length ≤ 65536) (h:¬ ∀ e ∈ l,vE e = true):qanp l = some ([],1):=by
  unfold qanp
  have key:=loopV_inv (step:=qanq l) (fun s=>∃ k:Nat,s = (k:Int) ∧ k ≤ l.length ∧ ∀ j (hj:j < l.length),j < k → vE l[j] = true) (fun s=>l.length - s.toNat) (fun o=>o = .inl ([],1)) ?_ 0 ⟨0,rfl,by omega,fun j _ h=>by omega⟩
  · obtain ⟨o,ho,rfl⟩:=key
    rw [if_neg (by simp; omega),ho]
    simp
  · rintro _ ⟨k,rfl,hk,hj⟩
    unfold qanq
    by_cases hkl:k < l.length
    · rw [if_pos (by simp; omega),chk_of (inb_nat hkl),ix_nat hkl,rvalid_eq,Option.bind_some,w64_id (by omega) (by omega)]
      cases hv:vE l[k] with
      | false=>exact ⟨_,rfl,rfl⟩
      | true =>
        refine ⟨_,rfl,⟨k + 1,by simp,by omega,fun j hj1 hj2=>?_⟩,by omega⟩
        by_cases e:j = k
        · subst e; exact hv
        · exact hj j hj1 (by omega)
    · exfalso
      apply h
      intro e he
      obtain ⟨j,hj1,rfl⟩:=List.getElem_of_mem he
      exact hj j hj1 (by omega)
theorem collect_same (l:List GEntry):qahh l = qanp l:=by
  by_cases hl:l.length ≤ 65536
  · by_cases h:∀ e ∈ l,vE e = true
    · exact qahg hl h
    · rw [collect_inv1 hl h,collect_inv2 hl h]
  · unfold qahh qanp
    rw [if_pos (by simp; omega),if_pos (by simp; omega)]
theorem grp_len (n:Nat):∀ s:List GEntry,s.length = n → ∀ r,grp s = some r → r.length ≤ s.length:=by
  induction n using Nat.strongRecOn with
  | _ n ih =>
    intro s hn r hr
    match s with
    | [] =>
      unfold grp at hr
      cases hr
      simp
    | x :: l =>
      unfold grp at hr
      simp only at hr
      have hle:=(List.dropWhile_suffix (fun y=>!kLt x y) (l:=l)).length_le
      simp only [List.length_cons] at hn
      split at hr
      · obtain ⟨r',h1,h2⟩:=Option.map_eq_some_iff.1 hr
        have:=ih _ (by omega) _ rfl r' h1
        simp only [List.length_cons]
        split at h2
        · subst h2; omega
        · subst h2; simp only [List.length_cons]; omega
      · cases hr
theorem collect_tot (l:List GEntry):∃ r e,qanp l = some (r,e) ∧ r.length ≤ 65536 ∧ (e = 0 → l.length ≤ 65536 ∧ (∀ x ∈ l,vE x = true) ∧ TotOk l ∧ Coll l r):=by
  by_cases hl:l.length ≤ 65536
  · by_cases h:∀ e ∈ l,vE e = true
    · rw [collect_all hl h]
      have hg:=grp_msort l
      cases hgr:grp (msort l) with
      | none=>exact ⟨_,_,rfl,by simp,fun h=>by cases h⟩
      | some r =>
        rw [hgr] at hg
        refine ⟨r,0,rfl,?_,fun _=>⟨hl,h,hg.1,hg.2⟩⟩
        have:=grp_len _ (msort l) rfl r hgr
        rw [msort_length] at this
        omega
    · exact ⟨_,_,collect_inv2 hl h,by simp,fun h=>by cases h⟩
  · refine ⟨[],4,?_,by simp,fun h=>by cases h⟩
    unfold qanp
    rw [if_pos (by simp; omega)]
end Go.Proofs.YtdenliplkmjmjaaGreat.Pl
namespace Go.Proofs.YtdenliplkmjmjaaGreat.Pl
structure DOk (d:GDeck):Prop where
  at0:0 ≤ d.At
  len:d.L.length ≤ 9223372036854775807
theorem next_ok {d:GDeck} (h:DOk d) {n:Int} (h1:1 ≤ n) (h2:n ≤ 4611686018427387904):∃ v d',qanc d n = some (v,d') ∧ 0 ≤ v ∧ v < n ∧ DOk d':=by
  unfold qanc
  have hl:=h.len
  have h0:=h.at0
  by_cases hc:(d.L.length:Int) ≤ d.At
  · have hc':decide ((d.L.length:Int) ≤ d.At) = true:=by simpa using hc
    exact ⟨0,d,by simp only [hc',if_true],by omega,by omega,h⟩
  · have hc':decide ((d.L.length:Int) ≤ d.At) = false:=by simpa using hc
    have e1:w64 (d.At + 1) = d.At + 1:=w64_id (by omega) (by omega)
    have e2:w64 (d.At + 1 - 1) = d.At:=by rw [w64_id (by omega) (by omega)]; omega
    have hin:inb d.L d.At = true:=inb_of h0 (by omega)
    have hn:(!decide (n = 0)) = true:=by simp <;> omega
    simp only [hc',Bool.false_eq_true,if_false,e1,e2,chk_of hin,chk_of hn]
    generalize ix d.L d.At = x
    have hm1 : -n < x.tmod n ∧ x.tmod n < n:=by
      have a1:=Int.tmod_lt_of_pos x (show 0 < n by omega)
      have a2:=Int.lt_tmod_of_pos x (show 0 < n by omega)
      omega
    have e3:w64 (x.tmod n + n) = x.tmod n + n:=w64_id (by omega) (by omega)
    rw [e3]
    have hnn:0 ≤ x.tmod n + n:=by omega
    refine ⟨_,_,rfl,Int.tmod_nonneg _ hnn,Int.tmod_lt_of_pos _ (by omega),⟨?_,hl⟩⟩
    show 0 ≤ d.At + 1
    omega
structure EOk (e:GEntry):Prop where
  head:headB e = true
  lo : -34359738368 ≤ e.Amount
  hi:e.Amount ≤ 34359738368
  tre:e.Treaty ≤ 3
  par:e.Party ≤ 3
theorem EOk.valid {e:GEntry} (h:EOk e):vE e = true:=by
  have h1:=h.lo
  have h2:=h.hi
  simp only [vE,h.head,Bool.true_and]
  exact (vAmt_iff _).2 (by omega)
theorem entry_ok {d:GDeck} (h:DOk d):∃ e d',qamv d = some (e,d') ∧ EOk e ∧ DOk d':=by
  unfold qamv
  obtain ⟨v1,d1,e1,a1,b1,h1⟩:=next_ok h (n:=5) (by omega) (by omega)
  obtain ⟨v2,d2,e2,a2,b2,h2⟩:=next_ok h1 (n:=4) (by omega) (by omega)
  obtain ⟨v3,d3,e3,a3,b3,h3⟩:=next_ok h2 (n:=4) (by omega) (by omega)
  obtain ⟨v4,d4,e4,a4,b4,h4⟩:=next_ok h3 (n:=400) (by omega) (by omega)
  simp only [e1,e2,e3,e4,Option.bind_some]
  have w1:w64 (1 + v1) = 1 + v1:=w64_id (by omega) (by omega)
  rw [w1]
  have step:∃ loss d5,(if decide (1 + v1 ≤ 2) = true then (qanc d4 3).bind fun r3_1=>some (r3_1.2.L,r3_1.2.At,w64 (1 + r3_1.1)) else some (d4.L,d4.At,0)) = some (d5.L,d5.At,loss) ∧ DOk d5 ∧ (if 1 + v1 ≤ 2 then 1 ≤ loss ∧ loss ≤ 3 else loss = 0):=by
    by_cases hk:1 + v1 ≤ 2
    · have hk':decide (1 + v1 ≤ 2) = true:=by simpa using hk
      obtain ⟨v5,d5,e5,a5,b5,h5⟩:=next_ok h4 (n:=3) (by omega) (by omega)
      refine ⟨1 + v5,d5,?_,h5,?_⟩
      · simp only [hk',if_true,e5,Option.bind_some,w64_id (show -9223372036854775808 ≤ 1 + v5 by omega) (by omega)]
      · rw [if_pos hk]; omega
    · have hk':decide (1 + v1 ≤ 2) = false:=by simpa using hk
      exact ⟨0,d4,by simp only [hk',Bool.false_eq_true,if_false],h4,by rw [if_neg hk]⟩
  obtain ⟨loss,d5,hs,h5,hloss⟩:=step
  rw [hs]
  simp only [Option.bind_some]
  obtain ⟨v6,d6,e6,a6,b6,h6⟩:=next_ok (d:=⟨d5.L,d5.At⟩) h5 (n:=8) (by omega) (by omega)
  simp only [e6,Option.bind_some]
  have hhead:∀ am,headB (GEntry.mk (1 + v1) v2 v3 loss am) = true:=fun am=>by
    unfold headB
    by_cases hk:1 + v1 ≤ 2
    · rw [if_pos hk] at hloss
      have:(1 + v1 = 1 ∨ 1 + v1 = 2):=by omega
      simp only [this,if_true]
      simp <;> omega
    · rw [if_neg hk] at hloss
      have:¬ (1 + v1 = 1 ∨ 1 + v1 = 2):=by omega
      simp only [this,if_false]
      simp <;> omega
  by_cases hv:v6 = 0
  · have hv':decide (v6 = 0) = true:=by simpa using hv
    obtain ⟨v7,d7,e7,a7,b7,h7⟩:=next_ok h6 (n:=68719476736) (by omega) (by omega)
    simp only [hv',if_true,e7,Option.bind_some]
    refine ⟨_,_,rfl,⟨hhead _,?_,?_,by show v2 ≤ 3; omega,by show v3 ≤ 3; omega⟩,h7⟩
    all_goals
      show _ ≤ _
      dsimp only
      rw [w64_id (by omega) (by omega)]
      omega
  · have hv':decide (v6 = 0) = false:=by simpa using hv
    simp only [hv',Bool.false_eq_true,if_false,Option.bind_some]
    refine ⟨_,_,rfl,⟨hhead _,?_,?_,by show v2 ≤ 3; omega,by show v3 ≤ 3; omega⟩,h6⟩
    all_goals
      show _ ≤ _
      dsimp only
      rw [w64_id (by omega) (by omega)]
      omega
theorem entriesLoop:∀ (k:Nat) (d:GDeck) (out:List GEntry),DOk d → out.length + k ≤ 100 → (∀ e ∈ out,EOk e) →
    ∃ d' r,loopV qamu (d.L,d.At,out,(k:Int)) = some (d'.L,d'.At,r) ∧ DOk d' ∧ r.length = out.length + k ∧ ∀ e ∈ r,EOk e
  | 0,d,out,hd,_,ho=>⟨d,out,loopV_stop (by unfold qamu; simp),hd,by simp,ho⟩
  | k + 1,d,out,hd,hl,ho=>by
    obtain ⟨e,d',he,hok,hd'⟩:=entry_ok (d:=⟨d.L,d.At⟩) hd
    have hroom:room (out ++ [e]).length = true:=room_of (by simp <;> omega)
    have hst:qamu (d.L,d.At,out,((k + 1:Nat):Int)) = some (.inl (d'.L,d'.At,out ++ [e],(k:Int))):=by
      unfold qamu
      have hc:decide ((0:Int) < ((k + 1:Nat):Int)) = true:=by simp <;> omega
      have e1:w64 (((k + 1:Nat):Int) - 1) = (k:Int):=by rw [w64_id (by omega) (by omega)]; omega
      simp only [hc,if_true,he,Option.bind_some,chk_of hroom,e1]
    obtain ⟨d2,r,h1,h2,h3,h4⟩:=entriesLoop k d' (out ++ [e]) hd' (by simp <;> omega) (fun x hx=>by
      rcases List.mem_append.1 hx with hx | hx
      · exact ho x hx
      · simp at hx; subst hx; exact hok)
    exact ⟨d2,r,(loopV_next hst).trans h1,h2,by rw [h3]; simp <;> omega,h4⟩
theorem entries_ok {d:GDeck} (h:DOk d) (n:Nat) (hn:n ≤ 50):∃ r d',qamt d (n:Int) = some (r,d') ∧ DOk d' ∧ r.length ≤ n ∧ ∀ e ∈ r,EOk e:=by
  unfold qamt
  have e1:w64 ((n:Int) + 1) = (n:Int) + 1:=w64_id (by omega) (by omega)
  obtain ⟨v,d1,e2,a1,b1,h1⟩:=next_ok h (n:=(n:Int) + 1) (by omega) (by omega)
  obtain ⟨d2,r,h2,h3,h4,h5⟩:=entriesLoop v.toNat d1 [] h1 (by simp <;> omega) (fun e he=>by cases he)
  have ev:((v.toNat:Nat):Int) = v:=by omega
  rw [ev] at h2
  simp only [e1,e2,Option.bind_some,h2]
  exact ⟨r,d2,rfl,h3,by rw [h4]; simp <;> omega,h5⟩
theorem absA_EOk {l:List GEntry} (h:∀ e ∈ l,EOk e):absA l ≤ 34359738368 * (l.length:Int):=by
  induction l with
  | nil=>simp [absA]
  | cons x l ih =>
    have h1:=ih fun e he=>h e (by simp [he])
    have h2:=(h x (by simp)).lo
    have h3:=(h x (by simp)).hi
    rw [absA_cons,List.length_cons]
    omega
theorem grp_from (n:Nat):∀ s:List GEntry,s.length = n → ∀ r,grp s = some r → ∀ e ∈ r,∃ y ∈ s,y.Treaty = e.Treaty ∧ y.Party = e.Party:=by
  induction n using Nat.strongRecOn with
  | _ n ih =>
    intro s hn r hr e he
    match s with
    | [] =>
      unfold grp at hr
      cases hr
      cases he
    | x :: l =>
      unfold grp at hr
      simp only at hr
      have hle:=(List.dropWhile_suffix (fun y=>!kLt x y) (l:=l)).length_le
      simp only [List.length_cons] at hn
      split at hr
      · obtain ⟨r',h1,h2⟩:=Option.map_eq_some_iff.1 hr
        have hrec:∀ e ∈ r',∃ y ∈ x :: l,y.Treaty = e.Treaty ∧ y.Party = e.Party:=fun e he=>by
          obtain ⟨y,hy,hy2⟩:=ih _ (by omega) _ rfl r' h1 e he
          exact ⟨y,List.mem_cons_of_mem _ ((List.dropWhile_suffix _).subset hy),hy2⟩
        split at h2
        · subst h2; exact hrec e he
        · subst h2
          rcases List.mem_cons.1 he with rfl | he
          · exact ⟨x,by simp,rfl,rfl⟩
          · exact hrec e he
      · cases hr
theorem collect_from {l r:List GEntry} (hl:l.length ≤ 65536) (h:∀ e ∈ l,vE e = true) (hr:qanp l = some (r,0)):∀ e ∈ r,∃ y ∈ l,y.Treaty = e.Treaty ∧ y.Party = e.Party:=fun e he=>by
  rw [collect_all hl h] at hr
  cases hq:grp (msort l) with
  | none=>rw [hq] at hr; simp at hr
  | some r' =>
    rw [hq] at hr
    simp at hr
    subst hr
    obtain ⟨y,hy,hy2⟩:=grp_from _ (msort l) rfl r' hq e he
    exact ⟨y,(msort_perm l).mem_iff.1 hy,hy2⟩
def mkPost (c n:Int):List GEntry → List GPosting
  | []=>[]
  | e :: l=>⟨n,c,e⟩ :: mkPost c (n + 1) l
theorem mkPost_length (c n:Int) (l:List GEntry):(mkPost c n l).length = l.length:=by
  induction l generalizing n with
  | nil=>rfl
  | cons e l ih=>simp [mkPost,ih]
theorem mkPost_get (c n:Int) (l:List GEntry) (i:Nat) (h:i < (mkPost c n l).length):(mkPost c n l)[i].Number = n + i ∧ (mkPost c n l)[i].Period = c ∧ (mkPost c n l)[i].Entry = l[i]'(by rw [mkPost_length] at h; exact h):=by
  induction l generalizing n i with
  | nil=>simp [mkPost] at h
  | cons e l ih =>
    cases i with
    | zero=>simp [mkPost]
    | succ i =>
      have:=ih (n + 1) i (by simpa [mkPost] using h)
      simp only [mkPost,List.getElem_cons_succ]
      refine ⟨by rw [this.1]; omega,this.2.1,this.2.2⟩
theorem qahx (c n:Int) (l:List GEntry):(mkPost c n l).map (·.Entry) = l:=by
  induction l generalizing n with
  | nil=>rfl
  | cons e l ih=>simp [mkPost,ih]
theorem postLoop (a:GLedger) (cs:List GEntry) (z:Int) (s:Int) (hs0:0 ≤ s) (hs:s ≤ 100000) (hc:cs.length ≤ 65536):∀ (l:List GEntry) (i:Nat) (out:List GPosting),cs.drop i = l → i ≤ cs.length → out.length ≤ 200000 + i →
    loopV (qans a (cs,z) s) (out,(i:Int)) = some (out ++ mkPost a.Closed (s + i) l):=by
  intro l
  induction l with
  | nil =>
    intro i out hl hi ho
    have hjl:cs.length ≤ i:=by simpa [List.drop_eq_nil_iff] using hl
    refine loopV_stop ?_
    unfold qans
    have h1:decide ((i:Int) < (cs.length:Int)) = false:=by simp <;> omega
    simp only [h1,Bool.false_eq_true,if_false]
    simp [mkPost]
  | cons x l ih =>
    intro i out hl hi ho
    obtain ⟨hk,hx,hd⟩:=drop_cons hl
    have hcc:decide ((i:Int) < (cs.length:Int)) = true:=by simp <;> omega
    have hx2:ix cs (i:Int) = x:=ix_get hx
    have e1:w64 ((i:Int) + 1) = ((i + 1:Nat):Int):=by rw [w64_id (by omega) (by omega)]; rfl
    have e2:w64 (s + (i:Int)) = s + (i:Int):=w64_id (by omega) (by omega)
    have hroom:room (out ++ [GPosting.mk (s + (i:Int)) a.Closed x]).length = true:=room_of (by simp <;> omega)
    have hst:qans a (cs,z) s (out,(i:Int)) = some (.inl (out ++ [GPosting.mk (s + (i:Int)) a.Closed x],((i + 1:Nat):Int))):=by
      unfold qans
      simp only [hcc,if_true,chk_of (inb_nat hk),hx2,e1,e2,chk_of hroom]
    rw [loopV_next hst,ih (i + 1) _ hd (by omega) (by simp <;> omega)]
    simp only [mkPost,List.append_assoc,List.cons_append,List.nil_append]
    rw [show s + ((i + 1:Nat):Int) = s + (i:Int) + 1 by omega]
structure Made (l:GLedger) (j:Nat):Prop where
  ok:LOk l
  closed:l.Closed ≤ j
  few:l.Postings.length ≤ 4 * j
  nums:∀ p ∈ l.Postings,p.Number ≤ 4 * (j:Int)
  small:absA (l.Postings.map (·.Entry)) ≤ 137438953472 * (j:Int)
  tre:∀ p ∈ l.Postings,p.Entry.Treaty ≤ 3 ∧ p.Entry.Party ≤ 3
theorem close_made {l:GLedger} {j:Nat} (h:Made l j) (hj:j < 50):∃ l',qano l = some (l',0) ∧ Made l' (j + 1):=by
  unfold qano
  have h1:=h.closed
  have h2:=h.few
  have h3:=h.ok.c0
  have hc:decide (l.Closed = 100) = false:=by simp <;> omega
  have hr:room l.Postings.length = true:=room_of (by omega)
  simp only [rvalidate_ok h.ok,Option.bind_some,decide_true,Bool.not_true,Bool.false_eq_true,if_false,hc,chk_of hr,w64_id (show -9223372036854775808 ≤ l.Closed + 1 by omega) (by omega)]
  refine ⟨_,rfl,⟨⟨by show 0 ≤ l.Closed + 1; omega,by show l.Closed + 1 ≤ 100; omega,h.ok.len,fun p hp=>?_,h.ok.ord⟩,by show l.Closed + 1 ≤ _; omega,by show l.Postings.length ≤ _; omega,fun p hp=>?_,?_,h.tre⟩⟩
  · obtain ⟨a1,a2,a3,a4,a5,a6⟩:=h.ok.ent p hp
    exact ⟨a1,a2,a3,a4,a5,by show p.Period ≤ l.Closed + 1; omega⟩
  · have:=h.nums p hp; omega
  · have:=h.small
    show absA (l.Postings.map (·.Entry)) ≤ _
    omega
theorem post_made {l:GLedger} {j:Nat} (h:Made l j) (hj:j < 50) {es:List GEntry} (he:∀ e ∈ es,EOk e) (hl:es.length ≤ 4):∃ l',qanr l es = some (l',0) ∧ Made l' (j + 1):=by
  unfold qanr
  have h1:=h.closed
  have h2:=h.few
  have h3:=h.ok.c0
  have habs:=absA_EOk he
  obtain ⟨cs,hcs,hcl,hca,hce⟩:=collect_ok (l:=es) (by omega) (fun e hx=>(he e hx).valid) (by omega)
  have hc:decide (l.Closed = 100) = false:=by simp <;> omega
  have hr:room l.Postings.length = true:=room_of (by omega)
  have hlast:∃ s:Int,(if decide (0 < (l.Postings.length:Int)) = true then chk (inb l.Postings (w64 ((l.Postings.length:Int) - 1))) (some (w64 ((ix l.Postings (w64 ((l.Postings.length:Int) - 1))).Number + 1))) else some 1) = some s ∧ 1 ≤ s ∧ s ≤ 4 * (j:Int) + 1 ∧ (∀ p ∈ l.Postings.getLast?,p.Number < s):=by
    by_cases h0:0 < l.Postings.length
    · have hd:decide (0 < (l.Postings.length:Int)) = true:=by simp <;> omega
      have hk1:l.Postings.length - 1 < l.Postings.length:=by omega
      have hn:=h.nums _ (List.getElem_mem hk1)
      have hn2:=(h.ok.ent _ (List.getElem_mem hk1)).2.2.1
      refine ⟨(l.Postings[l.Postings.length - 1]).Number + 1,?_,by omega,by omega,fun p hp=>?_⟩
      · simp only [hd,if_true,w64_pred _ h0 (by have:=h.ok.len; omega),chk_of (inb_nat hk1),ix_nat hk1]
        rw [w64_id (by omega) (by omega)]
      · rw [List.getLast?_eq_getElem?,List.getElem?_eq_getElem hk1] at hp
        simp at hp
        subst hp
        omega
    · have hd:decide (0 < (l.Postings.length:Int)) = false:=decide_eq_false (by omega)
      refine ⟨1,by simp only [hd,Bool.false_eq_true,if_false],by omega,by omega,fun p hp=>?_⟩
      have:l.Postings = []:=List.eq_nil_of_length_eq_zero (by omega)
      rw [this] at hp
      simp at hp
  obtain ⟨s,hs,hs1,hs2,hs3⟩:=hlast
  have hloop:=postLoop l cs 0 s (by omega) (by omega) (by omega) cs 0 l.Postings rfl (Nat.zero_le _) (by omega)
  have e1:w64 ((l.Postings.length:Int) + (cs.length:Int)) = (l.Postings.length:Int) + (cs.length:Int):=w64_id (by omega) (by omega)
  have e2:w64 (s - 1) = s - 1:=w64_id (by omega) (by omega)
  have e3:w64 (s - 1 + (cs.length:Int)) = s - 1 + (cs.length:Int):=w64_id (by omega) (by omega)
  have hb:(decide (65536 < (l.Postings.length:Int) + (cs.length:Int)) || decide (65536 < s - 1 + (cs.length:Int))) = false:=by simp <;> omega
  simp only [rvalidate_ok h.ok,Option.bind_some,decide_true,Bool.not_true,Bool.false_eq_true,if_false,hcs,hc,hs,e1,e2,e3,hb,chk_of hr]
  rw [show ((0:Nat):Int) = 0 from rfl] at hloop
  simp only [Int.add_zero] at hloop
  simp only [hloop,Option.bind_some]
  refine ⟨_,rfl,⟨⟨h3,by show l.Closed ≤ 100; omega,?_,fun p hp=>?_,fun i hi=>?_⟩,by show l.Closed ≤ _; omega,?_,fun p hp=>?_,?_,fun p hp=>?_⟩⟩
  · show (l.Postings ++ mkPost l.Closed s cs).length ≤ 65536
    rw [List.length_append,mkPost_length]; omega
  · rcases List.mem_append.1 (show p ∈ l.Postings ++ mkPost l.Closed s cs from hp) with hp | hp
    · exact h.ok.ent p hp
    · obtain ⟨i,hi,rfl⟩:=List.mem_iff_getElem.1 hp
      obtain ⟨g1,g2,g3⟩:=mkPost_get l.Closed s cs i hi
      rw [mkPost_length] at hi
      obtain ⟨v1,v2⟩:=hce _ (List.getElem_mem hi)
      rw [g1,g2,g3]
      exact ⟨v1,v2,by omega,by omega,h3,Int.le_refl _⟩
  · have hi':i + 1 < (l.Postings ++ mkPost l.Closed s cs).length:=hi
    have hall:(l.Postings ++ mkPost l.Closed s cs).length = l.Postings.length + cs.length:=by rw [List.length_append,mkPost_length]
    show ((l.Postings ++ mkPost l.Closed s cs)[i]).Number < ((l.Postings ++ mkPost l.Closed s cs)[i + 1]).Number ∧ ((l.Postings ++ mkPost l.Closed s cs)[i]).Period ≤ ((l.Postings ++ mkPost l.Closed s cs)[i + 1]).Period
    by_cases hA:i + 1 < l.Postings.length
    · rw [List.getElem_append_left (by omega),List.getElem_append_left hA]
      exact h.ok.ord i hA
    · by_cases hB:i < l.Postings.length
      · rw [List.getElem_append_left hB,List.getElem_append_right (by omega)]
        obtain ⟨g1,g2,_⟩:=mkPost_get l.Closed s cs (i + 1 - l.Postings.length) (by rw [mkPost_length]; omega)
        rw [g1,g2]
        have hil:i = l.Postings.length - 1:=by omega
        have hlt:(l.Postings[i]).Number < s:=hs3 _ (by rw [List.getLast?_eq_getElem?,← hil,List.getElem?_eq_getElem hB]; rfl)
        exact ⟨by omega,(h.ok.ent _ (List.getElem_mem hB)).2.2.2.2.2⟩
      · rw [List.getElem_append_right (by omega),List.getElem_append_right (by omega)]
        obtain ⟨g1,g2,_⟩:=mkPost_get l.Closed s cs (i - l.Postings.length) (by rw [mkPost_length]; omega)
        obtain ⟨k1,k2,_⟩:=mkPost_get l.Closed s cs (i + 1 - l.Postings.length) (by rw [mkPost_length]; omega)
        rw [g1,g2,k1,k2]
        exact ⟨by omega,Int.le_refl _⟩
  · show (l.Postings ++ mkPost l.Closed s cs).length ≤ _
    rw [List.length_append,mkPost_length]; omega
  · rcases List.mem_append.1 (show p ∈ l.Postings ++ mkPost l.Closed s cs from hp) with hp | hp
    · have:=h.nums p hp; omega
    · obtain ⟨i,hi,rfl⟩:=List.mem_iff_getElem.1 hp
      obtain ⟨g1,g2,g3⟩:=mkPost_get l.Closed s cs i hi
      rw [mkPost_length] at hi
      rw [g1]; omega
  · show absA ((l.Postings ++ mkPost l.Closed s cs).map (·.Entry)) ≤ _
    rw [List.map_append,qahx,absA_append]
    have:=h.small
    omega
  · rcases List.mem_append.1 (show p ∈ l.Postings ++ mkPost l.Closed s cs from hp) with hp | hp
    · exact h.tre p hp
    · obtain ⟨i,hi,rfl⟩:=List.mem_iff_getElem.1 hp
      obtain ⟨_,_,g3⟩:=mkPost_get l.Closed s cs i hi
      rw [mkPost_length] at hi
      rw [g3]
      obtain ⟨y,hy,y1,y2⟩:=collect_from (by omega) (fun e hx=>(he e hx).valid) hcs _ (List.getElem_mem hi)
      rw [← y1,← y2]
      exact ⟨(he y hy).tre,(he y hy).par⟩
theorem ledgerLoop:∀ (k:Nat) (d:GDeck) (l:GLedger) (j:Nat),DOk d → Made l j → j + k ≤ 50 → ∃ d' l',loopV qamx (d.L,d.At,l.Closed,l.Postings,(k:Int)) = some (d'.L,d'.At,l'.Closed,l'.Postings) ∧ DOk d' ∧ Made l' (j + k)
  | 0,d,l,j,hd,hm,_=>⟨d,l,loopV_stop (by unfold qamx; simp),hd,hm⟩
  | k + 1,d,l,j,hd,hm,hj=>by
    obtain ⟨v,d1,e1,a1,b1,h1⟩:=next_ok (d:=⟨d.L,d.At⟩) hd (n:=3) (by omega) (by omega)
    have hc:decide ((0:Int) < ((k + 1:Nat):Int)) = true:=by simp <;> omega
    have ew:w64 (((k + 1:Nat):Int) - 1) = (k:Int):=by rw [w64_id (by omega) (by omega)]; omega
    have key:∃ d2 l2,qamx (d.L,d.At,l.Closed,l.Postings,((k + 1:Nat):Int)) = some (.inl (d2.L,d2.At,l2.Closed,l2.Postings,(k:Int))) ∧ DOk d2 ∧ Made l2 (j + 1):=by
      unfold qamx
      by_cases hv:v = 0
      · have hv':decide (v = 0) = true:=by simpa using hv
        obtain ⟨l2,e2,h2⟩:=close_made (l:=⟨l.Closed,l.Postings⟩) hm (by omega)
        simp only [hc,if_true,e1,Option.bind_some,hv',e2,ew]
        exact ⟨d1,l2,rfl,h1,h2⟩
      · have hv':decide (v = 0) = false:=by simpa using hv
        obtain ⟨es,d2,e2,h2,h3,h4⟩:=entries_ok h1 4 (by omega)
        obtain ⟨l2,e5,h5⟩:=post_made (l:=⟨l.Closed,l.Postings⟩) hm (by omega) h4 h3
        rw [show ((4:Nat):Int) = 4 from rfl] at e2
        simp only [hc,if_true,e1,Option.bind_some,hv',Bool.false_eq_true,if_false,e2,e5,decide_true,ew]
        exact ⟨d2,l2,rfl,h2,h5⟩
    obtain ⟨d2,l2,hst,hd2,hm2⟩:=key
    obtain ⟨d3,l3,h3,h4,h5⟩:=ledgerLoop k d2 l2 (j + 1) hd2 hm2 (by omega)
    exact ⟨d3,l3,(loopV_next hst).trans h3,h4,by rw [show j + (k + 1) = j + 1 + k by omega]; exact h5⟩
theorem made_empty:Made ⟨0,[]⟩ 0:=⟨⟨by decide,by decide,by decide,fun p hp=>(by cases hp),fun i hi=>(by simp at hi)⟩,by decide,by decide,fun p hp=>(by cases hp),by decide,fun p hp=>(by cases hp)⟩
theorem Made.mono {l:GLedger} {j k:Nat} (h:Made l j) (hk:j ≤ k):Made l k:=by
  have h1:=h.closed
  have h2:=h.few
  have h3:=h.small
  exact ⟨h.ok,by omega,by omega,fun p hp=>by have:=h.nums p hp; omega,by omega,h.tre⟩
theorem ledger_ok {d:GDeck} (h:DOk d) (n:Nat) (hn:n ≤ 40):∃ l d',qamw d (n:Int) = some (l,d') ∧ DOk d' ∧ Made l n:=by
  unfold qamw
  have e1:w64 ((n:Int) + 1) = (n:Int) + 1:=w64_id (by omega) (by omega)
  obtain ⟨v,d1,e2,a1,b1,h1⟩:=next_ok h (n:=(n:Int) + 1) (by omega) (by omega)
  obtain ⟨d2,l,h2,h3,h4⟩:=ledgerLoop v.toNat d1 ⟨0,[]⟩ 0 h1 made_empty (by omega)
  have ev:((v.toNat:Nat):Int) = v:=by omega
  rw [ev] at h2
  simp only at h2
  simp only [e1,e2,Option.bind_some,h2]
  exact ⟨l,d2,rfl,h3,h4.mono (by omega)⟩
theorem new_ok (l:List Int) (h:l.length ≤ 9223372036854775807):qamy l = some ⟨l,0⟩ ∧ DOk ⟨l,0⟩:=⟨by simp [qamy,qanl],⟨by simp,h⟩⟩
end Go.Proofs.YtdenliplkmjmjaaGreat.Pl
namespace Go.Proofs.YtdenliplkmjmjaaGreat.Pl
open Go
def upto (l:GLedger) (p:Int):List GEntry:=(l.Postings.filter fun x=>decide (x.Period < p)).map (·.Entry)
def ents (l:GLedger):List GEntry:=l.Postings.map (·.Entry)
theorem upto_all {l:GLedger} (h:LOk l):upto l (l.Closed + 1) = ents l:=by
  unfold upto ents
  rw [List.filter_eq_self.2 fun p hp=>by have:=(h.ent p hp).2.2.2.2.2; simp; omega]
theorem totLoop (l:GLedger) (p:Int) (hl:l.Postings.length ≤ 65536):loopV (qaho l p) ([],0) = some (upto l p):=by
  have hd:=loopV_done (step:=qaho l p) (fun k=>(((l.Postings.take k).filter fun x=>decide (x.Period < p)).map (·.Entry),(k:Int))) l.Postings.length (upto l p) (fun k hk=>?_) ?_
  · simpa using hd
  · have hlen:(((l.Postings.take k).filter fun x=>decide (x.Period < p)).map (·.Entry)).length ≤ 65536:=by
      rw [List.length_map]
      have h1:=List.length_filter_le (fun x:GPosting=>decide (x.Period < p)) (l.Postings.take k)
      have h2:(l.Postings.take k).length ≤ 65536:=by simp; omega
      omega
    unfold qaho
    dsimp only
    rw [if_pos (by simp; omega),chk_of (inb_nat hk),ix_nat hk,w64_id (n:=(k:Int) + 1) (by omega) (by omega),List.take_succ_eq_append_getElem hk,List.filter_append]
    by_cases hf:l.Postings[k].Period < p
    · rw [if_pos (by simpa using hf),chk_of (room_of (by simp at hlen ⊢; omega)),Option.bind_some]
      simp [hf]
    · rw [if_neg (by simpa using hf),Option.bind_some]
      simp [hf]
  · unfold qaho
    dsimp only
    rw [if_neg (by simp),List.take_of_length_le (Nat.le_refl _)]
    rfl
theorem ptotals_ok {l:GLedger} (h:LOk l) {p:Int} (h0:0 ≤ p) (h1:p ≤ l.Closed + 1):ledger_Totals l p = qanp (upto l p):=by
  unfold ledger_Totals
  have hc0:=h.c0
  have hc1:=h.c1
  rw [pvalidate_ok h,Option.bind_some,if_neg (by simp),w64_id (by omega) (by omega),if_neg (by simp; omega),totLoop l p h.len,Option.bind_some,collect_same]
  obtain ⟨r,e,hr,_⟩:=collect_tot (upto l p)
  rw [hr]
  rfl
theorem ptotals_all {l:GLedger} (h:LOk l):ledger_Totals l (w64 (l.Closed + 1)) = qanp (ents l):=by
  have hc0:=h.c0
  have hc1:=h.c1
  rw [w64_id (by omega) (by omega),ptotals_ok h (by omega) (by omega),upto_all h]
theorem collect_fine {l r:List GEntry} (hl:l.length ≤ 65536) (hv:∀ e ∈ l,vE e = true) (hT:TotOk l) (hC:Coll l r):qanp l = some (r,0):=by
  rw [collect_all hl hv]
  have hg:=grp_msort l
  cases hgr:grp (msort l) with
  | none=>rw [hgr] at hg; exact absurd hT hg
  | some r' =>
    rw [hgr] at hg
    rw [hg.2.uniq hC]
theorem collect_ex {l:List GEntry} (hl:l.length ≤ 65536) (hv:∀ e ∈ l,vE e = true) (hT:TotOk l):∃ r,qanp l = some (r,0) ∧ Coll l r ∧ r.length ≤ l.length:=by
  rw [collect_all hl hv]
  have hg:=grp_msort l
  cases hgr:grp (msort l) with
  | none=>rw [hgr] at hg; exact absurd hT hg
  | some r =>
    rw [hgr] at hg
    have:=grp_len _ (msort l) rfl r hgr
    rw [msort_length] at this
    exact ⟨r,rfl,hg.2,this⟩
theorem Coll.from {l r:List GEntry} (h:Coll l r) {e:GEntry} (he:e ∈ r):∃ y ∈ l,hd y = hd e:=by
  obtain ⟨h1,h2⟩:=(h.mem e).1 he
  apply Classical.byContradiction
  intro hno
  have:=tot_none (l:=l) (h:=hd e) (fun y hy hc=>hno ⟨y,hy,hc⟩)
  omega
theorem headB_hd (e:GEntry):headB (hd e) = headB e:=rfl
theorem Coll.valid {l r:List GEntry} (h:Coll l r) (hv:∀ e ∈ l,vE e = true) (hT:TotOk l):∀ e ∈ r,vE e = true ∧ e.Amount ≠ 0:=fun e he=>by
  obtain ⟨y,hy,hye⟩:=h.from he
  obtain ⟨h1,h2⟩:=(h.mem e).1 he
  refine ⟨?_,h1⟩
  have hb:headB e = true:=by
    rw [← headB_hd,← hye,headB_hd]
    have:=hv y hy
    simp only [vE,Bool.and_eq_true] at this
    exact this.1
  have ha:=hT y hy
  rw [hye,h2] at ha
  simp [vE,hb,ha]
theorem coll_tot {l r:List GEntry} (h:Coll l r) (g:GEntry) (hg:g.Amount = 0):tot r g = tot l g:=by
  by_cases h0:tot l g = 0
  · rw [h0]
    apply tot_none
    intro e he hc
    obtain ⟨h1,h2⟩:=(h.mem e).1 he
    rw [hc] at h2
    omega
  · have hmem:withA g (tot l g) ∈ r:=(h.mem _).2 ⟨h0,by
      have:hd (withA g (tot l g)) = g:=by
        obtain ⟨a,b,c,d,x⟩:=g
        simp only at hg
        subst hg
        rfl
      rw [this]
      rfl⟩
    have hstrict:=h.strict
    have hgg:hd g = g:=by
      obtain ⟨a,b,c,d,x⟩:=g
      simp only at hg
      subst hg
      rfl
    clear h
    have key:∀ {r:List GEntry},StrictE r → ∀ {e:GEntry},e ∈ r → tot r (hd e) = e.Amount:=by
      intro r
      induction r with
      | nil=>intro _ e he; cases he
      | cons x r ih =>
        intro hs e he
        have hs':=List.pairwise_cons.1 hs
        rw [tot_cons]
        rcases List.mem_cons.1 he with rfl | he
        · rw [if_pos rfl,tot_none]
          · omega
          · intro y hy hc
            have:=hs'.1 y hy
            rw [((hd_eq_iff y e).1 hc).2] at this
            cases this
        · have hne:hd x ≠ hd e:=fun hc=>by
            have:=hs'.1 e he
            rw [((hd_eq_iff x e).1 hc).1] at this
            cases this
          rw [if_neg hne,ih hs'.2 he]
          omega
    have:=key hstrict hmem
    rw [show hd (withA g (tot l g)) = hd g from rfl,hgg] at this
    exact this
def lastNo (l:List GPosting):Int:=match l.getLast? with | some p=>p.Number | none=>0
theorem lastNo_at {l:List GPosting} (h:0 < l.length):lastNo l = (l[l.length - 1]).Number:=by
  unfold lastNo
  rw [List.getLast?_eq_getElem?,List.getElem?_eq_getElem (by omega)]
theorem lastNo_nil:lastNo [] = 0:=rfl
theorem LOk.last {l:GLedger} (h:LOk l):0 ≤ lastNo l.Postings ∧ lastNo l.Postings ≤ 65536:=by
  by_cases h0:0 < l.Postings.length
  · rw [lastNo_at h0]
    have:=(h.ent _ (List.getElem_mem (show l.Postings.length - 1 < l.Postings.length by omega)))
    omega
  · have:l.Postings = []:=List.eq_nil_of_length_eq_zero (by omega)
    rw [this,lastNo_nil]
    omega
theorem mkPost_snoc (c n:Int) (l:List GEntry) (x:GEntry):mkPost c n (l ++ [x]) = mkPost c n l ++ [⟨n + l.length,c,x⟩]:=by
  induction l generalizing n with
  | nil=>simp [mkPost]
  | cons e l ih =>
    simp only [List.cons_append,mkPost,ih]
    congr 4
    simp only [List.length_cons]
    omega
theorem ppostLoop (a:GLedger) (cs:List GEntry) (z:Int) (s:Int) (hs0:0 ≤ s) (hs:s ≤ 100000) (hc:cs.length ≤ 65536):loopV (qahk a (cs,z) s) (List.replicate cs.length (GPosting.mk 0 0 (GEntry.mk 0 0 0 0 0)),0) = some (mkPost a.Closed (s + 1) cs):=by
  have hd:=loopV_done (step:=qahk a (cs,z) s) (fun k=>(mkPost a.Closed (s + 1) (cs.take k) ++ List.replicate (cs.length - k) (GPosting.mk 0 0 (GEntry.mk 0 0 0 0 0)),(k:Int))) cs.length (mkPost a.Closed (s + 1) cs) (fun k hk=>?_) ?_
  · simpa [mkPost] using hd
  · unfold qahk
    have hlt:(mkPost a.Closed (s + 1) (cs.take k)).length = k:=by rw [mkPost_length,List.length_take]; omega
    have hin:inb (mkPost a.Closed (s + 1) (cs.take k) ++ List.replicate (cs.length - k) (GPosting.mk 0 0 (GEntry.mk 0 0 0 0 0))) (k:Int) = true:=inb_nat (by rw [List.length_append,hlt,List.length_replicate]; omega)
    have e1:w64 ((k:Int) + 1) = ((k + 1:Nat):Int):=by rw [w64_id (by omega) (by omega)]; rfl
    have e2:w64 (s + 1) = s + 1:=w64_id (by omega) (by omega)
    have e3:w64 (s + 1 + (k:Int)) = s + 1 + (k:Int):=w64_id (by omega) (by omega)
    dsimp only
    rw [if_pos (by simp; omega),chk_of (inb_nat hk),chk_of hin,e1,e2,e3,ix_nat hk]
    congr 3
    rw [List.take_succ_eq_append_getElem hk,mkPost_snoc]
    have hrep:List.replicate (cs.length - k) (GPosting.mk 0 0 (GEntry.mk 0 0 0 0 0)) = GPosting.mk 0 0 (GEntry.mk 0 0 0 0 0) :: List.replicate (cs.length - (k + 1)) (GPosting.mk 0 0 (GEntry.mk 0 0 0 0 0)):=by
      rw [show cs.length - k = (cs.length - (k + 1)) + 1 by omega,List.replicate_succ]
    rw [hrep]
    unfold upd
    rw [Int.toNat_natCast,List.set_append_right _ _ (by omega),hlt,Nat.sub_self,List.set_cons_zero,List.append_assoc,List.length_take]
    congr 4
    omega
  · unfold qahk
    dsimp only
    rw [if_neg (by simp),List.take_of_length_le (Nat.le_refl _)]
    simp
theorem ppost_eq {l:GLedger} (h:LOk l) {es cs:List GEntry} (hcol:qanp es = some (cs,0)) (hcs:cs.length ≤ 65536):ledger_Post l es = some (if l.Closed = 100 then (⟨0,[]⟩,18) else if 65536 < (l.Postings.length:Int) + cs.length ∨ 65536 < lastNo l.Postings + cs.length then (⟨0,[]⟩,4) else (⟨l.Closed,l.Postings ++ mkPost l.Closed (lastNo l.Postings + 1) cs⟩,0)):=by
  unfold ledger_Post
  have hl:=h.len
  have hla:=h.last
  rw [pvalidate_ok h,Option.bind_some,if_neg (by simp),collect_same,hcol,Option.bind_some,if_neg (by simp)]
  by_cases hc:l.Closed = 100
  · rw [if_pos (by simpa using hc),if_pos hc]
  · rw [if_neg (by simpa using hc),if_neg hc]
    have hlast:(if decide (0 < (l.Postings.length:Int)) = true then chk (inb l.Postings (w64 ((l.Postings.length:Int) - 1))) (some (ix l.Postings (w64 ((l.Postings.length:Int) - 1))).Number) else some 0) = some (lastNo l.Postings):=by
      by_cases h0:0 < l.Postings.length
      · have hk1:l.Postings.length - 1 < l.Postings.length:=by omega
        rw [if_pos (by simp; omega),w64_pred _ h0 hl,chk_of (inb_nat hk1),ix_nat hk1,lastNo_at h0]
      · have:l.Postings = []:=List.eq_nil_of_length_eq_zero (by omega)
        rw [if_neg (by simp; omega),this,lastNo_nil]
    rw [hlast,Option.bind_some,w64_id (n:=(l.Postings.length:Int) + (cs.length:Int)) (by omega) (by omega),w64_id (n:=lastNo l.Postings + (cs.length:Int)) (by omega) (by omega)]
    by_cases hb:65536 < (l.Postings.length:Int) + cs.length ∨ 65536 < lastNo l.Postings + cs.length
    · rw [if_pos (by simpa using hb),if_pos hb]
    · rw [if_neg (by simpa using hb),if_neg hb,chk_of (by simp),chk_of (by simp; omega)]
      dsimp only
      rw [Int.toNat_natCast,ppostLoop l cs 0 _ (by omega) (by omega) hcs,Option.bind_some]
      unfold ledger_clone
      rw [chk_of (room_of (by omega)),Option.bind_some,chk_of (room_of (by rw [List.length_append,mkPost_length]; omega))]
theorem lok_post {l:GLedger} (h:LOk l) {cs:List GEntry} (hcs:∀ e ∈ cs,vE e = true ∧ e.Amount ≠ 0) (h1:l.Postings.length + cs.length ≤ 65536) (h2:lastNo l.Postings + cs.length ≤ 65536):LOk ⟨l.Closed,l.Postings ++ mkPost l.Closed (lastNo l.Postings + 1) cs⟩:=by
  have hla:=h.last
  refine ⟨h.c0,h.c1,by show (l.Postings ++ mkPost l.Closed (lastNo l.Postings + 1) cs).length ≤ 65536; rw [List.length_append,mkPost_length]; exact h1,fun p hp=>?_,fun i hi=>?_⟩
  · rcases List.mem_append.1 (show p ∈ l.Postings ++ mkPost l.Closed (lastNo l.Postings + 1) cs from hp) with hp | hp
    · exact h.ent p hp
    · obtain ⟨i,hi,rfl⟩:=List.mem_iff_getElem.1 hp
      obtain ⟨g1,g2,g3⟩:=mkPost_get l.Closed (lastNo l.Postings + 1) cs i hi
      rw [mkPost_length] at hi
      obtain ⟨v1,v2⟩:=hcs _ (List.getElem_mem hi)
      rw [g1,g2,g3]
      exact ⟨v1,v2,by omega,by omega,h.c0,Int.le_refl _⟩
  · have hi':i + 1 < (l.Postings ++ mkPost l.Closed (lastNo l.Postings + 1) cs).length:=hi
    have hall:(l.Postings ++ mkPost l.Closed (lastNo l.Postings + 1) cs).length = l.Postings.length + cs.length:=by rw [List.length_append,mkPost_length]
    show ((l.Postings ++ mkPost l.Closed (lastNo l.Postings + 1) cs)[i]).Number < ((l.Postings ++ mkPost l.Closed (lastNo l.Postings + 1) cs)[i + 1]).Number ∧ ((l.Postings ++ mkPost l.Closed (lastNo l.Postings + 1) cs)[i]).Period ≤ ((l.Postings ++ mkPost l.Closed (lastNo l.Postings + 1) cs)[i + 1]).Period
    by_cases hA:i + 1 < l.Postings.length
    · rw [List.getElem_append_left (by omega),List.getElem_append_left hA]
      exact h.ord i hA
    · by_cases hB:i < l.Postings.length
      · rw [List.getElem_append_left hB,List.getElem_append_right (by omega)]
        obtain ⟨g1,g2,_⟩:=mkPost_get l.Closed (lastNo l.Postings + 1) cs (i + 1 - l.Postings.length) (by rw [mkPost_length]; omega)
        rw [g1,g2]
        have hil:i = l.Postings.length - 1:=by omega
        have hlt:lastNo l.Postings = (l.Postings[i]).Number:=by
          subst hil
          exact lastNo_at (by omega)
        exact ⟨by omega,(h.ent _ (List.getElem_mem hB)).2.2.2.2.2⟩
      · rw [List.getElem_append_right (by omega),List.getElem_append_right (by omega)]
        obtain ⟨g1,g2,_⟩:=mkPost_get l.Closed (lastNo l.Postings + 1) cs (i - l.Postings.length) (by rw [mkPost_length]; omega)
        obtain ⟨k1,k2,_⟩:=mkPost_get l.Closed (lastNo l.Postings + 1) cs (i + 1 - l.Postings.length) (by rw [mkPost_length]; omega)
        rw [g1,g2,k1,k2]
        exact ⟨by omega,Int.le_refl _⟩
theorem lastNo_post {l:GLedger} (_h:LOk l) (cs:List GEntry):lastNo (l.Postings ++ mkPost l.Closed (lastNo l.Postings + 1) cs) = lastNo l.Postings + cs.length:=by
  by_cases h0:0 < cs.length
  · have hlen:(l.Postings ++ mkPost l.Closed (lastNo l.Postings + 1) cs).length = l.Postings.length + cs.length:=by rw [List.length_append,mkPost_length]
    rw [lastNo_at (by omega),List.getElem_append_right (by omega)]
    obtain ⟨g1,_,_⟩:=mkPost_get l.Closed (lastNo l.Postings + 1) cs ((l.Postings ++ mkPost l.Closed (lastNo l.Postings + 1) cs).length - 1 - l.Postings.length) (by rw [mkPost_length]; omega)
    rw [g1]
    omega
  · have:cs = []:=List.eq_nil_of_length_eq_zero (by omega)
    subst this
    simp [mkPost]
theorem ents_post (l:GLedger) (cs:List GEntry):ents ⟨l.Closed,l.Postings ++ mkPost l.Closed (lastNo l.Postings + 1) cs⟩ = ents l ++ cs:=by
  unfold ents
  simp only [List.map_append,qahx]
def isR (e:GEntry):Bool:=((decide (e.Kind = 1)) || (decide (e.Kind = 2))) || (decide (e.Kind = 3))
def neg (e:GEntry):GEntry:=withA e (-e.Amount)
theorem restLoop (r:List GEntry) (z:Int) (c:List GEntry) (hr:r.length ≤ 65536) (hc:c.length ≤ 65536) (hA:Amts r):loopV (qahn (r,z)) (c,0) = some (c ++ (r.filter isR).map neg):=by
  have hd:=loopV_done (step:=qahn (r,z)) (fun k=>(c ++ ((r.take k).filter isR).map neg,(k:Int))) r.length (c ++ (r.filter isR).map neg) (fun k hk=>?_) ?_
  · simpa using hd
  · have hlen:(((r.take k).filter isR).map neg).length ≤ 65536:=by
      rw [List.length_map]
      have h1:=List.length_filter_le isR (r.take k)
      have h2:(r.take k).length ≤ 65536:=by simp; omega
      omega
    have hx:=hA r[k] (List.getElem_mem hk)
    unfold qahn qahs
    dsimp only
    rw [if_pos (by simp; omega),chk_of (inb_nat hk),ix_nat hk,Option.bind_some,w64_id (n:=(k:Int) + 1) (by omega) (by omega),w64_id (n:=0 - r[k].Amount) (by omega) (by omega),List.take_succ_eq_append_getElem hk,List.filter_append]
    have hi:(((decide (r[k].Kind = 1)) || (decide (r[k].Kind = 2))) || (decide (r[k].Kind = 3))) = isR r[k]:=rfl
    rw [hi]
    cases hf:isR r[k] with
    | true =>
      rw [if_pos rfl,chk_of (room_of (by simp at hlen ⊢; omega)),Option.bind_some]
      simp [hf,neg,withA]
    | false =>
      rw [if_neg (by simp),Option.bind_some]
      simp [hf]
  · unfold qahn
    dsimp only
    rw [if_neg (by simp),List.take_of_length_le (Nat.le_refl _)]
theorem kindLoop {t:List GEntry} (ht:t.length ≤ 65536) (h:∀ e ∈ t,isR e = true):loopV (qahm t) 0 = some (.inr ()):=by
  refine loopV_done (fun k=>(k:Int)) t.length _ (fun k hk=>?_) ?_
  · unfold qahm qahs
    have hi:(((decide (t[k].Kind = 1)) || (decide (t[k].Kind = 2))) || (decide (t[k].Kind = 3))) = isR t[k]:=rfl
    rw [if_pos (by simp; omega),chk_of (inb_nat hk),ix_nat hk,Option.bind_some,hi,h _ (List.getElem_mem hk),w64_id (by omega) (by omega)]
    simp
  · unfold qahm
    rw [if_neg (by simp)]
theorem prestate_eq {l:GLedger} (h:LOk l) {t c T cs:List GEntry} (hk:∀ e ∈ t,isR e = true) (hc:qanp t = some (c,0)) (hT:qanp (ents l) = some (T,0)) (hA:Amts T) (hp:qanp (c ++ (T.filter isR).map neg) = some (cs,0))
    (h100:l.Closed ≠ 100) (h1:(l.Postings.length:Int) + cs.length ≤ 65536) (h2:lastNo l.Postings + cs.length ≤ 65536) :
    qahl l t = some (⟨l.Closed,l.Postings ++ mkPost l.Closed (lastNo l.Postings + 1) cs⟩,mkPost l.Closed (lastNo l.Postings + 1) cs,0):=by
  have hl:=h.len
  obtain ⟨_,_,ec,hcl,hcf⟩:=collect_tot t
  rw [hc] at ec
  cases ec
  obtain ⟨htl,_⟩:=hcf rfl
  obtain ⟨_,_,eT,hTl,_⟩:=collect_tot (ents l)
  rw [hT] at eT
  cases eT
  obtain ⟨_,_,ep,hpl,_⟩:=collect_tot (c ++ (T.filter isR).map neg)
  rw [hp] at ep
  cases ep
  unfold qahl
  rw [pvalidate_ok h,Option.bind_some,if_neg (by simp),collect_same,hc,Option.bind_some,if_neg (by simp),kindLoop htl hk]
  simp only [Option.bind_some,Sum.elim_inr,Sum.elim_inl]
  rw [ptotals_all h,hT,Option.bind_some,if_neg (by simp),restLoop T 0 c hTl hcl hA,Option.bind_some,ppost_eq h hp hpl,if_neg h100,if_neg (by omega),Option.bind_some,if_neg (by simp),chk_of (by simp),chk_of (by simp; omega)]
  unfold qaku
  rw [Int.toNat_natCast,List.drop_left,chk_of (room_of (by rw [mkPost_length]; omega)),Option.bind_some]
end Go.Proofs.YtdenliplkmjmjaaGreat.Pl
namespace Go.Proofs.YtdenliplkmjmjaaGreat.Pl
open Go
theorem qakr (l:List GEntry) (hl:l.length ≤ 1000000):qant l l = some true:=by
  unfold qant
  have hloop:loopV (qanu l l) 0 = some (.inr ()):=by
    refine loopV_done (fun k=>(k:Int)) l.length _ (fun k hk=>?_) ?_
    · unfold qanu
      have hc:decide ((k:Int) < (l.length:Int)) = true:=decide_eq_true (by omega)
      have e1:w64 ((k:Int) + 1) = ((k + 1:Nat):Int):=by rw [w64_id (by omega) (by omega)]; rfl
      simp only [hc,if_true,chk_of (inb_nat hk),decide_true,Bool.not_true,Bool.false_eq_true,if_false,e1]
    · unfold qanu
      have hc:decide ((l.length:Int) < (l.length:Int)) = false:=by simp
      simp only [hc,Bool.false_eq_true,if_false]
  simp only [decide_true,Bool.not_true,Bool.false_eq_true,if_false,hloop,Option.bind_some,Sum.elim_inr,Sum.elim_inl]
theorem coll_one {x:GEntry} (h:x.Amount ≠ 0):Coll [x] [x]:=by
  refine ⟨List.pairwise_singleton _ _,fun e=>?_⟩
  rw [tot_cons,tot_nil,List.mem_singleton]
  constructor
  · rintro rfl
    exact ⟨h,by rw [if_pos rfl]; omega⟩
  · rintro ⟨h1,h2⟩
    by_cases hx:hd x = hd e
    · rw [if_pos hx] at h2
      rw [← withA_hd e,← hx,← withA_hd x]
      rw [show x.Amount = e.Amount by omega]
      rfl
    · rw [if_neg hx] at h2
      omega
theorem lok_nil:LOk ⟨0,[]⟩:=made_empty.ok
end Go.Proofs.YtdenliplkmjmjaaGreat.Pl
namespace Go.Proofs.YtdenliplkmjmjaaGreat.Pl
open Go
theorem tot_neg (u:List GEntry) (h:GEntry):tot (u.map neg) h = - tot u h:=by
  induction u with
  | nil=>rfl
  | cons x u ih =>
    rw [List.map_cons,tot_cons,tot_cons,ih]
    have:hd (neg x) = hd x:=rfl
    rw [this]
    split
    · show -x.Amount + _ = _
      omega
    · omega
theorem isR_hd (e:GEntry):isR (hd e) = isR e:=rfl
theorem tot_isR (u:List GEntry) (h:GEntry):tot (u.filter isR) h = if isR h = true then tot u h else 0:=by
  induction u with
  | nil=>simp [tot_nil]
  | cons x u ih =>
    by_cases hx:isR x = true
    · rw [List.filter_cons_of_pos hx,tot_cons,tot_cons,ih]
      by_cases he:hd x = h
      · have:isR h = true:=by rw [← he,isR_hd]; exact hx
        rw [if_pos this,if_pos he,if_pos this]
      · rw [if_neg he]
        split <;> omega
    · rw [List.filter_cons_of_neg hx,tot_cons,ih]
      by_cases he:hd x = h
      · have:¬ isR h = true:=by rw [← he,isR_hd]; exact hx
        rw [if_neg this,if_neg this]
      · rw [if_neg he]
        split <;> omega
theorem tot_allR {u:List GEntry} (hu:∀ e ∈ u,isR e = true) {h:GEntry} (hh:isR h ≠ true):tot u h = 0:=tot_none fun e he hc=>hh (by rw [← hc,isR_hd]; exact hu e he)
theorem tot_abs (l:List GEntry) (h:GEntry):tot l h ≤ absA l ∧ -(absA l) ≤ tot l h:=by
  induction l with
  | nil=>simp [tot_nil,absA]
  | cons x l ih =>
    rw [tot_cons,absA_cons]
    split <;> omega
def TotB (l:List GEntry) (B:Int):Prop:=∀ g,g.Amount = 0 → -B ≤ tot l g ∧ tot l g ≤ B
theorem TotB.ok {l:List GEntry} {B:Int} (h:TotB l B) (hB:B ≤ 17592186044416):TotOk l:=fun e _=>(vAmt_iff _).2 (by have:=h (hd e) (hd_amount e); omega)
theorem TotB.of_abs {l:List GEntry} {B:Int} (h:absA l ≤ B):TotB l B:=fun g _=>by have:=tot_abs l g; omega
theorem neg_valid {e:GEntry} (h:vE e = true):vE (neg e) = true:=by
  have h1:=vE_amt h
  simp only [vE,Bool.and_eq_true] at h ⊢
  refine ⟨h.1,(vAmt_iff _).2 ?_⟩
  show -17592186044416 ≤ -e.Amount ∧ -e.Amount ≤ 17592186044416
  omega
theorem ents_valid {l:GLedger} (h:LOk l):∀ e ∈ ents l,vE e = true:=fun e he=>by
  obtain ⟨p,hp,rfl⟩:=List.mem_map.1 he
  exact (h.ent p hp).1
theorem ents_len (l:GLedger):(ents l).length = l.Postings.length:=by simp [ents]
theorem post_sem {l:GLedger} (h:LOk l) (hc:l.Closed ≠ 100) {es:List GEntry} (hv:∀ e ∈ es,vE e = true) (hl:es.length ≤ 1000) (hT:TotOk es) (h1:l.Postings.length ≤ 10000) (h2:lastNo l.Postings ≤ 10000) :
    ∃ cs,ledger_Post l es = some (⟨l.Closed,l.Postings ++ mkPost l.Closed (lastNo l.Postings + 1) cs⟩,0) ∧ (∀ e ∈ cs,vE e = true ∧ e.Amount ≠ 0) ∧ cs.length ≤ es.length ∧ Coll es cs:=by
  obtain ⟨cs,hcs,hC,hle⟩:=collect_ex (by omega) hv hT
  refine ⟨cs,?_,hC.valid hv hT,hle,hC⟩
  rw [ppost_eq h hcs (by omega),if_neg hc,if_neg (by omega)]
theorem restate_sem {l:GLedger} (h:LOk l) (hc:l.Closed ≠ 100) {t:List GEntry} (hk:∀ e ∈ t,isR e = true) (hv:∀ e ∈ t,vE e = true) (hl:t.length ≤ 25000) {B:Int} (hB:B ≤ 4398046511104) (hT:TotB t B) (hL:TotB (ents l) B) (h1:l.Postings.length ≤ 10000) (h2:lastNo l.Postings ≤ 10000) :
    ∃ cs,qahl l t = some (⟨l.Closed,l.Postings ++ mkPost l.Closed (lastNo l.Postings + 1) cs⟩,mkPost l.Closed (lastNo l.Postings + 1) cs,0) ∧ (∀ e ∈ cs,vE e = true ∧ e.Amount ≠ 0) ∧ cs.length ≤ t.length + l.Postings.length ∧ (∀ g,g.Amount = 0 → tot cs g = if isR g = true then tot t g - tot (ents l) g else 0) ∧ StrictE cs:=by
  obtain ⟨c,hcc,hC,hcl⟩:=collect_ex (by omega) hv (hT.ok (by omega))
  have hev:=ents_valid h
  have hel:=ents_len l
  obtain ⟨T,hTc,hTC,hTl⟩:=collect_ex (by omega) hev (hL.ok (by omega))
  have hTv:=hTC.valid hev (hL.ok (by omega))
  have hcv:=hC.valid hv (hT.ok (by omega))
  have hfl:=List.length_filter_le isR T
  have hLv:∀ e ∈ c ++ (T.filter isR).map neg,vE e = true:=fun e he=>by
    rcases List.mem_append.1 he with he | he
    · exact (hcv e he).1
    · obtain ⟨x,hx,rfl⟩:=List.mem_map.1 he
      exact neg_valid (hTv x (List.mem_filter.1 hx).1).1
  have hLt:∀ g,g.Amount = 0 → tot (c ++ (T.filter isR).map neg) g = if isR g = true then tot t g - tot (ents l) g else 0:=fun g hg=>by
    rw [tot_append,tot_neg,tot_isR,coll_tot hC g hg]
    split
    · rw [coll_tot hTC g hg]; omega
    · rename_i hr
      rw [tot_allR hk hr]
      omega
  have hLB:TotB (c ++ (T.filter isR).map neg) 17592186044416:=fun g hg=>by
    rw [hLt g hg]
    have a:=hT g hg
    have b:=hL g hg
    split <;> omega
  have hlen:(c ++ (T.filter isR).map neg).length ≤ t.length + l.Postings.length:=by rw [List.length_append,List.length_map]; omega
  obtain ⟨cs,hcs,hCC,hcsl⟩:=collect_ex (by omega) hLv (hLB.ok (by omega))
  refine ⟨cs,prestate_eq h hk hcc hTc (Amts.of_valid fun e he=>(hTv e he).1) hcs hc (by omega) (by omega),hCC.valid hLv (hLB.ok (by omega)),by omega,fun g hg=>?_,hCC.strict⟩
  rw [coll_tot hCC g hg,hLt g hg]
theorem target_ok {d:GDeck} (h:DOk d) (n:Nat) (hn:n ≤ 50):∃ r d',qamz d (n:Int) = some (r,d') ∧ DOk d' ∧ r.length ≤ n ∧ ∀ e ∈ r,EOk e ∧ isR e = true:=by
  unfold qamz
  obtain ⟨es,d',e1,h1,h2,h3⟩:=entries_ok h n hn
  rw [e1,Option.bind_some]
  have hloop:loopV (qana (es,d')) ([],0) = some (d'.L,d'.At,es.filter fun e=>decide (e.Kind ≤ 3)):=by
    have hd:=loopV_done (step:=qana (es,d')) (fun k=>((es.take k).filter (fun e=>decide (e.Kind ≤ 3)),(k:Int))) es.length (d'.L,d'.At,es.filter fun e=>decide (e.Kind ≤ 3)) (fun k hk=>?_) ?_
    · simpa using hd
    · have hlen:((es.take k).filter (fun e=>decide (e.Kind ≤ 3))).length ≤ 100:=by
        have a1:=List.length_filter_le (fun e:GEntry=>decide (e.Kind ≤ 3)) (es.take k)
        have a2:(es.take k).length ≤ 50:=by simp; omega
        omega
      unfold qana
      dsimp only
      rw [if_pos (by simp; omega),chk_of (inb_nat hk),ix_nat hk,w64_id (n:=(k:Int) + 1) (by omega) (by omega),List.take_succ_eq_append_getElem hk,List.filter_append]
      by_cases hf:es[k].Kind ≤ 3
      · rw [if_pos (by simpa using hf),chk_of (room_of (by simp at hlen ⊢; omega)),Option.bind_some]
        simp [hf]
      · rw [if_neg (by simpa using hf),Option.bind_some]
        simp [hf]
    · unfold qana
      dsimp only
      rw [if_neg (by simp),List.take_of_length_le (Nat.le_refl _)]
  rw [hloop,Option.bind_some]
  refine ⟨_,d',rfl,h1,?_,fun e he=>?_⟩
  · have:=List.length_filter_le (fun e:GEntry=>decide (e.Kind ≤ 3)) es
    show (es.filter fun e=>decide (e.Kind ≤ 3)).length ≤ n
    omega
  · have he':e ∈ es.filter fun e=>decide (e.Kind ≤ 3):=he
    obtain ⟨a1,a2⟩:=List.mem_filter.1 he'
    refine ⟨h3 e a1,?_⟩
    have hh:=(h3 e a1).head
    have a3:e.Kind ≤ 3:=by simpa using a2
    unfold headB at hh
    simp only [Bool.and_eq_true,decide_eq_true_eq] at hh
    have a4:1 ≤ e.Kind:=hh.1.1.1.1.1.1
    unfold isR
    simp
    omega
theorem totB_E {t:List GEntry} (h:∀ e ∈ t,EOk e):TotB t (34359738368 * (t.length:Int)):=TotB.of_abs (absA_EOk h)
structure Way (l:GLedger) (P:Nat) (B c:Int):Prop where
  ok:LOk l
  closed:l.Closed ≤ c
  len:l.Postings.length ≤ P
  last:lastNo l.Postings ≤ P
  bd:TotB (ents l) B
theorem Made.way {l:GLedger} {j:Nat} (h:Made l j):Way l (4 * j) (137438953472 * (j:Int)) (j:Int):=by
  refine ⟨h.ok,h.closed,h.few,?_,TotB.of_abs h.small⟩
  by_cases h0:0 < l.Postings.length
  · rw [lastNo_at h0]
    have:=h.nums _ (List.getElem_mem (show l.Postings.length - 1 < l.Postings.length by omega))
    omega
  · have:l.Postings = []:=List.eq_nil_of_length_eq_zero (by omega)
    rw [this,lastNo_nil]
    omega
theorem Way.mono {l:GLedger} {P P':Nat} {B B' c c':Int} (h:Way l P B c) (hP:P ≤ P') (hB:B ≤ B') (hc:c ≤ c'):Way l P' B' c':=by
  have h1:=h.closed
  have h2:=h.len
  have h3:=h.last
  exact ⟨h.ok,by omega,by omega,by omega,fun g hg=>by have:=h.bd g hg; omega⟩
theorem way_post {l:GLedger} {P:Nat} {B c:Int} (h:Way l P B c) {cs:List GEntry} (hcs:∀ e ∈ cs,vE e = true ∧ e.Amount ≠ 0) {n:Nat} (hn:cs.length ≤ n) (hP:P + n ≤ 65536) {B':Int} (hB:TotB (ents l ++ cs) B'):Way ⟨l.Closed,l.Postings ++ mkPost l.Closed (lastNo l.Postings + 1) cs⟩ (P + n) B' c:=by
  have h1:=h.len
  have h2:=h.last
  refine ⟨lok_post h.ok hcs (by omega) (by omega),h.closed,?_,?_,?_⟩
  · show (l.Postings ++ mkPost l.Closed (lastNo l.Postings + 1) cs).length ≤ P + n
    rw [List.length_append,mkPost_length]
    omega
  · show lastNo (l.Postings ++ mkPost l.Closed (lastNo l.Postings + 1) cs) ≤ _
    rw [lastNo_post h.ok]
    omega
  · rw [ents_post]
    exact hB
theorem Way.post {l:GLedger} {P:Nat} {B c:Int} (h:Way l P B c) (hc:c < 100) (hP:P ≤ 10000) {es:List GEntry} (he:∀ e ∈ es,EOk e) {n:Nat} (hn:es.length ≤ n) (hn2:n ≤ 100) :
    ∃ cs,ledger_Post l es = some (⟨l.Closed,l.Postings ++ mkPost l.Closed (lastNo l.Postings + 1) cs⟩,0) ∧ Way ⟨l.Closed,l.Postings ++ mkPost l.Closed (lastNo l.Postings + 1) cs⟩ (P + n) (B + 34359738368 * (n:Int)) c:=by
  have h0:=h.closed
  have h1:=h.len
  have h2:=h.last
  have hb:=totB_E he
  obtain ⟨cs,e1,e2,e3,e4⟩:=post_sem h.ok (by omega) (fun e hx=>(he e hx).valid) (by omega) (hb.ok (by omega)) (by omega) (by omega)
  refine ⟨cs,e1,way_post h e2 (by omega) (by omega) fun g hg=>?_⟩
  rw [tot_append,coll_tot e4 g hg]
  have a:=hb g hg
  have b:=h.bd g hg
  omega
end Go.Proofs.YtdenliplkmjmjaaGreat.Pl
namespace Go.Proofs.YtdenliplkmjmjaaGreat.Pl
open Go
def eh (h:Gheading):GEntry:=⟨h.kind,h.treaty,h.party,h.loss,0⟩
def he (e:GEntry):Gheading:=⟨e.Kind,e.Treaty,e.Party,e.Loss⟩
theorem eh_he (e:GEntry):eh (he e) = hd e:=rfl
theorem he_eh (h:Gheading):he (eh h) = h:=rfl
theorem eh_inj {a b:Gheading} (h:eh a = eh b):a = b:=by rw [← he_eh a,h,he_eh]
theorem eh_amount (h:Gheading):(eh h).Amount = 0:=rfl
theorem eh_he0 {g:GEntry} (h:g.Amount = 0):eh (he g) = g:=by
  obtain ⟨a,b,c,d,x⟩:=g
  simp only at h
  subst h
  rfl
theorem hd0 {g:GEntry} (h:g.Amount = 0):hd g = g:=eh_he0 h
structure MapH (M:List (Gheading × Int)) (T:GEntry → Int):Prop where
  nodup:(keys M).Nodup
  key:∀ p ∈ M,p.2 = T (eh p.1)
  all:∀ h:Gheading,T (eh h) ≠ 0 → h ∈ keys M
theorem MapH.nil:MapH [] (fun _=>0):=⟨by simp [keys],fun p hp=>(by cases hp),fun h h2=>absurd rfl h2⟩
theorem MapH.get {M:List (Gheading × Int)} {T:GEntry → Int} (hM:MapH M T) (h:Gheading):mget M h 0 = T (eh h):=by
  by_cases hk:h ∈ keys M
  · obtain ⟨p,hp,rfl⟩:=List.mem_map.1 hk
    rw [mget_mem hM.nodup (v:=p.2) hp,hM.key p hp]
  · rw [mget_not hk]
    apply Classical.byContradiction
    intro hne
    exact hk (hM.all h fun hc=>hne hc.symm)
theorem MapH.set {M:List (Gheading × Int)} {T T':GEntry → Int} (hM:MapH M T) {h:Gheading} {v:Int} (hv:v = T' (eh h)) (hT:∀ g,g ≠ h → T' (eh g) = T (eh g)):MapH (mset M h v) T':=by
  refine ⟨nodup_mset hM.nodup,fun p hp=>?_,fun g hne=>?_⟩
  · rcases (mem_mset hM.nodup).1 hp with rfl | ⟨hp,hk⟩
    · exact hv
    · rw [hT _ hk]
      exact hM.key p hp
  · rw [keys_mset]
    by_cases hgh:g = h
    · exact .inl hgh
    · right
      refine hM.all g ?_
      rw [← hT g hgh]
      exact hne
theorem MapH.congr {M:List (Gheading × Int)} {T T':GEntry → Int} (hM:MapH M T) (h:∀ g:GEntry,g.Amount = 0 → T g = T' g):MapH M T' :=
  ⟨hM.nodup,fun p hp=>by rw [hM.key p hp,h _ (eh_amount _)],fun g hne=>hM.all g (by rw [h _ (eh_amount _)]; exact hne)⟩
theorem ordersH {c:Gheading → Gheading → Option Int} (hc:∀ a b,c a b = some (cmpE (eh a) (eh b))) {xs:List Gheading} (hl:xs.length ≤ 100000000):Orders c xs where
  len:=by omega
  def_:=fun x _ y _=>⟨_,hc x y⟩
  irr:=fun x _ r hr=>by
    rw [hc] at hr
    cases hr
    rw [cmpE_lt,kLt_irrefl]
    simp
  trans:=fun x _ y _ z _ r s t h1 h2 h3 h4 h5=>by
    rw [hc] at h1 h2 h3
    cases h1; cases h2; cases h3
    rw [cmpE_lt] at *
    exact kLt_trans h4 h5
  ntrans:=fun x _ y _ z _ r s t h1 h2 h3 h4 h5=>by
    rw [hc] at h1 h2 h3
    cases h1; cases h2; cases h3
    rw [cmpE_lt] at *
    have h4':kLt (eh x) (eh y) = false:=by simpa using h4
    have h5':kLt (eh y) (eh z) = false:=by simpa using h5
    have:=kLe_trans h5' h4'
    simp [this]
theorem sortH {c:Gheading → Gheading → Option Int} (hc:∀ a b,c a b = some (cmpE (eh a) (eh b))) {xs:List Gheading} (hn:xs.Nodup) (hl:xs.length ≤ 100000000):∃ r,sortV c xs = some r ∧ r.Perm xs ∧ StrictE (r.map eh):=by
  obtain ⟨r,hr,hp,hs⟩:=sortV_ok (ordersH hc hl)
  refine ⟨r,hr,hp,?_⟩
  have hn2:r.Pairwise fun a b=>a ≠ b:=(hp.nodup_iff).2 hn
  unfold StrictE
  rw [List.pairwise_map]
  refine (hs.and hn2).imp ?_
  rintro a b ⟨h1,h2⟩
  have h3:=h1 _ (hc b a)
  rw [cmpE_lt] at h3
  cases h4:kLt (eh a) (eh b) with
  | true=>rfl
  | false=>exact absurd (eh_inj ((hd_eq_iff (eh a) (eh b)).2 ⟨h4,by simpa using h3⟩)) h2
theorem map_eh_inj:∀ {a b:List Gheading},a.map eh = b.map eh → a = b
  | [],[],_=>rfl
  | [],_ :: _,h=>by simp at h
  | _ :: _,[],h=>by simp at h
  | x :: a,y :: b,h=>by
    simp only [List.map_cons,List.cons.injEq] at h
    rw [eh_inj h.1,map_eh_inj h.2]
theorem sortH_all {c:Gheading → Gheading → Option Int} (hc:∀ a b,c a b = some (cmpE (eh a) (eh b))) {xs:List Gheading} (hn:xs.Nodup) (hl:xs.length ≤ 100000000):∃ r,(∀ ys:List Gheading,ys.Perm xs → sortV c ys = some r) ∧ r.Perm xs ∧ StrictE (r.map eh):=by
  obtain ⟨r,_,hp,hs⟩:=sortH hc hn hl
  refine ⟨r,fun ys hy=>?_,hp,hs⟩
  obtain ⟨r',h1,h2,h3⟩:=sortH hc ((hy.nodup_iff).2 hn) (by rw [hy.length_eq]; exact hl)
  rw [h1]
  congr 1
  refine map_eh_inj (strict_ext h3 hs fun e=>?_)
  rw [List.mem_map,List.mem_map]
  constructor
  · rintro ⟨x,hx,rfl⟩
    exact ⟨x,hp.mem_iff.2 (hy.mem_iff.1 (h2.mem_iff.1 hx)),rfl⟩
  · rintro ⟨x,hx,rfl⟩
    exact ⟨x,h2.mem_iff.2 (hy.mem_iff.2 (hp.mem_iff.1 hx)),rfl⟩
theorem coll_keys {M:List (Gheading × Int)} {T:GEntry → Int} (hM:MapH M T) {ks:List Gheading} (hp:ks.Perm (keys M)) (hs:StrictE (ks.map eh)):CollT T (ks.filterMap fun k=>mkE (eh k,T (eh k))):=by
  refine ⟨?_,fun e=>?_⟩
  · unfold StrictE at hs ⊢
    rw [List.pairwise_map] at hs
    refine List.pairwise_filterMap.2 (hs.imp ?_)
    intro a b hab x hx y hy
    unfold mkE at hx hy
    split at hx
    · cases hx
    · split at hy
      · cases hy
      · cases hx
        cases hy
        exact hab
  · rw [List.mem_filterMap]
    constructor
    · rintro ⟨k,_,hk⟩
      unfold mkE at hk
      split at hk
      · cases hk
      · rename_i h0
        cases hk
        exact ⟨h0,rfl⟩
    · rintro ⟨h0,hT⟩
      have hk:he e ∈ keys M:=hM.all _ (by rw [eh_he,hT]; exact h0)
      refine ⟨he e,hp.mem_iff.2 hk,?_⟩
      unfold mkE
      dsimp only
      rw [eh_he,hT,if_neg h0]
      rfl
theorem foldLoop {α S:Type} {step:S × Int → Option ((S × Int) ⊕ S)} (l:List α) (f:S → α → S) (I:Nat → S → Prop) (s0:S) (h0:I 0 s0) (h:∀ k (hk:k < l.length) s,I k s → step (s,(k:Int)) = some (.inl (f s l[k],((k + 1:Nat):Int))) ∧ I (k + 1) (f s l[k])) (hend:∀ s,step (s,(l.length:Int)) = some (.inr s)) :
    loopV step (s0,0) = some (l.foldl f s0) ∧ I l.length (l.foldl f s0):=by
  have key:∀ n k s,l.length - k = n → k ≤ l.length → I k s → loopV step (s,(k:Int)) = some ((l.drop k).foldl f s) ∧ I l.length ((l.drop k).foldl f s):=by
    intro n
    induction n with
    | zero =>
      intro k s hn hk hI
      have:k = l.length:=by omega
      subst this
      rw [List.drop_of_length_le (Nat.le_refl _)]
      exact ⟨loopV_stop (hend s),hI⟩
    | succ n ih =>
      intro k s hn hk hI
      have hk':k < l.length:=by omega
      obtain ⟨h1,h2⟩:=h k hk' s hI
      obtain ⟨h3,h4⟩:=ih (k + 1) (f s l[k]) (by omega) (by omega) h2
      rw [List.drop_eq_getElem_cons hk',List.foldl_cons]
      exact ⟨(loopV_next h1).trans h3,h4⟩
  have:=key l.length 0 s0 rfl (Nat.zero_le _) h0
  simpa using this
theorem tot_strict {p:List GEntry} (hs:StrictE p) {e:GEntry} (he:e ∈ p):tot p (hd e) = e.Amount:=by
  induction p with
  | nil=>cases he
  | cons x p ih =>
    obtain ⟨h1,h2⟩:=List.pairwise_cons.1 hs
    rw [tot_cons]
    rcases List.mem_cons.1 he with rfl | he
    · rw [if_pos rfl,tot_none fun y hy hc=>?_]
      · omega
      · have:=h1 y hy
        rw [((hd_eq_iff y e).1 hc).2] at this
        cases this
    · have hne:hd x ≠ hd e:=fun hc=>by
        have:=h1 e he
        rw [((hd_eq_iff x e).1 hc).1] at this
        cases this
      rw [if_neg hne,ih h2 he]
      omega
end Go.Proofs.YtdenliplkmjmjaaGreat.Pl
