import Derived.Lib.ItoaNum
import Derived.Test.YtfekcgnnhjmeiaaP
import Derived.Test.YtfekcgnnhjmeiaaKPure
namespace Go.Proofs.Ytfekcgnnhjmeiaa.Pl
open Go
theorem w64_id {n:Int} (h1 : -9223372036854775808 ≤ n) (h2:n ≤ 9223372036854775807):w64 n = n:=by
  simp only [IntKind.wrap,IntKind.bits,IntKind.signed]
  simp only [Bool.true_and,ge_iff_le,decide_eq_true_eq]
  split <;> omega
theorem inb_of {α:Type} {xs:List α} {i:Int} (h0:0 ≤ i) (h1:i < xs.length):inb xs i = true:=by simp [inb,h0,h1]
theorem inb_nat {α:Type} {xs:List α} {k:Nat} (h:k < xs.length):inb xs (k:Int) = true:=inb_of (by omega) (by omega)
theorem ix_nat {α:Type} [Inhabited α] {xs:List α} {k:Nat} (h:k < xs.length):ix xs (k:Int) = xs[k]:=by simp [ix,h]
theorem room_of {n:Nat} (h:n ≤ 1000000000):room n = true:=by simp [room,h]
theorem chk_true {α:Type} {b:Bool} {x:Option α} (h:b = true):chk b x = x:=by subst h; rfl
theorem loopV_run {S O:Type} {step:S → Option (S ⊕ O)} (f:Nat → S) (n:Nat) (h:∀ k,k < n → step (f k) = some (.inl (f (k + 1)))):loopV step (f 0) = loopV step (f n):=by
  induction n with
  | zero=>rfl
  | succ n ih=>rw [ih fun k hk=>h k (by omega),loopV_next (h n (by omega))]
theorem loopV_done {S O:Type} {step:S → Option (S ⊕ O)} (f:Nat → S) (n:Nat) (o:O) (h:∀ k,k < n → step (f k) = some (.inl (f (k + 1)))) (hs:step (f n) = some (.inr o)):loopV step (f 0) = some o:=by
  rw [loopV_run f n h,loopV_stop hs]
theorem loopV_congr {S O:Type} {f g:S → Option (S ⊕ O)} (h:∀ s,f s = g s) (s:S):loopV f s = loopV g s:=by
  have:f = g:=funext h
  rw [this]
structure DOk (d:GDeck):Prop where
  at0:0 ≤ d.At
  len:d.L.length ≤ 9223372036854775807
theorem next_ok {d:GDeck} (h:DOk d) {n:Int} (h1:1 ≤ n) (h2:n ≤ 4611686018427387904):∃ v d',treatymade_Deck_Next d n = some (v,d') ∧ 0 ≤ v ∧ v < n ∧ DOk d':=by
  unfold treatymade_Deck_Next
  have hl:=h.len
  have h0:=h.at0
  by_cases hc:(d.L.length:Int) ≤ d.At
  · have hc':decide ((d.L.length:Int) ≤ d.At) = true:=by simpa using hc
    exact ⟨0,d,by simp only [hc',if_true],by omega,by omega,h⟩
  · have hc':decide ((d.L.length:Int) ≤ d.At) = false:=by simpa using hc
    have e1:w64 (d.At + 1) = d.At + 1:=w64_id (by omega) (by omega)
    have e2:w64 (d.At + 1 - 1) = d.At:=by rw [w64_id (by omega) (by omega)]; omega
    have hin:inb d.L d.At = true:=inb_of h0 (by omega)
    have hn:(!decide (n = 0)) = true:=by simp <;> omega
    simp only [hc',Bool.false_eq_true,if_false,e1,e2,chk_of hin,chk_of hn]
    generalize ix d.L d.At = x
    have hm1 : -n < x.tmod n ∧ x.tmod n < n:=by
      have a1:=Int.tmod_lt_of_pos x (show 0 < n by omega)
      have a2:=Int.lt_tmod_of_pos x (show 0 < n by omega)
      omega
    have e3:w64 (x.tmod n + n) = x.tmod n + n:=w64_id (by omega) (by omega)
    rw [e3]
    have hnn:0 ≤ x.tmod n + n:=by omega
    refine ⟨_,_,rfl,Int.tmod_nonneg _ hnn,Int.tmod_lt_of_pos _ (by omega),⟨?_,hl⟩⟩
    show 0 ≤ d.At + 1
    omega
theorem new_ok {l:List Int} (h:l.length ≤ 9223372036854775807):∃ d,treatymade_New l = some d ∧ DOk d:=⟨_,rfl,by exact Int.le_refl 0,h⟩
theorem minI_eq (x y:Int):minI x y = min x y:=by unfold minI; split <;> omega
theorem upto_ok {d:GDeck} (h:DOk d) {n:Int} (h1:0 ≤ n) (h2:n < 4611686018427387904):∃ v d',treatymade_Deck_Upto d n = some (v,d') ∧ 0 ≤ v ∧ v ≤ n ∧ DOk d':=by
  unfold treatymade_Deck_Upto
  obtain ⟨v0,d0,e0,a0,b0,k0⟩:=next_ok h (n:=6) (by omega) (by omega)
  rw [e0,Option.bind_some]
  dsimp only
  by_cases c0:v0 = 0
  · rw [if_pos (by simpa using c0)]
    obtain ⟨v,d',e,a,b,k⟩:=next_ok k0 (n:=4) (by omega) (by omega)
    rw [e,Option.bind_some,minI_eq]
    exact ⟨_,_,rfl,by dsimp only; omega,by dsimp only; omega,k⟩
  rw [if_neg (by simpa using c0)]
  by_cases c1:v0 = 1
  · rw [if_pos (by simpa using c1)]
    obtain ⟨v,d',e,a,b,k⟩:=next_ok k0 (n:=100) (by omega) (by omega)
    rw [e,Option.bind_some,minI_eq]
    exact ⟨_,_,rfl,by dsimp only; omega,by dsimp only; omega,k⟩
  rw [if_neg (by simpa using c1)]
  by_cases c2:v0 = 2
  · rw [if_pos (by simpa using c2)]
    obtain ⟨v,d',e,a,b,k⟩:=next_ok k0 (n:=1048576) (by omega) (by omega)
    rw [e,Option.bind_some,minI_eq]
    exact ⟨_,_,rfl,by dsimp only; omega,by dsimp only; omega,k⟩
  rw [if_neg (by simpa using c2),w64_id (n:=n + 1) (by omega) (by omega),minI_eq]
  by_cases c3:v0 = 3
  · rw [if_pos (by simpa using c3)]
    obtain ⟨v,d',e,a,b,k⟩:=next_ok k0 (n:=min 3 (n + 1)) (by omega) (by omega)
    rw [e,Option.bind_some]
    dsimp only
    rw [w64_id (by omega) (by omega)]
    exact ⟨_,_,rfl,by omega,by omega,k⟩
  rw [if_neg (by simpa using c3)]
  obtain ⟨v,d',e,a,b,k⟩:=next_ok k0 (n:=n + 1) (by omega) (by omega)
  rw [e,Option.bind_some]
  exact ⟨_,_,rfl,a,by dsimp only; omega,k⟩
def okP (p:GPart):Bool:=decide (1 ≤ p.Party) && decide (p.Party ≤ 15) && (decide (1 ≤ p.Share) && decide (p.Share ≤ 1000000))
theorem okP_iff {p:GPart}:okP p = true ↔ (1 ≤ p.Party ∧ p.Party ≤ 15) ∧ 1 ≤ p.Share ∧ p.Share ≤ 1000000:=by simp [okP]
def behind (q:Option Int) (x:Int):Bool:=match q with | some y=>decide (x ≤ y) | none=>false
def scanP:Option Int → List GPart → Int → Int ⊕ Int
  | _,[],s=>.inr s
  | q,p :: t,s=>if okP p = false then .inl 1 else if behind q p.Party = true then .inl 13 else scanP (some p.Party) t (s + p.Share)
def prevP (l:List GPart) (k:Nat):Option Int:=if k = 0 then none else some (l.getD (k - 1) default).Party
theorem prevP_succ {l:List GPart} {k:Nat} (h:k < l.length):prevP l (k + 1) = some l[k].Party:=by simp [prevP,h]
def partsE (l:List GPart):Int:=if 12 < l.length then 4 else match scanP none l 0 with | .inl e=>e | .inr s=>if 1000000 < s then 14 else 0
theorem within3 (x a b:Int):contract_within x a b = some (decide (a ≤ x) && decide (x ≤ b)):=rfl
theorem prev_check {l:List GPart} {k:Nat} (hk:k < l.length) (hl:l.length ≤ 12) :
    (if (decide (0 < (k:Int))) = true then (chk (inb l (w64 ((k:Int) - 1))) <| some (decide (l[k].Party ≤ (ix l (w64 ((k:Int) - 1))).Party))) else (some false)) = some (behind (prevP l k) l[k].Party):=by
  cases k with
  | zero=>simp [prevP,behind]
  | succ k =>
    have e:w64 (((k + 1:Nat):Int) - 1) = (k:Int):=by rw [w64_id (by omega) (by omega)]; omega
    have hk':k < l.length:=by omega
    rw [if_pos (by simp),e,chk_true (inb_nat hk'),ix_nat hk',prevP_succ hk']
    rfl
theorem parts_loop {l:List GPart} (hl:l.length ≤ 12):loopV (contract_Parts_l14 l) (0,0) = some (scanP none l 0):=by
  have main:∀ (n k:Nat) (s:Int),n + k = l.length → 0 ≤ s ∧ s ≤ 1000000 * (k:Int) → loopV (contract_Parts_l14 l) (s,(k:Int)) = some (scanP (prevP l k) (l.drop k) s):=by
    intro n
    induction n with
    | zero =>
      intro k s hk _
      have st:contract_Parts_l14 l (s,(k:Int)) = some (.inr (.inr s)):=by
        unfold contract_Parts_l14
        rw [if_neg (by simp; omega)]
      rw [loopV_stop st,List.drop_eq_nil_of_le (by omega)]
      rfl
    | succ n ih =>
      intro k s hk hs
      have hkl:k < l.length:=by omega
      have e:l.drop k = l[k] :: l.drop (k + 1):=List.drop_eq_getElem_cons hkl
      rw [e]
      unfold scanP
      by_cases hok:okP l[k] = true
      · have ho:=okP_iff.1 hok
        rw [if_neg (by rw [hok]; simp)]
        by_cases hb:(behind (prevP l k) l[k].Party) = true
        · have st:contract_Parts_l14 l (s,(k:Int)) = some (.inr (.inl 13)):=by
            unfold contract_Parts_l14
            dsimp only
            rw [if_pos (by simp; omega),chk_true (inb_nat hkl),ix_nat hkl,within3,within3,prev_check hkl hl,hb]
            simp [ho]
          rw [loopV_stop st,if_pos hb]
        · have hb':=Bool.eq_false_iff.2 hb
          have st:contract_Parts_l14 l (s,(k:Int)) = some (.inl (s + l[k].Share,((k + 1:Nat):Int))):=by
            unfold contract_Parts_l14
            dsimp only
            rw [if_pos (by simp; omega),chk_true (inb_nat hkl),ix_nat hkl,within3,within3,prev_check hkl hl,hb',w64_id (by omega) (by omega),w64_id (by omega) (by omega)]
            simp [ho]
          rw [loopV_next st,ih (k + 1) _ (by omega) (by omega),if_neg hb,prevP_succ hkl]
      · have hok':=Bool.eq_false_iff.2 hok
        have st:contract_Parts_l14 l (s,(k:Int)) = some (.inr (.inl 1)):=by
          unfold contract_Parts_l14
          dsimp only
          rw [if_pos (by simp; omega),chk_true (inb_nat hkl),ix_nat hkl,within3,within3]
          unfold okP at hok'
          cases h1:(decide (1 ≤ l[k].Party) && decide (l[k].Party ≤ 15)) <;> cases h2:(decide (1 ≤ l[k].Share) && decide (l[k].Share ≤ 1000000)) <;> simp [h1,h2] at hok' ⊢
        rw [loopV_stop st,if_pos hok']
  have:=main l.length 0 0 (by omega) (by omega)
  simpa [prevP] using this
theorem rparts_loop {l:List GPart} (hl:l.length ≤ 12):loopV (treatyref20_parts_l14 l) (0,0) = some (match scanP none l 0 with | .inl e=>.inl (0,e) | .inr s=>.inr s):=by
  have main:∀ (n k:Nat) (s:Int),n + k = l.length → 0 ≤ s ∧ s ≤ 1000000 * (k:Int) → loopV (treatyref20_parts_l14 l) (s,(k:Int)) = some (match scanP (prevP l k) (l.drop k) s with | .inl e=>.inl (0,e) | .inr s=>.inr s):=by
    intro n
    induction n with
    | zero =>
      intro k s hk _
      have st:treatyref20_parts_l14 l (s,(k:Int)) = some (.inr (.inr s)):=by
        unfold treatyref20_parts_l14
        rw [if_neg (by simp; omega)]
      rw [loopV_stop st,List.drop_eq_nil_of_le (by omega)]
      rfl
    | succ n ih =>
      intro k s hk hs
      have hkl:k < l.length:=by omega
      have e:l.drop k = l[k] :: l.drop (k + 1):=List.drop_eq_getElem_cons hkl
      rw [e]
      unfold scanP
      have hcond:((((decide (l[k].Party < 1)) || (decide (15 < l[k].Party))) || (decide (l[k].Share < 1))) || (decide (1000000 < l[k].Share))) = !okP l[k]:=by
        unfold okP
        rw [Bool.eq_iff_iff]
        simp
        omega
      by_cases hok:okP l[k] = true
      · have ho:=okP_iff.1 hok
        rw [if_neg (by rw [hok]; simp)]
        by_cases hb:(behind (prevP l k) l[k].Party) = true
        · have st:treatyref20_parts_l14 l (s,(k:Int)) = some (.inr (.inl (0,13))):=by
            unfold treatyref20_parts_l14
            dsimp only
            rw [if_pos (by simp; omega),chk_true (inb_nat hkl),ix_nat hkl,hcond,hok,if_neg (by simp),prev_check hkl hl,hb]
            simp
          rw [loopV_stop st,if_pos hb]
        · have hb':=Bool.eq_false_iff.2 hb
          have st:treatyref20_parts_l14 l (s,(k:Int)) = some (.inl (s + l[k].Share,((k + 1:Nat):Int))):=by
            unfold treatyref20_parts_l14
            dsimp only
            rw [if_pos (by simp; omega),chk_true (inb_nat hkl),ix_nat hkl,hcond,hok,if_neg (by simp),prev_check hkl hl,hb',w64_id (by omega) (by omega),w64_id (by omega) (by omega)]
            simp
          rw [loopV_next st,ih (k + 1) _ (by omega) (by omega),if_neg hb,prevP_succ hkl]
      · have hok':=Bool.eq_false_iff.2 hok
        have st:treatyref20_parts_l14 l (s,(k:Int)) = some (.inr (.inl (0,1))):=by
          unfold treatyref20_parts_l14
          dsimp only
          rw [if_pos (by simp; omega),chk_true (inb_nat hkl),ix_nat hkl,hcond,hok',if_pos (by simp)]
        rw [loopV_stop st,if_pos hok']
  have:=main l.length 0 0 (by omega) (by omega)
  simpa [prevP] using this
theorem parts_eq (l:List GPart):contract_Parts l = some (partsE l):=by
  unfold contract_Parts partsE
  by_cases h:12 < l.length
  · rw [if_pos (by simp; omega),if_pos h]
  · rw [if_neg (by simp; omega),if_neg h,parts_loop (by omega)]
    cases scanP none l 0 with
    | inl e=>rfl
    | inr s =>
      by_cases h2:1000000 < s <;> simp [h2]
def partsR (l:List GPart):Int × Int:=if 12 < l.length then (0,4) else match scanP none l 0 with | .inl e=>(0,e) | .inr s=>(s,0)
theorem rparts_eq (l:List GPart):treatyref20_parts l = some (partsR l):=by
  unfold treatyref20_parts partsR
  by_cases h:12 < l.length
  · rw [if_pos (by simp; omega),if_pos h]
  · rw [if_neg (by simp; omega),if_neg h,rparts_loop (by omega)]
    cases scanP none l 0 with
    | inl e=>rfl
    | inr s=>rfl
theorem scan_err:∀ (l:List GPart) (q:Option Int) (s e:Int),scanP q l s = .inl e → e = 1 ∨ e = 13
  | [],q,s,e,h=>by simp [scanP] at h
  | p :: t,q,s,e,h=>by
    unfold scanP at h
    split at h
    · cases h; exact .inl rfl
    · split at h
      · cases h; exact .inr rfl
      · exact scan_err t _ _ _ h
theorem rParts_eq (l:List GPart):treatyref20_Parts l = some (partsE l):=by
  unfold treatyref20_Parts
  rw [rparts_eq,Option.bind_some]
  unfold partsR partsE
  by_cases h:12 < l.length
  · simp [h]
  · simp only [h,if_false]
    cases hs:scanP none l 0 with
    | inl e =>
      have:=scan_err l _ _ _ hs
      simp
    | inr s =>
      by_cases h2:1000000 < s <;> simp [h2]
def shs (l:List GPart):List Int:=l.map GPart.Share
def Asc:Option Int → List GPart → Prop
  | _,[]=>True
  | q,p :: t=>okP p = true ∧ (∀ x,q = some x → x < p.Party) ∧ Asc (some p.Party) t
theorem scan_of:∀ (l:List GPart) (q:Option Int) (s:Int),Asc q l → scanP q l s = .inr (s + (shs l).sum)
  | [],q,s,_=>by simp [scanP,shs]
  | p :: t,q,s,⟨h1,h2,h3⟩=>by
    unfold scanP
    rw [if_neg (by rw [h1]; simp),if_neg,scan_of t _ _ h3]
    · simp [shs,Int.add_assoc]
    · cases q with
      | none=>simp [behind]
      | some x =>
        have:=h2 x rfl
        simp [behind]
        omega
theorem Asc.ok:∀ {l:List GPart} {q:Option Int},Asc q l → ∀ p ∈ l,okP p = true
  | p :: t,q,h,x,hx=>by
    rcases List.mem_cons.1 hx with rfl | hx
    · exact h.1
    · exact Asc.ok h.2.2 x hx
theorem shs_bounds {l:List GPart} (h:∀ p ∈ l,okP p = true):(∀ x ∈ shs l,1 ≤ x ∧ x ≤ 1000000) ∧ 0 ≤ (shs l).sum ∧ (shs l).sum ≤ 1000000 * (l.length:Int):=by
  refine ⟨fun x hx=>?_,?_⟩
  · obtain ⟨p,hp,rfl⟩:=List.mem_map.1 hx
    have:=okP_iff.1 (h p hp)
    exact this.2
  · induction l with
    | nil=>simp [shs]
    | cons p t ih =>
      have h1:=ih fun x hx=>h x (List.mem_cons_of_mem _ hx)
      have h2:=okP_iff.1 (h p (by simp))
      simp only [shs,List.map_cons,List.sum_cons,List.length_cons] at h1 ⊢
      omega
structure POk (l:List GPart):Prop where
  len:l.length ≤ 12
  asc:Asc none l
theorem POk.parts {l:List GPart} (h:POk l):partsE l = (if 1000000 < (shs l).sum then 14 else 0):=by
  unfold partsE
  have hl:=h.len
  rw [if_neg (by omega),scan_of l none 0 h.asc,Int.zero_add]
theorem Asc.snoc:∀ {l:List GPart} {q:Option Int} {p:GPart},Asc q l → okP p = true → (∀ x,q = some x → x < p.Party) → (∀ x ∈ l,x.Party < p.Party) → Asc q (l ++ [p])
  | [],q,p,_,h1,h2,_=>⟨h1,h2,trivial⟩
  | y :: t,q,p,h,h1,h2,h3=>⟨h.1,h.2.1,Asc.snoc h.2.2 h1 (fun x hx=>by cases hx; exact h3 y (by simp)) (fun x hx=>h3 x (List.mem_cons_of_mem _ hx))⟩
theorem partsLoop:∀ (k:Nat) (d:GDeck) (out:List GPart) (left party:Int),DOk d → out.length + k ≤ 4 → Asc none out → (∀ x ∈ out,x.Party ≤ party) → 0 ≤ party ∧ party ≤ 3 * (out.length:Int) → 0 ≤ left → (shs out).sum + left = 1000000 →
    ∃ (d':GDeck) (r:List GPart),loopV treatymade_Deck_Parts_l10 (d.L,d.At,out,left,party,(k:Int)) = some (d'.L,d'.At,r) ∧ DOk d' ∧ r.length ≤ 4 ∧ Asc none r ∧ (shs r).sum ≤ 1000000
  | 0,d,out,left,party,hd,hl,ha,_,_,h0,hs=>⟨d,out,loopV_stop (by unfold treatymade_Deck_Parts_l10; simp),hd,by omega,ha,by omega⟩
  | k + 1,d,out,left,party,hd,hl,ha,hp,hp2,h0,hs=>by
    obtain ⟨_,hs0,_⟩:=shs_bounds ha.ok
    by_cases hc:0 < left
    · obtain ⟨v,d1,e1,a1,b1,h1⟩:=next_ok (d:=⟨d.L,d.At⟩) hd (n:=3) (by omega) (by omega)
      obtain ⟨u,d2,e2,a2,b2,h2⟩:=upto_ok h1 (n:=left - 1) (by omega) (by omega)
      have hnew:okP (GPart.mk (party + 1 + v) (1 + u)) = true:=okP_iff.2 ⟨⟨by dsimp only; omega,by dsimp only; omega⟩,by dsimp only; omega,by dsimp only; omega⟩
      have hst:treatymade_Deck_Parts_l10 (d.L,d.At,out,left,party,((k + 1:Nat):Int)) = some (.inl (d2.L,d2.At,out ++ [GPart.mk (party + 1 + v) (1 + u)],left - (1 + u),party + 1 + v,(k:Int))):=by
        unfold treatymade_Deck_Parts_l10
        dsimp only
        rw [if_pos (by simp; omega),e1,Option.bind_some,w64_id (n:=left - 1) (by omega) (by omega)]
        dsimp only
        rw [e2,Option.bind_some]
        dsimp only
        rw [w64_id (n:=party + 1) (by omega) (by omega),w64_id (n:=party + 1 + v) (by omega) (by omega),w64_id (n:=1 + u) (by omega) (by omega),w64_id (n:=left - (1 + u)) (by omega) (by omega),chk_true (room_of (by simp; omega)),w64_id (by omega) (by omega)]
        congr 7
        omega
      obtain ⟨d3,r,h3,h4,h5,h6,h7⟩:=partsLoop k d2 (out ++ [GPart.mk (party + 1 + v) (1 + u)]) (left - (1 + u)) (party + 1 + v) h2 (by simp; omega) (ha.snoc hnew (fun x hx=>by cases hx) (fun x hx=>by have:=hp x hx; dsimp only; omega)) (fun x hx=>by
        rcases List.mem_append.1 hx with hx | hx
        · have:=hp x hx; omega
        · simp at hx; subst hx; dsimp only; omega) (by simp; omega) (by omega) (by simp [shs] at hs ⊢; omega)
      exact ⟨d3,r,by rw [loopV_next hst,h3],h4,h5,h6,h7⟩
    · exact ⟨d,out,loopV_stop (by unfold treatymade_Deck_Parts_l10; rw [if_neg (by simp; omega)]),hd,by omega,ha,by omega⟩
theorem partsMade_ok {d:GDeck} (h:DOk d):∃ p d',treatymade_Deck_Parts d = some (p,d') ∧ DOk d' ∧ p.length ≤ 4 ∧ Asc none p ∧ (shs p).sum ≤ 1000000:=by
  unfold treatymade_Deck_Parts
  obtain ⟨v,d1,e1,a1,b1,h1⟩:=next_ok h (n:=5) (by omega) (by omega)
  obtain ⟨d2,r,h2,h3,h4⟩:=partsLoop v.toNat d1 [] 1000000 0 h1 (by simp; omega) trivial (fun x hx=>by cases hx) (by simp) (by omega) (by simp [shs])
  have ev:((v.toNat:Nat):Int) = v:=by omega
  rw [ev] at h2
  rw [e1,Option.bind_some]
  dsimp only
  rw [h2,Option.bind_some]
  exact ⟨r,_,rfl,h3,h4⟩
theorem loop_any {step:Int → Option (Int ⊕ (Int ⊕ Unit))} {n:Nat} {e:Int} (bad:Nat → Bool) (h:∀ k:Nat,k < n → step (k:Int) = some (if bad k = true then .inr (.inl e) else .inl ((k + 1:Nat):Int))) (hs:step (n:Int) = some (.inr (.inr ()))):loopV step 0 = some (if (List.range n).any bad = true then .inl e else .inr ()):=by
  have main:∀ m k:Nat,m + k = n → loopV step (k:Int) = some (if ((List.range' k m).any bad) = true then .inl e else .inr ()):=by
    intro m
    induction m with
    | zero =>
      intro k hk
      have:k = n:=by omega
      subst this
      rw [loopV_stop hs]
      simp
    | succ m ih =>
      intro k hk
      have hk':=h k (by omega)
      rw [List.range'_succ,List.any_cons]
      by_cases hb:bad k = true
      · rw [if_pos hb] at hk'
        rw [loopV_stop hk',hb]
        rfl
      · rw [if_neg hb] at hk'
        rw [loopV_next hk',ih (k + 1) (by omega),Bool.eq_false_iff.2 hb]
        rfl
  have:=main n 0 (by omega)
  rw [List.range_eq_range']
  exact this
def scanA (lo hi:Int):Option Int → List Int → Int
  | _,[]=>0
  | q,x :: t=>if ¬ (lo ≤ x ∧ x ≤ hi) then 1 else if behind q x = true then 13 else scanA lo hi (some x) t
def prevA (l:List Int) (k:Nat):Option Int:=if k = 0 then none else some (l.getD (k - 1) 0)
theorem prevA_succ {l:List Int} {k:Nat} (h:k < l.length):prevA l (k + 1) = some l[k]:=by simp [prevA,h]
theorem prevA_check {l:List Int} {k:Nat} (hk:k < l.length) (hl:l.length ≤ 1000000000) :
    (if (decide (0 < (k:Int))) = true then (chk (inb l (w64 ((k:Int) - 1))) <| some (decide (l[k] ≤ (ix l (w64 ((k:Int) - 1)))))) else (some false)) = some (behind (prevA l k) l[k]):=by
  cases k with
  | zero=>simp [prevA,behind]
  | succ k =>
    have e:w64 (((k + 1:Nat):Int) - 1) = (k:Int):=by rw [w64_id (by omega) (by omega)]; omega
    have hk':k < l.length:=by omega
    rw [if_pos (by simp),e,chk_true (inb_nat hk'),ix_nat hk',prevA_succ hk']
    rfl
theorem asc_step (l:List Int) (lo hi:Int) (s:Int):contract_ascending_l6 l lo hi s = treatyref20_ascending_l6 l lo hi s:=by
  unfold contract_ascending_l6 treatyref20_ascending_l6
  rw [within3,Option.bind_some]
  have e:(!(decide (lo ≤ ix l s) && decide (ix l s ≤ hi))) = ((decide ((ix l s) < lo)) || (decide (hi < (ix l s)))):=by
    rw [Bool.eq_iff_iff]
    simp
  rw [e]
theorem asc_same (l:List Int) (lo hi:Int):contract_ascending l lo hi = treatyref20_ascending l lo hi:=by
  unfold contract_ascending treatyref20_ascending
  rw [loopV_congr (asc_step l lo hi)]
theorem rasc_eq {l:List Int} {lo hi:Int} (hl:l.length ≤ 1000000000):treatyref20_ascending l lo hi = some (scanA lo hi none l):=by
  have main:∀ (n k:Nat),n + k = l.length → loopV (treatyref20_ascending_l6 l lo hi) (k:Int) = some (if scanA lo hi (prevA l k) (l.drop k) = 0 then .inr () else .inl (scanA lo hi (prevA l k) (l.drop k))):=by
    intro n
    induction n with
    | zero =>
      intro k hk
      have st:treatyref20_ascending_l6 l lo hi (k:Int) = some (.inr (.inr ())):=by
        unfold treatyref20_ascending_l6
        rw [if_neg (by simp; omega)]
      rw [loopV_stop st,List.drop_eq_nil_of_le (by omega)]
      rfl
    | succ n ih =>
      intro k hk
      have hkl:k < l.length:=by omega
      have e:l.drop k = l[k] :: l.drop (k + 1):=List.drop_eq_getElem_cons hkl
      rw [e]
      have e2:scanA lo hi (prevA l k) (l[k] :: l.drop (k + 1)) = (if ¬ (lo ≤ l[k] ∧ l[k] ≤ hi) then 1 else if behind (prevA l k) l[k] = true then 13 else scanA lo hi (some l[k]) (l.drop (k + 1))):=rfl
      by_cases hok:lo ≤ l[k] ∧ l[k] ≤ hi
      · rw [if_neg (by simpa using hok)] at e2
        by_cases hb:(behind (prevA l k) l[k]) = true
        · have st:treatyref20_ascending_l6 l lo hi (k:Int) = some (.inr (.inl 13)):=by
            unfold treatyref20_ascending_l6
            rw [if_pos (by simp; omega),chk_true (inb_nat hkl),ix_nat hkl,if_neg (by simp; omega),prevA_check hkl hl,hb]
            simp
          rw [if_pos hb] at e2
          rw [loopV_stop st,e2]
          rfl
        · have hb':=Bool.eq_false_iff.2 hb
          have st:treatyref20_ascending_l6 l lo hi (k:Int) = some (.inl ((k + 1:Nat):Int)):=by
            unfold treatyref20_ascending_l6
            rw [if_pos (by simp; omega),chk_true (inb_nat hkl),ix_nat hkl,if_neg (by simp; omega),prevA_check hkl hl,hb',w64_id (by omega) (by omega)]
            simp
          rw [if_neg hb] at e2
          rw [loopV_next st,ih (k + 1) (by omega),e2,prevA_succ hkl]
      · have st:treatyref20_ascending_l6 l lo hi (k:Int) = some (.inr (.inl 1)):=by
          unfold treatyref20_ascending_l6
          rw [if_pos (by simp; omega),chk_true (inb_nat hkl),ix_nat hkl,if_pos (by simp; omega)]
        rw [if_pos hok] at e2
        rw [loopV_stop st,e2]
        rfl
  have:=main l.length 0 (by omega)
  unfold treatyref20_ascending
  have e0:prevA l 0 = none:=rfl
  rw [e0,List.drop_zero] at this
  have this':loopV (treatyref20_ascending_l6 l lo hi) 0 = _:=this
  rw [this']
  by_cases h0:scanA lo hi none l = 0 <;> simp [h0]
theorem asc_eq {l:List Int} {lo hi:Int} (hl:l.length ≤ 1000000000):contract_ascending l lo hi = some (scanA lo hi none l):=by rw [asc_same,rasc_eq hl]
theorem holds_eq {l:List Int} {x:Int} (hl:l.length ≤ 1000000000):treatyref20_holds l x = some (decide (x ∈ l)):=by
  have main:∀ (n k:Nat),n + k = l.length → loopV (treatyref20_holds_l6 l x) (k:Int) = some (if x ∈ l.drop k then .inl true else .inr ()):=by
    intro n
    induction n with
    | zero =>
      intro k hk
      have st:treatyref20_holds_l6 l x (k:Int) = some (.inr (.inr ())):=by
        unfold treatyref20_holds_l6
        rw [if_neg (by simp; omega)]
      rw [loopV_stop st,List.drop_eq_nil_of_le (by omega)]
      rfl
    | succ n ih =>
      intro k hk
      have hkl:k < l.length:=by omega
      have e:l.drop k = l[k] :: l.drop (k + 1):=List.drop_eq_getElem_cons hkl
      rw [e]
      by_cases hx:l[k] = x
      · have st:treatyref20_holds_l6 l x (k:Int) = some (.inr (.inl true)):=by
          unfold treatyref20_holds_l6
          rw [if_pos (by simp; omega),chk_true (inb_nat hkl),ix_nat hkl,if_pos (by simpa using hx)]
        rw [loopV_stop st]
        simp [hx]
      · have st:treatyref20_holds_l6 l x (k:Int) = some (.inl ((k + 1:Nat):Int)):=by
          unfold treatyref20_holds_l6
          rw [if_pos (by simp; omega),chk_true (inb_nat hkl),ix_nat hkl,if_neg (by simpa using hx),w64_id (by omega) (by omega)]
          rfl
        have hx':¬ x = l[k]:=fun e=>hx e.symm
        rw [loopV_next st,ih (k + 1) (by omega)]
        simp only [List.mem_cons,hx',false_or]
  have:=main l.length 0 (by omega)
  unfold treatyref20_holds
  have this':loopV (treatyref20_holds_l6 l x) 0 = _:=this
  rw [this',List.drop_zero]
  by_cases h0:x ∈ l <;> simp [h0]
theorem contains_eq {l:List Int} {x:Int} (hl:l.length ≤ 1000000000):slices_Contains_s_int_int l x = some (decide (x ∈ l)):=by
  have main:∀ (n k:Nat),n + k = l.length → ∃ j:Nat,loopV (slices_Index_s_int_int_l6 l x) (k:Int) = some (if x ∈ l.drop k then .inl (j:Int) else .inr ()):=by
    intro n
    induction n with
    | zero =>
      intro k hk
      have st:slices_Index_s_int_int_l6 l x (k:Int) = some (.inr (.inr ())):=by
        unfold slices_Index_s_int_int_l6
        rw [if_neg (by simp; omega)]
      refine ⟨0,?_⟩
      rw [loopV_stop st,List.drop_eq_nil_of_le (by omega)]
      rfl
    | succ n ih =>
      intro k hk
      have hkl:k < l.length:=by omega
      have e:l.drop k = l[k] :: l.drop (k + 1):=List.drop_eq_getElem_cons hkl
      rw [e]
      by_cases hx:x = l[k]
      · have st:slices_Index_s_int_int_l6 l x (k:Int) = some (.inr (.inl (k:Int))):=by
          unfold slices_Index_s_int_int_l6
          rw [if_pos (by simp; omega),chk_true (inb_nat hkl),ix_nat hkl,if_pos (by simpa using hx)]
        refine ⟨k,?_⟩
        rw [loopV_stop st]
        simp [← hx]
      · have st:slices_Index_s_int_int_l6 l x (k:Int) = some (.inl ((k + 1:Nat):Int)):=by
          unfold slices_Index_s_int_int_l6
          rw [if_pos (by simp; omega),chk_true (inb_nat hkl),ix_nat hkl,if_neg (by simpa using hx),w64_id (by omega) (by omega)]
          rfl
        obtain ⟨j,hj⟩:=ih (k + 1) (by omega)
        refine ⟨j,?_⟩
        rw [loopV_next st,hj]
        simp only [List.mem_cons,hx,false_or]
  obtain ⟨j,this⟩:=main l.length 0 (by omega)
  unfold slices_Contains_s_int_int slices_Index_s_int_int
  have this':loopV (slices_Index_s_int_int_l6 l x) 0 = _:=this
  rw [this',List.drop_zero]
  by_cases h0:x ∈ l <;> simp [h0]
def mon:Gspan:=⟨0,1073741824⟩
def pos:Gspan:=⟨1,1073741824⟩
def non:Gspan:=⟨0,0⟩
def ruleL (k:Int):List Gspan :=
  if k = 1 then [non,⟨1,1000000⟩,non,non,non,mon,non,non,non,non,mon]
  else if k = 2 then [non,non,pos,⟨1,100⟩,non,non,non,non,non,non,mon]
  else if k = 3 then [⟨1,1048576⟩,⟨1,1000000⟩,non,non,non,non,non,non,non,non,mon]
  else if k = 4 then [non,non,non,non,mon,pos,non,mon,mon,⟨0,1000000000⟩,mon]
  else if k = 5 then [non,non,non,non,mon,pos,⟨1,8784⟩,mon,mon,non,mon]
  else [non,non,non,non,mon,pos,non,non,non,non,mon]
def leastL (k:Int):List Int :=
  if k = 1 then [-1,1,-1,-1,-1,0,-1,-1,-1,-1]
  else if k = 2 then [-1,-1,1,1,-1,-1,-1,-1,-1,-1]
  else if k = 3 then [1,1,-1,-1,-1,-1,-1,-1,-1,-1]
  else if k = 4 then [-1,-1,-1,-1,0,1,-1,0,0,0]
  else if k = 5 then [-1,-1,-1,-1,0,1,1,0,0,-1]
  else [-1,-1,-1,-1,0,1,-1,-1,-1,-1]
theorem kinds {k:Int} (h:1 ≤ k ∧ k ≤ 6):k = 1 ∨ k = 2 ∨ k = 3 ∨ k = 4 ∨ k = 5 ∨ k = 6:=by omega
theorem ruleOf_eq {k:Int} (h:1 ≤ k ∧ k ≤ 6):contract_ruleOf k = some (ruleL k):=by
  rcases kinds h with rfl | rfl | rfl | rfl | rfl | rfl <;> rfl
theorem least_eq {k:Int} (h:1 ≤ k ∧ k ≤ 6):treatyref20_least k = some (leastL k):=by
  rcases kinds h with rfl | rfl | rfl | rfl | rfl | rfl <;> rfl
theorem ruleL_length (k:Int):(ruleL k).length = 11:=by unfold ruleL; (repeat' split) <;> rfl
theorem leastL_length (k:Int):(leastL k).length = 10:=by unfold leastL; (repeat' split) <;> rfl
def vals (t:GTreaty):List Int:=[t.Risk,t.Cession,t.Line,t.Lines,t.Retention,t.Limit,t.Window,t.Deductible,t.Aggregate,t.Base,t.Premium]
def nums (t:GTreaty):List Int:=[t.Risk,t.Cession,t.Line,t.Lines,t.Retention,t.Limit,t.Window,t.Deductible,t.Aggregate,t.Base]
def mosts:List Int:=[1048576,1000000,1073741824,100,1073741824,1073741824,8784,1073741824,1073741824,1000000000]
def alien (t:GTreaty) (r:List Gspan):Nat → Bool:=fun k=>decide ([(ix r (k:Int)).low,(ix r (k:Int)).high] = [0,0]) && !decide (ix (vals t) (k:Int) = 0)
def wide (t:GTreaty) (r:List Gspan):Nat → Bool:=fun k=>!decide ([(ix r (k:Int)).low,(ix r (k:Int)).high] = [0,0]) && !(decide ((ix r (k:Int)).low ≤ ix (vals t) (k:Int)) && decide (ix (vals t) (k:Int) ≤ (ix r (k:Int)).high))
def restored (t:GTreaty):Bool:=(!(decide (t.Kind = 4) || decide (t.Kind = 5)) && decide (0 < (t.Reinstatements.length:Int))) || (t.Timed && decide ((t.Reinstatements.length:Int) = 0))
def fieldsE (t:GTreaty):Int:=if (List.range 11).any (alien t (ruleL t.Kind)) = true then 20 else if restored t = true then 20 else if (List.range 11).any (wide t (ruleL t.Kind)) = true then 1 else 0
theorem alien_loop {t:GTreaty} {r:List Gspan} (hr:r.length = 11):loopV (contract_fields_l10 t r) 0 = some (if (List.range 11).any (alien t r) = true then .inl 20 else .inr ()):=by
  refine loop_any _ (fun k hk=>?_) ?_
  · unfold contract_fields_l10
    rw [if_pos (by simp; omega),chk_true (by simp),chk_true (by simp; omega),chk_true (inb_nat (by simpa using hk)),chk_true (inb_nat (by omega)),w64_id (by omega) (by omega)]
    unfold alien vals
    split <;> rfl
  · unfold contract_fields_l10
    rw [if_neg (by simp)]
theorem wide_loop {t:GTreaty} {r:List Gspan} (hr:r.length = 11):loopV (contract_fields_l42 t r) 0 = some (if (List.range 11).any (wide t r) = true then .inl 1 else .inr ()):=by
  refine loop_any _ (fun k hk=>?_) ?_
  · unfold contract_fields_l42
    rw [if_pos (by simp; omega),chk_true (by simp),chk_true (by simp; omega),chk_true (inb_nat (by simpa using hk)),chk_true (inb_nat (by omega)),chk_true (inb_nat (by omega)),within3,w64_id (by omega) (by omega)]
    unfold wide vals
    cases h:decide ([(ix r (k:Int)).low,(ix r (k:Int)).high] = [0,0]) <;> simp only [Bool.not_true,Bool.not_false,if_true,Bool.false_eq_true,if_false,Option.bind_some,Bool.true_and,Bool.false_and] <;> first | rfl | (split <;> rfl)
  · unfold contract_fields_l42
    rw [if_neg (by simp)]
theorem fields_eq {t:GTreaty} (hk:1 ≤ t.Kind ∧ t.Kind ≤ 6):contract_fields t = some (fieldsE t):=by
  unfold contract_fields
  rw [chk_true (by simp),chk_true (by simp),ruleOf_eq hk,Option.bind_some,chk_true (by simp),chk_true (by simpa using ruleL_length t.Kind),alien_loop (ruleL_length _),wide_loop (ruleL_length _)]
  unfold fieldsE
  cases h1:(List.range 11).any (alien t (ruleL t.Kind))
  · simp only [Option.bind_some,Sum.elim_inr,Sum.elim_inl,Bool.false_eq_true,if_false]
    have e:restored t = ((((decide (0 < (t.Reinstatements.length:Int))) && (!decide (t.Kind = 4))) && (!decide (t.Kind = 5))) || ((decide ((t.Reinstatements.length:Int) = 0)) && t.Timed)):=by
      unfold restored
      cases decide (t.Kind = 4) <;> cases decide (t.Kind = 5) <;> cases decide (0 < (t.Reinstatements.length:Int)) <;> cases t.Timed <;> cases decide ((t.Reinstatements.length:Int) = 0) <;> rfl
    rw [e]
    cases h2:(((decide (0 < (t.Reinstatements.length:Int))) && (!decide (t.Kind = 4))) && (!decide (t.Kind = 5)))
    · simp only [Bool.false_eq_true,if_false,Bool.false_or]
      cases h3:((decide ((t.Reinstatements.length:Int) = 0)) && t.Timed)
      · simp only [Bool.false_eq_true,if_false]
        cases h4:(List.range 11).any (wide t (ruleL t.Kind)) <;> rfl
      · rfl
    · rfl
  · rfl
def ralien (t:GTreaty):Nat → Bool:=fun k=>decide (ix (leastL t.Kind) (k:Int) < 0) && !decide (ix (nums t) (k:Int) = 0)
def rwide (t:GTreaty):Nat → Bool:=fun k=>decide (0 ≤ ix (leastL t.Kind) (k:Int)) && (decide (ix (nums t) (k:Int) < ix (leastL t.Kind) (k:Int)) || decide (ix mosts (k:Int) < ix (nums t) (k:Int)))
theorem ralien_loop {t:GTreaty}:loopV (treatyref20_Validate_l43 (nums t) (leastL t.Kind)) 0 = some (if (List.range 10).any (ralien t) = true then .inl 20 else .inr ()):=by
  have hll:=leastL_length t.Kind
  refine loop_any _ (fun k hk=>?_) ?_
  · unfold treatyref20_Validate_l43
    have hn:(nums t).length = 10:=rfl
    rw [if_pos (by simp [hn]; omega),chk_true (inb_nat (by omega)),chk_true (inb_nat (by omega)),w64_id (by omega) (by omega)]
    unfold ralien
    cases h:decide (ix (leastL t.Kind) (k:Int) < 0) <;> simp only [if_true,Bool.false_eq_true,if_false,Option.bind_some,Bool.true_and,Bool.false_and] <;> first | rfl | (split <;> rfl)
  · unfold treatyref20_Validate_l43
    rw [if_neg (by simp [nums])]
theorem rwide_loop {t:GTreaty}:loopV (treatyref20_Validate_l69 (nums t) (leastL t.Kind)) 0 = some (if (List.range 10).any (rwide t) = true then .inl 1 else .inr ()):=by
  have hll:=leastL_length t.Kind
  refine loop_any _ (fun k hk=>?_) ?_
  · unfold treatyref20_Validate_l69
    have hn:(nums t).length = 10:=rfl
    have hm:inb [1048576,1000000,1073741824,100,1073741824,1073741824,8784,1073741824,1073741824,1000000000] (k:Int) = true:=inb_nat (by simpa using hk)
    rw [if_pos (by simp [hn]; omega)]
    simp only [chk_true (inb_nat (show k < (leastL t.Kind).length by omega)),chk_true (inb_nat (show k < (nums t).length by omega)),chk_true hm]
    rw [w64_id (by omega) (by omega)]
    unfold rwide mosts
    cases h:decide (0 ≤ ix (leastL t.Kind) (k:Int)) <;> simp only [if_true,Bool.false_eq_true,if_false,Option.bind_some,Bool.true_and,Bool.false_and]
    · rfl
    · cases h2:decide (ix (nums t) (k:Int) < ix (leastL t.Kind) (k:Int)) <;> simp only [if_true,Bool.false_eq_true,if_false,Option.bind_some,Bool.true_or,Bool.false_or] <;> first | rfl | (split <;> rfl)
  · unfold treatyref20_Validate_l69
    rw [if_neg (by simp [nums])]
theorem alien_same {t:GTreaty} (hk:1 ≤ t.Kind ∧ t.Kind ≤ 6):(List.range 10).any (ralien t) = (List.range 11).any (alien t (ruleL t.Kind)):=by
  unfold ralien alien
  rcases kinds hk with h | h | h | h | h | h <;> rw [h] <;> simp [List.range,List.range.loop,ix,nums,vals,ruleL,leastL,non,mon,pos]
theorem wide_same {t:GTreaty} (hk:1 ≤ t.Kind ∧ t.Kind ≤ 6):(List.range 11).any (wide t (ruleL t.Kind)) = ((List.range 10).any (rwide t) || (decide (t.Premium < 0) || decide (1073741824 < t.Premium))):=by
  unfold rwide wide
  rw [Bool.eq_iff_iff]
  rcases kinds hk with h | h | h | h | h | h <;> rw [h] <;> simp [List.range,List.range.loop,ix,nums,vals,ruleL,leastL,mosts,non,mon,pos] <;> omega
structure TLen (t:GTreaty):Prop where
  perils:t.Perils.length ≤ 1000000000
  areas:t.Areas.length ≤ 1000000000
  inures:t.Inures.length ≤ 1000000000
def badR (t:GTreaty):Nat → Bool:=fun k=>!(decide (0 ≤ ix t.Reinstatements (k:Int)) && decide (ix t.Reinstatements (k:Int) ≤ 2000000))
def validE (t:GTreaty):Int :=
  if ¬ (1 ≤ t.ID ∧ t.ID ≤ 1048576) then 1 else if ¬ (1 ≤ t.Kind ∧ t.Kind ≤ 6) then 11
  else if ¬ (0 ≤ t.Period.From ∧ t.Period.From < t.Period.To ∧ t.Period.To ≤ 876600) then 12
  else if scanA 0 15 none t.Perils ≠ 0 then scanA 0 15 none t.Perils
  else if scanA 0 15 none t.Areas ≠ 0 then scanA 0 15 none t.Areas
  else if fieldsE t ≠ 0 then fieldsE t
  else if 8 < t.Reinstatements.length then 4
  else if (List.range t.Reinstatements.length).any (badR t) = true then 1
  else if 12 < t.Inures.length then 4
  else if scanA 1 1048576 none t.Inures ≠ 0 then scanA 1 1048576 none t.Inures
  else if t.ID ∈ t.Inures then 10
  else partsE t.Parts
theorem rein_loop {t:GTreaty} (h:t.Reinstatements.length ≤ 8):loopV (contract_Validate_l54 t) 0 = some (if (List.range t.Reinstatements.length).any (badR t) = true then .inl 1 else .inr ()):=by
  refine loop_any _ (fun k hk=>?_) ?_
  · unfold contract_Validate_l54
    rw [if_pos (by simp; omega),chk_true (inb_nat hk),within3,Option.bind_some,w64_id (by omega) (by omega)]
    unfold badR
    split <;> rfl
  · unfold contract_Validate_l54
    rw [if_neg (by simp)]
theorem rrein_step (t:GTreaty) (s:Int):treatyref20_Validate_l99 t s = contract_Validate_l54 t s:=by
  unfold treatyref20_Validate_l99 contract_Validate_l54
  rw [within3,Option.bind_some]
  have e:((decide ((ix t.Reinstatements s) < 0)) || (decide (2000000 < (ix t.Reinstatements s)))) = !(decide (0 ≤ ix t.Reinstatements s) && decide (ix t.Reinstatements s ≤ 2000000)):=by
    rw [Bool.eq_iff_iff]
    simp
  rw [e]
theorem validate_eq {t:GTreaty} (h:TLen t):contract_Validate t = some (validE t):=by
  unfold contract_Validate validE
  rw [within3,Option.bind_some]
  by_cases h1:1 ≤ t.ID ∧ t.ID ≤ 1048576
  rotate_left
  · rw [if_pos (by simp; omega),if_pos h1]
  rw [if_neg (by simp; omega),if_neg (not_not_intro h1),within3,Option.bind_some]
  by_cases h2:1 ≤ t.Kind ∧ t.Kind ≤ 6
  rotate_left
  · rw [if_pos (by simp; omega),if_pos h2]
  rw [if_neg (by simp; omega),if_neg (not_not_intro h2)]
  unfold calendar_Valid
  rw [Option.bind_some]
  by_cases h3:0 ≤ t.Period.From ∧ t.Period.From < t.Period.To ∧ t.Period.To ≤ 876600
  rotate_left
  · rw [if_pos (by simp; omega),if_pos h3]
  rw [if_neg (by simp; omega),if_neg (not_not_intro h3),asc_eq h.perils,Option.bind_some]
  by_cases h4:scanA 0 15 none t.Perils = 0
  rotate_left
  · rw [if_pos (by simpa using h4),if_pos h4]
  rw [if_neg (by simpa using h4),if_neg (not_not_intro h4),asc_eq h.areas,Option.bind_some]
  by_cases h5:scanA 0 15 none t.Areas = 0
  rotate_left
  · rw [if_pos (by simpa using h5),if_pos h5]
  rw [if_neg (by simpa using h5),if_neg (not_not_intro h5),fields_eq h2,Option.bind_some]
  by_cases h6:fieldsE t = 0
  rotate_left
  · rw [if_pos (by simpa using h6),if_pos h6]
  rw [if_neg (by simpa using h6),if_neg (not_not_intro h6)]
  by_cases h7:8 < t.Reinstatements.length
  · rw [if_pos (by simp; omega),if_pos h7]
  rw [if_neg (by simp; omega),if_neg h7,rein_loop (by omega)]
  cases h8:(List.range t.Reinstatements.length).any (badR t)
  rotate_left
  · rfl
  simp only [Bool.false_eq_true,if_false,Option.bind_some,Sum.elim_inr,Sum.elim_inl]
  by_cases h9:12 < t.Inures.length
  · rw [if_pos (by simp; omega),if_pos h9]
  rw [if_neg (by simp; omega),if_neg h9,asc_eq h.inures,Option.bind_some]
  by_cases h10:scanA 1 1048576 none t.Inures = 0
  rotate_left
  · rw [if_pos (by simpa using h10),if_pos h10]
  rw [if_neg (by simpa using h10),if_neg (not_not_intro h10),contains_eq h.inures,Option.bind_some]
  by_cases h11:t.ID ∈ t.Inures
  · rw [if_pos (by simpa using h11),if_pos h11]
  rw [if_neg (by simpa using h11),if_neg h11,parts_eq]
  rfl
theorem rvalidate_eq {t:GTreaty} (h:TLen t):treatyref20_Validate t = some (validE t):=by
  unfold treatyref20_Validate validE
  by_cases h1:1 ≤ t.ID ∧ t.ID ≤ 1048576
  rotate_left
  · rw [if_pos (by simp; omega),if_pos h1]
  rw [if_neg (by simp; omega),if_neg (not_not_intro h1)]
  by_cases h2:1 ≤ t.Kind ∧ t.Kind ≤ 6
  rotate_left
  · rw [if_pos (by simp; omega),if_pos h2]
  rw [if_neg (by simp; omega),if_neg (not_not_intro h2)]
  unfold treatyref01_PeriodValid
  rw [Option.bind_some]
  by_cases h3:0 ≤ t.Period.From ∧ t.Period.From < t.Period.To ∧ t.Period.To ≤ 876600
  rotate_left
  · rw [if_pos (by simp; omega),if_pos h3]
  rw [if_neg (by simp; omega),if_neg (not_not_intro h3),rasc_eq h.perils,Option.bind_some]
  by_cases h4:scanA 0 15 none t.Perils = 0
  rotate_left
  · rw [if_pos (by simpa using h4),if_pos h4]
  rw [if_neg (by simpa using h4),if_neg (not_not_intro h4),rasc_eq h.areas,Option.bind_some]
  by_cases h5:scanA 0 15 none t.Areas = 0
  rotate_left
  · rw [if_pos (by simpa using h5),if_pos h5]
  have en:treatyref20_numbers t = some (nums t):=rfl
  rw [if_neg (by simpa using h5),if_neg (not_not_intro h5),en,Option.bind_some,least_eq h2,Option.bind_some,ralien_loop,rwide_loop,alien_same h2]
  unfold fieldsE
  cases ha:(List.range 11).any (alien t (ruleL t.Kind))
  rotate_left
  · rfl
  simp only [Bool.false_eq_true,if_false,Option.bind_some,Sum.elim_inr,Sum.elim_inl]
  have er:(((!((decide (t.Kind = 4)) || (decide (t.Kind = 5)))) && (decide (0 < (t.Reinstatements.length:Int)))) || (t.Timed && (decide ((t.Reinstatements.length:Int) = 0)))) = restored t:=rfl
  rw [er]
  cases hr:restored t
  rotate_left
  · rfl
  simp only [Bool.false_eq_true,if_false]
  have hw:=wide_same h2
  cases hw1:(List.range 10).any (rwide t)
  rotate_left
  · rw [hw1,Bool.true_or] at hw
    rw [hw]
    rfl
  rw [hw1,Bool.false_or] at hw
  rw [hw]
  simp only [Bool.false_eq_true,if_false,Option.bind_some,Sum.elim_inr,Sum.elim_inl]
  cases hp:(decide (t.Premium < 0) || decide (1073741824 < t.Premium))
  rotate_left
  · rfl
  simp only [Bool.false_eq_true,if_false,ne_eq,not_true_eq_false]
  by_cases h7:8 < t.Reinstatements.length
  · rw [if_pos (by simp; omega),if_pos h7]
  rw [if_neg (by simp; omega),if_neg h7,loopV_congr (rrein_step t),rein_loop (by omega)]
  cases h8:(List.range t.Reinstatements.length).any (badR t)
  rotate_left
  · rfl
  simp only [Bool.false_eq_true,if_false,Option.bind_some,Sum.elim_inr,Sum.elim_inl]
  by_cases h9:12 < t.Inures.length
  · rw [if_pos (by simp; omega),if_pos h9]
  rw [if_neg (by simp; omega),if_neg h9,rasc_eq h.inures,Option.bind_some]
  by_cases h10:scanA 1 1048576 none t.Inures = 0
  rotate_left
  · rw [if_pos (by simpa using h10),if_pos h10]
  rw [if_neg (by simpa using h10),if_neg (not_not_intro h10),holds_eq h.inures,Option.bind_some]
  by_cases h11:t.ID ∈ t.Inures
  · rw [if_pos (by simpa using h11),if_pos h11]
  rw [if_neg (by simpa using h11),if_neg h11,rParts_eq]
  rfl
theorem range_ok {d:GDeck} (h:DOk d) {lo hi:Int} (h0:0 ≤ lo) (h1:lo ≤ hi) (h2:hi ≤ 1000000000000):∃ v d',treatymade_Deck_Range d lo hi = some (v,d') ∧ lo ≤ v ∧ v ≤ hi ∧ DOk d':=by
  unfold treatymade_Deck_Range
  rw [w64_id (n:=hi - lo) (by omega) (by omega),w64_id (n:=hi - lo + 1) (by omega) (by omega)]
  obtain ⟨v,d',e,a,b,k⟩:=next_ok h (n:=hi - lo + 1) (by omega) (by omega)
  rw [e,Option.bind_some]
  dsimp only
  rw [w64_id (by omega) (by omega)]
  exact ⟨_,_,rfl,by omega,by omega,k⟩
theorem money_ok {d:GDeck} (h:DOk d):∃ v d',treatymade_Deck_Money d = some (v,d') ∧ 0 ≤ v ∧ v ≤ 1073741824 ∧ DOk d':=by
  unfold treatymade_Deck_Money
  obtain ⟨v,d',e,a,b,k⟩:=upto_ok h (n:=1073741824) (by omega) (by omega)
  rw [e,Option.bind_some]
  exact ⟨_,_,rfl,a,b,k⟩
def AscI (lo hi:Int):Option Int → List Int → Prop
  | _,[]=>True
  | q,x :: t=>(lo ≤ x ∧ x ≤ hi) ∧ (∀ y,q = some y → y < x) ∧ AscI lo hi (some x) t
theorem scanA_ok {lo hi:Int}:∀ {l:List Int} {q:Option Int},AscI lo hi q l → scanA lo hi q l = 0
  | [],_,_=>rfl
  | x :: t,q,⟨h1,h2,h3⟩=>by
    unfold scanA
    rw [if_neg (not_not_intro h1),if_neg,scanA_ok h3]
    cases q with
    | none=>simp [behind]
    | some y =>
      have:=h2 y rfl
      simp [behind]
      omega
theorem AscI.snoc {lo hi:Int}:∀ {l:List Int} {q:Option Int} {p:Int},AscI lo hi q l → (lo ≤ p ∧ p ≤ hi) → (∀ x,q = some x → x < p) → (∀ x ∈ l,x < p) → AscI lo hi q (l ++ [p])
  | [],q,p,_,hp,hq,_=>⟨hp,hq,trivial⟩
  | x :: t,q,p,⟨h1,h2,h3⟩,hp,_,hl=>⟨h1,h2,AscI.snoc h3 hp (fun y hy=>by cases hy; exact hl x (by simp)) (fun y hy=>hl y (List.mem_cons_of_mem _ hy))⟩
theorem subset_ok {d:GDeck} (h:DOk d):∃ l d',treatymade_Deck_subset d 0 2 = some (l,d') ∧ DOk d' ∧ l.length ≤ 3 ∧ AscI 0 15 none l:=by
  unfold treatymade_Deck_subset
  obtain ⟨v,d1,e1,a1,b1,h1⟩:=next_ok h (n:=2) (by omega) (by omega)
  rw [e1,Option.bind_some]
  dsimp only
  by_cases hv:v = 0
  · rw [if_pos (by simpa using hv)]
    exact ⟨_,_,rfl,h1,by simp,trivial⟩
  rw [if_neg (by simpa using hv)]
  have main:∀ (m:Nat) (k:Nat) (d:GDeck) (l:List Int),m + k = 3 → DOk d → l.length ≤ k → AscI 0 15 none l → (∀ x ∈ l,x < (k:Int)) → ∃ d' l',loopV (treatymade_Deck_subset_l14 2) (d.L,d.At,l,(k:Int)) = some (d'.L,d'.At,l') ∧ DOk d' ∧ l'.length ≤ 3 ∧ AscI 0 15 none l':=by
    intro m
    induction m with
    | zero =>
      intro k d l hk hd hl ha hb
      have st:treatymade_Deck_subset_l14 2 (d.L,d.At,l,(k:Int)) = some (.inr (d.L,d.At,l)):=by
        unfold treatymade_Deck_subset_l14
        dsimp only
        rw [if_neg (by simp; omega)]
      exact ⟨d,l,loopV_stop st,hd,by omega,ha⟩
    | succ m ih =>
      intro k d l hk hd hl ha hb
      obtain ⟨w,d2,e2,a2,b2,h2⟩:=next_ok hd (n:=3) (by omega) (by omega)
      by_cases hw:0 < w
      · have st:treatymade_Deck_subset_l14 2 (d.L,d.At,l,(k:Int)) = some (.inl (d2.L,d2.At,l ++ [(k:Int)],((k + 1:Nat):Int))):=by
          unfold treatymade_Deck_subset_l14
          dsimp only
          rw [if_pos (by simp; omega),show GDeck.mk d.L d.At = d from rfl,e2,Option.bind_some]
          dsimp only
          rw [if_pos (by simpa using hw),chk_true (room_of (by simp; omega)),Option.bind_some,w64_id (by omega) (by omega)]
          rfl
        rw [loopV_next st]
        refine ih (k + 1) d2 _ (by omega) h2 (by simp; omega) (ha.snoc ⟨by omega,by omega⟩ (fun x hx=>by cases hx) hb) (fun x hx=>?_)
        rcases List.mem_append.1 hx with hx | hx
        · have:=hb x hx; omega
        · simp at hx; omega
      · have st:treatymade_Deck_subset_l14 2 (d.L,d.At,l,(k:Int)) = some (.inl (d2.L,d2.At,l,((k + 1:Nat):Int))):=by
          unfold treatymade_Deck_subset_l14
          dsimp only
          rw [if_pos (by simp; omega),show GDeck.mk d.L d.At = d from rfl,e2,Option.bind_some]
          dsimp only
          rw [if_neg (by simpa using hw),Option.bind_some,w64_id (by omega) (by omega)]
          rfl
        rw [loopV_next st]
        exact ih (k + 1) d2 l (by omega) h2 (by omega) ha (fun x hx=>by have:=hb x hx; omega)
  obtain ⟨d',l',e,hd',hl',ha'⟩:=main 3 0 d1 [] (by omega) h1 (by simp) trivial (by simp)
  have e':loopV (treatymade_Deck_subset_l14 2) (d1.L,d1.At,[],0) = some (d'.L,d'.At,l'):=e
  rw [e',Option.bind_some]
  exact ⟨_,_,rfl,hd',hl',ha'⟩
structure TBase (t:GTreaty) (id kind:Int):Prop where
  hid:t.ID = id
  hkind:t.Kind = kind
  per:0 ≤ t.Period.From ∧ t.Period.From < t.Period.To ∧ t.Period.To ≤ 876600
  perils:t.Perils.length ≤ 3 ∧ AscI 0 15 none t.Perils
  areas:t.Areas.length ≤ 3 ∧ AscI 0 15 none t.Areas
  prem:0 ≤ t.Premium ∧ t.Premium ≤ 1073741824
  inu:t.Inures = []
  rein:t.Reinstatements.length ≤ 3 ∧ ∀ x ∈ t.Reinstatements,0 ≤ x ∧ x ≤ 2000000
  parts:t.Parts.length ≤ 4 ∧ Asc none t.Parts ∧ (shs t.Parts).sum ≤ 1000000
theorem TBase.len {t:GTreaty} {id kind:Int} (h:TBase t id kind):TLen t:=⟨by have:=h.perils.1; omega,by have:=h.areas.1; omega,by rw [h.inu]; simp⟩
def PropF (t:GTreaty):Prop :=
  t.Reinstatements = [] ∧ t.Timed = false ∧ t.Retention = 0 ∧ t.Window = 0 ∧ t.Deductible = 0 ∧ t.Aggregate = 0 ∧ t.Base = 0 ∧
  ((t.Kind = 1 ∧ t.Risk = 0 ∧ (1 ≤ t.Cession ∧ t.Cession ≤ 1000000) ∧ t.Line = 0 ∧ t.Lines = 0 ∧ (0 ≤ t.Limit ∧ t.Limit ≤ 1073741824)) ∨
   (t.Kind = 2 ∧ t.Risk = 0 ∧ t.Cession = 0 ∧ (1 ≤ t.Line ∧ t.Line ≤ 1073741824) ∧ (1 ≤ t.Lines ∧ t.Lines ≤ 9) ∧ t.Limit = 0) ∨
   (t.Kind = 3 ∧ (1 ≤ t.Risk ∧ t.Risk ≤ 4) ∧ (1 ≤ t.Cession ∧ t.Cession ≤ 1000000) ∧ t.Line = 0 ∧ t.Lines = 0 ∧ t.Limit = 0))
theorem propF_fields {t:GTreaty} (h:PropF t) (hp:0 ≤ t.Premium ∧ t.Premium ≤ 1073741824):fieldsE t = 0:=by
  obtain ⟨h1,h2,h3,h4,h5,h6,h7,h8⟩:=h
  unfold fieldsE restored alien wide
  rw [h1,h2]
  rcases h8 with ⟨k,r,c,l,ls,li⟩ | ⟨k,r,c,l,ls,li⟩ | ⟨k,r,c,l,ls,li⟩ <;> rw [k] <;> simp [List.range,List.range.loop,ix,vals,ruleL,non,mon,pos, *] <;> omega
def ExF (t:GTreaty):Prop :=
  t.Risk = 0 ∧ t.Cession = 0 ∧ t.Line = 0 ∧ t.Lines = 0 ∧ (0 ≤ t.Retention ∧ t.Retention ≤ 1073741824) ∧ (1 ≤ t.Limit ∧ t.Limit ≤ 1073741824) ∧ (t.Reinstatements = [] → t.Timed = false) ∧
  ((t.Kind = 4 ∧ t.Window = 0 ∧ (0 ≤ t.Deductible ∧ t.Deductible ≤ 1073741824) ∧ (0 ≤ t.Aggregate ∧ t.Aggregate ≤ 1073741824) ∧ (0 ≤ t.Base ∧ t.Base ≤ 1000000000)) ∨
   (t.Kind = 5 ∧ (1 ≤ t.Window ∧ t.Window ≤ 30) ∧ (0 ≤ t.Deductible ∧ t.Deductible ≤ 1073741824) ∧ (0 ≤ t.Aggregate ∧ t.Aggregate ≤ 1073741824) ∧ t.Base = 0) ∨
   (t.Kind = 6 ∧ t.Window = 0 ∧ t.Deductible = 0 ∧ t.Aggregate = 0 ∧ t.Base = 0 ∧ t.Reinstatements = []))
theorem exF_fields {t:GTreaty} (h:ExF t) (hp:0 ≤ t.Premium ∧ t.Premium ≤ 1073741824):fieldsE t = 0:=by
  obtain ⟨h1,h2,h3,h4,h5,h6,h7,h8⟩:=h
  have hr:restored t = false:=by
    unfold restored
    rcases h8 with ⟨k,_⟩ | ⟨k,_⟩ | ⟨k,_,_,_,_,r⟩
    · by_cases r:t.Reinstatements = []
      · simp [k,r,h7 r]
      · have:t.Reinstatements.length ≠ 0:=fun hc=>r (List.length_eq_zero_iff.1 hc)
        simp [k]
        intro _
        exact r
    · by_cases r:t.Reinstatements = []
      · simp [k,r,h7 r]
      · simp [k]
        intro _
        exact r
    · simp [k,r,h7 r]
  unfold fieldsE
  rw [hr]
  unfold alien wide
  rcases h8 with ⟨k,a,b,c,d⟩ | ⟨k,a,b,c,d⟩ | ⟨k,a,b,c,d,r⟩ <;> rw [k] <;> simp [List.range,List.range.loop,ix,vals,ruleL,non,mon,pos, *] <;> omega
theorem treatyA_ok {d:GDeck} (h:DOk d) {id kind:Int} (hk:1 ≤ kind ∧ kind ≤ 6):∃ t d',treatymade_Deck_Treaty d id kind = some (t,d') ∧ DOk d' ∧ TBase t id kind ∧ (kind ≤ 3 → PropF t) ∧ (4 ≤ kind → ExF t):=by
  unfold treatymade_Deck_Treaty
  obtain ⟨v1,d1,e1,a1,b1,h1⟩:=next_ok h (n:=10) (by omega) (by omega)
  obtain ⟨v2,d2,e2,a2,b2,h2⟩:=next_ok h1 (n:=60) (by omega) (by omega)
  obtain ⟨l3,d3,e3,h3,a3,b3⟩:=subset_ok h2
  obtain ⟨l4,d4,e4,h4,a4,b4⟩:=subset_ok h3
  obtain ⟨v5,d5,e5,a5,b5,h5⟩:=money_ok h4
  obtain ⟨p6,d6,e6,h6,a6,b6,c6⟩:=partsMade_ok h5
  rw [e1,Option.bind_some]
  dsimp only
  rw [e2,Option.bind_some]
  dsimp only
  rw [e3,Option.bind_some]
  dsimp only
  rw [e4,Option.bind_some]
  dsimp only
  rw [e5,Option.bind_some]
  dsimp only
  rw [e6,Option.bind_some]
  dsimp only
  have ew:w64 (60 + v2) = 60 + v2:=w64_id (by omega) (by omega)
  by_cases k1:kind = 1
  · subst k1
    obtain ⟨v7,d7,e7,a7,b7,h7⟩:=upto_ok h6 (n:=999999) (by omega) (by omega)
    obtain ⟨v8,d8,e8,a8,b8,h8⟩:=next_ok h7 (n:=2) (by omega) (by omega)
    rw [if_pos (by simp),e7,Option.bind_some]
    dsimp only
    rw [e8,Option.bind_some]
    dsimp only
    have ec:w64 (1 + v7) = 1 + v7:=w64_id (by omega) (by omega)
    by_cases c8:v8 = 1
    · obtain ⟨v9,d9,e9,a9,b9,h9⟩:=money_ok h8
      rw [if_pos (by simpa using c8),e9,Option.bind_some,Option.bind_some]
      dsimp only
      rw [if_neg (by decide),Option.bind_some]
      dsimp only
      rw [if_neg (by decide),Option.bind_some]
      dsimp only
      rw [if_neg (by decide),Option.bind_some]
      dsimp only
      rw [if_neg (by decide),Option.bind_some,ew,ec]
      refine ⟨_,d9,rfl,h9,⟨rfl,rfl,⟨by dsimp only; omega,by dsimp only; omega,by dsimp only; omega⟩,⟨a3,b3⟩,⟨a4,b4⟩,⟨a5,b5⟩,rfl,⟨by simp,by simp⟩,⟨a6,b6,c6⟩⟩,fun _=>?_,fun hc=>absurd hc (by omega)⟩
      simp [PropF]
      omega
    · rw [if_neg (by simpa using c8),Option.bind_some]
      dsimp only
      rw [if_neg (by decide),Option.bind_some]
      dsimp only
      rw [if_neg (by decide),Option.bind_some]
      dsimp only
      rw [if_neg (by decide),Option.bind_some]
      dsimp only
      rw [if_neg (by decide),Option.bind_some,ew,ec]
      refine ⟨_,d8,rfl,h8,⟨rfl,rfl,⟨by dsimp only; omega,by dsimp only; omega,by dsimp only; omega⟩,⟨a3,b3⟩,⟨a4,b4⟩,⟨a5,b5⟩,rfl,⟨by simp,by simp⟩,⟨a6,b6,c6⟩⟩,fun _=>?_,fun hc=>absurd hc (by omega)⟩
      simp [PropF]
      omega
  by_cases k2:kind = 2
  · subst k2
    obtain ⟨v7,d7,e7,a7,b7,h7⟩:=upto_ok h6 (n:=1073741823) (by omega) (by omega)
    obtain ⟨v8,d8,e8,a8,b8,h8⟩:=range_ok h7 (lo:=1) (hi:=9) (by omega) (by omega) (by omega)
    rw [if_neg (by simp),if_pos (by simp),e7,Option.bind_some]
    dsimp only
    rw [e8,Option.bind_some,Option.bind_some]
    have ec:w64 (1 + v7) = 1 + v7:=w64_id (by omega) (by omega)
    dsimp only
    rw [if_neg (by decide),Option.bind_some]
    dsimp only
    rw [if_neg (by decide),Option.bind_some]
    dsimp only
    rw [if_neg (by decide),Option.bind_some]
    dsimp only
    rw [if_neg (by decide),Option.bind_some,ew,ec]
    refine ⟨_,d8,rfl,h8,⟨rfl,rfl,⟨by dsimp only; omega,by dsimp only; omega,by dsimp only; omega⟩,⟨a3,b3⟩,⟨a4,b4⟩,⟨a5,b5⟩,rfl,⟨by simp,by simp⟩,⟨a6,b6,c6⟩⟩,fun _=>?_,fun hc=>absurd hc (by omega)⟩
    simp [PropF]
    omega
  by_cases k3:kind = 3
  · subst k3
    obtain ⟨v7,d7,e7,a7,b7,h7⟩:=range_ok h6 (lo:=1) (hi:=4) (by omega) (by omega) (by omega)
    obtain ⟨v8,d8,e8,a8,b8,h8⟩:=upto_ok h7 (n:=999999) (by omega) (by omega)
    rw [if_neg (by simp),if_neg (by simp),if_pos (by simp),e7,Option.bind_some]
    dsimp only
    rw [e8,Option.bind_some,Option.bind_some]
    have ec:w64 (1 + v8) = 1 + v8:=w64_id (by omega) (by omega)
    dsimp only
    rw [if_neg (by decide),Option.bind_some]
    dsimp only
    rw [if_neg (by decide),Option.bind_some]
    dsimp only
    rw [if_neg (by decide),Option.bind_some]
    dsimp only
    rw [if_neg (by decide),Option.bind_some,ew,ec]
    refine ⟨_,d8,rfl,h8,⟨rfl,rfl,⟨by dsimp only; omega,by dsimp only; omega,by dsimp only; omega⟩,⟨a3,b3⟩,⟨a4,b4⟩,⟨a5,b5⟩,rfl,⟨by simp,by simp⟩,⟨a6,b6,c6⟩⟩,fun _=>?_,fun hc=>absurd hc (by omega)⟩
    simp [PropF]
    omega
  obtain ⟨v7,d7,e7,a7,b7,h7⟩:=upto_ok h6 (n:=1073741824) (by omega) (by omega)
  obtain ⟨v8,d8,e8,a8,b8,h8⟩:=upto_ok h7 (n:=1073741823) (by omega) (by omega)
  rw [if_neg (by simpa using k1),if_neg (by simpa using k2),if_neg (by simpa using k3),e7,Option.bind_some]
  dsimp only
  rw [e8,Option.bind_some,Option.bind_some]
  dsimp only
  have opt:∀ {d:GDeck},DOk d → ∃ (x:Int) (d':GDeck),((treatymade_Deck_Next (GDeck.mk d.L d.At) 2).bind fun r13_1=>if (decide (r13_1.1 = 1)) = true then ((treatymade_Deck_Money r13_1.2).bind fun r14_1=>some (r14_1.2.L,r14_1.2.At,r14_1.1)) else (some (r13_1.2.L,r13_1.2.At,0))) = some (d'.L,d'.At,x) ∧ DOk d' ∧ 0 ≤ x ∧ x ≤ 1073741824:=by
    intro d hd
    obtain ⟨v,d',e,a,b,k⟩:=next_ok hd (n:=2) (by omega) (by omega)
    rw [show GDeck.mk d.L d.At = d from rfl,e,Option.bind_some]
    dsimp only
    by_cases c:v = 1
    · obtain ⟨x,d2,e2,x1,x2,k2⟩:=money_ok k
      rw [if_pos (by simpa using c),e2]
      exact ⟨x,d2,rfl,k2,x1,x2⟩
    · rw [if_neg (by simpa using c)]
      exact ⟨0,d',rfl,k,by omega,by omega⟩
  have hmid:∃ (x y:Int) (r:List Int) (b:Bool) (d':GDeck),(if ((decide (kind = 4)) || (decide (kind = 5))) = true then (((treatymade_Deck_Next (GDeck.mk d8.L d8.At) 2).bind fun r13_1 =>
  if (decide (r13_1.1 = 1)) = true then ((treatymade_Deck_Money r13_1.2).bind fun r14_1 =>
  some (r14_1.2.L,r14_1.2.At,r14_1.1)) else (some (r13_1.2.L,r13_1.2.At,0))).bind fun s30 =>
  ((treatymade_Deck_Next (GDeck.mk s30.1 s30.2.1) 2).bind fun r15_1 =>
  if (decide (r15_1.1 = 1)) = true then ((treatymade_Deck_Money r15_1.2).bind fun r16_1 =>
  some (r16_1.2.L,r16_1.2.At,r16_1.1)) else (some (r15_1.2.L,r15_1.2.At,0))).bind fun s35 =>
  ((treatymade_Deck_Next (GDeck.mk s35.1 s35.2.1) 4).bind fun r17_1 =>
  loopV treatymade_Deck_Treaty_l44 (r17_1.2.L,r17_1.2.At,[],r17_1.1)).bind fun s40 =>
  if (decide (0 < (s40.2.2.length:Int))) = true then ((treatymade_Deck_Next (GDeck.mk s40.1 s40.2.1) 2).bind fun r21_6 =>
  some (r21_6.2.L,r21_6.2.At,s30.2.2,s35.2.2,s40.2.2,(decide (r21_6.1 = 1)))) else (some (s40.1,s40.2.1,s30.2.2,s35.2.2,s40.2.2,false))) else (some (d8.L,d8.At,0,0,[],false))) = some (d'.L,d'.At,x,y,r,b) ∧ DOk d' ∧ r.length ≤ 3 ∧ (∀ z ∈ r,0 ≤ z ∧ z ≤ 2000000) ∧ (0 ≤ x ∧ x ≤ 1073741824) ∧ (0 ≤ y ∧ y ≤ 1073741824) ∧ (r = [] → b = false) ∧ (kind ≠ 4 → kind ≠ 5 → x = 0 ∧ y = 0 ∧ r = []):=by
    by_cases hc:((decide (kind = 4)) || (decide (kind = 5))) = true
    · rw [if_pos hc]
      obtain ⟨x,dx,ex,hx,x1,x2⟩:=opt h8
      rw [ex,Option.bind_some]
      dsimp only
      obtain ⟨y,dy,ey,hy,y1,y2⟩:=opt hx
      rw [ey,Option.bind_some]
      dsimp only
      rw [show GDeck.mk dy.L dy.At = dy from rfl]
      obtain ⟨v,dv,ev,av,bv,hv⟩:=next_ok hy (n:=4) (by omega) (by omega)
      rw [ev,Option.bind_some]
      dsimp only
      have hloop:∀ (m:Nat) (d:GDeck) (l:List Int),DOk d → l.length + m ≤ 3 → (∀ z ∈ l,0 ≤ z ∧ z ≤ 2000000) → ∃ d' l',loopV treatymade_Deck_Treaty_l44 (d.L,d.At,l,(m:Int)) = some (d'.L,d'.At,l') ∧ DOk d' ∧ l'.length ≤ 3 ∧ ∀ z ∈ l',0 ≤ z ∧ z ≤ 2000000:=by
        intro m
        induction m with
        | zero =>
          intro d l hd hl hz
          have st:treatymade_Deck_Treaty_l44 (d.L,d.At,l,((0:Nat):Int)) = some (.inr (d.L,d.At,l)):=by
            unfold treatymade_Deck_Treaty_l44
            dsimp only
            rw [if_neg (by simp)]
          exact ⟨d,l,loopV_stop st,hd,by omega,hz⟩
        | succ m ih =>
          intro d l hd hl hz
          obtain ⟨w,d2,e2,a2,b2,h2⟩:=upto_ok hd (n:=2000000) (by omega) (by omega)
          have st:treatymade_Deck_Treaty_l44 (d.L,d.At,l,((m + 1:Nat):Int)) = some (.inl (d2.L,d2.At,l ++ [w],(m:Int))):=by
            unfold treatymade_Deck_Treaty_l44
            dsimp only
            rw [if_pos (by simp),show GDeck.mk d.L d.At = d from rfl,e2,Option.bind_some,chk_true (room_of (by simp; omega)),w64_id (by omega) (by omega)]
            simp
          rw [loopV_next st]
          refine ih d2 _ h2 (by simp; omega) (fun z hz'=>?_)
          rcases List.mem_append.1 hz' with hz' | hz'
          · exact hz z hz'
          · simp at hz'; omega
      obtain ⟨dl,l,el,hdl,hl1,hl2⟩:=hloop v.toNat dv [] hv (by simp; omega) (by simp)
      have ev2:((v.toNat:Nat):Int) = v:=by omega
      rw [ev2] at el
      rw [el,Option.bind_some]
      dsimp only
      by_cases hl0:0 < (l.length:Int)
      · obtain ⟨u,du,eu,_,_,hu⟩:=next_ok hdl (n:=2) (by omega) (by omega)
        rw [if_pos (by simpa using hl0),show GDeck.mk dl.L dl.At = dl from rfl,eu,Option.bind_some]
        exact ⟨_,_,_,_,du,rfl,hu,hl1,hl2,⟨x1,x2⟩,⟨y1,y2⟩,fun hr=>by rw [hr] at hl0; simp at hl0,fun n4 n5=>by simp [n4,n5] at hc⟩
      · rw [if_neg (by simpa using hl0)]
        exact ⟨_,_,_,_,dl,rfl,hdl,hl1,hl2,⟨x1,x2⟩,⟨y1,y2⟩,fun _=>rfl,fun n4 n5=>by simp [n4,n5] at hc⟩
    · rw [if_neg hc]
      exact ⟨_,_,_,_,d8,rfl,h8,by simp,by simp,by omega,by omega,fun _=>rfl,fun _ _=>⟨rfl,rfl,rfl⟩⟩
  obtain ⟨x,y,r,b,dm,em,hm,hr1,hr2,hx,hy,hrb,hn45⟩:=hmid
  rw [em,Option.bind_some]
  dsimp only
  have hbase:∃ (x:Int) (d':GDeck),((if (decide (kind = 4)) = true then ((treatymade_Deck_Next (GDeck.mk dm.L dm.At) 2).bind fun r22_4 =>
  some (r22_4.2.L,r22_4.2.At,(decide (r22_4.1 = 1)))) else (some (dm.L,dm.At,false))).bind fun s56 =>
  if s56.2.2 = true then ((treatymade_Deck_Upto (GDeck.mk s56.1 s56.2.1) 1000).bind fun r23_1 =>
  some (r23_1.2.L,r23_1.2.At,(w64 (1 + r23_1.1)))) else (some (s56.1,s56.2.1,0))) = some (d'.L,d'.At,x) ∧ DOk d' ∧ (0 ≤ x ∧ x ≤ 1000000000) ∧ (kind ≠ 4 → x = 0):=by
    by_cases hc:kind = 4
    · rw [if_pos (by simpa using hc),show GDeck.mk dm.L dm.At = dm from rfl]
      obtain ⟨v,dv,ev,av,bv,hv⟩:=next_ok hm (n:=2) (by omega) (by omega)
      rw [ev,Option.bind_some,Option.bind_some]
      dsimp only
      by_cases c:v = 1
      · rw [if_pos (by simpa using c),show GDeck.mk dv.L dv.At = dv from rfl]
        obtain ⟨w,dw,ew,w1,w2,hw⟩:=upto_ok hv (n:=1000) (by omega) (by omega)
        rw [ew,Option.bind_some,w64_id (by omega) (by omega)]
        exact ⟨_,dw,rfl,hw,by omega,fun h=>absurd hc h⟩
      · rw [if_neg (by simpa using c)]
        exact ⟨_,dv,rfl,hv,by omega,fun h=>absurd hc h⟩
    · rw [if_neg (by simpa using hc),Option.bind_some]
      exact ⟨0,dm,rfl,hm,by omega,fun _=>rfl⟩
  obtain ⟨z,db,eb,hb,hz,hz4⟩:=hbase
  rw [eb,Option.bind_some]
  dsimp only
  have hwin:∃ (x:Int) (d':GDeck),(if (decide (kind = 5)) = true then ((treatymade_Deck_Range (GDeck.mk db.L db.At) 1 30).bind fun r25_1 =>
  some (r25_1.2.L,r25_1.2.At,r25_1.1)) else (some (db.L,db.At,0))) = some (d'.L,d'.At,x) ∧ DOk d' ∧ (kind = 5 → 1 ≤ x ∧ x ≤ 30) ∧ (kind ≠ 5 → x = 0):=by
    by_cases hc:kind = 5
    · rw [if_pos (by simpa using hc),show GDeck.mk db.L db.At = db from rfl]
      obtain ⟨v,dv,ev,v1,v2,hv⟩:=range_ok hb (lo:=1) (hi:=30) (by omega) (by omega) (by omega)
      rw [ev]
      exact ⟨_,dv,rfl,hv,fun _=>⟨v1,v2⟩,fun h=>absurd hc h⟩
    · rw [if_neg (by simpa using hc)]
      exact ⟨0,db,rfl,hb,fun h=>absurd h hc,fun _=>rfl⟩
  obtain ⟨u,du,eu,hu,hu5,hun⟩:=hwin
  rw [eu,Option.bind_some,ew,w64_id (n:=1 + v8) (by omega) (by omega)]
  refine ⟨_,du,rfl,hu,⟨rfl,rfl,⟨by dsimp only; omega,by dsimp only; omega,by dsimp only; omega⟩,⟨a3,b3⟩,⟨a4,b4⟩,⟨a5,b5⟩,rfl,⟨hr1,hr2⟩,⟨a6,b6,c6⟩⟩,fun h=>absurd h (by omega),fun _=>⟨rfl,rfl,rfl,rfl,by dsimp only; omega,by dsimp only; omega,hrb,?_⟩⟩
  have hk456:kind = 4 ∨ kind = 5 ∨ kind = 6:=by omega
  rcases hk456 with k | k | k
  · exact .inl ⟨k,hun (by omega),hx,hy,hz⟩
  · exact .inr (.inl ⟨k,hu5 k,hx,hy,hz4 (by omega)⟩)
  · have h45:=hn45 (by omega) (by omega)
    exact .inr (.inr ⟨k,hun (by omega),h45.1,h45.2.1,hz4 (by omega),h45.2.2⟩)
end Go.Proofs.Ytfekcgnnhjmeiaa.Pl
namespace Go.Proofs.Ytfekcgnnhjmeiaa.Pl
open Go
theorem loop_scan {O:Type} {step:Int → Option (Int ⊕ (O ⊕ Unit))} {n:Nat} (f:Nat → Option O) (h:∀ k:Nat,k < n → step (k:Int) = some ((f k).elim (.inl ((k + 1:Nat):Int)) fun e=>.inr (.inl e))) (hs:step (n:Int) = some (.inr (.inr ()))):loopV step 0 = some (((List.range n).findSome? f).elim (.inr ()) .inl):=by
  have main:∀ m k:Nat,m + k = n → loopV step (k:Int) = some (((List.range' k m).findSome? f).elim (.inr ()) .inl):=by
    intro m
    induction m with
    | zero =>
      intro k hk
      have:k = n:=by omega
      subst this
      rw [loopV_stop hs]
      rfl
    | succ m ih =>
      intro k hk
      have hk':=h k (by omega)
      rw [List.range'_succ,List.findSome?_cons]
      cases hf:f k with
      | some e =>
        rw [hf] at hk'
        rw [loopV_stop hk']
        rfl
      | none =>
        rw [hf] at hk'
        rw [loopV_next hk',ih (k + 1) (by omega)]
  have:=main n 0 (by omega)
  rw [List.range_eq_range']
  exact this
theorem scanK {O R:Type} {l:Option (O ⊕ Unit)} {F:Option O} (h:l = some (F.elim (.inr ()) .inl)) (K:Option R) (J:O → Option R):((l.bind fun q=>(Sum.elim (fun t=>some (.inr t)) (fun t=>some (.inl t))) q:Option (Unit ⊕ O)).bind fun q=>(Sum.elim (fun _=>K) (fun t=>J t)) q) = F.elim K J:=by
  subst h
  cases F <;> rfl
theorem findSome_if {O:Type} {n:Nat} {p:Nat → Bool} {e:O}:(List.range n).findSome? (fun k=>if p k = true then some e else none) = if (List.range n).any p = true then some e else none:=by
  generalize List.range n = l
  induction l with
  | nil=>rfl
  | cons a l ih =>
    rw [List.findSome?_cons,List.any_cons]
    cases p a <;> simp [ih]
theorem any_ix {α:Type} [Inhabited α] {l:List α} {p:α → Bool}:(List.range l.length).any (fun k=>p (ix l (k:Int))) = l.any p:=by
  rw [Bool.eq_iff_iff,List.any_eq_true,List.any_eq_true]
  constructor
  · rintro ⟨k,hk,hp⟩
    have hk':=List.mem_range.1 hk
    rw [ix_nat hk'] at hp
    exact ⟨_,List.getElem_mem hk',hp⟩
  · rintro ⟨x,hx,hp⟩
    obtain ⟨k,hk,rfl⟩:=List.getElem_of_mem hx
    exact ⟨k,List.mem_range.2 hk,by rw [ix_nat hk]; exact hp⟩
theorem any_eq {l:List Int} {x:Int}:l.any (fun y=>decide (y = x)) = decide (x ∈ l):=by
  rw [Bool.eq_iff_iff,List.any_eq_true]
  simp
theorem w64_succ {k:Nat} (h:k ≤ 1000000000):w64 ((k:Int) + 1) = ((k + 1:Nat):Int):=by rw [w64_id (by omega) (by omega)]; omega
theorem has_eq {l:List Int} {x:Int} (hl:l.length ≤ 1000000000):treatyref25_Has l x = some (decide (x ∈ l)):=by
  have st:=loop_scan (step:=treatyref25_Has_l6 l x) (n:=l.length) (fun k=>if decide (ix l (k:Int) = x) = true then some true else none) (fun k hk=>by
    unfold treatyref25_Has_l6
    rw [if_pos (by simpa using hk),chk_true (inb_nat hk),w64_succ (by omega)]
    by_cases hc:ix l (k:Int) = x <;> simp [hc]) (by unfold treatyref25_Has_l6; rw [if_neg (by simp)])
  unfold treatyref25_Has
  refine (scanK st _ _).trans ?_
  rw [findSome_if,any_ix (p:=fun y=>decide (y = x)),any_eq]
  by_cases hx:x ∈ l <;> simp [hx]
def idxF (ts:List GTreaty) (id:Int):Nat → Option Int:=fun k=>if decide ((ix ts (k:Int)).ID = id) = true then some (k:Int) else none
def idxOf (ts:List GTreaty) (id:Int):Int:=((List.range ts.length).findSome? (idxF ts id)).getD (-1)
theorem index_eq {ts:List GTreaty} {id:Int} (hl:ts.length ≤ 1000000000):inuring_index ts id = some (idxOf ts id):=by
  have st:=loop_scan (step:=slices_IndexFunc_s_api_Treaty_api_Treaty_inuring_index_c1_l6 ts id) (n:=ts.length) (idxF ts id) (fun k hk=>by
    unfold slices_IndexFunc_s_api_Treaty_api_Treaty_inuring_index_c1_l6 inuring_index_c1 idxF
    rw [if_pos (by simpa using hk),chk_true (inb_nat hk),w64_succ (by omega),Option.bind_some]
    by_cases hc:(ix ts (k:Int)).ID = id <;> simp [hc]) (by unfold slices_IndexFunc_s_api_Treaty_api_Treaty_inuring_index_c1_l6; rw [if_neg (by simp)])
  unfold inuring_index slices_IndexFunc_s_api_Treaty_api_Treaty_inuring_index_c1
  rw [scanK st]
  unfold idxOf
  cases (List.range ts.length).findSome? (idxF ts id) <;> rfl
theorem rindex_eq {ts:List GTreaty} {id:Int} (hl:ts.length ≤ 1000000000):treatyref25_Index ts id = some (idxOf ts id):=by
  have st:=loop_scan (step:=treatyref25_Index_l6 ts id) (n:=ts.length) (idxF ts id) (fun k hk=>by
    unfold treatyref25_Index_l6 idxF
    rw [if_pos (by simpa using hk),chk_true (inb_nat hk),w64_succ (by omega)]
    by_cases hc:(ix ts (k:Int)).ID = id <;> simp [hc]) (by unfold treatyref25_Index_l6; rw [if_neg (by simp)])
  unfold treatyref25_Index
  rw [scanK st]
  unfold idxOf
  cases (List.range ts.length).findSome? (idxF ts id) <;> rfl
theorem idxOf_cases (ts:List GTreaty) (id:Int):(idxOf ts id = -1 ∧ ∀ k:Nat,k < ts.length → (ix ts (k:Int)).ID ≠ id) ∨ ∃ k:Nat,k < ts.length ∧ idxOf ts id = (k:Int) ∧ (ix ts (k:Int)).ID = id:=by
  unfold idxOf
  cases h:(List.range ts.length).findSome? (idxF ts id) with
  | none =>
    refine .inl ⟨rfl,fun k hk hc=>?_⟩
    have:=List.findSome?_eq_none_iff.1 h k (List.mem_range.2 hk)
    unfold idxF at this
    rw [if_pos (by simpa using hc)] at this
    cases this
  | some e =>
    obtain ⟨k,hk,he⟩:=List.exists_of_findSome?_eq_some h
    unfold idxF at he
    split at he
    · rename_i hc
      cases he
      exact .inr ⟨k,List.mem_range.1 hk,rfl,by simpa using hc⟩
    · cases he
def Uniq (ts:List GTreaty):Prop:=∀ i j:Nat,i < ts.length → j < ts.length → (ix ts (i:Int)).ID = (ix ts (j:Int)).ID → i = j
theorem idxOf_id {ts:List GTreaty} (hu:Uniq ts) {j:Nat} (hj:j < ts.length):idxOf ts (ix ts (j:Int)).ID = (j:Int):=by
  rcases idxOf_cases ts (ix ts (j:Int)).ID with ⟨_,h⟩ | ⟨k,hk,h1,h2⟩
  · exact absurd rfl (h j hj)
  · rw [h1,hu k j hk hj h2]
theorem set_eq {l:List Int} (hl:l.length ≤ 1000000000):∃ m,inuring_set l = some m ∧ ∀ x,mget m x false = decide (x ∈ l):=by
  obtain ⟨m,h1,h2⟩:=loopV_inv (step:=inuring_set_l8 l) (fun s=>∃ k:Nat,k ≤ l.length ∧ s.2 = (k:Int) ∧ ∀ x,mget s.1 x false = decide (x ∈ l.take k)) (fun s=>l.length - s.2.toNat) (fun m=>∀ x,mget m x false = decide (x ∈ l)) (by
    rintro ⟨m,i⟩ ⟨k,hk,rfl,hm⟩
    unfold inuring_set_l8
    dsimp only at hm ⊢
    by_cases hc:k < l.length
    · rw [if_pos (by simpa using hc),chk_true (inb_nat hc),w64_succ (by omega)]
      refine ⟨_,rfl,⟨k + 1,by omega,rfl,fun x=>?_⟩,by dsimp only; omega⟩
      dsimp only
      rw [mget_mset,hm x,ix_nat hc]
      have ht:x ∈ l.take (k + 1) ↔ x ∈ l.take k ∨ x = l[k]:=by rw [List.take_succ_eq_append_getElem hc,List.mem_append,List.mem_singleton]
      by_cases hx:l[k] = x
      · rw [if_pos hx,decide_eq_true (ht.2 (.inr hx.symm))]
      · rw [if_neg hx]
        exact decide_eq_decide.2 ⟨fun h=>ht.2 (.inl h),fun h=>(ht.1 h).resolve_right fun e=>hx e.symm⟩
    · rw [if_neg (by simpa using hc)]
      refine ⟨_,rfl,?_⟩
      have:k = l.length:=by omega
      subst this
      rwa [List.take_length] at hm) ([],0) ⟨0,by omega,rfl,fun x=>by simp [mget]⟩
  exact ⟨m,by unfold inuring_set; rw [h1]; rfl,h2⟩
def commonS (a b:List Int):Bool:=(decide ((a.length:Int) = 0) || decide ((b.length:Int) = 0)) || a.any fun x=>decide (x ∈ b)
theorem any_swap (a b:List Int):(a.any fun x=>decide (x ∈ b)) = b.any fun x=>decide (x ∈ a):=by
  rw [Bool.eq_iff_iff,List.any_eq_true,List.any_eq_true]
  constructor <;> · rintro ⟨x,h1,h2⟩; exact ⟨x,by simpa using h2,by simpa using h1⟩
theorem common_eq {a b:List Int} (ha:a.length ≤ 1000000000) (hb:b.length ≤ 1000000000):inuring_common a b = some (commonS a b):=by
  unfold inuring_common commonS
  by_cases hc:(decide ((a.length:Int) = 0) || decide ((b.length:Int) = 0)) = true
  · rw [if_pos hc,hc,Bool.true_or]
  · rw [if_neg hc,Bool.eq_false_iff.2 hc,Bool.false_or]
    obtain ⟨m,hm,hx⟩:=set_eq ha
    have st:=loop_scan (step:=slices_IndexFunc_s_int_int_inuring_common_c1_l6 b m) (n:=b.length) (fun k=>if decide (ix b (k:Int) ∈ a) = true then some (k:Int) else none) (fun k hk=>by
      unfold slices_IndexFunc_s_int_int_inuring_common_c1_l6 inuring_common_c1
      rw [if_pos (by simpa using hk),chk_true (inb_nat hk),w64_succ (by omega),Option.bind_some,hx]
      by_cases hc:ix b (k:Int) ∈ a <;> simp [hc]) (by unfold slices_IndexFunc_s_int_int_inuring_common_c1_l6; rw [if_neg (by simp)])
    unfold slices_ContainsFunc_s_int_int_inuring_common_c1 slices_IndexFunc_s_int_int_inuring_common_c1
    rw [hm,Option.bind_some,scanK st,any_swap,← any_ix (l:=b)]
    cases h:(List.range b.length).findSome? (fun k:Nat=>if decide (ix b (k:Int) ∈ a) = true then some (k:Int) else none) with
    | none =>
      have:(List.range b.length).any (fun k=>decide (ix b (k:Int) ∈ a)) = false:=by
        rw [Bool.eq_false_iff]
        intro hc
        obtain ⟨k,h1,h2⟩:=List.any_eq_true.1 hc
        have:=List.findSome?_eq_none_iff.1 h k h1
        rw [if_pos h2] at this
        cases this
      rw [this]
      rfl
    | some e =>
      obtain ⟨k,h1,h2⟩:=List.exists_of_findSome?_eq_some h
      split at h2
      · rename_i h3
        cases h2
        have:(List.range b.length).any (fun k=>decide (ix b (k:Int) ∈ a)) = true:=List.any_eq_true.2 ⟨k,h1,h3⟩
        rw [this]
        simp
      · cases h2
theorem rcommon_eq {a b:List Int} (ha:a.length ≤ 1000000000) (hb:b.length ≤ 1000000000):treatyref25_common a b = some (commonS a b):=by
  have st:=loop_scan (step:=treatyref25_common_l6 a b) (n:=a.length) (fun k=>if decide (ix a (k:Int) ∈ b) = true then some true else none) (fun k hk=>by
    unfold treatyref25_common_l6
    rw [if_pos (by simpa using hk),chk_true (inb_nat hk),w64_succ (by omega),has_eq hb,Option.bind_some]
    by_cases hc:ix a (k:Int) ∈ b <;> simp [hc]) (by unfold treatyref25_common_l6; rw [if_neg (by simp)])
  unfold treatyref25_common commonS
  rw [scanK st,findSome_if,any_ix (p:=fun x=>decide (x ∈ b))]
  cases a.any fun x=>decide (x ∈ b)
  · simp
  · simp
def overS (p q:GPeriod):Bool:=((decide (0 ≤ p.From) && decide (p.From < p.To)) && decide (p.To ≤ 876600)) && ((decide (0 ≤ q.From) && decide (q.From < q.To)) && decide (q.To ≤ 876600)) && !decide (minI p.To q.To ≤ maxI p.From q.From)
theorem over_eq (p q:GPeriod):∃ x,calendar_Overlap p q = some (x,overS p q):=by
  unfold calendar_Overlap calendar_Valid overS
  simp only [Option.bind_some]
  cases ((decide (0 ≤ p.From) && decide (p.From < p.To)) && decide (p.To ≤ 876600)) <;> cases ((decide (0 ≤ q.From) && decide (q.From < q.To)) && decide (q.To ≤ 876600)) <;> by_cases h:minI p.To q.To ≤ maxI p.From q.From <;> simp [h]
theorem rover_eq (p q:GPeriod):∃ x,treatyref01_Overlap p q = some (x,overS p q):=by
  unfold treatyref01_Overlap treatyref01_PeriodValid overS
  simp only [Option.bind_some]
  cases ((decide (0 ≤ p.From) && decide (p.From < p.To)) && decide (p.To ≤ 876600)) <;> cases ((decide (0 ≤ q.From) && decide (q.From < q.To)) && decide (q.To ≤ 876600)) <;> by_cases h:minI p.To q.To ≤ maxI p.From q.From <;> simp [h]
def meetS (a b:GTreaty):Bool:=overS a.Period b.Period && commonS a.Perils b.Perils && commonS a.Areas b.Areas && (((!decide (a.Kind = 3)) || (!decide (b.Kind = 3))) || decide (a.Risk = b.Risk))
theorem meet_eq {a b:GTreaty} (ha:TLen a) (hb:TLen b):inuring_Meet a b = some (meetS a b):=by
  unfold inuring_Meet meetS
  obtain ⟨x,hx⟩:=over_eq a.Period b.Period
  rw [hx,Option.bind_some,common_eq ha.1 hb.1,common_eq ha.2 hb.2]
  dsimp only
  cases overS a.Period b.Period <;> cases commonS a.Perils b.Perils <;> cases commonS a.Areas b.Areas <;> simp
theorem rmeet_eq {a b:GTreaty} (ha:TLen a) (hb:TLen b):treatyref25_Meet a b = some (meetS a b):=by
  unfold treatyref25_Meet meetS
  obtain ⟨x,hx⟩:=rover_eq a.Period b.Period
  rw [hx,Option.bind_some,rcommon_eq ha.1 hb.1,rcommon_eq ha.2 hb.2]
  dsimp only
  have e:(!((decide (a.Kind = 3) && decide (b.Kind = 3)) && !decide (a.Risk = b.Risk))) = (((!decide (a.Kind = 3)) || (!decide (b.Kind = 3))) || decide (a.Risk = b.Risk)):=by
    cases decide (a.Kind = 3) <;> cases decide (b.Kind = 3) <;> cases decide (a.Risk = b.Risk) <;> rfl
  rw [e]
  cases overS a.Period b.Period <;> cases commonS a.Perils b.Perils <;> cases commonS a.Areas b.Areas <;> simp
theorem ext_ix {a b:List Int} (hl:a.length = b.length) (h:∀ k:Nat,k < a.length → ix a (k:Int) = ix b (k:Int)):a = b:=by
  apply List.ext_getElem hl
  intro k h1 h2
  have:=h k h1
  rwa [ix_nat h1,ix_nat h2] at this
theorem equal_scan {a b:List Int} (hl:a.length = b.length):(List.range a.length).findSome? (fun k:Nat=>if (!decide (ix a (k:Int) = ix b (k:Int))) = true then some false else none) = if a = b then none else some false:=by
  rw [findSome_if]
  by_cases hc:a = b
  · subst hc
    rw [if_pos rfl,if_neg]
    simp
  · rw [if_neg hc,if_pos]
    apply Classical.byContradiction
    intro hn
    apply hc
    apply ext_ix hl
    intro k hk
    apply Classical.byContradiction
    intro hk2
    exact hn (List.any_eq_true.2 ⟨k,List.mem_range.2 hk,by simpa using hk2⟩)
theorem equal_eq {a b:List Int} (ha:a.length ≤ 1000000000):slices_Equal_s_int_int a b = some (decide (a = b)):=by
  unfold slices_Equal_s_int_int
  by_cases hl:a.length = b.length
  · rw [if_neg (by simp [hl])]
    have st:=loop_scan (step:=slices_Equal_s_int_int_l12 a b) (n:=a.length) (fun k=>if (!decide (ix a (k:Int) = ix b (k:Int))) = true then some false else none) (fun k hk=>by
      unfold slices_Equal_s_int_int_l12
      rw [if_pos (by simpa using hk),chk_true (inb_nat hk),chk_true (inb_nat (by omega)),w64_succ (by omega)]
      by_cases hc:ix a (k:Int) = ix b (k:Int) <;> simp [hc]) (by unfold slices_Equal_s_int_int_l12; rw [if_neg (by simp)])
    rw [scanK st,equal_scan hl]
    by_cases hc:a = b <;> simp [hc]
  · rw [if_pos (by simp; omega)]
    have:a ≠ b:=fun e=>hl (by rw [e])
    simp [this]
theorem same_eq {a b:List Int} (ha:a.length ≤ 1000000000):treatyref01_SameInts a b = some (decide (a = b)):=by
  unfold treatyref01_SameInts
  by_cases hl:a.length = b.length
  · rw [if_neg (by simp [hl])]
    have st:=loop_scan (step:=treatyref01_SameInts_l12 a b) (n:=a.length) (fun k=>if (!decide (ix a (k:Int) = ix b (k:Int))) = true then some false else none) (fun k hk=>by
      unfold treatyref01_SameInts_l12
      rw [if_pos (by simpa using hk),chk_true (inb_nat hk),chk_true (inb_nat (by omega)),w64_succ (by omega)]
      by_cases hc:ix a (k:Int) = ix b (k:Int) <;> simp [hc]) (by unfold treatyref01_SameInts_l12; rw [if_neg (by simp)])
    rw [scanK st,equal_scan hl]
    by_cases hc:a = b <;> simp [hc]
  · rw [if_pos (by simp; omega)]
    have:a ≠ b:=fun e=>hl (by rw [e])
    simp [this]
def towerS (a b:GTreaty):Bool:=(decide (a.Kind = b.Kind) && (decide (a.Kind = 4) || decide (a.Kind = 5))) && (((decide ([a.Period.From,a.Period.To] = [b.Period.From,b.Period.To]) && decide (a.Window = b.Window)) && decide (a.Base = b.Base)) && decide (a.Perils = b.Perils) && decide (a.Areas = b.Areas) && decide (a.Inures = b.Inures))
theorem tower_eq {a b:GTreaty} (ha:TLen a):inuring_SameTower a b = some (towerS a b):=by
  unfold inuring_SameTower towerS
  rw [equal_eq ha.1,equal_eq ha.2,equal_eq ha.3]
  cases decide (a.Kind = b.Kind) <;> cases decide (a.Kind = 4) <;> cases decide (a.Kind = 5) <;> cases decide ([a.Period.From,a.Period.To] = [b.Period.From,b.Period.To]) <;> cases decide (a.Window = b.Window) <;> cases decide (a.Base = b.Base) <;> cases decide (a.Perils = b.Perils) <;> cases decide (a.Areas = b.Areas) <;> rfl
theorem rtower_eq {a b:GTreaty} (ha:TLen a):treatyref25_SameTower a b = some (towerS a b):=by
  unfold treatyref25_SameTower towerS treatyref25_excess
  rw [same_eq ha.1,same_eq ha.2,same_eq ha.3]
  cases decide (a.Kind = b.Kind) <;> cases decide (a.Kind = 4) <;> cases decide (a.Kind = 5) <;> cases decide ([a.Period.From,a.Period.To] = [b.Period.From,b.Period.To]) <;> cases decide (a.Window = b.Window) <;> cases decide (a.Base = b.Base) <;> cases decide (a.Perils = b.Perils) <;> cases decide (a.Areas = b.Areas) <;> rfl
def apartS (a b:GTreaty):Bool:=decide (w64 (a.Retention + a.Limit) ≤ b.Retention) || decide (w64 (b.Retention + b.Limit) ≤ a.Retention)
def clashS (a b:GTreaty):Bool:=(meetS a b && !decide (b.ID ∈ a.Inures) && !decide (a.ID ∈ b.Inures)) && !(towerS a b && apartS a b)
theorem clash_eq {a b:GTreaty} (ha:TLen a) (hb:TLen b):inuring_clash a b = some (clashS a b):=by
  unfold inuring_clash clashS apartS
  rw [meet_eq ha hb,tower_eq ha,contains_eq ha.3,contains_eq hb.3]
  cases meetS a b <;> cases decide (b.ID ∈ a.Inures) <;> cases decide (a.ID ∈ b.Inures) <;> cases towerS a b <;> simp
end Go.Proofs.Ytfekcgnnhjmeiaa.Pl
namespace Go.Proofs.Ytfekcgnnhjmeiaa.Pl
open Go
def Edge (ts:List GTreaty) (i j:Nat):Prop:=i < ts.length ∧ j < ts.length ∧ ∃ id ∈ (ix ts (i:Int)).Inures,idxOf ts id = (j:Int)
def Cyc (ts:List GTreaty):Prop:=∃ k,k < ts.length ∧ Relation.TransGen (Edge ts) k k
def Known (ts:List GTreaty):Prop:=∀ i:Nat,i < ts.length → ∀ id ∈ (ix ts (i:Int)).Inures,0 ≤ idxOf ts id
def Safe (ts:List GTreaty) (k:Nat):Prop:=Acc (fun b a=>Edge ts a b) k
theorem safe_no {ts:List GTreaty} {k:Nat} (h:Safe ts k):¬ Relation.TransGen (Edge ts) k k:=by
  have main:∀ a,Safe ts a → ∀ b,Relation.TransGen (Edge ts) a b → ∃ c,Edge ts a c ∧ (c = b ∨ Relation.TransGen (Edge ts) c b):=by
    intro a _ b hb
    induction hb with
    | single h=>exact ⟨_,h,.inl rfl⟩
    | tail _ h ih =>
      obtain ⟨c,h1,h2⟩:=ih
      rcases h2 with rfl | h2
      · exact ⟨_,h1,.inr (.single h)⟩
      · exact ⟨_,h1,.inr (.tail h2 h)⟩
  induction h with
  | intro x hx ih =>
    intro hc
    obtain ⟨c,h1,h2⟩:=main x ⟨x,hx⟩ x hc
    rcases h2 with rfl | h2
    · exact ih _ h1 hc
    · exact ih c h1 (.tail h2 h1)
theorem ix_upd {α:Type} [Inhabited α] {l:List α} {i k:Nat} {x:α} (hi:i < l.length):ix (upd l (i:Int) x) (k:Int) = if k = i then x else ix l (k:Int):=by
  unfold ix upd
  simp only [Int.toNat_natCast,List.getD_eq_getElem?_getD,List.getElem?_set]
  by_cases h:k = i
  · subst h; simp [hi]
  · have:¬ i = k:=fun e=>h e.symm
    simp [h,this]
theorem upd_length {α:Type} {l:List α} {i:Int} {x:α}:(upd l i x).length = l.length:=by simp [upd]
theorem count_upd0 {l:List Int} {i:Nat} {x:Int} (hi:i < l.length) (h0:ix l (i:Int) = 0) (hx:x ≠ 0):(upd l (i:Int) x).count 0 + 1 = l.count 0:=by
  unfold upd
  rw [Int.toNat_natCast,List.count_set hi]
  rw [ix_nat hi] at h0
  have:0 < l.count 0:=List.count_pos_iff.2 (h0 ▸ List.getElem_mem hi)
  simp [h0,hx]
  omega
theorem count_upd1 {l:List Int} {i:Nat} {x:Int} (hi:i < l.length) (h0:ix l (i:Int) ≠ 0) (hx:x ≠ 0):(upd l (i:Int) x).count 0 = l.count 0:=by
  unfold upd
  rw [Int.toNat_natCast,List.count_set hi]
  rw [ix_nat hi] at h0
  simp [h0,hx]
theorem loopV_mono {S O:Type} {f g:S → Option (S ⊕ O)} (h:∀ s q,f s = some q → g s = some q) {s:S} {o:O} (hs:loopV f s = some o):loopV g s = some o:=by
  obtain ⟨k,hk⟩:=loopV_some.1 hs
  refine loopV_some.2 ⟨k,?_⟩
  induction k generalizing s with
  | zero=>exact hk.elim
  | succ k ih =>
    obtain ⟨q,h1,h2⟩:=hk
    refine ⟨q,h s q h1,?_⟩
    cases q with
    | inl s'=>exact ih (loopV_some.2 ⟨k,h2⟩) h2
    | inr o'=>exact h2
abbrev CF:=List GTreaty → Int → List Int → Option (Bool × List Int)
theorem cyc_step_mono {self self':CF} (hs:∀ a b c r,self a b c = some r → self' a b c = some r) {ts:List GTreaty} {i:Int} {s:List Int × Int} {q} (h:inuring_cyclic_o_l14 self ts i s = some q):inuring_cyclic_o_l14 self' ts i s = some q:=by
  unfold inuring_cyclic_o_l14 at h ⊢
  by_cases c:(decide (s.2 < ((ix ts i).Inures.length:Int))) = true
  · rw [if_pos c] at h ⊢
    obtain ⟨h1,h⟩:=chk_some h
    rw [chk_of h1]
    obtain ⟨r,hr,h⟩:=bind_some h
    rw [hr,Option.bind_some]
    by_cases c2:(decide (0 ≤ r)) = true
    · rw [if_pos c2] at h ⊢
      obtain ⟨r2,hr2,h⟩:=bind_some h
      rw [hs _ _ _ _ hr2,Option.bind_some]
      exact h
    · rw [if_neg c2] at h ⊢
      exact h
  · rw [if_neg c] at h ⊢
    exact h
theorem cyc_F_mono {self self':CF} (hs:∀ a b c r,self a b c = some r → self' a b c = some r) {ts:List GTreaty} {i:Int} {st:List Int} {r} (h:inuring_cyclic_o_F self ts i st = some r):inuring_cyclic_o_F self' ts i st = some r:=by
  unfold inuring_cyclic_o_F at h ⊢
  obtain ⟨h1,h⟩:=chk_some h
  rw [chk_of h1]
  by_cases c:(!decide (ix st i = 0)) = true
  · rw [if_pos c] at h ⊢
    exact h
  · rw [if_neg c] at h ⊢
    obtain ⟨q,hq,hg⟩:=bind_some h
    obtain ⟨h2,hq⟩:=chk_some hq
    obtain ⟨q',hq',hf⟩:=bind_some hq
    rw [chk_of h2,loopV_mono (fun s q=>cyc_step_mono hs) hq',Option.bind_some,hf,Option.bind_some]
    exact hg
theorem cyc_n_mono:∀ (k:Nat) (ts:List GTreaty) (i:Int) (st:List Int) (r),inuring_cyclic_o_n k ts i st = some r → inuring_cyclic_o_n (k + 1) ts i st = some r
  | 0,_,_,_,_,h=>by cases h
  | k + 1,ts,i,st,r,h=>cyc_F_mono (fun a b c r=>cyc_n_mono k a b c r) h
structure SOk (ts:List GTreaty) (st:List Int):Prop where
  len:st.length = ts.length
  vals:∀ k:Nat,k < ts.length → ix st (k:Int) = 0 ∨ ix st (k:Int) = 1 ∨ ix st (k:Int) = 2
  done:∀ k:Nat,k < ts.length → ix st (k:Int) = 2 → Safe ts k
structure Went (ts:List GTreaty) (st st':List Int):Prop where
  ok:SOk ts st'
  opn:∀ k:Nat,k < ts.length → (ix st' (k:Int) = 1 ↔ ix st (k:Int) = 1)
  kept:∀ k:Nat,k < ts.length → ix st (k:Int) = 2 → ix st' (k:Int) = 2
  cnt:st'.count 0 ≤ st.count 0
theorem cyc_n {ts:List GTreaty} (hl:ts.length ≤ 1000000000) (hk:Known ts) (hil:∀ i:Nat,i < ts.length → (ix ts (i:Int)).Inures.length ≤ 1000000000):∀ (m i:Nat) (st:List Int),i < ts.length → SOk ts st → (∀ k:Nat,k < ts.length → ix st (k:Int) = 1 → Relation.TransGen (Edge ts) k i) → st.count 0 < m →
    ∃ b st',inuring_cyclic_o_n m ts (i:Int) st = some (b,st') ∧ (b = true → Cyc ts) ∧ (b = false → Went ts st st' ∧ ix st' (i:Int) = 2):=by
  intro m
  induction m with
  | zero=>intro i st _ _ _ h; omega
  | succ m ih =>
    intro i st hi hst hop hm
    have hsl:=hst.len
    show ∃ b st',inuring_cyclic_o_F (inuring_cyclic_o_n m) ts (i:Int) st = some (b,st') ∧ _
    unfold inuring_cyclic_o_F
    rw [chk_true (inb_nat (by omega))]
    by_cases c0:ix st (i:Int) = 0
    · rw [if_neg (by simp [c0]),chk_true (inb_nat hi)]
      have hu:=upd_length (l:=st) (i:=(i:Int)) (x:=1)
      have hc0:=count_upd0 (x:=1) (by omega) c0 (by decide)
      obtain ⟨o,ho,hq⟩:=loopV_inv (step:=inuring_cyclic_o_l14 (inuring_cyclic_o_n m) ts (i:Int))
        (fun s=>∃ q:Nat,q ≤ (ix ts (i:Int)).Inures.length ∧ s.2 = (q:Int) ∧ Went ts (upd st (i:Int) 1) s.1 ∧ ∀ p:Nat,p < q → ∀ j:Nat,idxOf ts (ix (ix ts (i:Int)).Inures (p:Int)) = (j:Int) → ix s.1 (j:Int) = 2)
        (fun s=>(ix ts (i:Int)).Inures.length - s.2.toNat)
        (fun o=>match o with | .inl r=>r.1 = true ∧ Cyc ts | .inr s=>Went ts (upd st (i:Int) 1) s ∧ ∀ j:Nat,Edge ts i j → ix s (j:Int) = 2)
        (by
          rintro ⟨s,z⟩ ⟨q,hq,rfl,hw,hd⟩
          dsimp only at hw hd
          unfold inuring_cyclic_o_l14
          dsimp only
          by_cases hc:q < (ix ts (i:Int)).Inures.length
          · have hIn:ix (ix ts (i:Int)).Inures (q:Int) ∈ (ix ts (i:Int)).Inures:=by rw [ix_nat hc]; exact List.getElem_mem hc
            have h0:=hk i hi _ hIn
            rw [if_pos (by simpa using hc),chk_true (inb_nat hc),index_eq hl,Option.bind_some,if_pos (by simpa using h0),w64_succ (by have:=hil i hi; omega)]
            rcases idxOf_cases ts (ix (ix ts (i:Int)).Inures (q:Int)) with ⟨h1,_⟩ | ⟨j,hj,h1,_⟩
            · omega
            · have hE:Edge ts i j:=⟨hi,hj,_,hIn,h1⟩
              rw [h1]
              obtain ⟨b,s',e1,e2,e3⟩:=ih j s hj hw.ok (fun k hk1 hk2=>by
                have hk3:=(hw.opn k hk1).1 hk2
                rw [ix_upd (by omega)] at hk3
                by_cases hki:k = i
                · subst hki; exact .single hE
                · rw [if_neg hki] at hk3
                  exact .tail (hop k hk1 hk3) hE) (by have:=hw.cnt; omega)
              rw [e1,Option.bind_some]
              dsimp only
              cases b with
              | true=>exact ⟨_,rfl,rfl,e2 rfl⟩
              | false =>
                obtain ⟨w2,hj2⟩:=e3 rfl
                refine ⟨_,rfl,⟨q + 1,by omega,rfl,⟨w2.ok,fun k hk1=>(w2.opn k hk1).trans (hw.opn k hk1),fun k hk1 h=>w2.kept k hk1 (hw.kept k hk1 h),Nat.le_trans w2.cnt hw.cnt⟩,?_⟩,by dsimp only; omega⟩
                intro p hp j' hj'
                dsimp only
                by_cases hpq:p = q
                · subst hpq
                  have:j' = j:=by rw [h1] at hj'; omega
                  subst this
                  exact hj2
                · have hp':=hd p (by omega) j' hj'
                  have hj'l:j' < ts.length:=by
                    rcases idxOf_cases ts (ix (ix ts (i:Int)).Inures (p:Int)) with ⟨h9,_⟩ | ⟨j9,hj9,h9,_⟩
                    · omega
                    · omega
                  exact w2.kept j' hj'l hp'
          · rw [if_neg (by simpa using hc)]
            refine ⟨_,rfl,hw,?_⟩
            rintro j ⟨_,_,id,hid,hij⟩
            obtain ⟨p,hp,rfl⟩:=List.getElem_of_mem hid
            exact hd p (by omega) j (by rw [ix_nat hp]; exact hij))
        (upd st (i:Int) 1,0) ⟨0,by omega,rfl,⟨⟨by dsimp only; omega,fun k hk1=>by
          dsimp only
          rw [ix_upd (by omega)]
          split
          · exact .inr (.inl rfl)
          · exact hst.vals k hk1,fun k hk1 h=>by
          dsimp only at h
          rw [ix_upd (by omega)] at h
          split at h
          · cases h
          · exact hst.done k hk1 h⟩,fun _ _=>Iff.rfl,fun _ _ h=>h,Nat.le_refl _⟩,fun p hp=>by omega⟩
      rw [ho]
      cases o with
      | inl r =>
        obtain ⟨r1,r2⟩:=r
        obtain ⟨hr1,hr2⟩:=hq
        dsimp only at hr1
        subst hr1
        exact ⟨true,r2,rfl,fun _=>hr2,fun h=>by cases h⟩
      | inr s =>
        obtain ⟨hw,hd⟩:=hq
        have hs:=hw.ok.len
        have hs1:ix s (i:Int) = 1:=(hw.opn i hi).2 (by rw [ix_upd (by omega),if_pos rfl])
        simp only [Option.bind_some,Sum.elim_inl,Sum.elim_inr]
        rw [chk_true (inb_nat (by omega))]
        have safe:Safe ts i:=⟨i,fun j hj=>hw.ok.done j hj.2.1 (hd j hj)⟩
        refine ⟨false,_,rfl,(fun h=>by cases h),fun _=>⟨⟨⟨by rw [upd_length]; exact hs,fun k hk1=>?_,fun k hk1 h=>?_⟩,fun k hk1=>?_,fun k hk1 h=>?_,?_⟩,?_⟩⟩
        · rw [ix_upd (by omega)]
          split
          · exact .inr (.inr rfl)
          · exact hw.ok.vals k hk1
        · rw [ix_upd (by omega)] at h
          split at h
          · rename_i e; subst e; exact safe
          · exact hw.ok.done k hk1 h
        · rw [ix_upd (by omega)]
          by_cases e:k = i
          · subst e
            rw [if_pos rfl,c0]
            constructor <;> intro h <;> omega
          · rw [if_neg e,hw.opn k hk1,ix_upd (by omega),if_neg e]
        · rw [ix_upd (by omega)]
          by_cases e:k = i
          · rw [if_pos e]
          · rw [if_neg e]
            exact hw.kept k hk1 (by rw [ix_upd (by omega),if_neg e]; exact h)
        · rw [count_upd1 (by omega) (by omega) (by decide)]
          have:=hw.cnt
          omega
        · rw [ix_upd (by omega),if_pos rfl]
    · rw [if_pos (by simpa using c0)]
      refine ⟨_,_,rfl,fun h=>?_,fun h=>?_⟩
      · have h1:ix st (i:Int) = 1:=by simpa using h
        exact ⟨i,hi,hop i hi h1⟩
      · have h1:¬ ix st (i:Int) = 1:=by simpa using h
        have h2:ix st (i:Int) = 2:=(((hst.vals i hi).resolve_left c0).resolve_left h1)
        exact ⟨⟨hst,fun _ _=>Iff.rfl,fun _ _ h=>h,Nat.le_refl _⟩,h2⟩
theorem cyc_eq {ts:List GTreaty} (hl:ts.length ≤ 1000000000) (hk:Known ts) (hil:∀ i:Nat,i < ts.length → (ix ts (i:Int)).Inures.length ≤ 1000000000) {i:Nat} {st:List Int} (hi:i < ts.length) (hst:SOk ts st) (hop:∀ k:Nat,k < ts.length → ix st (k:Int) ≠ 1) :
    ∃ b st',inuring_cyclic_o ts (i:Int) st = some (b,st') ∧ (b = true → Cyc ts) ∧ (b = false → Went ts st st' ∧ ix st' (i:Int) = 2):=by
  obtain ⟨b,st',h1,h2⟩:=cyc_n hl hk hil (st.count 0 + 1) i st hi hst (fun k hk1 h=>absurd h (hop k hk1)) (by omega)
  exact ⟨b,st',recV_of (fun k r=>cyc_n_mono k ts i st r) h1,h2⟩
theorem cyc_loop {ts:List GTreaty} (hl:ts.length ≤ 1000000000) (hk:Known ts) (hil:∀ i:Nat,i < ts.length → (ix ts (i:Int)).Inures.length ≤ 1000000000) :
    (Cyc ts ∧ loopV (inuring_Validate_l76 ts) (List.replicate ts.length 0,0) = some (.inl 10)) ∨ ((∀ k,k < ts.length → Safe ts k) ∧ loopV (inuring_Validate_l76 ts) (List.replicate ts.length 0,0) = some (.inr ())):=by
  obtain ⟨o,ho,hq⟩:=loopV_inv (step:=inuring_Validate_l76 ts)
    (fun s=>∃ q:Nat,q ≤ ts.length ∧ s.2 = (q:Int) ∧ SOk ts s.1 ∧ (∀ k:Nat,k < ts.length → ix s.1 (k:Int) ≠ 1) ∧ ∀ k:Nat,k < q → ix s.1 (k:Int) = 2)
    (fun s=>ts.length - s.2.toNat)
    (fun o=>(o = .inl 10 ∧ Cyc ts) ∨ (o = .inr () ∧ ∀ k,k < ts.length → Safe ts k))
    (by
      rintro ⟨s,z⟩ ⟨q,hq,rfl,hs,hop,hd⟩
      dsimp only at hs hop hd
      unfold inuring_Validate_l76
      dsimp only
      by_cases hc:q < ts.length
      · rw [if_pos (by simpa using hc),w64_succ (by omega)]
        obtain ⟨b,s',e1,e2,e3⟩:=cyc_eq hl hk hil hc hs hop
        rw [e1,Option.bind_some]
        dsimp only
        cases b with
        | true=>exact ⟨_,rfl,.inl ⟨rfl,e2 rfl⟩⟩
        | false =>
          obtain ⟨w,hw⟩:=e3 rfl
          refine ⟨_,rfl,⟨q + 1,by omega,rfl,w.ok,fun k hk1 h=>hop k hk1 ((w.opn k hk1).1 h),fun k hk1=>?_⟩,by dsimp only; omega⟩
          by_cases e:k = q
          · subst e; exact hw
          · exact w.kept k (by omega) (hd k (by omega))
      · rw [if_neg (by simpa using hc)]
        exact ⟨_,rfl,.inr ⟨rfl,fun k hk1=>hs.done k hk1 (hd k (by omega))⟩⟩)
    (List.replicate ts.length 0,0) ⟨0,by omega,rfl,⟨by simp,fun k hk1=>.inl (by rw [ix_nat (by simpa using hk1)]; simp),fun k hk1 h=>by rw [ix_nat (by simpa using hk1)] at h; simp at h⟩,fun k hk1=>by rw [ix_nat (by simpa using hk1)]; simp,fun k h=>by omega⟩
  rcases hq with ⟨rfl,h⟩ | ⟨rfl,h⟩
  · exact .inl ⟨h,ho⟩
  · exact .inr ⟨h,ho⟩
end Go.Proofs.Ytfekcgnnhjmeiaa.Pl
namespace Go.Proofs.Ytfekcgnnhjmeiaa.Pl
open Go
theorem edge_iff {ts:List GTreaty} (hu:Uniq ts) {k m:Nat} (hk:k < ts.length) (hm:m < ts.length):Edge ts k m ↔ (ix ts (m:Int)).ID ∈ (ix ts (k:Int)).Inures:=by
  constructor
  · rintro ⟨_,_,id,h1,h2⟩
    rcases idxOf_cases ts id with ⟨h3,_⟩ | ⟨j,_,h3,h4⟩
    · omega
    · have:j = m:=by omega
      subst this
      rw [h4]
      exact h1
  · intro h
    exact ⟨hk,hm,_,h,idxOf_id hu hm⟩
theorem ix_cons {α:Type} [Inhabited α] (x:α) (a:List α) (k:Nat):ix (x :: a) ((k + 1:Nat):Int) = ix a (k:Int):=by
  unfold ix
  simp only [Int.toNat_natCast]
  simp
theorem cnt_le:∀ (a b:List Bool),a.length = b.length → (∀ k:Nat,ix a (k:Int) = true → ix b (k:Int) = true) → a.count true ≤ b.count true ∧ (a.count true = b.count true → a = b)
  | [],[],_,_=>⟨Nat.le_refl _,fun _=>rfl⟩
  | [],_ :: _,h,_=>by simp at h
  | _ :: _,[],h,_=>by simp at h
  | x :: a,y :: b,h,hk=>by
    obtain ⟨h1,h2⟩:=cnt_le a b (by simpa using h) fun k hk1=>by
      have:=hk (k + 1)
      rw [ix_cons,ix_cons] at this
      exact this hk1
    have h0:x = true → y = true:=hk 0
    cases x <;> cases y
    · refine ⟨by simpa using h1,fun e=>?_⟩
      rw [h2 (by simpa using e)]
    · refine ⟨by simp only [List.count_cons]; simp; omega,fun e=>?_⟩
      simp only [List.count_cons] at e
      simp at e
      omega
    · exact absurd (h0 rfl) (by decide)
    · refine ⟨by simpa using h1,fun e=>?_⟩
      rw [h2 (by simpa using e)]
theorem row_eq {ts:List GTreaty} (hl:ts.length ≤ 1000000) {k:Nat} (hk:k < ts.length) (hi:(ix ts (k:Int)).Inures.length ≤ 1000000000) {on:List Bool} (ho:on.length = ts.length) (z:List Bool) :
    ∃ on',loopV (treatyref25_Depends_l43 ts (z,(k:Int))) (on,0) = some on' ∧ on'.length = ts.length ∧ ∀ m:Nat,m < ts.length → ix on' (m:Int) = (ix on (m:Int) || decide ((ix ts (m:Int)).ID ∈ (ix ts (k:Int)).Inures)):=by
  obtain ⟨o,h1,h2⟩:=loopV_inv (step:=treatyref25_Depends_l43 ts (z,(k:Int)))
    (fun s=>∃ q:Nat,q ≤ ts.length ∧ s.2 = (q:Int) ∧ s.1.length = ts.length ∧ ∀ m:Nat,m < ts.length → ix s.1 (m:Int) = if m < q then (ix on (m:Int) || decide ((ix ts (m:Int)).ID ∈ (ix ts (k:Int)).Inures)) else ix on (m:Int))
    (fun s=>ts.length - s.2.toNat) (fun on'=>on'.length = ts.length ∧ ∀ m:Nat,m < ts.length → ix on' (m:Int) = (ix on (m:Int) || decide ((ix ts (m:Int)).ID ∈ (ix ts (k:Int)).Inures)))
    (by
      rintro ⟨s,w⟩ ⟨q,hq,rfl,hs,hm⟩
      dsimp only at hs hm
      unfold treatyref25_Depends_l43
      dsimp only
      by_cases hc:q < ts.length
      · rw [if_pos (by simpa using hc),w64_succ (by omega)]
        have hmq:=hm q hc
        rw [if_neg (by omega)] at hmq
        have hv:(if (ix s (q:Int)) = true then (chk (inb s (q:Int)) <| some (upd s (q:Int) true)) else (chk (inb s (q:Int)) <| chk (inb ts (k:Int)) <| chk (inb ts (q:Int)) <| (treatyref25_Has (ix ts (k:Int)).Inures (ix ts (q:Int)).ID).bind fun r=>some (upd s (q:Int) r))) = some (upd s (q:Int) (ix on (q:Int) || decide ((ix ts (q:Int)).ID ∈ (ix ts (k:Int)).Inures))):=by
          rw [← hmq]
          cases hon:ix s (q:Int) with
          | true=>rw [if_pos rfl,chk_true (inb_nat (by omega)),Bool.true_or]
          | false=>rw [if_neg (by decide),chk_true (inb_nat (by omega)),chk_true (inb_nat hk),chk_true (inb_nat hc),has_eq hi,Option.bind_some,Bool.false_or]
        rw [hv,Option.bind_some]
        refine ⟨_,rfl,⟨q + 1,by omega,rfl,by dsimp only; rw [upd_length]; exact hs,fun m hm1=>?_⟩,by dsimp only; omega⟩
        dsimp only
        rw [ix_upd (by omega)]
        by_cases e:m = q
        · subst e
          rw [if_pos rfl,if_pos (by omega)]
        · rw [if_neg e,hm m hm1]
          by_cases e2:m < q
          · rw [if_pos e2,if_pos (by omega)]
          · rw [if_neg e2,if_neg (by omega)]
      · rw [if_neg (by simpa using hc)]
        refine ⟨_,rfl,hs,fun m hm1=>?_⟩
        rw [hm m hm1,if_pos (by omega)]) (on,0) ⟨0,by omega,rfl,ho,fun m _=>by rw [if_neg (by omega)]⟩
  exact ⟨o,h1,h2.1,h2.2⟩
def Sound (ts:List GTreaty) (i:Nat) (on:List Bool):Prop:=∀ m:Nat,m < ts.length → ix on (m:Int) = true → Relation.TransGen (Edge ts) i m
def Full (ts:List GTreaty) (i:Nat) (on:List Bool):Prop:=∀ m:Nat,m < ts.length → Relation.TransGen (Edge ts) i m → ix on (m:Int) = true
theorem round_eq {ts:List GTreaty} (hl:ts.length ≤ 1000000) (hu:Uniq ts) (hil:∀ k:Nat,k < ts.length → (ix ts (k:Int)).Inures.length ≤ 1000000000) {i:Nat} (hi:i < ts.length) {on:List Bool} (ho:on.length = ts.length) (hs:Sound ts i on) :
    ∃ on',loopV (treatyref25_Depends_l25 ts (i:Int)) (on,0) = some on' ∧ on'.length = ts.length ∧ Sound ts i on' ∧ (∀ m:Nat,m < ts.length → ix on (m:Int) = true → ix on' (m:Int) = true) ∧ ∀ k m:Nat,(k = i ∨ ix on (k:Int) = true) → Edge ts k m → ix on' (m:Int) = true:=by
  obtain ⟨o,h1,h2⟩:=loopV_inv (step:=treatyref25_Depends_l25 ts (i:Int))
    (fun s=>∃ q:Nat,q ≤ ts.length ∧ s.2 = (q:Int) ∧ s.1.length = ts.length ∧ Sound ts i s.1 ∧ (∀ m:Nat,m < ts.length → ix on (m:Int) = true → ix s.1 (m:Int) = true) ∧ ∀ k m:Nat,k < q → (k = i ∨ ix on (k:Int) = true) → Edge ts k m → ix s.1 (m:Int) = true)
    (fun s=>ts.length - s.2.toNat)
    (fun on'=>on'.length = ts.length ∧ Sound ts i on' ∧ (∀ m:Nat,m < ts.length → ix on (m:Int) = true → ix on' (m:Int) = true) ∧ ∀ k m:Nat,(k = i ∨ ix on (k:Int) = true) → Edge ts k m → ix on' (m:Int) = true)
    (by
      rintro ⟨s,w⟩ ⟨q,hq,rfl,hsl,hso,hmo,hcl⟩
      dsimp only at hsl hso hmo hcl
      unfold treatyref25_Depends_l25
      dsimp only
      by_cases hc:q < ts.length
      · rw [if_pos (by simpa using hc),w64_succ (by omega)]
        have hcond:(if (!decide ((q:Int) = (i:Int))) = true then (chk (inb s (q:Int)) <| some (!(ix s (q:Int)))) else (some false)) = some (decide (¬ (q = i ∨ ix s (q:Int) = true))):=by
          by_cases e:q = i
          · subst e; simp
          · have:¬ (q:Int) = (i:Int):=by omega
            rw [if_pos (by simpa using this),chk_true (inb_nat (by omega))]
            cases ix s (q:Int) <;> simp [e]
        rw [hcond,Option.bind_some]
        by_cases hr:q = i ∨ ix s (q:Int) = true
        · rw [if_neg (by rw [decide_eq_true_eq]; exact not_not_intro hr)]
          obtain ⟨s',e1,e2,e3⟩:=row_eq hl hc (hil q hc) hsl s
          rw [e1,Option.bind_some]
          refine ⟨_,rfl,⟨q + 1,by omega,rfl,e2,?_,fun m hm h=>?_,fun k m hk hki hE=>?_⟩,by dsimp only; omega⟩
          · intro m hm h
            dsimp only at h
            rw [e3 m hm,Bool.or_eq_true] at h
            rcases h with h | h
            · exact hso m hm h
            · have hE:Edge ts q m:=(edge_iff hu hc hm).2 (by simpa using h)
              rcases hr with rfl | hr
              · exact .single hE
              · exact .tail (hso q hc hr) hE
          · dsimp only
            rw [e3 m hm,hmo m hm h,Bool.true_or]
          · dsimp only
            rw [e3 m hE.2.1]
            by_cases e:k = q
            · subst e
              rw [decide_eq_true ((edge_iff hu hc hE.2.1).1 hE),Bool.or_true]
            · rw [hcl k m (by omega) hki hE,Bool.true_or]
        · rw [if_pos (by rw [decide_eq_true_eq]; exact hr),Option.bind_some]
          refine ⟨_,rfl,⟨q + 1,by omega,rfl,hsl,hso,hmo,fun k m hk hki hE=>?_⟩,by dsimp only; omega⟩
          by_cases e:k = q
          · subst e
            exact absurd (hki.imp id fun h=>hmo k hc h) hr
          · exact hcl k m (by omega) hki hE
      · rw [if_neg (by simpa using hc)]
        exact ⟨_,rfl,hsl,hso,hmo,fun k m hki hE=>hcl k m (by have:=hE.1; omega) hki hE⟩) (on,0) ⟨0,by omega,rfl,ho,hs,fun _ _ h=>h,fun k m h=>by omega⟩
  exact ⟨o,h1,h2⟩
theorem ix_none {a:List Bool} {k:Nat} (h:a.length ≤ k):ix a (k:Int) = false:=by
  unfold ix
  rw [Int.toNat_natCast,List.getD_eq_getElem?_getD,List.getElem?_eq_none h]
  rfl
theorem rounds_eq {ts:List GTreaty} (hl:ts.length ≤ 1000000) (hu:Uniq ts) (hil:∀ k:Nat,k < ts.length → (ix ts (k:Int)).Inures.length ≤ 1000000000) {i:Nat} (hi:i < ts.length) :
    ∃ on',loopV (treatyref25_Depends_l14 ts (i:Int)) (List.replicate ts.length false,0) = some on' ∧ on'.length = ts.length ∧ Sound ts i on' ∧ Full ts i on':=by
  obtain ⟨o,h1,h2⟩:=loopV_inv (step:=treatyref25_Depends_l14 ts (i:Int))
    (fun s=>∃ q:Nat,q ≤ ts.length + 1 ∧ s.2 = (q:Int) ∧ s.1.length = ts.length ∧ Sound ts i s.1 ∧ (Full ts i s.1 ∨ q ≤ s.1.count true))
    (fun s=>ts.length + 1 - s.2.toNat)
    (fun on'=>on'.length = ts.length ∧ Sound ts i on' ∧ Full ts i on')
    (by
      rintro ⟨s,w⟩ ⟨q,hq,rfl,hsl,hso,hf⟩
      dsimp only at hsl hso hf
      unfold treatyref25_Depends_l14
      dsimp only
      by_cases hc:q ≤ ts.length
      · rw [if_pos (by simp; omega),w64_succ (by omega)]
        obtain ⟨s',e1,e2,e3,e4,e5⟩:=round_eq hl hu hil hi hsl hso
        rw [e1,Option.bind_some]
        refine ⟨_,rfl,⟨q + 1,by omega,rfl,e2,e3,?_⟩,by dsimp only; omega⟩
        dsimp only
        rcases hf with hf | hf
        · exact .inl fun m hm h=>e4 m hm (hf m hm h)
        · obtain ⟨c1,c2⟩:=cnt_le s s' (by omega) fun k hk=>by
            by_cases hk2:k < ts.length
            · exact e4 k hk2 hk
            · rw [ix_none (by omega)] at hk; cases hk
          by_cases ce:s.count true = s'.count true
          · have:=c2 ce
            subst this
            refine .inl fun m hm h=>?_
            induction h with
            | single h=>exact e5 i _ (.inl rfl) h
            | tail h1 h2 ih=>exact e5 _ _ (.inr (ih h2.1)) h2
          · exact .inr (by omega)
      · rw [if_neg (by simp; omega)]
        refine ⟨_,rfl,hsl,hso,?_⟩
        rcases hf with hf | hf
        · exact hf
        · have:=List.count_le_length (a:=true) (l:=s)
          omega) (List.replicate ts.length false,0) ⟨0,by omega,rfl,by simp,fun m hm h=>by rw [ix_nat (by simpa using hm)] at h; simp at h,.inr (by omega)⟩
  exact ⟨o,h1,h2⟩
open Classical in
theorem rdep_eq {ts:List GTreaty} (hl:ts.length ≤ 1000000) (hu:Uniq ts) (hil:∀ k:Nat,k < ts.length → (ix ts (k:Int)).Inures.length ≤ 1000000000) {i j:Nat} (hi:i < ts.length) (hj:j < ts.length) :
    treatyref25_Depends ts (i:Int) (j:Int) = some (decide (Relation.TransGen (Edge ts) i j)):=by
  unfold treatyref25_Depends
  rw [if_neg (by simp; omega),chk_true (by simp),chk_true (by simp; omega),Int.toNat_natCast]
  obtain ⟨on,h1,h2,h3,h4⟩:=rounds_eq hl hu hil hi
  rw [h1,Option.bind_some,chk_true (inb_nat (by omega))]
  by_cases hc:Relation.TransGen (Edge ts) i j
  · rw [h4 j hj hc,decide_eq_true hc]
  · rw [decide_eq_false hc]
    cases hb:ix on (j:Int) with
    | false=>rfl
    | true=>exact absurd (h3 j hj hb) hc
end Go.Proofs.Ytfekcgnnhjmeiaa.Pl
namespace Go.Proofs.Ytfekcgnnhjmeiaa.Pl
open Go
def TsLen (ts:List GTreaty):Prop:=∀ k:Nat,k < ts.length → TLen (ix ts (k:Int))
def st1F (ts:List GTreaty) (k:Nat):Option Int:=if validE (ix ts (k:Int)) ≠ 0 then some (validE (ix ts (k:Int))) else if 0 < k ∧ (ix ts (k:Int)).ID ≤ (ix ts ((k - 1:Nat):Int)).ID then some 13 else none
def st1 (ts:List GTreaty):Option Int:=(List.range ts.length).findSome? (st1F ts)
def st2F (ts:List GTreaty) (i:Nat):Option Int:=(List.range (ix ts (i:Int)).Inures.length).findSome? fun j:Nat=>if decide (idxOf ts (ix (ix ts (i:Int)).Inures (j:Int)) < 0) = true then some 7 else none
def st2 (ts:List GTreaty):Option Int:=(List.range ts.length).findSome? (st2F ts)
def st4F (ts:List GTreaty) (i:Nat):Option Int:=(List.range i).findSome? fun j:Nat=>if clashS (ix ts (i:Int)) (ix ts (j:Int)) = true then some 8 else none
def st4 (ts:List GTreaty):Option Int:=(List.range ts.length).findSome? (st4F ts)
open Classical in
noncomputable def vOf (ts:List GTreaty):Int:=if 12 < ts.length then 4 else (st1 ts).elim ((st2 ts).elim (if Cyc ts then 10 else (st4 ts).elim 0 id) id) id
theorem findSome_none {O:Type} {n:Nat} {f:Nat → Option O} (h:(List.range n).findSome? f = none) {k:Nat} (hk:k < n):f k = none:=List.findSome?_eq_none_iff.1 h k (List.mem_range.2 hk)
theorem st1_at {ts:List GTreaty} (h:st1 ts = none) {k:Nat} (hk:k < ts.length):validE (ix ts (k:Int)) = 0 ∧ (0 < k → (ix ts ((k - 1:Nat):Int)).ID < (ix ts (k:Int)).ID):=by
  have h1:=findSome_none h hk
  unfold st1F at h1
  by_cases c1:validE (ix ts (k:Int)) = 0
  · rw [if_neg (not_not_intro c1)] at h1
    refine ⟨c1,fun h0=>?_⟩
    apply Classical.byContradiction
    intro hn
    rw [if_pos ⟨h0,by omega⟩] at h1
    cases h1
  · rw [if_pos c1] at h1
    cases h1
theorem st1_lt {ts:List GTreaty} (h:st1 ts = none) {i:Nat}:∀ {j:Nat},i < j → j < ts.length → (ix ts (i:Int)).ID < (ix ts (j:Int)).ID:=by
  intro j
  induction j with
  | zero=>intro h; omega
  | succ j ih =>
    intro h1 h2
    have h3:=(st1_at h h2).2 (by omega)
    rw [Nat.add_sub_cancel] at h3
    by_cases e:i = j
    · subst e; exact h3
    · have:=ih (by omega) (by omega)
      omega
theorem st1_uniq {ts:List GTreaty} (h:st1 ts = none):Uniq ts:=by
  intro i j hi hj e
  rcases Nat.lt_trichotomy i j with hc | hc | hc
  · have:=st1_lt h hc hj; omega
  · exact hc
  · have:=st1_lt h hc hi; omega
theorem st2_known {ts:List GTreaty} (h:st2 ts = none):Known ts:=by
  intro i hi id hid
  have h1:=findSome_none h hi
  unfold st2F at h1
  obtain ⟨p,hp,rfl⟩:=List.getElem_of_mem hid
  have h2:=findSome_none h1 hp
  rw [ix_nat hp] at h2
  apply Classical.byContradiction
  intro hn
  rw [if_pos (by simpa using hn)] at h2
  cases h2
theorem st1_some {ts:List GTreaty} {e:Int} (h:st1 ts = some e):e ≠ 0:=by
  obtain ⟨k,_,h1⟩:=List.exists_of_findSome?_eq_some h
  unfold st1F at h1
  split at h1
  · rename_i hc; cases h1; exact hc
  · split at h1
    · cases h1; decide
    · cases h1
theorem st2_some {ts:List GTreaty} {e:Int} (h:st2 ts = some e):e = 7:=by
  obtain ⟨k,_,h1⟩:=List.exists_of_findSome?_eq_some h
  obtain ⟨j,_,h2⟩:=List.exists_of_findSome?_eq_some h1
  split at h2 <;> cases h2
  rfl
theorem st4_some {ts:List GTreaty} {e:Int} (h:st4 ts = some e):e = 8:=by
  obtain ⟨k,_,h1⟩:=List.exists_of_findSome?_eq_some h
  obtain ⟨j,_,h2⟩:=List.exists_of_findSome?_eq_some h1
  split at h2 <;> cases h2
  rfl
structure AllOk (ts:List GTreaty):Prop where
  few:ts.length ≤ 12
  s1:st1 ts = none
  s2:st2 ts = none
  s3:¬ Cyc ts
  s4:st4 ts = none
theorem vOf_zero {ts:List GTreaty} (h:vOf ts = 0):AllOk ts:=by
  unfold vOf at h
  by_cases c0:12 < ts.length
  · rw [if_pos c0] at h; cases h
  · rw [if_neg c0] at h
    cases h1:st1 ts with
    | some e=>rw [h1] at h; exact absurd h (st1_some h1)
    | none =>
      rw [h1] at h
      cases h2:st2 ts with
      | some e =>
        rw [h2] at h
        have:=st2_some h2
        subst this
        cases h
      | none =>
        rw [h2] at h
        dsimp only [Option.elim] at h
        by_cases c3:Cyc ts
        · rw [if_pos c3] at h; cases h
        · rw [if_neg c3] at h
          cases h4:st4 ts with
          | some e =>
            rw [h4] at h
            have:=st4_some h4
            subst this
            cases h
          | none=>exact ⟨by omega,h1,h2,c3,h4⟩
theorem vOf_ok {ts:List GTreaty} (h:AllOk ts):vOf ts = 0:=by
  unfold vOf
  rw [if_neg (by have:=h.few; omega),h.s1,h.s2,h.s4]
  dsimp only [Option.elim]
  rw [if_neg h.s3]
theorem prevT_check {ts:List GTreaty} {k:Nat} (hk:k < ts.length) (hl:ts.length ≤ 1000000) :
    (if (decide (0 < (k:Int))) = true then (chk (inb ts (w64 ((k:Int) - 1))) <| some (decide ((ix ts (k:Int)).ID ≤ (ix ts (w64 ((k:Int) - 1))).ID))) else (some false)) = some (decide (0 < k ∧ (ix ts (k:Int)).ID ≤ (ix ts ((k - 1:Nat):Int)).ID)):=by
  cases k with
  | zero=>simp
  | succ k =>
    have e:w64 (((k + 1:Nat):Int) - 1) = (k:Int):=by rw [w64_id (by omega) (by omega)]; omega
    rw [if_pos (by simp),e,chk_true (inb_nat (by omega)),Nat.add_sub_cancel]
    simp
theorem l12_eq {ts:List GTreaty} (hl:ts.length ≤ 1000000) (ht:TsLen ts):loopV (inuring_Validate_l12 ts) 0 = some ((st1 ts).elim (.inr ()) .inl):=by
  refine loop_scan (st1F ts) (fun k hk=>?_) (by unfold inuring_Validate_l12; rw [if_neg (by simp)])
  unfold inuring_Validate_l12 st1F
  rw [if_pos (by simpa using hk),chk_true (inb_nat hk),validate_eq (ht k hk),Option.bind_some,prevT_check hk hl,Option.bind_some,w64_succ (by omega)]
  by_cases c1:validE (ix ts (k:Int)) = 0
  · rw [if_neg (by simp [c1]),if_neg (not_not_intro c1)]
    by_cases c2:0 < k ∧ (ix ts (k:Int)).ID ≤ (ix ts ((k - 1:Nat):Int)).ID
    · rw [if_pos (decide_eq_true c2),if_pos c2]; rfl
    · rw [if_neg (by simpa using c2),if_neg c2]; rfl
  · rw [if_pos (by simp [c1]),if_pos c1]; rfl
theorem r12_eq {ts:List GTreaty} (hl:ts.length ≤ 1000000) (ht:TsLen ts):loopV (treatyref25_Treaties_l12 ts) 0 = some ((st1 ts).elim (.inr ()) .inl):=by
  refine loop_scan (st1F ts) (fun k hk=>?_) (by unfold treatyref25_Treaties_l12; rw [if_neg (by simp)])
  unfold treatyref25_Treaties_l12 st1F
  rw [if_pos (by simpa using hk),chk_true (inb_nat hk),rvalidate_eq (ht k hk),Option.bind_some,prevT_check hk hl,Option.bind_some,w64_succ (by omega)]
  by_cases c1:validE (ix ts (k:Int)) = 0
  · rw [if_neg (by simp [c1]),if_neg (not_not_intro c1)]
    by_cases c2:0 < k ∧ (ix ts (k:Int)).ID ≤ (ix ts ((k - 1:Nat):Int)).ID
    · rw [if_pos (decide_eq_true c2),if_pos c2]; rfl
    · rw [if_neg (by simpa using c2),if_neg c2]; rfl
  · rw [if_pos (by simp [c1]),if_pos c1]; rfl
theorem elim_some {O R:Type} (F:Option O) (a:R) (b:O → R):F.elim (some a) (fun t=>some (b t)) = some (F.elim a b):=by cases F <;> rfl
theorem l40_eq {ts:List GTreaty} (hl:ts.length ≤ 1000000) (ht:TsLen ts):loopV (inuring_Validate_l40 ts) 0 = some ((st2 ts).elim (.inr ()) .inl):=by
  refine loop_scan (st2F ts) (fun k hk=>?_) (by unfold inuring_Validate_l40; rw [if_neg (by simp)])
  have st:=loop_scan (step:=inuring_Validate_l53 ts (k:Int)) (n:=(ix ts (k:Int)).Inures.length) (fun j:Nat=>if decide (idxOf ts (ix (ix ts (k:Int)).Inures (j:Int)) < 0) = true then some 7 else none) (fun j hj=>by
    unfold inuring_Validate_l53
    rw [if_pos (by simpa using hj),chk_true (inb_nat hj),index_eq (by omega),Option.bind_some,w64_succ (by have:=(ht k hk).3; omega)]
    by_cases c:idxOf ts (ix (ix ts (k:Int)).Inures (j:Int)) < 0 <;> simp [c]) (by unfold inuring_Validate_l53; rw [if_neg (by simp)])
  unfold inuring_Validate_l40
  rw [if_pos (by simpa using hk),chk_true (inb_nat hk),scanK st,w64_succ (by omega)]
  exact elim_some _ _ _
theorem r40_eq {ts:List GTreaty} (hl:ts.length ≤ 1000000) (ht:TsLen ts):loopV (treatyref25_Treaties_l40 ts) 0 = some ((st2 ts).elim (.inr ()) .inl):=by
  refine loop_scan (st2F ts) (fun k hk=>?_) (by unfold treatyref25_Treaties_l40; rw [if_neg (by simp)])
  have st:=loop_scan (step:=treatyref25_Treaties_l53 ts (k:Int)) (n:=(ix ts (k:Int)).Inures.length) (fun j:Nat=>if decide (idxOf ts (ix (ix ts (k:Int)).Inures (j:Int)) < 0) = true then some 7 else none) (fun j hj=>by
    unfold treatyref25_Treaties_l53
    rw [if_pos (by simpa using hj),chk_true (inb_nat hj),rindex_eq (by omega),Option.bind_some,w64_succ (by have:=(ht k hk).3; omega)]
    by_cases c:idxOf ts (ix (ix ts (k:Int)).Inures (j:Int)) < 0 <;> simp [c]) (by unfold treatyref25_Treaties_l53; rw [if_neg (by simp)])
  unfold treatyref25_Treaties_l40
  rw [if_pos (by simpa using hk),chk_true (inb_nat hk),scanK st,w64_succ (by omega)]
  exact elim_some _ _ _
theorem ix_take {α:Type} [Inhabited α] {l:List α} {i j:Nat} (h:j < i):ix (l.take i) (j:Int) = ix l (j:Int):=by
  unfold ix
  rw [Int.toNat_natCast,List.getD_eq_getElem?_getD,List.getD_eq_getElem?_getD,List.getElem?_take,if_pos h]
theorem l96_eq {ts:List GTreaty} (hl:ts.length ≤ 1000000) (ht:TsLen ts):loopV (inuring_Validate_l96 ts) 0 = some ((st4 ts).elim (.inr ()) .inl):=by
  refine loop_scan (st4F ts) (fun i hi=>?_) (by unfold inuring_Validate_l96; rw [if_neg (by simp)])
  have hlen:(ts.take i).length = i:=by rw [List.length_take]; omega
  have st:=loop_scan (step:=inuring_Validate_l109 ts (i:Int)) (n:=i) (fun j:Nat=>if clashS (ix ts (i:Int)) (ix ts (j:Int)) = true then some 8 else none) (fun j hj=>by
    unfold inuring_Validate_l109
    rw [Int.toNat_natCast,if_pos (by rw [hlen]; simpa using hj),chk_true (inb_nat (by rw [hlen]; exact hj)),ix_take hj,clash_eq (ht i hi) (ht j (by omega)),Option.bind_some,w64_succ (by omega)]
    cases clashS (ix ts (i:Int)) (ix ts (j:Int)) <;> rfl) (by unfold inuring_Validate_l109; rw [Int.toNat_natCast,if_neg (by rw [hlen]; simp)])
  unfold inuring_Validate_l96
  rw [if_pos (by simpa using hi),chk_true (inb_nat hi),chk_true (by simp),chk_true (by simp; omega),scanK st,w64_succ (by omega)]
  exact elim_some _ _ _
theorem r94_eq {ts:List GTreaty} (hl:ts.length ≤ 1000000) (ht:TsLen ts):loopV (treatyref25_Treaties_l94 ts) 0 = some ((st4 ts).elim (.inr ()) .inl):=by
  refine loop_scan (st4F ts) (fun i hi=>?_) (by unfold treatyref25_Treaties_l94; rw [if_neg (by simp)])
  have hlen:(ts.take i).length = i:=by rw [List.length_take]; omega
  have st:=loop_scan (step:=treatyref25_Treaties_l107 ts (i:Int)) (n:=i) (fun j:Nat=>if clashS (ix ts (i:Int)) (ix ts (j:Int)) = true then some 8 else none) (fun j hj=>by
    have hti:=ht i hi
    have htj:=ht j (by omega)
    unfold treatyref25_Treaties_l107
    rw [Int.toNat_natCast,if_pos (by rw [hlen]; simpa using hj),chk_true (inb_nat (by rw [hlen]; exact hj)),ix_take hj,rtower_eq hti,Option.bind_some,rmeet_eq hti htj,Option.bind_some,has_eq hti.3,has_eq htj.3,w64_succ (by omega)]
    unfold clashS apartS
    rw [Bool.or_comm (decide (w64 ((ix ts (i:Int)).Retention + (ix ts (i:Int)).Limit) ≤ (ix ts (j:Int)).Retention))]
    cases meetS (ix ts (i:Int)) (ix ts (j:Int)) <;> cases decide ((ix ts (j:Int)).ID ∈ (ix ts (i:Int)).Inures) <;> cases decide ((ix ts (i:Int)).ID ∈ (ix ts (j:Int)).Inures) <;> (try rfl)
    simp only [Option.bind_some,if_true,Bool.not_false,Bool.true_and,Bool.and_true]
    generalize (!(towerS (ix ts (i:Int)) (ix ts (j:Int)) && _)) = b
    cases b <;> rfl) (by unfold treatyref25_Treaties_l107; rw [Int.toNat_natCast,if_neg (by rw [hlen]; simp)])
  unfold treatyref25_Treaties_l94
  rw [if_pos (by simpa using hi),chk_true (inb_nat hi),chk_true (by simp),chk_true (by simp; omega),scanK st,w64_succ (by omega)]
  exact elim_some _ _ _
open Classical in
theorem r74_eq {ts:List GTreaty} (hl:ts.length ≤ 1000000) (ht:TsLen ts) (hu:Uniq ts):loopV (treatyref25_Treaties_l74 ts) 0 = some (if Cyc ts then .inl 10 else .inr ()):=by
  have st:=loop_scan (step:=treatyref25_Treaties_l74 ts) (n:=ts.length) (fun k=>if decide (Relation.TransGen (Edge ts) k k) = true then some 10 else none) (fun k hk=>by
    unfold treatyref25_Treaties_l74
    rw [if_pos (by simpa using hk),rdep_eq hl hu (fun k hk=>(ht k hk).3) hk hk,Option.bind_some,w64_succ (by omega)]
    by_cases c:Relation.TransGen (Edge ts) k k <;> simp [c]) (by unfold treatyref25_Treaties_l74; rw [if_neg (by simp)])
  rw [st,findSome_if]
  by_cases hc:Cyc ts
  · rw [if_pos hc]
    obtain ⟨k,hk,h⟩:=hc
    rw [if_pos (List.any_eq_true.2 ⟨k,List.mem_range.2 hk,decide_eq_true h⟩)]
    rfl
  · rw [if_neg hc,if_neg]
    · rfl
    · intro h
      obtain ⟨k,hk,h2⟩:=List.any_eq_true.1 h
      exact hc ⟨k,List.mem_range.1 hk,of_decide_eq_true h2⟩
theorem validateAll {ts:List GTreaty} (hl:ts.length ≤ 1000000) (ht:TsLen ts):inuring_Validate ts = some (vOf ts):=by
  unfold inuring_Validate vOf
  by_cases c0:12 < ts.length
  · rw [if_pos (by simp; omega),if_pos c0]
  rw [if_neg (by simp; omega),if_neg c0,scanK (l12_eq hl ht)]
  cases h1:st1 ts with
  | some e=>rfl
  | none =>
    dsimp only [Option.elim]
    rw [scanK (l40_eq hl ht)]
    cases h2:st2 ts with
    | some e=>rfl
    | none =>
      dsimp only [Option.elim]
      rw [chk_true (by simp),chk_true (by simp; omega),Int.toNat_natCast]
      rcases cyc_loop (by omega) (st2_known h2) (fun i hi=>(ht i hi).3) with ⟨hc,h3⟩ | ⟨hs,h3⟩
      · rw [h3,if_pos hc]
        rfl
      · have hc:¬ Cyc ts:=fun ⟨k,hk,h⟩=>safe_no (hs k hk) h
        rw [if_neg hc]
        refine (scanK (F:=none) h3 _ _).trans ?_
        dsimp only [Option.elim]
        rw [scanK (l96_eq hl ht)]
        cases st4 ts <;> rfl
theorem treatiesAll {ts:List GTreaty} (hl:ts.length ≤ 1000000) (ht:TsLen ts):treatyref25_Treaties ts = some (vOf ts):=by
  unfold treatyref25_Treaties vOf
  by_cases c0:12 < ts.length
  · rw [if_pos (by simp; omega),if_pos c0]
  rw [if_neg (by simp; omega),if_neg c0,scanK (r12_eq hl ht)]
  cases h1:st1 ts with
  | some e=>rfl
  | none =>
    dsimp only [Option.elim]
    rw [scanK (r40_eq hl ht)]
    cases h2:st2 ts with
    | some e=>rfl
    | none =>
      dsimp only [Option.elim]
      rw [r74_eq hl ht (st1_uniq h1)]
      by_cases hc:Cyc ts
      · rw [if_pos hc,if_pos hc]
        rfl
      · rw [if_neg hc,if_neg hc]
        refine (scanK (F:=none) rfl _ _).trans ?_
        dsimp only [Option.elim]
        rw [scanK (r94_eq hl ht)]
        cases st4 ts <;> rfl
theorem safe_all {ts:List GTreaty} (ht:TsLen ts) (h:AllOk ts) {k:Nat} (hk:k < ts.length):Safe ts k:=by
  rcases cyc_loop (by have:=h.few; omega) (st2_known h.s2) (fun i hi=>(ht i hi).3) with ⟨hc,_⟩ | ⟨hs,_⟩
  · exact absurd hc h.s3
  · exact hs k hk
end Go.Proofs.Ytfekcgnnhjmeiaa.Pl
namespace Go.Proofs.Ytfekcgnnhjmeiaa.Pl
open Go
def readyB (ts:List GTreaty) (out:List Int) (i:Nat):Bool:=!decide ((i:Int) ∈ out) && (ix ts (i:Int)).Inures.all fun id=>decide (idxOf ts id ∈ out)
def Least (ts:List GTreaty) (out:List Int) (i:Nat):Prop:=i < ts.length ∧ readyB ts out i = true ∧ ∀ j,j < i → readyB ts out j = false
theorem ready_ex {ts:List GTreaty} (hk:Known ts) {out:List Int} {k:Nat} (hs:Safe ts k):k < ts.length → (k:Int) ∉ out → ∃ i,i < ts.length ∧ readyB ts out i = true:=by
  induction hs with
  | intro k _ ih =>
    intro hkl hko
    by_cases hr:readyB ts out k = true
    · exact ⟨k,hkl,hr⟩
    · unfold readyB at hr
      rw [decide_eq_false hko,Bool.not_false,Bool.true_and] at hr
      have:∃ id ∈ (ix ts (k:Int)).Inures,¬ idxOf ts id ∈ out:=by
        apply Classical.byContradiction
        intro hn
        exact hr (List.all_eq_true.2 fun id hid=>decide_eq_true (Classical.byContradiction fun h=>hn ⟨id,hid,h⟩))
      obtain ⟨id,hid,hno⟩:=this
      have h0:=hk k hkl id hid
      rcases idxOf_cases ts id with ⟨h1,_⟩ | ⟨j,hj,h1,_⟩
      · omega
      · exact ih j ⟨hkl,hj,id,hid,h1⟩ hj (by rw [← h1]; exact hno)
theorem least_of {ts:List GTreaty} {out:List Int}:∀ {i:Nat},i < ts.length → readyB ts out i = true → ∃ i,Least ts out i:=by
  intro i
  induction i using Nat.strongRecOn with
  | _ i ih =>
    intro hi hr
    by_cases h:∃ j,j < i ∧ readyB ts out j = true
    · obtain ⟨j,hj,hj2⟩:=h
      exact ih j hj (by omega) hj2
    · exact ⟨i,hi,hr,fun j hj=>Bool.eq_false_iff.2 fun h2=>h ⟨j,hj,h2⟩⟩
theorem l40o_eq {ts:List GTreaty} (hl:ts.length ≤ 1000000) (ht:TsLen ts) {out:List Int} (ho:out.length ≤ 1000000000) {i:Nat} (hi:i < ts.length):loopV (treatyref25_Order_l40 ts out (i:Int)) (!decide ((i:Int) ∈ out),0) = some (readyB ts out i):=by
  have hin:=(ht i hi).3
  have h:=loopV_done (step:=treatyref25_Order_l40 ts out (i:Int)) (fun k=>(!decide ((i:Int) ∈ out) && ((ix ts (i:Int)).Inures.take k).all fun id=>decide (idxOf ts id ∈ out),(k:Int))) (ix ts (i:Int)).Inures.length (readyB ts out i) (fun k hk=>by
    unfold treatyref25_Order_l40
    dsimp only
    rw [if_pos (by simpa using hk),chk_true (inb_nat hk),w64_succ (by omega),rindex_eq (by omega),Option.bind_some,has_eq ho,Option.bind_some,ix_nat hk]
    have e:((ix ts (i:Int)).Inures.take (k + 1)).all (fun id=>decide (idxOf ts id ∈ out)) = (((ix ts (i:Int)).Inures.take k).all (fun id=>decide (idxOf ts id ∈ out)) && decide (idxOf ts (ix ts (i:Int)).Inures[k] ∈ out)):=by
      rw [List.take_succ_eq_append_getElem hk,List.all_append]
      simp only [List.all_cons,List.all_nil,Bool.and_true]
    rw [e,← Bool.and_assoc]
    cases (!decide ((i:Int) ∈ out) && ((ix ts (i:Int)).Inures.take k).all fun id=>decide (idxOf ts id ∈ out)) <;> rfl) (by
    unfold treatyref25_Order_l40
    dsimp only
    rw [if_neg (by simp),List.take_length]
    rfl)
  simpa using h
theorem l24o_eq {ts:List GTreaty} (hl:ts.length ≤ 1000000) (ht:TsLen ts) {out:List Int} (ho:out.length ≤ 1000000) {i:Nat} (hi:Least ts out i):loopV (treatyref25_Order_l24 ts out) 0 = some (out ++ [(i:Int)]):=by
  obtain ⟨h1,h2,h3⟩:=hi
  refine loopV_done (fun k=>(k:Int)) i _ (fun k hk=>?_) ?_
  · unfold treatyref25_Order_l24
    rw [if_pos (by simp; omega),chk_true (inb_nat (by omega)),has_eq (by omega),Option.bind_some,l40o_eq hl ht (by omega) (by omega),Option.bind_some,h3 k hk,w64_succ (by omega)]
    rfl
  · unfold treatyref25_Order_l24
    rw [if_pos (by simp; omega),chk_true (inb_nat (by omega)),has_eq (by omega),Option.bind_some,l40o_eq hl ht (by omega) (by omega),Option.bind_some,h2,if_pos rfl,chk_true (room_of (by simp; omega))]
    rfl
theorem blocked_eq {ts:List GTreaty} (hl:ts.length ≤ 1000000) (ht:TsLen ts) (hk:Known ts) {come:List Bool} {out:List Int} (hc:come.length = ts.length) (hco:∀ k:Nat,k < ts.length → ix come (k:Int) = decide ((k:Int) ∈ out)) {i:Nat} (hi:i < ts.length) :
    inuring_queue_blocked (Gqueue.mk ts come) (i:Int) = some (if ((ix ts (i:Int)).Inures.all fun id=>decide (idxOf ts id ∈ out)) = true then 0 else 1):=by
  have hin:=(ht i hi).3
  have st:=loop_scan (step:=inuring_queue_blocked_l6 (Gqueue.mk ts come) (i:Int)) (n:=(ix ts (i:Int)).Inures.length) (fun k=>if (!decide (idxOf ts (ix (ix ts (i:Int)).Inures (k:Int)) ∈ out)) = true then some 1 else none) (fun k hk1=>by
    unfold inuring_queue_blocked_l6
    dsimp only
    have hIn:ix (ix ts (i:Int)).Inures (k:Int) ∈ (ix ts (i:Int)).Inures:=by rw [ix_nat hk1]; exact List.getElem_mem hk1
    have h0:=hk i hi _ hIn
    rw [if_pos (by simpa using hk1),chk_true (inb_nat hk1),index_eq (by omega),Option.bind_some,if_pos (by simpa using h0),w64_succ (by omega)]
    rcases idxOf_cases ts (ix (ix ts (i:Int)).Inures (k:Int)) with ⟨h1,_⟩ | ⟨j,hj,h1,_⟩
    · omega
    · rw [h1,chk_true (inb_nat (by omega)),Option.bind_some,hco j hj]
      by_cases c:(j:Int) ∈ out <;> simp [c]) (by unfold inuring_queue_blocked_l6; dsimp only; rw [if_neg (by simp)])
  unfold inuring_queue_blocked
  dsimp only
  rw [chk_true (inb_nat hi),scanK st,findSome_if,any_ix (p:=fun id=>!decide (idxOf ts id ∈ out))]
  have e:((ix ts (i:Int)).Inures.any fun id=>!decide (idxOf ts id ∈ out)) = !((ix ts (i:Int)).Inures.all fun id=>decide (idxOf ts id ∈ out)):=by rw [List.not_all_eq_any_not]
  rw [e]
  cases (ix ts (i:Int)).Inures.all fun id=>decide (idxOf ts id ∈ out) <;> rfl
def cmpI (a b:Int):Int:=if a < b then -1 else if b < a then 1 else 0
theorem compare_eq (a b:Int):cmp_Compare_int a b = some (cmpI a b):=by
  unfold cmp_Compare_int cmp_isNaN_int cmpI
  simp only [Option.bind_some,decide_true,Bool.not_true,Bool.false_eq_true,if_false,decide_eq_true_eq]
  split
  · rfl
  · split <;> rfl
theorem or_eq (a b:Int):cmp_Or_int [a,b] = some (if a ≠ 0 then a else b):=by
  have st:=loop_scan (step:=cmp_Or_int_l8 [a,b]) (n:=2) (fun k=>if ix [a,b] (k:Int) ≠ 0 then some (ix [a,b] (k:Int)) else none) (fun k hk=>by
    unfold cmp_Or_int_l8
    rw [if_pos (by simp; omega),chk_true (inb_nat (by simpa using hk)),w64_succ (by omega)]
    by_cases c:ix [a,b] (k:Int) = 0 <;> simp [c]) (by unfold cmp_Or_int_l8; rw [if_neg (by simp)])
  unfold cmp_Or_int
  rw [scanK st]
  have e:List.range 2 = [0,1]:=rfl
  rw [e]
  have e0:ix [a,b] ((0:Nat):Int) = a:=rfl
  have e1:ix [a,b] ((1:Nat):Int) = b:=rfl
  simp only [List.findSome?_cons,e0,e1,List.findSome?_nil]
  by_cases ha:a = 0 <;> by_cases hb:b = 0 <;> simp [ha,hb]
def blk (ts:List GTreaty) (out:List Int) (i:Nat):Int:=if ((ix ts (i:Int)).Inures.all fun id=>decide (idxOf ts id ∈ out)) = true then 0 else 1
def Lex (ts:List GTreaty) (out:List Int) (a b:Nat):Prop:=blk ts out a < blk ts out b ∨ (blk ts out a = blk ts out b ∧ a ≤ b)
theorem comp_eq {ts:List GTreaty} (hl:ts.length ≤ 1000000) (ht:TsLen ts) (hk:Known ts) {come:List Bool} {out:List Int} (hc:come.length = ts.length) (hco:∀ k:Nat,k < ts.length → ix come (k:Int) = decide ((k:Int) ∈ out)) {i j:Nat} (hi:i < ts.length) (hj:j < ts.length) :
    ∃ r,inuring_queue_compare (Gqueue.mk ts come) (i:Int) (j:Int) = some r ∧ (r < 0 ↔ ¬ Lex ts out j i):=by
  unfold inuring_queue_compare
  rw [blocked_eq hl ht hk hc hco hi,blocked_eq hl ht hk hc hco hj,Option.bind_some,Option.bind_some,compare_eq,compare_eq,Option.bind_some,Option.bind_some,or_eq]
  refine ⟨_,rfl,?_⟩
  show (if cmpI (blk ts out i) (blk ts out j) ≠ 0 then cmpI (blk ts out i) (blk ts out j) else cmpI (i:Int) (j:Int)) < 0 ↔ _
  unfold Lex cmpI
  generalize blk ts out i = x
  generalize blk ts out j = y
  by_cases h1:x < y
  · rw [if_pos h1,if_pos (by decide)]
    exact ⟨fun _=>by omega,fun _=>by decide⟩
  · rw [if_neg h1]
    by_cases h2:y < x
    · rw [if_pos h2,if_pos (by decide)]
      exact ⟨fun h=>absurd h (by decide),fun h=>absurd (.inl h2) h⟩
    · rw [if_neg h2,if_neg (by decide)]
      by_cases h3:(i:Int) < (j:Int)
      · rw [if_pos h3]
        exact ⟨fun _=>by omega,fun _=>by decide⟩
      · rw [if_neg h3]
        refine ⟨fun h=>?_,fun h=>absurd (.inr ⟨by omega,by omega⟩) h⟩
        split at h <;> exact absurd h (by decide)
theorem Lex.refl {ts:List GTreaty} {out:List Int} {a:Nat}:Lex ts out a a:=.inr ⟨rfl,Nat.le_refl _⟩
theorem Lex.trans {ts:List GTreaty} {out:List Int} {a b c:Nat} (h:Lex ts out a b) (h':Lex ts out b c):Lex ts out a c:=by unfold Lex at *; omega
theorem Lex.total {ts:List GTreaty} {out:List Int} {a b:Nat} (h:¬ Lex ts out a b):Lex ts out b a:=by unfold Lex at *; omega
theorem min_eq {ts:List GTreaty} (hl:ts.length ≤ 1000000) (ht:TsLen ts) (hk:Known ts) {come:List Bool} {out:List Int} (hc:come.length = ts.length) (hco:∀ k:Nat,k < ts.length → ix come (k:Int) = decide ((k:Int) ∈ out)) {w:List Int} (hw:∀ x ∈ w,∃ a:Nat,a < ts.length ∧ x = (a:Int)) (h0:w ≠ []) (hwl:w.length ≤ 1000000) :
    ∃ m:Nat,slices_MinFunc_s_int_int_inuring_queue_compare w (Gqueue.mk ts come) = some (m:Int) ∧ (m:Int) ∈ w ∧ ∀ a:Nat,(a:Int) ∈ w → Lex ts out m a:=by
  have hpos:0 < w.length:=List.length_pos_iff.2 h0
  obtain ⟨o,h1,h2⟩:=loopV_inv (step:=slices_MinFunc_s_int_int_inuring_queue_compare_l13 w (Gqueue.mk ts come))
    (fun s=>∃ (m q:Nat),s = ((m:Int),(q:Int)) ∧ q ≤ w.length ∧ (m:Int) ∈ w ∧ ∀ a:Nat,(a:Int) ∈ w.take q → Lex ts out m a)
    (fun s=>w.length - s.2.toNat) (fun o=>∃ m:Nat,o = (m:Int) ∧ (m:Int) ∈ w ∧ ∀ a:Nat,(a:Int) ∈ w → Lex ts out m a)
    (by
      rintro ⟨_,_⟩ ⟨m,q,he,hq,hm,hle⟩
      cases he
      unfold slices_MinFunc_s_int_int_inuring_queue_compare_l13
      dsimp only
      by_cases hcq:q < w.length
      · obtain ⟨a,ha,hax⟩:=hw _ (List.getElem_mem hcq)
        obtain ⟨m',hm',hmx⟩:=hw _ hm
        have:m' = m:=by omega
        subst this
        obtain ⟨r,e1,e2⟩:=comp_eq hl ht hk hc hco ha hm'
        rw [if_pos (by simpa using hcq),chk_true (inb_nat hcq),ix_nat hcq,hax,e1,Option.bind_some,w64_succ (by omega)]
        have hmem:∀ b:Nat,(b:Int) ∈ w.take (q + 1) → (b:Int) ∈ w.take q ∨ b = a:=by
          intro b hb
          rw [List.take_succ_eq_append_getElem hcq,List.mem_append,List.mem_singleton,hax] at hb
          rcases hb with hb | hb
          · exact .inl hb
          · exact .inr (by omega)
        by_cases hr:r < 0
        · rw [if_pos (by simpa using hr)]
          have hlx:=(e2.1 hr)
          refine ⟨_,rfl,⟨a,q + 1,rfl,by omega,hax ▸ List.getElem_mem hcq,fun b hb=>?_⟩,by dsimp only; omega⟩
          rcases hmem b hb with hb | rfl
          · exact (Lex.total hlx).trans (hle b hb)
          · exact Lex.refl
        · rw [if_neg (by simpa using hr)]
          have hlx:Lex ts out m' a:=Classical.byContradiction fun h=>hr (e2.2 h)
          refine ⟨_,rfl,⟨m',q + 1,rfl,by omega,hm,fun b hb=>?_⟩,by dsimp only; omega⟩
          rcases hmem b hb with hb | rfl
          · exact hle b hb
          · exact hlx
      · rw [if_neg (by simpa using hcq)]
        refine ⟨_,rfl,m,rfl,hm,fun a ha=>hle a ?_⟩
        rwa [List.take_of_length_le (by omega)]) (ix w 0,1) (by
      obtain ⟨a,ha,hax⟩:=hw _ (List.getElem_mem hpos)
      have e0:ix w 0 = (a:Int):=by have:=ix_nat (xs:=w) hpos; rw [← hax,← this]; rfl
      refine ⟨a,1,by rw [e0]; rfl,by omega,hax ▸ List.getElem_mem hpos,fun b hb=>?_⟩
      rw [show 1 = 0 + 1 from rfl,List.take_succ_eq_append_getElem hpos] at hb
      simp at hb
      have:b = a:=by omega
      subst this
      exact Lex.refl)
  obtain ⟨m,rfl,h3,h4⟩:=h2
  refine ⟨m,?_,h3,h4⟩
  unfold slices_MinFunc_s_int_int_inuring_queue_compare
  rw [if_neg (by simp; omega),Option.bind_some,chk_true (inb_of (by omega) (by omega)),h1]
  rfl
end Go.Proofs.Ytfekcgnnhjmeiaa.Pl
namespace Go.Proofs.Ytfekcgnnhjmeiaa.Pl
open Go
theorem indexC_eq {w:List Int} {x:Int} (hl:w.length ≤ 1000000):(∃ k:Nat,∃ h:k < w.length,slices_IndexFunc_s_int_int_inuring_Order_c1 w x = some (k:Int) ∧ w[k] = x ∧ ∀ p (hp:p < k),w[p]'(by omega) ≠ x) ∨ (slices_IndexFunc_s_int_int_inuring_Order_c1 w x = some (-1) ∧ x ∉ w):=by
  obtain ⟨o,h1,h2⟩:=loopV_inv (step:=slices_IndexFunc_s_int_int_inuring_Order_c1_l6 w x)
    (fun s=>∃ k:Nat,s = (k:Int) ∧ k ≤ w.length ∧ ∀ p (hp:p < k) (hw:p < w.length),w[p] ≠ x) (fun s=>w.length - s.toNat)
    (fun o=>(∃ k:Nat,∃ h:k < w.length,o = .inl (k:Int) ∧ w[k] = x ∧ ∀ p (hp:p < k),w[p]'(by omega) ≠ x) ∨ (o = .inr () ∧ x ∉ w))
    (by
      rintro _ ⟨k,rfl,hk,hp⟩
      unfold slices_IndexFunc_s_int_int_inuring_Order_c1_l6 inuring_Order_c1
      by_cases hc:k < w.length
      · rw [if_pos (by simpa using hc),chk_true (inb_nat hc),Option.bind_some,ix_nat hc,w64_succ (by omega)]
        by_cases e:w[k] = x
        · rw [if_pos (by simpa using e)]
          exact ⟨_,rfl,.inl ⟨k,hc,rfl,e,fun p hp1=>hp p hp1 (by omega)⟩⟩
        · rw [if_neg (by simpa using e)]
          refine ⟨_,rfl,⟨k + 1,rfl,by omega,fun p hp1 hp2=>?_⟩,by omega⟩
          by_cases e2:p = k
          · subst e2; exact e
          · exact hp p (by omega) hp2
      · rw [if_neg (by simpa using hc)]
        refine ⟨_,rfl,.inr ⟨rfl,fun hx=>?_⟩⟩
        obtain ⟨p,hp1,hp2⟩:=List.getElem_of_mem hx
        exact hp p (by omega) hp1 hp2) 0 ⟨0,rfl,by omega,fun p hp=>by omega⟩
  unfold slices_IndexFunc_s_int_int_inuring_Order_c1
  rw [h1]
  rcases h2 with ⟨k,h,rfl,h3⟩ | ⟨rfl,h3⟩
  · exact .inl ⟨k,h,rfl,h3⟩
  · exact .inr ⟨rfl,h3⟩
theorem delete_eq {w:List Int} {x:Int} (hl:w.length ≤ 1000000):slices_DeleteFunc_s_int_int_o_inuring_Order_c1 w x = some (w.filter fun y=>!decide (y = x)):=by
  unfold slices_DeleteFunc_s_int_int_o_inuring_Order_c1
  rcases indexC_eq (w:=w) (x:=x) hl with ⟨r,hr,h1,h2,h3⟩ | ⟨h1,h2⟩
  · rw [h1,Option.bind_some,if_neg (by simp <;> omega),w64_succ (by omega)]
    obtain ⟨o,e1,e2⟩:=loopV_inv (step:=slices_DeleteFunc_s_int_int_o_inuring_Order_c1_l14 w x)
      (fun s=>∃ i j:Nat,s.2 = ((i:Int),(j:Int)) ∧ i < j ∧ j ≤ w.length ∧ s.1.length = w.length ∧ s.1.take i = (w.take j).filter (fun y=>!decide (y = x)) ∧ ∀ k,j ≤ k → s.1[k]? = w[k]?)
      (fun s=>w.length - s.2.2.toNat)
      (fun o=>∃ i:Nat,o.2 = (i:Int) ∧ i ≤ w.length ∧ o.1.length = w.length ∧ o.1.take i = w.filter fun y=>!decide (y = x))
      (by
        rintro ⟨l,_,_⟩ ⟨i,j,he,hij,hj,hlen,htk,hdr⟩
        cases he
        dsimp only at hlen htk hdr
        unfold slices_DeleteFunc_s_int_int_o_inuring_Order_c1_l14 inuring_Order_c1
        dsimp only
        by_cases hc:j < w.length
        · have hjl:j < l.length:=by omega
          have hx:l[j] = w[j]:=by
            have:=hdr j (Nat.le_refl _)
            rw [List.getElem?_eq_getElem hjl,List.getElem?_eq_getElem hc] at this
            exact Option.some.inj this
          rw [if_pos (by simpa using hc),chk_true (inb_nat hjl),Option.bind_some,ix_nat hjl,hx,w64_succ (k:=j) (by omega)]
          have hf:(w.take (j + 1)).filter (fun y=>!decide (y = x)) = (w.take j).filter (fun y=>!decide (y = x)) ++ (if w[j] = x then [] else [w[j]]):=by
            rw [List.take_succ_eq_append_getElem hc,List.filter_append]
            by_cases e:w[j] = x <;> simp [e]
          by_cases e:w[j] = x
          · rw [if_neg (by simpa using e),Option.bind_some]
            refine ⟨_,rfl,⟨i,j + 1,rfl,by omega,by omega,hlen,?_,fun k hk=>hdr k (by omega)⟩,by dsimp only; omega⟩
            dsimp only
            rw [hf,if_pos e,List.append_nil,htk]
          · rw [if_pos (by simpa using e),chk_true (inb_nat (by omega)),Option.bind_some,w64_succ (k:=i) (by omega)]
            refine ⟨_,rfl,⟨i + 1,j + 1,rfl,by omega,by omega,by dsimp only; rw [upd_length]; exact hlen,?_,fun k hk=>?_⟩,by dsimp only; omega⟩
            · dsimp only
              have hil:i < (upd l (i:Int) w[j]).length:=by rw [upd_length]; omega
              rw [List.take_succ_eq_append_getElem hil,hf,if_neg e,← htk]
              unfold upd
              simp only [Int.toNat_natCast,List.getElem_set_self]
              congr 1
              apply List.ext_getElem?
              intro k
              rw [List.getElem?_take,List.getElem?_take]
              split
              · rw [List.getElem?_set_ne (by omega)]
              · rfl
            · dsimp only
              unfold upd
              rw [Int.toNat_natCast,List.getElem?_set,if_neg (by omega)]
              exact hdr k (by omega)
        · rw [if_neg (by simpa using hc)]
          refine ⟨_,rfl,i,rfl,by omega,hlen,?_⟩
          dsimp only
          rw [htk,List.take_of_length_le (by omega)]) (w,(r:Int),((r + 1:Nat):Int)) ⟨r,r + 1,rfl,by omega,by omega,rfl,by
        rw [List.take_succ_eq_append_getElem hr,List.filter_append,h2]
        have:(w.take r).filter (fun y=>!decide (y = x)) = w.take r:=by
          rw [List.filter_eq_self]
          intro y hy
          obtain ⟨p,hp,rfl⟩:=List.getElem_of_mem hy
          rw [List.length_take] at hp
          rw [List.getElem_take]
          simpa using h3 p (by omega)
        rw [this]
        simp,fun _ _=>rfl⟩
    obtain ⟨l,z⟩:=o
    obtain ⟨i,hz,hi,hlen,htk⟩:=e2
    dsimp only at hz hlen htk
    subst hz
    rw [e1,Option.bind_some]
    dsimp only
    rw [chk_true (by simp),chk_true (by simp; omega),Int.toNat_natCast,chk_true (by simp; omega),List.take_append_of_le_length (by simp; omega),List.take_take,Nat.min_self,htk]
  · rw [h1,Option.bind_some,if_pos (by decide)]
    congr 1
    symm
    rw [List.filter_eq_self]
    intro y hy
    have:y ≠ x:=fun e=>h2 (e ▸ hy)
    simpa using this
def idxs (n:Nat):List Int:=(List.range n).map fun k:Nat=>(k:Int)
theorem mem_idxs {n k:Nat}:(k:Int) ∈ idxs n ↔ k < n:=by
  unfold idxs
  rw [List.mem_map]
  constructor
  · rintro ⟨a,h1,h2⟩
    have:=List.mem_range.1 h1
    omega
  · intro h
    exact ⟨k,List.mem_range.2 h,rfl⟩
theorem idxs_mem {n:Nat} {x:Int} (h:x ∈ idxs n):∃ a:Nat,a < n ∧ x = (a:Int):=by
  unfold idxs at h
  obtain ⟨a,h1,h2⟩:=List.mem_map.1 h
  exact ⟨a,List.mem_range.1 h1,h2.symm⟩
theorem l20_eq {ts:List GTreaty} (hl:ts.length ≤ 1000000):loopV (inuring_Order_l20 ts) (List.replicate ts.length 0,0) = some (idxs ts.length):=by
  obtain ⟨o,h1,h2,h3⟩:=loopV_inv (step:=inuring_Order_l20 ts) (fun s=>∃ q:Nat,q ≤ ts.length ∧ s.2 = (q:Int) ∧ s.1.length = ts.length ∧ ∀ k:Nat,k < q → ix s.1 (k:Int) = (k:Int)) (fun s=>ts.length - s.2.toNat) (fun o=>o.length = ts.length ∧ ∀ k:Nat,k < ts.length → ix o (k:Int) = (k:Int))
    (by
      rintro ⟨s,_⟩ ⟨q,hq,he,hs,hk⟩
      dsimp only at he hs hk
      subst he
      unfold inuring_Order_l20
      dsimp only
      by_cases hc:q < ts.length
      · rw [if_pos (by simpa using hc),chk_true (inb_nat (by omega)),w64_succ (by omega)]
        refine ⟨_,rfl,⟨q + 1,by omega,rfl,by dsimp only; rw [upd_length]; exact hs,fun k hk1=>?_⟩,by dsimp only; omega⟩
        dsimp only
        rw [ix_upd (by omega)]
        by_cases e:k = q
        · rw [if_pos e,e]
        · rw [if_neg e,hk k (by omega)]
      · rw [if_neg (by simpa using hc)]
        exact ⟨_,rfl,hs,fun k hk1=>hk k (by omega)⟩) (List.replicate ts.length 0,0) ⟨0,by omega,rfl,by simp,fun k h=>by omega⟩
  rw [h1]
  congr 1
  apply ext_ix
  · rw [h2]; simp [idxs]
  · intro k hk
    rw [h3 k (by omega),ix_nat (by simp [idxs]; omega)]
    simp [idxs]
structure QOk (ts:List GTreaty) (s:List Bool × List Int × List Int):Prop where
  clen:s.1.length = ts.length
  come:∀ k:Nat,k < ts.length → ix s.1 (k:Int) = decide ((k:Int) ∈ s.2.2)
  wait:s.2.1 = (idxs ts.length).filter fun x=>!decide (x ∈ s.2.2)
  few:s.2.2.length + s.2.1.length = ts.length
theorem wait_mem {ts:List GTreaty} {s} (h:QOk ts s) {k:Nat}:(k:Int) ∈ s.2.1 ↔ k < ts.length ∧ (k:Int) ∉ s.2.2:=by
  rw [h.wait,List.mem_filter,mem_idxs]
  simp
theorem filter_len {w:List Int} {x:Int} (hn:w.Nodup) (hx:x ∈ w):(w.filter fun y=>!decide (y = x)).length + 1 = w.length:=by
  induction w with
  | nil=>cases hx
  | cons a w ih =>
    rw [List.nodup_cons] at hn
    by_cases e:a = x
    · subst e
      have:w.filter (fun y=>!decide (y = a)) = w:=by
        rw [List.filter_eq_self]
        intro y hy
        have:y ≠ a:=fun e=>hn.1 (e ▸ hy)
        simpa using this
      simp [this]
    · rcases List.mem_cons.1 hx with rfl | hx
      · exact absurd rfl e
      · have:=ih hn.2 hx
        simp only [List.filter_cons,e,decide_false,Bool.not_false,if_true,List.length_cons]
        omega
theorem idxs_nodup (n:Nat):(idxs n).Nodup:=by
  unfold idxs
  rw [List.nodup_iff_pairwise_ne,List.pairwise_map]
  exact List.nodup_range.imp fun h e=>h (by omega)
theorem l36_step {ts:List GTreaty} (hl:ts.length ≤ 1000000) (ht:TsLen ts) (hk:Known ts) {come:List Bool} {w out:List Int} (h:QOk ts (come,w,out)) {i:Nat} (hi:Least ts out i) :
    inuring_Order_l36 ts (come,w,out) = some (.inl (upd come (i:Int) true,w.filter (fun y=>!decide (y = (i:Int))),out ++ [(i:Int)])) ∧ QOk ts (upd come (i:Int) true,w.filter (fun y=>!decide (y = (i:Int))),out ++ [(i:Int)]):=by
  obtain ⟨h1,h2,h3⟩:=hi
  have hno:(i:Int) ∉ out:=by
    unfold readyB at h2
    rw [Bool.and_eq_true] at h2
    simpa using h2.1
  have hiw:(i:Int) ∈ w:=(wait_mem h).2 ⟨h1,hno⟩
  have hfew:=h.few
  have hcl:=h.clen
  dsimp only at hfew hcl
  obtain ⟨m,e1,e2,e3⟩:=min_eq (out:=out) hl ht hk h.clen h.come (w:=w) (fun x hx=>by
    have hx':x ∈ idxs ts.length:=by
      have hw:=h.wait
      dsimp only at hw
      rw [hw,List.mem_filter] at hx
      exact hx.1
    exact idxs_mem hx') (List.ne_nil_of_mem hiw) (by omega)
  have hmi:m = i:=by
    have hml:=(wait_mem h).1 e2
    have hlx:=e3 i hiw
    have hbi:blk ts out i = 0:=by
      unfold blk
      unfold readyB at h2
      rw [Bool.and_eq_true] at h2
      rw [if_pos h2.2]
    have hbm:blk ts out m = 0:=by
      have h01:blk ts out m = 0 ∨ blk ts out m = 1:=by unfold blk; split <;> simp
      unfold Lex at hlx
      omega
    have hrm:readyB ts out m = true:=by
      unfold readyB
      rw [decide_eq_false hml.2,Bool.not_false,Bool.true_and]
      unfold blk at hbm
      split at hbm
      · assumption
      · cases hbm
    have hle:m ≤ i:=by unfold Lex at hlx; omega
    by_cases hlt:m < i
    · rw [h3 m hlt] at hrm; cases hrm
    · omega
  subst hmi
  constructor
  · unfold inuring_Order_l36
    dsimp only
    have hpos:0 < w.length:=List.length_pos_of_mem e2
    rw [if_pos (by simp; omega),e1,Option.bind_some,chk_true (inb_nat (by omega)),chk_true (room_of (by simp; omega)),delete_eq (by omega),Option.bind_some]
  · refine ⟨by dsimp only; rw [upd_length]; exact hcl,fun k hk1=>?_,?_,?_⟩
    · dsimp only
      rw [ix_upd (by omega)]
      have hc:=h.come k hk1
      dsimp only at hc
      by_cases e:k = m
      · subst e; simp
      · rw [if_neg e,hc]
        have:¬ (k:Int) = (m:Int):=by omega
        simp [this]
    · dsimp only
      have hw:=h.wait
      dsimp only at hw
      rw [hw,List.filter_filter]
      apply List.filter_congr
      intro x _
      simp only [List.mem_append,List.mem_singleton]
      by_cases c1:x ∈ out <;> by_cases c2:x = (m:Int) <;> simp [c1,c2]
    · dsimp only
      have hn:w.Nodup:=by have hw:=h.wait; dsimp only at hw; rw [hw]; exact (idxs_nodup _).filter _
      have:=filter_len hn e2
      simp only [List.length_append,List.length_singleton]
      omega
theorem q_start (ts:List GTreaty):QOk ts (List.replicate ts.length false,idxs ts.length,[]):=by
  refine ⟨by simp,fun k hk=>?_,?_,by simp [idxs]⟩
  · dsimp only
    rw [ix_nat (by simpa using hk)]
    simp
  · dsimp only
    symm
    rw [List.filter_eq_self]
    simp
theorem both {ts:List GTreaty} (hl:ts.length ≤ 1000000) (ht:TsLen ts) (hk:Known ts) (hs:∀ k,k < ts.length → Safe ts k):∀ (n:Nat) (come:List Bool) (w out:List Int),w.length = n → QOk ts (come,w,out) → ∃ r,loopV (inuring_Order_l36 ts) (come,w,out) = some r ∧ loopV (treatyref25_Order_l14 ts) out = some r ∧ r.length = ts.length:=by
  intro n
  induction n with
  | zero =>
    intro come w out hn h
    have hfew:=h.few
    dsimp only at hfew
    refine ⟨out,loopV_stop ?_,loopV_stop ?_,by omega⟩
    · unfold inuring_Order_l36
      rw [if_neg (by dsimp only; rw [decide_eq_true_eq]; omega)]
    · unfold treatyref25_Order_l14
      rw [if_neg (by simp; omega)]
  | succ n ih =>
    intro come w out hn h
    have hfew:=h.few
    dsimp only at hfew
    obtain ⟨x,hx⟩:=List.exists_mem_of_length_pos (l:=w) (by omega)
    have hx2:∃ k:Nat,k < ts.length ∧ (k:Int) ∉ out:=by
      have hw:=h.wait
      dsimp only at hw
      have hx':=hx
      rw [hw,List.mem_filter] at hx'
      obtain ⟨k,_,rfl⟩:=idxs_mem hx'.1
      exact ⟨k,(wait_mem h).1 hx⟩
    obtain ⟨k,hk1,hk2⟩:=hx2
    obtain ⟨i,hi1,hi2⟩:=ready_ex hk (hs k hk1) hk1 hk2
    obtain ⟨i,hi⟩:=least_of hi1 hi2
    obtain ⟨s1,s2⟩:=l36_step hl ht hk h hi
    have hfew2:=s2.few
    simp only [List.length_append,List.length_singleton] at hfew2
    obtain ⟨r,r1,r2,r3⟩:=ih _ _ _ (by omega) s2
    refine ⟨r,(loopV_next s1).trans r1,(loopV_next ?_).trans r2,r3⟩
    unfold treatyref25_Order_l14
    rw [if_pos (by simp; omega),l24o_eq hl ht (by omega) hi]
    rfl
theorem order_same {ts:List GTreaty} (hl:ts.length ≤ 1000000) (ht:TsLen ts):∃ r e,inuring_Order ts = some (r,e) ∧ treatyref25_Order ts = some (r,e) ∧ r.length ≤ 1000000:=by
  unfold inuring_Order treatyref25_Order
  rw [validateAll hl ht,treatiesAll hl ht,Option.bind_some,Option.bind_some]
  by_cases c:vOf ts = 0
  · have ok:=vOf_zero c
    rw [if_neg (by simp [c]),if_neg (by simp [c]),chk_true (by simp),chk_true (by simp; omega),Int.toNat_natCast,l20_eq hl,Option.bind_some]
    obtain ⟨r,h1,h2,h3⟩:=both hl ht (st2_known ok.s2) (fun k hk=>safe_all ht ok hk) _ _ _ _ rfl (q_start ts)
    refine ⟨r,0,?_,?_,by omega⟩
    · have e:List.replicate (0:Int).toNat (0:Int) = []:=rfl
      rw [e,h1]
      rfl
    · rw [h2]
      rfl
  · rw [if_pos (by simp [c]),if_pos (by simp [c])]
    exact ⟨[],vOf ts,rfl,rfl,by simp⟩
def Below (ts:List GTreaty):Prop:=∀ i:Nat,i < ts.length → ∀ id ∈ (ix ts (i:Int)).Inures,∃ j:Nat,j < i ∧ idxOf ts id = (j:Int)
theorem below_known {ts:List GTreaty} (h:Below ts):Known ts:=fun i hi id hid=>by obtain ⟨j,_,h2⟩:=h i hi id hid; omega
theorem below_edge {ts:List GTreaty} (h:Below ts) {i j:Nat} (he:Edge ts i j):j < i:=by
  obtain ⟨h1,_,id,h2,h3⟩:=he
  obtain ⟨k,hk,h4⟩:=h i h1 id h2
  omega
theorem below_reach {ts:List GTreaty} (h:Below ts) {i j:Nat} (he:Relation.TransGen (Edge ts) i j):j < i:=by
  induction he with
  | single he=>exact below_edge h he
  | tail _ he ih=>have:=below_edge h he; omega
theorem below_acyclic {ts:List GTreaty} (h:Below ts):¬ Cyc ts:=fun ⟨_,_,hc⟩=>Nat.lt_irrefl _ (below_reach h hc)
theorem order_below {ts:List GTreaty} (hl:ts.length ≤ 1000000) (ht:TsLen ts) (hb:Below ts) (hv:vOf ts = 0):inuring_Order ts = some (idxs ts.length,0):=by
  have hkn:=below_known hb
  have run:∀ (n q:Nat) (come:List Bool) (w:List Int),n + q = ts.length → QOk ts (come,w,idxs q) → loopV (inuring_Order_l36 ts) (come,w,idxs q) = some (idxs ts.length):=by
    intro n
    induction n with
    | zero =>
      intro q come w hn h
      have hfew:=h.few
      simp only [idxs,List.length_map,List.length_range] at hfew
      have:q = ts.length:=by omega
      subst this
      apply loopV_stop
      unfold inuring_Order_l36
      rw [if_neg (by dsimp only; rw [decide_eq_true_eq]; omega)]
    | succ n ih =>
      intro q come w hn h
      have hq:q < ts.length:=by omega
      have hle:Least ts (idxs q) q:=by
        refine ⟨hq,?_,fun j hj=>?_⟩
        · unfold readyB
          rw [decide_eq_false (by rw [mem_idxs]; omega),Bool.not_false,Bool.true_and,List.all_eq_true]
          intro id hid
          obtain ⟨j,hj,he⟩:=hb q hq id hid
          rw [he,decide_eq_true (mem_idxs.2 hj)]
        · unfold readyB
          rw [decide_eq_true (mem_idxs.2 hj)]
          rfl
      obtain ⟨s1,s2⟩:=l36_step hl ht hkn h hle
      have e:idxs q ++ [(q:Int)] = idxs (q + 1):=by unfold idxs; rw [List.range_succ,List.map_append]; rfl
      rw [e] at s1 s2
      exact (loopV_next s1).trans (ih (q + 1) _ _ (by omega) s2)
  unfold inuring_Order
  rw [validateAll hl ht,Option.bind_some,if_neg (by simp [hv]),chk_true (by simp),chk_true (by simp; omega),Int.toNat_natCast,l20_eq hl,Option.bind_some]
  have e:List.replicate (0:Int).toNat (0:Int) = idxs 0:=rfl
  rw [e,run ts.length 0 _ _ (by omega) (q_start ts)]
  rfl
end Go.Proofs.Ytfekcgnnhjmeiaa.Pl
namespace Go.Proofs.Ytfekcgnnhjmeiaa.Pl
open Go
def Ok {α:Type} (x:Option α) (Q:α → Prop):Prop:=∃ a,x = some a ∧ Q a
theorem Ok.some {α:Type} {a:α} {Q:α → Prop} (h:Q a):Ok (some a) Q:=⟨a,rfl,h⟩
theorem Ok.bind {α β:Type} {x:Option α} {f:α → Option β} {P:α → Prop} {Q:β → Prop} (h:Ok x P) (k:∀ a,P a → Ok (f a) Q):Ok (x.bind f) Q:=by
  obtain ⟨a,rfl,ha⟩:=h
  exact k a ha
theorem Ok.mono {α:Type} {x:Option α} {P Q:α → Prop} (h:Ok x P) (k:∀ a,P a → Q a):Ok x Q:=by
  obtain ⟨a,e,ha⟩:=h
  exact ⟨a,e,k a ha⟩
theorem Ok.chk {α:Type} {b:Bool} {x:Option α} {Q:α → Prop} (hb:b = true) (h:Ok x Q):Ok (chk b x) Q:=by rw [chk_of hb]; exact h
theorem Ok.ite {α:Type} {c:Prop} [Decidable c] {x y:Option α} {Q:α → Prop} (h1:c → Ok x Q) (h2:¬ c → Ok y Q):Ok (if c then x else y) Q:=by
  by_cases hc:c
  · rw [if_pos hc]; exact h1 hc
  · rw [if_neg hc]; exact h2 hc
theorem Ok.loop {S O:Type} {step:S → Option (S ⊕ O)} (I:S → Prop) (μ:S → Nat) {Q:O → Prop} {s:S} (hs:I s)
    (h:∀ s,I s → Ok (step s) fun q=>match q with | .inl s'=>I s' ∧ μ s' < μ s | .inr o=>Q o):Ok (loopV step s) Q:=loopV_inv I μ Q h s hs
theorem nextQ {d:GDeck} (h:DOk d) {n:Int} (h1:1 ≤ n) (h2:n ≤ 4611686018427387904):Ok (treatymade_Deck_Next d n) fun r=>0 ≤ r.1 ∧ r.1 < n ∧ DOk r.2:=by
  obtain ⟨v,d',e,a,b,k⟩:=next_ok h h1 h2
  exact ⟨_,e,a,b,k⟩
theorem smallQ {d:GDeck} (h:DOk d):Ok (treatymade2_Small d) fun r=>0 ≤ r.1 ∧ r.1 < 268435456 ∧ DOk r.2:=by
  unfold treatymade2_Small
  refine (nextQ h (by omega) (by omega)).bind fun r hr=>?_
  refine Ok.ite (fun _=>?_) fun _=>?_
  · refine (nextQ hr.2.2 (n:=4) (by omega) (by omega)).bind fun q hq=>.some ⟨hq.1,by omega,hq.2.2⟩
  · refine (Ok.ite (Q:=fun _=>True) (fun _=>.some trivial) (fun _=>.some trivial)).bind fun b _=>?_
    refine Ok.ite (fun _=>?_) fun _=>?_
    · refine (nextQ hr.2.2 (n:=1000) (by omega) (by omega)).bind fun q hq=>.some ⟨hq.1,by omega,hq.2.2⟩
    · refine (nextQ hr.2.2 (n:=268435456) (by omega) (by omega)).bind fun q hq=>.some ⟨hq.1,by omega,hq.2.2⟩
theorem partsQ {d:GDeck} (h:DOk d):Ok (treatymade_Deck_Parts d) fun r=>DOk r.2 ∧ r.1.length ≤ 4 ∧ Asc none r.1 ∧ (shs r.1).sum ≤ 1000000:=by
  obtain ⟨p,d',e,a,b⟩:=partsMade_ok h
  exact ⟨_,e,a,b⟩
theorem treatyQ {d:GDeck} (h:DOk d) {id kind:Int} (hk:1 ≤ kind ∧ kind ≤ 6):Ok (treatymade_Deck_Treaty d id kind) fun r=>DOk r.2 ∧ TBase r.1 id kind ∧ (kind ≤ 3 → PropF r.1) ∧ (4 ≤ kind → ExF r.1):=by
  obtain ⟨p,d',e,a,b⟩:=treatyA_ok h (id:=id) hk
  exact ⟨_,e,a,b⟩
structure TOk (t:GTreaty):Prop where
  id:1 ≤ t.ID ∧ t.ID ≤ 1048576
  kind:1 ≤ t.Kind ∧ t.Kind ≤ 6
  per:0 ≤ t.Period.From ∧ t.Period.From < t.Period.To ∧ t.Period.To ≤ 876600
  perils:t.Perils.length ≤ 3 ∧ AscI 0 15 none t.Perils
  areas:t.Areas.length ≤ 3 ∧ AscI 0 15 none t.Areas
  prem:0 ≤ t.Premium ∧ t.Premium ≤ 1073741824
  inu:t.Inures.length ≤ 7 ∧ AscI 1 1048576 none t.Inures ∧ ∀ x ∈ t.Inures,x < t.ID
  rein:t.Reinstatements.length ≤ 3 ∧ ∀ x ∈ t.Reinstatements,0 ≤ x ∧ x ≤ 2000000
  parts:t.Parts.length ≤ 4 ∧ Asc none t.Parts ∧ (shs t.Parts).sum ≤ 1000000
  prop:t.Kind ≤ 3 → PropF t
  ex:4 ≤ t.Kind → ExF t
theorem TOk.len {t:GTreaty} (h:TOk t):TLen t:=⟨by have:=h.perils.1; omega,by have:=h.areas.1; omega,by have:=h.inu.1; omega⟩
theorem TOk.valid {t:GTreaty} (h:TOk t):validE t = 0:=by
  have hf:fieldsE t = 0:=by
    by_cases hk:t.Kind ≤ 3
    · exact propF_fields (h.prop hk) h.prem
    · exact exF_fields (h.ex (by omega)) h.prem
  have hr:=h.rein
  unfold validE
  rw [if_neg (not_not_intro h.id),if_neg (not_not_intro h.kind),if_neg (not_not_intro h.per),if_neg (not_not_intro (scanA_ok h.perils.2)),if_neg (not_not_intro (scanA_ok h.areas.2)),if_neg (not_not_intro hf),if_neg (by omega),if_neg,if_neg (by have:=h.inu.1; omega),if_neg (not_not_intro (scanA_ok h.inu.2.1)),if_neg (fun hc=>by have:=h.inu.2.2 _ hc; omega),POk.parts ⟨by have:=h.parts.1; omega,h.parts.2.1⟩,if_neg (by have:=h.parts.2.2; omega)]
  intro hc
  obtain ⟨k,hk1,hk2⟩:=List.any_eq_true.1 hc
  have hk3:=List.mem_range.1 hk1
  unfold badR at hk2
  rw [ix_nat hk3] at hk2
  have:=hr.2 _ (List.getElem_mem hk3)
  simp at hk2
  omega
def Sep (a b:GTreaty):Prop:=meetS a b = true → b.ID ∈ a.Inures ∨ (towerS a b = true ∧ b.Retention + b.Limit ≤ a.Retention)
structure MOk (l:List GTreaty) (id:Int):Prop where
  ok:∀ i:Nat,i < l.length → TOk (ix l (i:Int))
  asc:∀ i j:Nat,i < j → j < l.length → (ix l (i:Int)).ID < (ix l (j:Int)).ID
  top:∀ i:Nat,i < l.length → (ix l (i:Int)).ID ≤ id
  id0:0 ≤ id ∧ id ≤ 3 * (l.length:Int)
  below:∀ i:Nat,i < l.length → ∀ x ∈ (ix l (i:Int)).Inures,∃ j:Nat,j < i ∧ (ix l (j:Int)).ID = x
  sep:∀ i j:Nat,j < i → i < l.length → Sep (ix l (i:Int)) (ix l (j:Int))
theorem MOk.nil:MOk [] 0:=⟨fun i h=>by simp at h,fun i j _ h=>by simp at h,fun i h=>by simp at h,by simp,fun i h=>by simp at h,fun i j _ h=>by simp at h⟩
theorem ix_app {α:Type} [Inhabited α] {l:List α} {t:α} {k:Nat} (h:k < l.length):ix (l ++ [t]) (k:Int) = ix l (k:Int):=by
  rw [ix_nat (by simp; omega),ix_nat h,List.getElem_append_left h]
theorem ix_last {α:Type} [Inhabited α] {l:List α} {t:α}:ix (l ++ [t]) (l.length:Int) = t:=by
  rw [ix_nat (by simp)]
  simp
theorem MOk.snoc {l:List GTreaty} {id:Int} {t:GTreaty} (h:MOk l id) (hid:id < t.ID) (h3:t.ID ≤ id + 3) (ht:TOk t) (hb:∀ x ∈ t.Inures,∃ j:Nat,j < l.length ∧ (ix l (j:Int)).ID = x) (hs:∀ j:Nat,j < l.length → Sep t (ix l (j:Int))):MOk (l ++ [t]) t.ID:=by
  have hlen:(l ++ [t]).length = l.length + 1:=by simp
  have hcase:∀ {i:Nat},i < (l ++ [t]).length → i < l.length ∨ i = l.length:=by intro i hi; omega
  have h0:=h.id0
  refine ⟨fun i hi=>?_,fun i j hij hj=>?_,fun i hi=>?_,by omega,fun i hi x hx=>?_,fun i j hij hi=>?_⟩
  · rcases hcase hi with hc | rfl
    · rw [ix_app hc]; exact h.ok i hc
    · rw [ix_last]; exact ht
  · rcases hcase hj with hc | rfl
    · rw [ix_app hc,ix_app (by omega)]; exact h.asc i j hij hc
    · rw [ix_last,ix_app hij]; have:=h.top i hij; omega
  · rcases hcase hi with hc | rfl
    · rw [ix_app hc]; have:=h.top i hc; omega
    · rw [ix_last]; omega
  · rcases hcase hi with hc | rfl
    · rw [ix_app hc] at hx
      obtain ⟨j,hj,e⟩:=h.below i hc x hx
      exact ⟨j,hj,by rw [ix_app (by omega)]; exact e⟩
    · rw [ix_last] at hx
      obtain ⟨j,hj,e⟩:=hb x hx
      exact ⟨j,hj,by rw [ix_app hj]; exact e⟩
  · rcases hcase hi with hc | rfl
    · rw [ix_app hc,ix_app (by omega)]; exact h.sep i j hij hc
    · rw [ix_last,ix_app hij]; exact hs j hij
def layer (a:GTreaty) (id ret lim ded agg:Int) (p:List GPart):GTreaty:=GTreaty.mk id a.Kind a.Period a.Perils a.Areas a.Risk a.Cession a.Line a.Lines ret lim a.Window ded agg a.Premium a.Reinstatements a.Timed a.Base a.Inures p
theorem tower_self {a:GTreaty} (hk:a.Kind = 4 ∨ a.Kind = 5) (id ret lim ded agg:Int) (p:List GPart):towerS (layer a id ret lim ded agg p) a = true:=by
  unfold towerS layer
  rcases hk with h | h <;> simp [h]
theorem MOk.layer {l:List GTreaty} {id:Int} (h:MOk l id) {n:Nat} (hn:n + 1 = l.length) (hk:(ix l (n:Int)).Kind = 4 ∨ (ix l (n:Int)).Kind = 5) {i ret lim ded agg:Int} {p:List GPart} (hi:id < i ∧ i ≤ id + 3) (hl:l.length ≤ 100)
    (hr:(ix l (n:Int)).Retention + (ix l (n:Int)).Limit ≤ ret ∧ ret ≤ 1073741824) (hlim:1 ≤ lim ∧ lim ≤ 1073741824) (hd:0 ≤ ded ∧ ded ≤ 1073741824) (ha:0 ≤ agg ∧ agg ≤ 1073741824) (hp:p.length ≤ 4 ∧ Asc none p ∧ (shs p).sum ≤ 1000000) :
    MOk (l ++ [layer (ix l (n:Int)) i ret lim ded agg p]) i:=by
  have o:=h.ok n (by omega)
  have h0:=h.id0
  have ht:=h.top n (by omega)
  obtain ⟨x1,x2,x3,x4,x5,x6,x7,x8⟩:=o.ex (by omega)
  refine h.snoc (t:=Pl.layer (ix l (n:Int)) i ret lim ded agg p) hi.1 hi.2 ⟨⟨by unfold Pl.layer; dsimp only; omega,by unfold Pl.layer; dsimp only; omega⟩,o.kind,o.per,o.perils,o.areas,o.prem,⟨o.inu.1,o.inu.2.1,fun x hx=>?_⟩,o.rein,hp,fun hc=>?_,fun _=>?_⟩ (fun x hx=>?_) fun j hj hm=>?_
  · have:=o.inu.2.2 x hx
    unfold Pl.layer
    dsimp only
    omega
  · unfold Pl.layer at hc
    dsimp only at hc
    omega
  · refine ⟨x1,x2,x3,x4,⟨by unfold Pl.layer; dsimp only; omega,hr.2⟩,hlim,x7,?_⟩
    rcases x8 with ⟨y1,y2,y3,y4,y5⟩ | ⟨y1,y2,y3,y4,y5⟩ | ⟨y1,_⟩
    · exact .inl ⟨y1,y2,hd,ha,y5⟩
    · exact .inr (.inl ⟨y1,y2,hd,ha,y5⟩)
    · omega
  · obtain ⟨j,hj,e⟩:=h.below n (by omega) x hx
    exact ⟨j,by omega,e⟩
  · by_cases c:j = n
    · subst c
      exact .inr ⟨tower_self hk _ _ _ _ _ _,hr.1⟩
    · rcases h.sep n j (by omega) (by omega) hm with hc | ⟨hc,hc2⟩
      · exact .inl hc
      · refine .inr ⟨hc,?_⟩
        show _ ≤ ret
        omega
end Go.Proofs.Ytfekcgnnhjmeiaa.Pl
namespace Go.Proofs.Ytfekcgnnhjmeiaa.Pl
open Go
def newT (t:GTreaty) (pe ar:List Int) (ret lim:Int) (inu:List Int):GTreaty:=GTreaty.mk t.ID t.Kind t.Period pe ar t.Risk t.Cession t.Line t.Lines ret lim t.Window t.Deductible t.Aggregate t.Premium t.Reinstatements t.Timed t.Base inu t.Parts
abbrev St59:=List Int × Int × List Int × Int
theorem inures_loop {l:List GTreaty} {id:Int} (h:MOk l id) (hl:l.length ≤ 7) (s10:List Int × Int × List GTreaty × Int × Int) (hs:s10.2.2.1 = l) (T:GTreaty × GDeck) (s45:List Int × Int × Int × Int) (s50:List Int × Int × List Int × List Int)
    (hp:s50.2.2.1.length ≤ 3 ∧ s50.2.2.2.length ≤ 3) {d:GDeck} (hd:DOk d) :
    Ok (loopV (treatymade2_Treaties_l59 s10 T s45 s50) (d.L,d.At,[],0)) fun s=>DOk (GDeck.mk s.1 s.2.1) ∧ s.2.2.length ≤ l.length ∧ AscI 1 1048576 none s.2.2 ∧ (∀ x ∈ s.2.2,∃ j:Nat,j < l.length ∧ (ix l (j:Int)).ID = x) ∧ ∀ j:Nat,j < l.length → meetS (newT T.1 s50.2.2.1 s50.2.2.2 s45.2.2.1 s45.2.2.2 s.2.2) (ix l (j:Int)) = true → (ix l (j:Int)).ID ∈ s.2.2:=by
  subst hs
  have h0:=h.id0
  refine Ok.loop (fun s:St59=>∃ q:Nat,q ≤ s10.2.2.1.length ∧ s.2.2.2 = (q:Int) ∧ DOk (GDeck.mk s.1 s.2.1) ∧ s.2.2.1.length ≤ q ∧ AscI 1 1048576 none s.2.2.1 ∧ (∀ x ∈ s.2.2.1,∃ j:Nat,j < q ∧ (ix s10.2.2.1 (j:Int)).ID = x) ∧ ∀ j:Nat,j < q → meetS (newT T.1 s50.2.2.1 s50.2.2.2 s45.2.2.1 s45.2.2.2 []) (ix s10.2.2.1 (j:Int)) = true → (ix s10.2.2.1 (j:Int)).ID ∈ s.2.2.1)
    (fun s=>s10.2.2.1.length - s.2.2.2.toNat) ⟨0,by omega,rfl,hd,by simp,trivial,by simp,fun j hj=>by omega⟩ ?_
  rintro ⟨L,A,inu,_⟩ ⟨q,hq,e,hd,hlen,hasc,hin,hmeet⟩
  dsimp only at e hd hlen hasc hin hmeet
  subst e
  unfold treatymade2_Treaties_l59
  dsimp only
  refine Ok.ite (fun hc=>?_) fun hc=>?_
  · have hc':q < s10.2.2.1.length:=by simpa using hc
    have hx:=h.ok q hc'
    refine Ok.bind (P:=fun s=>DOk (GDeck.mk s.1 s.2.1) ∧ s.2.2.length ≤ q + 1 ∧ AscI 1 1048576 none s.2.2 ∧ (∀ x ∈ s.2.2,∃ j:Nat,j < q + 1 ∧ (ix s10.2.2.1 (j:Int)).ID = x) ∧ ∀ j:Nat,j < q + 1 → meetS (newT T.1 s50.2.2.1 s50.2.2.2 s45.2.2.1 s45.2.2.2 []) (ix s10.2.2.1 (j:Int)) = true → (ix s10.2.2.1 (j:Int)).ID ∈ s.2.2) (Ok.chk (inb_nat hc') ?_) fun s hs=>?_
    · refine Ok.bind (P:=fun s:List Int × Int × Bool=>DOk (GDeck.mk s.1 s.2.1) ∧ (meetS (newT T.1 s50.2.2.1 s50.2.2.2 s45.2.2.1 s45.2.2.2 []) (ix s10.2.2.1 (q:Int)) = true → s.2.2 = true)) ?_ fun s hs=>?_
      · rw [rmeet_eq ⟨by dsimp only; omega,by dsimp only; omega,by dsimp only; omega⟩ hx.len,Option.bind_some]
        refine Ok.ite (fun _=>.some ⟨hd,fun _=>rfl⟩) fun hm=>?_
        refine (nextQ hd (n:=4) (by omega) (by omega)).bind fun r hr=>.some ⟨hr.2.2,fun hm2=>absurd hm2 hm⟩
      · refine Ok.ite (fun hb=>Ok.chk (room_of (by simp; omega)) (.some ⟨hs.1,by simp; omega,?_,fun x hx=>?_,fun j hj hm=>?_⟩)) fun hb=>.some ⟨hs.1,by dsimp only; omega,hasc,fun x hx=>?_,fun j hj hm=>?_⟩
        · refine hasc.snoc (by have:=hx.id; omega) (fun x hx=>by cases hx) fun x hx=>?_
          obtain ⟨j,hj,e⟩:=hin x hx
          have:=h.asc j q hj hc'
          omega
        · rcases List.mem_append.1 hx with hx | hx
          · obtain ⟨j,hj,e⟩:=hin x hx
            exact ⟨j,by omega,e⟩
          · exact ⟨q,by omega,(List.mem_singleton.1 hx).symm⟩
        · rw [List.mem_append]
          by_cases c:j = q
          · subst c; exact .inr (by simp)
          · exact .inl (hmeet j (by omega) hm)
        · obtain ⟨j,hj,e⟩:=hin x hx
          exact ⟨j,by omega,e⟩
        · by_cases c:j = q
          · subst c; exact absurd (hs.2 hm) hb
          · exact hmeet j (by omega) hm
    · refine .some ⟨⟨q + 1,by omega,w64_succ (by omega),hs⟩,?_⟩
      dsimp only
      rw [w64_succ (by omega)]
      omega
  · have hc':q = s10.2.2.1.length:=by
      have:¬ (q:Int) < s10.2.2.1.length:=by simpa using hc
      omega
    subst hc'
    exact .some ⟨hd,hlen,hasc,hin,hmeet⟩
theorem new_tok {t:GTreaty} {id kind:Int} (hb:TBase t id kind) (hi:1 ≤ id ∧ id ≤ 1048576) (hk:1 ≤ kind ∧ kind ≤ 6) (hpr:kind ≤ 3 → PropF t) (hex:4 ≤ kind → ExF t) {pe ar inu:List Int} {ret lim:Int}
    (h1:pe.length ≤ 3 ∧ AscI 0 15 none pe) (h2:ar.length ≤ 3 ∧ AscI 0 15 none ar) (h3:inu.length ≤ 7 ∧ AscI 1 1048576 none inu ∧ ∀ x ∈ inu,x < id) (h4:kind ≤ 3 → ret = t.Retention ∧ lim = t.Limit) (h5:4 ≤ kind → (0 ≤ ret ∧ ret ≤ 1073741824) ∧ (1 ≤ lim ∧ lim ≤ 1073741824)) :
    TOk (newT t pe ar ret lim inu):=by
  have e1:=hb.hid
  have e2:=hb.hkind
  refine ⟨by show 1 ≤ t.ID ∧ t.ID ≤ 1048576; rw [e1]; exact hi,by show 1 ≤ t.Kind ∧ t.Kind ≤ 6; rw [e2]; exact hk,hb.per,h1,h2,hb.prem,⟨h3.1,h3.2.1,by show ∀ x ∈ inu,x < t.ID; rw [e1]; exact h3.2.2⟩,hb.rein,hb.parts,fun hc=>?_,fun hc=>?_⟩
  · have hc':kind ≤ 3:=by rw [← e2]; exact hc
    obtain ⟨a,b⟩:=h4 hc'
    subst a b
    exact hpr hc'
  · have hc':4 ≤ kind:=by rw [← e2]; exact hc
    obtain ⟨a,b⟩:=h5 hc'
    obtain ⟨x1,x2,x3,x4,x5,x6,x7,x8⟩:=hex hc'
    exact ⟨x1,x2,x3,x4,a,b,x7,x8⟩
end Go.Proofs.Ytfekcgnnhjmeiaa.Pl
namespace Go.Proofs.Ytfekcgnnhjmeiaa.Pl
open Go
theorem treaties_loop {d:GDeck} (hd:DOk d) {m:Nat} (hm:1 ≤ m ∧ m ≤ 8):Ok (loopV treatymade2_Treaties_l10 (d.L,d.At,[],0,(m:Int))) fun s=>DOk (GDeck.mk s.1 s.2.1) ∧ 1 ≤ s.2.2.length ∧ s.2.2.length ≤ 8 ∧ ∃ id,MOk s.2.2 id:=by
  refine Ok.loop (fun s:List Int × Int × List GTreaty × Int × Int=>∃ n:Nat,s.2.2.2.2 = (n:Int) ∧ DOk (GDeck.mk s.1 s.2.1) ∧ MOk s.2.2.1 s.2.2.2.1 ∧ s.2.2.1.length + n = m) (fun s=>s.2.2.2.2.toNat) ⟨m,rfl,hd,MOk.nil,by simp⟩ ?_
  rintro ⟨L,A,l,id,_⟩ ⟨n,e,hd,hl,hn⟩
  dsimp only at e hd hl hn
  subst e
  have h0:=hl.id0
  have hll:l.length ≤ 8:=by omega
  unfold treatymade2_Treaties_l10
  dsimp only
  refine Ok.ite (fun hc=>?_) fun hc=>?_
  · have hc':0 < n:=by simpa using hc
    refine Ok.bind (P:=fun s:List Int × Int × List GTreaty × Int=>DOk (GDeck.mk s.1 s.2.1) ∧ MOk s.2.2.1 s.2.2.2 ∧ s.2.2.1.length = l.length + 1) ?_ fun s hs=>?_
    · refine (nextQ hd (n:=3) (by omega) (by omega)).bind fun r6 h6=>?_
      have ei:w64 (id + w64 (1 + r6.1)) = id + (1 + r6.1):=by rw [w64_id (n:=1 + r6.1) (by omega) (by omega),w64_id (by omega) (by omega)]
      rw [ei]
      refine Ok.bind (P:=fun s:List Int × Int × Bool=>DOk (GDeck.mk s.1 s.2.1) ∧ (s.2.2 = true → ∃ q:Nat,q + 1 = l.length ∧ w64 ((l.length:Int) - 1) = (q:Int) ∧ ((ix l (q:Int)).Kind = 4 ∨ (ix l (q:Int)).Kind = 5) ∧ (ix l (q:Int)).Retention + (ix l (q:Int)).Limit < 536870912)) ?_ fun s23 h23=>?_
      · refine Ok.ite (fun c1=>?_) fun c1=>.some ⟨h6.2.2,fun hc=>by cases hc⟩
        have hpos:0 < l.length:=by
          apply Nat.pos_of_ne_zero
          intro h
          rw [h] at c1
          exact absurd c1 (by decide)
        obtain ⟨q,hq⟩:∃ q,q + 1 = l.length:=⟨l.length - 1,by omega⟩
        have ew:w64 ((l.length:Int) - 1) = (q:Int):=by rw [w64_id (by omega) (by omega)]; omega
        have hin:inb l (w64 ((l.length:Int) - 1)) = true:=by rw [ew]; exact inb_nat (by omega)
        refine Ok.ite (fun c2=>?_) fun c2=>Ok.chk hin (.some ⟨h6.2.2,fun hc=>by cases hc⟩)
        refine Ok.ite (fun c3=>?_) fun c3=>Ok.chk hin (.some ⟨h6.2.2,fun hc=>by cases hc⟩)
        refine (nextQ h6.2.2 (n:=2) (by omega) (by omega)).bind fun r8 h8=>?_
        refine Ok.ite (fun c4=>Ok.chk hin (.some ⟨h8.2.2,fun hc=>?_⟩)) fun c4=>Ok.chk hin (.some ⟨h8.2.2,fun hc=>by cases hc⟩)
        rw [ew] at c2 c3 hc
        have hk:=(hl.ok q (by omega)).kind
        have hx:=(hl.ok q (by omega)).ex (by simpa using c3)
        obtain ⟨_,_,_,_,x5,x6,_⟩:=hx
        have c2':¬ (ix l (q:Int)).Kind = 6:=by simpa using c2
        have c3':4 ≤ (ix l (q:Int)).Kind:=by simpa using c3
        rw [w64_id (by omega) (by omega)] at hc
        exact ⟨q,hq,ew,by omega,by simpa using hc⟩
      · refine Ok.ite (fun c=>?_) fun c=>?_
        · obtain ⟨q,hq,ew,hk,hlt⟩:=h23.2 c
          rw [ew]
          have hx:=(hl.ok q (by omega)).ex (by omega)
          obtain ⟨_,_,_,_,x5,x6,_⟩:=hx
          refine Ok.chk (inb_nat (by omega)) ?_
          refine (nextQ h23.1 (n:=2) (by omega) (by omega)).bind fun a ha=>?_
          refine (nextQ ha.2.2 (n:=40) (by omega) (by omega)).bind fun b hb=>?_
          refine (smallQ hb.2.2).bind fun c hc=>?_
          refine (nextQ hc.2.2 (n:=3) (by omega) (by omega)).bind fun d hd=>?_
          refine (smallQ hd.2.2).bind fun e he=>?_
          refine (nextQ he.2.2 (n:=3) (by omega) (by omega)).bind fun f hf=>?_
          refine (smallQ hf.2.2).bind fun g hg=>?_
          refine (partsQ hg.2.2).bind fun p hp=>?_
          have hab:0 ≤ a.1 * b.1 ∧ a.1 * b.1 ≤ 39:=by
            have:a.1 = 0 ∨ a.1 = 1:=by omega
            rcases this with h | h <;> rw [h] <;> omega
          have half:∀ x y:Int,0 ≤ x → x < 3 → 0 ≤ y → y < 268435456 → 0 ≤ w64 (w64 (x.tdiv 2) * y) ∧ w64 (w64 (x.tdiv 2) * y) < 268435456:=by
            intro x y h1 h2 h3 h4
            have:x = 0 ∨ x = 1 ∨ x = 2:=by omega
            have e0:w64 ((0:Int).tdiv 2) = 0:=by decide
            have e1:w64 ((1:Int).tdiv 2) = 0:=by decide
            have e2:w64 ((2:Int).tdiv 2) = 1:=by decide
            rcases this with h | h | h <;> subst h
            · rw [e0,Int.zero_mul,w64_id (by omega) (by omega)]; omega
            · rw [e1,Int.zero_mul,w64_id (by omega) (by omega)]; omega
            · rw [e2,Int.one_mul,w64_id (by omega) (by omega)]; omega
          have h1:=half d.1 e.1 hd.1 hd.2.1 he.1 he.2.1
          have h2:=half f.1 g.1 hf.1 hf.2.1 hg.1 hg.2.1
          have er:w64 ((ix l (q:Int)).Retention + w64 ((ix l (q:Int)).Limit + w64 (a.1 * b.1))) = (ix l (q:Int)).Retention + ((ix l (q:Int)).Limit + a.1 * b.1):=by
            rw [w64_id (n:=a.1 * b.1) (by omega) (by omega),w64_id (n:=(ix l (q:Int)).Limit + a.1 * b.1) (by omega) (by omega),w64_id (by omega) (by omega)]
          have el:w64 (1 + c.1) = 1 + c.1:=w64_id (by omega) (by omega)
          rw [er,el]
          refine Ok.chk (room_of (by simp; omega)) (.some ⟨hp.1,?_,by simp⟩)
          exact hl.layer hq hk ⟨by omega,by omega⟩ (by omega) ⟨by omega,by omega⟩ ⟨by omega,by omega⟩ ⟨h1.1,by omega⟩ ⟨h2.1,by omega⟩ hp.2
        · refine (nextQ h23.1 (n:=6) (by omega) (by omega)).bind fun r16 h16=>?_
          have ek:w64 (1 + r16.1) = 1 + r16.1:=w64_id (by omega) (by omega)
          rw [ek]
          refine (treatyQ h16.2.2 (id:=id + (1 + r6.1)) (kind:=1 + r16.1) (by omega)).bind fun T hT=>?_
          obtain ⟨hTd,hTb,hTp,hTx⟩:=hT
          refine Ok.bind (P:=fun s:List Int × Int × Int × Int=>DOk (GDeck.mk s.1 s.2.1) ∧ (1 + r16.1 ≤ 3 → s.2.2.1 = T.1.Retention ∧ s.2.2.2 = T.1.Limit) ∧ (4 ≤ 1 + r16.1 → (0 ≤ s.2.2.1 ∧ s.2.2.1 ≤ 1073741824) ∧ (1 ≤ s.2.2.2 ∧ s.2.2.2 ≤ 1073741824))) ?_ fun s45 h45=>?_
          · refine Ok.ite (fun c=>?_) fun c=>.some ⟨hTd,fun _=>⟨rfl,rfl⟩,fun hc=>absurd (by simpa using hc) c⟩
            refine (smallQ hTd).bind fun a ha=>?_
            refine (smallQ ha.2.2).bind fun b hb=>?_
            have c':4 ≤ 1 + r16.1:=by simpa using c
            refine .some ⟨hb.2.2,fun hc=>absurd hc (by omega),fun _=>⟨⟨by dsimp only; omega,by dsimp only; omega⟩,?_⟩⟩
            dsimp only
            rw [w64_id (by omega) (by omega)]
            omega
          · refine Ok.bind (P:=fun s:List Int × Int × List Int × List Int=>DOk (GDeck.mk s.1 s.2.1) ∧ (s.2.2.1.length ≤ 3 ∧ AscI 0 15 none s.2.2.1) ∧ (s.2.2.2.length ≤ 3 ∧ AscI 0 15 none s.2.2.2)) ?_ fun s50 h50=>?_
            · refine (nextQ h45.1 (n:=3) (by omega) (by omega)).bind fun a ha=>?_
              refine Ok.ite (fun _=>.some ⟨ha.2.2,⟨by simp,trivial⟩,⟨by simp,trivial⟩⟩) fun _=>.some ⟨ha.2.2,hTb.perils,hTb.areas⟩
            · rw [hTb.inu]
              refine (inures_loop hl (by omega) (L,A,l,id,(n:Int)) rfl T s45 s50 ⟨h50.2.1.1,h50.2.2.1⟩ h50.1).bind fun s hs=>?_
              refine Ok.chk (room_of (by simp; omega)) (.some ⟨hs.1,?_,by simp⟩)
              have hid:(newT T.1 s50.2.2.1 s50.2.2.2 s45.2.2.1 s45.2.2.2 s.2.2).ID = id + (1 + r6.1):=hTb.hid
              have hto:TOk (newT T.1 s50.2.2.1 s50.2.2.2 s45.2.2.1 s45.2.2.2 s.2.2):=new_tok hTb (by omega) (by omega) hTp hTx h50.2.1 h50.2.2 ⟨by omega,hs.2.2.1,fun x hx=>by
                obtain ⟨j,hj,e⟩:=hs.2.2.2.1 x hx
                have:=hl.top j hj
                omega⟩ h45.2.1 h45.2.2
              have hsn:=hl.snoc (t:=newT T.1 s50.2.2.1 s50.2.2.2 s45.2.2.1 s45.2.2.2 s.2.2) (by omega) (by omega) hto (fun x hx=>hs.2.2.2.1 x hx) (fun j hj hm=>.inl (hs.2.2.2.2 j hj hm))
              rw [hid] at hsn
              exact hsn
    · refine .some ⟨⟨n - 1,?_,hs.1,hs.2.1,by have:=hs.2.2; dsimp only; omega⟩,?_⟩
      · dsimp only
        rw [w64_id (by omega) (by omega)]
        omega
      · dsimp only
        rw [w64_id (by omega) (by omega)]
        omega
  · have:n = 0:=by
      have:¬ 0 < n:=by simpa using hc
      omega
    refine .some ⟨hd,by dsimp only; omega,by dsimp only; omega,id,hl⟩
theorem treatiesQ {d:GDeck} (hd:DOk d):Ok (treatymade2_Treaties d 8) fun r=>DOk r.2 ∧ 1 ≤ r.1.length ∧ r.1.length ≤ 8 ∧ ∃ id,MOk r.1 id:=by
  unfold treatymade2_Treaties
  refine Ok.bind (P:=fun s:List Int × Int × List GTreaty=>DOk (GDeck.mk s.1 s.2.1) ∧ 1 ≤ s.2.2.length ∧ s.2.2.length ≤ 8 ∧ ∃ id,MOk s.2.2 id) ?_ fun s hs=>.some hs
  refine (nextQ hd (n:=8) (by omega) (by omega)).bind fun r hr=>?_
  obtain ⟨m,hm⟩:=Int.eq_ofNat_of_zero_le (a:=1 + r.1) (by omega)
  have e:w64 (1 + r.1) = (m:Int):=by rw [w64_id (by omega) (by omega)]; exact hm
  rw [e]
  exact treaties_loop hr.2.2 (by omega)
theorem MOk.uniq {l:List GTreaty} {id:Int} (h:MOk l id):Uniq l:=by
  intro i j hi hj e
  rcases Nat.lt_trichotomy i j with hc | hc | hc
  · have:=h.asc i j hc hj; omega
  · exact hc
  · have:=h.asc j i hc hi; omega
theorem MOk.tslen {l:List GTreaty} {id:Int} (h:MOk l id):TsLen l:=fun k hk=>(h.ok k hk).len
theorem MOk.bel {l:List GTreaty} {id:Int} (h:MOk l id):Below l:=by
  intro i hi x hx
  obtain ⟨j,hj,e⟩:=h.below i hi x hx
  exact ⟨j,hj,by rw [← e]; exact idxOf_id h.uniq (by omega)⟩
end Go.Proofs.Ytfekcgnnhjmeiaa.Pl
namespace Go.Proofs.Ytfekcgnnhjmeiaa.Pl
open Go
theorem del_get {m:List (Int × List Int)} (x:Int):(mget m x [] = [] ∧ mdel m x = m) ∨ ∃ p ∈ m,p.1 = x ∧ mget m x [] = p.2 ∧ (mdel m x).length + 1 = m.length ∧ ∀ q ∈ mdel m x,q ∈ m:=by
  induction m with
  | nil=>exact .inl ⟨rfl,rfl⟩
  | cons p m ih =>
    by_cases h:p.1 = x
    · refine .inr ⟨p,by simp,h,by simp [mget,h],by simp [mdel,h],fun q hq=>?_⟩
      simp only [mdel,h,if_true] at hq
      exact List.mem_cons_of_mem _ hq
    · rcases ih with ⟨h1,h2⟩ | ⟨q,h1,h2,h3,h4,h5⟩
      · exact .inl ⟨by simp [mget,h,h1],by simp [mdel,h,h2]⟩
      · refine .inr ⟨q,List.mem_cons_of_mem _ h1,h2,by simp [mget,h,h3],by simp [mdel,h]; omega,fun r hr=>?_⟩
        simp only [mdel,h,if_false] at hr
        rcases List.mem_cons.1 hr with rfl | hr
        · simp
        · exact List.mem_cons_of_mem _ (h5 r hr)
theorem mhas_no {m:List (Int × List Int)} {x:Int} (h:∀ p ∈ m,p.1 ≠ x):mhas m x = false ∧ ∀ v,mset m x v = m ++ [(x,v)]:=by
  induction m with
  | nil=>exact ⟨rfl,fun v=>rfl⟩
  | cons p m ih =>
    have hp:=h p (by simp)
    obtain ⟨h1,h2⟩:=ih fun q hq=>h q (List.mem_cons_of_mem _ hq)
    exact ⟨by simp [mhas,hp,h1],fun v=>by simp [mset,hp,h2]⟩
abbrev Mp:=List (Int × List Int)
def Ent (ts:List GTreaty) (n:Nat) (m:Mp):Prop:=∀ p ∈ m,∃ k:Nat,k < n ∧ p = ((ix ts (k:Int)).ID,[(k:Int)])
theorem dep_map {ts:List GTreaty} (hl:ts.length ≤ 1000000) (hu:Uniq ts):Ok (loopV (inuring_Depends_l14 ts) ([],0)) fun m=>m.length ≤ ts.length ∧ Ent ts ts.length m:=by
  refine Ok.loop (fun s:Mp × Int=>∃ q:Nat,q ≤ ts.length ∧ s.2 = (q:Int) ∧ s.1.length ≤ q ∧ Ent ts q s.1) (fun s=>ts.length - s.2.toNat) ⟨0,by omega,rfl,by simp,fun p hp=>by cases hp⟩ ?_
  rintro ⟨m,_⟩ ⟨q,hq,e,hm,hE⟩
  dsimp only at e hm hE
  subst e
  unfold inuring_Depends_l14
  dsimp only
  refine Ok.ite (fun hc=>?_) fun hc=>?_
  · have hc':q < ts.length:=by simpa using hc
    obtain ⟨h1,h2⟩:=mhas_no (m:=m) (x:=(ix ts (q:Int)).ID) fun p hp hx=>by
      obtain ⟨k,hk,rfl⟩:=hE p hp
      have:=hu k q (by omega) hc' hx
      omega
    refine Ok.chk (inb_nat hc') (Ok.chk (by rw [h1]; rfl) (Ok.chk (room_of (by simp)) (.some ⟨⟨q + 1,by omega,w64_succ (by omega),?_,?_⟩,?_⟩)))
    · dsimp only
      rw [h2,List.length_append]
      simp
      omega
    · dsimp only
      rw [h2]
      intro p hp
      rcases List.mem_append.1 hp with hp | hp
      · obtain ⟨k,hk,e⟩:=hE p hp
        exact ⟨k,by omega,e⟩
      · exact ⟨q,by omega,List.mem_singleton.1 hp⟩
    · dsimp only
      rw [w64_succ (by omega)]
      omega
  · have:q = ts.length:=by
      have:¬ (q:Int) < ts.length:=by simpa using hc
      omega
    subst this
    exact .some ⟨hm,hE⟩
def Reach (ts:List GTreaty) (i:Nat) (l:List Int):Prop:=∀ x ∈ l,∃ k:Nat,k < ts.length ∧ x = (k:Int) ∧ (k = i ∨ Relation.TransGen (Edge ts) i k)
theorem dep_row {ts:List GTreaty} (hu:Uniq ts) (ht:TsLen ts) {i j p:Nat} (hj:j < ts.length) (hp:p < ts.length) (hr:p = i ∨ Relation.TransGen (Edge ts) i p) (s30:Mp × List Int) (hlast:ix s30.2 (w64 ((s30.2.length:Int) - 1)) = (p:Int)) {m:Mp} {st:List Int} (hsz:st.length + m.length ≤ 10000000) (hE:Ent ts ts.length m) (hR:Reach ts i st) :
    Ok (loopV (inuring_Depends_l46 ts (j:Int) s30) (m,st,0)) fun o=>match o with | .inl b=>b = true ∧ Edge ts p j | .inr s=>s.2.length + s.1.length ≤ st.length + m.length ∧ Ent ts ts.length s.1 ∧ Reach ts i s.2 ∧ ¬ Edge ts p j:=by
  refine Ok.loop (fun s:Mp × List Int × Int=>∃ q:Nat,q ≤ (ix ts (p:Int)).Inures.length ∧ s.2.2 = (q:Int) ∧ s.2.1.length + s.1.length ≤ st.length + m.length ∧ Ent ts ts.length s.1 ∧ Reach ts i s.2.1 ∧ ∀ k:Nat,k < q → ix (ix ts (p:Int)).Inures (k:Int) ≠ (ix ts (j:Int)).ID) (fun s=>(ix ts (p:Int)).Inures.length - s.2.2.toNat) ⟨0,by omega,rfl,Nat.le_refl _,hE,hR,fun k hk=>by omega⟩ ?_
  rintro ⟨m',st',_⟩ ⟨q,hq,e,hs,hE',hR',hno⟩
  dsimp only at e hs hE' hR'
  subst e
  have hlen:=(ht p hp).3
  unfold inuring_Depends_l46
  rw [hlast]
  dsimp only
  refine Ok.ite (fun hc=>?_) fun hc=>?_
  · have hc':q < (ix ts (p:Int)).Inures.length:=by simpa using hc
    refine Ok.chk (inb_nat hc') (Ok.chk (inb_nat hj) (Ok.ite (fun h1=>.some ⟨rfl,?_⟩) fun h1=>?_))
    · have h1':ix (ix ts (p:Int)).Inures (q:Int) = (ix ts (j:Int)).ID:=by simpa using h1
      rw [edge_iff hu hp hj,← h1',ix_nat hc']
      exact List.getElem_mem hc'
    · have h1':¬ ix (ix ts (p:Int)).Inures (q:Int) = (ix ts (j:Int)).ID:=by simpa using h1
      have hnew:Ent ts ts.length (mdel m' (ix (ix ts (p:Int)).Inures (q:Int))) ∧ Reach ts i (st' ++ mget m' (ix (ix ts (p:Int)).Inures (q:Int)) []) ∧ (st' ++ mget m' (ix (ix ts (p:Int)).Inures (q:Int)) []).length + (mdel m' (ix (ix ts (p:Int)).Inures (q:Int))).length ≤ st.length + m.length:=by
        rcases del_get (m:=m') (ix (ix ts (p:Int)).Inures (q:Int)) with ⟨e1,e2⟩ | ⟨r,hr1,hr2,hr3,hr4,hr5⟩
        · rw [e1,e2,List.append_nil]
          exact ⟨hE',hR',hs⟩
        · rw [hr3]
          obtain ⟨k,hk,e⟩:=hE' r hr1
          have e1:r.2 = [(k:Int)]:=by rw [e]
          have e2:r.1 = (ix ts (k:Int)).ID:=by rw [e]
          have hed:Edge ts p k:=by
            rw [edge_iff hu hp hk,← e2,hr2,ix_nat hc']
            exact List.getElem_mem hc'
          refine ⟨fun x hx=>hE' x (hr5 x hx),fun x hx=>?_,by rw [e1]; simp; omega⟩
          rcases List.mem_append.1 hx with hx | hx
          · exact hR' x hx
          · rw [e1] at hx
            refine ⟨k,hk,List.mem_singleton.1 hx,.inr ?_⟩
            rcases hr with rfl | hr
            · exact .single hed
            · exact .tail hr hed
      refine Ok.chk (room_of (by omega)) (.some ⟨⟨q + 1,by omega,w64_succ (by omega),hnew.2.2,hnew.1,hnew.2.1,fun k hk=>?_⟩,?_⟩)
      · by_cases c:k = q
        · subst c; exact h1'
        · exact hno k (by omega)
      · dsimp only
        rw [w64_succ (by omega)]
        omega
  · have hq':q = (ix ts (p:Int)).Inures.length:=by
      have:¬ (q:Int) < (ix ts (p:Int)).Inures.length:=by simpa using hc
      omega
    refine .some ⟨hs,hE',hR',fun he=>?_⟩
    rw [edge_iff hu hp hj] at he
    obtain ⟨k,hk,e⟩:=List.getElem_of_mem he
    exact hno k (by omega) (by rw [ix_nat hk]; exact e)
theorem scanQ {O R:Type} {l:Option (O ⊕ Unit)} {Q:O ⊕ Unit → Prop} (h:Ok l Q) {K:Option R} {J:O → Option R} {Q':R → Prop} (h1:Q (.inr ()) → Ok K Q') (h2:∀ t,Q (.inl t) → Ok (J t) Q'):Ok ((l.bind fun q=>(Sum.elim (fun t=>some (.inr t)) (fun t=>some (.inl t))) q:Option (Unit ⊕ O)).bind fun q=>(Sum.elim (fun _=>K) (fun t=>J t)) q) Q':=by
  obtain ⟨a,rfl,ha⟩:=h
  cases a with
  | inl t=>exact h2 t ha
  | inr u=>exact h1 ha
theorem dep_ok {ts:List GTreaty} (hl:ts.length ≤ 1000000) (hu:Uniq ts) (ht:TsLen ts) {i j:Nat} (hi:i < ts.length) (hj:j < ts.length):Ok (inuring_Depends ts (i:Int) (j:Int)) fun b=>(b = true → Relation.TransGen (Edge ts) i j) ∧ (Edge ts i j → b = true):=by
  unfold inuring_Depends
  refine Ok.ite (fun hc=>absurd hc (by simp; omega)) fun _=>?_
  refine (dep_map hl hu).bind fun m hm=>?_
  have hloop:Ok (loopV (inuring_Depends_l30 ts (j:Int)) (m,[(i:Int)])) fun o=>match o with | .inl b=>b = true ∧ Relation.TransGen (Edge ts) i j | .inr _=>¬ Edge ts i j:=by
    refine Ok.loop (fun s:Mp × List Int=>Ent ts ts.length s.1 ∧ Reach ts i s.2 ∧ s.2.length + s.1.length ≤ 2000000 ∧ (s.2 = [(i:Int)] ∨ ¬ Edge ts i j)) (fun s=>s.2.length + s.1.length) ⟨hm.2,fun x hx=>⟨i,hi,List.mem_singleton.1 hx,.inl rfl⟩,by have:=hm.1; simp; omega,.inl rfl⟩ ?_
    rintro ⟨m,st⟩ ⟨hE,hR,hsz,hor⟩
    dsimp only at hE hR hsz hor
    unfold inuring_Depends_l30
    dsimp only
    refine Ok.ite (fun hc=>?_) fun hc=>?_
    · have hc':0 < st.length:=by simpa using hc
      obtain ⟨q,hq⟩:∃ q,q + 1 = st.length:=⟨st.length - 1,by omega⟩
      have ew:w64 ((st.length:Int) - 1) = (q:Int):=by rw [w64_id (by omega) (by omega)]; omega
      obtain ⟨p,hp,e1,hr⟩:=hR (ix st (q:Int)) (by rw [ix_nat (by omega)]; exact List.getElem_mem _)
      refine Ok.bind (P:=fun o=>match o with | .inr b=>b = true ∧ Relation.TransGen (Edge ts) i j | .inl s=>Ent ts ts.length s.1 ∧ Reach ts i s.2 ∧ s.2.length + s.1.length + 1 ≤ st.length + m.length ∧ ¬ Edge ts i j) ?_ fun o ho=>?_
      · have hrow:=dep_row hu ht hj hp hr (m,st) (by dsimp only; rw [ew]; exact e1) (m:=m) (st:=st.take q) (by rw [List.length_take]; omega) hE (fun x hx=>hR x (List.mem_of_mem_take hx))
        rw [ew,e1]
        refine Ok.chk (inb_nat (by omega)) (Ok.chk (by simp) (Ok.chk (by rw [decide_eq_true_eq]; omega) (Ok.chk (inb_nat hp) ?_)))
        rw [Int.toNat_natCast]
        refine hrow.bind fun o ho=>?_
        cases o with
        | inl b =>
          refine .some ⟨ho.1,?_⟩
          rcases hr with rfl | hr
          · exact .single ho.2
          · exact .tail hr ho.2
        | inr s =>
          refine .some ⟨ho.2.1,ho.2.2.1,by have:=ho.1; rw [List.length_take] at this; omega,?_⟩
          rcases hor with hor | hor
          · have:p = i:=by
              have h1:q = 0:=by rw [hor] at hq; simpa using hq
              have h2:ix st (q:Int) = (i:Int):=by rw [h1,hor]; rfl
              omega
            rw [← this]
            exact ho.2.2.2
          · exact hor
      · cases o with
        | inl s=>exact .some ⟨⟨ho.1,ho.2.1,by dsimp only; omega,.inr ho.2.2.2⟩,by dsimp only; omega⟩
        | inr b=>exact .some ho
    · refine .some ?_
      rcases hor with hor | hor
      · rw [hor] at hc; exact absurd hc (by simp)
      · exact hor
  refine scanQ hloop (fun h=>.some ⟨fun h=>(by cases h),fun he=>absurd he h⟩) fun b hb=>.some ⟨fun _=>hb.2,fun _=>hb.1⟩
end Go.Proofs.Ytfekcgnnhjmeiaa.Pl
namespace Go.Proofs.Ytfekcgnnhjmeiaa.Pl
open Go
theorem bAnd_range (x:Int) {m:Nat} (hm:m ≤ 1000000000000):0 ≤ bAnd .i64 x (m:Int) ∧ bAnd .i64 x (m:Int) ≤ (m:Int):=by
  have h:(BitVec.ofInt 64 x &&& BitVec.ofInt 64 (m:Int)).toNat ≤ m:=by
    rw [BitVec.toNat_and]
    refine Nat.le_trans Nat.and_le_right ?_
    rw [BitVec.toNat_ofInt]
    omega
  have e:bAnd .i64 x (m:Int) = w64 ((BitVec.ofInt 64 x &&& BitVec.ofInt 64 (m:Int)).toNat:Int):=rfl
  rw [e,w64_id (by omega) (by omega)]
  omega
theorem tslen_upd {l:List GTreaty} (h:TsLen l) {i:Nat} (hi:i < l.length) {t:GTreaty} (ht:TLen t):(upd l (i:Int) t).length = l.length ∧ TsLen (upd l (i:Int) t):=by
  refine ⟨upd_length,fun k hk=>?_⟩
  rw [upd_length] at hk
  rw [ix_upd hi]
  split
  · exact ht
  · exact h k hk
theorem spoilt_ok {l:List GTreaty} (h0:1 ≤ l.length) (h8:l.length ≤ 8) (h:∀ k:Nat,k < l.length → TOk (ix l (k:Int))) (a n:Int):Ok (treatylaw29_spoilt l a n) fun x=>x.length = l.length ∧ TsLen x:=by
  have ht:TsLen l:=fun k hk=>(h k hk).len
  have hb:=bAnd_range (bShr .i64 a 3) (m:=15) (by omega)
  have hb1:=Int.tmod_nonneg (l.length:Int) hb.1
  have hb2:=Int.tmod_lt_of_pos (bAnd .i64 (bShr .i64 a 3) ((15:Nat):Int)) (show 0 < (l.length:Int) by omega)
  obtain ⟨i,hi⟩:=Int.eq_ofNat_of_zero_le hb1
  have hi':(bAnd .i64 (bShr .i64 a 3) 15).tmod (l.length:Int) = (i:Int):=hi
  have hil:i < l.length:=by omega
  have o:=h i hil
  have len:=o.len
  unfold treatylaw29_spoilt
  rw [hi']
  refine Ok.chk (room_of (by omega)) (Ok.chk (by rw [decide_eq_false (show ¬ (l.length:Int) = 0 by omega)]; rfl) (Ok.chk (inb_nat hil) ?_))
  refine Ok.bind (P:=fun x=>x.length = l.length ∧ TsLen x) ?_ fun x hx=>.some hx
  refine Ok.ite (fun _=>.some (tslen_upd ht hil ⟨len.1,len.2,len.3⟩)) fun _=>?_
  refine Ok.ite (fun _=>Ok.chk (room_of len.3) (Ok.chk (room_of (by have:=o.inu.1; simp; omega)) (.some (tslen_upd ht hil ⟨len.1,len.2,by have:=o.inu.1; simp; omega⟩)))) fun _=>?_
  refine Ok.ite (fun _=>.some (tslen_upd ht hil ⟨len.1,len.2,by simp⟩)) fun _=>?_
  refine Ok.ite (fun _=>.some (tslen_upd ht hil ⟨len.1,len.2,len.3⟩)) fun _=>?_
  refine Ok.ite (fun _=>.some (tslen_upd ht hil ⟨len.1,len.2,len.3⟩)) fun _=>?_
  refine Ok.ite (fun _=>Ok.chk (inb_of (by rw [w64_id (by omega) (by omega)]; omega) (by rw [w64_id (by omega) (by omega)]; omega)) (.some (tslen_upd ht hil ⟨len.1,len.2,by simp⟩))) fun _=>?_
  refine Ok.ite (fun _=>.some (tslen_upd ht hil ⟨len.1,len.2,len.3⟩)) fun _=>?_
  exact .some (tslen_upd ht hil ⟨len.1,len.2,len.3⟩)
def ex3 (x:Int):List GTreaty:=[(GTreaty.mk 1 1 (GPeriod.mk 0 100) [] [] 0 500000 0 0 0 0 0 0 0 0 [] false 0 [] []),(GTreaty.mk 2 5 (GPeriod.mk 0 100) [] [] 0 0 0 0 100 100 24 0 0 0 [] false 0 [1] []),(GTreaty.mk 3 5 (GPeriod.mk 0 100) [] [] 0 0 0 0 x 300 24 0 0 0 [] false 0 [1] [])]
theorem ex3_len (x:Int):TsLen (ex3 x):=by
  intro k hk
  have:k = 0 ∨ k = 1 ∨ k = 2:=by simp [ex3] at hk; omega
  rcases this with rfl | rfl | rfl <;> exact ⟨by simp [ex3,ix],by simp [ex3,ix],by simp [ex3,ix]⟩
theorem ex3_below (x:Int):Below (ex3 x):=by
  intro k hk
  have:k = 0 ∨ k = 1 ∨ k = 2:=by simp [ex3] at hk; omega
  rcases this with rfl | rfl | rfl
  · intro id h; simp [ex3,ix] at h
  · intro id h
    have:id = 1:=by simpa [ex3,ix] using h
    subst this
    exact ⟨0,by omega,rfl⟩
  · intro id h
    have:id = 1:=by simpa [ex3,ix] using h
    subst this
    exact ⟨0,by omega,rfl⟩
theorem ex3_200:AllOk (ex3 200):=⟨by decide,by decide +kernel,by decide +kernel,below_acyclic (ex3_below 200),by decide +kernel⟩
theorem ex3_150:vOf (ex3 150) = 8:=by
  unfold vOf
  rw [if_neg (by decide),show st1 (ex3 150) = none by decide +kernel,show st2 (ex3 150) = none by decide +kernel,show st4 (ex3 150) = some 8 by decide +kernel]
  dsimp only [Option.elim]
  rw [if_neg (below_acyclic (ex3_below 150))]
  rfl
theorem awake_ok:treatylaw29_awake = some true:=by
  have u:Uniq (ex3 200):=st1_uniq ex3_200.s1
  have e1:inuring_Order (ex3 200) = some (idxs 3,0):=order_below (by decide) (ex3_len 200) (ex3_below 200) (vOf_ok ex3_200)
  have e2:inuring_Validate (ex3 150) = some 8:=by rw [validateAll (by decide) (ex3_len 150),ex3_150]
  obtain ⟨b,e3,_,hb⟩:=dep_ok (ts:=ex3 200) (i:=2) (j:=0) (by decide) u (ex3_len 200) (by decide) (by decide)
  have hed:Edge (ex3 200) 2 0:=(edge_iff u (by decide) (by decide)).2 (by decide)
  have hb':=hb hed
  subst hb'
  have e3':inuring_Depends (ex3 200) 2 0 = some true:=e3
  have e4:treatyref01_SameInts (idxs 3) [0,1,2] = some true:=by rw [same_eq (by decide)]; rfl
  unfold treatylaw29_awake
  have t1:treatylaw29_three 200 = some (ex3 200):=rfl
  have t2:treatylaw29_three 150 = some (ex3 150):=rfl
  simp only [t1,t2,Option.bind_some,e1,e2,e3',e4,decide_true,if_true]
end Go.Proofs.Ytfekcgnnhjmeiaa.Pl
namespace Go.Proofs.Ytfekcgnnhjmeiaa.Pl
open Go
theorem ok_true {x:Option Bool} (h:Ok x fun b=>b = true):x = some true:=by
  obtain ⟨b,e,rfl⟩:=h
  exact e
theorem newQ {l:List Int} (h:l.length ≤ 9223372036854775807):Ok (treatymade2_New l) DOk:=by
  obtain ⟨d,e,hd⟩:=new_ok h
  exact ⟨d,by unfold treatymade2_New; rw [e]; rfl,hd⟩
theorem treatylaw29_InuringOrder_law (a0:List Int) (a1 a2:Int) (h0:a0.length ≤ 9223372036854775807):treatylaw29_InuringOrder a0 a1 a2 = some true:=by
  apply ok_true
  unfold treatylaw29_InuringOrder
  refine (newQ h0).bind fun d hd=>(treatiesQ hd).bind fun r hr=>?_
  obtain ⟨_,h1,h8,id,hm⟩:=hr
  refine (spoilt_ok h1 h8 hm.ok a1 a2).bind fun x hx=>?_
  obtain ⟨o1,e1,q1,q2,q3⟩:=order_same (ts:=r.1) (by omega) hm.tslen
  obtain ⟨o2,e2,p1,p2,p3⟩:=order_same (ts:=x) (by omega) hx.2
  rw [q1,q2,p1,p2]
  simp only [Option.bind_some]
  rw [same_eq (by omega),same_eq (by omega),awake_ok]
  simp only [Option.bind_some,decide_true,Bool.and_self,if_true]
  exact .some rfl
end Go.Proofs.Ytfekcgnnhjmeiaa.Pl
