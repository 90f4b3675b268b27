/- delete from a map. -/
import Derived.Test.YtfekcgnnhjmeiaaKMv
import Derived.Test.YtfekcgnnhjmeiaaKMsP
namespace Go.Proofs.Ytfekcgnnhjmeiaa
open Go.RowKit
open Go.ChangeMaps (setBlock)
section
variable {P : Program} {C : Cx} {σ : List (Nat × Value)} {η : List Ent} {ι : List Fact}
variable {d : Option Tmp} {ty : TypeId} {pos : String} {af : Array Edge} {gd : Option (Nat × Bool)}
variable {K V : Type} [DecidableEq K] {encK : K → Value} {encV : V → Value}
theorem eraseIdx_mapL {α β : Type} (f : α → β) : ∀ (l : List α) (i : Nat), (l.map f).eraseIdx i = (l.eraseIdx i).map f
  | [], _ => rfl
  | _ :: _, 0 => rfl
  | x :: l, i + 1 => by simp [eraseIdx_mapL f l i]
omit [DecidableEq K] in
theorem Rep.erase {es : Array MapEntry} {clock : Nat} {m : List (K × V)} (h : Rep encK encV es clock m) {i : Nat} (hi : i < m.length) : Rep encK encV (es.eraseIdxIfInBounds i) clock (m.eraseIdx i) := by
  have hsz := h.size
  have hie : i < es.size := by omega
  have hl : (es.eraseIdxIfInBounds i).toList = es.toList.eraseIdx i := by
    unfold Array.eraseIdxIfInBounds
    rw [dif_pos hie]
    simp
  refine ⟨?_, ?_, ?_⟩
  · rw [hl, ← eraseIdx_mapL, h.kvs, eraseIdx_mapL]
  · rw [hl, ← eraseIdx_mapL]
    exact h.born.sublist (List.eraseIdx_sublist _ _)
  · rw [hl]
    exact fun e he => h.old e (List.mem_of_mem_eraseIdx he)
theorem act_delete {t kt vt u : TypeId} {x y : Operand} {b : Nat} {m : List (K × V)} {k : K} {vk : Value} {F : Ent → List Ent} (hx : ev σ x = some (.map (some b))) (hy : ev σ y = some vk) (hvk : vk = encK k) (hs : SwF η (eM encK encV b m) F) (hk : KeyOk P kt encK) (ht : P.underlying t = some (.map kt vt)) :
    ActOk P C ⟨d, .call { callee := .builtin .delete, args := #[x, y], argTypes := #[t, u] }, ty, pos, af, gd⟩ σ η ι (fun v θ κ => v = .tuple #[] ∧ θ = F (eM encK encV b (mdel m k)) ∧ κ = ι) := fun ρ w hρ hst => by
  subst hvk
  obtain ⟨es, clock, hb, hr⟩ := hst.ent hs.mem
  have hlt : b < w.heap.size := (Array.getElem?_eq_some_iff.1 hb).1
  cases hm : mfi m k with
  | none =>
    have ha : ans encV m k 0 = none := by simp [ans, hm]
    have hrun : (execOp ρ ⟨d, .call { callee := .builtin .delete, args := #[x, y], argTypes := #[t, u] }, ty, pos, af, gd⟩).run P w = .ok (.value (.tuple #[])) (setBlock w b (.map es clock)) := by
      simp [execOp, resolve, invoke, builtin, hρ _ _ hx, hρ _ _ hy, Builtin.delete_, run_underlying ht, run_getObj hb, hk.check, findKey_run (encV := encV) hk k hr.kvs, ha, run_setMap hb]
    rw [hrun]
    refine ⟨_, _, ⟨rfl, rfl, rfl⟩, hst.setMap hs rfl rfl ⟨_, _, setBlock_heap_eq hlt, ?_⟩⟩
    rw [mfi_del_none hm]
    exact hr
  | some i =>
    obtain ⟨v0, h1, h2⟩ := mfi_at hm
    have ha : ans encV m k 0 = some (i, encV v0) := by simp [ans, hm, h1]
    have hrun : (execOp ρ ⟨d, .call { callee := .builtin .delete, args := #[x, y], argTypes := #[t, u] }, ty, pos, af, gd⟩).run P w = .ok (.value (.tuple #[])) (setBlock w b (.map (es.eraseIdxIfInBounds i) clock)) := by
      simp [execOp, resolve, invoke, builtin, hρ _ _ hx, hρ _ _ hy, Builtin.delete_, run_underlying ht, run_getObj hb, hk.check, findKey_run (encV := encV) hk k hr.kvs, ha, run_setMap hb]
    rw [hrun]
    refine ⟨_, _, ⟨rfl, rfl, rfl⟩, hst.setMap hs rfl rfl ⟨_, _, setBlock_heap_eq hlt, ?_⟩⟩
    rw [mfi_del hm]
    exact hr.erase (mfi_lt hm)
end
/-! ### maps of slices: the map keeps headers -/
abbrev Hdr := Option Addr × Nat × Nat
def encH (h : Hdr) : Value := .slice h.1 h.2.1 h.2.2
def nilH : Hdr := (none, 0, 0)
def RelH {K α : Type} (L : Lay α) : List (K × Hdr) → List (K × List α) → World → (Nat → Prop) → Prop
  | [], [], _, _ => True
  | h :: hm, p :: pm, w, S => h.1 = p.1 ∧ (fV (lSlice L) (encH h.2) p.2).R w S ∧ RelH L hm pm w S
  | _, _, _, _ => False
theorem RelH.keep {K α : Type} {L : Lay α} : ∀ {hm : List (K × Hdr)} {pm : List (K × List α)} {w w' : World} {S : Nat → Prop}, RelH L hm pm w S → (∀ b, S b → w'.heap[b]? = w.heap[b]?) → RelH L hm pm w' S
  | [], [], _, _, _, _, _ => trivial
  | _ :: _, _ :: _, _, _, _, ⟨h1, h2, h3⟩, hs => ⟨h1, (fV (lSlice L) _ _).keep h2 hs, h3.keep hs⟩
theorem RelH.sub {K α : Type} {L : Lay α} : ∀ {hm : List (K × Hdr)} {pm : List (K × List α)} {w : World} {S S' : Nat → Prop}, RelH L hm pm w S → (∀ b, S b → S' b) → RelH L hm pm w S'
  | [], [], _, _, _, _, _ => trivial
  | _ :: _, _ :: _, _, _, _, ⟨h1, h2, h3⟩, hs => ⟨h1, (fV (lSlice L) _ _).sub h2 hs, h3.sub hs⟩
theorem RelH.get {K α : Type} [DecidableEq K] {L : Lay α} {w : World} {S : Nat → Prop} (k : K) (h0 : (fV (lSlice L) (encH nilH) []).R w S) : ∀ {hm : List (K × Hdr)} {pm : List (K × List α)}, RelH L hm pm w S → (fV (lSlice L) (encH (mget hm k nilH)) (mget pm k [])).R w S
  | [], [], _ => h0
  | h :: _, p :: _, ⟨h1, h2, h3⟩ => by
    unfold mget
    by_cases hk : h.1 = k
    · rw [if_pos hk, if_pos (h1 ▸ hk)]
      exact h2
    · rw [if_neg hk, if_neg (h1 ▸ hk)]
      exact h3.get k h0
theorem RelH.set {K α : Type} [DecidableEq K] {L : Lay α} {w : World} {S : Nat → Prop} {k : K} {v : Hdr} {xs : List α} (hv : (fV (lSlice L) (encH v) xs).R w S) : ∀ {hm : List (K × Hdr)} {pm : List (K × List α)}, RelH L hm pm w S → RelH L (mset hm k v) (mset pm k xs) w S
  | [], [], _ => ⟨rfl, hv, trivial⟩
  | h :: hm, p :: pm, ⟨h1, h2, h3⟩ => by
    unfold mset
    by_cases hk : h.1 = k
    · rw [if_pos hk, if_pos (h1 ▸ hk)]
      exact ⟨h1, hv, h3⟩
    · rw [if_neg hk, if_neg (h1 ▸ hk)]
      exact ⟨h1, h2, h3.set hv⟩
theorem RelH.del {K α : Type} [DecidableEq K] {L : Lay α} {w : World} {S : Nat → Prop} {k : K} : ∀ {hm : List (K × Hdr)} {pm : List (K × List α)}, RelH L hm pm w S → RelH L (mdel hm k) (mdel pm k) w S
  | [], [], _ => trivial
  | h :: hm, p :: pm, ⟨h1, h2, h3⟩ => by
    unfold mdel
    by_cases hk : h.1 = k
    · rw [if_pos hk, if_pos (h1 ▸ hk)]
      exact h3
    · rw [if_neg hk, if_neg (h1 ▸ hk)]
      exact ⟨h1, h2, h3.del⟩
def fRel {K α : Type} (L : Lay α) (hm : List (K × Hdr)) (pm : List (K × List α)) : Fact where
  R := RelH L hm pm
  keep := fun h hs => h.keep hs
  sub := fun h hs => h.sub hs
section
variable {C : Cx} {η : List Ent} {ι : List Fact} {K α : Type} {L : Lay α} {w : World} {hm : List (K × Hdr)} {pm : List (K × List α)}
theorem St.relNil (K : Type) (L : Lay α) (h : St C η ι w) : St C η (fRel (K := K) L [] [] :: ι) w := h.fact trivial
theorem St.relGet [DecidableEq K] (h : St C η ι w) (hf : fRel L hm pm ∈ ι) (k : K) : St C η (fV (lSlice L) (.slice (mget hm k nilH).1 (mget hm k nilH).2.1 (mget hm k nilH).2.2) (mget pm k []) :: ι) w :=
  h.fact ((show RelH L hm pm w _ from h.facts _ hf).get k ⟨none, 0, 0, rfl, rfl, Nat.zero_le _, .inl rfl⟩)
theorem St.relSet [DecidableEq K] {A : Option Addr} {m c : Nat} {xs : List α} (h : St C η ι w) (hf : fRel L hm pm ∈ ι) (k : K) (hv : fV (lSlice L) (.slice A m c) xs ∈ ι) : St C η (fRel L (mset hm k (A, m, c)) (mset pm k xs) :: ι) w :=
  h.fact ((show RelH L hm pm w _ from h.facts _ hf).set (k := k) (v := (A, m, c)) (h.facts _ hv))
theorem St.relDel [DecidableEq K] (h : St C η ι w) (hf : fRel L hm pm ∈ ι) (k : K) : St C η (fRel L (mdel hm k) (mdel pm k) :: ι) w :=
  h.fact ((show RelH L hm pm w _ from h.facts _ hf).del (k := k))
end
/-- a map of slices that nobody changes -/
def eMS {K α : Type} (encK : K → Value) (L : Lay α) (b : Nat) (pm : List (K × List α)) : Ent where
  own := fun x => some b = some x
  ok := fun w S => ∃ es clock hm, w.heap[b]? = some (.map es clock) ∧ Rep encK encH es clock hm ∧ RelH L hm pm w S
  lt := fun ⟨_, _, _, hk, _⟩ hb => by
    simp only [Option.some.injEq] at hb
    subst hb
    exact (Array.getElem?_eq_some_iff.1 hk).1
  keep := fun ⟨es, c, hm, hk, hr, hl⟩ hs hS => ⟨es, c, hm, (hs b rfl).trans hk, hr, hl.keep hS⟩
  sub := fun ⟨es, c, hm, hk, hr, hl⟩ h => ⟨es, c, hm, hk, hr, hl.sub h⟩
section
variable {P : Program} {C : Cx} {σ : List (Nat × Value)} {η : List Ent} {ι : List Fact}
variable {d : Option Tmp} {ty : TypeId} {pos : String} {af : Array Edge} {gd : Option (Nat × Bool)}
variable {K α : Type} [DecidableEq K] {encK : K → Value} {L : Lay α}
omit [DecidableEq K] in
theorem act_makeMapS {t : TypeId} (encK : K → Value) (L : Lay α) : ActOk P C ⟨d, .makeMap t none, ty, pos, af, gd⟩ σ η ι (fun v θ κ => ∃ b, v = .map (some b) ∧ θ = eMS encK L b [] :: η ∧ κ = ι) := fun ρ w _ hst => by
  have hr : (execOp ρ ⟨d, .makeMap t none, ty, pos, af, gd⟩).run P w = .ok (.value (.map (some w.heap.size))) (w.alloc (.map #[] 0)) := by
    simp [execOp, Instr.makeMap, newObj, Sem.run]
  rw [hr]
  exact ⟨_, _, ⟨_, rfl, rfl, rfl⟩, hst.allocO _ _ rfl ⟨#[], 0, [], heap_alloc_new w _, ⟨rfl, by simp, by simp⟩, trivial⟩⟩
omit [DecidableEq K] in
theorem rel_set {w : World} {b : Nat} {o : Obj} {hm : List (K × Hdr)} {pm : List (K × List α)} (h : RelH L hm pm w (Im C η w)) {e : Ent} (he : e ∈ η) (ho : e.own b) : RelH L hm pm (setBlock w b o) (Im C η w) :=
  h.keep fun _ hx => setBlock_heap_ne fun ex => hx.2.2 e he (ex ▸ ho)
theorem act_lookupS {t kt vt : TypeId} {x y : Operand} {b : Nat} {pm : List (K × List α)} {k : K} {vk : Value} (hx : ev σ x = some (.map (some b))) (hy : ev σ y = some vk) (hv : vk = encK k) (he : eMS encK L b pm ∈ η) (hk : KeyOk P kt encK) (ht : P.underlying t = some (.map kt vt)) (hz : zeroB P vt = some (.slice none 0 0)) :
    ActOk P C ⟨d, .lookup t x y false, ty, pos, af, gd⟩ σ η ι (fun v θ κ => ∃ A m c, v = .slice A m c ∧ θ = η ∧ κ = fV (lSlice L) (.slice A m c) (mget pm k []) :: ι) := fun ρ w hρ hst => by
  subst hv
  obtain ⟨es, clock, hm, hb, hr, hl⟩ := hst.ent he
  have hrun : (execOp ρ ⟨d, .lookup t x y false, ty, pos, af, gd⟩).run P w = .ok (.value (encH (mget hm k nilH))) w := by
    simp [execOp, hρ _ _ hx, hρ _ _ hy, run_lookup (z := nilH) hb hr hk ht hz]
  rw [hrun]
  exact ⟨_, _, ⟨_, _, _, rfl, rfl, rfl⟩, hst.fact (hl.get k ⟨none, 0, 0, rfl, rfl, Nat.zero_le _, .inl rfl⟩)⟩
theorem RelH.none {w : World} {S : Nat → Prop} {k : K} : ∀ {hm : List (K × Hdr)} {pm : List (K × List α)}, RelH L hm pm w S → mhas pm k = false → mget hm k nilH = nilH
  | [], [], _, _ => rfl
  | h :: _, p :: _, ⟨h1, _, h3⟩, hn => by
    unfold mhas at hn
    unfold mget
    split at hn
    · cases hn
    · rename_i hk
      rw [if_neg (h1 ▸ hk)]
      exact h3.none hn
theorem det_lookupS0 {t kt vt : TypeId} {x y : Operand} {b : Nat} {pm : List (K × List α)} {k : K} {vk : Value} (hx : ev σ x = some (.map (some b))) (hy : ev σ y = some vk) (hv : vk = encK k) (he : eMS encK L b pm ∈ η) (hk : KeyOk P kt encK) (ht : P.underlying t = some (.map kt vt)) (hz : zeroB P vt = some (.slice none 0 0)) (hn : mhas pm k = false) :
    Det P C ⟨d, .lookup t x y false, ty, pos, af, gd⟩ σ η ι (.slice none 0 0) := fun ρ w hρ hst => by
  subst hv
  obtain ⟨es, clock, hm, hb, hr, hl⟩ := hst.ent he
  have h1 := run_lookup (z := nilH) (x := k) hb hr hk ht hz
  rw [hl.none hn] at h1
  have h2 : encH nilH = .slice none 0 0 := rfl
  simp [execOp, hρ _ _ hx, hρ _ _ hy, h1, h2]
theorem act_mapUpdateS {t kt vt : TypeId} {x y u : Operand} {b : Nat} {pm : List (K × List α)} {k : K} {A : Option Addr} {n c : Nat} {xs : List α} {vk vv : Value} {F : Ent → List Ent} (hx : ev σ x = some (.map (some b))) (hy : ev σ y = some vk) (hvk : vk = encK k) (hu : ev σ u = some vv) (hvv : vv = .slice A n c) (hf : fV (lSlice L) (.slice A n c) xs ∈ ι) (hs : SwF η (eMS encK L b pm) F) (hk : KeyOk P kt encK) (ht : P.underlying t = some (.map kt vt)) :
    ActOk P C ⟨d, .mapUpdate t x y u, ty, pos, af, gd⟩ σ η ι (fun _ θ κ => θ = F (eMS encK L b (mset pm k xs)) ∧ κ = ι) := fun ρ w hρ hst => by
  subst hvk hvv
  obtain ⟨es, clock, m, hb, hr, hl⟩ := hst.ent hs.mem
  have hlt : b < w.heap.size := (Array.getElem?_eq_some_iff.1 hb).1
  have hl2 := hl.set (k := k) (v := (A, n, c)) (hst.facts _ hf)
  cases hm : mfi m k with
  | none =>
    have ha : ans encH m k 0 = none := by simp [ans, hm]
    have hrun : (execOp ρ ⟨d, .mapUpdate t x y u, ty, pos, af, gd⟩).run P w = .ok .skip (setBlock w b (.map (es.push { key := encK k, val := .slice A n c, born := clock }) (clock + 1))) := by
      simp [execOp, hρ _ _ hx, hρ _ _ hy, hρ _ _ hu, Instr.mapUpdate, run_underlying ht, run_getObj hb, hk.check, findKey_run (encV := encH) hk k hr.kvs, ha, run_setMap hb]
    rw [hrun]
    refine ⟨_, _, ⟨rfl, rfl⟩, hst.setMap hs rfl rfl ⟨_, _, _, setBlock_heap_eq hlt, ?_, rel_set hl2 hs.mem rfl⟩⟩
    rw [(mfi_none hm).2]
    exact hr.push k (A, n, c)
  | some i =>
    obtain ⟨v0, h1, h2⟩ := mfi_at hm
    have ha : ans encH m k 0 = some (i, encH v0) := by simp [ans, hm, h1]
    obtain ⟨e, he, hek, hev⟩ := hr.at_ h1
    have hrun : (execOp ρ ⟨d, .mapUpdate t x y u, ty, pos, af, gd⟩).run P w = .ok .skip (setBlock w b (.map (es.modify i fun e => { e with key := encK k, val := .slice A n c }) clock)) := by
      simp [execOp, hρ _ _ hx, hρ _ _ hy, hρ _ _ hu, Instr.mapUpdate, run_underlying ht, run_getObj hb, hk.check, findKey_run (encV := encH) hk k hr.kvs, ha, run_setMap hb, he, hek, Instr.keyThatStays, hk.bits]
    rw [hrun]
    refine ⟨_, _, ⟨rfl, rfl⟩, hst.setMap hs rfl rfl ⟨_, _, _, setBlock_heap_eq hlt, ?_, rel_set hl2 hs.mem rfl⟩⟩
    rw [mfi_set hm]
    exact hr.set _ (fun e _ => ⟨rfl, rfl, rfl⟩) (mfi_lt hm)
theorem act_deleteS {t kt vt u : TypeId} {x y : Operand} {b : Nat} {pm : List (K × List α)} {k : K} {vk : Value} {F : Ent → List Ent} (hx : ev σ x = some (.map (some b))) (hy : ev σ y = some vk) (hvk : vk = encK k) (hs : SwF η (eMS encK L b pm) F) (hk : KeyOk P kt encK) (ht : P.underlying t = some (.map kt vt)) :
    ActOk P C ⟨d, .call { callee := .builtin .delete, args := #[x, y], argTypes := #[t, u] }, ty, pos, af, gd⟩ σ η ι (fun v θ κ => v = .tuple #[] ∧ θ = F (eMS encK L b (mdel pm k)) ∧ κ = ι) := fun ρ w hρ hst => by
  subst hvk
  obtain ⟨es, clock, m, hb, hr, hl⟩ := hst.ent hs.mem
  have hlt : b < w.heap.size := (Array.getElem?_eq_some_iff.1 hb).1
  have hl2 := hl.del (k := k)
  cases hm : mfi m k with
  | none =>
    have ha : ans encH m k 0 = none := by simp [ans, hm]
    have hrun : (execOp ρ ⟨d, .call { callee := .builtin .delete, args := #[x, y], argTypes := #[t, u] }, ty, pos, af, gd⟩).run P w = .ok (.value (.tuple #[])) (setBlock w b (.map es clock)) := by
      simp [execOp, resolve, invoke, builtin, hρ _ _ hx, hρ _ _ hy, Builtin.delete_, run_underlying ht, run_getObj hb, hk.check, findKey_run (encV := encH) hk k hr.kvs, ha, run_setMap hb]
    rw [hrun]
    refine ⟨_, _, ⟨rfl, rfl, rfl⟩, hst.setMap hs rfl rfl ⟨_, _, _, setBlock_heap_eq hlt, ?_, rel_set hl2 hs.mem rfl⟩⟩
    rw [mfi_del_none hm]
    exact hr
  | some i =>
    obtain ⟨v0, h1, h2⟩ := mfi_at hm
    have ha : ans encH m k 0 = some (i, encH v0) := by simp [ans, hm, h1]
    have hrun : (execOp ρ ⟨d, .call { callee := .builtin .delete, args := #[x, y], argTypes := #[t, u] }, ty, pos, af, gd⟩).run P w = .ok (.value (.tuple #[])) (setBlock w b (.map (es.eraseIdxIfInBounds i) clock)) := by
      simp [execOp, resolve, invoke, builtin, hρ _ _ hx, hρ _ _ hy, Builtin.delete_, run_underlying ht, run_getObj hb, hk.check, findKey_run (encV := encH) hk k hr.kvs, ha, run_setMap hb]
    rw [hrun]
    refine ⟨_, _, ⟨rfl, rfl, rfl⟩, hst.setMap hs rfl rfl ⟨_, _, _, setBlock_heap_eq hlt, ?_, rel_set hl2 hs.mem rfl⟩⟩
    rw [mfi_del hm]
    exact hr.erase (mfi_lt hm)
end
end Go.Proofs.Ytfekcgnnhjmeiaa
