/- The logic of symbolic states: slices made by make, by literals, parts of slices. Generic: names no function of the program. -/
import Derived.Test.YtfekcgnnhjmeiaaKRows
namespace Go.Proofs.Ytfekcgnnhjmeiaa
open Go.RowKit

section
variable {P : Program} {C : Cx} {n : FN} {Q : Exit → Act → World → Prop} {σ : List (Nat × Value)} {η : List Ent} {ι : List Fact}
variable {d : Option Tmp} {ty : TypeId} {pos : String} {af : Array Edge} {gd : Option (Nat × Bool)}

/-- a new row -/
theorem St.allocS {α : Type} {L : Lay α} {e : TypeId} {w : World} {cur : Array Value} {m c : Nat} {xs : List α} (h : St C η ι w) (hm : m = xs.length) (hmc : m ≤ c) (hc : c ≤ maxLen) (hs : cur.size = c * L.size) (hcl : Cells L w (Im C η w) (cur.toList.take (m * L.size)) xs) :
    St C (eS L e (some ⟨w.heap.size, 0, none⟩) m c xs :: η) ι (w.alloc (.cells cur e)) := by
  have hx := h.alloc e cur.toList
  simp only [Array.toArray_toList] at hx
  by_cases hc0 : c = 0
  · have h0 : xs = [] := List.eq_nil_of_length_eq_zero (by omega)
    subst h0 hc0
    have hm0 : m = 0 := by omega
    subst hm0
    exact hx.tail.zeroS L e _
  · refine hx.turn (θ₁ := []) (e := eBlk w.heap.size e cur.toList) rfl rfl ⟨rfl, Nat.le_refl _⟩ (Nat.le_refl _) (fun _ _ _ => rfl) ⟨hm, .inr ⟨hc0, _, ⟨?_, .inr ⟨w.heap.size, c, cur, rfl, Nat.zero_le _, heap_alloc_new w _, hmc, hc, Nat.le_of_eq hs.symm, rfl⟩⟩, ?_⟩⟩ (fun b hb => .inl ?_)
    · rw [hcl.1, hm]
    · refine (hcl.keep fun b hb => Below.heap_alloc w _ b hb.1).sub fun b hb => ⟨Nat.lt_of_lt_of_le hb.1 (by simp), hb.2.1, fun x hx => ?_⟩
      simp only [List.nil_append, List.mem_cons] at hx
      rcases hx with rfl | hx
      · simp only [eBlk, Option.some.injEq]
        have := hb.1
        omega
      · exact hb.2.2 x hx
    · rw [eS_block hc0] at hb
      exact hb
/-- the zero of an element type -/
def zeroOk {α : Type} (L : Lay α) (z : Value) (x0 : α) : Prop := z.cells.size = L.size ∧ ∀ w S, L.R w S z.cells.toList x0
theorem made_take {z : Array Value} {m c q : Nat} (hz : z.size = q) (hmc : m ≤ c) (hq : 0 < q) : (madeCells z (c * q)).toList.take (m * q) = (List.replicate m z.toList).flatten := by
  subst hz
  apply List.ext_getElem?
  intro j
  have hle : m * z.size ≤ c * z.size := Nat.mul_le_mul_right _ hmc
  rw [List.getElem?_take]
  by_cases hj : j < m * z.size
  · rw [if_pos hj]
    have h1 : (madeCells z (c * z.size)).toList[j]? = some (z[j % z.size]'(Nat.mod_lt _ hq)) := by
      have hj2 : j < c * z.size := by omega
      simp [madeCells, hj2, Nat.mod_lt _ hq]
    rw [h1]
    symm
    clear h1
    have key : ∀ (m j : Nat) (_ : j < m * z.size), (List.replicate m z.toList).flatten[j]? = some (z[j % z.size]'(Nat.mod_lt _ hq)) := by
      intro m
      induction m with
      | zero => intro j hj; simp at hj
      | succ m ih =>
        intro j hj
        rw [List.replicate_succ, List.flatten_cons]
        by_cases h2 : j < z.size
        · rw [List.getElem?_append_left (by simpa using h2)]
          simp [h2, Nat.mod_eq_of_lt h2]
        · rw [List.getElem?_append_right (by simpa using h2)]
          have h3 := ih (j - z.size) (by rw [Nat.succ_mul] at hj; omega)
          have h4 : (j - z.size) % z.size = j % z.size := by
            rw [← Nat.mod_eq_sub_mod (by omega)]
          simp only [h4, Array.length_toList] at h3 ⊢
          exact h3
    exact key m j hj
  · rw [if_neg hj]
    symm
    rw [List.getElem?_eq_none]
    simp [List.length_flatten]
    omega
theorem Cells.replicate {α : Type} {L : Lay α} {w : World} {S : Nat → Prop} {zs : List Value} {x0 : α} (h : L.R w S zs x0) : ∀ m, Cells L w S (List.replicate m zs).flatten (List.replicate m x0)
  | 0 => Cells.nil
  | m + 1 => by
    rw [List.replicate_succ, List.flatten_cons, List.replicate_succ]
    exact (Cells.one h).cat (Cells.replicate h m)
/-- make([]T, l, c) -/
theorem act_makeS {α : Type} {L : Lay α} {x0 : α} {t e : TypeId} {x y : Operand} {kl kc : IntKind} {l c : Int} {bytes : Nat} {z : Value} (hx : ev σ x = some (.int kl l)) (hy : ev σ y = some (.int kc c)) (hu : P.underlying t = some (.slice e)) (hi : (P.info? e).map (fun i => (i.zero, i.size, i.bytes)) = some (some z, L.size, bytes)) (hz : zeroOk L z x0) (hsz : Nat.blt 0 L.size = true) (hby : Nat.ble bytes 100000 = true)
    (h0 : decide (0 ≤ l) = true) (hlc : decide (l ≤ c) = true) (hroom : decide (c ≤ 1000000000) = true) :
    ActOk P C ⟨d, .makeSlice t x y, ty, pos, af, gd⟩ σ η ι (fun v θ κ => ∃ A c', v = .slice A (List.replicate l.toNat x0).length c' ∧ θ = eS L e A (List.replicate l.toNat x0).length c' (List.replicate l.toNat x0) :: η ∧ κ = ι) := fun ρ w hρ hst => by
  simp only [decide_eq_true_eq] at h0 hlc hroom
  obtain ⟨i, hi0, hi1⟩ := Option.map_eq_some_iff.1 hi
  simp only [Prod.mk.injEq] at hi1
  obtain ⟨hz0, hz1, hz2⟩ := hi1
  have hsz' : 0 < L.size := by simpa [Nat.blt_eq] using hsz
  have hby' : bytes ≤ 100000 := by simpa using hby
  have hbb : (i.bytes : Int) * c ≤ 281474976710656 := by
    rw [hz2]
    have h1 : (bytes : Int) * c ≤ 100000 * 1000000000 := Int.mul_le_mul (by omega) hroom (by omega) (by omega)
    omega
  have h := run_make (P := P) w t e i z hu hi0 hz0 kl kc l c h0 hlc hbb (by omega)
  have hr : (execOp ρ ⟨d, .makeSlice t x y, ty, pos, af, gd⟩).run P w = .ok (.value (.slice (some ⟨w.heap.size, 0, none⟩) l.toNat c.toNat)) (w.alloc (.cells (madeCells z.cells (c.toNat * L.size)) e)) := by
    rw [hz1] at h
    simp [execOp, hρ _ _ hx, hρ _ _ hy, h]
  rw [hr]
  refine ⟨_, _, ⟨_, c.toNat, by rw [List.length_replicate], rfl, rfl⟩, ?_⟩
  simp only [List.length_replicate]
  refine hst.allocS (by simp) (by omega) (by simp only [maxLen]; omega) (size_madeCells _ _) ?_
  rw [made_take hz.1 (by omega) hsz']
  exact Cells.replicate (hz.2 _ _) _
/-- []T{} -/
theorem act_lit0S {α : Type} (L : Lay α) {t e : TypeId} (hu : P.underlying t = some (.slice e)) (he : (P.info? e).isSome = true) :
    ActOk P C ⟨d, .buildSlice t 0 #[], ty, pos, af, gd⟩ σ η ι (fun v θ κ => ∃ A, v = .slice A 0 0 ∧ θ = eS L e A 0 0 [] :: η ∧ κ = ι) := fun ρ w hρ hst => by
  obtain ⟨i, hi⟩ := Option.isSome_iff_exists.1 he
  have hr : (execOp ρ ⟨d, .buildSlice t 0 #[], ty, pos, af, gd⟩).run P w = .ok (.value (.slice (some ⟨w.heap.size, 0, none⟩) 0 0)) (w.alloc (.cells #[] e)) := by
    simp [execOp, Instr.buildSlice, run_underlying hu, Go.sizeOf, typeInfo, hi, Instr.fill, newRow]
    congr 2
    apply Array.ext <;> simp
  rw [hr]
  refine ⟨_, _, ⟨_, rfl, rfl, rfl⟩, ?_⟩
  exact (hst.alloc e []).tail.zeroS L e _
/-- a slice literal that names every element -/
theorem act_litS {α : Type} (L : Lay α) {t e : TypeId} {len bytes : Nat} {zv : Value} {ps : List (Nat × Operand)} {vs cs : List Value} (xs : List α) (hu : P.underlying t = some (.slice e)) (hi : (P.info? e).map (fun i => (i.zero, i.size, i.bytes)) = some (some zv, L.size, bytes)) (hp : evVals σ 0 ps = some vs) (hl : vs.length = len) (hz : Nat.blt 0 L.size = true) (hpos : Nat.blt 0 len = true) (hsm : Nat.ble (len * L.size) 16777216 = true) (hsz : Sized L.size vs) (hc : flatV vs = cs) (hxl : xs.length = len)
    (hR : ∀ w, St C η ι w → Cells L w (Im C η w) cs xs) :
    ActOk P C ⟨d, .buildSlice t len ps.toArray, ty, pos, af, gd⟩ σ η ι (fun v θ κ => ∃ A, v = .slice A len len ∧ θ = eS L e A len len xs :: η ∧ κ = ι) := fun ρ w hρ hst => by
  have hm := evVals_map hρ hp
  subst hc
  obtain ⟨i, hi0, hi1⟩ := Option.map_eq_some_iff.1 hi
  simp only [Prod.mk.injEq] at hi1
  obtain ⟨hz0, hz1, _⟩ := hi1
  have hz' : 0 < L.size := by simpa [Nat.blt_eq] using hz
  have hpos' : 0 < len := by simpa [Nat.blt_eq] using hpos
  have hs1 : len * L.size ≤ 16777216 := by simpa using hsm
  have hs2 := Nat.mul_pos hpos' hz'
  have hcl := hR w hst
  have hfl : (flatV vs).length = len * L.size := by rw [hcl.1, hxl]
  have hr : (execOp ρ ⟨d, .buildSlice t len ps.toArray, ty, pos, af, gd⟩).run P w = .ok (.value (.slice (some ⟨w.heap.size, 0, none⟩) len len)) (w.alloc (.cells (flatV vs).toArray e)) := by
    have h := run_buildSlice (P := P) w t e len (ps.toArray.map fun p => (p.1, ρ p.2)) (flatV vs).toArray i zv hu hi0 hz0 (by rw [hz1]; omega) (by rw [hz1]; omega) (by
      rw [Array.toList_map, hm, flatV_eq, hz1, ← hl]
      exact _root_.Go.Great.fill_whole hz' vs _ hsz.all (by simp))
    simp only [execOp, Sem.run_bind, h, Result.andThen_ok]
    rfl
  rw [hr]
  refine ⟨_, _, ⟨_, rfl, rfl, rfl⟩, hst.allocS hxl.symm (Nat.le_refl _) (by simp only [maxLen]; have := Nat.le_mul_of_pos_right len hz'; omega) (by simpa using hfl) ?_⟩
  simp only [← hfl, List.take_length]
  exact hcl
theorem litR_flat {α : Type} {enc : α → List Value} {z : Nat} {hl : ∀ x, (enc x).length = z} {h1 : ∀ x, ∀ u ∈ enc x, u.oneCell' = true} {cs : List Value} {xs : List α} (h : xs.flatMap enc = cs) : ∀ w, St C η ι w → Cells (lFlat enc z hl h1) w (Im C η w) cs xs := fun w _ => by
  subst h
  exact Cells.flat (L := lFlat enc z hl h1) (fun _ => rfl) xs
theorem stR_flat {α : Type} {enc : α → List Value} {z off : Nat} {hl : ∀ x, (enc x).length = z} {h1 : ∀ x, ∀ u ∈ enc x, u.oneCell' = true} {cells : List Value} {x x' : α} (ho : Nat.ble (off + cells.length) z = true) (he : (enc x).take off ++ cells ++ (enc x).drop (off + cells.length) = enc x') :
    ∀ w cs, St C η ι w → (lFlat enc z hl h1).R w (Im C η w) cs x → off + cells.length ≤ (lFlat enc z hl h1).size ∧ (lFlat enc z hl h1).R w (Im C η w) (cs.take off ++ cells ++ cs.drop (off + cells.length)) x' := fun w cs _ h => by
  have h : cs = enc x := h
  subst h
  exact ⟨Nat.le_of_ble_eq_true ho, he⟩
theorem stR_fact {α : Type} {L : Lay α} {cells : List Value} {x x' : α} (hf : fC L cells x' ∈ ι) : ∀ w cs, St C η ι w → L.R w (Im C η w) cs x → 0 + cells.length ≤ L.size ∧ L.R w (Im C η w) (cs.take 0 ++ cells ++ cs.drop (0 + cells.length)) x' := fun w cs hst h => by
  have h2 : L.R w (Im C η w) cells x' := hst.facts _ hf
  have hl := L.len h2
  have hl2 := L.len h
  refine ⟨by omega, ?_⟩
  simp only [List.take_zero, List.nil_append, Nat.zero_add]
  rw [List.drop_eq_nil_of_le (by omega), List.append_nil]
  exact h2

/-! ### parts of a slice -/
def slA (A : Option Addr) (M l z : Nat) : Option Addr := if M = l then A else A.map (·.add (l * z))
theorem Els.sel {α : Type} {L : Lay α} {w : World} {S : Nat → Prop} {A : Option Addr} {xs : List α} (h : Els L w S A xs) {l h' M : Nat} (hM : h' ≤ M) : Els L w S (slA A M l L.size) ((xs.take h').drop l) := by
  unfold slA
  split
  · rename_i e
    subst e
    refine .inl ?_
    rw [List.drop_eq_nil_iff, List.length_take]
    omega
  · exact (h.take h').drop l
theorem act_slice {α : Type} {L : Lay α} {x : Operand} {lo hi mx : Option Operand} {t e : TypeId} {A : Option Addr} {m c z l h M : Nat} {xs ys : List α} {lv hv mv : Option Value} (hx : ev σ x = some (.slice A m c)) (hf : fV (lSlice L) (.slice A m c) xs ∈ ι)
    (hlo : ∀ ρ : Operand → Value, (∀ x u, ev σ x = some u → ρ x = u) → lo.map ρ = lv ∧ hi.map ρ = hv ∧ mx.map ρ = mv) (ht : P.underlying t = some (.slice e)) (hL : L.size = z) (hr : ∀ w, m = xs.length → m ≤ c → h ≤ M ∧ (Instr.slice t (.slice A m c) lv hv mv).run P w = .ok (.slice (slA A M l z) (h - l) (M - l)) w) (hhm : h ≤ xs.length) (hlh : l ≤ h) (hys : (xs.take h).drop l = ys) :
    ActOk P C ⟨d, .slice t x lo hi mx, ty, pos, af, gd⟩ σ η ι (fun v θ κ => ∃ A' c', v = .slice A' ys.length c' ∧ θ = η ∧ κ = fV (lSlice L) (.slice A' ys.length c') ys :: ι) := fun ρ w hρ hst => by
  obtain ⟨h1, h2, h3⟩ := hlo ρ hρ
  obtain ⟨hm, hmc, hel⟩ := lSlice_of (hst.facts _ hf)
  obtain ⟨hMh, hrw⟩ := hr w hm hmc
  have hrun : (execOp ρ ⟨d, .slice t x lo hi mx, ty, pos, af, gd⟩).run P w = .ok (.value (.slice (slA A M l z) (h - l) (M - l))) w := by
    simp [execOp, hρ _ _ hx, h1, h2, h3, Instr.sliceAt, run_underlying ht, hrw]
  rw [hrun]
  subst hys
  have hlen : ((xs.take h).drop l).length = h - l := by rw [List.length_drop, List.length_take]; omega
  refine ⟨_, _, ⟨_, _, by rw [hlen], rfl, rfl⟩, hst.fact ⟨_, _, _, rfl, rfl, by rw [hlen]; omega, ?_⟩⟩
  subst hL
  exact hel.sel (by omega)
theorem run_slice_gen {t e : TypeId} {A : Option Addr} {m c z l h M : Nat} {lv hv mv : Option Value} {w : World} (ht : P.underlying t = some (.slice e)) (hz : sizeB P e = some z) (hb : (Instr.sliceBounds true m c lv hv mv).run P w = .ok (l, h, M) w) : (Instr.slice t (.slice A m c) lv hv mv).run P w = .ok (.slice (slA A M l z) (h - l) (M - l)) w := by
  obtain ⟨q, hq, rfl⟩ : ∃ q, P.info? e = some q ∧ q.size = z := by simpa [sizeB] using hz
  simp [Instr.slice, run_underlying ht, hb, Go.sizeOf, typeInfo, hq, slA]
theorem run_bound {k : IntKind} {i : Int} {y : Nat} {code : BoundsCode} {w : World} (h0 : 0 ≤ i) (h1 : i.toNat ≤ y) : (Instr.sliceBound (.int k i) y code).run P w = .ok i.toNat w := by
  have h2 : i ≤ (y : Int) := by omega
  simp [Instr.sliceBound, asIntOf, h0, h2]
/-- x[:h] -/
theorem act_sliceH {α : Type} {L : Lay α} {x y : Operand} {t e : TypeId} {A : Option Addr} {m c z : Nat} {k : IntKind} {h : Int} {xs : List α} (hx : ev σ x = some (.slice A m c)) (hy : ev σ y = some (.int k h)) (hf : fV (lSlice L) (.slice A m c) xs ∈ ι) (ht : P.underlying t = some (.slice e)) (hz : sizeB P e = some z) (hL : L.size = z) (h0 : decide (0 ≤ h) = true) (h1 : decide (h ≤ (xs.length : Int)) = true) :
    ActOk P C ⟨d, .slice t x none (some y) none, ty, pos, af, gd⟩ σ η ι (fun v θ κ => ∃ A' c', v = .slice A' (xs.take h.toNat).length c' ∧ θ = η ∧ κ = fV (lSlice L) (.slice A' (xs.take h.toNat).length c') (xs.take h.toNat) :: ι) := by
  simp only [decide_eq_true_eq] at h0 h1
  refine act_slice (l := 0) (h := h.toNat) (M := c) (lv := none) (hv := some (.int k h)) (mv := none) hx hf (fun ρ hρ => ⟨rfl, by simp [hρ _ _ hy], rfl⟩) ht hL (fun w hm hmc => ⟨by omega, run_slice_gen ht hz ?_⟩) (by omega) (Nat.zero_le _) (by simp)
  simp [Instr.sliceBounds, run_bound (P := P) (w := w) (k := k) (y := c) (code := .sliceAcap) h0 (by omega)]
/-- x[l:] -/
theorem act_sliceL {α : Type} {L : Lay α} {x y : Operand} {t e : TypeId} {A : Option Addr} {m c z : Nat} {k : IntKind} {l : Int} {xs : List α} (hx : ev σ x = some (.slice A m c)) (hy : ev σ y = some (.int k l)) (hf : fV (lSlice L) (.slice A m c) xs ∈ ι) (ht : P.underlying t = some (.slice e)) (hz : sizeB P e = some z) (hL : L.size = z) (h0 : decide (0 ≤ l) = true) (h1 : decide (l ≤ (xs.length : Int)) = true) :
    ActOk P C ⟨d, .slice t x (some y) none none, ty, pos, af, gd⟩ σ η ι (fun v θ κ => ∃ A' c', v = .slice A' (xs.drop l.toNat).length c' ∧ θ = η ∧ κ = fV (lSlice L) (.slice A' (xs.drop l.toNat).length c') (xs.drop l.toNat) :: ι) := by
  simp only [decide_eq_true_eq] at h0 h1
  refine act_slice (l := l.toNat) (h := xs.length) (M := c) (lv := some (.int k l)) (hv := none) (mv := none) hx hf (fun ρ hρ => ⟨by simp [hρ _ _ hy], rfl, rfl⟩) ht hL (fun w hm hmc => ⟨by omega, run_slice_gen ht hz ?_⟩) (Nat.le_refl _) (by omega) (by simp)
  subst hm
  simp [Instr.sliceBounds, run_bound (P := P) (w := w) (k := k) (y := xs.length) (code := .sliceB) h0 (by omega)]
/-- x[l:h] -/
theorem act_sliceLH {α : Type} {L : Lay α} {x y y2 : Operand} {t e : TypeId} {A : Option Addr} {m c z : Nat} {k k2 : IntKind} {l h : Int} {xs : List α} (hx : ev σ x = some (.slice A m c)) (hy : ev σ y = some (.int k l)) (hy2 : ev σ y2 = some (.int k2 h)) (hf : fV (lSlice L) (.slice A m c) xs ∈ ι) (ht : P.underlying t = some (.slice e)) (hz : sizeB P e = some z) (hL : L.size = z) (h0 : decide (0 ≤ l) = true) (h1 : decide (l ≤ h) = true) (h2 : decide (h ≤ (xs.length : Int)) = true) :
    ActOk P C ⟨d, .slice t x (some y) (some y2) none, ty, pos, af, gd⟩ σ η ι (fun v θ κ => ∃ A' c', v = .slice A' ((xs.take h.toNat).drop l.toNat).length c' ∧ θ = η ∧ κ = fV (lSlice L) (.slice A' ((xs.take h.toNat).drop l.toNat).length c') ((xs.take h.toNat).drop l.toNat) :: ι) := by
  simp only [decide_eq_true_eq] at h0 h1 h2
  refine act_slice (l := l.toNat) (h := h.toNat) (M := c) (lv := some (.int k l)) (hv := some (.int k2 h)) (mv := none) hx hf (fun ρ hρ => ⟨by simp [hρ _ _ hy], by simp [hρ _ _ hy2], rfl⟩) ht hL (fun w hm hmc => ⟨by omega, run_slice_gen ht hz ?_⟩) (by omega) (by omega) rfl
  simp [Instr.sliceBounds, run_bound (P := P) (w := w) (k := k2) (y := c) (code := .sliceAcap) (by omega : 0 ≤ h) (by omega), run_bound (P := P) (w := w) (k := k) (y := h.toNat) (code := .sliceB) h0 (by omega)]
end
end Go.Proofs.Ytfekcgnnhjmeiaa
