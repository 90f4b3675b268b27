/- The logic of symbolic states: the rest of the operations, in the form in which a program writes them down. Generic: names no function of the program. -/
import Derived.Test.YtfekcgnnhjmeiaaKEq
namespace Go.Proofs.Ytfekcgnnhjmeiaa
open Go.RowKit

section
variable {P : Program} {C : Cx} {n : FN} {Q : Exit → Act → World → Prop} {σ : List (Nat × Value)} {η : List Ent} {ι : List Fact}
variable {d : Option Tmp} {ty : TypeId} {pos : String} {af : Array Edge} {gd : Option (Nat × Bool)}

theorem det_band {x y : Operand} {t u : TypeId} {k : IntKind} {i j : Int} (hx : ev σ x = some (.int k i)) (hy : ev σ y = some (.int k j)) : Det P C ⟨d, .binOp .and t x y u, ty, pos, af, gd⟩ σ η ι (.int k (bAnd k i j)) :=
  fun ρ w hρ _ => by simp [execOp, hρ _ _ hx, hρ _ _ hy, eqGuard, binOp, Op.intBits, bAnd]
theorem det_bor {x y : Operand} {t u : TypeId} {k : IntKind} {i j : Int} (hx : ev σ x = some (.int k i)) (hy : ev σ y = some (.int k j)) : Det P C ⟨d, .binOp .or t x y u, ty, pos, af, gd⟩ σ η ι (.int k (bOr k i j)) :=
  fun ρ w hρ _ => by simp [execOp, hρ _ _ hx, hρ _ _ hy, eqGuard, binOp, Op.intBits, bOr]
theorem det_bxor {x y : Operand} {t u : TypeId} {k : IntKind} {i j : Int} (hx : ev σ x = some (.int k i)) (hy : ev σ y = some (.int k j)) : Det P C ⟨d, .binOp .xor t x y u, ty, pos, af, gd⟩ σ η ι (.int k (bXor k i j)) :=
  fun ρ w hρ _ => by simp [execOp, hρ _ _ hx, hρ _ _ hy, eqGuard, binOp, Op.intBits, bXor]
theorem det_bandNot {x y : Operand} {t u : TypeId} {k : IntKind} {i j : Int} (hx : ev σ x = some (.int k i)) (hy : ev σ y = some (.int k j)) : Det P C ⟨d, .binOp .andNot t x y u, ty, pos, af, gd⟩ σ η ι (.int k (bAndNot k i j)) :=
  fun ρ w hρ _ => by simp [execOp, hρ _ _ hx, hρ _ _ hy, eqGuard, binOp, Op.intBits, bAndNot]
theorem det_shl {x y : Operand} {t u : TypeId} {k k' : IntKind} {i j : Int} (hx : ev σ x = some (.int k i)) (hy : ev σ y = some (.int k' j)) (h : decide (0 ≤ j) = true) : Det P C ⟨d, .binOp .shl t x y u, ty, pos, af, gd⟩ σ η ι (.int k (bShl k i j)) :=
  fun ρ w hρ _ => by
    have h' : ¬ j < 0 := by simpa using h
    simp [execOp, hρ _ _ hx, hρ _ _ hy, eqGuard, binOp, Op.shift, h', bShl]
theorem det_shr {x y : Operand} {t u : TypeId} {k k' : IntKind} {i j : Int} (hx : ev σ x = some (.int k i)) (hy : ev σ y = some (.int k' j)) (h : decide (0 ≤ j) = true) : Det P C ⟨d, .binOp .shr t x y u, ty, pos, af, gd⟩ σ η ι (.int k (bShr k i j)) :=
  fun ρ w hρ _ => by
    have h' : ¬ j < 0 := by simpa using h
    simp [execOp, hρ _ _ hx, hρ _ _ hy, eqGuard, binOp, Op.shift, h', bShr]
theorem det_quoB {x y : Operand} {t u : TypeId} {k : IntKind} {i j : Int} (hx : ev σ x = some (.int k i)) (hy : ev σ y = some (.int k j)) (h0 : (!decide (j = 0)) = true) : Det P C ⟨d, .binOp .quo t x y u, ty, pos, af, gd⟩ σ η ι (.int k (k.wrap (i.tdiv j))) := det_quo hx hy (by simpa using h0)
theorem det_remB {x y : Operand} {t u : TypeId} {k : IntKind} {i j : Int} (hx : ev σ x = some (.int k i)) (hy : ev σ y = some (.int k j)) (h0 : (!decide (j = 0)) = true) : Det P C ⟨d, .binOp .rem t x y u, ty, pos, af, gd⟩ σ η ι (.int k (i.tmod j)) := det_rem hx hy (by simpa using h0)
theorem det_minI {x y : Operand} {t u : TypeId} {k : IntKind} {i j : Int} (hx : ev σ x = some (.int k i)) (hy : ev σ y = some (.int k j)) :
    Det P C ⟨d, .call { callee := .builtin .min, args := #[x, y], argTypes := #[t, u] }, ty, pos, af, gd⟩ σ η ι (.int k (minI i j)) := det_min hx hy
theorem det_maxI {x y : Operand} {t u : TypeId} {k : IntKind} {i j : Int} (hx : ev σ x = some (.int k i)) (hy : ev σ y = some (.int k j)) :
    Det P C ⟨d, .call { callee := .builtin .max, args := #[x, y], argTypes := #[t, u] }, ty, pos, af, gd⟩ σ η ι (.int k (maxI i j)) := det_max hx hy
theorem det_nilCheckB {x : Operand} {b o : Nat} (hx : ev σ x = some (.pointer (some ⟨b, o, none⟩))) : Det P C ⟨d, .nilCheck x, ty, pos, af, gd⟩ σ η ι (.pointer (some ⟨b, o, none⟩)) := fun ρ w hρ _ => by
  simp [execOp, hρ _ _ hx]
theorem det_nilCheckP {x : Operand} {A : Option Addr} {k k' : Nat} {cs : List Value} (hx : ev σ x = some (pAt A k)) (hp : fPt A k' cs ∈ ι) : Det P C ⟨d, .nilCheck x, ty, pos, af, gd⟩ σ η ι (pAt A k) := fun ρ w hρ hst => by
  obtain ⟨b, o', rfl, _, _⟩ := hst.facts _ hp
  simp only [pAt, Option.map_some, Addr.add_at] at hx ⊢
  simp [execOp, hρ _ _ hx]
theorem det_nilCheckO {α : Type} {L : Lay α} {e : TypeId} {x : Operand} {A : Option Addr} {k m c : Nat} {xs : List α} {i : Int} (hx : ev σ x = some (pAt A k)) (he : eS L e A m c xs ∈ η) (hi : inb xs i = true) : Det P C ⟨d, .nilCheck x, ty, pos, af, gd⟩ σ η ι (pAt A k) := fun ρ w hρ hst => by
  obtain ⟨h0, h1⟩ := inb_spec hi
  obtain ⟨g, cur, cs, rfl, _⟩ := hst.ownAt he (by omega)
  simp only [pAt, Option.map_some, Addr.add_at] at hx ⊢
  simp [execOp, hρ _ _ hx]
/-- a load out of a block that nobody changes any more -/
theorem det_loadB {x : Operand} {t b off : Nat} {cs cells : List Value} {v : Value} (hx : ev σ x = some (.pointer (some ⟨b, off, none⟩))) (hp : fPt (some ⟨b, 0, none⟩) 0 cs ∈ ι) (hc : (cs.drop off).take cells.length = cells) (hl : Loaded P t cells v) : Det P C ⟨d, .load t x, ty, pos, af, gd⟩ σ η ι v :=
  det_loadP (A := some ⟨b, 0, none⟩) (k := off) (k' := 0) (off := off) (by simpa [pAt, Addr.add_at] using hx) hp (by simp) hc hl
def AllR (w : World) (S : Nat → Prop) : List Fact → Prop
  | [] => True
  | f :: l => f.R w S ∧ AllR w S l
theorem AllR.all {w : World} {S : Nat → Prop} : ∀ {l : List Fact}, AllR w S l → ∀ f ∈ l, f.R w S
  | [], _, _, h => by cases h
  | x :: l, h, f, hf => by
    rcases List.mem_cons.1 hf with rfl | hf
    · exact h.1
    · exact AllR.all h.2 f hf
theorem St.addR {w : World} {κ : List Fact} (h : St C η ι w) (hr : AllR w (Im C η w) κ) : St C η (κ ++ ι) w :=
  ⟨h.os, h.tape, h.output, h.size, h.old, h.ents, h.place, h.apart, fun g hg => by
    rcases List.mem_append.1 hg with hg | hg
    · exact hr.all g hg
    · exact h.facts g hg⟩
theorem sub_mid {a b : Fact} {κ : List Fact} : ∀ f ∈ a :: (κ ++ ι), f ∈ κ ++ (a :: b :: ι) := fun f hf => by
  rcases List.mem_cons.1 hf with rfl | hf
  · exact List.mem_append_right _ m0
  · rcases List.mem_append.1 hf with hf | hf
    · exact List.mem_append_left _ hf
    · exact List.mem_append_right _ (ms (ms hf))
theorem open_slice {α : Type} {L : Lay α} {w : World} {A : Option Addr} {m c : Nat} {xs : List (List α)} (h : St C η ι w) (hf : fV (lSlice (lSlice L)) (.slice A m c) xs ∈ ι) {i : Int} (hi : inb xs i = true) :
    ∃ g : Option Addr × Nat, True ∧ St C η (fPt A (i.toNat * 1) [.slice g.1 (ix xs i).length g.2] :: fV (lSlice L) (.slice g.1 (ix xs i).length g.2) (ix xs i) :: ι) w := by
  obtain ⟨cs, hs⟩ := h.openE hf hi
  obtain ⟨A', n', c', h1, h2, h3, h4⟩ := hs.facts _ (ms m0)
  subst h1 h2
  refine ⟨(A', c'), trivial, hs.subFacts ?_⟩
  intro f hf
  exact hf
/-! ### slices compared with nil -/
theorem run_equalIn_nilS {P : Program} (w : World) (d : Nat) {t e : TypeId} {A : Option Addr} {n c : Nat} (h : P.underlying t = some (.slice e)) : (Op.equalIn (d + 1) t (.slice A n c) (.slice none 0 0)).run P w = .ok A.isNone w := by
  cases A <;> simp [Op.equalIn, run_underlying h]
theorem run_equal_nilS {P : Program} (w : World) {t e : TypeId} {A : Option Addr} {n c : Nat} (h : P.underlying t = some (.slice e)) : (Op.equal t (.slice A n c) (.slice none 0 0)).run P w = .ok A.isNone w := run_equalIn_nilS w 9999 h
theorem det_eqlNil {P : Program} {d : Option Nat} {ty : TypeId} {pos : String} {af : Array Edge} {gd : Option (Nat × Bool)} {σ : List (Nat × Value)} {x y : Operand} {t u e : TypeId} {A : Option Addr} {n c : Nat} (hx : ev σ x = some (.slice A n c)) (hy : ev σ y = some (.slice none 0 0)) (ht : P.underlying t = some (.slice e)) : Det P C ⟨d, .binOp .eql t x y u, ty, pos, af, gd⟩ σ η ι (.bool A.isNone) :=
  fun ρ w hρ _ => by simp [execOp, hρ _ _ hx, hρ _ _ hy, eqGuard, binOp, run_equal_nilS w ht]
theorem St.nilF {α : Type} {L : Lay α} {w : World} {A : Option Addr} {m c : Nat} {xs : List α} (h : St C η ι w) (hf : fV (lSlice L) (.slice A m c) xs ∈ ι) (hA : A.isNone = true) : xs = [] := by
  rcases (lSlice_of (h.facts _ hf)).2.2 with h1 | ⟨b, o, h1, _⟩
  · exact h1
  · subst h1
    cases hA
theorem clone_nil {α : Type} {r : List α} (h : chk (room ([] : List α).length) (some ([] : List α)) = some r) : some ([] : List α) = some r := h
/-- append to nothing -/
theorem act_appendS0 {P : Program} {d : Option Nat} {ty : TypeId} {pos : String} {af : Array Edge} {gd : Option (Nat × Bool)} {σ : List (Nat × Value)} {α : Type} {L : Lay α} {x y : Operand} {t e : TypeId} {z : Value} {A A0 : Option Addr} {bytes m c0 k c : Nat} {ys : List α} {F : Ent → List Ent} (hx : ev σ x = some (.slice A0 m c0)) (hy : ev σ y = some (.slice A k c)) (hs : SwF η (eS L e A0 m c0 []) F) (hsrc : Src C η ι L A k ys)
    (ht : P.underlying t = some (.slice e)) (hi : (P.info? e).map (fun i => (i.zero, i.size, i.bytes)) = some (some z, L.size, bytes)) (hz : z.cells.size = L.size) (hsz : Nat.blt 0 L.size = true) (hby : Nat.ble bytes 100000 = true) (hroom : room ys.length = true) :
    ActOk P C ⟨d, .call { callee := .builtin .append, args := #[x, y], argTypes := #[t, t] }, ty, pos, af, gd⟩ σ η ι (fun v' θ κ => ∃ A' c', v' = .slice A' ys.length c' ∧ θ = F (eS L e A' ys.length c' ys) ∧ κ = ι) :=
  act_appendS hx hy hs hsrc ht hi hz hsz hby hroom
/-! ### a part of a slice that is still written -/
theorem act_sliceOL {α : Type} {L : Lay α} {x y : Operand} {t e e' : TypeId} {A : Option Addr} {m c z : Nat} {k : IntKind} {l : Int} {xs : List α} (hx : ev σ x = some (.slice A m c)) (hy : ev σ y = some (.int k l)) (hf : eS L e' A m c xs ∈ η) (ht : P.underlying t = some (.slice e)) (hz : sizeB P e = some z) (h0 : decide (0 ≤ l) = true) (h1 : decide (l ≤ (xs.length : Int)) = true) :
    ActOk P C ⟨d, .slice t x (some y) none none, ty, pos, af, gd⟩ σ η ι (fun v θ κ => v = .slice (slA A c l.toNat z) (m - l.toNat) (c - l.toNat) ∧ θ = η ∧ κ = ι) := fun ρ w hρ hst => by
  simp only [decide_eq_true_eq] at h0 h1
  have hm := hst.lenO hf
  have hb : (Instr.sliceBounds true m c (some (.int k l)) none none).run P w = .ok (l.toNat, m, c) w := by
    simp [Instr.sliceBounds, run_bound (P := P) (w := w) (k := k) (y := m) (code := .sliceB) h0 (by omega)]
  have hrun : (execOp ρ ⟨d, .slice t x (some y) none none, ty, pos, af, gd⟩).run P w = .ok (.value (.slice (slA A c l.toNat z) (m - l.toNat) (c - l.toNat))) w := by
    simp [execOp, hρ _ _ hx, hρ _ _ hy, Instr.sliceAt, run_underlying ht, run_slice_gen ht hz hb]
  rw [hrun]
  exact ⟨_, _, ⟨rfl, rfl, rfl⟩, hst⟩
theorem det_indexVw {α : Type} {L : Lay α} {x y : Operand} {t e e' : TypeId} {kd : IntKind} {A : Option Addr} {m c z l : Nat} {i : Int} {xs : List α} (hx : ev σ x = some (.slice (slA A c l z) (m - l) (c - l))) (hy : ev σ y = some (.int kd i)) (hf : eS L e' A m c xs ∈ η) (h0 : decide (0 ≤ i) = true) (hi : inb xs ((l : Int) + i) = true) (ht : P.underlying t = some (.slice e)) (hz : sizeB P e = some z) :
    Det P C ⟨d, .indexAddr t x y, ty, pos, af, gd⟩ σ η ι (pAt A (((l : Int) + i).toNat * z)) := fun ρ w hρ hst => by
  simp only [decide_eq_true_eq] at h0
  obtain ⟨_, h1⟩ := inb_spec hi
  obtain ⟨g, cur, cs, rfl, _, _, hmc, _, _, _, _, hm⟩ := hst.ownAt hf (by omega)
  have hcl : ¬ c = l := by omega
  have hA : slA (some ⟨g, 0, none⟩) c l z = some ⟨g, l * z, none⟩ := by
    unfold slA
    rw [if_neg hcl]
    simp [Addr.add_at]
  rw [hA] at hx
  have e1 : ((l : Int) + i).toNat * z = l * z + i.toNat * z := by
    rw [← Nat.add_mul]
    congr 1
    omega
  simp [execOp, hρ _ _ hx, hρ _ _ hy, run_index h0 (show i.toNat < m - l by omega) ht hz, pAt, Addr.add_at, e1]
/-- x[:k:k] of a slice that is still written -/
theorem act_sliceOT {α : Type} {L : Lay α} {x y y2 : Operand} {t e e' : TypeId} {A : Option Addr} {m c z : Nat} {k1 k2 : IntKind} {k : Int} {xs : List α} (hx : ev σ x = some (.slice A m c)) (hy : ev σ y = some (.int k1 k)) (hy2 : ev σ y2 = some (.int k2 k)) (hf : eS L e' A m c xs ∈ η) (ht : P.underlying t = some (.slice e)) (hz : sizeB P e = some z) (h0 : decide (0 ≤ k) = true) (h1 : decide (k ≤ (xs.length : Int)) = true) :
    ActOk P C ⟨d, .slice t x none (some y) (some y2), ty, pos, af, gd⟩ σ η ι (fun v θ κ => v = .slice A k.toNat k.toNat ∧ θ = η ∧ κ = ι) := fun ρ w hρ hst => by
  simp only [decide_eq_true_eq] at h0 h1
  have hm := hst.lenO hf
  have hmc : m ≤ c := by
    by_cases hn : xs.length = 0
    · omega
    · obtain ⟨_, _, _, _, _, _, h, _⟩ := hst.ownAt hf (by omega)
      exact h
  have hb : (Instr.sliceBounds true m c none (some (.int k1 k)) (some (.int k2 k))).run P w = .ok (0, k.toNat, k.toNat) w := by
    simp [Instr.sliceBounds, run_bound (P := P) (w := w) (k := k2) (y := c) (code := .slice3Acap) h0 (by omega), run_bound (P := P) (w := w) (k := k1) (y := k.toNat) (code := .slice3B) h0 (Nat.le_refl _)]
  have hA : slA A k.toNat 0 z = A := by
    unfold slA
    split
    · rfl
    · rename_i hk
      obtain ⟨g, _, _, rfl, _⟩ := hst.ownAt hf (by omega)
      simp [Addr.add_at]
  have hrun : (execOp ρ ⟨d, .slice t x none (some y) (some y2), ty, pos, af, gd⟩).run P w = .ok (.value (.slice A k.toNat k.toNat)) w := by
    have h2 := run_slice_gen (A := A) ht hz hb
    rw [hA] at h2
    simp [execOp, hρ _ _ hx, hρ _ _ hy, hρ _ _ hy2, Instr.sliceAt, run_underlying ht, h2]
  rw [hrun]
  exact ⟨_, _, ⟨rfl, rfl, rfl⟩, hst⟩
theorem viewOne {α : Type} {L : Lay α} {w : World} {S : Nat → Prop} {cs : List Value} {x : List α} (h : (lSlice L).R w S cs x) : ∃ A c, cs = [.slice A x.length c] ∧ AllR w S [fV (lSlice L) (.slice A x.length c) x] := by
  obtain ⟨A, n, c, h1, h2, h3, h4⟩ := h
  subst h1 h2
  exact ⟨A, c, rfl, ⟨A, _, c, rfl, rfl, h3, h4⟩, trivial⟩
/-- a load out of a slice that is still written, of an element that holds slices -/
theorem act_loadX {α G : Type} [Inhabited α] {L : Lay α} {e : TypeId} {x : Operand} {t m c k z off cnt : Nat} {A : Option Addr} {xs : List α} {i : Int} {cells : G → List Value} {fs : G → List Fact} {val : G → Value} (hx : ev σ x = some (pAt A k)) (he : eS L e A m c xs ∈ η) (hi : inb xs i = true) (hz : L.size = z) (hk : k = i.toNat * z + off)
    (view : ∀ (w : World) (S : Nat → Prop) (cs : List Value), L.R w S cs (ix xs i) → ∃ g, cs = cells g ∧ AllR w S (fs g)) (hld : ∀ g, Loaded P t (((cells g).drop off).take cnt) (val g)) :
    ActOk P C ⟨d, .load t x, ty, pos, af, gd⟩ σ η ι (fun v θ κ => ∃ g, v = val g ∧ θ = η ∧ κ = fs g ++ ι) := fun ρ w hρ hst => by
  obtain ⟨h0, h2⟩ := inb_spec hi
  subst hz hk
  obtain ⟨g, cur, cs, rfl, _, hg, _, _, _, htk, hcs, hm⟩ := hst.ownAt he (by omega)
  simp only [pAt, Option.map_some, Addr.add_at, Nat.zero_add] at hx
  have hel := hcs.at_ h2
  rw [← ix_eq h2] at hel
  obtain ⟨q, hq, hR⟩ := view w _ _ hel
  have hr := (hld q).run (w := w) (b := g) (o := i.toNat * L.size + off) fun j u hu => by
    rw [← hq, List.getElem?_take] at hu
    split at hu
    · rw [List.getElem?_drop, List.getElem?_take] at hu
      split at hu
      · rw [List.getElem?_drop] at hu
        rw [Nat.add_assoc]
        exact own_cell hg htk hu
      · cases hu
    · cases hu
  have hr2 : (execOp ρ ⟨d, .load t x, ty, pos, af, gd⟩).run P w = .ok (.value (val q)) w := by simp [execOp, hρ _ _ hx, hr]
  rw [hr2]
  exact ⟨_, _, ⟨q, rfl, rfl, rfl⟩, hst.addR hR⟩
/-- clear(x[l:]) of a slice of one's own -/
theorem act_clearO {α : Type} {L : Lay α} {x : Operand} {t e : TypeId} {A : Option Addr} {m c l : Nat} {z : Value} {x0 : α} {xs : List α} {F : Ent → List Ent} (hx : ev σ x = some (.slice (slA A c l L.size) (m - l) (c - l))) (hs : SwF η (eS L e A m c xs) F) (hl : l ≤ xs.length) (ht : P.underlying t = some (.slice e)) (hz : zeroB P e = some z) (hzo : zeroOk L z x0) (hsz : Nat.blt 0 L.size = true) :
    ActOk P C ⟨d, .call { callee := .builtin .clear, args := #[x], argTypes := #[t] }, ty, pos, af, gd⟩ σ η ι (fun _ θ κ => θ = F (eS L e A m c (xs.take l ++ List.replicate (xs.length - l) x0)) ∧ κ = ι) := fun ρ w hρ hst => by
  have hml := hst.lenO hs.mem
  have hsz' : 0 < L.size := by simpa [Nat.blt_eq] using hsz
  obtain ⟨q, hq, hqz⟩ := Option.bind_eq_some_iff.1 hz
  by_cases hlm : l = xs.length
  · have e0 : m - l = 0 := by omega
    rw [e0] at hx
    have hr : (execOp ρ ⟨d, .call { callee := .builtin .clear, args := #[x], argTypes := #[t] }, ty, pos, af, gd⟩).run P w = .ok (.value (.tuple #[])) w := by
      generalize slA A c l L.size = B at hx
      cases B <;> simp [execOp, resolve, invoke, builtin, hρ _ _ hx, Builtin.clear_, run_underlying ht]
    rw [hr]
    obtain ⟨θ₁, θ₂, h3, h4⟩ := hs (eS L e A m c xs)
    refine ⟨_, ι, ⟨rfl, rfl⟩, ?_⟩
    have e1 : xs.take l ++ List.replicate (xs.length - l) x0 = xs := by simp [hlm]
    rw [e1, h4, ← h3]
    exact hst
  · have hlt : l < xs.length := by omega
    obtain ⟨g, cur, cs, rfl, hc0, hg, hmc, hcm, hcs, htk, hcl, hm⟩ := hst.ownAt hs.mem (by omega)
    have hA : slA (some ⟨g, 0, none⟩) c l L.size = some ⟨g, l * L.size, none⟩ := by
      unfold slA
      rw [if_neg (by omega)]
      simp [Addr.add_at]
    rw [hA] at hx
    obtain ⟨k, hk⟩ : ∃ k, m - l = k + 1 := ⟨m - l - 1, by omega⟩
    have hcells : (Builtin.zeroCells z.cells (m - l)).toList = (List.replicate (m - l) z.cells.toList).flatten := by
      have h1 := made_take (z := z.cells) (m := m - l) (c := m - l) hzo.1 (Nat.le_refl _) hsz'
      rw [List.take_of_length_le (by simp [size_madeCells])] at h1
      rw [← h1, ← hzo.1]
      rfl
    have hrep : Cells L w (Im C η w) (List.replicate (m - l) z.cells.toList).flatten (List.replicate (m - l) x0) := Cells.replicate (hzo.2 _ _) _
    have hlen : (List.replicate (m - l) z.cells.toList).flatten.length = (m - l) * L.size := by rw [hrep.1]; simp
    have hle : l * L.size + (m - l) * L.size = m * L.size := by rw [← Nat.add_mul]; congr 1; omega
    have hle2 : m * L.size ≤ cur.size := Nat.le_trans (Nat.mul_le_mul_right _ hmc) hcs
    have hst2 := run_storeCells_at (P := P) g (l * L.size) e (List.replicate (m - l) z.cells.toList).flatten 0 cur w hg (by rw [hlen]; omega) hrep.ones
    simp only [Nat.add_zero, hlen] at hst2
    have hr : (execOp ρ ⟨d, .call { callee := .builtin .clear, args := #[x], argTypes := #[t] }, ty, pos, af, gd⟩).run P w = .ok (.value (.tuple #[])) (w.setRow g (cur.toList.take (l * L.size) ++ (List.replicate (m - l) z.cells.toList).flatten ++ cur.toList.drop (l * L.size + (m - l) * L.size)).toArray) := by
      rw [← hcells] at hst2 ⊢
      rw [hk] at hx hst2 ⊢
      simp [execOp, resolve, invoke, builtin, hρ _ _ hx, Builtin.clear_, run_underlying ht, zeroValue, typeInfo, hq, hqz, hst2]
    rw [hr]
    refine ⟨_, ι, ⟨rfl, rfl⟩, hst.sw (hs _) rfl rfl ⟨rfl, Nat.le_refl _⟩ (by simp [World.setRow]) (fun b' _ hne => ?_) ?_ (fun b' h => .inl ?_)⟩
    · rw [eS_block hc0] at hne
      exact setRow_same fun e => hne (by rw [e])
    · refine ⟨by simp; omega, .inr ⟨hc0, _, ⟨?_, .inr ⟨g, c, _, rfl, Nat.zero_le _, setRow_heap w g cur _ e _ hg, hmc, hcm, ?_, rfl⟩⟩, ?_⟩⟩
      · simp only [List.length_take, List.length_append, List.length_drop, Array.length_toList, hlen]
        omega
      · simp only [List.size_toArray, List.length_take, List.length_append, List.length_drop, Array.length_toList, hlen]
        omega
      · have hsame : Same (Im C η w) w (w.setRow g (cur.toList.take (l * L.size) ++ (List.replicate (m - l) z.cells.toList).flatten ++ cur.toList.drop (l * L.size + (m - l) * L.size)).toArray) := fun b hb => setRow_same fun e => hb.2.2 _ hs.mem (by rw [eS_block hc0, e])
        have e1 : (cur.toList.take (l * L.size) ++ (List.replicate (m - l) z.cells.toList).flatten ++ cur.toList.drop (l * L.size + (m - l) * L.size)).take (m * L.size) = cs.take (l * L.size) ++ (List.replicate (m - l) z.cells.toList).flatten := by
          have e2 : (cur.toList.take (l * L.size) ++ (List.replicate (m - l) z.cells.toList).flatten).length = m * L.size := by
            rw [List.length_append, hlen, List.length_take, Array.length_toList]
            omega
          rw [← e2, List.take_left, ← htk, List.take_take, Nat.min_eq_left (by omega)]
        have hfin := ((hcl.take l hl).cat hrep).keep hsame
        rw [← e1, hm] at hfin
        simp only [hm]
        exact hfin
    · rw [eS_block hc0] at h ⊢
      exact h
/-- x[:h] of a slice of one's own, which is given up -/
theorem act_sliceOH {α : Type} {L : Lay α} {x y : Operand} {t e e' : TypeId} {A : Option Addr} {m c z : Nat} {k : IntKind} {h : Int} {xs : List α} {θ : List Ent} (hx : ev σ x = some (.slice A m c)) (hy : ev σ y = some (.int k h)) (hs : Rem η (eS L e' A m c xs) θ) (ht : P.underlying t = some (.slice e)) (hz : sizeB P e = some z) (h0 : decide (0 ≤ h) = true) (h1 : decide (h ≤ (xs.length : Int)) = true) :
    ActOk P C ⟨d, .slice t x none (some y) none, ty, pos, af, gd⟩ σ η ι (fun v θ' κ => v = .slice A (xs.take h.toNat).length c ∧ θ' = eS L e' A (xs.take h.toNat).length c (xs.take h.toNat) :: θ ∧ κ = ι) := fun ρ w hρ hst => by
  simp only [decide_eq_true_eq] at h0 h1
  have hm := hst.lenO hs.mem
  have hA : m ≤ c ∧ slA A c 0 z = A := by
    unfold slA
    obtain ⟨hn, ⟨h2, h3⟩ | ⟨hc0, cs, hk, _⟩⟩ := hst.ents _ hs.mem
    · subst h3
      rw [if_pos h2]
      exact ⟨by simp at hn; omega, rfl⟩
    · rcases hk.2 with ⟨h2, h3⟩ | ⟨g, cap, cur, h2, _, _, h3, _⟩
      · simp only [Value.slice.injEq] at h2
        exact absurd h2.2.2 hc0
      · simp only [Value.slice.injEq, true_and] at h2
        obtain ⟨rfl, rfl⟩ := h2
        rw [if_neg hc0]
        exact ⟨h3, by simp [Addr.add_at]⟩
  have hb : (Instr.sliceBounds true m c none (some (.int k h)) none).run P w = .ok (0, h.toNat, c) w := by
    simp [Instr.sliceBounds, run_bound (P := P) (w := w) (k := k) (y := c) (code := .sliceAcap) h0 (by omega)]
  have hlen : (xs.take h.toNat).length = h.toNat := by rw [List.length_take]; omega
  have hrun : (execOp ρ ⟨d, .slice t x none (some y) none, ty, pos, af, gd⟩).run P w = .ok (.value (.slice A h.toNat c)) w := by
    have h2 := run_slice_gen (A := A) ht hz hb
    rw [hA.2] at h2
    simp [execOp, hρ _ _ hx, hρ _ _ hy, Instr.sliceAt, run_underlying ht, h2]
  rw [hrun, hlen]
  exact ⟨_, _, ⟨rfl, rfl, rfl⟩, hst.truncS hs h.toNat (by omega)⟩
end
end Go.Proofs.Ytfekcgnnhjmeiaa
