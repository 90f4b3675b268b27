/- slices.SortFunc as an operation of the logic of symbolic states, out of the library's contract. Generic: names no function of the program. -/
import Derived.Shelf.SlSortCmp.Whole1
import Derived.Shelf.SlSortCmp.NoneTotal
import Derived.Test.YtdenliplkmjmjaaKDet
import Derived.Test.YtdenliplkmjmjaaKSortP
namespace Go.Proofs.Ytdenliplkmjmjaa
open Go.RowKit Go.Sort Go.Shelf Go.Lib

/-- entries that tell a block whole -/
def AllX : List Ent → Prop
  | [] => True
  | e :: θ => (∃ b t cs, e = eBlk b t cs) ∧ AllX θ
theorem AllX.exact : ∀ {θ : List Ent}, AllX θ → ∀ e ∈ θ, ∃ b t cs, e = eBlk b t cs
  | [], _, _, h => by cases h
  | x :: θ, h, e, he => by
    rcases List.mem_cons.1 he with rfl | he
    · exact h.1
    · exact AllX.exact h.2 e he

theorem grow_of {W w' : World} (h1 : w'.os = W.os) (h2 : w'.tape = W.tape) (h3 : w'.output = W.output) (h4 : W.drawn ≤ w'.drawn) (h5 : W.heap.size ≤ w'.heap.size) (h6 : ∀ b, b < W.heap.size → w'.heap[b]? = W.heap[b]?) :
    ∃ q os', w' = grow (W.drewN q) os' := by
  refine ⟨w'.drawn - W.drawn, w'.heap.extract W.heap.size w'.heap.size, ?_⟩
  obtain ⟨hp, tp, dr, o, out⟩ := w'
  simp only at h1 h2 h3 h4 h5 h6
  subst h1 h2 h3
  simp only [grow, World.drewN, World.mk.injEq, true_and, and_true]
  refine ⟨?_, by omega⟩
  apply Array.ext
  · simp
    omega
  · intro i hi1 hi2
    by_cases hi : i < W.heap.size
    · have := h6 i hi
      rw [Array.getElem?_eq_getElem hi1, Array.getElem?_eq_getElem hi] at this
      rw [Array.getElem_append_left hi]
      exact Option.some.inj this
    · rw [Array.getElem_append_right (by omega)]
      simp only [Array.getElem_extract]
      congr 1
      omega

section
variable {P : Program} {C : Cx}
/-- a call that reads, in a world that differs from w in one block alone -/
theorem reads_of {g : FuncId} {args : List Value} {e0 : Ent} {θ₀ : List Ent} {κ₀ : List Fact} {r : Value} {blk : Nat} {w W : World} (hx : AllX θ₀)
    (hst : St C (e0 :: θ₀) κ₀ w) (hb0 : e0.own = fun x => some blk = some x) (hsz : w.heap.size ≤ W.heap.size) (hsame : ∀ b, b < w.heap.size → b ≠ blk → W.heap[b]? = w.heap[b]?)
    (hc : Spec P g args θ₀ κ₀ fun v θ κ => v = r ∧ θ = θ₀ ∧ κ = []) :
    Calls P g args.toArray W fun e w' => e = .returned r ∧ ∃ q os', w' = grow (W.drewN q) os' := by
  have hap := List.pairwise_cons.1 hst.apart
  have hne : ∀ h ∈ θ₀, ∀ b, h.own b → b ≠ blk := fun h hh b hb hbb => hap.1 h hh blk (by rw [hb0]) (hbb ▸ hb)
  have hS : Same (Im C (e0 :: θ₀) w) w W := fun b hb => hsame b hb.1 fun e => hb.2.2 e0 (by simp) (by rw [hb0, e])
  have hsub : ∀ b, Im C (e0 :: θ₀) w b → Im ⟨W, Im C (e0 :: θ₀) w, Blocks θ₀⟩ θ₀ W b := fun b hb => ⟨Nat.lt_of_lt_of_le hb.1 hsz, .inr (.inl hb), fun h hh => hb.2.2 h (List.mem_cons_of_mem _ hh)⟩
  have hst2 : St ⟨W, Im C (e0 :: θ₀) w, Blocks θ₀⟩ θ₀ κ₀ W := by
    refine ⟨rfl, rfl, ⟨rfl, Nat.le_refl _⟩, Nat.le_refl _, fun _ _ _ => rfl, fun h hh => ?_, fun h hh b hb => .inr ⟨h, hh, hb⟩, hap.2, fun f hf => f.sub (f.keep (hst.facts f hf) hS) hsub⟩
    have hk := hst.ents h (List.mem_cons_of_mem _ hh)
    exact h.sub (h.keep hk (fun b hb => hsame b (h.lt hk hb) (hne h hh b hb)) hS) hsub
  refine (hc _ (fun _ => Iff.rfl) hst2).mono ?_
  rintro e w' ⟨v, θ, κ, rfl, ⟨rfl, rfl, rfl⟩, hs⟩
  refine ⟨rfl, grow_of hs.os hs.tape hs.output.1 hs.output.2 hs.size fun b hb => ?_⟩
  by_cases hB : Blocks θ b
  · obtain ⟨h, hh, hbb⟩ := hB
    obtain ⟨b', t, cs, rfl⟩ := hx.exact h hh
    simp only [eBlk, Option.some.injEq] at hbb
    subst hbb
    have h1 : w'.heap[b']? = some (.cells cs.toArray t (0, 0)) := hs.ents _ hh
    have h2 : W.heap[b']? = some (.cells cs.toArray t (0, 0)) := hst2.ents _ hh
    rw [h1, h2]
  · exact hs.old b hb hB

theorem heap_sortWorld_ne {α : Type} [Inhabited α] {enc : α → Value} {w : World} {blk off m : Nat} {d : Array α} {os : Array Obj} {b : Nat} (hb : b < w.heap.size) (hne : b ≠ blk) : (sortWorld enc w blk off m d os).heap[b]? = w.heap[b]? := by
  have h1 : b < (w.heap.modify blk (onCells (putCells enc off d))).size := by simpa using hb
  show ((w.heap.modify blk (onCells (putCells enc off d))) ++ os)[b]? = _
  rw [Array.getElem?_append_left h1, Array.getElem?_modify, if_neg (Ne.symm hne)]
theorem heap_sortWorld_eq {α : Type} [Inhabited α] {enc : α → Value} {w : World} {blk off m : Nat} {d : Array α} {os : Array Obj} {cur : Array Value} {t : TypeId} {fz : Nat × Nat} (h : w.heap[blk]? = some (.cells cur t fz)) : (sortWorld enc w blk off m d os).heap[blk]? = some (.cells (putCells enc off d cur) t fz) := by
  have hb : blk < w.heap.size := (Array.getElem?_eq_some_iff.1 h).1
  have h1 : blk < (w.heap.modify blk (onCells (putCells enc off d))).size := by simpa using hb
  show ((w.heap.modify blk (onCells (putCells enc off d))) ++ os)[blk]? = _
  rw [Array.getElem?_append_left h1, Array.getElem?_modify, if_pos rfl, h]
  rfl

/-- slices.SortFunc at elements of one cell -/
theorem spec_sort1 {ρ : Ren} (hL : SlLaysF.n6 P ρ) {α : Type} {enc1 : α → Value} {L : Lay α} {hl h1'} (hLy : L = lFlat (fun x => [enc1 x]) 1 hl h1') (h1 : ∀ x, (enc1 x).oneCell' = true) {g : FuncId} {cap : List Value} {θ₀ : List Ent} {κ₀ : List Fact} {c : α → α → Option Int}
    (hg : bodyB P g = true) (hx : AllX θ₀) (hc : ∀ x y r, c x y = some r → Spec P g ([enc1 x, enc1 y] ++ cap) θ₀ κ₀ fun v θ κ => v = .int .i64 r ∧ θ = θ₀ ∧ κ = [])
    {e : TypeId} {xs ys : List α} (h : sortV c xs = some ys) (A : Option Addr) (n cc : Nat) :
    Spec P (ρ.f 6) [.slice A n cc, .func (.func g) #[] cap.toArray] (eS L e A n cc xs :: θ₀) κ₀ fun v θ κ => v = .tuple #[] ∧ θ = eS L e A n cc ys :: θ₀ ∧ κ = [] := by
  intro C hM hst
  obtain ⟨hn, hk⟩ := hst.ents _ (List.mem_cons_self ..)
  by_cases hx0 : xs = []
  · subst hx0
    rw [sortV_nil] at h
    cases h
    simp only [List.length_nil] at hn
    subst hn
    refine (AnyF.slices_SortFunc_none (P := P) (ρ := ρ) { hL with } A cc (.func (.func g) #[] cap.toArray) C.W0).mono ?_
    rintro e w' ⟨rfl, rfl⟩
    exact ⟨_, _, _, rfl, ⟨rfl, rfl, rfl⟩, hst.subFacts fun _ hf => by cases hf⟩
  · obtain ⟨ho, rfl⟩ := sortV_inv h hx0
    obtain ⟨hsize, -, -⟩ := sortedA_spec hx0 ho
    letI : Inhabited {x // x ∈ xs} := ⟨Classical.choice (ne_inh hx0)⟩
    have hpos : 0 < xs.length := List.length_pos_iff.2 hx0
    rcases hk with ⟨_, hk⟩ | ⟨hcc, cs, hk, hcl⟩
    · exact (hx0 hk).elim
    rcases hk.2 with ⟨_, h0⟩ | ⟨blk, cap', cur, hv, _, hheap, hnc, hcm, hcs, htk⟩
    · omega
    cases hv
    have hblk : blk < C.W0.heap.size := (Array.getElem?_eq_some_iff.1 hheap).1
    have hLs : L.size = 1 := by rw [hLy]; rfl
    rw [hLs] at hcs htk
    simp only [Nat.mul_one] at hcs htk
    have hcell : ∀ i (hi : i < xs.length), cur[i]? = some (enc1 xs[i]) := by
      intro i hi
      have h2 := hcl.2 i xs[i] (by simp [hi])
      rw [hLs] at h2
      have h3 : (cs.drop (i * 1)).take 1 = [enc1 xs[i]] := by rw [hLy] at h2; exact h2
      have h4 : cs[i]? = some (enc1 xs[i]) := by
        have h5 := congrArg (fun l => l[0]?) h3
        simpa using h5
      rw [← htk] at h4
      rw [List.getElem?_take_of_lt (by omega)] at h4
      simpa using h4
    have hd : xs.attach.toArray.size = n := by simp [hn]
    have hH : Holds (fun x : {x // x ∈ xs} => enc1 x.1) C.W0 blk 0 xs.attach.toArray := by
      intro j hj
      have hj' : j < xs.length := by simpa using hj
      refine ⟨?_, by simp [World.frozen?, hheap]⟩
      rw [getElem!_pos _ j hj]
      simp [World.cell?, hheap, hcell j hj']
    have hne : (eS L e (some ⟨blk, 0, none⟩) n cc xs).own = (fun x => some blk = some x) := by simp [eS, hcc, Value.ownBlock]
    have hcmp : CmpLays1 P g cap.toArray (fun x : {x // x ∈ xs} => enc1 x.1) (cfOf c xs) blk 0 xs.attach.toArray.size C.W0 := by
      intro m os dk hs x y
      have := reads_of (P := P) (W := sortWorld (fun x : {x // x ∈ xs} => enc1 x.1) C.W0 blk 0 m dk os) hx hst hne (by simp [sortWorld, size_grow, Sort.ahead]) (fun b hb hbn => heap_sortWorld_ne hb hbn) (hc x.1 y.1 _ (cfOf_eq ho x y))
      simpa using this
    have hcon := Any.slices_SortFunc_eq hL (fun x : {x // x ∈ xs} => enc1 x.1) (fun x => h1 x.1) (cfOf c xs) (cfOf_swo ho) g cap.toArray blk 0 cc xs.attach.toArray C.W0 (fun args w => run_callFunc hg) hcmp hH hblk (by simpa using ho.len)
    rw [hd] at hcon
    refine hcon.mono ?_
    rintro ex w' ⟨rfl, m, os, hw⟩
    have hw2 : w' = sortWorld (fun x : {x // x ∈ xs} => enc1 x.1) C.W0 blk 0 m (sortedA c xs hx0) os := by
      rw [hw]
      unfold sortedA
      rw [hd]
    clear hw
    generalize hsd : sortedA c xs hx0 = d at hw2 hsize ⊢
    refine ⟨_, _, _, rfl, ⟨rfl, rfl, rfl⟩, ?_⟩
    have hst3 : St C (eS L e (some ⟨blk, 0, none⟩) n cc (d.toList.map Subtype.val) :: θ₀) κ₀ w' := by
      refine hst.sw Sw.head (by rw [hw2]; rfl) (by rw [hw2]; rfl) ⟨by rw [hw2]; rfl, by rw [hw2]; show C.W0.drawn ≤ C.W0.drawn + m; omega⟩ (by rw [hw2]; simp [sortWorld, size_grow, Sort.ahead]) (fun b hb hbn => ?_) ?_ (fun b hb => .inl ?_)
      · rw [hw2]
        exact heap_sortWorld_ne hb fun e => hbn (by rw [hne, e])
      · refine ⟨by simp [hn, hsize], .inr ⟨hcc, d.toList.map fun x => enc1 x.1, ⟨by simp [hLs, hn, hsize], .inr ⟨blk, cc, putCells (fun x : {x // x ∈ xs} => enc1 x.1) 0 d cur, rfl, Nat.zero_le _, by rw [hw2]; exact heap_sortWorld_eq hheap, hnc, hcm, by simp [putCells, hLs, hcs], ?_⟩⟩, by simp [hLs], fun i x hxi => ?_⟩⟩
        · rw [hLs, Nat.mul_one]
          apply List.ext_getElem?
          intro i
          by_cases hi : i < n
          · have hid : i < d.size := by omega
            have hic : i < cur.size := by omega
            rw [List.getElem?_take_of_lt hi]
            simp [putCells, hic, hid]
          · rw [List.getElem?_take_eq_none (by omega)]
            symm
            simp
            omega
        · rw [hLs, hLy]
          show ((d.toList.map fun x => enc1 x.1).drop (i * 1)).take 1 = [enc1 x]
          have hi : i < d.toList.length := by
            have := (List.getElem?_eq_some_iff.1 hxi).1
            simpa using this
          rw [List.getElem?_map, List.getElem?_eq_getElem hi] at hxi
          simp only [Option.map_some, Option.some.injEq] at hxi
          rw [Nat.mul_one, List.drop_eq_getElem_cons (by simpa using hi)]
          simp only [Array.getElem_toList] at hxi
          simp [← hxi]
      · rw [hne]
        show some blk = some b
        rw [← hb]
        simp [hcc, Value.ownBlock]
    exact hst3.subFacts fun _ hf => by cases hf
end
end Go.Proofs.Ytdenliplkmjmjaa
