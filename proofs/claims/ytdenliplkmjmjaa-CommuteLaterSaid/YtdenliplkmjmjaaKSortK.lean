/- slices.SortFunc at records, as an operation of the logic of symbolic states, out of the library's contract. Generic: names no function of the program. -/
import Derived.Shelf.SlSortCmp.WholeK
import Derived.Test.YtdenliplkmjmjaaKSort
namespace Go.Proofs.Ytdenliplkmjmjaa
open Go.RowKit Go.Sort Go.Shelf Go.Lib

section
variable {P : Program} {C : Cx}
theorem get_flatK? {α : Type} [Inhabited α] {enc : α → List Value} {z : Nat} (hz : ∀ x, (enc x).length = z) {d : Array α} {i c : Nat} (hi : i < d.size) (hc : c < z) : (flatK enc z d)[i * z + c]? = (enc d[i])[c]? := by
  have lt : i * z + c < d.size * z := by
    have := Nat.mul_le_mul_right z (show i + 1 ≤ d.size from hi)
    rw [Nat.add_mul, Nat.one_mul] at this
    omega
  have hs : i * z + c < (flatK enc z d).size := by rw [size_flatK]; exact lt
  have e1 : (i * z + c) / z = i := (blk_iff z i _ (by omega)).1 ⟨by omega, by omega⟩
  have e2 : (i * z + c) % z = c := by rw [Nat.mod_eq_sub_div_mul, e1]; omega
  have h := get_flatK enc z d _ lt
  rw [e1, e2, getElem!_pos d i hi] at h
  have hc' : c < (enc d[i]).length := by rw [hz]; exact hc
  rw [getElem!_pos _ c hc', getElem!_pos (flatK enc z d) _ hs] at h
  rw [Array.getElem?_eq_getElem hs, List.getElem?_eq_getElem hc', h]

/-- slices.SortFunc at elements of z cells -/
theorem spec_sortK {ρ : Ren} (hL : SlLaysF0.n6 P ρ) {α : Type} {enc : α → List Value} {z : Nat} {L : Lay α} {hl h1'} (hLy : L = lFlat enc z hl h1') (hag : isAggB P (ρ.t 24) = true) (hsz : sizeB P (ρ.t 24) = some z) {g : FuncId} {cap : List Value} {θ₀ : List Ent} {κ₀ : List Fact} {c : α → α → Option Int}
    (hg : bodyB P g = true) (hx : AllX θ₀) (hc : ∀ x y r, c x y = some r → Spec P g ([.agg (enc x).toArray, .agg (enc y).toArray] ++ cap) θ₀ κ₀ fun v θ κ => v = .int .i64 r ∧ θ = θ₀ ∧ κ = [])
    {e : TypeId} {xs ys : List α} (h : sortV c xs = some ys) (A : Option Addr) (n cc : Nat) :
    Spec P (ρ.f 6) [.slice A n cc, .func (.func g) #[] cap.toArray] (eS L e A n cc xs :: θ₀) κ₀ fun v θ κ => v = .tuple #[] ∧ θ = eS L e A n cc ys :: θ₀ ∧ κ = [] := by
  intro C hM hst
  obtain ⟨hn, hk⟩ := hst.ents _ (List.mem_cons_self ..)
  by_cases hx0 : xs = []
  · subst hx0
    rw [sortV_nil] at h
    cases h
    simp only [List.length_nil] at hn
    subst hn
    refine (AnyF.slices_SortFunc_none (P := P) (ρ := ρ) hL A cc (.func (.func g) #[] cap.toArray) C.W0).mono ?_
    rintro e w' ⟨rfl, rfl⟩
    exact ⟨_, _, _, rfl, ⟨rfl, rfl, rfl⟩, hst.subFacts fun _ hf => by cases hf⟩
  · obtain ⟨ho, rfl⟩ := sortV_inv h hx0
    obtain ⟨hsize, -, -⟩ := sortedA_spec hx0 ho
    letI : Inhabited {x // x ∈ xs} := ⟨Classical.choice (ne_inh hx0)⟩
    have hpos : 0 < xs.length := List.length_pos_iff.2 hx0
    rcases hk with ⟨_, hk⟩ | ⟨hcc, cs, hk, hcl⟩
    · exact (hx0 hk).elim
    rcases hk.2 with ⟨_, h0⟩ | ⟨blk, cap', cur, hv, _, hheap, hnc, hcm, hcs, htk⟩
    · omega
    cases hv
    have hblk : blk < C.W0.heap.size := (Array.getElem?_eq_some_iff.1 hheap).1
    have hLs : L.size = z := by rw [hLy]; rfl
    rw [hLs] at hcs htk
    have henc : ∀ x : α, (enc x).length = z := hl
    have hzn : n * z = xs.length * z := by rw [hn]
    have hcell : ∀ i (hi : i < xs.length) k, k < z → cur[i * z + k]? = (enc xs[i])[k]? := by
      intro i hi k hk0
      have h2 := hcl.2 i xs[i] (by simp [hi])
      rw [hLs] at h2
      have h3 : (cs.drop (i * z)).take z = enc xs[i] := by rw [hLy] at h2; exact h2
      rw [← h3, List.getElem?_take_of_lt hk0, List.getElem?_drop, ← htk]
      have lt : i * z + k < n * z := by
        rw [hzn]
        have := Nat.mul_le_mul_right z (show i + 1 ≤ xs.length from hi)
        rw [Nat.add_mul, Nat.one_mul] at this
        omega
      rw [List.getElem?_take_of_lt lt]
      simp
    have hd : xs.attach.toArray.size = n := by simp [hn]
    have hH : HoldsK (fun x : {x // x ∈ xs} => enc x.1) z C.W0 blk 0 xs.attach.toArray := by
      intro j hj
      rw [size_flatK] at hj
      have hj' : j < xs.length * z := by simpa using hj
      have hz0 : 0 < z := by
        rcases Nat.eq_zero_or_pos z with h0 | h0
        · subst h0; omega
        · exact h0
      have hi : j / z < xs.length := Nat.div_lt_of_lt_mul (by rw [Nat.mul_comm]; exact hj')
      have hc0 : j % z < z := Nat.mod_lt _ hz0
      have hjj : j / z * z + j % z = j := by rw [Nat.mul_comm]; exact Nat.div_add_mod j z
      refine ⟨?_, by simp [World.frozen?, hheap]⟩
      have h1 := hcell _ hi _ hc0
      have h2 := get_flatK? (enc := fun x : {x // x ∈ xs} => enc x.1) (fun x => henc x.1) (d := xs.attach.toArray) (i := j / z) (c := j % z) (by simpa using hi) hc0
      rw [hjj] at h1 h2
      have hsj : j < (flatK (fun x : {x // x ∈ xs} => enc x.1) z xs.attach.toArray).size := by rw [size_flatK]; exact hj
      rw [getElem!_pos _ j hsj]
      rw [Array.getElem?_eq_getElem hsj] at h2
      have h3 : (enc xs.attach.toArray[j / z].1)[j % z]? = (enc xs[j / z])[j % z]? := by simp
      rw [h3] at h2
      rw [← h2] at h1
      simp [World.cell?, hheap, h1]
    have hne : (eS L e (some ⟨blk, 0, none⟩) n cc xs).own = (fun x => some blk = some x) := by simp [eS, hcc, Value.ownBlock]
    have hcmp : CmpLays P g cap.toArray (fun x : {x // x ∈ xs} => enc x.1) z (cfOf c xs) blk 0 xs.attach.toArray.size C.W0 := by
      intro m os dk hs x y
      have := reads_of (P := P) (W := sortWorldK (fun x : {x // x ∈ xs} => enc x.1) z C.W0 blk 0 m dk os) hx hst hne (show C.W0.heap.size ≤ (sortWorld id C.W0 blk 0 m (flatK (fun x : {x // x ∈ xs} => enc x.1) z dk) os).heap.size by simp [sortWorld, size_grow, Sort.ahead]) (fun b hb hbn => heap_sortWorld_ne (enc := id) (d := flatK (fun x : {x // x ∈ xs} => enc x.1) z dk) hb hbn) (hc x.1 y.1 _ (cfOf_eq ho x y))
      simpa using this
    have hcon := AnyQ.slices_SortFunc_eq hL z (fun w => by
        unfold isAggB at hag
        cases hdd : P.underlying (ρ.t 24) with
        | none => simp [hdd] at hag
        | some d0 =>
          simp only [hdd] at hag
          simp only [isAgg, Sem.run_bind, run_underlying hdd, Result.andThen_ok]
          cases d0 <;> simp_all) (fun w => run_size_of hsz) (fun x : {x // x ∈ xs} => enc x.1) (fun x => henc x.1) (fun x => h1' x.1) (cfOf c xs) (cfOf_swo ho) g cap.toArray blk 0 cc xs.attach.toArray C.W0 (fun args w => run_callFunc hg) hcmp hH hblk (by simpa using ho.len)
    rw [hd] at hcon
    refine hcon.mono ?_
    rintro ex w' ⟨rfl, m, os, hw⟩
    have hw2 : w' = sortWorldK (fun x : {x // x ∈ xs} => enc x.1) z C.W0 blk 0 m (sortedA c xs hx0) os := by
      rw [hw]
      unfold sortedA
      rw [hd]
    clear hw
    generalize hsd : sortedA c xs hx0 = d at hw2 hsize ⊢
    have hw3 : w' = sortWorld id C.W0 blk 0 m (flatK (fun x : {x // x ∈ xs} => enc x.1) z d) os := hw2
    refine ⟨_, _, _, rfl, ⟨rfl, rfl, rfl⟩, ?_⟩
    have hdn : d.size = n := by omega
    have hst3 : St C (eS L e (some ⟨blk, 0, none⟩) n cc (d.toList.map Subtype.val) :: θ₀) κ₀ w' := by
      refine hst.sw Sw.head (by rw [hw3]; rfl) (by rw [hw3]; rfl) ⟨by rw [hw3]; rfl, by rw [hw3]; show C.W0.drawn ≤ C.W0.drawn + m; omega⟩ (by rw [hw3]; simp [sortWorld, size_grow, Sort.ahead]) (fun b hb hbn => ?_) ?_ (fun b hb => .inl ?_)
      · rw [hw3]
        exact heap_sortWorld_ne hb fun e => hbn (by rw [hne, e])
      · refine ⟨by simp [hn, hsize], .inr ⟨hcc, (flatK (fun x : {x // x ∈ xs} => enc x.1) z d).toList, ⟨by simp [hLs, hdn], .inr ⟨blk, cc, putCells id 0 (flatK (fun x : {x // x ∈ xs} => enc x.1) z d) cur, rfl, Nat.zero_le _, by rw [hw3]; exact heap_sortWorld_eq hheap, hnc, hcm, by simp [putCells, hLs, hcs], ?_⟩⟩, by simp [hLs], fun i x hxi => ?_⟩⟩
        · rw [hLs]
          have hle : n * z ≤ cur.size := Nat.le_trans (Nat.mul_le_mul_right _ hnc) hcs
          apply List.ext_getElem?
          intro i
          by_cases hi : i < n * z
          · have hid : i < (flatK (fun x : {x // x ∈ xs} => enc x.1) z d).size := by rw [size_flatK, hdn]; exact hi
            have hic : i < cur.size := by omega
            rw [List.getElem?_take_of_lt hi]
            have hid2 : i < d.size * z := by rw [hdn]; exact hi
            rw [Array.getElem?_toList, Array.getElem?_toList, Array.getElem?_eq_getElem hid]
            have h4 := getElem!_pos (flatK (fun x : {x // x ∈ xs} => enc x.1) z d) i hid
            rw [← h4]
            simp [putCells, hic, hid2]
          · rw [List.getElem?_take_eq_none (by omega)]
            symm
            simp [hdn]
            omega
        · rw [hLs, hLy]
          show ((flatK (fun x : {x // x ∈ xs} => enc x.1) z d).toList.drop (i * z)).take z = enc x
          have hi : i < d.size := by
            have := (List.getElem?_eq_some_iff.1 hxi).1
            simpa using this
          have hxe : d[i].1 = x := by
            rw [List.getElem?_map, List.getElem?_eq_getElem (by simpa using hi)] at hxi
            simpa using hxi
          apply List.ext_getElem?
          intro k
          by_cases hk0 : k < z
          · rw [List.getElem?_take_of_lt hk0, List.getElem?_drop, Array.getElem?_toList, get_flatK? (enc := fun x : {x // x ∈ xs} => enc x.1) (fun x => henc x.1) hi hk0, hxe]
          · rw [List.getElem?_take_eq_none (by omega), List.getElem?_eq_none (by rw [henc]; omega)]
      · rw [hne]
        show some blk = some b
        rw [← hb]
        simp [hcc, Value.ownBlock]
    exact hst3.subFacts fun _ hf => by cases hf
end
end Go.Proofs.Ytdenliplkmjmjaa
