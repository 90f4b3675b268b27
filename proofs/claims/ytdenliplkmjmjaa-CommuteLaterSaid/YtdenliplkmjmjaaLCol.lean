/- The reference's way to collect entries: merge sort, then sums of neighbours; as lists. -/
import Derived.Test.YtdenliplkmjmjaaLBase
import Derived.Test.YtdenliplkmjmjaaP
namespace Go.Proofs.Ytdenliplkmjmjaa.Pl

/-- the order of headings -/
def kLt (a b : GEntry) : Bool :=
  decide (a.Kind < b.Kind) || (decide (a.Kind = b.Kind) && (decide (a.Treaty < b.Treaty) || (decide (a.Treaty = b.Treaty) && (decide (a.Party < b.Party) || (decide (a.Party = b.Party) && decide (a.Loss < b.Loss))))))
theorem before_eq (a b : GEntry) : treatyref33_Before a b = some (kLt a b) := by
  unfold treatyref33_Before kLt
  by_cases h1 : a.Kind = b.Kind
  · by_cases h2 : a.Treaty = b.Treaty
    · by_cases h3 : a.Party = b.Party <;> simp [h1, h2, h3]
    · simp [h1, h2]
  · simp [h1]
theorem kLt_irrefl (a : GEntry) : kLt a a = false := by simp [kLt]
theorem kLt_iff (a b : GEntry) : kLt a b = true ↔ (a.Kind < b.Kind ∨ (a.Kind = b.Kind ∧ (a.Treaty < b.Treaty ∨ (a.Treaty = b.Treaty ∧ (a.Party < b.Party ∨ (a.Party = b.Party ∧ a.Loss < b.Loss)))))) := by
  simp [kLt]
theorem kLt_trans {a b c : GEntry} (h1 : kLt a b = true) (h2 : kLt b c = true) : kLt a c = true := by
  rw [kLt_iff] at *; omega
theorem kLe_trans {a b c : GEntry} (h1 : kLt b a = false) (h2 : kLt c b = false) : kLt c a = false := by
  have e1 : ¬ _ := mt (kLt_iff b a).2 (by simp [h1])
  have e2 : ¬ _ := mt (kLt_iff c b).2 (by simp [h2])
  cases h : kLt c a with
  | false => rfl
  | true => rw [kLt_iff] at h; omega

def mergeL : List GEntry → List GEntry → List GEntry
  | [], b => b
  | a, [] => a
  | x :: a, y :: b => if kLt y x then y :: mergeL (x :: a) b else x :: mergeL a (y :: b)
  termination_by a b => a.length + b.length
theorem mergeL_perm : ∀ a b, (mergeL a b).Perm (a ++ b)
  | [], b => by simp [mergeL]
  | x :: a, [] => by simp [mergeL]
  | x :: a, y :: b => by
    unfold mergeL
    split
    · exact (List.Perm.cons y (mergeL_perm (x :: a) b)).trans (List.perm_middle.symm)
    · exact List.Perm.cons x (mergeL_perm a (y :: b))
  termination_by a b => a.length + b.length
def SortedE (l : List GEntry) : Prop := l.Pairwise fun a b => kLt b a = false
theorem mergeL_sorted : ∀ a b, SortedE a → SortedE b → SortedE (mergeL a b)
  | [], b, _, hb => by simpa [mergeL] using hb
  | x :: a, [], ha, _ => by simpa [mergeL] using ha
  | x :: a, y :: b, ha, hb => by
    have ha' := List.pairwise_cons.1 ha
    have hb' := List.pairwise_cons.1 hb
    unfold mergeL
    split
    · rename_i h
      refine List.pairwise_cons.2 ⟨fun z hz => ?_, mergeL_sorted (x :: a) b ha hb'.2⟩
      have hz' := (mergeL_perm (x :: a) b).mem_iff.1 hz
      have hxy : kLt x y = false := by
        cases hc : kLt x y with
        | false => rfl
        | true => have := kLt_trans h hc; rw [kLt_irrefl] at this; cases this
      rcases List.mem_append.1 hz' with hz' | hz'
      · rcases List.mem_cons.1 hz' with rfl | hz'
        · exact hxy
        · exact kLe_trans hxy (ha'.1 z hz')
      · exact hb'.1 z hz'
    · rename_i h
      refine List.pairwise_cons.2 ⟨fun z hz => ?_, mergeL_sorted a (y :: b) ha'.2 hb⟩
      have hz' := (mergeL_perm a (y :: b)).mem_iff.1 hz
      have hyx : kLt y x = false := by simpa using h
      rcases List.mem_append.1 hz' with hz' | hz'
      · exact ha'.1 z hz'
      · rcases List.mem_cons.1 hz' with rfl | hz'
        · exact hyx
        · exact kLe_trans hyx (hb'.1 z hz')
  termination_by a b => a.length + b.length
def msort (l : List GEntry) : List GEntry := if h : l.length < 2 then l else mergeL (msort (l.take (l.length / 2))) (msort (l.drop (l.length / 2)))
  termination_by l.length
  decreasing_by
  · simp only [List.length_take]; omega
  · simp only [List.length_drop]; omega
theorem msort_perm (l : List GEntry) : (msort l).Perm l := by
  unfold msort
  split
  · exact List.Perm.refl _
  · have h1 := msort_perm (l.take (l.length / 2))
    have h2 := msort_perm (l.drop (l.length / 2))
    have h3 := (mergeL_perm (msort (l.take (l.length / 2))) (msort (l.drop (l.length / 2)))).trans (h1.append h2)
    rwa [List.take_append_drop] at h3
  termination_by l.length
  decreasing_by
  · simp only [List.length_take]; omega
  · simp only [List.length_drop]; omega
theorem msort_sorted (l : List GEntry) : SortedE (msort l) := by
  unfold msort
  split
  · rename_i h
    match l, h with
    | [], _ => exact List.Pairwise.nil
    | [x], _ => exact List.pairwise_singleton _ _
    | x :: y :: l, h => simp at h; omega
  · exact mergeL_sorted _ _ (msort_sorted _) (msort_sorted _)
  termination_by l.length
  decreasing_by
  · simp only [List.length_take]; omega
  · simp only [List.length_drop]; omega

theorem mergeLoop (a b out : List GEntry) (h : out.length + a.length + b.length ≤ 1000000000) :
    ∃ a' b' out', loopV treatyref33_sorted_l14 (a, b, out) = some (a', b', out') ∧ (out' ++ a') ++ b' = out ++ mergeL a b := by
  suffices H : ∀ n a b out, a.length + b.length = n → out.length + a.length + b.length ≤ 1000000000 →
      ∃ a' b' out', loopV treatyref33_sorted_l14 (a, b, out) = some (a', b', out') ∧ (out' ++ a') ++ b' = out ++ mergeL a b from H _ a b out rfl h
  intro n
  induction n with
  | zero =>
    intro a b out hn _
    have ha : a = [] := List.eq_nil_of_length_eq_zero (by omega)
    have hb : b = [] := List.eq_nil_of_length_eq_zero (by omega)
    subst ha hb
    exact ⟨[], [], out, loopV_stop (by simp [treatyref33_sorted_l14]), by simp [mergeL]⟩
  | succ n ih =>
    intro a b out hn hle
    match a, b with
    | [], b => exact ⟨[], b, out, loopV_stop (by simp [treatyref33_sorted_l14]), by simp [mergeL]⟩
    | x :: a, [] => exact ⟨x :: a, [], out, loopV_stop (by simp [treatyref33_sorted_l14]), by simp [mergeL]⟩
    | x :: a, y :: b =>
      simp only [List.length_cons] at hn hle
      cases hk : kLt y x with
      | true =>
        have hs : treatyref33_sorted_l14 (x :: a, y :: b, out) = some (.inl (x :: a, b, out ++ [y])) := by
          unfold treatyref33_sorted_l14
          have c1 : inb (y :: b) 0 = true := inb_of (by omega) (by simp <;> omega)
          have c2 : inb (x :: a) 0 = true := inb_of (by omega) (by simp <;> omega)
          have h1 : room (out ++ [y]).length = true := room_of (by simp <;> omega)
          have c3 : decide ((1 : Int) ≤ ((y :: b).length : Int)) = true := by simp <;> omega
          have c4 : (decide (0 < ((x :: a).length : Int)) && decide (0 < ((y :: b).length : Int))) = true := by simp <;> omega
          dsimp only
          have e1 : ix (y :: b) 0 = y := rfl
          have e2 : ix (x :: a) 0 = x := rfl
          simp only [c4, if_true, chk_of c1, chk_of c2, e1, e2, before_eq, hk, Option.bind_some, chk_of h1, chk_of c3]
          rfl
        obtain ⟨a', b', out', h1, h2⟩ := ih (x :: a) b (out ++ [y]) (by simp <;> omega) (by simp <;> omega)
        refine ⟨a', b', out', (loopV_next hs).trans h1, ?_⟩
        rw [h2]
        conv => rhs; unfold mergeL
        simp [hk]
      | false =>
        have hs : treatyref33_sorted_l14 (x :: a, y :: b, out) = some (.inl (a, y :: b, out ++ [x])) := by
          unfold treatyref33_sorted_l14
          have c1 : inb (y :: b) 0 = true := inb_of (by omega) (by simp <;> omega)
          have c2 : inb (x :: a) 0 = true := inb_of (by omega) (by simp <;> omega)
          have h1 : room (out ++ [x]).length = true := room_of (by simp <;> omega)
          have c3 : decide ((1 : Int) ≤ ((x :: a).length : Int)) = true := by simp <;> omega
          have c4 : (decide (0 < ((x :: a).length : Int)) && decide (0 < ((y :: b).length : Int))) = true := by simp <;> omega
          dsimp only
          have e1 : ix (y :: b) 0 = y := rfl
          have e2 : ix (x :: a) 0 = x := rfl
          simp only [c4, if_true, chk_of c1, chk_of c2, e1, e2, before_eq, hk, Option.bind_some, Bool.false_eq_true, if_false, chk_of h1, chk_of c3]
          rfl
        obtain ⟨a', b', out', h1, h2⟩ := ih a (y :: b) (out ++ [x]) (by simp <;> omega) (by simp <;> omega)
        refine ⟨a', b', out', (loopV_next hs).trans h1, ?_⟩
        rw [h2]
        conv => rhs; unfold mergeL
        simp [hk]

theorem half_eq (n : Nat) (h : n ≤ 1000000000) : w64 ((n : Int).tdiv 2) = ((n / 2 : Nat) : Int) := by
  have e : (n : Int).tdiv 2 = ((n / 2 : Nat) : Int) := by simp [Int.tdiv]
  rw [e, w64_id (by omega) (by omega)]
theorem sorted_F (self : List GEntry → Option (List GEntry)) (l a b : List GEntry) (hl : l.length ≤ 1000000000) (h2 : 2 ≤ l.length) (ha : self (l.take (l.length / 2)) = some a) (hb : self (l.drop (l.length / 2)) = some b) (hab : a.length + b.length = l.length) : treatyref33_sorted_F self l = some (mergeL a b) := by
  unfold treatyref33_sorted_F
  have h1 : decide ((l.length : Int) < 2) = false := by simp <;> omega
  rw [half_eq _ hl]
  obtain ⟨a', b', out', h3, h4⟩ := mergeLoop a b [] (by simp <;> omega)
  have h5 : (mergeL a b).length = l.length := by rw [(mergeL_perm a b).length_eq, List.length_append, hab]
  simp only [List.nil_append] at h4
  have h6 : room (mergeL a b).length = true := by rw [h5]; exact room_of hl
  have h7 : room (out' ++ a').length = true := room_of (by have := h5; rw [← h4] at this; simp at this ⊢; omega)
  have hc1 : decide ((0 : Int) ≤ ((l.length / 2 : Nat) : Int)) = true := by simp <;> omega
  have hc2 : decide (((l.length / 2 : Nat) : Int) ≤ (l.length : Int)) = true := by simp <;> omega
  simp only [h1, Bool.false_eq_true, if_false, chk_of hc1, chk_of hc2, Int.toNat_natCast, ha, hb, Option.bind_some, h3, chk_of h7, chk_of h6, h4]
theorem sorted_F1 (self : List GEntry → Option (List GEntry)) (l : List GEntry) (h2 : l.length < 2) : treatyref33_sorted_F self l = some l := by
  unfold treatyref33_sorted_F
  have h1 : decide ((l.length : Int) < 2) = true := by simp <;> omega
  simp only [h1, if_true, chk_of (room_of (show l.length ≤ 1000000000 by omega))]
theorem sorted_n_eq : ∀ (k : Nat) (l r : List GEntry), l.length ≤ 1000000000 → treatyref33_sorted_n k l = some r → r = msort l
  | 0, _, _, _, h => by cases h
  | k + 1, l, r, hl, h => by
    unfold treatyref33_sorted_n at h
    by_cases h2 : l.length < 2
    · rw [sorted_F1 _ l h2] at h
      unfold msort
      rw [dif_pos h2]
      exact (Option.some.inj h).symm
    · cases ha : treatyref33_sorted_n k (l.take (l.length / 2)) with
      | none =>
        exfalso
        unfold treatyref33_sorted_F at h
        have h1 : decide ((l.length : Int) < 2) = false := by simp <;> omega
        rw [half_eq _ hl] at h
        have hc1 : decide ((0 : Int) ≤ ((l.length / 2 : Nat) : Int)) = true := by simp <;> omega
        have hc2 : decide (((l.length / 2 : Nat) : Int) ≤ (l.length : Int)) = true := by simp <;> omega
        simp only [h1, Bool.false_eq_true, if_false, chk_of hc1, chk_of hc2, Int.toNat_natCast, ha, Option.bind_none] at h
        cases h
      | some a =>
        cases hb : treatyref33_sorted_n k (l.drop (l.length / 2)) with
        | none =>
          exfalso
          unfold treatyref33_sorted_F at h
          have h1 : decide ((l.length : Int) < 2) = false := by simp <;> omega
          rw [half_eq _ hl] at h
          have hc1 : decide ((0 : Int) ≤ ((l.length / 2 : Nat) : Int)) = true := by simp <;> omega
          have hc2 : decide (((l.length / 2 : Nat) : Int) ≤ (l.length : Int)) = true := by simp <;> omega
          simp only [h1, Bool.false_eq_true, if_false, chk_of hc1, chk_of hc2, Int.toNat_natCast, ha, hb, Option.bind_none, Option.bind_some] at h
          cases h
        | some b =>
          have ea := sorted_n_eq k _ a (by simp only [List.length_take]; omega) ha
          have eb := sorted_n_eq k _ b (by simp only [List.length_drop]; omega) hb
          have hla : a.length = (l.take (l.length / 2)).length := by rw [ea, (msort_perm _).length_eq]
          have hlb : b.length = (l.drop (l.length / 2)).length := by rw [eb, (msort_perm _).length_eq]
          rw [sorted_F _ l a b hl (by omega) ha hb (by rw [hla, hlb, List.length_take, List.length_drop]; omega)] at h
          unfold msort
          rw [dif_neg h2, ← ea, ← eb]
          exact (Option.some.inj h).symm
theorem sorted_n_some : ∀ (k : Nat) (l : List GEntry), l.length ≤ 1000000000 → l.length ≤ k → treatyref33_sorted_n (k + 1) l = some (msort l)
  | k, l, hl, hk => by
    unfold treatyref33_sorted_n
    by_cases h2 : l.length < 2
    · rw [sorted_F1 _ l h2]
      unfold msort
      rw [dif_pos h2]
    · match k with
      | 0 => omega
      | k + 1 =>
        have ha := sorted_n_some k (l.take (l.length / 2)) (by simp only [List.length_take]; omega) (by simp only [List.length_take]; omega)
        have hb := sorted_n_some k (l.drop (l.length / 2)) (by simp only [List.length_drop]; omega) (by simp only [List.length_drop]; omega)
        rw [sorted_F _ l _ _ hl (by omega) ha hb (by rw [(msort_perm _).length_eq, (msort_perm _).length_eq, List.length_take, List.length_drop]; omega)]
        conv => rhs; unfold msort
        rw [dif_neg h2]
theorem sorted_eq (l : List GEntry) (hl : l.length ≤ 1000000000) : treatyref33_sorted l = some (msort l) :=
  recV_eq (fun k r h => sorted_n_eq k l r hl h) (l.length + 1) (sorted_n_some _ l hl (Nat.le_refl _))
end Go.Proofs.Ytdenliplkmjmjaa.Pl
