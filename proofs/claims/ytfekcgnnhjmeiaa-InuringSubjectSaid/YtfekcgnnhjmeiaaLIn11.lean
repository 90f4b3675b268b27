/- Inuring (plain): treaties of which one is changed; the example of the chapter. -/
import Derived.Test.YtfekcgnnhjmeiaaLIn10
namespace Go.Proofs.Ytfekcgnnhjmeiaa.Pl
open Go

theorem bAnd_range (x : Int) {m : Nat} (hm : m ≤ 1000000000000) : 0 ≤ bAnd .i64 x (m : Int) ∧ bAnd .i64 x (m : Int) ≤ (m : Int) := by
  have h : (BitVec.ofInt 64 x &&& BitVec.ofInt 64 (m : Int)).toNat ≤ m := by
    rw [BitVec.toNat_and]
    refine Nat.le_trans Nat.and_le_right ?_
    rw [BitVec.toNat_ofInt]
    omega
  have e : bAnd .i64 x (m : Int) = w64 ((BitVec.ofInt 64 x &&& BitVec.ofInt 64 (m : Int)).toNat : Int) := rfl
  rw [e, w64_id (by omega) (by omega)]
  omega
theorem tslen_upd {l : List GTreaty} (h : TsLen l) {i : Nat} (hi : i < l.length) {t : GTreaty} (ht : TLen t) : (upd l (i : Int) t).length = l.length ∧ TsLen (upd l (i : Int) t) := by
  refine ⟨upd_length, fun k hk => ?_⟩
  rw [upd_length] at hk
  rw [ix_upd hi]
  split
  · exact ht
  · exact h k hk
theorem spoilt_ok {l : List GTreaty} (h0 : 1 ≤ l.length) (h8 : l.length ≤ 8) (h : ∀ k : Nat, k < l.length → TOk (ix l (k : Int))) (a n : Int) : Ok (treatylaw29_spoilt l a n) fun x => x.length = l.length ∧ TsLen x := by
  have ht : TsLen l := fun k hk => (h k hk).len
  have hb := bAnd_range (bShr .i64 a 3) (m := 15) (by omega)
  have hb1 := Int.tmod_nonneg (l.length : Int) hb.1
  have hb2 := Int.tmod_lt_of_pos (bAnd .i64 (bShr .i64 a 3) ((15 : Nat) : Int)) (show 0 < (l.length : Int) by omega)
  obtain ⟨i, hi⟩ := Int.eq_ofNat_of_zero_le hb1
  have hi' : (bAnd .i64 (bShr .i64 a 3) 15).tmod (l.length : Int) = (i : Int) := hi
  have hil : i < l.length := by omega
  have o := h i hil
  have len := o.len
  unfold treatylaw29_spoilt
  rw [hi']
  refine Ok.chk (room_of (by omega)) (Ok.chk (by rw [decide_eq_false (show ¬ (l.length : Int) = 0 by omega)]; rfl) (Ok.chk (inb_nat hil) ?_))
  refine Ok.bind (P := fun x => x.length = l.length ∧ TsLen x) ?_ fun x hx => .some hx
  refine Ok.ite (fun _ => .some (tslen_upd ht hil ⟨len.1, len.2, len.3⟩)) fun _ => ?_
  refine Ok.ite (fun _ => Ok.chk (room_of len.3) (Ok.chk (room_of (by have := o.inu.1; simp; omega)) (.some (tslen_upd ht hil ⟨len.1, len.2, by have := o.inu.1; simp; omega⟩)))) fun _ => ?_
  refine Ok.ite (fun _ => .some (tslen_upd ht hil ⟨len.1, len.2, by simp⟩)) fun _ => ?_
  refine Ok.ite (fun _ => .some (tslen_upd ht hil ⟨len.1, len.2, len.3⟩)) fun _ => ?_
  refine Ok.ite (fun _ => .some (tslen_upd ht hil ⟨len.1, len.2, len.3⟩)) fun _ => ?_
  refine Ok.ite (fun _ => Ok.chk (inb_of (by rw [w64_id (by omega) (by omega)]; omega) (by rw [w64_id (by omega) (by omega)]; omega)) (.some (tslen_upd ht hil ⟨len.1, len.2, by simp⟩))) fun _ => ?_
  refine Ok.ite (fun _ => .some (tslen_upd ht hil ⟨len.1, len.2, len.3⟩)) fun _ => ?_
  exact .some (tslen_upd ht hil ⟨len.1, len.2, len.3⟩)
/-! ### the example -/
def ex3 (x : Int) : List GTreaty := [(GTreaty.mk 1 1 (GPeriod.mk 0 100) [] [] 0 500000 0 0 0 0 0 0 0 0 [] false 0 [] []), (GTreaty.mk 2 5 (GPeriod.mk 0 100) [] [] 0 0 0 0 100 100 24 0 0 0 [] false 0 [1] []), (GTreaty.mk 3 5 (GPeriod.mk 0 100) [] [] 0 0 0 0 x 300 24 0 0 0 [] false 0 [1] [])]
theorem ex3_len (x : Int) : TsLen (ex3 x) := by
  intro k hk
  have : k = 0 ∨ k = 1 ∨ k = 2 := by simp [ex3] at hk; omega
  rcases this with rfl | rfl | rfl <;> exact ⟨by simp [ex3, ix], by simp [ex3, ix], by simp [ex3, ix]⟩
theorem ex3_below (x : Int) : Below (ex3 x) := by
  intro k hk
  have : k = 0 ∨ k = 1 ∨ k = 2 := by simp [ex3] at hk; omega
  rcases this with rfl | rfl | rfl
  · intro id h; simp [ex3, ix] at h
  · intro id h
    have : id = 1 := by simpa [ex3, ix] using h
    subst this
    exact ⟨0, by omega, rfl⟩
  · intro id h
    have : id = 1 := by simpa [ex3, ix] using h
    subst this
    exact ⟨0, by omega, rfl⟩
theorem ex3_200 : AllOk (ex3 200) := ⟨by decide, by decide +kernel, by decide +kernel, below_acyclic (ex3_below 200), by decide +kernel⟩
theorem ex3_150 : vOf (ex3 150) = 8 := by
  unfold vOf
  rw [if_neg (by decide), show st1 (ex3 150) = none by decide +kernel, show st2 (ex3 150) = none by decide +kernel, show st4 (ex3 150) = some 8 by decide +kernel]
  dsimp only [Option.elim]
  rw [if_neg (below_acyclic (ex3_below 150))]
  rfl
theorem awake_ok : treatylaw29_awake = some true := by
  have u : Uniq (ex3 200) := st1_uniq ex3_200.s1
  have e1 : inuring_Order (ex3 200) = some (idxs 3, 0) := order_below (by decide) (ex3_len 200) (ex3_below 200) (vOf_ok ex3_200)
  have e2 : inuring_Validate (ex3 150) = some 8 := by rw [validateAll (by decide) (ex3_len 150), ex3_150]
  obtain ⟨b, e3, _, hb⟩ := dep_ok (ts := ex3 200) (i := 2) (j := 0) (by decide) u (ex3_len 200) (by decide) (by decide)
  have hed : Edge (ex3 200) 2 0 := (edge_iff u (by decide) (by decide)).2 (by decide)
  have hb' := hb hed
  subst hb'
  have e3' : inuring_Depends (ex3 200) 2 0 = some true := e3
  have e4 : treatyref01_SameInts (idxs 3) [0, 1, 2] = some true := by rw [same_eq (by decide)]; rfl
  unfold treatylaw29_awake
  have t1 : treatylaw29_three 200 = some (ex3 200) := rfl
  have t2 : treatylaw29_three 150 = some (ex3 150) := rfl
  simp only [t1, t2, Option.bind_some, e1, e2, e3', e4, decide_true, if_true]
end Go.Proofs.Ytfekcgnnhjmeiaa.Pl
