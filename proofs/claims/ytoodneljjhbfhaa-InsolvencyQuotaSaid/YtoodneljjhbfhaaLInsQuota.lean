/- The law InsolvencyQuota (plain). -/
import Derived.Test.YtoodneljjhbfhaaLInsM
namespace Go.Proofs.Ytoodneljjhbfhaa.Pl
open Go

theorem bAnd20 (x : Int) : 0 ≤ bAnd .i64 x 1048575 ∧ bAnd .i64 x 1048575 ≤ 1048575 := by
  unfold bAnd
  have h : (BitVec.ofInt IntKind.i64.bits x &&& BitVec.ofInt IntKind.i64.bits 1048575).toNat ≤ 1048575 := by
    rw [BitVec.toNat_and]
    exact Nat.and_le_right
  have e : IntKind.i64.wrap ((BitVec.ofInt IntKind.i64.bits x &&& BitVec.ofInt IntKind.i64.bits 1048575).toNat : Int) = ((BitVec.ofInt IntKind.i64.bits x &&& BitVec.ofInt IntKind.i64.bits 1048575).toNat : Int) := w64_id (by omega) (by omega)
  rw [e]
  omega
def msk (m : GMutual) : GMutual := ⟨m.Party, bAnd .i64 m.Owed 1048575, bAnd .i64 m.Owes 1048575⟩
theorem msk_ok {m : GMutual} (h : okM m = true) : okM (msk m) = true := by
  have h1 := okM_iff.1 h
  have h2 := bAnd20 m.Owed
  have h3 := bAnd20 m.Owes
  exact okM_iff.2 ⟨h1.1, by dsimp only [msk]; omega, by dsimp only [msk]; omega⟩
theorem AscM.msk : ∀ {l : List GMutual} {q : Option Int}, AscM q l → AscM q (l.map Pl.msk)
  | [], _, _ => trivial
  | _ :: _, _, h => ⟨msk_ok h.1, h.2.1, AscM.msk h.2.2⟩
theorem mask_loop {l : List GMutual} {k : GDeck} (hl : l.length ≤ 1000) : loopV (treatylaw38_InsolvencyQuota_l10 (l, k)) (l, 0) = some (l.map msk) := by
  have hd := loopV_done (step := treatylaw38_InsolvencyQuota_l10 (l, k)) (fun i => ((l.take i).map msk ++ l.drop i, (i : Int))) l.length (l.map msk) ?_ ?_
  · simpa using hd
  · intro i hi
    have htl : ((l.take i).map msk).length = i := by simp; omega
    have e : l.drop i = l[i] :: l.drop (i + 1) := List.drop_eq_getElem_cons hi
    have hup : ∀ x y, upd ((l.take i).map msk ++ x :: l.drop (i + 1)) (i : Int) y = (l.take i).map msk ++ y :: l.drop (i + 1) := fun x y => by
      simp only [upd, Int.toNat_natCast]
      rw [List.set_append_right _ _ (by omega), htl, Nat.sub_self, List.set_cons_zero]
    have hix : ∀ x, ix ((l.take i).map msk ++ x :: l.drop (i + 1)) (i : Int) = x := fun x => by
      rw [ix_nat (by simp; omega), List.getElem_append_right (by omega)]
      simp only [htl, Nat.sub_self, List.getElem_cons_zero]
    have hin : ∀ x, inb ((l.take i).map msk ++ x :: l.drop (i + 1)) (i : Int) = true := fun x => inb_nat (by simp; omega)
    rw [e]
    unfold treatylaw38_InsolvencyQuota_l10
    dsimp only
    simp only [hix, hup]
    rw [if_pos (by simp; omega), chk_true (hin _), chk_true (hin _), w64_id (by omega) (by omega), List.take_succ_eq_append_getElem hi, List.map_append, List.append_assoc]
    rfl
  · unfold treatylaw38_InsolvencyQuota_l10
    dsimp only
    rw [if_neg (by simp)]
    simp
theorem tinySum {l : List Int} (h : ∀ x ∈ l, 0 ≤ x ∧ x ≤ 1048575) : 0 ≤ l.sum ∧ l.sum ≤ 1048575 * (l.length : Int) := by
  induction l with
  | nil => simp
  | cons x l ih =>
    have h1 := ih fun w hw => h w (List.mem_cons_of_mem _ hw)
    have h2 := h x (by simp)
    simp only [List.sum_cons, List.length_cons]
    omega
theorem treatylaw38_InsolvencyQuota_law (d : List Int) (_ : ∀ n ∈ d, -9223372036854775808 ≤ n ∧ n ≤ 9223372036854775807) (hd : d.length ≤ 9223372036854775807) : treatylaw38_InsolvencyQuota d = some true := by
  unfold treatylaw38_InsolvencyQuota
  obtain ⟨k, e1, hk⟩ := new2_ok hd
  obtain ⟨l0, k2, e2, hk2, hm0⟩ := mutuals_ok hk
  obtain ⟨u0, k3, e3, _, _, _⟩ := small_ok hk2
  have hl0 := hm0.len
  have hu := bAnd20 u0
  rw [e1, Option.bind_some, e2, Option.bind_some, mask_loop (by omega), Option.bind_some]
  dsimp only
  rw [e3, Option.bind_some]
  dsimp only
  generalize bAnd .i64 u0 1048575 = u at *
  have hlen : l0.length = (l0.map msk).length := by simp
  have hsm : ∀ m ∈ l0.map msk, (0 ≤ m.Owed ∧ m.Owed ≤ 1048575) ∧ 0 ≤ m.Owes ∧ m.Owes ≤ 1048575 := fun m hm => by
    obtain ⟨x, _, rfl⟩ := List.mem_map.1 hm
    exact ⟨bAnd20 x.Owed, bAnd20 x.Owes⟩
  have hm : MutOk (l0.map msk) := ⟨by simpa using hl0, hm0.asc.msk, fun m hm => by have := hsm m hm; omega⟩
  rw [hlen]
  generalize l0.map msk = l at *
  have hl := hm.len
  have hdo := hm.dist (a := u) (by omega)
  have hcv : ∀ x ∈ clms l, 0 ≤ x ∧ x ≤ 1048575 := fun x hx => by
    obtain ⟨m, hmm, rfl⟩ := List.mem_map.1 hx
    have h1 := hsm m hmm
    unfold clm
    omega
  have hpv : ∀ x ∈ pyss l, 0 ≤ x ∧ x ≤ 1048575 := fun x hx => by
    obtain ⟨m, hmm, rfl⟩ := List.mem_map.1 hx
    have h1 := hsm m hmm
    unfold pys
    omega
  have hcs := tinySum hcv
  have hps := tinySum hpv
  rw [clms_length] at hcs
  rw [pyss_length] at hps
  have hrs := redS_sum hdo.rok
  have hrl : (redS (clms l) (u + (pyss l).sum)).length = l.length := by rw [redS_length, clms_length]
  have hred := hdo.red
  have hnear : (u + (pyss l).sum) - (redS (clms l) (u + (pyss l).sum)).sum ≤ 0 → 0 < (clms l).sum → ∀ i (h1 : i < (redS (clms l) (u + (pyss l).sum)).length) (h2 : i < l.length), -(clms l).sum < clm l[i] * (u + (pyss l).sum) - (redS (clms l) (u + (pyss l).sum))[i] * (clms l).sum ∧ clm l[i] * (u + (pyss l).sum) - (redS (clms l) (u + (pyss l).sum))[i] * (clms l).sum < (clms l).sum := fun hrest hpos i h1 h2 => by
    rw [hrs] at hrest
    have hic : i < (clms l).length := by rw [clms_length]; exact h2
    have ec : (clms l)[i] = clm l[i] := by simp [clms]
    by_cases hc : (clms l).sum ≤ u + (pyss l).sum
    · have hFC : u + (pyss l).sum = (clms l).sum := by omega
      have er : (redS (clms l) (u + (pyss l).sum))[i] = clm l[i] := by
        simp only [redS, if_pos hc, ec]
      rw [er, hFC]
      omega
    · have er : (redS (clms l) (u + (pyss l).sum))[i] = (splitD (u + (pyss l).sum) (clms l) (clms l).sum)[i]'(by rw [splitD_length]; exact hic) := by
        simp only [redS, if_neg hc]
      have := splitD_near (hdo.rok.div hc) hic
      rw [er, Int.mul_comm (clm l[i])]
      rw [ec] at this
      omega
  rw [dist_eq, distS_ok hdo, Option.bind_some]
  dsimp only
  rw [divF_length]
  generalize redS (clms l) (u + (pyss l).sum) = red at *
  have hg : ((!decide ((0 : Int) = 0)) || (!decide ((l.length : Int) = (l.length : Int)))) = false := by simp
  rw [hg, if_neg (by simp)]
  have hloop : loopV (treatylaw38_InsolvencyQuota_l38 (divF l red, u + (pyss l).sum - red.sum, 0)) (u, 0, 0) = some (u + (pyss l).sum, (clms l).sum) := by
    have := loopV_done (step := treatylaw38_InsolvencyQuota_l38 (divF l red, u + (pyss l).sum - red.sum, 0)) (fun i => (u + ((pyss l).take i).sum, ((clms l).take i).sum, (i : Int))) l.length (u + (pyss l).sum, (clms l).sum) ?_ ?_
    · simpa using this
    · intro i hi
      have hid : i < (divF l red).length := by rw [divF_length]; exact hi
      have hic : i < (clms l).length := by rw [clms_length]; exact hi
      have hip : i < (pyss l).length := by rw [pyss_length]; exact hi
      have ec : (clms l)[i] = clm l[i] := by simp [clms]
      have ep : (pyss l)[i] = pys l[i] := by simp [pyss]
      have c1 := hcv _ (List.getElem_mem hic)
      have p1 := hpv _ (List.getElem_mem hip)
      rw [ec] at c1
      rw [ep] at p1
      have s1 := tinySum (l := (pyss l).take i) fun x hx => hpv x (List.mem_of_mem_take hx)
      have s2 := tinySum (l := (clms l).take i) fun x hx => hcv x (List.mem_of_mem_take hx)
      have t1 : ((pyss l).take i).length ≤ 5 := by simp [pyss_length]; omega
      have t2 : ((clms l).take i).length ≤ 5 := by simp [clms_length]; omega
      unfold treatylaw38_InsolvencyQuota_l38
      dsimp only
      simp only [ix_nat hid, divF_at hrl hi]
      have e4 : red[i]'(by omega) + (clm l[i] - red[i]'(by omega)) = clm l[i] := by omega
      rw [if_pos (by simp; omega), chk_true (inb_nat hid), e4, w64_id (n := clm l[i]) (by omega) (by omega), w64_id (by omega) (by omega), w64_id (by omega) (by omega), w64_id (by omega) (by omega), List.take_succ_eq_append_getElem hip, List.take_succ_eq_append_getElem hic, List.sum_append, List.sum_append, ec, ep]
      simp [Int.add_assoc]
    · unfold treatylaw38_InsolvencyQuota_l38
      dsimp only
      rw [if_neg (by simp [divF_length]), List.take_of_length_le (by rw [pyss_length]; omega), List.take_of_length_le (by rw [clms_length]; omega)]
  rw [hloop, Option.bind_some]
  dsimp only
  by_cases hex : 0 < u + (pyss l).sum - red.sum ∨ (clms l).sum = 0
  · rw [if_pos (by simpa using hex), insAwake_ok]
    rfl
  · rw [if_neg (by simpa using hex)]
    have hn := hnear (by omega) (by omega)
    have hloop2 : loopV (treatylaw38_InsolvencyQuota_l62 (divF l red, u + (pyss l).sum - red.sum, 0) (u + (pyss l).sum, (clms l).sum)) 0 = some (.inr ()) := by
      refine loopV_done (step := treatylaw38_InsolvencyQuota_l62 (divF l red, u + (pyss l).sum - red.sum, 0) (u + (pyss l).sum, (clms l).sum)) (fun i => (i : Int)) l.length (.inr ()) ?_ ?_
      · intro i hi
        have hid : i < (divF l red).length := by rw [divF_length]; exact hi
        have hir : i < red.length := by omega
        have hic : i < (clms l).length := by rw [clms_length]; exact hi
        have ec : (clms l)[i] = clm l[i] := by simp [clms]
        have c1 := hcv _ (List.getElem_mem hic)
        rw [ec] at c1
        have hb := hred i hir hi
        have hq := hn i hir hi
        have m1 : 0 ≤ clm l[i] * (u + (pyss l).sum) ∧ clm l[i] * (u + (pyss l).sum) ≤ 1048575 * (u + (pyss l).sum) := ⟨Int.mul_nonneg c1.1 (by omega), Int.mul_le_mul_of_nonneg_right c1.2 (by omega)⟩
        have m2 : 0 ≤ red[i] * (clms l).sum ∧ red[i] * (clms l).sum ≤ 1048575 * (clms l).sum := ⟨Int.mul_nonneg hb.1 (by omega), Int.mul_le_mul_of_nonneg_right (by omega) (by omega)⟩
        unfold treatylaw38_InsolvencyQuota_l62
        dsimp only
        simp only [ix_nat hid, divF_at hrl hi]
        have e4 : red[i] + (clm l[i] - red[i]) = clm l[i] := by omega
        rw [if_pos (by simp; omega), chk_true (inb_nat hid), e4, w64_id (n := clm l[i]) (by omega) (by omega)]
        generalize clm l[i] * (u + (pyss l).sum) = X at *
        generalize red[i] * (clms l).sum = Y at *
        rw [w64_id (n := X) (by omega) (by omega), w64_id (n := Y) (by omega) (by omega), w64_id (n := X - Y) (by omega) (by omega), w64_id (n := 0 - (X - Y)) (by omega) (by omega), if_neg (by simp; omega), w64_id (by omega) (by omega)]
        rfl
      · unfold treatylaw38_InsolvencyQuota_l62
        dsimp only
        rw [if_neg (by simp [divF_length])]
    rw [hloop2]
    simp [insAwake_ok]
end Go.Proofs.Ytoodneljjhbfhaa.Pl
