/- insolvency.Distribute (plain): what it returns, and the reference the same. -/
import Derived.Test.YtoodneljjhbfhaaLIns
namespace Go.Proofs.Ytoodneljjhbfhaa.Pl
open Go

def distS (a : Int) (l : List GMutual) : List GDividend × Int × Int :=
  if mutE l ≠ 0 then ([], 0, mutE l) else if ¬ (0 ≤ a ∧ a ≤ 17592186044416) then ([], 0, 1) else
  if 17592186044416 < a + (pyss l).sum ∨ 17592186044416 < (clms l).sum then ([], 0, 3) else
  (divF l (redS (clms l) (a + (pyss l).sum)), a + (pyss l).sum - (redS (clms l) (a + (pyss l).sum)).sum, 0)
theorem sumTake {l : List Int} (h : ∀ x ∈ l, 0 ≤ x ∧ x ≤ 17592186044416) (hl : l.length ≤ 16) (k : Nat) : 0 ≤ (l.take k).sum ∧ (l.take k).sum ≤ 281474976710656 := by
  have h1 := sum_le (l := l.take k) fun x hx => h x (List.mem_of_mem_take hx)
  have h2 : (l.take k).length ≤ 16 := by simp; omega
  omega
/-! ### the first loop -/
theorem dist1 {l : List GMutual} {a : Int} (h : VOk l) (ha : 0 ≤ a ∧ a ≤ 17592186044416) :
    loopV (insolvency_Distribute_l26 l) (a, 0, List.replicate l.length 0, List.replicate l.length ⟨0, 0, 0, 0, 0⟩, 0) = some (a + (pyss l).sum, (clms l).sum, clms l, l.map div0) := by
  have hl := h.len
  have hcl := clms_length l
  have hpl := pyss_length l
  have hcv := clms_val h.asc.ok
  have hpv := pyss_val h.asc.ok
  have hdl : (l.map div0).length = l.length := by simp
  have hd := loopV_done (step := insolvency_Distribute_l26 l) (fun k => (a + ((pyss l).take k).sum, ((clms l).take k).sum, fillG 0 (clms l) k, fillG ⟨0, 0, 0, 0, 0⟩ (l.map div0) k, (k : Int))) l.length (a + (pyss l).sum, (clms l).sum, clms l, l.map div0) ?_ ?_
  · simpa [fillG_zero, hcl] using hd
  · intro k hk
    have hkc : k < (clms l).length := by omega
    have hkp : k < (pyss l).length := by omega
    have hkd : k < (l.map div0).length := by omega
    have hok := h.asc.ok _ (List.getElem_mem hk)
    have hm := okM_iff.1 hok
    have hc := clm_ok hok
    have s1 := sumTake hpv (by omega) k
    have s2 := sumTake hcv (by omega) k
    have ec : (clms l)[k] = clm l[k] := by simp [clms]
    have ep : (pyss l)[k] = pys l[k] := by simp [pyss]
    have ed : (l.map div0)[k] = div0 l[k] := by simp
    have u1 := upd_fillG (z := (0 : Int)) hkc
    have u2 := upd_fillG (z := (⟨0, 0, 0, 0, 0⟩ : GDividend)) hkd
    have x1 := fillG_at (z := (0 : Int)) hkc
    have x2 := fillG_at (z := (⟨0, 0, 0, 0, 0⟩ : GDividend)) hkd
    rw [ec] at u1 x1
    rw [ed] at u2 x2
    unfold insolvency_Distribute_l26
    dsimp only
    simp only [ix_nat hk, minI_eq]
    have w1 : w64 (l[k].Owed - min l[k].Owed l[k].Owes) = clm l[k] := by
      rw [w64_id (by omega) (by omega)]; rfl
    have w2 : w64 (l[k].Owes - min l[k].Owed l[k].Owes) = pys l[k] := by
      rw [w64_id (by omega) (by omega)]; rfl
    have w3 : GDividend.mk l[k].Party (min l[k].Owed l[k].Owes) 0 (pys l[k]) 0 = div0 l[k] := rfl
    rw [if_pos (by simp; omega), chk_true (inb_nat hk), chk_true (inb_nat (by rw [fillG_length]; exact hkc)), chk_true (inb_nat (by rw [fillG_length]; exact hkd))]
    simp only [w1, w2, w3, u1, u2, x1, x2]
    rw [chk_true (inb_nat (by rw [fillG_length]; exact hkc)), chk_true (inb_nat (by rw [fillG_length]; exact hkd))]
    have e1 : (div0 l[k]).Pays = pys l[k] := rfl
    rw [e1, w64_id (by omega) (by omega), w64_id (by omega) (by omega), w64_id (by omega) (by omega), List.take_succ_eq_append_getElem hkc, List.take_succ_eq_append_getElem hkp, List.sum_append, List.sum_append, ec, ep]
    simp [Int.add_assoc]
  · unfold insolvency_Distribute_l26
    dsimp only
    have f1 := fillG_all (0 : Int) (clms l)
    have f2 := fillG_all (⟨0, 0, 0, 0, 0⟩ : GDividend) (l.map div0)
    rw [hcl] at f1
    rw [hdl] at f2
    rw [if_neg (by simp), f1, f2, List.take_of_length_le (by omega), List.take_of_length_le (by omega)]
theorem rdist1 {l : List GMutual} {a : Int} (h : VOk l) (ha : 0 ≤ a ∧ a ≤ 17592186044416) :
    loopV (treatyref33_Distribute_l26 l) (a, 0, [], [], 0) = some (a + (pyss l).sum, (clms l).sum, clms l, l.map div0) := by
  have hl := h.len
  have hcl := clms_length l
  have hpl := pyss_length l
  have hcv := clms_val h.asc.ok
  have hpv := pyss_val h.asc.ok
  have hdl : (l.map div0).length = l.length := by simp
  have hd := loopV_done (step := treatyref33_Distribute_l26 l) (fun k => (a + ((pyss l).take k).sum, ((clms l).take k).sum, (clms l).take k, (l.map div0).take k, (k : Int))) l.length (a + (pyss l).sum, (clms l).sum, clms l, l.map div0) ?_ ?_
  · simpa using hd
  · intro k hk
    have hkc : k < (clms l).length := by omega
    have hkp : k < (pyss l).length := by omega
    have hkd : k < (l.map div0).length := by omega
    have hok := h.asc.ok _ (List.getElem_mem hk)
    have hm := okM_iff.1 hok
    have hc := clm_ok hok
    have s1 := sumTake hpv (by omega) k
    have s2 := sumTake hcv (by omega) k
    have ec : (clms l)[k] = clm l[k] := by simp [clms]
    have ep : (pyss l)[k] = pys l[k] := by simp [pyss]
    have ed : (l.map div0)[k] = div0 l[k] := by simp
    unfold treatyref33_Distribute_l26
    dsimp only
    simp only [ix_nat hk, minI_eq]
    have w1 : w64 (l[k].Owed - min l[k].Owed l[k].Owes) = clm l[k] := by
      rw [w64_id (by omega) (by omega)]; rfl
    have w2 : w64 (l[k].Owes - min l[k].Owed l[k].Owes) = pys l[k] := by
      rw [w64_id (by omega) (by omega)]; rfl
    have w3 : GDividend.mk l[k].Party (min l[k].Owed l[k].Owes) 0 (pys l[k]) 0 = div0 l[k] := rfl
    simp only [w1, w2, w3]
    rw [if_pos (by simp; omega), chk_true (inb_nat hk), chk_true (room_of (by simp; omega)), chk_true (room_of (by simp; omega)), w64_id (by omega) (by omega), w64_id (by omega) (by omega), w64_id (by omega) (by omega), List.take_succ_eq_append_getElem hkc, List.take_succ_eq_append_getElem hkp, List.take_succ_eq_append_getElem hkd, List.sum_append, List.sum_append, ec, ep, ed]
    simp [Int.add_assoc]
  · unfold treatyref33_Distribute_l26
    dsimp only
    rw [if_neg (by simp), List.take_of_length_le (by omega), List.take_of_length_le (by omega), List.take_of_length_le (by omega)]
/-! ### by party -/
def arrF (l : List GMutual) (red : List Int) : Nat → List Int
  | 0 => List.replicate 16 0
  | k + 1 => upd (arrF l red k) (l.getD k default).Party (red.getD k 0)
theorem arrF_length (l : List GMutual) (red : List Int) : ∀ k, (arrF l red k).length = 16
  | 0 => by simp [arrF]
  | k + 1 => by simp [arrF, upd, arrF_length l red k]
theorem arrF_at {l : List GMutual} {red : List Int} (h : VOk l) (hr : red.length = l.length) : ∀ k, k ≤ l.length → ∀ j (_ : j < k) (hjl : j < l.length), (arrF l red k).getD l[j].Party.toNat 0 = red[j]'(by omega)
  | 0, _, j, hj, _ => by omega
  | k + 1, hk, j, hj, hjl => by
    have hkl : k < l.length := by omega
    have hokk := okM_iff.1 (h.asc.ok _ (List.getElem_mem hkl))
    have hokj := okM_iff.1 (h.asc.ok _ (List.getElem_mem hjl))
    have hlen := arrF_length l red k
    have ek : (l.getD k default) = l[k] := by simp [hkl]
    have er : red.getD k 0 = red[k]'(by omega) := by simp [hr, hkl]
    unfold arrF
    rw [ek, er]
    simp only [upd, List.getD_eq_getElem?_getD]
    by_cases hjk : j = k
    · subst hjk
      rw [List.getElem?_set_self (by omega)]
      rfl
    · have hlt := List.pairwise_iff_getElem.1 h.asc.pair j k hjl hkl (by omega)
      rw [List.getElem?_set_ne (by omega)]
      have := arrF_at h hr k (by omega) j (by omega) hjl
      simpa [List.getD_eq_getElem?_getD] using this
theorem quota_loop {l : List GMutual} {red : List Int} (h : VOk l) (hr : red.length = l.length) : loopV (insolvency_quotas_l16 l (red, 0)) (List.replicate 16 0, 0) = some (arrF l red l.length) := by
  have hl := h.len
  refine loopV_done (step := insolvency_quotas_l16 l (red, 0)) (fun k => (arrF l red k, (k : Int))) l.length (arrF l red l.length) ?_ ?_
  · intro k hk
    have hok := okM_iff.1 (h.asc.ok _ (List.getElem_mem hk))
    have hkr : k < red.length := by omega
    have ek : (l.getD k default) = l[k] := by simp [hk]
    have er : red.getD k 0 = red[k] := by simp [hkr]
    unfold insolvency_quotas_l16
    dsimp only
    rw [if_pos (by simp; omega), chk_true (inb_nat hk), chk_true (inb_nat hkr), ix_nat hk, ix_nat hkr, chk_true (by simp; omega), chk_true (by simp; omega), chk_true (inb_of (by omega) (by rw [arrF_length]; omega)), w64_id (by omega) (by omega)]
    show _ = some (Sum.inl (upd (arrF l red k) (l.getD k default).Party (red.getD k 0), ((k + 1 : Nat) : Int)))
    rw [ek, er]
    rfl
  · unfold insolvency_quotas_l16
    dsimp only
    rw [if_neg (by simp)]
theorem quotas_eq {l : List GMutual} {m : Int} (h : VOk l) (hr : ROk (clms l) m) : insolvency_quotas l (clms l) m = some (arrF l (redS (clms l) m) l.length, 0) := by
  unfold insolvency_quotas
  rw [reduce_eq hr, Option.bind_some]
  dsimp only
  rw [if_neg (by simp), quota_loop h (by rw [redS_length, clms_length]), Option.bind_some, chk_true (by simp [arrF_length]), chk_true (by simp)]
/-! ### the last loop -/
theorem dist2 {l : List GMutual} {red : List Int} {F A : Int} (h : VOk l) (hr : red.length = l.length) (hred : ∀ i (h : i < red.length) (h2 : i < l.length), 0 ≤ red[i] ∧ red[i] ≤ clm l[i]) (hF : 0 ≤ F ∧ F ≤ 17592186044416) :
    loopV (insolvency_Distribute_l66 l (F, A, clms l, l.map div0) (arrF l red l.length, 0)) (l.map div0, F, 0) = some (divF l red, F - red.sum) := by
  have hl := h.len
  have hdl := divF_length l red
  have hredv : ∀ x ∈ red, 0 ≤ x ∧ x ≤ 17592186044416 := fun x hx => by
    obtain ⟨j, hj, rfl⟩ := List.getElem_of_mem hx
    have h1 := hred j hj (by omega)
    have h2 := (clm_ok (h.asc.ok _ (List.getElem_mem (show j < l.length by omega)))).1
    omega
  have hd := loopV_done (step := insolvency_Distribute_l66 l (F, A, clms l, l.map div0) (arrF l red l.length, 0)) (fun k => ((divF l red).take k ++ (l.map div0).drop k, F - (red.take k).sum, (k : Int))) l.length (divF l red, F - red.sum) ?_ ?_
  · simpa using hd
  · intro k hk
    have hok := h.asc.ok _ (List.getElem_mem hk)
    have hm := okM_iff.1 hok
    have hc := clm_ok hok
    have hkr : k < red.length := by omega
    have hkc : k < (clms l).length := by rw [clms_length]; exact hk
    have ec : (clms l)[k] = clm l[k] := by simp [clms]
    have hb := hred k hkr hk
    have s1 := sumTake hredv (by omega) k
    have hA : ix (arrF l red l.length) l[k].Party = red[k] := by
      have := arrF_at h hr l.length (Nat.le_refl _) k hk hk
      rw [← this]
      rfl
    have hlen : ((divF l red).take k ++ (l.map div0).drop k).length = l.length := by simp [hdl]; omega
    have htl : ((divF l red).take k).length = k := by simp [hdl]; omega
    have hki : k < ((divF l red).take k ++ (l.map div0).drop k).length := by omega
    have hcur : ix ((divF l red).take k ++ (l.map div0).drop k) (k : Int) = div0 l[k] := by
      rw [ix_nat hki, List.getElem_append_right (by omega)]
      simp [htl]
    have hup : ∀ x, upd ((divF l red).take k ++ (l.map div0).drop k) (k : Int) x = (divF l red).take k ++ x :: (l.map div0).drop (k + 1) := fun x => by
      have e : (l.map div0).drop k = (l.map div0)[k]'(by simp; exact hk) :: (l.map div0).drop (k + 1) := List.drop_eq_getElem_cons (by simp; exact hk)
      simp only [upd, Int.toNat_natCast]
      rw [List.set_append_right _ _ (by omega), htl, Nat.sub_self, e, List.set_cons_zero]
    have hup2 : ∀ x y, upd ((divF l red).take k ++ x :: (l.map div0).drop (k + 1)) (k : Int) y = (divF l red).take k ++ y :: (l.map div0).drop (k + 1) := fun x y => by
      simp only [upd, Int.toNat_natCast]
      rw [List.set_append_right _ _ (by omega), htl, Nat.sub_self, List.set_cons_zero]
    have hix2 : ∀ x, ix ((divF l red).take k ++ x :: (l.map div0).drop (k + 1)) (k : Int) = x := fun x => by
      rw [ix_nat (by simp [hdl]; omega), List.getElem_append_right (by omega)]
      simp [htl]
    have hin2 : ∀ x, inb ((divF l red).take k ++ x :: (l.map div0).drop (k + 1)) (k : Int) = true := fun x => inb_nat (by simp [hdl]; omega)
    unfold insolvency_Distribute_l66
    dsimp only
    simp only [ix_nat hk, hA, hcur, hup, hup2, hix2, ix_nat hkc, ec]
    rw [if_pos (by simp; omega), chk_true (inb_nat hk), chk_true (by simp; omega), chk_true (by simp; omega), chk_true (inb_of (by omega) (by rw [arrF_length]; omega)), chk_true (inb_nat hki), chk_true (inb_nat hkc), chk_true (hin2 _), w64_id (by omega) (by omega), w64_id (by omega) (by omega), w64_id (by omega) (by omega)]
    have hkd : k < (divF l red).length := by omega
    rw [List.take_succ_eq_append_getElem hkd, List.take_succ_eq_append_getElem hkr, List.sum_append, divF_at hr hk]
    simp [div0, Int.sub_sub]
  · unfold insolvency_Distribute_l66
    dsimp only
    rw [if_neg (by simp), List.take_of_length_le (by omega), List.take_of_length_le (by omega), List.drop_eq_nil_of_le (by simp), List.append_nil]
theorem rdist2 {l : List GMutual} {red : List Int} {F A : Int} (h : VOk l) (hr : red.length = l.length) (hred : ∀ i (h : i < red.length) (h2 : i < l.length), 0 ≤ red[i] ∧ red[i] ≤ clm l[i]) (hF : 0 ≤ F ∧ F ≤ 17592186044416) :
    loopV (treatyref33_Distribute_l58 (F, A, clms l, l.map div0) (red, 0)) (F, l.map div0, 0) = some (F - red.sum, divF l red) := by
  have hl := h.len
  have hdl := divF_length l red
  have hredv : ∀ x ∈ red, 0 ≤ x ∧ x ≤ 17592186044416 := fun x hx => by
    obtain ⟨j, hj, rfl⟩ := List.getElem_of_mem hx
    have h1 := hred j hj (by omega)
    have h2 := (clm_ok (h.asc.ok _ (List.getElem_mem (show j < l.length by omega)))).1
    omega
  have hd := loopV_done (step := treatyref33_Distribute_l58 (F, A, clms l, l.map div0) (red, 0)) (fun k => (F - (red.take k).sum, (divF l red).take k ++ (l.map div0).drop k, (k : Int))) l.length (F - red.sum, divF l red) ?_ ?_
  · simpa using hd
  · intro k hk
    have hok := h.asc.ok _ (List.getElem_mem hk)
    have hm := okM_iff.1 hok
    have hc := clm_ok hok
    have hkr : k < red.length := by omega
    have hkc : k < (clms l).length := by rw [clms_length]; exact hk
    have ec : (clms l)[k] = clm l[k] := by simp [clms]
    have hb := hred k hkr hk
    have s1 := sumTake hredv (by omega) k
    have hlen : ((divF l red).take k ++ (l.map div0).drop k).length = l.length := by simp [hdl]; omega
    have htl : ((divF l red).take k).length = k := by simp [hdl]; omega
    have hki : k < ((divF l red).take k ++ (l.map div0).drop k).length := by omega
    have hcur : ix ((divF l red).take k ++ (l.map div0).drop k) (k : Int) = div0 l[k] := by
      rw [ix_nat hki, List.getElem_append_right (by omega)]
      simp [htl]
    have hup : ∀ x, upd ((divF l red).take k ++ (l.map div0).drop k) (k : Int) x = (divF l red).take k ++ x :: (l.map div0).drop (k + 1) := fun x => by
      have e : (l.map div0).drop k = (l.map div0)[k]'(by simp; exact hk) :: (l.map div0).drop (k + 1) := List.drop_eq_getElem_cons (by simp; exact hk)
      simp only [upd, Int.toNat_natCast]
      rw [List.set_append_right _ _ (by omega), htl, Nat.sub_self, e, List.set_cons_zero]
    have hup2 : ∀ x y, upd ((divF l red).take k ++ x :: (l.map div0).drop (k + 1)) (k : Int) y = (divF l red).take k ++ y :: (l.map div0).drop (k + 1) := fun x y => by
      simp only [upd, Int.toNat_natCast]
      rw [List.set_append_right _ _ (by omega), htl, Nat.sub_self, List.set_cons_zero]
    have hix2 : ∀ x, ix ((divF l red).take k ++ x :: (l.map div0).drop (k + 1)) (k : Int) = x := fun x => by
      rw [ix_nat (by simp [hdl]; omega), List.getElem_append_right (by omega)]
      simp [htl]
    have hin2 : ∀ x, inb ((divF l red).take k ++ x :: (l.map div0).drop (k + 1)) (k : Int) = true := fun x => inb_nat (by simp [hdl]; omega)
    unfold treatyref33_Distribute_l58
    dsimp only
    simp only [ix_nat hkr, hcur, hup, hup2, hix2, ix_nat hkc, ec]
    rw [if_pos (by simp; omega), chk_true (inb_nat hkr), chk_true (inb_nat hkc), chk_true (inb_nat hki), chk_true (hin2 _), w64_id (by omega) (by omega), w64_id (by omega) (by omega), w64_id (by omega) (by omega)]
    have hkd : k < (divF l red).length := by omega
    rw [List.take_succ_eq_append_getElem hkd, List.take_succ_eq_append_getElem hkr, List.sum_append, divF_at hr hk]
    simp [div0, Int.sub_sub]
  · unfold treatyref33_Distribute_l58
    dsimp only
    rw [if_neg (by simp), List.take_of_length_le (by omega), List.take_of_length_le (by omega), List.drop_eq_nil_of_le (by simp), List.append_nil]
/-! ### the whole -/
structure DistOk (a : Int) (l : List GMutual) : Prop where
  v : VOk l
  est : 0 ≤ a ∧ a ≤ 17592186044416
  f : a + (pyss l).sum ≤ 17592186044416
  c : (clms l).sum ≤ 17592186044416
theorem DistOk.f0 {a : Int} {l : List GMutual} (h : DistOk a l) : 0 ≤ (pyss l).sum := (sum_le (pyss_val h.v.asc.ok)).1
theorem DistOk.c0 {a : Int} {l : List GMutual} (h : DistOk a l) : 0 ≤ (clms l).sum := (sum_le (clms_val h.v.asc.ok)).1
theorem DistOk.rok {a : Int} {l : List GMutual} (h : DistOk a l) : ROk (clms l) (a + (pyss l).sum) := by
  have h1 := h.f0
  have h2 := h.est
  have h3 := h.v.len
  exact ⟨by rw [clms_length]; omega, clms_val h.v.asc.ok, by omega, h.f⟩
theorem DistOk.red {a : Int} {l : List GMutual} (h : DistOk a l) : ∀ i (h1 : i < (redS (clms l) (a + (pyss l).sum)).length) (h2 : i < l.length), 0 ≤ (redS (clms l) (a + (pyss l).sum))[i] ∧ (redS (clms l) (a + (pyss l).sum))[i] ≤ clm l[i] := fun i h1 h2 => by
  have := redS_bounds h.rok (i := i) (by rw [clms_length]; exact h2)
  simpa [clms] using this
theorem distS_ok {a : Int} {l : List GMutual} (h : DistOk a l) : distS a l = (divF l (redS (clms l) (a + (pyss l).sum)), a + (pyss l).sum - (redS (clms l) (a + (pyss l).sum)).sum, 0) := by
  have h1 := h.f
  have h2 := h.c
  unfold distS
  rw [if_neg (by simp [h.v.zero]), if_neg (by simpa using h.est), if_neg (by omega)]
theorem dist_eq (a : Int) (l : List GMutual) : insolvency_Distribute a l = some (distS a l) := by
  unfold insolvency_Distribute
  rw [validM_eq, Option.bind_some]
  by_cases h0 : mutE l = 0
  · have hv := mutE_ok h0
    have hl := hv.len
    rw [if_neg (by simp [h0])]
    by_cases ha : 0 ≤ a ∧ a ≤ 17592186044416
    · rw [if_neg (by simp; omega), chk_true (by simp), chk_true (by simp; omega)]
      simp only [Int.toNat_natCast]
      rw [dist1 hv ha, Option.bind_some]
      dsimp only
      unfold amount_Valid
      have p0 := (sum_le (pyss_val hv.asc.ok)).1
      have c0 := (sum_le (clms_val hv.asc.ok)).1
      by_cases hf : a + (pyss l).sum ≤ 17592186044416
      · by_cases hc : (clms l).sum ≤ 17592186044416
        · have hd : DistOk a l := ⟨hv, ha, hf, hc⟩
          have e1 : (decide (-17592186044416 ≤ a + (pyss l).sum) && decide (a + (pyss l).sum ≤ 17592186044416)) = true := by simp; omega
          have e2 : (decide (-17592186044416 ≤ (clms l).sum) && decide ((clms l).sum ≤ 17592186044416)) = true := by simp; omega
          rw [e1, e2]
          simp only [Option.bind_some, Bool.not_true, Bool.false_eq_true, if_false]
          rw [quotas_eq hv hd.rok, Option.bind_some, chk_true (by simp), chk_true (by simp [arrF_length])]
          dsimp only
          rw [if_neg (by simp), dist2 hv (by rw [redS_length, clms_length]) hd.red ⟨by omega, hf⟩, Option.bind_some, distS_ok hd]
        · have e1 : (decide (-17592186044416 ≤ a + (pyss l).sum) && decide (a + (pyss l).sum ≤ 17592186044416)) = true := by simp; omega
          have e2 : (decide (-17592186044416 ≤ (clms l).sum) && decide ((clms l).sum ≤ 17592186044416)) = false := by simp; omega
          rw [e1, e2]
          simp only [Option.bind_some, Bool.not_true, Bool.not_false, Bool.false_eq_true, if_false, if_true]
          unfold distS
          rw [if_neg (by simp [h0]), if_neg (by simpa using ha), if_pos (by omega)]
      · have e1 : (decide (-17592186044416 ≤ a + (pyss l).sum) && decide (a + (pyss l).sum ≤ 17592186044416)) = false := by simp; omega
        rw [e1]
        simp only [Option.bind_some, Bool.not_false, if_true]
        unfold distS
        rw [if_neg (by simp [h0]), if_neg (by simpa using ha), if_pos (by omega)]
    · rw [if_pos (by simp; omega)]
      unfold distS
      rw [if_neg (by simp [h0]), if_pos ha]
  · rw [if_pos (by simpa using h0)]
    unfold distS
    rw [if_pos h0]
theorem mutuals_same (l : List GMutual) : treatyref33_Mutuals l = insolvency_Validate l := rfl
theorem rdist_eq (a : Int) (l : List GMutual) : treatyref33_Distribute a l = some (distS a l) := by
  unfold treatyref33_Distribute
  rw [mutuals_same, validM_eq, Option.bind_some]
  by_cases h0 : mutE l = 0
  · have hv := mutE_ok h0
    have hl := hv.len
    rw [if_neg (by simp [h0])]
    by_cases ha : 0 ≤ a ∧ a ≤ 17592186044416
    · rw [if_neg (by simp; omega), rdist1 hv ha, Option.bind_some]
      dsimp only
      have p0 := (sum_le (pyss_val hv.asc.ok)).1
      have c0 := (sum_le (clms_val hv.asc.ok)).1
      by_cases hb : 17592186044416 < a + (pyss l).sum ∨ 17592186044416 < (clms l).sum
      · rw [if_pos (by simpa using hb)]
        unfold distS
        rw [if_neg (by simp [h0]), if_neg (by simpa using ha), if_pos hb]
      · have hd : DistOk a l := ⟨hv, ha, by omega, by omega⟩
        rw [if_neg (by simpa using hb), rreduce_eq hd.rok, Option.bind_some, rdist2 hv (by rw [redS_length, clms_length]) hd.red ⟨by omega, by omega⟩, Option.bind_some, distS_ok hd]
    · rw [if_pos (by simp; omega)]
      unfold distS
      rw [if_neg (by simp [h0]), if_pos ha]
  · rw [if_pos (by simpa using h0)]
    unfold distS
    rw [if_pos h0]
theorem distS_length (a : Int) (l : List GMutual) : (distS a l).1.length ≤ 16 := by
  unfold distS
  by_cases h0 : mutE l = 0
  · have := (mutE_ok h0).len
    rw [if_neg (by simp [h0])]
    split
    · simp
    · split
      · simp
      · simp [divF_length]; omega
  · rw [if_pos h0]; simp
theorem sameDiv_refl {a : List GDividend} (hl : a.length ≤ 1000000) : treatyref33_SameDividends a a = some true := by
  unfold treatyref33_SameDividends
  rw [if_neg (by simp)]
  have hd : loopV (treatyref33_SameDividends_l12 a a) 0 = some (.inr ()) := by
    refine loopV_done (step := treatyref33_SameDividends_l12 a a) (fun k => (k : Int)) a.length (.inr ()) ?_ ?_
    · intro k hk
      unfold treatyref33_SameDividends_l12
      rw [if_pos (by simp; omega), chk_true (inb_nat hk), chk_true (inb_nat hk), if_neg (by simp), w64_id (by omega) (by omega)]
      rfl
    · unfold treatyref33_SameDividends_l12
      rw [if_neg (by simp)]
  rw [hd]
  rfl
theorem insAwake_ok : treatylaw38_awake = some true := by
  unfold treatylaw38_awake
  have e1 : distS 10 [GMutual.mk 1 30 10, GMutual.mk 2 0 20, GMutual.mk 3 40 0] = ([GDividend.mk 1 10 10 0 10, GDividend.mk 2 0 0 20 0, GDividend.mk 3 0 20 0 20], 0, 0) := by decide
  rw [dist_eq, e1, Option.bind_some]
  simp only [decide_true, Bool.and_self, if_true]
  rw [sameDiv_refl (by simp)]
  rfl
end Go.Proofs.Ytoodneljjhbfhaa.Pl
