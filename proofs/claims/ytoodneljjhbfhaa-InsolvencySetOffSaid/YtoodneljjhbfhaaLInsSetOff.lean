/- The law InsolvencySetOff (plain). -/
import Derived.Test.YtoodneljjhbfhaaLInsM
namespace Go.Proofs.Ytoodneljjhbfhaa.Pl
open Go

theorem sum_set : ∀ (xs : List Int) (i : Nat) (h : i < xs.length) (v : Int), (xs.set i v).sum = xs.sum - xs[i] + v
  | x :: t, 0, _, v => by simp; omega
  | x :: t, i + 1, h, v => by
    have := sum_set t i (by simpa using h) v
    simp only [List.set_cons_succ, List.sum_cons, List.getElem_cons_succ]
    omega
theorem AscM.set : ∀ {l : List GMutual} {q : Option Int} {i : Nat} (h : i < l.length) {m : GMutual}, AscM q l → okM m = true → m.Party = l[i].Party → AscM q (l.set i m)
  | p :: t, q, 0, _, m, ha, hm, he => by
    have he' : m.Party = p.Party := he
    refine ⟨hm, fun x hx => by rw [he']; exact ha.2.1 x hx, ?_⟩
    rw [he']
    exact ha.2.2
  | p :: t, q, i + 1, h, m, ha, hm, he => ⟨ha.1, ha.2.1, AscM.set (by simpa using h) ha.2.2 hm (by simpa using he)⟩
theorem MutOk.set {l : List GMutual} (h : MutOk l) {i : Nat} (hi : i < l.length) {m : GMutual} (hp : m.Party = l[i].Party) (h1 : 0 ≤ m.Owed ∧ m.Owed < 268435456) (h2 : 0 ≤ m.Owes ∧ m.Owes < 268435456) : MutOk (l.set i m) := by
  have hok := okM_iff.1 (h.asc.ok _ (List.getElem_mem hi))
  refine ⟨by simpa using h.len, h.asc.set hi (okM_iff.2 ⟨by rw [hp]; exact hok.1, by omega, by omega⟩) hp, fun x hx => ?_⟩
  rcases List.mem_or_eq_of_mem_set hx with hx | rfl
  · exact h.small x hx
  · omega
/-- the quota of a greater claim on greater funds -/
theorem setoff_math {C F c s rx ry : Int} (hC : 0 < C) (hF : F < C) (hc : c ≤ C) (hs : 0 ≤ s) (h1 : -C < rx * C - F * c) (h2 : ry * (C + s) - (F + s) * (c + s) < C + s) : ry - 1 ≤ s + rx := by
  refine Int.not_lt.1 fun hn => ?_
  have hq : F * c < (rx + 1) * C := by rw [Int.add_mul, Int.one_mul]; omega
  have hge : (s + (rx + 1)) * (C + s) ≤ (ry - 1) * (C + s) := Int.mul_le_mul_of_nonneg_right (by omega) (by omega)
  rw [Int.sub_mul, Int.one_mul] at hge
  have hlt : (s + (rx + 1)) * (C + s) < (F + s) * (c + s) := by omega
  generalize rx + 1 = q at *
  have e1 : (s + q) * (C + s) = s * C + s * s + (q * C + q * s) := by rw [Int.add_mul, Int.mul_add, Int.mul_add]
  have e2 : (F + s) * (c + s) = F * c + F * s + (s * c + s * s) := by rw [Int.add_mul, Int.mul_add, Int.mul_add]
  have hprod : 0 ≤ (C - F) * (C - c) := Int.mul_nonneg (by omega) (by omega)
  rw [Int.sub_mul, Int.mul_sub, Int.mul_sub] at hprod
  have hX : 0 < C + q - F - c := by
    refine Int.not_le.1 fun hx => ?_
    have h3 : C * (C + q - F - c) ≤ 0 := by
      have := Int.mul_le_mul_of_nonneg_left hx (Int.le_of_lt hC)
      simpa using this
    rw [Int.mul_sub, Int.mul_sub, Int.mul_add, Int.mul_comm C q, Int.mul_comm C F] at h3
    omega
  have hsX : 0 ≤ s * (C + q - F - c) := Int.mul_nonneg hs (by omega)
  rw [Int.mul_sub, Int.mul_sub, Int.mul_add, Int.mul_comm s q, Int.mul_comm s F] at hsX
  omega
theorem treatylaw38_InsolvencySetOff_law (d : List Int) (at_ : Int) (_ : ∀ n ∈ d, -9223372036854775808 ≤ n ∧ n ≤ 9223372036854775807) (hd : d.length ≤ 9223372036854775807) (hat : 0 ≤ at_ ∧ at_ ≤ 255) : treatylaw38_InsolvencySetOff d at_ = some true := by
  unfold treatylaw38_InsolvencySetOff
  obtain ⟨k, e1, hk⟩ := new2_ok hd
  obtain ⟨l, k2, e2, hk2, hm⟩ := mutuals_ok hk
  obtain ⟨u, k3, e3, u0, u1, _⟩ := small_ok hk2
  have hl := hm.len
  rw [e1, Option.bind_some, e2, Option.bind_some]
  dsimp only
  rw [e3, Option.bind_some]
  dsimp only
  by_cases h0 : l.length = 0
  · rw [if_pos (by simp; exact List.eq_nil_of_length_eq_zero h0), insAwake_ok]
    rfl
  rw [if_neg (by simp; exact fun e => h0 (by rw [e]; rfl)), chk_true (by simp; exact fun e => h0 (by rw [e]; rfl)), w64_id (n := at_) (by omega) (by omega), Int.tmod_eq_emod_of_nonneg hat.1]
  have hi0 := Int.emod_nonneg at_ (show (l.length : Int) ≠ 0 by omega)
  have hi1 := Int.emod_lt_of_pos at_ (show 0 < (l.length : Int) by omega)
  generalize at_ % (l.length : Int) = i at *
  obtain ⟨i, rfl⟩ := Int.eq_ofNat_of_zero_le hi0
  have hi : i < l.length := by omega
  have hok := okM_iff.1 (hm.asc.ok _ (List.getElem_mem hi))
  have hsm := hm.small _ (List.getElem_mem hi)
  rw [chk_true (inb_nat hi), ix_nat hi, minI_eq]
  simp only [upd, Int.toNat_natCast]
  generalize hM1 : GMutual.mk l[i].Party l[i].Owed (min l[i].Owes l[i].Owed) = m1
  have f1 : m1.Party = l[i].Party := by rw [← hM1]
  have f2 : m1.Owed = l[i].Owed := by rw [← hM1]
  have f3 : m1.Owes = min l[i].Owes l[i].Owed := by rw [← hM1]
  have hi2 : i < (l.set i m1).length := by simpa using hi
  have hm1 := hm.set hi f1 (by omega) (by omega)
  have x1 : ix (l.set i m1) (i : Int) = m1 := by rw [ix_nat hi2]; simp
  rw [x1]
  generalize hM2 : GMutual.mk m1.Party m1.Owed 0 = m2
  have g1 : m2.Party = m1.Party := by rw [← hM2]
  have g2 : m2.Owed = m1.Owed := by rw [← hM2]
  have g3 : m2.Owes = 0 := by rw [← hM2]
  have e4 : (l.set i m1).set i m2 = l.set i m2 := by simp
  rw [e4]
  have hm2 := hm.set hi (m := m2) (by omega) (by omega) (by omega)
  have hx := hm1.dist (a := u) (by omega)
  have hy := hm2.dist (a := u + m1.Owes) (by omega)
  rw [dist_eq, distS_ok hx, Option.bind_some, chk_true (room_of (by simp; omega)), chk_true (inb_nat hi2), w64_id (n := u + m1.Owes) (by omega) (by omega), dist_eq, distS_ok hy, Option.bind_some]
  dsimp only
  rw [divF_length, divF_length]
  have hcx : clms (l.set i m1) = (clms l).set i (clm m1) := by simp [clms, List.map_set]
  have hcy : clms (l.set i m2) = (clms l).set i (clm m2) := by simp [clms, List.map_set]
  have hpx : pyss (l.set i m1) = (pyss l).set i (pys m1) := by simp [pyss, List.map_set]
  have hpy : pyss (l.set i m2) = (pyss l).set i (pys m2) := by simp [pyss, List.map_set]
  have hicl : i < (clms l).length := by rw [clms_length]; exact hi
  have hipl : i < (pyss l).length := by rw [pyss_length]; exact hi
  have c1 : clm m1 = m1.Owed - m1.Owes := by unfold clm; omega
  have c2 : clm m2 = m1.Owed := by unfold clm; omega
  have p1 : pys m1 = 0 := by unfold pys; omega
  have p2 : pys m2 = 0 := by unfold pys; omega
  have hCx := sum_set (clms l) i hicl (clm m1)
  have hCy := sum_set (clms l) i hicl (clm m2)
  have hPx := sum_set (pyss l) i hipl (pys m1)
  have hPy := sum_set (pyss l) i hipl (pys m2)
  rw [← hcx] at hCx
  rw [← hcy] at hCy
  rw [← hpx] at hPx
  rw [← hpy] at hPy
  have hC : (clms (l.set i m2)).sum = (clms (l.set i m1)).sum + m1.Owes := by omega
  have hP : (pyss (l.set i m2)).sum = (pyss (l.set i m1)).sum := by omega
  have hrlx : (redS (clms (l.set i m1)) (u + (pyss (l.set i m1)).sum)).length = (l.set i m1).length := by rw [redS_length, clms_length]
  have hrly : (redS (clms (l.set i m2)) (u + m1.Owes + (pyss (l.set i m2)).sum)).length = (l.set i m2).length := by rw [redS_length, clms_length]
  have hi3 : i < (l.set i m2).length := by simpa using hi
  have hix : i < (divF (l.set i m1) (redS (clms (l.set i m1)) (u + (pyss (l.set i m1)).sum))).length := by rw [divF_length]; exact hi2
  have hiy : i < (divF (l.set i m2) (redS (clms (l.set i m2)) (u + m1.Owes + (pyss (l.set i m2)).sum))).length := by rw [divF_length]; exact hi3
  rw [ix_nat hix, ix_nat hiy, divF_at hrlx hi2, divF_at hrly hi3, chk_true (inb_nat hix), chk_true (inb_nat hiy)]
  have q1 : (l.set i m1)[i] = m1 := by simp
  have q2 : (l.set i m2)[i] = m2 := by simp
  have bx := hx.red i (by omega) hi2
  have hby := hy.red i (by omega) hi3
  rw [q1] at bx
  rw [q2] at hby
  simp only [q1]
  have hoff : min m1.Owed m1.Owes = m1.Owes := by omega
  rw [hoff]
  have hmain : (redS (clms (l.set i m2)) (u + m1.Owes + (pyss (l.set i m2)).sum))[i]'(by omega) - 1 ≤ m1.Owes + (redS (clms (l.set i m1)) (u + (pyss (l.set i m1)).sum))[i]'(by omega) := by
    have hicx : i < (clms (l.set i m1)).length := by rw [clms_length]; exact hi2
    have hicy : i < (clms (l.set i m2)).length := by rw [clms_length]; exact hi3
    have ecx : (clms (l.set i m1))[i] = clm m1 := by simp [clms]
    have ecy : (clms (l.set i m2))[i] = clm m2 := by simp [clms]
    by_cases hc : (clms (l.set i m1)).sum ≤ u + (pyss (l.set i m1)).sum
    · have er : (redS (clms (l.set i m1)) (u + (pyss (l.set i m1)).sum))[i]'(by omega) = clm m1 := by
        simp only [redS, if_pos hc, ecx]
      omega
    · have hc2 : ¬ (clms (l.set i m2)).sum ≤ u + m1.Owes + (pyss (l.set i m2)).sum := by omega
      have er : (redS (clms (l.set i m1)) (u + (pyss (l.set i m1)).sum))[i]'(by omega) = (splitD (u + (pyss (l.set i m1)).sum) (clms (l.set i m1)) (clms (l.set i m1)).sum)[i]'(by rw [splitD_length]; exact hicx) := by
        simp only [redS, if_neg hc]
      have er2 : (redS (clms (l.set i m2)) (u + m1.Owes + (pyss (l.set i m2)).sum))[i]'(by omega) = (splitD (u + m1.Owes + (pyss (l.set i m2)).sum) (clms (l.set i m2)) (clms (l.set i m2)).sum)[i]'(by rw [splitD_length]; exact hicy) := by
        simp only [redS, if_neg hc2]
      have n1 := (splitD_near (hx.rok.div hc) hicx).1
      have n2 := (splitD_near (hy.rok.div hc2) hicy).2
      rw [ecx] at n1
      rw [ecy] at n2
      rw [← er] at n1
      rw [← er2] at n2
      have hcle : clm m1 ≤ (clms (l.set i m1)).sum := by
        have := mem_le_sum (clms_val hm1.asc.ok) (List.getElem_mem hicx)
        rwa [ecx] at this
      have hpos := hx.rok.m0
      have eF : u + m1.Owes + (pyss (l.set i m2)).sum = (u + (pyss (l.set i m1)).sum) + m1.Owes := by omega
      have ec : clm m2 = clm m1 + m1.Owes := by omega
      refine setoff_math (C := (clms (l.set i m1)).sum) (F := u + (pyss (l.set i m1)).sum) (c := clm m1) (by omega) (by omega) hcle (by omega) n1 ?_
      rw [hC, ec] at n2
      simp only [eF] at n2 ⊢
      exact n2
  have hlx : ((l.set i m1).length : Int) = (l.length : Int) := by simp
  have hly : ((l.set i m2).length : Int) = (l.length : Int) := by simp
  rw [hlx, hly]
  generalize (redS (clms (l.set i m2)) (u + m1.Owes + (pyss (l.set i m2)).sum))[i]'(by omega) = ry at *
  generalize (redS (clms (l.set i m1)) (u + (pyss (l.set i m1)).sum))[i]'(by omega) = rx at *
  rw [w64_id (n := ry - 1) (by omega) (by omega), w64_id (n := m1.Owes + rx) (by omega) (by omega)]
  simp only [decide_true, if_true, hmain, insAwake_ok, Option.bind_some]
end Go.Proofs.Ytoodneljjhbfhaa.Pl
