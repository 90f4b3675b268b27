/- LinkReceive (plain). -/
import Derived.Test.YtkpoflfhmjkldaaLLink
namespace Go.Proofs.Ytkpoflfhmjkldaa.Pl
open Go

theorem treatylaw42_LinkReceive_law (a0 : GEndpoint) (a1 : GPacket) (a2 a3 a4 : Int) : treatylaw42_LinkReceive a0 a1 a2 a3 a4 = some true := by
  unfold treatylaw42_LinkReceive
  rw [few_eq, Option.bind_some]
  have hE := fewE_ok a0
  have hl : (fewE a0).Out.length ≤ 12 := by simp [fewE]; omega
  generalize fewE a0 = e at hE hl
  have hm : (minI (a1.Data.length : Int) 50) ≤ 50 ∧ 0 ≤ (minI (a1.Data.length : Int) 50) ∧ (minI (a1.Data.length : Int) 50) ≤ (a1.Data.length : Int) := by
    simp only [minI]; split <;> omega
  have hD : (a1.Data.take (minI (a1.Data.length : Int) 50).toNat).length ≤ 1000000 := by
    rw [List.length_take]; omega
  have h3 : (!decide (w64 ((e.Out.length : Int) + 1) = 0)) = true := by
    rw [w64_id (by omega) (by omega)]; simp; omega
  rw [chk_of (decide_eq_true hm.2.1), chk_of (decide_eq_true hm.2.2), chk_of h3]
  have inner : ∀ j : Nat, j < 2 → loopV (treatylaw42_LinkReceive_l33 a1 a2 a3 a4 e (j : Int)) 0 = some (.inr ()) := by
    intro j hj
    refine loopV_done (fun k => (k : Int)) 2 _ (fun k hk => ?_) ?_
    · unfold treatylaw42_LinkReceive_l33
      have hc : decide ((k : Int) < (2 : Int)) = true := decide_eq_true (by omega)
      have e1 : w64 ((k : Int) + 1) = ((k + 1 : Nat) : Int) := by rw [w64_id (by omega) (by omega)]; rfl
      rw [if_pos hc, chk_of (inb_nat hk)]
      generalize hX : (ix [e, (GEndpoint.mk e.Out ((w64 a4).tmod (w64 ((e.Out.length : Int) + 1))) (w64 a4))] (j : Int)) = x
      generalize hZ : (ix [(GPacket.mk a1.Party a1.Down a1.Number a1.Ack (a1.Data.take (minI (a1.Data.length : Int) 50).toNat)), (GPacket.mk a1.Party a1.Down (w64 ((w64 a4) + ((w64 a2).tmod 3))) (w64 (((w64 a4).tmod (w64 ((e.Out.length : Int) + 1))) + ((w64 a3).tmod 4))) (a1.Data.take (minI (a1.Data.length : Int) 50).toNat))] (k : Int)) = z
      have hx : EpOk x := by
        have hj2 : j = 0 ∨ j = 1 := by omega
        rcases hj2 with rfl | rfl
        · subst hX; exact hE
        · subst hX; exact ⟨hE.len, hE.all⟩
      have hz : z.Data.length ≤ 1000000 := by
        have hk2 : k = 0 ∨ k = 1 := by omega
        rcases hk2 with rfl | rfl
        · subst hZ; exact hD
        · subst hZ; exact hD
      have hr := rcv_ok hx hz
      rw [receive_eq hx hz, Option.bind_some, rreceive_eq hx hz, Option.bind_some, sameEnd_refl hr.1, Option.bind_some, same40_refl _ hr.2, e1]
      simp
    · unfold treatylaw42_LinkReceive_l33
      rw [if_neg (by simp)]
  have outer : loopV (treatylaw42_LinkReceive_l20 a1 a2 a3 a4 e) 0 = some (.inr ()) := by
    refine loopV_done (fun k => (k : Int)) 2 _ (fun k hk => ?_) ?_
    · unfold treatylaw42_LinkReceive_l20
      have hc : decide ((k : Int) < (2 : Int)) = true := decide_eq_true (by omega)
      have e1 : w64 ((k : Int) + 1) = ((k + 1 : Nat) : Int) := by rw [w64_id (by omega) (by omega)]; rfl
      rw [if_pos hc, chk_of (inb_nat hk), inner k hk, e1]
      rfl
    · unfold treatylaw42_LinkReceive_l20
      rw [if_neg (by simp)]
  rw [outer]
  simp only [Option.bind_some, Sum.elim_inr, Sum.elim_inl, awake42]
end Go.Proofs.Ytkpoflfhmjkldaa.Pl
