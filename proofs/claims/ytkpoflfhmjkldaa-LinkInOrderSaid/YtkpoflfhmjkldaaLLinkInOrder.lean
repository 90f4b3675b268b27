/- LinkInOrder (plain). -/
import Derived.Test.YtkpoflfhmjkldaaLLinkPlay
namespace Go.Proofs.Ytkpoflfhmjkldaa.Pl
open Go

theorem treatylaw42_LinkInOrder_law (a0 : List Int) : treatylaw42_LinkInOrder a0 = some true := by
  unfold treatylaw42_LinkInOrder
  obtain ⟨w, n, g, hp, h⟩ := play_ok a0
  have hle := h.le; have hn := h.n60; have ha := h.aAck
  have hgl : w.got.length = g := by rw [h.got, msgs_len]
  rw [hp, Option.bind_some]
  dsimp only
  have e1 : (if (!w.ok) = true then (some true) else (if (decide ((n : Int) < (w.got.length : Int))) = true then (some true) else (if (!decide (w.b.Got = (w.got.length : Int))) = true then (some true) else (if (decide ((w.got.length : Int) < w.a.Acked)) = true then (some true) else (some (!decide ((w.a.Out.length : Int) = (n : Int)))))))) = some false := by
    rw [h.ok, hgl, h.b, h.aOut, msgs_len]
    have c1 : ¬ (n : Int) < (g : Int) := by omega
    have c2 : ¬ (g : Int) < w.a.Acked := by omega
    simp [c1, c2]
  rw [e1, Option.bind_some]
  have hloop : loopV (treatylaw42_LinkInOrder_l14 (w, (n : Int))) 0 = some (.inr ()) := by
    refine loopV_done (fun k => (k : Int)) g _ (fun k hk => ?_) ?_
    · unfold treatylaw42_LinkInOrder_l14
      dsimp only
      have hk2 : k < w.got.length := by omega
      have hc : decide ((k : Int) < (w.got.length : Int)) = true := decide_eq_true (by omega)
      have ek : w64 ((k : Int) + 1) = ((k + 1 : Nat) : Int) := by rw [w64_id (by omega) (by omega)]; rfl
      have e2 : w.got[k] = msg k := by simp [h.got, msgs]
      rw [if_pos hc, chk_of (inb_nat hk2), ix_nat hk2, message_eq, Option.bind_some, e2, same40_refl _ (by simp [msg]), Option.bind_some, ek]
      rfl
    · unfold treatylaw42_LinkInOrder_l14
      dsimp only
      rw [hgl, if_neg (by simp)]
  rw [hloop]
  simp only [Bool.false_eq_true, if_false, Option.bind_some, Sum.elim_inr, Sum.elim_inl, awake42]
end Go.Proofs.Ytkpoflfhmjkldaa.Pl
