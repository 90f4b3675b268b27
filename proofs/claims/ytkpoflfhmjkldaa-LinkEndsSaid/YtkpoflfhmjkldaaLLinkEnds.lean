/- LinkEnds (plain): in twenty rounds of what is pending all is received and acknowledged. -/
import Derived.Test.YtkpoflfhmjkldaaLLinkPlay
namespace Go.Proofs.Ytkpoflfhmjkldaa.Pl
open Go

/-- the state of the inner loop -/
def U (w : Gworld) (i : Nat) : (List (List Int)) × Int × Int × (List (List Int)) × Int × Int × (List (List Int)) × Bool × Int :=
  (w.a.Out, w.a.Acked, w.a.Got, w.b.Out, w.b.Acked, w.b.Got, w.got, w.ok, (i : Int))
def U' (w : Gworld) : (List (List Int)) × Int × Int × (List (List Int)) × Int × Int × (List (List Int)) × Bool :=
  (w.a.Out, w.a.Acked, w.a.Got, w.b.Out, w.b.Acked, w.b.Got, w.got, w.ok)
/-- one packet there and the reply back: it has the index a + k, and at least a + k are received -/
theorem turn_ok {w w0 : Gworld} {n g g0 a m k : Nat} (h : Inv w n g) (hk : k < m) (ham : a + m ≤ n) (h0 : Inv w0 n g0) (hg : a + k ≤ g) (hm : m ≤ 4) :
    ∃ w' g', treatylaw42_LinkEnds_l21 ((List.range m).map fun k => pkt w0.a 3 true (a + k)) (U w k) = some (.inl (U w' (k + 1))) ∧ Inv w' n g' ∧ a + (k + 1) ≤ g' ∧ w'.a.Acked = g' := by
  have hn := h.n60; have hle := h.le; have ha := h.aAck
  unfold treatylaw42_LinkEnds_l21 U
  dsimp only
  have hl : ((List.range m).map fun k => pkt w0.a 3 true (a + k)).length = m := by simp
  have hk2 : k < ((List.range m).map fun k => pkt w0.a 3 true (a + k)).length := by omega
  have hc : decide ((k : Int) < (((List.range m).map fun k => pkt w0.a 3 true (a + k)).length : Int)) = true := decide_eq_true (by omega)
  have ek : w64 ((k : Int) + 1) = ((k + 1 : Nat) : Int) := by rw [w64_id (by omega) (by omega)]; rfl
  have e1 : ((List.range m).map fun k => pkt w0.a 3 true (a + k))[k] = pkt w0.a 3 true (a + k) := by simp
  obtain ⟨hp1, hp2, hp3⟩ := pkt_ok h0 (show a + k < n by omega)
  rw [if_pos hc, chk_of (inb_nat hk2), ix_nat hk2, e1]
  -- the packet arrives
  have hx : Inv ⟨w.a, w.b, [pkt w0.a 3 true (a + k)], w.got, w.ok⟩ n g := ⟨h.aOut, h.aGot, h.aAck, h.b, h.got, h.le, h.n60, fun p hp => by
    rw [List.mem_singleton.1 hp]
    exact ⟨fun _ => ⟨a + k, by omega, rfl, hp2, hp3⟩, fun hd => (by cases hd)⟩, h.ok⟩
  have hd := dl_down (j := a + k) hx (i := 0) (by simp) (by simp) rfl (by omega) rfl hp2 hp3
  have hx2 := down_inv (j := a + k) hx (by omega)
  generalize hG : got' g (a + k) = G at hd hx2
  have hG2 : a + (k + 1) ≤ G ∧ g ≤ G := by
    subst hG
    unfold got'
    split <;> omega
  have ea : (⟨w.a.Out, w.a.Acked, w.a.Got⟩ : GEndpoint) = w.a := rfl
  have eb : (⟨w.b.Out, w.b.Acked, w.b.Got⟩ : GEndpoint) = w.b := rfl
  rw [ea, eb]
  rw [show ((0 : Nat) : Int) = 0 from rfl] at hd
  rw [hd, Option.bind_some]
  dsimp only [List.cons_append, List.nil_append]
  have e2 : (List.drop (1 : Int).toNat [pkt w0.a 3 true (a + k), reply G]) = [reply G] := rfl
  simp only [e2]
  rw [chk_of (by simp)]
  simp only [List.length_singleton, Int.natCast_one, decide_true, Bool.not_true, Bool.false_eq_true, if_false]
  -- the reply arrives
  have hy : Inv ⟨w.a, ⟨[], 0, (G : Int)⟩, [reply G], msgs G, w.ok⟩ n G := ⟨hx2.aOut, hx2.aGot, hx2.aAck, rfl, rfl, hx2.le, hx2.n60, fun p hp => by
    rw [List.mem_singleton.1 hp]
    exact reply_ok _ _, hx2.ok⟩
  have hu := dl_up2 hy (i := 0) (by simp) rfl
  rw [show ((0 : Nat) : Int) = 0 from rfl] at hu
  rw [hu, Option.bind_some, ek]
  have hz := ackd_inv hy (reply_ok n G) rfl
  have hax := hx2.aAck
  refine ⟨⟨ackd w.a (reply G), ⟨[], 0, (G : Int)⟩, [reply G], msgs G, w.ok⟩, G, rfl, hz, hG2.1, ?_⟩
  have hax' : w.a.Acked ≤ (G : Int) := hax.2
  show (if w.a.Acked < (G : Int) then (G : Int) else w.a.Acked) = (G : Int)
  by_cases hq : w.a.Acked < (G : Int)
  · rw [if_pos hq]
  · rw [if_neg hq]
    omega
/-- one round -/
theorem round_ok {w : Gworld} {n g : Nat} (h : Inv w n g) : ∃ (w' : Gworld) (g' : Nat) (ps : List GPacket), link_Pending w.a 3 true = some ps ∧ loopV (treatylaw42_LinkEnds_l21 ps) (U w 0) = some (.inr (U' w')) ∧ Inv w' n g' ∧ min (n : Int) (w.a.Acked + 4) ≤ w'.a.Acked := by
  have hn := h.n60; have hle := h.le; have ha := h.aAck
  obtain ⟨a, h1, h2, h3⟩ := pend_eq h
  refine (?_ : ∃ (w' : Gworld) (g' : Nat), loopV (treatylaw42_LinkEnds_l21 ((List.range (min 4 (n - a))).map fun k => pkt w.a 3 true (a + k))) (U w 0) = some (.inr (U' w')) ∧ Inv w' n g' ∧ min (n : Int) (w.a.Acked + 4) ≤ w'.a.Acked).elim fun w' hw => hw.elim fun g' hw => ⟨w', g', _, h3, hw⟩
  generalize hm : min 4 (n - a) = m
  have hm4 : m ≤ 4 := by omega
  have hmn : a + m ≤ n := by omega
  have hL : ∃ o, loopV (treatylaw42_LinkEnds_l21 ((List.range m).map fun k => pkt w.a 3 true (a + k))) (U w 0) = some o ∧ ∃ (w' : Gworld) (g' : Nat), o = .inr (U' w') ∧ Inv w' n g' ∧ ((a + m : Nat) : Int) ≤ w'.a.Acked := by
    refine loopV_inv (fun s => ∃ (w' : Gworld) (g' k : Nat), s = U w' k ∧ Inv w' n g' ∧ k ≤ m ∧ a + k ≤ g' ∧ ((a + k : Nat) : Int) ≤ w'.a.Acked) (fun s => ((m : Int) - s.2.2.2.2.2.2.2.2).toNat)
      (fun o => ∃ (w' : Gworld) (g' : Nat), o = Sum.inr (U' w') ∧ Inv w' n g' ∧ ((a + m : Nat) : Int) ≤ w'.a.Acked) ?_ (U w 0) ⟨w, g, 0, rfl, h, by omega, by omega, by omega⟩
    rintro s ⟨w', g', k, rfl, h4, h5, h6, h7⟩
    by_cases hk : k < m
    · obtain ⟨w2, g2, hs, hI, hg2, hA⟩ := turn_ok h4 hk hmn h h6 hm4
      refine ⟨_, hs, ⟨w2, g2, k + 1, rfl, hI, by omega, hg2, by omega⟩, ?_⟩
      simp only [U]
      omega
    · have : k = m := by omega
      subst this
      refine ⟨.inr (.inr (U' w')), ?_, w', g', rfl, h4, h7⟩
      unfold treatylaw42_LinkEnds_l21 U
      dsimp only
      rw [if_neg (by simp)]
      rfl
  obtain ⟨o, ho, w', g', rfl, hI, hq⟩ := hL
  exact ⟨w', g', ho, hI, by omega⟩
theorem rounds_ok {w : Gworld} {n g : Nat} (h : Inv w n g) : ∃ (w' : Gworld) (g' : Nat), loopV treatylaw42_LinkEnds_l10 (U w 0) = some (.inr (U' w')) ∧ Inv w' n g' ∧ w'.a.Acked = n := by
  have hn := h.n60
  have ha := h.aAck
  have hL : ∃ o, loopV treatylaw42_LinkEnds_l10 (U w 0) = some o ∧ ∃ (w' : Gworld) (g' : Nat), o = .inr (U' w') ∧ Inv w' n g' ∧ (n : Int) ≤ w'.a.Acked := by
    refine loopV_inv (fun s => ∃ (w' : Gworld) (g' i : Nat), s = U w' i ∧ Inv w' n g' ∧ i ≤ 20 ∧ min (n : Int) (4 * i) ≤ w'.a.Acked) (fun s => (20 - s.2.2.2.2.2.2.2.2).toNat)
      (fun o => ∃ (w' : Gworld) (g' : Nat), o = Sum.inr (U' w') ∧ Inv w' n g' ∧ (n : Int) ≤ w'.a.Acked) ?_ (U w 0) ⟨w, g, 0, rfl, h, by omega, by omega⟩
    rintro s ⟨w', g', i, rfl, h4, h5, h6⟩
    have hU : treatylaw42_LinkEnds_l10 (U w' i) = treatylaw42_LinkEnds_l10 (w'.a.Out, w'.a.Acked, w'.a.Got, w'.b.Out, w'.b.Acked, w'.b.Got, w'.got, w'.ok, (i : Int)) := rfl
    rw [hU]
    unfold treatylaw42_LinkEnds_l10
    dsimp only
    have ea : (⟨w'.a.Out, w'.a.Acked, w'.a.Got⟩ : GEndpoint) = w'.a := rfl
    have ei : w64 ((i : Int) + 1) = ((i + 1 : Nat) : Int) := by rw [w64_id (by omega) (by omega)]; rfl
    by_cases hi : i < 20
    · obtain ⟨w2, g2, ps, h7, h8, h9, h10⟩ := round_ok h4
      refine ⟨.inl (U w2 (i + 1)), ?_, ⟨w2, g2, i + 1, rfl, h9, by omega, by omega⟩, by simp only [U]; omega⟩
      simp only [U] at h8
      rw [show ((0 : Nat) : Int) = 0 from rfl] at h8
      rw [if_pos (decide_eq_true (by omega)), ea, h7, Option.bind_some, h8]
      simp only [Option.bind_some, Sum.elim_inr, Sum.elim_inl, U', ei]
      rfl
    · have : i = 20 := by omega
      subst this
      refine ⟨.inr (.inr (U' w')), ?_, w', g', rfl, h4, by omega⟩
      rw [if_neg (by simp)]
      rfl
  obtain ⟨o, ho, w', g', rfl, hI, hq⟩ := hL
  have h1 := hI.aAck
  have h2 := hI.le
  exact ⟨w', g', ho, hI, by omega⟩
theorem treatylaw42_LinkEnds_law (a0 : List Int) : treatylaw42_LinkEnds a0 = some true := by
  unfold treatylaw42_LinkEnds
  obtain ⟨w, n, g, hp, h⟩ := play_ok a0
  rw [hp, Option.bind_some]
  obtain ⟨w', g', hr, hI, hA⟩ := rounds_ok h
  have hr' : loopV treatylaw42_LinkEnds_l10 (w.a.Out, w.a.Acked, w.a.Got, w.b.Out, w.b.Acked, w.b.Got, w.got, w.ok, 0) = some (.inr (U' w')) := hr
  have hle := hI.le; have ha := hI.aAck; have hn := hI.n60
  have hg : g' = n := by omega
  subst hg
  obtain ⟨a, h1, h2, h3⟩ := pend_eq hI
  have e0 : a = g' := by omega
  subst e0
  have ea : (⟨w'.a.Out, w'.a.Acked, w'.a.Got⟩ : GEndpoint) = w'.a := rfl
  have hgl : w'.got.length = a := by rw [hI.got, msgs_len]
  have ec : ((w'.ok && decide ((w'.got.length : Int) = (a : Int))) && decide (w'.a.Acked = (a : Int))) = true := by
    rw [hI.ok, hgl, hA]
    simp
  rw [hr']
  simp only [Option.bind_some, Sum.elim_inr, Sum.elim_inl, U', ea, h3, awake42]
  rw [if_pos ec]
  simp
end Go.Proofs.Ytkpoflfhmjkldaa.Pl
