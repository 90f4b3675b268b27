/- Messages over a lossy channel: what the functions compute (plain). -/
import Derived.Test.YtkpoflfhmjkldaaP
import Derived.Test.YtkpoflfhmjkldaaLBase
namespace Go.Proofs.Ytkpoflfhmjkldaa.Pl
open Go

theorem same40_refl (l : List Int) (hl : l.length ≤ 1000000) : treatyref40_Same l l = some true := by
  unfold treatyref40_Same
  have hloop : loopV (treatyref40_Same_l12 l l) 0 = some (.inr ()) := by
    refine loopV_done (fun k => (k : Int)) l.length _ (fun k hk => ?_) ?_
    · unfold treatyref40_Same_l12
      have hc : decide ((k : Int) < (l.length : Int)) = true := decide_eq_true (by omega)
      have e1 : w64 ((k : Int) + 1) = ((k + 1 : Nat) : Int) := by rw [w64_id (by omega) (by omega)]; rfl
      simp only [hc, if_true, chk_of (inb_nat hk), decide_true, Bool.not_true, Bool.false_eq_true, if_false, e1]
    · unfold treatyref40_Same_l12
      have hc : decide ((l.length : Int) < (l.length : Int)) = false := by simp
      simp only [hc, Bool.false_eq_true, if_false]
  simp only [decide_true, Bool.not_true, Bool.false_eq_true, if_false, hloop, Option.bind_some, Sum.elim_inr, Sum.elim_inl]
theorem sameLists_refl (l : List (List Int)) (hl : l.length ≤ 1000000) (hx : ∀ x ∈ l, x.length ≤ 1000000) : treatyref40_SameLists l l = some true := by
  unfold treatyref40_SameLists
  have hloop : loopV (treatyref40_SameLists_l12 l l) 0 = some (.inr ()) := by
    refine loopV_done (fun k => (k : Int)) l.length _ (fun k hk => ?_) ?_
    · unfold treatyref40_SameLists_l12
      have hc : decide ((k : Int) < (l.length : Int)) = true := decide_eq_true (by omega)
      have e1 : w64 ((k : Int) + 1) = ((k + 1 : Nat) : Int) := by rw [w64_id (by omega) (by omega)]; rfl
      have e2 := same40_refl (l[k]) (hx _ (List.getElem_mem hk))
      simp only [hc, if_true, chk_of (inb_nat hk), ix_nat hk, e2, Option.bind_some, Bool.not_true, Bool.false_eq_true, if_false, e1]
    · unfold treatyref40_SameLists_l12
      have hc : decide ((l.length : Int) < (l.length : Int)) = false := by simp
      simp only [hc, Bool.false_eq_true, if_false]
  simp only [decide_true, Bool.not_true, Bool.false_eq_true, if_false, hloop, Option.bind_some, Sum.elim_inr, Sum.elim_inl]
/-- an endpoint that is not too large -/
structure EpOk (e : GEndpoint) : Prop where
  len : e.Out.length ≤ 1000000
  all : ∀ x ∈ e.Out, x.length ≤ 1000000
theorem sameEnd_refl {e : GEndpoint} (h : EpOk e) : treatyref40_SameEndpoint e e = some true := by
  unfold treatyref40_SameEndpoint
  simp [sameLists_refl _ h.len h.all]
def fewE (e : GEndpoint) : GEndpoint := ⟨(e.Out.take 12).map (fun x => x.take (minI (x.length : Int) 20).toNat), e.Acked, e.Got⟩
theorem few_eq (e : GEndpoint) : treatylaw42_few e = some (fewE e) := by
  unfold treatylaw42_few
  have hloop : loopV (treatylaw42_few_l8 e) ([], 0) = some ((e.Out.take 12).map (fun x => x.take (minI (x.length : Int) 20).toNat)) := by
    have hm : min 12 e.Out.length ≤ 12 := Nat.min_le_left _ _
    have hm2 : min 12 e.Out.length ≤ e.Out.length := Nat.min_le_right _ _
    refine loopV_done (fun k => ((e.Out.take k).map (fun x => x.take (minI (x.length : Int) 20).toNat), (k : Int))) (min 12 e.Out.length) _ (fun k hk => ?_) ?_
    · unfold treatylaw42_few_l8
      have hk2 : k < e.Out.length := by omega
      have hc : ((decide ((k : Int) < (e.Out.length : Int))) && (decide ((k : Int) < 12))) = true := by simp; omega
      have e1 : w64 ((k : Int) + 1) = ((k + 1 : Nat) : Int) := by rw [w64_id (by omega) (by omega)]; rfl
      have e2 : decide (0 ≤ (minI ((e.Out[k]).length : Int) 20)) = true := by simp only [minI]; exact decide_eq_true (by split <;> omega)
      have e3 : decide ((minI ((e.Out[k]).length : Int) 20) ≤ ((e.Out[k]).length : Int)) = true := by simp only [minI]; exact decide_eq_true (by split <;> omega)
      have e4 : (e.Out.take (k + 1)).map (fun x => x.take (minI (x.length : Int) 20).toNat) = (e.Out.take k).map (fun x => x.take (minI (x.length : Int) 20).toNat) ++ [(e.Out[k]).take (minI ((e.Out[k]).length : Int) 20).toNat] := by
        rw [List.take_succ_eq_append_getElem hk2, List.map_append]; rfl
      dsimp only
      rw [if_pos hc, chk_of (inb_nat hk2), ix_nat hk2, chk_of e2, chk_of e3, chk_of (room_of (by simp; omega)), e1, e4]
    · unfold treatylaw42_few_l8
      have hc : ((decide (((min 12 e.Out.length : Nat) : Int) < (e.Out.length : Int))) && (decide (((min 12 e.Out.length : Nat) : Int) < 12))) = false := by
        simp only [Bool.and_eq_false_iff, decide_eq_false_iff_not]
        omega
      dsimp only
      rw [hc, if_neg (by simp)]
      congr 2
      rcases Nat.le_total 12 e.Out.length with h | h
      · rw [Nat.min_eq_left h]
      · rw [Nat.min_eq_right h, List.take_of_length_le (Nat.le_refl _), List.take_of_length_le h]
  rw [hloop]
  rfl
theorem fewE_ok (e : GEndpoint) : EpOk (fewE e) := by
  refine ⟨by simp [fewE]; omega, fun x hx => ?_⟩
  simp only [fewE, List.mem_map] at hx
  obtain ⟨y, _, rfl⟩ := hx
  rw [List.length_take]
  have : (minI (y.length : Int) 20).toNat ≤ 20 := by simp only [minI]; split <;> omega
  omega
theorem clone_eq (l : List Int) (h : l.length ≤ 1000000) : slices_Clone_s_byte_byte l = some l := by
  unfold slices_Clone_s_byte_byte
  rw [chk_of (room_of (by omega))]
theorem copied_eq {e : GEndpoint} (h : EpOk e) : link_copied e = some e := by
  unfold link_copied
  have hloop : loopV (link_copied_l8 e) ((List.replicate (e.Out.length : Int).toNat ([] : List Int)), 0) = some e.Out := by
    have h0 : ((List.replicate (e.Out.length : Int).toNat ([] : List Int)), (0 : Int)) = (fun k : Nat => (e.Out.take k ++ List.replicate (e.Out.length - k) ([] : List Int), (k : Int))) 0 := by simp
    rw [h0]
    refine loopV_done (fun k => (e.Out.take k ++ List.replicate (e.Out.length - k) ([] : List Int), (k : Int))) e.Out.length _ (fun k hk => ?_) ?_
    · unfold link_copied_l8
      have hc : decide ((k : Int) < (e.Out.length : Int)) = true := decide_eq_true (by omega)
      have e1 : w64 ((k : Int) + 1) = ((k + 1 : Nat) : Int) := by have := h.len; rw [w64_id (by omega) (by omega)]; rfl
      have e2 := clone_eq (e.Out[k]) (h.all _ (List.getElem_mem hk))
      have hl : k < (e.Out.take k ++ List.replicate (e.Out.length - k) ([] : List Int)).length := by simp; omega
      have e3 : upd (e.Out.take k ++ List.replicate (e.Out.length - k) ([] : List Int)) (k : Int) (e.Out[k]) = e.Out.take (k + 1) ++ List.replicate (e.Out.length - (k + 1)) ([] : List Int) := by
        have ht : (e.Out.take k).length = k := by simp; omega
        have hr : List.replicate (e.Out.length - k) ([] : List Int) = [] :: List.replicate (e.Out.length - (k + 1)) [] := by
          rw [show e.Out.length - k = (e.Out.length - (k + 1)) + 1 by omega, List.replicate_succ]
        simp only [upd, Int.toNat_natCast]
        rw [List.set_append_right _ _ (by omega), ht, Nat.sub_self, hr, List.set_cons_zero, List.take_succ_eq_append_getElem hk, List.append_assoc]
        rfl
      dsimp only
      rw [if_pos hc, chk_of (inb_nat hk), ix_nat hk, e2, Option.bind_some, chk_of (inb_nat hl), e3, e1]
    · unfold link_copied_l8
      have hc : decide ((e.Out.length : Int) < (e.Out.length : Int)) = false := by simp
      dsimp only
      rw [hc, if_neg (by simp)]
      simp
  have := h.len
  rw [chk_of (decide_eq_true (by omega)), chk_of (decide_eq_true (by omega)), hloop]
  rfl
theorem rcopied_eq {e : GEndpoint} (h : EpOk e) : treatyref40_copied e = some e := by
  unfold treatyref40_copied
  have hloop : loopV (treatyref40_copied_l8 e) ([], 0) = some e.Out := by
    refine loopV_done (fun k => (e.Out.take k, (k : Int))) e.Out.length _ (fun k hk => ?_) ?_
    · unfold treatyref40_copied_l8
      have hc : decide ((k : Int) < (e.Out.length : Int)) = true := decide_eq_true (by omega)
      have e1 : w64 ((k : Int) + 1) = ((k + 1 : Nat) : Int) := by have := h.len; rw [w64_id (by omega) (by omega)]; rfl
      have e2 := h.all _ (List.getElem_mem hk)
      dsimp only
      rw [if_pos hc, chk_of (inb_nat hk), ix_nat hk, chk_of (room_of (by omega)), chk_of (room_of (by have := h.len; simp; omega)), e1, List.take_succ_eq_append_getElem hk]
    · unfold treatyref40_copied_l8
      have hc : decide ((e.Out.length : Int) < (e.Out.length : Int)) = false := by simp
      dsimp only
      rw [hc, if_neg (by simp)]
      simp
  rw [hloop]
  rfl
/-- what Receive answers -/
def rcv (e : GEndpoint) (p : GPacket) : GEndpoint × List Int × Bool :=
  let v := ((((decide (0 ≤ e.Acked)) && (decide (e.Acked ≤ (e.Out.length : Int)))) && (decide ((e.Out.length : Int) ≤ 4096))) && (decide (0 ≤ e.Got))) && (decide (e.Got ≤ 4096))
  let a := if ((decide (e.Acked < p.Ack)) && (decide (p.Ack ≤ (e.Out.length : Int)))) = true then p.Ack else e.Acked
  if ((!v) || (decide (4096 < p.Number))) = true then (e, [], false)
  else if (!decide (p.Number = (w64 (e.Got + 1)))) = true then (⟨e.Out, a, e.Got⟩, [], false) else (⟨e.Out, a, p.Number⟩, p.Data, true)
theorem receive_eq {e : GEndpoint} {p : GPacket} (h : EpOk e) (hp : p.Data.length ≤ 1000000) : link_Receive e p = some (rcv e p) := by
  unfold link_Receive link_Valid rcv
  rw [Option.bind_some, copied_eq h, Option.bind_some]
  dsimp only
  split
  · rfl
  · rw [clone_eq _ hp]
    split <;> (rw [Option.bind_some]; split <;> rfl)
theorem rreceive_eq {e : GEndpoint} {p : GPacket} (h : EpOk e) (hp : p.Data.length ≤ 1000000) : treatyref40_Receive e p = some (rcv e p) := by
  unfold treatyref40_Receive treatyref40_Valid rcv
  rw [Option.bind_some, rcopied_eq h]
  dsimp only
  split
  · rfl
  · have hc : room p.Data.length = true := room_of (by omega)
    rw [Option.bind_some]
    simp only [chk_of hc]
    split <;> (rw [Option.bind_some]; split <;> first | rfl | (rename_i hn; simp only [Bool.not_eq_true', decide_eq_false_iff_not, Classical.not_not] at hn; rw [← hn]))
theorem rcv_ok {e : GEndpoint} {p : GPacket} (h : EpOk e) (hp : p.Data.length ≤ 1000000) : EpOk (rcv e p).1 ∧ (rcv e p).2.1.length ≤ 1000000 := by
  have hx : (rcv e p).1.Out = e.Out ∧ ((rcv e p).2.1 = [] ∨ (rcv e p).2.1 = p.Data) := by
    unfold rcv
    dsimp only
    split
    · exact ⟨rfl, .inl rfl⟩
    · split
      · exact ⟨rfl, .inl rfl⟩
      · exact ⟨rfl, .inr rfl⟩
  refine ⟨⟨by rw [hx.1]; exact h.len, by rw [hx.1]; exact h.all⟩, ?_⟩
  rcases hx.2 with h2 | h2 <;> rw [h2]
  · simp
  · exact hp
/-- the packet of the message with the index i -/
def pkt (e : GEndpoint) (party : Int) (down : Bool) (i : Nat) : GPacket := ⟨party, down, (i : Int) + 1, e.Got, e.Out.getD i []⟩
theorem pending_eq {e : GEndpoint} (h : EpOk e) (party : Int) (down : Bool) (a g : Nat) (ha : e.Acked = a) (hg : e.Got = g) (hal : a ≤ e.Out.length) (hl : e.Out.length ≤ 4096) (hgl : g ≤ 4096) :
    link_Pending e party down = some ((List.range (min 4 (e.Out.length - a))).map fun k => pkt e party down (a + k)) := by
  unfold link_Pending link_Valid link_flight link_flight_c1
  have hv : (((((decide (0 ≤ e.Acked)) && (decide (e.Acked ≤ (e.Out.length : Int)))) && (decide ((e.Out.length : Int) ≤ 4096))) && (decide (0 ≤ e.Got))) && (decide (e.Got ≤ 4096))) = true := by
    rw [ha, hg]
    simp
    omega
  have hloop : loopV (link_flight_c1_l3 e (link_Pending_l14 e party down)) (e.Acked, []) = some (.inl ((List.range (min 4 (e.Out.length - a))).map fun k => pkt e party down (a + k))) := by
    have h0 : (e.Acked, ([] : List GPacket)) = (fun k : Nat => ((((a + k : Nat)) : Int), (List.range k).map fun k => pkt e party down (a + k))) 0 := by simp [ha]
    rw [h0]
    have hm : min 4 (e.Out.length - a) ≤ 4 := Nat.min_le_left _ _
    have hm2 : min 4 (e.Out.length - a) ≤ e.Out.length - a := Nat.min_le_right _ _
    have e4 : w64 (e.Acked + 4) = ((a + 4 : Nat) : Int) := by rw [ha, w64_id (by omega) (by omega)]; rfl
    refine loopV_done (fun k : Nat => ((((a + k : Nat)) : Int), (List.range k).map fun k => pkt e party down (a + k))) (min 4 (e.Out.length - a)) _ (fun k hk => ?_) ?_
    · unfold link_flight_c1_l3
      have hk2 : a + k < e.Out.length := by omega
      have hc : ((decide (((a + k : Nat) : Int) < (e.Out.length : Int))) && (decide (((a + k : Nat) : Int) < w64 (e.Acked + 4)))) = true := by rw [e4]; simp; omega
      have e1 : w64 (((a + k : Nat) : Int) + 1) = ((a + (k + 1) : Nat) : Int) := by rw [w64_id (by omega) (by omega)]; rfl
      have e2 := clone_eq (e.Out[a + k]) (h.all _ (List.getElem_mem hk2))
      have e3 : pkt e party down (a + k) = ⟨party, down, ((a + (k + 1) : Nat) : Int), e.Got, e.Out[a + k]⟩ := by
        simp only [pkt, GPacket.mk.injEq, true_and]
        refine ⟨by omega, ?_⟩
        simp [hk2]
      dsimp only
      rw [if_pos hc, chk_of (inb_nat hk2), ix_nat hk2, e1]
      unfold link_Pending_l14
      dsimp only
      rw [e2, Option.bind_some, chk_of (room_of (by simp; omega)), Option.bind_some, Sum.elim_inl, List.range_succ, List.map_append, List.map_singleton, e3]
    · unfold link_flight_c1_l3
      have hc : ((decide (((a + min 4 (e.Out.length - a) : Nat) : Int) < (e.Out.length : Int))) && (decide (((a + min 4 (e.Out.length - a) : Nat) : Int) < w64 (e.Acked + 4)))) = false := by
        rw [e4]
        simp only [Bool.and_eq_false_iff, decide_eq_false_iff_not]
        omega
      dsimp only
      rw [hc, if_neg (by simp)]
  rw [Option.bind_some, hv]
  simp only [Bool.not_true, Bool.false_eq_true, if_false, Option.bind_some, hloop, Sum.elim_inl]
theorem awake42 : treatylaw42_awake = some true := by
  unfold treatylaw42_awake
  have h1 : EpOk ⟨[[1], [2], [3]], 1, 0⟩ := ⟨by simp, by simp⟩
  have h2 : EpOk ⟨[], 0, 1⟩ := ⟨by simp, by simp⟩
  rw [pending_eq h1 5 true 1 0 rfl rfl (by simp) (by simp) (by simp), Option.bind_some]
  have e : ((List.range (min 4 (([[1], [2], [3]] : List (List Int)).length - 1))).map fun k => pkt ⟨[[1], [2], [3]], 1, 0⟩ 5 true (1 + k)) = [⟨5, true, 2, 0, [2]⟩, ⟨5, true, 3, 0, [3]⟩] := by decide
  rw [e]
  have r1 : link_Receive ⟨[], 0, 1⟩ ⟨5, true, 2, 0, [2]⟩ = some (⟨[], 0, 2⟩, [2], true) := by
    rw [receive_eq h2 (by simp)]
    rfl
  have r2 : link_Receive ⟨[], 0, 1⟩ ⟨5, true, 3, 0, [3]⟩ = some (⟨[], 0, 1⟩, [], false) := by
    rw [receive_eq h2 (by simp)]
    rfl
  simp [ix, inb, chk, r1, r2, same40_refl]
end Go.Proofs.Ytkpoflfhmjkldaa.Pl
