/- Any history of the channel (plain): what is received are the first messages, in order. -/
import Derived.Test.YtkpoflfhmjkldaaLLink
namespace Go.Proofs.Ytkpoflfhmjkldaa.Pl
open Go

def msg (i : Nat) : List Int := [IntKind.u8.wrap (i : Int), IntKind.u8.wrap (bShr .i64 (i : Int) 8), 7]
def msgs (n : Nat) : List (List Int) := (List.range n).map msg
theorem message_eq (n : Nat) : treatylaw42_message (n : Int) = some (msg n) := rfl
theorem msgs_len (n : Nat) : (msgs n).length = n := by simp [msgs]
theorem msgs_succ (n : Nat) : msgs (n + 1) = msgs n ++ [msg n] := by simp [msgs, List.range_succ]
theorem msgs_all {n : Nat} : ∀ x ∈ msgs n, x.length ≤ 1000000 := by
  intro x hx
  simp only [msgs, List.mem_map] at hx
  obtain ⟨i, _, rfl⟩ := hx
  simp [msg]
theorem msgs_at {n i : Nat} (h : i < n) : (msgs n).getD i [] = msg i := by
  simp [msgs, List.getD, h]
structure PkOk (n g : Nat) (p : GPacket) : Prop where
  down : p.Down = true → ∃ j, j < n ∧ p.Number = (j : Int) + 1 ∧ p.Data = msg j ∧ p.Ack = 0
  up : p.Down = false → p.Number = 0 ∧ p.Data = [] ∧ 0 ≤ p.Ack ∧ p.Ack ≤ g
theorem PkOk.mono {n g n' g' : Nat} {p : GPacket} (h : PkOk n g p) (hn : n ≤ n') (hg : g ≤ g') : PkOk n' g' p := by
  refine ⟨fun hd => ?_, fun hd => ?_⟩
  · obtain ⟨j, h1, h2⟩ := h.down hd
    exact ⟨j, by omega, h2⟩
  · obtain ⟨h1, h2, h3, h4⟩ := h.up hd
    exact ⟨h1, h2, h3, by omega⟩
theorem PkOk.data {n g : Nat} {p : GPacket} (h : PkOk n g p) : p.Data.length ≤ 1000000 := by
  cases hd : p.Down
  · rw [(h.up hd).2.1]; simp
  · obtain ⟨j, _, _, h3, _⟩ := h.down hd
    rw [h3]; simp [msg]
structure Inv (w : Gworld) (n g : Nat) : Prop where
  aOut : w.a.Out = msgs n
  aGot : w.a.Got = 0
  aAck : 0 ≤ w.a.Acked ∧ w.a.Acked ≤ g
  b : w.b = ⟨[], 0, g⟩
  got : w.got = msgs g
  le : g ≤ n
  n60 : n ≤ 60
  wire : ∀ p ∈ w.wire, PkOk n g p
  ok : w.ok = true
theorem Inv.ea {w : Gworld} {n g : Nat} (h : Inv w n g) : EpOk w.a := ⟨by rw [h.aOut, msgs_len]; have := h.n60; omega, by rw [h.aOut]; exact msgs_all⟩
theorem Inv.eb {w : Gworld} {n g : Nat} (h : Inv w n g) : EpOk w.b := ⟨by rw [h.b]; simp, by rw [h.b]; simp⟩
/-- the acknowledgement is taken over -/
def ackd (e : GEndpoint) (p : GPacket) : GEndpoint := ⟨e.Out, if e.Acked < p.Ack then p.Ack else e.Acked, 0⟩
theorem rcv_a {w : Gworld} {n g : Nat} {p : GPacket} (h : Inv w n g) (hp : PkOk n g p) (hd : p.Down = false) : rcv w.a p = (ackd w.a p, [], false) := by
  obtain ⟨h1, h2, h3, h4⟩ := hp.up hd
  have hle := h.le; have hn := h.n60; have ha := h.aAck
  have hl : (w.a.Out.length : Int) = n := by rw [h.aOut, msgs_len]
  unfold rcv ackd
  dsimp only
  rw [h.aGot, h1, hl]
  have e1 : (((((decide (0 ≤ w.a.Acked)) && (decide (w.a.Acked ≤ (n : Int)))) && (decide ((n : Int) ≤ 4096))) && (decide ((0 : Int) ≤ 0))) && (decide ((0 : Int) ≤ 4096))) = true := by
    simp; omega
  rw [e1]
  have e2 : (w64 (0 + 1)) = 1 := by decide
  rw [e2]
  simp only [Bool.not_true, Bool.false_or, decide_eq_true_eq, show ¬ (4096 : Int) < 0 by omega, show ¬ (0 : Int) = 1 by omega, decide_false, Bool.not_false, if_true, Bool.and_eq_true, Bool.false_eq_true, if_false]
  have e3 : (w.a.Acked < p.Ack ∧ p.Ack ≤ (n : Int)) ↔ w.a.Acked < p.Ack := ⟨fun h => h.1, fun h => ⟨h, by omega⟩⟩
  simp only [e3]
theorem rcv_b {g j : Nat} {p : GPacket} (hg : g ≤ 60) (hj : j < 60) (h1 : p.Number = (j : Int) + 1) (h2 : p.Data = msg j) (h3 : p.Ack = 0) : rcv ⟨[], 0, g⟩ p = if j = g then (⟨[], 0, ((g + 1 : Nat) : Int)⟩, msg g, true) else (⟨[], 0, g⟩, [], false) := by
  unfold rcv
  dsimp only
  rw [h1, h3]
  have e1 : (((((decide ((0 : Int) ≤ 0)) && (decide ((0 : Int) ≤ (([] : List (List Int)).length : Int)))) && (decide ((([] : List (List Int)).length : Int) ≤ 4096))) && (decide ((0 : Int) ≤ (g : Int)))) && (decide ((g : Int) ≤ 4096))) = true := by
    simp; omega
  rw [e1]
  have e2 : (w64 ((g : Int) + 1)) = (g : Int) + 1 := w64_id (by omega) (by omega)
  rw [e2]
  have e3 : (((!true) || (decide (4096 < (j : Int) + 1)))) = false := by simp; omega
  rw [e3]
  simp only [Bool.false_eq_true, if_false, Int.lt_irrefl, decide_false, Bool.false_and]
  by_cases hjg : j = g
  · subst hjg
    simp [h2]
  · have : ¬ ((j : Int) + 1 = (g : Int) + 1) := by omega
    simp [hjg, this]
def reply (g : Nat) : GPacket := ⟨3, false, 0, (g : Int), []⟩
theorem reply_ok (n g : Nat) : PkOk n g (reply g) := ⟨fun h => (by cases h), fun _ => ⟨rfl, rfl, by simp [reply], by simp [reply]⟩⟩
theorem dl_up {w : Gworld} {n g i : Nat} (h : Inv w n g) (hi : i < w.wire.length) (hd : w.wire[i].Down = false) : treatylaw42_world_deliver_o_o_o w (i : Int) = some ⟨ackd w.a w.wire[i], w.b, w.wire, w.got, w.ok⟩ := by
  have hp := h.wire _ (List.getElem_mem hi)
  unfold treatylaw42_world_deliver_o_o_o
  rw [chk_of (inb_nat hi), ix_nat hi, hd, receive_eq h.ea hp.data, rcv_a h hp hd]
  rfl
theorem dl_up2 {w : Gworld} {n g i : Nat} (h : Inv w n g) (hi : i < w.wire.length) (hd : w.wire[i].Down = false) : treatylaw42_world_deliver_o_o w (i : Int) = some ⟨ackd w.a w.wire[i], w.b, w.wire, w.got, w.ok⟩ := by
  have hp := h.wire _ (List.getElem_mem hi)
  unfold treatylaw42_world_deliver_o_o
  rw [chk_of (inb_nat hi), ix_nat hi, hd, receive_eq h.ea hp.data, rcv_a h hp hd]
  rfl
/-- so many are received behind a packet with the index j -/
def got' (g j : Nat) : Nat := if j = g then g + 1 else g
theorem dl_down {w : Gworld} {n g i j : Nat} (h : Inv w n g) (hi : i < w.wire.length) (hw : w.wire.length ≤ 1000000) (hd : w.wire[i].Down = true) (hj : j < n) (h1 : w.wire[i].Number = (j : Int) + 1) (h2 : w.wire[i].Data = msg j) (h3 : w.wire[i].Ack = 0) :
    treatylaw42_world_deliver_o_o_o w (i : Int) = some ⟨w.a, ⟨[], 0, (got' g j : Int)⟩, w.wire ++ [reply (got' g j)], msgs (got' g j), w.ok⟩ := by
  have hp := h.wire _ (List.getElem_mem hi)
  have hle := h.le; have hn := h.n60
  unfold treatylaw42_world_deliver_o_o_o
  rw [chk_of (inb_nat hi), ix_nat hi, hd, receive_eq h.eb hp.data, h.b, rcv_b (by omega) (by omega) h1 h2 h3]
  have hl : (msgs g ++ [msg g]).length ≤ 1000000000 := by simp [msgs_len]; omega
  have hl2 : ∀ x : GPacket, (w.wire ++ [x]).length ≤ 1000000000 := by intro x; simp; omega
  unfold link_Reply got'
  rw [h.got]
  by_cases hjg : j = g
  · simp only [hjg, if_true, Bool.not_true, Bool.false_eq_true, if_false, Option.bind_some, chk_of (room_of hl), chk_of (room_of (hl2 _)), msgs_succ, reply]
  · simp only [hjg, if_false, Bool.not_true, Bool.false_eq_true, Option.bind_some, chk_of (room_of (hl2 _)), reply]
theorem ackd_inv {w : Gworld} {n g : Nat} {p : GPacket} (h : Inv w n g) (hp : PkOk n g p) (hd : p.Down = false) : Inv ⟨ackd w.a p, w.b, w.wire, w.got, w.ok⟩ n g := by
  obtain ⟨_, _, h3, h4⟩ := hp.up hd
  have := h.aAck
  refine ⟨h.aOut, rfl, ?_, h.b, h.got, h.le, h.n60, h.wire, h.ok⟩
  simp only [ackd]
  split <;> omega
theorem got'_le (g j : Nat) : g ≤ got' g j := by unfold got'; split <;> omega
theorem down_inv {w : Gworld} {n g j : Nat} (h : Inv w n g) (hj : j < n) : Inv ⟨w.a, ⟨[], 0, (got' g j : Int)⟩, w.wire ++ [reply (got' g j)], msgs (got' g j), w.ok⟩ n (got' g j) := by
  have := h.aAck; have hle := h.le; have hg := got'_le g j
  refine ⟨h.aOut, h.aGot, ⟨by dsimp only; omega, by dsimp only; omega⟩, rfl, rfl, ?_, h.n60, ?_, h.ok⟩
  · unfold got'; split <;> omega
  · intro p hp
    rcases List.mem_append.1 hp with hp | hp
    · exact (h.wire p hp).mono (Nat.le_refl _) hg
    · rw [List.mem_singleton.1 hp]
      exact reply_ok _ _
/-- whatever packet arrives -/
theorem deliver_ok {w : Gworld} {n g i : Nat} (h : Inv w n g) (hi : i < w.wire.length) (hw : w.wire.length ≤ 1000000) : ∃ w' g', treatylaw42_world_deliver_o_o_o w (i : Int) = some w' ∧ Inv w' n g' ∧ w.wire.length ≤ w'.wire.length ∧ w'.wire.length ≤ w.wire.length + 1 := by
  have hp := h.wire _ (List.getElem_mem hi)
  cases hd : w.wire[i].Down
  · exact ⟨_, _, dl_up h hi hd, ackd_inv h hp hd, Nat.le_refl _, Nat.le_succ _⟩
  · obtain ⟨j, hj, h1, h2, h3⟩ := hp.down hd
    exact ⟨_, _, dl_down h hi hw hd hj h1 h2 h3, down_inv h hj, by simp, by simp⟩
theorem cut_inv {w : Gworld} {n g k l : Nat} (h : Inv w n g) : Inv ⟨w.a, w.b, w.wire.take k ++ w.wire.drop l, w.got, w.ok⟩ n g := by
  refine ⟨h.aOut, h.aGot, h.aAck, h.b, h.got, h.le, h.n60, fun p hp => h.wire p ?_, h.ok⟩
  rcases List.mem_append.1 hp with hp | hp
  · exact List.mem_of_mem_take hp
  · exact List.mem_of_mem_drop hp
theorem send_eq {w : Gworld} {n g : Nat} (h : Inv w n g) (hn : n < 60) : link_Send w.a (msg n) = some (⟨w.a.Out ++ [msg n], w.a.Acked, w.a.Got⟩, 0) := by
  have hle := h.le; have ha := h.aAck
  have hl : w.a.Out.length = n := by rw [h.aOut, msgs_len]
  unfold link_Send link_Valid
  rw [Option.bind_some, h.aGot, hl]
  have e1 : (((((decide (0 ≤ w.a.Acked)) && (decide (w.a.Acked ≤ (n : Int)))) && (decide ((n : Int) ≤ 4096))) && (decide ((0 : Int) ≤ 0))) && (decide ((0 : Int) ≤ 4096))) = true := by
    simp; omega
  have e2 : decide (((msg n).length : Int) = 0) = false := by simp [msg]
  have e3 : ((decide (8192 < ((msg n).length : Int))) || (decide ((n : Int) = 4096))) = false := by simp [msg]; omega
  rw [e1, e2, e3, copied_eq h.ea, clone_eq _ (by simp [msg])]
  simp only [Bool.not_true, Bool.false_eq_true, if_false, Option.bind_some, h.aGot]
  rw [chk_of (room_of (by simp [hl]; omega))]
theorem send_inv {w : Gworld} {n g : Nat} (h : Inv w n g) (hn : n < 60) : Inv ⟨⟨w.a.Out ++ [msg n], w.a.Acked, w.a.Got⟩, w.b, w.wire, w.got, w.ok⟩ (n + 1) g := by
  refine ⟨by simp [h.aOut, msgs_succ], h.aGot, h.aAck, h.b, h.got, by have := h.le; omega, by omega, fun p hp => (h.wire p hp).mono (by omega) (Nat.le_refl _), h.ok⟩
theorem pend_eq {w : Gworld} {n g : Nat} (h : Inv w n g) : ∃ a : Nat, w.a.Acked = a ∧ a ≤ g ∧ link_Pending w.a 3 true = some ((List.range (min 4 (n - a))).map fun k => pkt w.a 3 true (a + k)) := by
  have hle := h.le; have ha := h.aAck; have hn := h.n60
  have hl : w.a.Out.length = n := by rw [h.aOut, msgs_len]
  have e : w.a.Acked = (w.a.Acked.toNat : Int) := by omega
  refine ⟨w.a.Acked.toNat, e, by omega, ?_⟩
  have := pending_eq h.ea 3 true w.a.Acked.toNat 0 e h.aGot (by omega) (by omega) (by omega)
  rw [hl] at this
  exact this
theorem pkt_ok {w : Gworld} {n g i : Nat} (h : Inv w n g) (hi : i < n) : PkOk n g (pkt w.a 3 true i) ∧ (pkt w.a 3 true i).Data = msg i ∧ (pkt w.a 3 true i).Ack = 0 := by
  have e : (pkt w.a 3 true i).Data = msg i := by
    simp only [pkt, h.aOut]
    exact msgs_at hi
  have e2 : (pkt w.a 3 true i).Ack = 0 := h.aGot
  exact ⟨⟨fun _ => ⟨i, hi, rfl, e, e2⟩, fun hd => (by cases hd)⟩, e, e2⟩
theorem bAnd_nat (x : Int) (m : Nat) (hm : m < 2 ^ 63) : 0 ≤ bAnd .i64 x (m : Int) := by
  unfold bAnd
  have h : (BitVec.ofInt IntKind.i64.bits x &&& BitVec.ofInt IntKind.i64.bits (m : Int)).toNat ≤ m := by
    rw [BitVec.toNat_and]
    refine Nat.le_trans Nat.and_le_right ?_
    rw [BitVec.toNat_ofInt]
    simp only [IntKind.bits]
    omega
  have e : IntKind.i64.wrap ((BitVec.ofInt IntKind.i64.bits x &&& BitVec.ofInt IntKind.i64.bits (m : Int)).toNat : Int) = ((BitVec.ofInt IntKind.i64.bits x &&& BitVec.ofInt IntKind.i64.bits (m : Int)).toNat : Int) := w64_id (by omega) (by omega)
  rw [e]
  omega
/-- the state of the loop -/
def T (w : Gworld) (n i : Nat) : (List (List Int)) × Int × Int × (List (List Int)) × Int × Int × (List GPacket) × (List (List Int)) × Bool × Int × Int :=
  (w.a.Out, w.a.Acked, w.a.Got, w.b.Out, w.b.Acked, w.b.Got, w.wire, w.got, w.ok, (n : Int), (i : Int))
def T' (w : Gworld) (n : Nat) : (List (List Int)) × Int × Int × (List (List Int)) × Int × Int × (List GPacket) × (List (List Int)) × Bool × Int :=
  (w.a.Out, w.a.Acked, w.a.Got, w.b.Out, w.b.Acked, w.b.Got, w.wire, w.got, w.ok, (n : Int))
theorem step_ok (a0 : List Int) {w : Gworld} {n g i : Nat} (h : Inv w n g) (hni : n ≤ i) (hw : w.wire.length ≤ 4 * i) (hi : i < a0.length) (h60 : i < 60) :
    ∃ w' n' g', treatylaw42_play_l10 a0 (T w n i) = some (.inl (T w' n' (i + 1))) ∧ Inv w' n' g' ∧ n' ≤ i + 1 ∧ w'.wire.length ≤ 4 * (i + 1) := by
  have hn := h.n60
  unfold treatylaw42_play_l10 T
  dsimp only
  have hc : ((decide ((i : Int) < (a0.length : Int))) && (decide ((i : Int) < 60))) = true := by simp; omega
  have e1 : w64 ((i : Int) + 1) = ((i + 1 : Nat) : Int) := by rw [w64_id (by omega) (by omega)]; rfl
  have en : w64 ((n : Int) + 1) = ((n + 1 : Nat) : Int) := by rw [w64_id (by omega) (by omega)]; rfl
  rw [if_pos hc]
  simp only [chk_of (inb_nat hi), e1, en]
  obtain ⟨k, hk, hks⟩ : ∃ k : Nat, (w.wire ≠ [] → k < w.wire.length) ∧ (if (decide (0 < (w.wire.length : Int))) = true then (chk (!decide ((w.wire.length : Int) = 0)) <|
    some ((bAnd .i64 (bShr .i64 (ix a0 (i : Int)) 3) 1023).tmod (w.wire.length : Int))) else (some 0)) = some (k : Int) := by
    by_cases hl : w.wire = []
    · exact ⟨0, fun h => absurd hl h, by simp [hl]⟩
    · have hp : 0 < w.wire.length := List.length_pos_iff.2 hl
      have hb := bAnd_nat (bShr .i64 (ix a0 (i : Int)) 3) 1023 (by decide)
      have h1 := Int.tmod_nonneg (w.wire.length : Int) hb
      have h2 := Int.tmod_lt_of_pos (bAnd .i64 (bShr .i64 (ix a0 (i : Int)) 3) ((1023 : Nat) : Int)) (show (0 : Int) < (w.wire.length : Int) by omega)
      refine ⟨((bAnd .i64 (bShr .i64 (ix a0 (i : Int)) 3) ((1023 : Nat) : Int)).tmod (w.wire.length : Int)).toNat, fun _ => by omega, ?_⟩
      rw [if_pos (decide_eq_true (by omega)), chk_of (by simp; omega)]
      congr 1
      exact (Int.toNat_of_nonneg h1).symm
  rw [hks, Option.bind_some]
  generalize bAnd .i64 (ix a0 (i : Int)) 7 = s
  have ea : (⟨w.a.Out, w.a.Acked, w.a.Got⟩ : GEndpoint) = w.a := rfl
  have eb : (⟨w.b.Out, w.b.Acked, w.b.Got⟩ : GEndpoint) = w.b := rfl
  simp only [ea, eb]
  by_cases c1 : s < 2
  · simp only [c1, decide_true, if_true, message_eq, Option.bind_some, send_eq h (by omega)]
    exact ⟨⟨⟨w.a.Out ++ [msg n], w.a.Acked, w.a.Got⟩, w.b, w.wire, w.got, w.ok⟩, n + 1, g, by simp, send_inv h (by omega), by omega, by dsimp only; omega⟩
  simp only [c1, decide_false, Bool.false_eq_true, if_false]
  by_cases c2 : s < 4
  · obtain ⟨a, ha, hag, hp⟩ := pend_eq h
    have hle := h.le
    have hm : min 4 (n - a) ≤ 4 := Nat.min_le_left _ _
    simp only [c2, decide_true, if_true, hp, Option.bind_some]
    rw [chk_of (room_of (by simp; omega))]
    refine ⟨⟨w.a, w.b, w.wire ++ (List.range (min 4 (n - a))).map fun k => pkt w.a 3 true (a + k), w.got, w.ok⟩, n, g, rfl, ⟨h.aOut, h.aGot, h.aAck, h.b, h.got, h.le, h.n60, fun p hp => ?_, h.ok⟩, by omega, by simp; omega⟩
    rcases List.mem_append.1 hp with hp | hp
    · exact h.wire p hp
    · obtain ⟨q, hq, rfl⟩ := List.mem_map.1 hp
      have : q < min 4 (n - a) := List.mem_range.1 hq
      exact (pkt_ok h (by omega)).1
  simp only [c2, decide_false, Bool.false_eq_true, if_false]
  by_cases c3 : w.wire = []
  · simp only [c3, List.length_nil, Int.natCast_zero, decide_true, if_true, Option.bind_some]
    exact ⟨w, n, g, by rw [c3], h, by omega, by omega⟩
  have hlen := hk c3
  have c3' : ¬ ((w.wire.length : Int) = 0) := by omega
  have ek : w64 ((k : Int) + 1) = ((k + 1 : Nat) : Int) := by rw [w64_id (by omega) (by omega)]; rfl
  simp only [c3', decide_false, Bool.false_eq_true, if_false, ek, Int.toNat_natCast]
  by_cases c4 : s = 4
  · simp only [c4, decide_true, if_true]
    rw [chk_of (decide_eq_true (by omega)), chk_of (decide_eq_true (by omega)), chk_of (decide_eq_true (by omega)), chk_of (decide_eq_true (by omega)), chk_of (room_of (by simp; omega))]
    exact ⟨⟨w.a, w.b, w.wire.take k ++ w.wire.drop (k + 1), w.got, w.ok⟩, n, g, rfl, cut_inv h, by omega, by simp; omega⟩
  simp only [c4, decide_false, Bool.false_eq_true, if_false]
  have ew : (⟨w.a, w.b, w.wire, w.got, w.ok⟩ : Gworld) = w := rfl
  obtain ⟨w', g', hd, hi', h1, h2⟩ := deliver_ok h hlen (by omega)
  rw [ew, hd]
  by_cases c5 : s = 5
  · simp only [c5, decide_true, if_true, Option.bind_some]
    exact ⟨w', n, g', rfl, hi', by omega, by omega⟩
  simp only [c5, decide_false, Bool.false_eq_true, if_false, Option.bind_some]
  rw [chk_of (decide_eq_true (by omega)), chk_of (decide_eq_true (by omega)), chk_of (decide_eq_true (by omega)), chk_of (decide_eq_true (by omega)), chk_of (room_of (by simp; omega))]
  exact ⟨⟨w'.a, w'.b, w'.wire.take k ++ w'.wire.drop (k + 1), w'.got, w'.ok⟩, n, g', rfl, cut_inv hi', by omega, by simp; omega⟩
theorem play_ok (a0 : List Int) : ∃ (w : Gworld) (n g : Nat), treatylaw42_play a0 = some (w, (n : Int)) ∧ Inv w n g := by
  unfold treatylaw42_play
  have hl : ∃ o, loopV (treatylaw42_play_l10 a0) ([], 0, 0, [], 0, 0, [], [], true, 0, 0) = some o ∧ ∃ w n g, o = T' w n ∧ Inv w n g := by
    refine loopV_inv (fun s => ∃ w n g i, s = T w n i ∧ Inv w n g ∧ n ≤ i ∧ i ≤ 60 ∧ w.wire.length ≤ 4 * i) (fun s => (60 - s.2.2.2.2.2.2.2.2.2.2).toNat) (fun o => ∃ w n g, o = T' w n ∧ Inv w n g) ?_ _ ?_
    · rintro s ⟨w, n, g, i, rfl, h, h1, h2, h3⟩
      by_cases hc : i < a0.length ∧ i < 60
      · obtain ⟨w', n', g', hs, h4, h5, h6⟩ := step_ok a0 h h1 h3 hc.1 hc.2
        refine ⟨_, hs, ⟨w', n', g', i + 1, rfl, h4, h5, by omega, h6⟩, ?_⟩
        simp only [T]
        omega
      · refine ⟨.inr (T' w n), ?_, w, n, g, rfl, h⟩
        unfold treatylaw42_play_l10 T
        dsimp only
        have hc' : ((decide ((i : Int) < (a0.length : Int))) && (decide ((i : Int) < 60))) = false := by
          simp only [Bool.and_eq_false_iff, decide_eq_false_iff_not]
          omega
        rw [hc', if_neg (by simp)]
        rfl
    · exact ⟨⟨⟨[], 0, 0⟩, ⟨[], 0, 0⟩, [], [], true⟩, 0, 0, 0, rfl, ⟨rfl, rfl, ⟨by simp, by simp⟩, rfl, rfl, by omega, by omega, by simp, rfl⟩, by omega, by omega, by simp⟩
  obtain ⟨o, ho, w, n, g, rfl, hI⟩ := hl
  rw [ho, Option.bind_some]
  exact ⟨w, n, g, rfl, hI⟩
end Go.Proofs.Ytkpoflfhmjkldaa.Pl
