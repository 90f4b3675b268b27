/- Inuring (plain): the made treaties, step by step. -/
import Derived.Test.YtfekcgnnhjmeiaaLIn7
namespace Go.Proofs.Ytfekcgnnhjmeiaa.Pl
open Go

def newT (t : GTreaty) (pe ar : List Int) (ret lim : Int) (inu : List Int) : GTreaty := GTreaty.mk t.ID t.Kind t.Period pe ar t.Risk t.Cession t.Line t.Lines ret lim t.Window t.Deductible t.Aggregate t.Premium t.Reinstatements t.Timed t.Base inu t.Parts
abbrev St59 := List Int × Int × List Int × Int
theorem inures_loop {l : List GTreaty} {id : Int} (h : MOk l id) (hl : l.length ≤ 7) (s10 : List Int × Int × List GTreaty × Int × Int) (hs : s10.2.2.1 = l) (T : GTreaty × GDeck) (s45 : List Int × Int × Int × Int) (s50 : List Int × Int × List Int × List Int)
    (hp : s50.2.2.1.length ≤ 3 ∧ s50.2.2.2.length ≤ 3) {d : GDeck} (hd : DOk d) :
    Ok (loopV (treatymade2_Treaties_l59 s10 T s45 s50) (d.L, d.At, [], 0)) fun s => DOk (GDeck.mk s.1 s.2.1) ∧ s.2.2.length ≤ l.length ∧ AscI 1 1048576 none s.2.2 ∧ (∀ x ∈ s.2.2, ∃ j : Nat, j < l.length ∧ (ix l (j : Int)).ID = x) ∧ ∀ j : Nat, j < l.length → meetS (newT T.1 s50.2.2.1 s50.2.2.2 s45.2.2.1 s45.2.2.2 s.2.2) (ix l (j : Int)) = true → (ix l (j : Int)).ID ∈ s.2.2 := by
  subst hs
  have h0 := h.id0
  refine Ok.loop (fun s : St59 => ∃ q : Nat, q ≤ s10.2.2.1.length ∧ s.2.2.2 = (q : Int) ∧ DOk (GDeck.mk s.1 s.2.1) ∧ s.2.2.1.length ≤ q ∧ AscI 1 1048576 none s.2.2.1 ∧ (∀ x ∈ s.2.2.1, ∃ j : Nat, j < q ∧ (ix s10.2.2.1 (j : Int)).ID = x) ∧ ∀ j : Nat, j < q → meetS (newT T.1 s50.2.2.1 s50.2.2.2 s45.2.2.1 s45.2.2.2 []) (ix s10.2.2.1 (j : Int)) = true → (ix s10.2.2.1 (j : Int)).ID ∈ s.2.2.1)
    (fun s => s10.2.2.1.length - s.2.2.2.toNat) ⟨0, by omega, rfl, hd, by simp, trivial, by simp, fun j hj => by omega⟩ ?_
  rintro ⟨L, A, inu, _⟩ ⟨q, hq, e, hd, hlen, hasc, hin, hmeet⟩
  dsimp only at e hd hlen hasc hin hmeet
  subst e
  unfold treatymade2_Treaties_l59
  dsimp only
  refine Ok.ite (fun hc => ?_) fun hc => ?_
  · have hc' : q < s10.2.2.1.length := by simpa using hc
    have hx := h.ok q hc'
    refine Ok.bind (P := fun s => DOk (GDeck.mk s.1 s.2.1) ∧ s.2.2.length ≤ q + 1 ∧ AscI 1 1048576 none s.2.2 ∧ (∀ x ∈ s.2.2, ∃ j : Nat, j < q + 1 ∧ (ix s10.2.2.1 (j : Int)).ID = x) ∧ ∀ j : Nat, j < q + 1 → meetS (newT T.1 s50.2.2.1 s50.2.2.2 s45.2.2.1 s45.2.2.2 []) (ix s10.2.2.1 (j : Int)) = true → (ix s10.2.2.1 (j : Int)).ID ∈ s.2.2) (Ok.chk (inb_nat hc') ?_) fun s hs => ?_
    · refine Ok.bind (P := fun s : List Int × Int × Bool => DOk (GDeck.mk s.1 s.2.1) ∧ (meetS (newT T.1 s50.2.2.1 s50.2.2.2 s45.2.2.1 s45.2.2.2 []) (ix s10.2.2.1 (q : Int)) = true → s.2.2 = true)) ?_ fun s hs => ?_
      · rw [rmeet_eq ⟨by dsimp only; omega, by dsimp only; omega, by dsimp only; omega⟩ hx.len, Option.bind_some]
        refine Ok.ite (fun _ => .some ⟨hd, fun _ => rfl⟩) fun hm => ?_
        refine (nextQ hd (n := 4) (by omega) (by omega)).bind fun r hr => .some ⟨hr.2.2, fun hm2 => absurd hm2 hm⟩
      · refine Ok.ite (fun hb => Ok.chk (room_of (by simp; omega)) (.some ⟨hs.1, by simp; omega, ?_, fun x hx => ?_, fun j hj hm => ?_⟩)) fun hb => .some ⟨hs.1, by dsimp only; omega, hasc, fun x hx => ?_, fun j hj hm => ?_⟩
        · refine hasc.snoc (by have := hx.id; omega) (fun x hx => by cases hx) fun x hx => ?_
          obtain ⟨j, hj, e⟩ := hin x hx
          have := h.asc j q hj hc'
          omega
        · rcases List.mem_append.1 hx with hx | hx
          · obtain ⟨j, hj, e⟩ := hin x hx
            exact ⟨j, by omega, e⟩
          · exact ⟨q, by omega, (List.mem_singleton.1 hx).symm⟩
        · rw [List.mem_append]
          by_cases c : j = q
          · subst c; exact .inr (by simp)
          · exact .inl (hmeet j (by omega) hm)
        · obtain ⟨j, hj, e⟩ := hin x hx
          exact ⟨j, by omega, e⟩
        · by_cases c : j = q
          · subst c; exact absurd (hs.2 hm) hb
          · exact hmeet j (by omega) hm
    · refine .some ⟨⟨q + 1, by omega, w64_succ (by omega), hs⟩, ?_⟩
      dsimp only
      rw [w64_succ (by omega)]
      omega
  · have hc' : q = s10.2.2.1.length := by
      have : ¬ (q : Int) < s10.2.2.1.length := by simpa using hc
      omega
    subst hc'
    exact .some ⟨hd, hlen, hasc, hin, hmeet⟩
theorem new_tok {t : GTreaty} {id kind : Int} (hb : TBase t id kind) (hi : 1 ≤ id ∧ id ≤ 1048576) (hk : 1 ≤ kind ∧ kind ≤ 6) (hpr : kind ≤ 3 → PropF t) (hex : 4 ≤ kind → ExF t) {pe ar inu : List Int} {ret lim : Int}
    (h1 : pe.length ≤ 3 ∧ AscI 0 15 none pe) (h2 : ar.length ≤ 3 ∧ AscI 0 15 none ar) (h3 : inu.length ≤ 7 ∧ AscI 1 1048576 none inu ∧ ∀ x ∈ inu, x < id) (h4 : kind ≤ 3 → ret = t.Retention ∧ lim = t.Limit) (h5 : 4 ≤ kind → (0 ≤ ret ∧ ret ≤ 1073741824) ∧ (1 ≤ lim ∧ lim ≤ 1073741824)) :
    TOk (newT t pe ar ret lim inu) := by
  have e1 := hb.hid
  have e2 := hb.hkind
  refine ⟨by show 1 ≤ t.ID ∧ t.ID ≤ 1048576; rw [e1]; exact hi, by show 1 ≤ t.Kind ∧ t.Kind ≤ 6; rw [e2]; exact hk, hb.per, h1, h2, hb.prem, ⟨h3.1, h3.2.1, by show ∀ x ∈ inu, x < t.ID; rw [e1]; exact h3.2.2⟩, hb.rein, hb.parts, fun hc => ?_, fun hc => ?_⟩
  · have hc' : kind ≤ 3 := by rw [← e2]; exact hc
    obtain ⟨a, b⟩ := h4 hc'
    subst a b
    exact hpr hc'
  · have hc' : 4 ≤ kind := by rw [← e2]; exact hc
    obtain ⟨a, b⟩ := h5 hc'
    obtain ⟨x1, x2, x3, x4, x5, x6, x7, x8⟩ := hex hc'
    exact ⟨x1, x2, x3, x4, a, b, x7, x8⟩
end Go.Proofs.Ytfekcgnnhjmeiaa.Pl
