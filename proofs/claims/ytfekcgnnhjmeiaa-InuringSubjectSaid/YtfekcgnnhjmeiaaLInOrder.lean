/- InuringOrder (plain). -/
import Derived.Test.YtfekcgnnhjmeiaaLIn11
namespace Go.Proofs.Ytfekcgnnhjmeiaa.Pl
open Go

theorem ok_true {x : Option Bool} (h : Ok x fun b => b = true) : x = some true := by
  obtain ⟨b, e, rfl⟩ := h
  exact e
theorem newQ {l : List Int} (h : l.length ≤ 9223372036854775807) : Ok (treatymade2_New l) DOk := by
  obtain ⟨d, e, hd⟩ := new_ok h
  exact ⟨d, by unfold treatymade2_New; rw [e]; rfl, hd⟩
theorem treatylaw29_InuringOrder_law (a0 : List Int) (a1 a2 : Int) (h0 : a0.length ≤ 9223372036854775807) : treatylaw29_InuringOrder a0 a1 a2 = some true := by
  apply ok_true
  unfold treatylaw29_InuringOrder
  refine (newQ h0).bind fun d hd => (treatiesQ hd).bind fun r hr => ?_
  obtain ⟨_, h1, h8, id, hm⟩ := hr
  refine (spoilt_ok h1 h8 hm.ok a1 a2).bind fun x hx => ?_
  obtain ⟨o1, e1, q1, q2, q3⟩ := order_same (ts := r.1) (by omega) hm.tslen
  obtain ⟨o2, e2, p1, p2, p3⟩ := order_same (ts := x) (by omega) hx.2
  rw [q1, q2, p1, p2]
  simp only [Option.bind_some]
  rw [same_eq (by omega), same_eq (by omega), awake_ok]
  simp only [Option.bind_some, decide_true, Bool.and_self, if_true]
  exact .some rfl
end Go.Proofs.Ytfekcgnnhjmeiaa.Pl
