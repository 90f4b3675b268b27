/- CommuteConserves (plain). -/
import Derived.Test.YtdenliplkmjmjaaLComS
namespace Go.Proofs.Ytdenliplkmjmjaa.Pl
open Go

theorem id_ok (x : Int) : 1 ≤ w64 ((bAnd .i64 (w64 x) 3) + 1) ∧ w64 ((bAnd .i64 (w64 x) 3) + 1) ≤ 4 := by
  have := bAnd3 (w64 x)
  rw [w64_id (by omega) (by omega)]
  omega
theorem treatylaw36_CommuteConserves_law (a0 a1 : List Int) (a2 a3 : Int) (h0 : a0.length ≤ 9223372036854775807) (h1 : a1.length ≤ 9223372036854775807) : treatylaw36_CommuteConserves a0 a1 a2 a3 = some true := by
  unfold treatylaw36_CommuteConserves
  obtain ⟨e1, hk1⟩ := new_ok a0 h0
  obtain ⟨l, d1, e2, _, hM⟩ := ledger_ok hk1 6 (by omega)
  obtain ⟨e3, hk2⟩ := new_ok a1 h1
  obtain ⟨t, d2, e4, _, ht1, ht2⟩ := target_ok hk2 12 (by omega)
  rw [show ((6 : Nat) : Int) = 6 from rfl] at e2
  rw [show ((12 : Nat) : Int) = 12 from rfl] at e4
  have hw := hM.way
  have wl := hw.len
  have hid := id_ok a2
  have hip := id_ok a3
  generalize w64 ((bAnd .i64 (w64 a2) 3) + 1) = tr at hid
  generalize w64 ((bAnd .i64 (w64 a3) 3) + 1) = pa at hip
  have htv : ∀ e ∈ t, vE e = true := fun e he => (ht2 e he).1.valid
  have hab := absA_EOk (l := t) fun e he => (ht2 e he).1
  have htB : TotB t 824633720832 := TotB.of_abs (by omega)
  have hlB : TotB (ents l) 824633720832 := fun g hg => by have := hw.bd g hg; omega
  obtain ⟨u, u1, u2, u3⟩ := redirect_sem hw.ok htv (by omega) (by omega) (by omega) htB hlB (by omega) (tr := tr) (pa := pa) (by omega) (by omega) (by omega) (by omega)
  have hbd := red_bd (tr := tr) (pa := pa) (B := 824633720832) (by omega) htB hlB
  obtain ⟨uv, _⟩ := red_entries u2 htv (ents_valid hw.ok) (by omega) hbd
  obtain ⟨r, m1, m2, m3⟩ := merged_same htv (fun e he => (uv e he).1) (by omega) (by omega) (B := 824633720832) (by omega) (by omega) (fun g hg hg0 => by
    have e : psum (tot u) g = psum (red tr pa (tot t) (tot (ents l))) g := psum_congr fun p => collT_tot u2 hg
    rw [e, psum_red (by omega) (by omega) _ _ hg0])
  simp only [e1, e2, e3, e4, u1, m1, m2, Option.bind_some, decide_true, Bool.and_self, if_true, sameEntries_refl r (by omega), awake36]
end Go.Proofs.Ytdenliplkmjmjaa.Pl
