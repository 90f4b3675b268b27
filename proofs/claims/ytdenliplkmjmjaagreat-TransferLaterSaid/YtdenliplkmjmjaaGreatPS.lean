import Derived.Lib.ItoaNum
import Derived.Test.YtdenliplkmjmjaaGreatPP
import Derived.Test.YtdenliplkmjmjaaGreatPA
namespace Go.Proofs.YtdenliplkmjmjaaGreat.Sp
open Go
theorem w64_id {n:Int} (h1 : -9223372036854775808 ≤ n) (h2:n ≤ 9223372036854775807):w64 n = n:=by
  simp only [IntKind.wrap,IntKind.bits,IntKind.signed]
  simp only [Bool.true_and,ge_iff_le,decide_eq_true_eq]
  split <;> omega
theorem inb_of {α:Type} {xs:List α} {i:Int} (h0:0 ≤ i) (h1:i < xs.length):inb xs i = true:=by simp [inb,h0,h1]
theorem inb_nat {α:Type} {xs:List α} {k:Nat} (h:k < xs.length):inb xs (k:Int) = true:=inb_of (by omega) (by omega)
theorem ix_nat {α:Type} [Inhabited α] {xs:List α} {k:Nat} (h:k < xs.length):ix xs (k:Int) = xs[k]:=by simp [ix,h]
theorem room_of {n:Nat} (h:n ≤ 1000000000):room n = true:=by simp [room,h]
theorem chk_true {α:Type} {b:Bool} {x:Option α} (h:b = true):chk b x = x:=by subst h; rfl
theorem loopV_run {S O:Type} {step:S → Option (S ⊕ O)} (f:Nat → S) (n:Nat) (h:∀ k,k < n → step (f k) = some (.inl (f (k + 1)))):loopV step (f 0) = loopV step (f n):=by
  induction n with
  | zero=>rfl
  | succ n ih=>rw [ih fun k hk=>h k (by omega),loopV_next (h n (by omega))]
theorem loopV_done {S O:Type} {step:S → Option (S ⊕ O)} (f:Nat → S) (n:Nat) (o:O) (h:∀ k,k < n → step (f k) = some (.inl (f (k + 1)))) (hs:step (f n) = some (.inr o)):loopV step (f 0) = some o:=by
  rw [loopV_run f n h,loopV_stop hs]
theorem loopV_congr {S O:Type} {f g:S → Option (S ⊕ O)} (h:∀ s,f s = g s) (s:S):loopV f s = loopV g s:=by
  have:f = g:=funext h
  rw [this]
theorem u64_id {n:Int} (h1:0 ≤ n) (h2:n < 18446744073709551616):u64 n = n:=by
  simp [u64,IntKind.wrap,IntKind.bits,IntKind.signed]
  omega
theorem u64_mod (n:Int):u64 n = n % 18446744073709551616:=by
  simp [u64,IntKind.wrap,IntKind.bits,IntKind.signed]
theorem knuth {S:Type} (mk:Int → Int → S) (step:S → Option (S ⊕ Int)) {u d y1 y0:Int} (hy1:2147483648 ≤ y1) (hy1':y1 < 4294967296) (hy0:0 ≤ y0) (hy0':y0 < 4294967296) (hd:0 ≤ d) (hd':d < 4294967296) (hu:0 ≤ u) (hu':u < y1 * 4294967296 + y0)
    (hstep:∀ q r,step (mk q r) = if (decide (4294967296 ≤ q) || decide (u64 (u64 (4294967296 * r) + d) < u64 (q * y0))) = true then (if decide (4294967296 ≤ u64 (r + y1)) = true then some (.inr (u64 (q - 1))) else some (.inl (mk (u64 (q - 1)) (u64 (r + y1))))) else some (.inr q)) :
    loopV step (mk (u / y1) (u % y1)) = some ((u * 4294967296 + d) / (y1 * 4294967296 + y0)):=by
  have hY:0 < y1 * 4294967296 + y0:=by omega
  generalize hQ:(u * 4294967296 + d) / (y1 * 4294967296 + y0) = Q
  have hQ0:0 ≤ Q:=by rw [← hQ]; exact Int.ediv_nonneg (by omega) (by omega)
  have hup:∀ q:Int,q * (y1 * 4294967296 + y0) ≤ u * 4294967296 + d → q ≤ Q:=fun q h=>by rw [← hQ]; exact Int.le_ediv_of_mul_le hY h
  have hlo:∀ q:Int,u * 4294967296 + d < q * (y1 * 4294967296 + y0) → Q < q:=fun q h=>by rw [← hQ]; exact Int.ediv_lt_of_lt_mul hY h
  have hex:∀ q:Int,q * (y1 * 4294967296 + y0) = q * y1 * 4294967296 + q * y0:=fun q=>by rw [Int.mul_add,Int.mul_assoc]
  have hQB:Q < 4294967296:=hlo _ (by omega)
  have main:∀ (n:Nat) (q r:Int),q = Q + n → 0 ≤ r → r < 4294967296 → q * y1 + r = u → q ≤ 4294967300 → loopV step (mk q r) = some Q:=by
    intro n
    induction n with
    | zero =>
      intro q r hq hr hr' he hqb
      have hq':q = Q:=by simpa using hq
      have hc:(decide (4294967296 ≤ q) || decide (u64 (u64 (4294967296 * r) + d) < u64 (q * y0))) = false:=by
        have h1:¬ 4294967296 ≤ q:=by omega
        have hb0:0 ≤ q * y0:=Int.mul_nonneg (by omega) hy0
        have hb1:q * y0 ≤ 4294967295 * 4294967295:=by
          have:=Int.mul_le_mul (show q ≤ 4294967295 by omega) (show y0 ≤ 4294967295 by omega) hy0 (by omega)
          exact this
        have h2:¬ (u64 (u64 (4294967296 * r) + d) < u64 (q * y0)):=by
          rw [u64_id (n:=4294967296 * r) (by omega) (by omega),u64_id (n:=4294967296 * r + d) (by omega) (by omega),u64_id hb0 (by omega)]
          intro h3
          have:=hlo q (by rw [hex]; omega)
          omega
        simp [h1,h2]
      have:=hstep q r
      rw [hc] at this
      simp only [Bool.false_eq_true,if_false] at this
      rw [loopV_stop this,hq']
    | succ n ih =>
      intro q r hq hr hr' he hqb
      have hq1:q - 1 = Q + n:=by rw [hq]; omega
      have hqpos:1 ≤ q:=by omega
      have he1:(q - 1) * y1 + (r + y1) = u:=by rw [Int.sub_mul]; omega
      have hc:(decide (4294967296 ≤ q) || decide (u64 (u64 (4294967296 * r) + d) < u64 (q * y0))) = true:=by
        by_cases h1:4294967296 ≤ q
        · simp [h1]
        · have hb0:0 ≤ q * y0:=Int.mul_nonneg (by omega) hy0
          have hb1:q * y0 ≤ 4294967295 * 4294967295:=Int.mul_le_mul (show q ≤ 4294967295 by omega) (show y0 ≤ 4294967295 by omega) hy0 (by omega)
          have h2:u64 (u64 (4294967296 * r) + d) < u64 (q * y0):=by
            rw [u64_id (n:=4294967296 * r) (by omega) (by omega),u64_id (n:=4294967296 * r + d) (by omega) (by omega),u64_id hb0 (by omega)]
            refine Int.not_le.1 fun h3=>?_
            have:=hup q (by rw [hex]; omega)
            omega
          simp [h2]
      have hs:=hstep q r
      rw [hc,u64_id (n:=q - 1) (by omega) (by omega),u64_id (n:=r + y1) (by omega) (by omega)] at hs
      simp only [if_true] at hs
      by_cases hb:4294967296 ≤ r + y1
      · simp only [hb,decide_true,if_true] at hs
        rw [loopV_stop hs]
        have h1:q - 1 ≤ 4294967295:=by
          refine Int.not_lt.1 fun h=>?_
          have:=Int.mul_le_mul_of_nonneg_right (show (4294967296:Int) ≤ q - 1 by omega) (show 0 ≤ y1 by omega)
          omega
        have h2:(q - 1) * y0 ≤ 4294967295 * 4294967295:=Int.mul_le_mul h1 (show y0 ≤ 4294967295 by omega) hy0 (by omega)
        have h3:=hup (q - 1) (by rw [hex]; omega)
        congr 1
        omega
      · simp only [hb,decide_false,Bool.false_eq_true,if_false] at hs
        rw [loopV_next hs]
        exact ih (q - 1) (r + y1) hq1 (by omega) (by omega) he1 (by omega)
  have hd0:=Int.mul_ediv_add_emod u y1
  have hm0:=Int.emod_nonneg u (show y1 ≠ 0 by omega)
  have hm1:=Int.emod_lt_of_pos u (show 0 < y1 by omega)
  have hle:Q ≤ u / y1:=by
    refine Int.le_ediv_of_mul_le (by omega) ?_
    have h1:Q * (y1 * 4294967296 + y0) ≤ u * 4294967296 + d:=by rw [← hQ]; exact Int.ediv_mul_le _ (by omega)
    rw [hex] at h1
    have h2:0 ≤ Q * y0:=Int.mul_nonneg hQ0 hy0
    omega
  have hub:u / y1 ≤ 4294967298:=by
    refine Int.lt_add_one_iff.1 (Int.ediv_lt_of_lt_mul (by omega) ?_)
    omega
  obtain ⟨n,hn⟩:=Int.eq_ofNat_of_zero_le (show 0 ≤ u / y1 - Q by omega)
  exact main n (u / y1) (u % y1) (by omega) hm0 (by omega) (by rw [Int.mul_comm]; exact hd0) (by omega)
theorem bAnd32 {x:Int} (h1:0 ≤ x) (h2:x < 18446744073709551616):bAnd .u64 x 4294967295 = x % 4294967296:=by
  obtain ⟨a,rfl⟩:=Int.eq_ofNat_of_zero_le h1
  have ha:a < 18446744073709551616:=by omega
  have e:(BitVec.ofInt 64 (a:Int) &&& BitVec.ofInt 64 4294967295).toNat = a % 4294967296:=by
    have e1:(BitVec.ofInt 64 (4294967295:Int)).toNat = 2 ^ 32 - 1:=by decide
    have e2:(BitVec.ofInt 64 (a:Int)).toNat = a:=by
      rw [BitVec.ofInt_natCast,BitVec.toNat_ofNat]
      exact Nat.mod_eq_of_lt (by omega)
    rw [BitVec.toNat_and,e1,e2,Nat.and_two_pow_sub_one_eq_mod]
  show u64 ((BitVec.ofInt 64 (a:Int) &&& BitVec.ofInt 64 4294967295).toNat:Int) = _
  rw [e,u64_id (by omega) (by omega)]
  omega
theorem bShr_eq {x:Int} {k:Nat} (hk:k ≤ 64):bShr .u64 x (k:Int) = x / 2 ^ k:=by
  have:min k 64 = k:=by omega
  simp only [bShr,IntKind.bits,Int.toNat_natCast,this]
  exact Int.fdiv_eq_ediv_of_nonneg _ (Int.le_of_lt (Int.pow_pos (by decide)))
theorem bShl_eq {x:Int} {k:Nat} (hk:k ≤ 64):bShl .u64 x (k:Int) = u64 (x * 2 ^ k):=by
  have:min k 64 = k:=by omega
  simp only [bShl,IntKind.bits,Int.toNat_natCast,this]
theorem bOr_eq {a b:Int} {s:Nat} (ha:0 ≤ a) (hb:0 ≤ b) (hb':b < 2 ^ s) (h:a * 2 ^ s + b < 18446744073709551616):bOr .u64 (a * 2 ^ s) b = a * 2 ^ s + b:=by
  obtain ⟨m,rfl⟩:=Int.eq_ofNat_of_zero_le ha
  obtain ⟨n,rfl⟩:=Int.eq_ofNat_of_zero_le hb
  have hp:((m:Int) * 2 ^ s) = ((2 ^ s * m:Nat):Int):=by
    rw [Nat.mul_comm]; simp
  have hb2:n < 2 ^ s:=by
    have:((n:Nat):Int) < ((2 ^ s:Nat):Int):=by simpa using hb'
    omega
  rw [hp] at h ⊢
  have e:(BitVec.ofInt 64 ((2 ^ s * m:Nat):Int) ||| BitVec.ofInt 64 (n:Int)).toNat = 2 ^ s * m + n:=by
    have e2:∀ a:Nat,a < 18446744073709551616 → (BitVec.ofInt 64 (a:Int)).toNat = a:=fun a ha=>by
      rw [BitVec.ofInt_natCast,BitVec.toNat_ofNat]
      exact Nat.mod_eq_of_lt (by omega)
    rw [BitVec.toNat_or,e2 _ (by omega),e2 _ (by omega),Nat.two_pow_add_eq_or_of_lt hb2]
  show u64 ((BitVec.ofInt 64 ((2 ^ s * m:Nat):Int) ||| BitVec.ofInt 64 (n:Int)).toNat:Int) = _
  rw [e,u64_id (by omega) (by omega)]
  omega
theorem two_digits {N T y U1 U0:Int} (hT:0 < T) (hy:0 < y) (hN:N * T = U1 * 18446744073709551616 + U0) :
    let Y:=y * T
    let A:=U1 * 4294967296 + U0 / 4294967296
    let C:=A % Y * 4294967296 + U0 % 4294967296
    A / Y * 4294967296 + C / Y = N / y ∧ C % Y = N % y * T:=by
  intro Y A C
  have hY:0 < Y:=Int.mul_pos hy hT
  have e1:=Int.mul_ediv_add_emod A Y
  have e2:=Int.mul_ediv_add_emod C Y
  have hC0:=Int.emod_nonneg C (show Y ≠ 0 by omega)
  have hC1:=Int.emod_lt_of_pos C hY
  have e3:N * T = Y * (A / Y * 4294967296 + C / Y) + C % Y:=by
    have hA:A = U1 * 4294967296 + U0 / 4294967296:=rfl
    have hC:C = A % Y * 4294967296 + U0 % 4294967296:=rfl
    rw [Int.mul_add,← Int.mul_assoc]
    generalize Y * (A / Y) = p at *
    generalize Y * (C / Y) = q at *
    generalize C % Y = c at *
    generalize A % Y = a at *
    omega
  have e4:N * T / Y = A / Y * 4294967296 + C / Y:=by
    rw [e3,Int.mul_add_ediv_left _ _ (by omega),Int.ediv_eq_zero_of_lt hC0 hC1,Int.add_zero]
  have e5:N * T % Y = C % Y:=by
    rw [e3,Int.mul_add_emod_self_left,Int.emod_eq_of_lt hC0 hC1]
  refine ⟨?_,?_⟩
  · rw [← e4]
    exact Int.mul_ediv_mul_of_pos_left _ _ hT
  · rw [← e5]
    have h1:=Int.mul_ediv_add_emod (N * T) (y * T)
    have h2:N * T / (y * T) = N / y:=Int.mul_ediv_mul_of_pos_left _ _ hT
    have h3:=Int.mul_ediv_add_emod N y
    rw [h2] at h1
    have h4:y * T * (N / y) + N % y * T = N * T:=by
      rw [← h3,Int.add_mul,h3,Int.mul_right_comm]
    have h5:N * T % Y = N * T % (y * T):=rfl
    omega
theorem div64_ok {hi lo y:Int} (h0:0 ≤ hi) (h1:hi < y) (h2:y < 18446744073709551616) (h3:0 ≤ lo) (h4:lo < 18446744073709551616) :
    bits_Div64 hi lo y = some ((hi * 18446744073709551616 + lo) / y,(hi * 18446744073709551616 + lo) % y):=by
  have hy:0 < y:=by omega
  have hy0:¬ y = 0:=by omega
  have hyh:¬ y ≤ hi:=by omega
  unfold bits_Div64
  simp only [hy0,hyh,decide_false,Bool.false_eq_true,if_false,Option.bind_some]
  by_cases hz:hi = 0
  · subst hz
    simp only [decide_true,if_true]
    rw [chk_true (by simp),Int.tdiv_eq_ediv_of_nonneg h3,Int.tmod_eq_emod_of_nonneg h3]
    have e1:lo / y ≤ lo:=Int.ediv_le_self _ h3
    have e2:=Int.ediv_nonneg h3 (Int.le_of_lt hy)
    rw [u64_id e2 (by omega)]
    simp
  · simp only [hz,decide_false,Bool.false_eq_true,if_false]
    obtain ⟨hb1,hb2,hb3⟩:=Lib.bitLenAux_bounds 64 y.toNat (by omega) (by omega)
    have hbl:Lib.bitLenAux 64 y.toNat = Lib.bitLen y.toNat:=rfl
    rw [hbl] at hb1 hb2 hb3
    have hb4:Lib.bitLen y.toNat ≤ 64:=Lib.bitLen_le _ 64 (Nat.le_refl _) (by omega)
    generalize hL:Lib.bitLen y.toNat = L at *
    obtain ⟨s,hs⟩:∃ s:Nat,s + L = 64:=⟨64 - L,by omega⟩
    have hlz:bits_LeadingZeros64 y = some (s:Int):=by
      unfold bits_LeadingZeros64 lz64V
      rw [if_pos (by omega),hL]
      congr 1
      omega
    have hTn:(0:Nat) < 2 ^ s:=Nat.pow_pos (by decide)
    have hYn1:9223372036854775808 ≤ y.toNat * 2 ^ s:=by
      have h5:2 ^ (L - 1) * 2 ^ s = 9223372036854775808:=by
        rw [← Nat.pow_add,show L - 1 + s = 63 by omega]
      have:=Nat.mul_le_mul_right (2 ^ s) hb2
      omega
    have hYn2:y.toNat * 2 ^ s < 18446744073709551616:=by
      have h5:2 ^ L * 2 ^ s = 18446744073709551616:=by
        rw [← Nat.pow_add,show L + s = 64 by omega]
      have:=Nat.mul_lt_mul_of_pos_right hb3 hTn
      omega
    have hVn:(0:Nat) < 2 ^ (64 - s):=Nat.pow_pos (by decide)
    have hTVn:2 ^ (64 - s) * 2 ^ s = 18446744073709551616:=by rw [← Nat.pow_add,show 64 - s + s = 64 by omega]
    have hTe:((2:Int) ^ s) = ((2 ^ s:Nat):Int):=by simp
    have hVe:((2:Int) ^ (64 - s)) = ((2 ^ (64 - s):Nat):Int):=by simp
    have hs64:s ≤ 64:=by omega
    have hu1:u64 (s:Int) = (s:Int):=u64_id (by omega) (by omega)
    have hu2:u64 (64 - (s:Int)) = ((64 - s:Nat):Int):=by rw [u64_id (by omega) (by omega)]; omega
    simp only [hlz,Option.bind_some,hu1,hu2]
    generalize hT:(2:Int) ^ s = T at *
    have hT0:0 < T:=by omega
    have hyy:y = (y.toNat:Int):=by omega
    have hY1:9223372036854775808 ≤ y * T:=by rw [hTe,hyy,← Int.natCast_mul]; omega
    have hY2:y * T < 18446744073709551616:=by rw [hTe,hyy,← Int.natCast_mul]; omega
    have hhT:0 ≤ hi * T:=Int.mul_nonneg h0 (by omega)
    have hhT2:(hi + 1) * T ≤ y * T:=Int.mul_le_mul_of_nonneg_right (by omega) (by omega)
    rw [Int.add_mul,Int.one_mul] at hhT2
    have hV:(0:Int) < (2:Int) ^ (64 - s):=by omega
    have hTV:(2:Int) ^ (64 - s) * T = 18446744073709551616:=by rw [hVe,hTe,← Int.natCast_mul]; omega
    have hq0:0 ≤ lo / 2 ^ (64 - s):=Int.ediv_nonneg h3 (by omega)
    have hq1:lo / 2 ^ (64 - s) < T:=Int.ediv_lt_of_lt_mul hV (by rw [Int.mul_comm,hTV]; exact h4)
    have e1:bShl .u64 y (s:Int) = y * T:=by rw [bShl_eq hs64,hT,u64_id (by omega) hY2]
    have e2:bShl .u64 hi (s:Int) = hi * T:=by rw [bShl_eq hs64,hT,u64_id hhT (by omega)]
    have e3:bShr .u64 lo ((64 - s:Nat):Int) = lo / 2 ^ (64 - s):=bShr_eq (by omega)
    have e4:bOr .u64 (hi * T) (lo / 2 ^ (64 - s)) = hi * T + lo / 2 ^ (64 - s):=by
      rw [← hT]
      exact bOr_eq h0 hq0 (by rw [hT]; exact hq1) (by rw [hT]; omega)
    have e5:bShl .u64 lo (s:Int) = lo * T % 18446744073709551616:=by rw [bShl_eq hs64,hT,u64_mod]
    simp only [e1,e2,e3,e4,e5]
    have hlo:lo * T = lo / 2 ^ (64 - s) * 18446744073709551616 + lo * T % 18446744073709551616:=by
      have h5:=Int.mul_ediv_add_emod (lo * T) 18446744073709551616
      have h6:lo * T / 18446744073709551616 = lo / 2 ^ (64 - s):=by
        rw [← hTV]
        exact Int.mul_ediv_mul_of_pos_left _ _ hT0
      rw [h6] at h5
      omega
    have hN:(hi * 18446744073709551616 + lo) * T = (hi * T + lo / 2 ^ (64 - s)) * 18446744073709551616 + lo * T % 18446744073709551616:=by
      rw [Int.add_mul,Int.mul_right_comm]
      omega
    have hm0:=Int.emod_nonneg (lo * T) (show (18446744073709551616:Int) ≠ 0 by decide)
    have hm1:=Int.emod_lt_of_pos (lo * T) (show (0:Int) < 18446744073709551616 by decide)
    have hU0:0 ≤ hi * T + lo / 2 ^ (64 - s):=by omega
    have hU1:hi * T + lo / 2 ^ (64 - s) < y * T:=by omega
    obtain ⟨r1,r2⟩:=two_digits hT0 hy hN
    generalize hi * T + lo / 2 ^ (64 - s) = U at *
    generalize lo * T % 18446744073709551616 = W at *
    have t1:(2:Int) ^ 32 = 4294967296:=by decide
    have f1:bShr .u64 (y * T) 32 = y * T / 4294967296:=by rw [← t1]; exact bShr_eq (k:=32) (by omega)
    have f2:bAnd .u64 (y * T) 4294967295 = y * T % 4294967296:=bAnd32 (by omega) hY2
    have f3:bShr .u64 W 32 = W / 4294967296:=by rw [← t1]; exact bShr_eq (k:=32) (by omega)
    have f4:bAnd .u64 W 4294967295 = W % 4294967296:=bAnd32 hm0 hm1
    simp only [f1,f3,f4]
    generalize hYY:y * T = Y at *
    have hsum:Y = Y / 4294967296 * 4294967296 + Y % 4294967296:=by omega
    have hk1:=knuth (fun q r=>(q,r)) (qage lo y (s:Int)) (u:=U) (d:=W / 4294967296) (y1:=Y / 4294967296) (y0:=Y % 4294967296) (by omega) (by omega) (by omega) (by omega) (by omega) (by omega) hU0 (by omega) (by
      intro q r
      unfold qage
      simp only [hu1,e1,e5,f1,f2,f3])
    rw [← hsum] at hk1
    have est:∀ u:Int,0 ≤ u → u < 18446744073709551616 → u64 (u.tdiv (Y / 4294967296)) = u / (Y / 4294967296) ∧ u64 (u - u64 (u / (Y / 4294967296) * (Y / 4294967296))) = u % (Y / 4294967296):=by
      intro u hu hu'
      have g1:u / (Y / 4294967296) ≤ u:=Int.ediv_le_self _ hu
      have g2:=Int.ediv_nonneg hu (show 0 ≤ Y / 4294967296 by omega)
      have g3:=Int.mul_ediv_add_emod u (Y / 4294967296)
      have g4:=Int.emod_nonneg u (show Y / 4294967296 ≠ 0 by omega)
      have g6:0 ≤ u / (Y / 4294967296) * (Y / 4294967296):=Int.mul_nonneg g2 (by omega)
      rw [Int.mul_comm] at g3
      refine ⟨by rw [Int.tdiv_eq_ediv_of_nonneg hu,u64_id g2 (by omega)],?_⟩
      rw [u64_id (n:=u / (Y / 4294967296) * (Y / 4294967296)) g6 (by omega),u64_id (by omega) (by omega)]
      omega
    rw [chk_true (by simp),chk_true (by simp),chk_true (by simp; omega),(est U hU0 (by omega)).1,(est U hU0 (by omega)).2,hk1,Option.bind_some]
    have hA:=Int.mul_ediv_add_emod (U * 4294967296 + W / 4294967296) Y
    have hA0:=Int.emod_nonneg (U * 4294967296 + W / 4294967296) (show Y ≠ 0 by omega)
    have hA1:=Int.emod_lt_of_pos (U * 4294967296 + W / 4294967296) (show 0 < Y by omega)
    have hQ1:(U * 4294967296 + W / 4294967296) / Y < 4294967296:=Int.ediv_lt_of_lt_mul (by omega) (by omega)
    have hQ0:=Int.ediv_nonneg (show 0 ≤ U * 4294967296 + W / 4294967296 by omega) (show 0 ≤ Y by omega)
    rw [Int.mul_comm Y] at hA
    generalize hqa:(U * 4294967296 + W / 4294967296) / Y = qa at *
    generalize hra:(U * 4294967296 + W / 4294967296) % Y = ra at *
    have hrem:u64 (u64 (u64 (U * 4294967296) + W / 4294967296) - u64 (qa * Y)) = ra:=by
      simp only [u64_mod]
      omega
    rw [hrem]
    have hk2:=knuth (fun q r=>(r,q)) (qagf lo y (s:Int)) (u:=ra) (d:=W % 4294967296) (y1:=Y / 4294967296) (y0:=Y % 4294967296) (by omega) (by omega) (by omega) (by omega) (by omega) (by omega) hA0 (by omega) (by
      intro q r
      unfold qagf
      simp only [hu1,e1,e5,f1,f2,f4])
    rw [← hsum] at hk2
    rw [(est ra hA0 (by omega)).1,(est ra hA0 (by omega)).2,hk2,Option.bind_some]
    have hC:=Int.mul_ediv_add_emod (ra * 4294967296 + W % 4294967296) Y
    have hC0:=Int.emod_nonneg (ra * 4294967296 + W % 4294967296) (show Y ≠ 0 by omega)
    have hC1:=Int.emod_lt_of_pos (ra * 4294967296 + W % 4294967296) (show 0 < Y by omega)
    have hP1:(ra * 4294967296 + W % 4294967296) / Y < 4294967296:=Int.ediv_lt_of_lt_mul (by omega) (by omega)
    have hP0:=Int.ediv_nonneg (show 0 ≤ ra * 4294967296 + W % 4294967296 by omega) (show 0 ≤ Y by omega)
    rw [Int.mul_comm Y] at hC
    generalize hqc:(ra * 4294967296 + W % 4294967296) / Y = qc at *
    generalize hrc:(ra * 4294967296 + W % 4294967296) % Y = rc at *
    have hrem2:u64 (u64 (u64 (ra * 4294967296) + W % 4294967296) - u64 (qc * Y)) = rc:=by
      simp only [u64_mod]
      omega
    rw [hrem2,u64_id (n:=qa * 4294967296) (by omega) (by omega),u64_id (n:=qa * 4294967296 + qc) (by omega) (by omega),bShr_eq hs64,hT]
    rw [r1,r2,Int.mul_ediv_cancel _ (by omega)]
def cmp3 (a b:Int):Int:=if a < b then -1 else if b < a then 1 else 0
theorem compare_u (a b:Int):qagj a b = some (cmp3 a b):=by
  unfold qagj qagk cmp3
  by_cases h1:a < b
  · simp [h1]
  · by_cases h2:b < a <;> simp [h1,h2]
theorem compare_i (a b:Int):qagi a b = some (cmp3 a b):=by
  unfold qagi cmp_isNaN_int cmp3
  by_cases h1:a < b
  · simp [h1]
  · by_cases h2:b < a <;> simp [h1,h2]
theorem or2 (a b:Int):cmp_Or_int [a,b] = some (if a = 0 then b else a):=by
  unfold cmp_Or_int
  by_cases ha:a = 0
  · subst ha
    have s0:cmp_Or_int_l8 [0,b] 0 = some (.inl 1):=by
      simp [cmp_Or_int_l8,inb,ix,chk,w64,IntKind.wrap,IntKind.bits,IntKind.signed]
    rw [loopV_next s0]
    by_cases hb:b = 0
    · subst hb
      have s1:cmp_Or_int_l8 [0,0] 1 = some (.inl 2):=by
        simp [cmp_Or_int_l8,inb,ix,chk,w64,IntKind.wrap,IntKind.bits,IntKind.signed]
      have s2:cmp_Or_int_l8 [0,0] 2 = some (.inr (.inr ())):=by
        simp [cmp_Or_int_l8]
      rw [loopV_next s1,loopV_stop s2]
      simp
    · have s1:cmp_Or_int_l8 [0,b] 1 = some (.inr (.inl b)):=by
        simp [cmp_Or_int_l8,inb,ix,chk,hb]
      rw [loopV_stop s1]
      simp
  · have s0:cmp_Or_int_l8 [a,b] 0 = some (.inr (.inl a)):=by
      simp [cmp_Or_int_l8,inb,ix,chk,ha]
    rw [loopV_stop s0]
    simp [ha]
theorem c1_eq {rs:List Int} {x y:Int} (hx:inb rs x = true) (hy:inb rs y = true):qalj x y rs = some (if cmp3 (ix rs y) (ix rs x) = 0 then cmp3 x y else cmp3 (ix rs y) (ix rs x)):=by
  unfold qalj
  simp [hx,hy,chk,compare_u,compare_i,or2]
def beats (rs:List Int) (i j:Nat):Bool:=decide (rs.getD j 0 < rs.getD i 0) || (decide (rs.getD j 0 = rs.getD i 0) && decide (i < j))
theorem beats_iff {rs:List Int} {i j:Nat}:beats rs i j = true ↔ rs.getD j 0 < rs.getD i 0 ∨ (rs.getD j 0 = rs.getD i 0 ∧ i < j):=by simp [beats]
theorem beats_irr (rs:List Int) (i:Nat):beats rs i i = false:=by simp [beats]
theorem beats_asymm {rs:List Int} {i j:Nat} (h:beats rs i j = true):beats rs j i = false:=by
  rw [Bool.eq_false_iff]
  intro h2
  rw [beats_iff] at h h2
  omega
theorem beats_total {rs:List Int} {i j:Nat} (h:i ≠ j):beats rs i j = true ∨ beats rs j i = true:=by
  rw [beats_iff,beats_iff]
  omega
def rank (rs:List Int) (i:Nat):Nat:=(List.range rs.length).countP fun j=>beats rs j i
theorem sorted_rank {rs:List Int} {L:List Nat} (hp:L.Perm (List.range rs.length)) (hs:L.Pairwise fun i j=>beats rs i j = true) (k:Nat) (hk:k < L.length):rank rs L[k] = k:=by
  unfold rank
  rw [← hp.countP_eq]
  have e:L = L.take k ++ L[k] :: L.drop (k + 1):=by
    rw [← List.drop_eq_getElem_cons hk,List.take_append_drop]
  have hs2:=hs
  rw [e,List.pairwise_append,List.pairwise_cons] at hs2
  generalize L[k] = x at e hs2 ⊢
  rw [e,List.countP_append,List.countP_cons]
  have h1:(L.take k).countP (fun j=>beats rs j x) = k:=by
    have:(L.take k).countP (fun j=>beats rs j x) = (L.take k).length:=by
      rw [List.countP_eq_length]
      intro a ha
      exact hs2.2.2 a ha x (by simp)
    rw [this,List.length_take]
    omega
  have h2:(L.drop (k + 1)).countP (fun j=>beats rs j x) = 0:=by
    rw [List.countP_eq_zero]
    intro a ha
    simp [beats_asymm (hs2.2.1.1 a ha)]
  rw [h1,h2,beats_irr]
  simp
def fill (xs:List Int) (k:Nat):List Int:=xs.take k ++ List.replicate (xs.length - k) 0
theorem fill_length (xs:List Int) (k:Nat):(fill xs k).length = xs.length:=by simp [fill]; omega
theorem fill_zero (xs:List Int):fill xs 0 = List.replicate xs.length 0:=by simp [fill]
theorem fill_all (xs:List Int):fill xs xs.length = xs:=by simp [fill]
theorem upd_fill {xs:List Int} {k:Nat} (hk:k < xs.length):upd (fill xs k) (k:Int) xs[k] = fill xs (k + 1):=by
  simp only [upd,fill,Int.toNat_natCast]
  apply List.ext_getElem?
  intro i
  rw [List.getElem?_set]
  by_cases h:k = i
  · subst h
    rw [if_pos rfl,if_pos (by simp; omega),List.getElem?_append_left (by simp; omega),List.getElem?_take_of_lt (by omega)]
    simp [hk]
  · rw [if_neg h]
    by_cases h2:i < k
    · rw [List.getElem?_append_left (by simp; omega),List.getElem?_append_left (by simp; omega),List.getElem?_take_of_lt h2,List.getElem?_take_of_lt (by omega)]
    · rw [List.getElem?_append_right (by simp; omega),List.getElem?_append_right (by simp; omega)]
      simp only [List.length_take,List.getElem?_replicate]
      have h3:min k xs.length = k:=by omega
      have h4:min (k + 1) xs.length = k + 1:=by omega
      rw [h3,h4]
      by_cases h5:i - k < xs.length - k
      · rw [if_pos h5,if_pos (by omega)]
      · rw [if_neg h5,if_neg (by omega)]
def quos (a:Int) (l:List Int) (W:Int):List Int:=l.map fun w=>a * w / W
def rems (a:Int) (l:List Int) (W:Int):List Int:=l.map fun w=>a * w % W
def idxs (n:Nat):List Int:=(List.range n).map Int.ofNat
structure DivOk (a:Int) (l:List Int) (W:Int):Prop where
  a0:0 ≤ a
  a1:a ≤ 17592186044416
  l0:∀ w ∈ l,0 ≤ w ∧ w ≤ 17592186044416
  len:l.length ≤ 64
  sum:l.sum = W
  pos:0 < W
theorem sum_le {l:List Int} (h:∀ w ∈ l,0 ≤ w ∧ w ≤ 17592186044416):0 ≤ l.sum ∧ l.sum ≤ 17592186044416 * (l.length:Int):=by
  induction l with
  | nil=>simp
  | cons x l ih =>
    have h1:=ih fun w hw=>h w (List.mem_cons_of_mem _ hw)
    have h2:=h x (by simp)
    simp only [List.sum_cons,List.length_cons]
    omega
theorem mem_le_sum {l:List Int} (h:∀ w ∈ l,0 ≤ w ∧ w ≤ 17592186044416) {x:Int} (hx:x ∈ l):x ≤ l.sum:=by
  induction l with
  | nil=>cases hx
  | cons y l ih =>
    have h1:=sum_le fun w hw=>h w (List.mem_cons_of_mem y hw)
    have h2:=h y (by simp)
    simp only [List.sum_cons]
    rcases List.mem_cons.1 hx with rfl | hx
    · omega
    · have:=ih (fun w hw=>h w (List.mem_cons_of_mem _ hw)) hx
      omega
theorem quo_le {a w W:Int} (ha:0 ≤ a) (hw:w ≤ W) (hW:0 < W):a * w / W ≤ a:=by
  refine Int.ediv_le_of_le_mul hW ?_
  exact Int.mul_le_mul_of_nonneg_left hw ha
theorem div_step {a w W:Int} (ha:0 ≤ a) (ha1:a ≤ 17592186044416) (hw:0 ≤ w) (hw1:w ≤ 17592186044416) (hwW:w ≤ W) (hW:0 < W) (hW1:W < 18446744073709551616) :
    ((bits_Mul64 (u64 a) (u64 w)).bind fun r=>bits_Div64 r.1 r.2 (u64 W)) = some (a * w / W,a * w % W):=by
  rw [u64_id ha (by omega),u64_id hw (by omega),u64_id (Int.le_of_lt hW) hW1]
  unfold bits_Mul64 mul64V
  rw [if_pos (by omega),Option.bind_some]
  have h0:0 ≤ a * w:=Int.mul_nonneg ha hw
  have h1:a * w ≤ a * W:=Int.mul_le_mul_of_nonneg_left hwW ha
  have h2:a * W ≤ 17592186044416 * W:=Int.mul_le_mul_of_nonneg_right ha1 (by omega)
  rw [div64_ok (by omega) (Int.ediv_lt_of_lt_mul (by decide) (by omega)) hW1 (by omega) (by omega)]
  have h3:a * w / 18446744073709551616 * 18446744073709551616 + a * w % 18446744073709551616 = a * w:=by omega
  simp only [h3]
theorem quos_length (a:Int) (l:List Int) (W:Int):(quos a l W).length = l.length:=by simp [quos]
theorem rems_length (a:Int) (l:List Int) (W:Int):(rems a l W).length = l.length:=by simp [rems]
theorem idxs_length (n:Nat):(idxs n).length = n:=by simp [idxs]
theorem quos_sum_take (a:Int) (l:List Int) (W:Int) (k:Nat) (hk:k < l.length):((quos a l W).take (k + 1)).sum = ((quos a l W).take k).sum + (quos a l W)[k]'(by simpa [quos] using hk):=by
  rw [List.take_succ_eq_append_getElem (by simpa [quos] using hk),List.sum_append]
  simp
theorem quo_bounds {a:Int} {l:List Int} {W:Int} (h:DivOk a l W):∀ q ∈ quos a l W,0 ≤ q ∧ q ≤ 17592186044416:=by
  intro q hq
  obtain ⟨w,hw,rfl⟩:=List.mem_map.1 hq
  have h1:=h.l0 w hw
  refine ⟨Int.ediv_nonneg (Int.mul_nonneg h.a0 h1.1) (Int.le_of_lt h.pos),Int.le_trans (quo_le h.a0 (h.sum ▸ mem_le_sum h.l0 hw) h.pos) h.a1⟩
theorem fill_loop {a:Int} {l:List Int} {W:Int} (h:DivOk a l W) :
    loopV (qalk a l W) (List.replicate l.length 0,List.replicate l.length 0,List.replicate l.length 0,a,0) = some (quos a l W,rems a l W,idxs l.length,a - (quos a l W).sum):=by
  have hW:=sum_le h.l0
  have hlen:=h.len
  have hsum:=h.sum
  have hd:=loopV_done (step:=qalk a l W) (fun k=>(fill (quos a l W) k,fill (rems a l W) k,fill (idxs l.length) k,a - ((quos a l W).take k).sum,(k:Int))) l.length (quos a l W,rems a l W,idxs l.length,a - (quos a l W).sum) ?_ ?_
  · simpa [fill_zero,quos_length,rems_length,idxs_length] using hd
  · intro k hk
    have hkq:k < (quos a l W).length:=by simpa [quos] using hk
    have hkr:k < (rems a l W).length:=by simpa [rems] using hk
    have hki:k < (idxs l.length).length:=by simpa [idxs] using hk
    have hw:=h.l0 l[k] (List.getElem_mem hk)
    have hst:=div_step h.a0 h.a1 hw.1 hw.2 (hsum ▸ mem_le_sum h.l0 (List.getElem_mem hk)) h.pos (by omega)
    have eq:(quos a l W)[k] = a * l[k] / W:=by simp [quos]
    have er:(rems a l W)[k] = a * l[k] % W:=by simp [rems]
    have ei:(idxs l.length)[k] = (k:Int):=by simp [idxs]
    have hb:=quo_bounds h _ (List.getElem_mem hkq)
    have hsb:=sum_le (l:=(quos a l W).take k) fun q hq=>quo_bounds h q (List.mem_of_mem_take hq)
    have hsl:((quos a l W).take k).length ≤ 64:=by simp; omega
    have ha0:=h.a0
    have ha1:=h.a1
    have i0:inb l (k:Int) = true:=inb_nat hk
    have i1:inb (fill (quos a l W) k) (k:Int) = true:=inb_nat (by rw [fill_length]; exact hkq)
    have i2:inb (fill (rems a l W) k) (k:Int) = true:=inb_nat (by rw [fill_length]; exact hkr)
    have i3:inb (fill (idxs l.length) k) (k:Int) = true:=inb_nat (by rw [fill_length]; exact hki)
    have i4:inb (fill (quos a l W) (k + 1)) (k:Int) = true:=inb_nat (by rw [fill_length]; exact hkq)
    have u1:=upd_fill hkq
    have u2:=upd_fill hkr
    have u3:=upd_fill hki
    rw [eq] at u1 hb
    rw [er] at u2
    rw [ei] at u3
    have x4:ix (fill (quos a l W) (k + 1)) (k:Int) = a * l[k] / W:=by
      rw [ix_nat (by rw [fill_length]; exact hkq),← eq]
      simp only [fill]
      rw [List.getElem_append_left (by simp; omega)]
      simp
    have hm:∀ f:Int × Int → Option (((List Int) × (List Int) × (List Int) × Int × Int) ⊕ ((List Int) × (List Int) × (List Int) × Int)),((bits_Mul64 (u64 a) (u64 (ix l (k:Int)))).bind fun r=>(bits_Div64 r.1 r.2 (u64 W)).bind f) = f (a * l[k] / W,a * l[k] % W):=by
      intro f
      have:=congrArg (fun o=>o.bind f) hst
      simp only [Option.bind_assoc,Option.bind_some] at this
      rw [ix_nat hk]
      exact this
    unfold qalk
    simp only
    rw [if_pos (by simp; omega),chk_true i0,hm]
    simp only [w64_id (n:=a * l[k] / W) (by omega) (by omega)]
    rw [chk_true i1,chk_true i2,chk_true i3,u1,u2,u3,chk_true i4,x4,w64_id (by omega) (by omega),w64_id (by omega) (by omega),quos_sum_take a l W k hk,eq]
    congr 6
    all_goals omega
  · unfold qalk
    simp only
    rw [if_neg (by simp)]
    have e1:fill (quos a l W) l.length = quos a l W:=by rw [← quos_length a l W]; exact fill_all _
    have e2:fill (rems a l W) l.length = rems a l W:=by rw [← rems_length a l W]; exact fill_all _
    have e3:fill (idxs l.length) l.length = idxs l.length:=by
      have:=fill_all (idxs l.length)
      rwa [idxs_length] at this
    rw [e1,e2,e3,List.take_of_length_le (by simp [quos])]
def given (qs rs:List Int) (k:Nat):List Int:=(List.range qs.length).map fun i=>qs.getD i 0 + if rank rs i < k then 1 else 0
theorem given_length (qs rs:List Int) (k:Nat):(given qs rs k).length = qs.length:=by simp [given]
theorem given_zero (qs rs:List Int):given qs rs 0 = qs:=by
  apply List.ext_getElem
  · simp [given]
  · intro i h1 h2
    simp [given,h2]
theorem given_at {qs rs:List Int} {k i:Nat} (hi:i < qs.length):(given qs rs k)[i]'(by rw [given_length]; exact hi) = qs[i] + if rank rs i < k then 1 else 0:=by simp [given,hi]
theorem given_step {qs rs:List Int} {k i:Nat} (hl:qs.length = rs.length) (hi:i < qs.length) (hr:rank rs i = k) (hinj:∀ j,j < rs.length → rank rs j = k → j = i):(given qs rs k).set i (qs[i] + 1) = given qs rs (k + 1):=by
  apply List.ext_getElem
  · simp [given]
  · intro j h1 h2
    rw [given_length] at h2
    rw [List.getElem_set,given_at (k:=k + 1) h2]
    by_cases h:i = j
    · subst h
      rw [if_pos rfl,if_pos (by omega)]
    · rw [if_neg h,given_at h2]
      have:rank rs j ≠ k:=fun e=>h (hinj j (by omega) e).symm
      by_cases h3:rank rs j < k
      · rw [if_pos h3,if_pos (by omega)]
      · rw [if_neg h3,if_neg (by omega)]
theorem c1_nat {rs:List Int} {i j:Nat} (hi:i < rs.length) (hj:j < rs.length):∃ r,qalj (i:Int) (j:Int) rs = some r ∧ (r < 0 ↔ beats rs i j = true):=by
  refine ⟨_,c1_eq (inb_nat hi) (inb_nat hj),?_⟩
  rw [ix_nat hi,ix_nat hj,beats_iff]
  have e1:rs.getD i 0 = rs[i]:=by simp [hi]
  have e2:rs.getD j 0 = rs[j]:=by simp [hj]
  rw [e1,e2]
  unfold cmp3
  by_cases h1:rs[j] < rs[i]
  · simp [h1]
  · by_cases h2:rs[i] < rs[j]
    · simp [h1,h2]
      omega
    · have h3:rs[j] = rs[i]:=by omega
      by_cases h4:i < j
      · simp [h3,h4]
      · by_cases h5:j < i <;> simp [h3,h4,h5]
theorem c1_val {rs:List Int} {i j:Nat} (hi:i < rs.length) (hj:j < rs.length) {r:Int} (h:qalj (i:Int) (j:Int) rs = some r):r < 0 ↔ beats rs i j = true:=by
  obtain ⟨r',h1,h2⟩:=c1_nat hi hj
  rw [h] at h1
  cases h1
  exact h2
theorem idxs_mem {n:Nat} {x:Int} (h:x ∈ idxs n):∃ i:Nat,i < n ∧ x = (i:Int):=by
  obtain ⟨i,hi,rfl⟩:=List.mem_map.1 h
  exact ⟨i,List.mem_range.1 hi,rfl⟩
theorem orders_idxs {rs:List Int} (hn:rs.length ≤ 1000000):Orders (fun x y=>qalj x y rs) (idxs rs.length) where
  len:=by rw [idxs_length]; omega
  def_ x hx y hy:=by
    obtain ⟨i,hi,rfl⟩:=idxs_mem hx
    obtain ⟨j,hj,rfl⟩:=idxs_mem hy
    obtain ⟨r,hr,_⟩:=c1_nat hi hj
    exact ⟨r,hr⟩
  irr x hx r hr:=by
    obtain ⟨i,hi,rfl⟩:=idxs_mem hx
    rw [c1_val hi hi hr,beats_irr]
    simp
  trans x hx y hy z hz r s t h1 h2 h3:=by
    obtain ⟨i,hi,rfl⟩:=idxs_mem hx
    obtain ⟨j,hj,rfl⟩:=idxs_mem hy
    obtain ⟨k,hk,rfl⟩:=idxs_mem hz
    rw [c1_val hi hj h1,c1_val hj hk h2,c1_val hi hk h3,beats_iff,beats_iff,beats_iff]
    omega
  ntrans x hx y hy z hz r s t h1 h2 h3:=by
    obtain ⟨i,hi,rfl⟩:=idxs_mem hx
    obtain ⟨j,hj,rfl⟩:=idxs_mem hy
    obtain ⟨k,hk,rfl⟩:=idxs_mem hz
    rw [c1_val hi hj h1,c1_val hj hk h2,c1_val hi hk h3,beats_iff,beats_iff,beats_iff]
    omega
theorem sorted_idxs {rs:List Int} (hn:rs.length ≤ 1000000):∃ L:List Nat,qalf (idxs rs.length) rs = some (L.map Int.ofNat) ∧ L.Perm (List.range rs.length) ∧ L.Pairwise fun i j=>beats rs i j = true:=by
  obtain ⟨ys,h1,h2,h3⟩:=sortV_ok (orders_idxs hn)
  have hmem:∀ y ∈ ys,∃ i:Nat,i < rs.length ∧ y = (i:Int):=fun y hy=>idxs_mem (h2.mem_iff.1 hy)
  have hmap:(ys.map Int.toNat).map Int.ofNat = ys:=by
    rw [List.map_map]
    conv=>rhs; rw [← List.map_id ys]
    apply List.map_congr_left
    intro y hy
    obtain ⟨i,_,rfl⟩:=hmem y hy
    rfl
  have hp:(ys.map Int.toNat).Perm (List.range rs.length):=by
    have:=h2.map Int.toNat
    have e:(idxs rs.length).map Int.toNat = List.range rs.length:=by
      simp only [idxs,List.map_map]
      conv=>rhs; rw [← List.map_id (List.range rs.length)]
      rfl
    rwa [e] at this
  refine ⟨ys.map Int.toNat,by rw [hmap]; exact h1,hp,?_⟩
  have hnd:(ys.map Int.toNat).Nodup:=hp.nodup_iff.2 List.nodup_range
  rw [List.pairwise_map]
  rw [List.Nodup,List.pairwise_map] at hnd
  refine (List.Pairwise.and hnd h3).imp_of_mem ?_
  intro a b ha hb hab
  obtain ⟨i,hi,rfl⟩:=hmem a ha
  obtain ⟨j,hj,rfl⟩:=hmem b hb
  obtain ⟨r,hr,hr2⟩:=c1_nat hj hi
  have h4:=hab.2 r hr
  simp only [Int.toNat_natCast] at hab ⊢
  rcases beats_total (rs:=rs) hab.1 with h5 | h5
  · exact h5
  · exact absurd (hr2.2 h5) h4
def leftOf (a:Int) (l:List Int) (W:Int):Int:=a - (quos a l W).sum
theorem rems_sum (a:Int) (l:List Int) (W:Int):a * l.sum = W * (quos a l W).sum + (rems a l W).sum:=by
  induction l with
  | nil=>simp [quos,rems]
  | cons w l ih =>
    simp only [quos,rems,List.map_cons,List.sum_cons] at ih ⊢
    have:=Int.mul_ediv_add_emod (a * w) W
    rw [Int.mul_add,Int.mul_add]
    omega
theorem rems_bounds {a:Int} {l:List Int} {W:Int} (hW:0 < W):0 ≤ (rems a l W).sum ∧ (rems a l W).sum ≤ (W - 1) * (l.length:Int):=by
  induction l with
  | nil=>simp [rems]
  | cons w l ih =>
    simp only [rems,List.map_cons,List.sum_cons,List.length_cons] at ih ⊢
    have h1:=Int.emod_nonneg (a * w) (show W ≠ 0 by omega)
    have h2:=Int.emod_lt_of_pos (a * w) hW
    have h3:(W - 1) * ((l.length + 1:Nat):Int) = (W - 1) * (l.length:Int) + (W - 1):=by
      rw [Int.natCast_add,Int.mul_add]
      simp
    omega
theorem left_bounds {a:Int} {l:List Int} {W:Int} (h:DivOk a l W):0 ≤ leftOf a l W ∧ leftOf a l W ≤ (l.length:Int):=by
  have h1:=rems_sum a l W
  have h2:=rems_bounds (a:=a) (l:=l) h.pos
  rw [h.sum] at h1
  have h3:W * leftOf a l W = (rems a l W).sum:=by
    unfold leftOf
    rw [Int.mul_sub,Int.mul_comm W a]
    omega
  have hp:=h.pos
  constructor
  · refine Int.not_lt.1 fun hn=>?_
    have:=Int.mul_le_mul_of_nonneg_left (show leftOf a l W ≤ -1 by omega) (Int.le_of_lt hp)
    omega
  · refine Int.not_lt.1 fun hn=>?_
    have:=Int.mul_le_mul_of_nonneg_left (show (l.length:Int) + 1 ≤ leftOf a l W by omega) (Int.le_of_lt hp)
    rw [Int.mul_add,Int.mul_one] at this
    rw [Int.sub_mul,Int.one_mul] at h2
    omega
def splitD (a:Int) (l:List Int) (W:Int):List Int:=given (quos a l W) (rems a l W) (leftOf a l W).toNat
theorem give_loop {a:Int} {l:List Int} {W:Int} (h:DivOk a l W) {L:List Nat} (hp:L.Perm (List.range (rems a l W).length)) (hs:L.Pairwise fun i j=>beats (rems a l W) i j = true) :
    loopV (qall (quos a l W,rems a l W,idxs l.length,leftOf a l W) (L.map Int.ofNat)) (quos a l W,0) = some (splitD a l W):=by
  obtain ⟨hb0,hb1⟩:=left_bounds h
  have hlen:=h.len
  have hL:L.length = l.length:=by rw [hp.length_eq,List.length_range,rems_length]
  obtain ⟨k,hk⟩:=Int.eq_ofNat_of_zero_le hb0
  have hk':(leftOf a l W).toNat = k:=by omega
  have hkn:k ≤ l.length:=by omega
  have htl:((L.map Int.ofNat).take k).length = k:=by simp; omega
  have hd:=loopV_done (step:=qall (quos a l W,rems a l W,idxs l.length,leftOf a l W) (L.map Int.ofNat)) (fun j=>(given (quos a l W) (rems a l W) j,(j:Int))) k (splitD a l W) ?_ ?_
  · simpa [given_zero] using hd
  · intro j hj
    have hjL:j < L.length:=by omega
    have hm:L[j] < l.length:=by
      have:=hp.mem_iff.1 (List.getElem_mem hjL)
      simpa [rems_length] using this
    have hr:=sorted_rank hp hs j hjL
    have hinj:∀ i,i < (rems a l W).length → rank (rems a l W) i = j → i = L[j]:=by
      intro i hi hri
      have hi2:i ∈ L:=hp.mem_iff.2 (List.mem_range.2 hi)
      obtain ⟨m,hm1,rfl⟩:=List.getElem_of_mem hi2
      have:=sorted_rank hp hs m hm1
      have:m = j:=by omega
      subst this
      rfl
    have hq:L[j] < (quos a l W).length:=by rw [quos_length]; exact hm
    have hg:=given_step (qs:=quos a l W) (by rw [quos_length,rems_length]) hq hr hinj
    have hqb:=quo_bounds h _ (List.getElem_mem hq)
    unfold qall
    simp only [hk']
    have hx:ix ((L.map Int.ofNat).take k) (j:Int) = (L[j]:Int):=by
      rw [ix_nat (by rw [htl]; exact hj)]
      simp
    rw [if_pos (by simp; omega),chk_true (inb_nat (by rw [htl]; exact hj)),hx,chk_true (inb_nat (by rw [given_length]; exact hq)),ix_nat (by rw [given_length]; exact hq),given_at hq,hr,if_neg (by omega),w64_id (by omega) (by omega),w64_id (by omega) (by omega)]
    simp only [upd,Int.toNat_natCast,Int.add_zero,hg]
    rfl
  · unfold qall
    simp only [hk']
    rw [if_neg (by simp; omega)]
    unfold splitD
    rw [hk']
theorem divide_ok {a:Int} {l:List Int} {W:Int} (h:DivOk a l W):split_divide a l W = some (splitD a l W):=by
  have hlen:=h.len
  obtain ⟨hb0,hb1⟩:=left_bounds h
  unfold split_divide
  rw [chk_true (by simp),chk_true (by simp; omega)]
  simp only [Int.toNat_natCast]
  rw [fill_loop h,Option.bind_some]
  simp only
  obtain ⟨L,h1,h2,h3⟩:=sorted_idxs (rs:=rems a l W) (by rw [rems_length]; omega)
  rw [rems_length] at h1
  have hL:L.length = l.length:=by rw [h2.length_eq,List.length_range,rems_length]
  rw [h1,Option.bind_some,show a - (quos a l W).sum = leftOf a l W from rfl,chk_true (by simpa using hb0),chk_true (by simp [hL]; omega),give_loop h h2 h3]
  rfl
def okW (w:Int):Bool:=decide (0 ≤ w) && decide (w ≤ 17592186044416)
theorem okW_iff {w:Int}:okW w = true ↔ 0 ≤ w ∧ w ≤ 17592186044416:=by simp [okW]
theorem inRange_eq {l:List Int} (hl:l.length ≤ 1000000):split_inRange l = some (l.all okW):=by
  have main:∀ (n k:Nat),n + k = l.length → (loopV (qalm l) (k:Int)) = some (if (l.drop k).all okW then .inr () else .inl false):=by
    intro n
    induction n with
    | zero =>
      intro k hk
      have s:qalm l (k:Int) = some (.inr (.inr ())):=by
        unfold qalm
        rw [if_neg (by simp; omega)]
      rw [loopV_stop s,List.drop_eq_nil_of_le (by omega)]
      rfl
    | succ n ih =>
      intro k hk
      have hkl:k < l.length:=by omega
      have e:l.drop k = l[k] :: l.drop (k + 1):=List.drop_eq_getElem_cons hkl
      by_cases hw:okW l[k] = true
      · have hw':=okW_iff.1 hw
        have s:qalm l (k:Int) = some (.inl ((k + 1:Nat):Int)):=by
          unfold qalm
          rw [if_pos (by simp; omega),chk_true (inb_nat hkl),ix_nat hkl,if_neg (by simp; omega),w64_id (by omega) (by omega)]
          rfl
        rw [loopV_next s,ih (k + 1) (by omega),e,List.all_cons,hw,Bool.true_and]
      · have s:qalm l (k:Int) = some (.inr (.inl false)):=by
          unfold qalm
          rw [if_pos (by simp; omega),chk_true (inb_nat hkl),ix_nat hkl,if_pos]
          rw [okW_iff] at hw
          simp
          omega
        rw [loopV_stop s,e,List.all_cons,Bool.eq_false_iff.2 hw,Bool.false_and]
        rfl
  unfold split_inRange
  have:=main l.length 0 (by omega)
  rw [Int.ofNat_zero] at this
  rw [this]
  simp only [List.drop_zero]
  by_cases h:l.all okW = true
  · simp [h]
  · simp only [h]
    simp
theorem total_eq {l:List Int} (hl:l.length ≤ 1000) (h:∀ w ∈ l,0 ≤ w ∧ w ≤ 17592186044416):split_total l = some l.sum:=by
  unfold split_total
  have hd:=loopV_done (step:=qaln l) (fun k=>((l.take k).sum,(k:Int))) l.length l.sum ?_ ?_
  · have hd':loopV (qaln l) (0,0) = some l.sum:=by simpa using hd
    rw [hd']
    rfl
  · intro k hk
    have hs:=sum_le (l:=l.take k) fun q hq=>h q (List.mem_of_mem_take hq)
    have hsl:(l.take k).length ≤ 1000:=by simp; omega
    have hw:=h l[k] (List.getElem_mem hk)
    unfold qaln
    simp only
    rw [if_pos (by simp; omega),chk_true (inb_nat hk),ix_nat hk,w64_id (by omega) (by omega),w64_id (by omega) (by omega),List.take_succ_eq_append_getElem hk,List.sum_append]
    simp
  · unfold qaln
    simp
theorem negate_loop {p:List Int} (hl:p.length ≤ 1000000) (h:∀ x ∈ p,-1000000000000000 ≤ x ∧ x ≤ 1000000000000000) (step:List Int × Int → Option ((List Int × Int) ⊕ List Int))
    (hstep:∀ q k,step (q,k) = if (decide (k < (p.length:Int))) = true then (chk (inb q k) <| some (.inl ((upd q k (w64 (0 - (ix q k)))),(w64 (k + 1))))) else (some (.inr q))):loopV step (p,0) = some (p.map fun x=>-x):=by
  have hd:=loopV_done (step:=step) (fun k=>((p.take k).map (fun x=>-x) ++ p.drop k,(k:Int))) p.length (p.map fun x=>-x) ?_ ?_
  · simpa using hd
  · intro k hk
    have hb:=h p[k] (List.getElem_mem hk)
    have e:p.drop k = p[k] :: p.drop (k + 1):=List.drop_eq_getElem_cons hk
    have hlen:((p.take k).map (fun x=>-x)).length = k:=by simp; omega
    have hin:k < ((p.take k).map (fun x=>-x) ++ p.drop k).length:=by simp; omega
    rw [hstep,if_pos (by simp; omega),chk_true (inb_nat hin),ix_nat hin,List.getElem_append_right (by omega)]
    simp only [hlen,Nat.sub_self]
    have e2:(p.drop k)[0]'(by simp; omega) = p[k]:=by simp
    rw [e2,w64_id (by omega) (by omega),w64_id (by omega) (by omega)]
    simp only [upd,Int.toNat_natCast]
    rw [List.set_append_right _ _ (by omega),hlen,e,Nat.sub_self,List.set_cons_zero,List.take_succ_eq_append_getElem hk,List.map_append,List.append_assoc,Int.zero_sub]
    rfl
  · simp only [hstep]
    simp
def splitS (a:Int) (l:List Int):List Int × Int :=
  if l.length = 0 then ([],19) else if 64 < l.length then ([],4) else if ¬ (-17592186044416 ≤ a ∧ a ≤ 17592186044416) ∨ l.all okW = false then ([],1) else if l.sum = 0 then ([],2) else if 0 ≤ a then (splitD a l l.sum,0) else ((splitD (-a) l l.sum).map (fun x=>-x),0)
theorem all_okW {l:List Int} (h:l.all okW = true):∀ w ∈ l,0 ≤ w ∧ w ≤ 17592186044416:=fun w hw=>okW_iff.1 (List.all_eq_true.1 h w hw)
theorem splitD_bounds {a:Int} {l:List Int} {W:Int} (h:DivOk a l W):∀ x ∈ splitD a l W,0 ≤ x ∧ x ≤ 17592186044417:=by
  intro x hx
  obtain ⟨i,hi,rfl⟩:=List.mem_map.1 hx
  have hi':=List.mem_range.1 hi
  have hq:=quo_bounds h _ (List.getElem_mem hi')
  have e:(quos a l W).getD i 0 = (quos a l W)[i]:=by simp [hi']
  rw [e]
  split <;> omega
theorem splitD_length (a:Int) (l:List Int) (W:Int):(splitD a l W).length = l.length:=by rw [splitD,given_length,quos_length]
theorem split_eq (a:Int) (l:List Int):split_Split a l = some (splitS a l):=by
  unfold split_Split splitS
  by_cases h0:l.length = 0
  · rw [if_pos (by simp [h0]),if_pos h0]
  · rw [if_neg (by simpa using h0),if_neg h0]
    by_cases h1:64 < l.length
    · rw [if_pos (by simp; omega),if_pos h1]
    · rw [if_neg (by simp; omega),if_neg h1]
      unfold amount_Valid
      rw [Option.bind_some,inRange_eq (by omega)]
      by_cases hv : -17592186044416 ≤ a ∧ a ≤ 17592186044416
      · have e1:(decide (-17592186044416 ≤ a) && decide (a ≤ 17592186044416)) = true:=by simp [hv]
        rw [e1]
        by_cases hr:l.all okW = true
        · have hw:=all_okW hr
          have hs:=sum_le hw
          rw [hr,total_eq (by omega) hw]
          simp only [Bool.not_true,Bool.false_eq_true,if_false,Option.bind_some,hv,and_self,not_true_eq_false,Bool.true_eq_false,or_self]
          by_cases hz:l.sum = 0
          · simp [hz]
          · rw [if_neg (by simpa using hz),if_neg hz]
            by_cases ha:0 ≤ a
            · rw [if_pos (by simpa using ha),if_pos ha,divide_ok ⟨ha,hv.2,hw,by omega,rfl,by omega⟩]
              rfl
            · have hd:DivOk (-a) l l.sum:=⟨by omega,by omega,hw,by omega,rfl,by omega⟩
              rw [if_neg (by simpa using ha),if_neg ha,w64_id (by omega) (by omega),Int.zero_sub,divide_ok hd,Option.bind_some]
              rw [negate_loop (p:=splitD (-a) l l.sum) (by rw [splitD_length]; omega) (fun x hx=>by have:=splitD_bounds hd x hx; omega) (qali (splitD (-a) l l.sum)) (fun q k=>rfl)]
              rfl
        · have hr':=Bool.eq_false_iff.2 hr
          simp [hr']
      · have e1:(decide (-17592186044416 ≤ a) && decide (a ≤ 17592186044416)) = false:=by
          simp
          omega
        rw [e1]
        simp [hv]
theorem perm_sum {a b:List Int} (h:a.Perm b):a.sum = b.sum:=by
  induction h with
  | nil=>rfl
  | cons x _ ih=>rw [List.sum_cons,List.sum_cons,ih]
  | swap x y l=>simp only [List.sum_cons]; omega
  | trans _ _ h1 h2=>exact h1.trans h2
theorem sum_ones {α:Type} (f:α → Int) (p:α → Bool) (l:List α):(l.map fun i=>f i + if p i = true then 1 else 0).sum = (l.map f).sum + (l.countP p:Int):=by
  induction l with
  | nil=>rfl
  | cons x l ih =>
    simp only [List.map_cons,List.sum_cons,ih,List.countP_cons]
    by_cases h:p x = true
    · simp [h]; omega
    · simp [h]; omega
theorem range_getD (qs:List Int):(List.range qs.length).map (fun i=>qs.getD i 0) = qs:=by
  apply List.ext_getElem
  · simp
  · intro i h1 h2
    simp [h2]
theorem ranked {rs:List Int} (hn:rs.length ≤ 1000000):∃ L:List Nat,L.Perm (List.range rs.length) ∧ (L.Pairwise fun i j=>beats rs i j = true):=by
  obtain ⟨L,_,h1,h2⟩:=sorted_idxs hn
  exact ⟨L,h1,h2⟩
theorem rank_count {rs:List Int} (hn:rs.length ≤ 1000000) {k:Nat} (hk:k ≤ rs.length):(List.range rs.length).countP (fun i=>decide (rank rs i < k)) = k:=by
  obtain ⟨L,hp,hs⟩:=ranked hn
  have hL:L.length = rs.length:=by rw [hp.length_eq,List.length_range]
  rw [← hp.countP_eq]
  conv=>lhs; rw [← List.take_append_drop k L]
  rw [List.countP_append]
  have h1:(L.take k).countP (fun i=>decide (rank rs i < k)) = k:=by
    have:(L.take k).countP (fun i=>decide (rank rs i < k)) = (L.take k).length:=by
      rw [List.countP_eq_length]
      intro a ha
      obtain ⟨m,hm,rfl⟩:=List.getElem_of_mem ha
      have hm':m < k:=by simp at hm; omega
      rw [List.getElem_take,sorted_rank hp hs m (by omega)]
      simpa using hm'
    rw [this,List.length_take]
    omega
  have h2:(L.drop k).countP (fun i=>decide (rank rs i < k)) = 0:=by
    rw [List.countP_eq_zero]
    intro a ha
    obtain ⟨m,hm,rfl⟩:=List.getElem_of_mem ha
    rw [List.length_drop] at hm
    rw [List.getElem_drop,sorted_rank hp hs (k + m) (by omega)]
    simp
  omega
theorem splitD_sum {a:Int} {l:List Int} {W:Int} (h:DivOk a l W):(splitD a l W).sum = a:=by
  obtain ⟨hb0,hb1⟩:=left_bounds h
  have hlen:=h.len
  have e:=sum_ones (fun i=>(quos a l W).getD i 0) (fun i=>decide (rank (rems a l W) i < (leftOf a l W).toNat)) (List.range (quos a l W).length)
  rw [range_getD] at e
  have e2:(splitD a l W).sum = ((List.range (quos a l W).length).map fun i=>(quos a l W).getD i 0 + if decide (rank (rems a l W) i < (leftOf a l W).toNat) = true then 1 else 0).sum:=by
    simp only [splitD,given,decide_eq_true_eq]
  rw [e2,e]
  have hr:=rank_count (rs:=rems a l W) (by rw [rems_length]; omega) (k:=(leftOf a l W).toNat) (by rw [rems_length]; omega)
  rw [quos_length,← rems_length a l W,hr]
  unfold leftOf at *
  omega
theorem rank_rem {a:Int} {l:List Int} {W:Int} (h:DivOk a l W) {i:Nat} (hi:i < l.length) (hr:rank (rems a l W) i < (leftOf a l W).toNat):0 < (rems a l W).getD i 0:=by
  obtain ⟨hb0,hb1⟩:=left_bounds h
  have hlen:=h.len
  have hp:=h.pos
  refine Int.not_le.1 fun hz=>?_
  obtain ⟨L,hL,hs⟩:=ranked (rs:=rems a l W) (by rw [rems_length]; omega)
  have hLn:L.length = l.length:=by rw [hL.length_eq,List.length_range,rems_length]
  have hi2:i ∈ L:=hL.mem_iff.2 (List.mem_range.2 (by rw [rems_length]; exact hi))
  obtain ⟨m,hm,rfl⟩:=List.getElem_of_mem hi2
  rw [sorted_rank hL hs m hm] at hr
  have hrb:∀ j,(rems a l W).getD j 0 ≤ W - 1 ∧ 0 ≤ (rems a l W).getD j 0:=fun j=>by
    by_cases hj:j < l.length
    · simp only [rems,List.getD_eq_getElem?_getD,List.getElem?_map]
      simp [hj]
      have h1:=Int.emod_nonneg (a * l[j]) (show W ≠ 0 by omega)
      have h2:=Int.emod_lt_of_pos (a * l[j]) hp
      omega
    · have:(rems a l W).getD j 0 = 0:=by
        simp only [rems,List.getD_eq_getElem?_getD,List.getElem?_map]
        simp [Nat.le_of_not_lt hj]
      omega
  have hsum:(rems a l W).sum = (L.map fun i=>(rems a l W).getD i 0).sum:=by
    conv=>lhs; rw [← range_getD (rems a l W)]
    exact (perm_sum (hL.map _)).symm
  have h1:=rems_sum a l W
  rw [h.sum] at h1
  have h3:W * leftOf a l W = (rems a l W).sum:=by
    unfold leftOf
    rw [Int.mul_sub,Int.mul_comm W a]
    omega
  have hle:∀ M:List Nat,(M.map fun i=>(rems a l W).getD i 0).sum ≤ (W - 1) * (M.length:Int):=by
    intro M
    induction M with
    | nil=>simp
    | cons x M ih =>
      have:=hrb x
      have e3:(W - 1) * ((M.length + 1:Nat):Int) = (W - 1) * (M.length:Int) + (W - 1):=by
        rw [Int.natCast_add,Int.mul_add]
        simp
      simp only [List.map_cons,List.sum_cons,List.length_cons]
      omega
  have hzero:∀ M:List Nat,(∀ j ∈ M,(rems a l W).getD j 0 ≤ 0) → (M.map fun i=>(rems a l W).getD i 0).sum ≤ 0:=by
    intro M
    induction M with
    | nil=>simp
    | cons x M ih =>
      intro hM
      have:=hM x (by simp)
      have:=ih fun j hj=>hM j (List.mem_cons_of_mem _ hj)
      simp only [List.map_cons,List.sum_cons]
      omega
  have hA:=hle (L.take m)
  have hB:=hzero (L.drop m) (fun j hj=>by
    obtain ⟨q,hq,rfl⟩:=List.getElem_of_mem hj
    rw [List.length_drop] at hq
    rw [List.getElem_drop]
    rcases Nat.eq_zero_or_pos q with rfl | hq0
    · exact hz
    · have:=List.pairwise_iff_getElem.1 hs m (m + q) hm (by omega) (by omega)
      rw [beats_iff] at this
      omega)
  have hAB:(rems a l W).sum = ((L.take m).map fun i=>(rems a l W).getD i 0).sum + ((L.drop m).map fun i=>(rems a l W).getD i 0).sum:=by
    rw [hsum,← List.sum_append,← List.map_append,List.take_append_drop]
  have hml:(L.take m).length = m:=by simp; omega
  rw [hml] at hA
  have hm1:(m:Int) + 1 ≤ leftOf a l W:=by omega
  have h5:=Int.mul_le_mul_of_nonneg_left hm1 (Int.le_of_lt hp)
  rw [Int.mul_add,Int.mul_one] at h5
  rw [Int.sub_mul,Int.one_mul] at hA
  omega
theorem splitD_at {a:Int} {l:List Int} {W:Int} {i:Nat} (hi:i < l.length):(splitD a l W)[i]'(by rw [splitD_length]; exact hi) = a * l[i] / W + if rank (rems a l W) i < (leftOf a l W).toNat then 1 else 0:=by
  have:=given_at (qs:=quos a l W) (rs:=rems a l W) (k:=(leftOf a l W).toNat) (i:=i) (by rw [quos_length]; exact hi)
  simp only [splitD,this]
  simp [quos]
theorem rems_at {a:Int} {l:List Int} {W:Int} {i:Nat} (hi:i < l.length):(rems a l W).getD i 0 = a * l[i] % W:=by
  simp only [rems,List.getD_eq_getElem?_getD,List.getElem?_map]
  simp [hi]
theorem splitD_near {a:Int} {l:List Int} {W:Int} (h:DivOk a l W) {i:Nat} (hi:i < l.length) : -W < (splitD a l W)[i]'(by rw [splitD_length]; exact hi) * W - a * l[i] ∧ (splitD a l W)[i]'(by rw [splitD_length]; exact hi) * W - a * l[i] < W:=by
  have hp:=h.pos
  rw [splitD_at hi]
  have h1:=Int.mul_ediv_add_emod (a * l[i]) W
  have h2:=Int.emod_nonneg (a * l[i]) (show W ≠ 0 by omega)
  have h3:=Int.emod_lt_of_pos (a * l[i]) hp
  rw [Int.add_mul,Int.mul_comm _ W]
  by_cases hr:rank (rems a l W) i < (leftOf a l W).toNat
  · have:=rank_rem h hi hr
    rw [rems_at hi] at this
    rw [if_pos hr,Int.one_mul]
    omega
  · rw [if_neg hr,Int.zero_mul]
    omega
structure SOk (a:Int) (l:List Int):Prop where
  a0 : -17592186044416 ≤ a
  a1:a ≤ 17592186044416
  l0:∀ w ∈ l,0 ≤ w ∧ w ≤ 17592186044416
  len:l.length ≤ 64
  pos:0 < l.sum
def partsS (a:Int) (l:List Int):List Int:=if 0 ≤ a then splitD a l l.sum else (splitD (-a) l l.sum).map (fun x=>-x)
theorem SOk.pos_div {a:Int} {l:List Int} (h:SOk a l) (ha:0 ≤ a):DivOk a l l.sum:=⟨ha,h.a1,h.l0,h.len,rfl,h.pos⟩
theorem SOk.neg_div {a:Int} {l:List Int} (h:SOk a l) (ha:¬ 0 ≤ a):DivOk (-a) l l.sum:=⟨by omega,by have:=h.a0; omega,h.l0,h.len,rfl,h.pos⟩
theorem splitS_ok {a:Int} {l:List Int} (h:SOk a l):splitS a l = (partsS a l,0):=by
  have hp:=h.pos
  have hl:=h.len
  have h0:=h.a0
  have h1:=h.a1
  unfold splitS partsS
  have hne:l.length ≠ 0:=by
    intro e
    have:l = []:=List.eq_nil_of_length_eq_zero e
    rw [this] at hp
    simp at hp
  have hall:l.all okW = true:=List.all_eq_true.2 fun w hw=>okW_iff.2 (h.l0 w hw)
  rw [if_neg hne,if_neg (by omega),if_neg (by rw [hall]; simp; omega),if_neg (by omega)]
  split <;> rfl
theorem partsS_length (a:Int) (l:List Int):(partsS a l).length = l.length:=by
  unfold partsS
  split <;> simp [splitD_length]
theorem neg_sum (l:List Int):(l.map fun x=>-x).sum = -l.sum:=by
  induction l with
  | nil=>rfl
  | cons x l ih=>simp only [List.map_cons,List.sum_cons,ih]; omega
theorem partsS_sum {a:Int} {l:List Int} (h:SOk a l):(partsS a l).sum = a:=by
  unfold partsS
  split
  · rename_i ha; exact splitD_sum (h.pos_div ha)
  · rename_i ha
    rw [neg_sum,splitD_sum (h.neg_div ha)]
    omega
structure DOk (d:GDeck):Prop where
  at0:0 ≤ d.At
  len:d.L.length ≤ 9223372036854775807
theorem next_ok {d:GDeck} (h:DOk d) {n:Int} (h1:1 ≤ n) (h2:n ≤ 4611686018427387904):∃ v d',qanc d n = some (v,d') ∧ 0 ≤ v ∧ v < n ∧ DOk d':=by
  unfold qanc
  have hl:=h.len
  have h0:=h.at0
  by_cases hc:(d.L.length:Int) ≤ d.At
  · have hc':decide ((d.L.length:Int) ≤ d.At) = true:=by simpa using hc
    exact ⟨0,d,by simp only [hc',if_true],by omega,by omega,h⟩
  · have hc':decide ((d.L.length:Int) ≤ d.At) = false:=by simpa using hc
    have e1:w64 (d.At + 1) = d.At + 1:=w64_id (by omega) (by omega)
    have e2:w64 (d.At + 1 - 1) = d.At:=by rw [w64_id (by omega) (by omega)]; omega
    have hin:inb d.L d.At = true:=inb_of h0 (by omega)
    have hn:(!decide (n = 0)) = true:=by simp <;> omega
    simp only [hc',Bool.false_eq_true,if_false,e1,e2,chk_of hin,chk_of hn]
    generalize ix d.L d.At = x
    have hm1 : -n < x.tmod n ∧ x.tmod n < n:=by
      have a1:=Int.tmod_lt_of_pos x (show 0 < n by omega)
      have a2:=Int.lt_tmod_of_pos x (show 0 < n by omega)
      omega
    have e3:w64 (x.tmod n + n) = x.tmod n + n:=w64_id (by omega) (by omega)
    rw [e3]
    have hnn:0 ≤ x.tmod n + n:=by omega
    refine ⟨_,_,rfl,Int.tmod_nonneg _ hnn,Int.tmod_lt_of_pos _ (by omega),⟨?_,hl⟩⟩
    show 0 ≤ d.At + 1
    omega
theorem new_ok {l:List Int} (h:l.length ≤ 9223372036854775807):∃ d,qanl l = some d ∧ DOk d:=⟨_,rfl,by exact Int.le_refl 0,h⟩
theorem minI_eq (x y:Int):minI x y = min x y:=by unfold minI; split <;> omega
theorem upto_ok {d:GDeck} (h:DOk d) {n:Int} (h1:0 ≤ n) (h2:n < 4611686018427387904):∃ v d',qani d n = some (v,d') ∧ 0 ≤ v ∧ v ≤ n ∧ DOk d':=by
  unfold qani
  obtain ⟨v0,d0,e0,a0,b0,k0⟩:=next_ok h (n:=6) (by omega) (by omega)
  rw [e0,Option.bind_some]
  dsimp only
  by_cases c0:v0 = 0
  · rw [if_pos (by simpa using c0)]
    obtain ⟨v,d',e,a,b,k⟩:=next_ok k0 (n:=4) (by omega) (by omega)
    rw [e,Option.bind_some,minI_eq]
    exact ⟨_,_,rfl,by dsimp only; omega,by dsimp only; omega,k⟩
  rw [if_neg (by simpa using c0)]
  by_cases c1:v0 = 1
  · rw [if_pos (by simpa using c1)]
    obtain ⟨v,d',e,a,b,k⟩:=next_ok k0 (n:=100) (by omega) (by omega)
    rw [e,Option.bind_some,minI_eq]
    exact ⟨_,_,rfl,by dsimp only; omega,by dsimp only; omega,k⟩
  rw [if_neg (by simpa using c1)]
  by_cases c2:v0 = 2
  · rw [if_pos (by simpa using c2)]
    obtain ⟨v,d',e,a,b,k⟩:=next_ok k0 (n:=1048576) (by omega) (by omega)
    rw [e,Option.bind_some,minI_eq]
    exact ⟨_,_,rfl,by dsimp only; omega,by dsimp only; omega,k⟩
  rw [if_neg (by simpa using c2),w64_id (n:=n + 1) (by omega) (by omega),minI_eq]
  by_cases c3:v0 = 3
  · rw [if_pos (by simpa using c3)]
    obtain ⟨v,d',e,a,b,k⟩:=next_ok k0 (n:=min 3 (n + 1)) (by omega) (by omega)
    rw [e,Option.bind_some]
    dsimp only
    rw [w64_id (by omega) (by omega)]
    exact ⟨_,_,rfl,by omega,by omega,k⟩
  rw [if_neg (by simpa using c3)]
  obtain ⟨v,d',e,a,b,k⟩:=next_ok k0 (n:=n + 1) (by omega) (by omega)
  rw [e,Option.bind_some]
  exact ⟨_,_,rfl,a,by dsimp only; omega,k⟩
theorem digit {x num den:Int} (hd:0 < den) (t:Int) (ht:t = 2 * ((x / 2) * num % den) + (if x % 2 = 1 then num else 0)) :
    x * num / den = 2 * ((x / 2) * num / den) + t / den ∧ x * num % den = t % den:=by
  have h1:=Int.mul_ediv_add_emod ((x / 2) * num) den
  have hx:x * num = t + den * (2 * ((x / 2) * num / den)):=by
    generalize hq:(x / 2) * num / den = q at h1 ht ⊢
    generalize hr:(x / 2) * num % den = r at h1 ht ⊢
    have e:den * (2 * q) = 2 * (den * q):=by rw [← Int.mul_assoc,Int.mul_comm den 2,Int.mul_assoc]
    rw [e]
    have hx2:x * num = 2 * (x / 2 * num) + (x % 2) * num:=by
      rw [← Int.mul_assoc,← Int.add_mul]
      congr 1
      omega
    have hm:x % 2 * num = if x % 2 = 1 then num else 0:=by
      split
      · rename_i h; rw [h,Int.one_mul]
      · have:x % 2 = 0:=by omega
        rw [this,Int.zero_mul]
    rw [hm] at hx2
    omega
  rw [hx,Int.add_mul_ediv_left _ _ (by omega),Int.add_mul_emod_self_left]
  constructor
  · omega
  · rfl
def okP (p:GPart):Bool:=decide (1 ≤ p.Party) && decide (p.Party ≤ 15) && (decide (1 ≤ p.Share) && decide (p.Share ≤ 1000000))
theorem okP_iff {p:GPart}:okP p = true ↔ (1 ≤ p.Party ∧ p.Party ≤ 15) ∧ 1 ≤ p.Share ∧ p.Share ≤ 1000000:=by simp [okP]
def behind (q:Option Int) (x:Int):Bool:=match q with | some y=>decide (x ≤ y) | none=>false
def scanP:Option Int → List GPart → Int → Int ⊕ Int
  | _,[],s=>.inr s
  | q,p :: t,s=>if okP p = false then .inl 1 else if behind q p.Party = true then .inl 13 else scanP (some p.Party) t (s + p.Share)
def prevP (l:List GPart) (k:Nat):Option Int:=if k = 0 then none else some (l.getD (k - 1) default).Party
theorem prevP_succ {l:List GPart} {k:Nat} (h:k < l.length):prevP l (k + 1) = some l[k].Party:=by simp [prevP,h]
def partsE (l:List GPart):Int:=if 12 < l.length then 4 else match scanP none l 0 with | .inl e=>e | .inr s=>if 1000000 < s then 14 else 0
theorem within3 (x a b:Int):qagz x a b = some (decide (a ≤ x) && decide (x ≤ b)):=rfl
theorem prev_check {l:List GPart} {k:Nat} (hk:k < l.length) (hl:l.length ≤ 12) :
    (if (decide (0 < (k:Int))) = true then (chk (inb l (w64 ((k:Int) - 1))) <| some (decide (l[k].Party ≤ (ix l (w64 ((k:Int) - 1))).Party))) else (some false)) = some (behind (prevP l k) l[k].Party):=by
  cases k with
  | zero=>simp [prevP,behind]
  | succ k =>
    have e:w64 (((k + 1:Nat):Int) - 1) = (k:Int):=by rw [w64_id (by omega) (by omega)]; omega
    have hk':k < l.length:=by omega
    rw [if_pos (by simp),e,chk_true (inb_nat hk'),ix_nat hk',prevP_succ hk']
    rfl
theorem parts_loop {l:List GPart} (hl:l.length ≤ 12):loopV (qago l) (0,0) = some (scanP none l 0):=by
  have main:∀ (n k:Nat) (s:Int),n + k = l.length → 0 ≤ s ∧ s ≤ 1000000 * (k:Int) → loopV (qago l) (s,(k:Int)) = some (scanP (prevP l k) (l.drop k) s):=by
    intro n
    induction n with
    | zero =>
      intro k s hk _
      have st:qago l (s,(k:Int)) = some (.inr (.inr s)):=by
        unfold qago
        rw [if_neg (by simp; omega)]
      rw [loopV_stop st,List.drop_eq_nil_of_le (by omega)]
      rfl
    | succ n ih =>
      intro k s hk hs
      have hkl:k < l.length:=by omega
      have e:l.drop k = l[k] :: l.drop (k + 1):=List.drop_eq_getElem_cons hkl
      rw [e]
      unfold scanP
      by_cases hok:okP l[k] = true
      · have ho:=okP_iff.1 hok
        rw [if_neg (by rw [hok]; simp)]
        by_cases hb:(behind (prevP l k) l[k].Party) = true
        · have st:qago l (s,(k:Int)) = some (.inr (.inl 13)):=by
            unfold qago
            dsimp only
            rw [if_pos (by simp; omega),chk_true (inb_nat hkl),ix_nat hkl,within3,within3,prev_check hkl hl,hb]
            simp [ho]
          rw [loopV_stop st,if_pos hb]
        · have hb':=Bool.eq_false_iff.2 hb
          have st:qago l (s,(k:Int)) = some (.inl (s + l[k].Share,((k + 1:Nat):Int))):=by
            unfold qago
            dsimp only
            rw [if_pos (by simp; omega),chk_true (inb_nat hkl),ix_nat hkl,within3,within3,prev_check hkl hl,hb',w64_id (by omega) (by omega),w64_id (by omega) (by omega)]
            simp [ho]
          rw [loopV_next st,ih (k + 1) _ (by omega) (by omega),if_neg hb,prevP_succ hkl]
      · have hok':=Bool.eq_false_iff.2 hok
        have st:qago l (s,(k:Int)) = some (.inr (.inl 1)):=by
          unfold qago
          dsimp only
          rw [if_pos (by simp; omega),chk_true (inb_nat hkl),ix_nat hkl,within3,within3]
          unfold okP at hok'
          cases h1:(decide (1 ≤ l[k].Party) && decide (l[k].Party ≤ 15)) <;> cases h2:(decide (1 ≤ l[k].Share) && decide (l[k].Share ≤ 1000000)) <;> simp [h1,h2] at hok' ⊢
        rw [loopV_stop st,if_pos hok']
  have:=main l.length 0 0 (by omega) (by omega)
  simpa [prevP] using this
theorem parts_eq (l:List GPart):qagn l = some (partsE l):=by
  unfold qagn partsE
  by_cases h:12 < l.length
  · rw [if_pos (by simp; omega),if_pos h]
  · rw [if_neg (by simp; omega),if_neg h,parts_loop (by omega)]
    cases scanP none l 0 with
    | inl e=>rfl
    | inr s =>
      by_cases h2:1000000 < s <;> simp [h2]
def partsR (l:List GPart):Int × Int:=if 12 < l.length then (0,4) else match scanP none l 0 with | .inl e=>(0,e) | .inr s=>(s,0)
theorem scan_err:∀ (l:List GPart) (q:Option Int) (s e:Int),scanP q l s = .inl e → e = 1 ∨ e = 13
  | [],q,s,e,h=>by simp [scanP] at h
  | p :: t,q,s,e,h=>by
    unfold scanP at h
    split at h
    · cases h; exact .inl rfl
    · split at h
      · cases h; exact .inr rfl
      · exact scan_err t _ _ _ h
def shs (l:List GPart):List Int:=l.map GPart.Share
theorem shs_length (l:List GPart):(shs l).length = l.length:=by simp [shs]
def Asc:Option Int → List GPart → Prop
  | _,[]=>True
  | q,p :: t=>okP p = true ∧ (∀ x,q = some x → x < p.Party) ∧ Asc (some p.Party) t
theorem scan_ok:∀ (l:List GPart) (q:Option Int) (s r:Int),scanP q l s = .inr r → Asc q l ∧ r = s + (shs l).sum
  | [],q,s,r,h=>by
    simp only [scanP,Sum.inr.injEq] at h
    exact ⟨trivial,by simp [shs,h]⟩
  | p :: t,q,s,r,h=>by
    unfold scanP at h
    split at h
    · cases h
    · rename_i hok
      split at h
      · cases h
      · rename_i hb
        obtain ⟨h1,h2⟩:=scan_ok t _ _ _ h
        refine ⟨⟨by simpa using hok,fun x hx=>?_,h1⟩,?_⟩
        · subst hx
          simp [behind] at hb
          omega
        · rw [h2]
          simp [shs]
          omega
theorem scan_of:∀ (l:List GPart) (q:Option Int) (s:Int),Asc q l → scanP q l s = .inr (s + (shs l).sum)
  | [],q,s,_=>by simp [scanP,shs]
  | p :: t,q,s,⟨h1,h2,h3⟩=>by
    unfold scanP
    rw [if_neg (by rw [h1]; simp),if_neg,scan_of t _ _ h3]
    · simp [shs,Int.add_assoc]
    · cases q with
      | none=>simp [behind]
      | some x =>
        have:=h2 x rfl
        simp [behind]
        omega
theorem Asc.ok:∀ {l:List GPart} {q:Option Int},Asc q l → ∀ p ∈ l,okP p = true
  | p :: t,q,h,x,hx=>by
    rcases List.mem_cons.1 hx with rfl | hx
    · exact h.1
    · exact Asc.ok h.2.2 x hx
theorem shs_bounds {l:List GPart} (h:∀ p ∈ l,okP p = true):(∀ x ∈ shs l,1 ≤ x ∧ x ≤ 1000000) ∧ 0 ≤ (shs l).sum ∧ (shs l).sum ≤ 1000000 * (l.length:Int):=by
  refine ⟨fun x hx=>?_,?_⟩
  · obtain ⟨p,hp,rfl⟩:=List.mem_map.1 hx
    have:=okP_iff.1 (h p hp)
    exact this.2
  · induction l with
    | nil=>simp [shs]
    | cons p t ih =>
      have h1:=ih fun x hx=>h x (List.mem_cons_of_mem _ hx)
      have h2:=okP_iff.1 (h p (by simp))
      simp only [shs,List.map_cons,List.sum_cons,List.length_cons] at h1 ⊢
      omega
structure POk (l:List GPart):Prop where
  len:l.length ≤ 12
  asc:Asc none l
theorem partsE_cases (l:List GPart):(POk l ∧ partsE l = (if 1000000 < (shs l).sum then 14 else 0) ∧ partsR l = ((shs l).sum,0)) ∨ (∃ e,partsE l = e ∧ partsR l = (0,e) ∧ e ≠ 0 ∧ e ≠ 14):=by
  unfold partsE partsR
  by_cases h:12 < l.length
  · rw [if_pos h,if_pos h]
    exact .inr ⟨4,rfl,rfl,by decide,by decide⟩
  · rw [if_neg h,if_neg h]
    cases hs:scanP none l 0 with
    | inl e =>
      have:=scan_err l _ _ _ hs
      exact .inr ⟨e,rfl,rfl,by omega,by omega⟩
    | inr s =>
      obtain ⟨h1,h2⟩:=scan_ok l _ _ _ hs
      rw [Int.zero_add] at h2
      subst h2
      exact .inl ⟨⟨by omega,h1⟩,rfl,rfl⟩
theorem POk.parts {l:List GPart} (h:POk l):partsE l = (if 1000000 < (shs l).sum then 14 else 0):=by
  unfold partsE
  have hl:=h.len
  rw [if_neg (by omega),scan_of l none 0 h.asc,Int.zero_add]
theorem shares_eq {l:List GPart} (hl:l.length ≤ 100):qagx l = some (shs l):=by
  unfold qagx
  rw [chk_true (by simp),chk_true (by simp; omega)]
  simp only [Int.toNat_natCast]
  have hd:=loopV_done (step:=qagy l) (fun k=>(fill (shs l) k,(k:Int))) l.length (shs l) ?_ ?_
  · have hd':loopV (qagy l) (List.replicate l.length 0,0) = some (shs l):=by simpa [fill_zero,shs_length] using hd
    rw [hd']
    rfl
  · intro k hk
    have hks:k < (shs l).length:=by rw [shs_length]; exact hk
    unfold qagy
    dsimp only
    rw [if_pos (by simp; omega),chk_true (inb_nat hk),chk_true (inb_nat (by rw [fill_length]; exact hks)),ix_nat hk,w64_id (by omega) (by omega)]
    have e:l[k].Share = (shs l)[k]:=by simp [shs]
    rw [e,upd_fill hks]
    rfl
  · unfold qagy
    dsimp only
    rw [if_neg (by simp)]
    have:=fill_all (shs l)
    rw [shs_length] at this
    rw [this]
def weightsOf (l:List GPart):List Int:=(1000000 - (shs l).sum) :: shs l
def divideS (a:Int) (l:List GPart):List Int × Int :=
  if partsE l ≠ 0 then ([],partsE l) else if ¬ (-17592186044416 ≤ a ∧ a ≤ 17592186044416) then ([],1) else splitS a (weightsOf l)
theorem weights_loop {w:List Int} (hl:w.length ≤ 12) (hw:∀ x ∈ w,1 ≤ x ∧ x ≤ 1000000):loopV (qagm w) ([1000000] ++ w,0) = some ((1000000 - w.sum) :: w):=by
  have hb:∀ k,0 ≤ (w.take k).sum ∧ (w.take k).sum ≤ 17592186044416 * ((w.take k).length:Int):=fun k=>sum_le (l:=w.take k) fun x hx=>by
    have:=hw x (List.mem_of_mem_take hx)
    omega
  have hd:=loopV_done (step:=qagm w) (fun k=>((1000000 - (w.take k).sum) :: w,(k:Int))) w.length ((1000000 - w.sum) :: w) ?_ ?_
  · simpa using hd
  · intro k hk
    have h1:=hb k
    have hlk:(w.take k).length ≤ 12:=by simp; omega
    have hx:=hw _ (List.getElem_mem hk)
    have hin:k + 1 < ((1000000 - (w.take k).sum) :: w).length:=by simp; omega
    have e1:(1:Int) + (k:Int) = ((k + 1:Nat):Int):=by omega
    have i0:inb ((1000000 - (w.take k).sum) :: w) 0 = true:=by simp [inb]
    have x0:ix ((1000000 - (w.take k).sum) :: w) 0 = 1000000 - (w.take k).sum:=by simp [ix]
    unfold qagm
    dsimp only
    rw [if_pos (by simp; omega),chk_true (by simp),e1,chk_true (inb_nat hin),chk_true i0,x0,ix_nat hin,w64_id (n:=(k:Int) + 1) (by omega) (by omega),List.getElem_cons_succ,w64_id (by omega) (by omega),List.take_succ_eq_append_getElem hk,List.sum_append]
    simp [upd]
    omega
  · unfold qagm
    dsimp only
    rw [if_neg (by simp),List.take_of_length_le (by omega)]
theorem divide_eq (a:Int) (l:List GPart):qagl a l = some (divideS a l):=by
  unfold qagl divideS
  rw [parts_eq,Option.bind_some]
  by_cases h0:partsE l = 0
  · have hp:POk l:=by
      rcases partsE_cases l with ⟨h,_,_⟩ | ⟨e,h1,_,h3,_⟩
      · exact h
      · rw [h1] at h0; exact absurd h0 h3
    have hl:=hp.len
    obtain ⟨hb,hs0,hs1⟩:=shs_bounds hp.asc.ok
    simp only [h0,decide_true,Bool.not_true,Bool.false_eq_true,if_false,ne_eq,not_true_eq_false]
    unfold amount_Valid
    rw [Option.bind_some]
    by_cases hv : -17592186044416 ≤ a ∧ a ≤ 17592186044416
    · have hsl:=shs_length l
      rw [if_neg (by simp [hv]),if_neg (by simpa using hv),shares_eq (by omega),Option.bind_some,chk_true (room_of (by simp; omega)),chk_true (by simp; omega),weights_loop (by omega) hb,Option.bind_some,split_eq,Option.bind_some]
      rfl
    · rw [if_pos (by simp; omega),if_pos hv]
  · simp [h0]
theorem Asc.snoc:∀ {l:List GPart} {q:Option Int} {p:GPart},Asc q l → okP p = true → (∀ x,q = some x → x < p.Party) → (∀ x ∈ l,x.Party < p.Party) → Asc q (l ++ [p])
  | [],q,p,_,h1,h2,_=>⟨h1,h2,trivial⟩
  | y :: t,q,p,h,h1,h2,h3=>⟨h.1,h.2.1,Asc.snoc h.2.2 h1 (fun x hx=>by cases hx; exact h3 y (by simp)) (fun x hx=>h3 x (List.mem_cons_of_mem _ hx))⟩
theorem partsLoop:∀ (k:Nat) (d:GDeck) (out:List GPart) (left party:Int),DOk d → out.length + k ≤ 4 → Asc none out → (∀ x ∈ out,x.Party ≤ party) → 0 ≤ party ∧ party ≤ 3 * (out.length:Int) → 0 ≤ left → (shs out).sum + left = 1000000 →
    ∃ (d':GDeck) (r:List GPart),loopV qane (d.L,d.At,out,left,party,(k:Int)) = some (d'.L,d'.At,r) ∧ DOk d' ∧ r.length ≤ 4 ∧ Asc none r ∧ (shs r).sum ≤ 1000000
  | 0,d,out,left,party,hd,hl,ha,_,_,h0,hs=>⟨d,out,loopV_stop (by unfold qane; simp),hd,by omega,ha,by omega⟩
  | k + 1,d,out,left,party,hd,hl,ha,hp,hp2,h0,hs=>by
    obtain ⟨_,hs0,_⟩:=shs_bounds ha.ok
    by_cases hc:0 < left
    · obtain ⟨v,d1,e1,a1,b1,h1⟩:=next_ok (d:=⟨d.L,d.At⟩) hd (n:=3) (by omega) (by omega)
      obtain ⟨u,d2,e2,a2,b2,h2⟩:=upto_ok h1 (n:=left - 1) (by omega) (by omega)
      have hnew:okP (GPart.mk (party + 1 + v) (1 + u)) = true:=okP_iff.2 ⟨⟨by dsimp only; omega,by dsimp only; omega⟩,by dsimp only; omega,by dsimp only; omega⟩
      have hst:qane (d.L,d.At,out,left,party,((k + 1:Nat):Int)) = some (.inl (d2.L,d2.At,out ++ [GPart.mk (party + 1 + v) (1 + u)],left - (1 + u),party + 1 + v,(k:Int))):=by
        unfold qane
        dsimp only
        rw [if_pos (by simp; omega),e1,Option.bind_some,w64_id (n:=left - 1) (by omega) (by omega)]
        dsimp only
        rw [e2,Option.bind_some]
        dsimp only
        rw [w64_id (n:=party + 1) (by omega) (by omega),w64_id (n:=party + 1 + v) (by omega) (by omega),w64_id (n:=1 + u) (by omega) (by omega),w64_id (n:=left - (1 + u)) (by omega) (by omega),chk_true (room_of (by simp; omega)),w64_id (by omega) (by omega)]
        congr 7
        omega
      obtain ⟨d3,r,h3,h4,h5,h6,h7⟩:=partsLoop k d2 (out ++ [GPart.mk (party + 1 + v) (1 + u)]) (left - (1 + u)) (party + 1 + v) h2 (by simp; omega) (ha.snoc hnew (fun x hx=>by cases hx) (fun x hx=>by have:=hp x hx; dsimp only; omega)) (fun x hx=>by
        rcases List.mem_append.1 hx with hx | hx
        · have:=hp x hx; omega
        · simp at hx; subst hx; dsimp only; omega) (by simp; omega) (by omega) (by simp [shs] at hs ⊢; omega)
      exact ⟨d3,r,by rw [loopV_next hst,h3],h4,h5,h6,h7⟩
    · exact ⟨d,out,loopV_stop (by unfold qane; rw [if_neg (by simp; omega)]),hd,by omega,ha,by omega⟩
theorem partsMade_ok {d:GDeck} (h:DOk d):∃ p d',qand d = some (p,d') ∧ DOk d' ∧ p.length ≤ 4 ∧ Asc none p ∧ (shs p).sum ≤ 1000000:=by
  unfold qand
  obtain ⟨v,d1,e1,a1,b1,h1⟩:=next_ok h (n:=5) (by omega) (by omega)
  obtain ⟨d2,r,h2,h3,h4⟩:=partsLoop v.toNat d1 [] 1000000 0 h1 (by simp; omega) trivial (fun x hx=>by cases hx) (by simp) (by omega) (by simp [shs])
  have ev:((v.toNat:Nat):Int) = v:=by omega
  rw [ev] at h2
  rw [e1,Option.bind_some]
  dsimp only
  rw [h2,Option.bind_some]
  exact ⟨r,_,rfl,h3,h4⟩
theorem partsS_sign {a:Int} {l:List Int} (h:SOk a l) {i:Nat} (hi:i < l.length):(0 ≤ a → 0 ≤ (partsS a l)[i]'(by rw [partsS_length]; exact hi)) ∧ (a ≤ 0 → (partsS a l)[i]'(by rw [partsS_length]; exact hi) ≤ 0):=by
  unfold partsS
  by_cases ha:0 ≤ a
  · simp only [if_pos ha]
    have h1:=splitD_bounds (h.pos_div ha) _ (List.getElem_mem (by rw [splitD_length]; exact hi:i < (splitD a l l.sum).length))
    refine ⟨fun _=>h1.1,fun h2=>?_⟩
    have h0:a = 0:=by omega
    subst h0
    have h3:=splitD_near (h.pos_div (Int.le_refl 0)) hi
    have hp:=h.pos
    rw [Int.zero_mul,Int.sub_zero] at h3
    refine Int.not_lt.1 fun h4=>?_
    have:=Int.mul_le_mul_of_nonneg_right (show 1 ≤ (splitD 0 l l.sum)[i]'(by rw [splitD_length]; exact hi) by omega) (Int.le_of_lt hp)
    omega
  · simp only [if_neg ha,List.getElem_map]
    have h1:=splitD_bounds (h.neg_div ha) _ (List.getElem_mem (by rw [splitD_length]; exact hi:i < (splitD (-a) l l.sum).length))
    exact ⟨fun h2=>absurd h2 ha,fun _=>by omega⟩
theorem loop_any {step:Int → Option (Int ⊕ (Int ⊕ Unit))} {n:Nat} {e:Int} (bad:Nat → Bool) (h:∀ k:Nat,k < n → step (k:Int) = some (if bad k = true then .inr (.inl e) else .inl ((k + 1:Nat):Int))) (hs:step (n:Int) = some (.inr (.inr ()))):loopV step 0 = some (if (List.range n).any bad = true then .inl e else .inr ()):=by
  have main:∀ m k:Nat,m + k = n → loopV step (k:Int) = some (if ((List.range' k m).any bad) = true then .inl e else .inr ()):=by
    intro m
    induction m with
    | zero =>
      intro k hk
      have:k = n:=by omega
      subst this
      rw [loopV_stop hs]
      simp
    | succ m ih =>
      intro k hk
      have hk':=h k (by omega)
      rw [List.range'_succ,List.any_cons]
      by_cases hb:bad k = true
      · rw [if_pos hb] at hk'
        rw [loopV_stop hk',hb]
        rfl
      · rw [if_neg hb] at hk'
        rw [loopV_next hk',ih (k + 1) (by omega),Bool.eq_false_iff.2 hb]
        rfl
  have:=main n 0 (by omega)
  rw [List.range_eq_range']
  exact this
def scanA (lo hi:Int):Option Int → List Int → Int
  | _,[]=>0
  | q,x :: t=>if ¬ (lo ≤ x ∧ x ≤ hi) then 1 else if behind q x = true then 13 else scanA lo hi (some x) t
def prevA (l:List Int) (k:Nat):Option Int:=if k = 0 then none else some (l.getD (k - 1) 0)
theorem prevA_succ {l:List Int} {k:Nat} (h:k < l.length):prevA l (k + 1) = some l[k]:=by simp [prevA,h]
theorem prevA_check {l:List Int} {k:Nat} (hk:k < l.length) (hl:l.length ≤ 1000000000) :
    (if (decide (0 < (k:Int))) = true then (chk (inb l (w64 ((k:Int) - 1))) <| some (decide (l[k] ≤ (ix l (w64 ((k:Int) - 1)))))) else (some false)) = some (behind (prevA l k) l[k]):=by
  cases k with
  | zero=>simp [prevA,behind]
  | succ k =>
    have e:w64 (((k + 1:Nat):Int) - 1) = (k:Int):=by rw [w64_id (by omega) (by omega)]; omega
    have hk':k < l.length:=by omega
    rw [if_pos (by simp),e,chk_true (inb_nat hk'),ix_nat hk',prevA_succ hk']
    rfl
theorem asc_eq {l:List Int} {lo hi:Int} (hl:l.length ≤ 1000000000):qagr l lo hi = some (scanA lo hi none l):=by
  have main:∀ (n k:Nat),n + k = l.length → loopV (qags l lo hi) (k:Int) = some (if scanA lo hi (prevA l k) (l.drop k) = 0 then .inr () else .inl (scanA lo hi (prevA l k) (l.drop k))):=by
    intro n
    induction n with
    | zero =>
      intro k hk
      have st:qags l lo hi (k:Int) = some (.inr (.inr ())):=by
        unfold qags
        rw [if_neg (by simp; omega)]
      rw [loopV_stop st,List.drop_eq_nil_of_le (by omega)]
      rfl
    | succ n ih =>
      intro k hk
      have hkl:k < l.length:=by omega
      have e:l.drop k = l[k] :: l.drop (k + 1):=List.drop_eq_getElem_cons hkl
      rw [e]
      have e2:scanA lo hi (prevA l k) (l[k] :: l.drop (k + 1)) = (if ¬ (lo ≤ l[k] ∧ l[k] ≤ hi) then 1 else if behind (prevA l k) l[k] = true then 13 else scanA lo hi (some l[k]) (l.drop (k + 1))):=rfl
      by_cases hok:lo ≤ l[k] ∧ l[k] ≤ hi
      · rw [if_neg (by simpa using hok)] at e2
        by_cases hb:(behind (prevA l k) l[k]) = true
        · have st:qags l lo hi (k:Int) = some (.inr (.inl 13)):=by
            unfold qags
            rw [if_pos (by simp; omega),chk_true (inb_nat hkl),ix_nat hkl,within3,Option.bind_some,if_neg (by simp; omega),prevA_check hkl hl,hb]
            simp
          rw [if_pos hb] at e2
          rw [loopV_stop st,e2]
          rfl
        · have hb':=Bool.eq_false_iff.2 hb
          have st:qags l lo hi (k:Int) = some (.inl ((k + 1:Nat):Int)):=by
            unfold qags
            rw [if_pos (by simp; omega),chk_true (inb_nat hkl),ix_nat hkl,within3,Option.bind_some,if_neg (by simp; omega),prevA_check hkl hl,hb',w64_id (by omega) (by omega)]
            simp
          rw [if_neg hb] at e2
          rw [loopV_next st,ih (k + 1) (by omega),e2,prevA_succ hkl]
      · have st:qags l lo hi (k:Int) = some (.inr (.inl 1)):=by
          unfold qags
          rw [if_pos (by simp; omega),chk_true (inb_nat hkl),ix_nat hkl,within3,Option.bind_some,if_pos (by simp; omega)]
        rw [if_pos hok] at e2
        rw [loopV_stop st,e2]
        rfl
  have:=main l.length 0 (by omega)
  unfold qagr
  have e0:prevA l 0 = none:=rfl
  rw [e0,List.drop_zero] at this
  have this':loopV (qags l lo hi) 0 = _:=this
  rw [this']
  by_cases h0:scanA lo hi none l = 0 <;> simp [h0]
theorem contains_eq {l:List Int} {x:Int} (hl:l.length ≤ 1000000000):qakv l x = some (decide (x ∈ l)):=by
  have main:∀ (n k:Nat),n + k = l.length → ∃ j:Nat,loopV (qald l x) (k:Int) = some (if x ∈ l.drop k then .inl (j:Int) else .inr ()):=by
    intro n
    induction n with
    | zero =>
      intro k hk
      have st:qald l x (k:Int) = some (.inr (.inr ())):=by
        unfold qald
        rw [if_neg (by simp; omega)]
      refine ⟨0,?_⟩
      rw [loopV_stop st,List.drop_eq_nil_of_le (by omega)]
      rfl
    | succ n ih =>
      intro k hk
      have hkl:k < l.length:=by omega
      have e:l.drop k = l[k] :: l.drop (k + 1):=List.drop_eq_getElem_cons hkl
      rw [e]
      by_cases hx:x = l[k]
      · have st:qald l x (k:Int) = some (.inr (.inl (k:Int))):=by
          unfold qald
          rw [if_pos (by simp; omega),chk_true (inb_nat hkl),ix_nat hkl,if_pos (by simpa using hx)]
        refine ⟨k,?_⟩
        rw [loopV_stop st]
        simp [← hx]
      · have st:qald l x (k:Int) = some (.inl ((k + 1:Nat):Int)):=by
          unfold qald
          rw [if_pos (by simp; omega),chk_true (inb_nat hkl),ix_nat hkl,if_neg (by simpa using hx),w64_id (by omega) (by omega)]
          rfl
        obtain ⟨j,hj⟩:=ih (k + 1) (by omega)
        refine ⟨j,?_⟩
        rw [loopV_next st,hj]
        simp only [List.mem_cons,hx,false_or]
  obtain ⟨j,this⟩:=main l.length 0 (by omega)
  unfold qakv qalc
  have this':loopV (qald l x) 0 = _:=this
  rw [this',List.drop_zero]
  by_cases h0:x ∈ l <;> simp [h0]
def mon:Gspan:=⟨0,1073741824⟩
def pos:Gspan:=⟨1,1073741824⟩
def non:Gspan:=⟨0,0⟩
def ruleL (k:Int):List Gspan :=
  if k = 1 then [non,⟨1,1000000⟩,non,non,non,mon,non,non,non,non,mon]
  else if k = 2 then [non,non,pos,⟨1,100⟩,non,non,non,non,non,non,mon]
  else if k = 3 then [⟨1,1048576⟩,⟨1,1000000⟩,non,non,non,non,non,non,non,non,mon]
  else if k = 4 then [non,non,non,non,mon,pos,non,mon,mon,⟨0,1000000000⟩,mon]
  else if k = 5 then [non,non,non,non,mon,pos,⟨1,8784⟩,mon,mon,non,mon]
  else [non,non,non,non,mon,pos,non,non,non,non,mon]
theorem kinds {k:Int} (h:1 ≤ k ∧ k ≤ 6):k = 1 ∨ k = 2 ∨ k = 3 ∨ k = 4 ∨ k = 5 ∨ k = 6:=by omega
theorem ruleOf_eq {k:Int} (h:1 ≤ k ∧ k ≤ 6):qagw k = some (ruleL k):=by
  rcases kinds h with rfl | rfl | rfl | rfl | rfl | rfl <;> rfl
theorem ruleL_length (k:Int):(ruleL k).length = 11:=by unfold ruleL; (repeat' split) <;> rfl
def vals (t:GTreaty):List Int:=[t.Risk,t.Cession,t.Line,t.Lines,t.Retention,t.Limit,t.Window,t.Deductible,t.Aggregate,t.Base,t.Premium]
def alien (t:GTreaty) (r:List Gspan):Nat → Bool:=fun k=>decide ([(ix r (k:Int)).low,(ix r (k:Int)).high] = [0,0]) && !decide (ix (vals t) (k:Int) = 0)
def wide (t:GTreaty) (r:List Gspan):Nat → Bool:=fun k=>!decide ([(ix r (k:Int)).low,(ix r (k:Int)).high] = [0,0]) && !(decide ((ix r (k:Int)).low ≤ ix (vals t) (k:Int)) && decide (ix (vals t) (k:Int) ≤ (ix r (k:Int)).high))
def restored (t:GTreaty):Bool:=(!(decide (t.Kind = 4) || decide (t.Kind = 5)) && decide (0 < (t.Reinstatements.length:Int))) || (t.Timed && decide ((t.Reinstatements.length:Int) = 0))
def fieldsE (t:GTreaty):Int:=if (List.range 11).any (alien t (ruleL t.Kind)) = true then 20 else if restored t = true then 20 else if (List.range 11).any (wide t (ruleL t.Kind)) = true then 1 else 0
theorem alien_loop {t:GTreaty} {r:List Gspan} (hr:r.length = 11):loopV (qagu t r) 0 = some (if (List.range 11).any (alien t r) = true then .inl 20 else .inr ()):=by
  refine loop_any _ (fun k hk=>?_) ?_
  · unfold qagu
    rw [if_pos (by simp; omega),chk_true (by simp),chk_true (by simp; omega),chk_true (inb_nat (by simpa using hk)),chk_true (inb_nat (by omega)),w64_id (by omega) (by omega)]
    unfold alien vals
    split <;> rfl
  · unfold qagu
    rw [if_neg (by simp)]
theorem wide_loop {t:GTreaty} {r:List Gspan} (hr:r.length = 11):loopV (qagv t r) 0 = some (if (List.range 11).any (wide t r) = true then .inl 1 else .inr ()):=by
  refine loop_any _ (fun k hk=>?_) ?_
  · unfold qagv
    rw [if_pos (by simp; omega),chk_true (by simp),chk_true (by simp; omega),chk_true (inb_nat (by simpa using hk)),chk_true (inb_nat (by omega)),chk_true (inb_nat (by omega)),within3,w64_id (by omega) (by omega)]
    unfold wide vals
    cases h:decide ([(ix r (k:Int)).low,(ix r (k:Int)).high] = [0,0]) <;> simp only [Bool.not_true,Bool.not_false,if_true,Bool.false_eq_true,if_false,Option.bind_some,Bool.true_and,Bool.false_and] <;> first | rfl | (split <;> rfl)
  · unfold qagv
    rw [if_neg (by simp)]
theorem fields_eq {t:GTreaty} (hk:1 ≤ t.Kind ∧ t.Kind ≤ 6):qagt t = some (fieldsE t):=by
  unfold qagt
  rw [chk_true (by simp),chk_true (by simp),ruleOf_eq hk,Option.bind_some,chk_true (by simp),chk_true (by simpa using ruleL_length t.Kind),alien_loop (ruleL_length _),wide_loop (ruleL_length _)]
  unfold fieldsE
  cases h1:(List.range 11).any (alien t (ruleL t.Kind))
  · simp only [Option.bind_some,Sum.elim_inr,Sum.elim_inl,Bool.false_eq_true,if_false]
    have e:restored t = ((((decide (0 < (t.Reinstatements.length:Int))) && (!decide (t.Kind = 4))) && (!decide (t.Kind = 5))) || ((decide ((t.Reinstatements.length:Int) = 0)) && t.Timed)):=by
      unfold restored
      cases decide (t.Kind = 4) <;> cases decide (t.Kind = 5) <;> cases decide (0 < (t.Reinstatements.length:Int)) <;> cases t.Timed <;> cases decide ((t.Reinstatements.length:Int) = 0) <;> rfl
    rw [e]
    cases h2:(((decide (0 < (t.Reinstatements.length:Int))) && (!decide (t.Kind = 4))) && (!decide (t.Kind = 5)))
    · simp only [Bool.false_eq_true,if_false,Bool.false_or]
      cases h3:((decide ((t.Reinstatements.length:Int) = 0)) && t.Timed)
      · simp only [Bool.false_eq_true,if_false]
        cases h4:(List.range 11).any (wide t (ruleL t.Kind)) <;> rfl
      · rfl
    · rfl
  · rfl
structure TLen (t:GTreaty):Prop where
  perils:t.Perils.length ≤ 1000000000
  areas:t.Areas.length ≤ 1000000000
  inures:t.Inures.length ≤ 1000000000
def badR (t:GTreaty):Nat → Bool:=fun k=>!(decide (0 ≤ ix t.Reinstatements (k:Int)) && decide (ix t.Reinstatements (k:Int) ≤ 2000000))
def validE (t:GTreaty):Int :=
  if ¬ (1 ≤ t.ID ∧ t.ID ≤ 1048576) then 1 else if ¬ (1 ≤ t.Kind ∧ t.Kind ≤ 6) then 11
  else if ¬ (0 ≤ t.Period.From ∧ t.Period.From < t.Period.To ∧ t.Period.To ≤ 876600) then 12
  else if scanA 0 15 none t.Perils ≠ 0 then scanA 0 15 none t.Perils
  else if scanA 0 15 none t.Areas ≠ 0 then scanA 0 15 none t.Areas
  else if fieldsE t ≠ 0 then fieldsE t
  else if 8 < t.Reinstatements.length then 4
  else if (List.range t.Reinstatements.length).any (badR t) = true then 1
  else if 12 < t.Inures.length then 4
  else if scanA 1 1048576 none t.Inures ≠ 0 then scanA 1 1048576 none t.Inures
  else if t.ID ∈ t.Inures then 10
  else partsE t.Parts
theorem rein_loop {t:GTreaty} (h:t.Reinstatements.length ≤ 8):loopV (qagq t) 0 = some (if (List.range t.Reinstatements.length).any (badR t) = true then .inl 1 else .inr ()):=by
  refine loop_any _ (fun k hk=>?_) ?_
  · unfold qagq
    rw [if_pos (by simp; omega),chk_true (inb_nat hk),within3,Option.bind_some,w64_id (by omega) (by omega)]
    unfold badR
    split <;> rfl
  · unfold qagq
    rw [if_neg (by simp)]
theorem validate_eq {t:GTreaty} (h:TLen t):qagp t = some (validE t):=by
  unfold qagp validE
  rw [within3,Option.bind_some]
  by_cases h1:1 ≤ t.ID ∧ t.ID ≤ 1048576
  rotate_left
  · rw [if_pos (by simp; omega),if_pos h1]
  rw [if_neg (by simp; omega),if_neg (not_not_intro h1),within3,Option.bind_some]
  by_cases h2:1 ≤ t.Kind ∧ t.Kind ≤ 6
  rotate_left
  · rw [if_pos (by simp; omega),if_pos h2]
  rw [if_neg (by simp; omega),if_neg (not_not_intro h2)]
  unfold qagg
  rw [Option.bind_some]
  by_cases h3:0 ≤ t.Period.From ∧ t.Period.From < t.Period.To ∧ t.Period.To ≤ 876600
  rotate_left
  · rw [if_pos (by simp; omega),if_pos h3]
  rw [if_neg (by simp; omega),if_neg (not_not_intro h3),asc_eq h.perils,Option.bind_some]
  by_cases h4:scanA 0 15 none t.Perils = 0
  rotate_left
  · rw [if_pos (by simpa using h4),if_pos h4]
  rw [if_neg (by simpa using h4),if_neg (not_not_intro h4),asc_eq h.areas,Option.bind_some]
  by_cases h5:scanA 0 15 none t.Areas = 0
  rotate_left
  · rw [if_pos (by simpa using h5),if_pos h5]
  rw [if_neg (by simpa using h5),if_neg (not_not_intro h5),fields_eq h2,Option.bind_some]
  by_cases h6:fieldsE t = 0
  rotate_left
  · rw [if_pos (by simpa using h6),if_pos h6]
  rw [if_neg (by simpa using h6),if_neg (not_not_intro h6)]
  by_cases h7:8 < t.Reinstatements.length
  · rw [if_pos (by simp; omega),if_pos h7]
  rw [if_neg (by simp; omega),if_neg h7,rein_loop (by omega)]
  cases h8:(List.range t.Reinstatements.length).any (badR t)
  rotate_left
  · rfl
  simp only [Bool.false_eq_true,if_false,Option.bind_some,Sum.elim_inr,Sum.elim_inl]
  by_cases h9:12 < t.Inures.length
  · rw [if_pos (by simp; omega),if_pos h9]
  rw [if_neg (by simp; omega),if_neg h9,asc_eq h.inures,Option.bind_some]
  by_cases h10:scanA 1 1048576 none t.Inures = 0
  rotate_left
  · rw [if_pos (by simpa using h10),if_pos h10]
  rw [if_neg (by simpa using h10),if_neg (not_not_intro h10),contains_eq h.inures,Option.bind_some]
  by_cases h11:t.ID ∈ t.Inures
  · rw [if_pos (by simpa using h11),if_pos h11]
  rw [if_neg (by simpa using h11),if_neg h11,parts_eq]
  rfl
theorem range_ok {d:GDeck} (h:DOk d) {lo hi:Int} (h0:0 ≤ lo) (h1:lo ≤ hi) (h2:hi ≤ 1000000000000):∃ v d',qanf d lo hi = some (v,d') ∧ lo ≤ v ∧ v ≤ hi ∧ DOk d':=by
  unfold qanf
  rw [w64_id (n:=hi - lo) (by omega) (by omega),w64_id (n:=hi - lo + 1) (by omega) (by omega)]
  obtain ⟨v,d',e,a,b,k⟩:=next_ok h (n:=hi - lo + 1) (by omega) (by omega)
  rw [e,Option.bind_some]
  dsimp only
  rw [w64_id (by omega) (by omega)]
  exact ⟨_,_,rfl,by omega,by omega,k⟩
theorem money_ok {d:GDeck} (h:DOk d):∃ v d',qanb d = some (v,d') ∧ 0 ≤ v ∧ v ≤ 1073741824 ∧ DOk d':=by
  unfold qanb
  obtain ⟨v,d',e,a,b,k⟩:=upto_ok h (n:=1073741824) (by omega) (by omega)
  rw [e,Option.bind_some]
  exact ⟨_,_,rfl,a,b,k⟩
def AscI (lo hi:Int):Option Int → List Int → Prop
  | _,[]=>True
  | q,x :: t=>(lo ≤ x ∧ x ≤ hi) ∧ (∀ y,q = some y → y < x) ∧ AscI lo hi (some x) t
theorem scanA_ok {lo hi:Int}:∀ {l:List Int} {q:Option Int},AscI lo hi q l → scanA lo hi q l = 0
  | [],_,_=>rfl
  | x :: t,q,⟨h1,h2,h3⟩=>by
    unfold scanA
    rw [if_neg (not_not_intro h1),if_neg,scanA_ok h3]
    cases q with
    | none=>simp [behind]
    | some y =>
      have:=h2 y rfl
      simp [behind]
      omega
theorem AscI.snoc {lo hi:Int}:∀ {l:List Int} {q:Option Int} {p:Int},AscI lo hi q l → (lo ≤ p ∧ p ≤ hi) → (∀ x,q = some x → x < p) → (∀ x ∈ l,x < p) → AscI lo hi q (l ++ [p])
  | [],q,p,_,hp,hq,_=>⟨hp,hq,trivial⟩
  | x :: t,q,p,⟨h1,h2,h3⟩,hp,_,hl=>⟨h1,h2,AscI.snoc h3 hp (fun y hy=>by cases hy; exact hl x (by simp)) (fun y hy=>hl y (List.mem_cons_of_mem _ hy))⟩
theorem subset_ok {d:GDeck} (h:DOk d):∃ l d',qanj d 0 2 = some (l,d') ∧ DOk d' ∧ l.length ≤ 3 ∧ AscI 0 15 none l:=by
  unfold qanj
  obtain ⟨v,d1,e1,a1,b1,h1⟩:=next_ok h (n:=2) (by omega) (by omega)
  rw [e1,Option.bind_some]
  dsimp only
  by_cases hv:v = 0
  · rw [if_pos (by simpa using hv)]
    exact ⟨_,_,rfl,h1,by simp,trivial⟩
  rw [if_neg (by simpa using hv)]
  have main:∀ (m:Nat) (k:Nat) (d:GDeck) (l:List Int),m + k = 3 → DOk d → l.length ≤ k → AscI 0 15 none l → (∀ x ∈ l,x < (k:Int)) → ∃ d' l',loopV (qank 2) (d.L,d.At,l,(k:Int)) = some (d'.L,d'.At,l') ∧ DOk d' ∧ l'.length ≤ 3 ∧ AscI 0 15 none l':=by
    intro m
    induction m with
    | zero =>
      intro k d l hk hd hl ha hb
      have st:qank 2 (d.L,d.At,l,(k:Int)) = some (.inr (d.L,d.At,l)):=by
        unfold qank
        dsimp only
        rw [if_neg (by simp; omega)]
      exact ⟨d,l,loopV_stop st,hd,by omega,ha⟩
    | succ m ih =>
      intro k d l hk hd hl ha hb
      obtain ⟨w,d2,e2,a2,b2,h2⟩:=next_ok hd (n:=3) (by omega) (by omega)
      by_cases hw:0 < w
      · have st:qank 2 (d.L,d.At,l,(k:Int)) = some (.inl (d2.L,d2.At,l ++ [(k:Int)],((k + 1:Nat):Int))):=by
          unfold qank
          dsimp only
          rw [if_pos (by simp; omega),show GDeck.mk d.L d.At = d from rfl,e2,Option.bind_some]
          dsimp only
          rw [if_pos (by simpa using hw),chk_true (room_of (by simp; omega)),Option.bind_some,w64_id (by omega) (by omega)]
          rfl
        rw [loopV_next st]
        refine ih (k + 1) d2 _ (by omega) h2 (by simp; omega) (ha.snoc ⟨by omega,by omega⟩ (fun x hx=>by cases hx) hb) (fun x hx=>?_)
        rcases List.mem_append.1 hx with hx | hx
        · have:=hb x hx; omega
        · simp at hx; omega
      · have st:qank 2 (d.L,d.At,l,(k:Int)) = some (.inl (d2.L,d2.At,l,((k + 1:Nat):Int))):=by
          unfold qank
          dsimp only
          rw [if_pos (by simp; omega),show GDeck.mk d.L d.At = d from rfl,e2,Option.bind_some]
          dsimp only
          rw [if_neg (by simpa using hw),Option.bind_some,w64_id (by omega) (by omega)]
          rfl
        rw [loopV_next st]
        exact ih (k + 1) d2 l (by omega) h2 (by omega) ha (fun x hx=>by have:=hb x hx; omega)
  obtain ⟨d',l',e,hd',hl',ha'⟩:=main 3 0 d1 [] (by omega) h1 (by simp) trivial (by simp)
  have e':loopV (qank 2) (d1.L,d1.At,[],0) = some (d'.L,d'.At,l'):=e
  rw [e',Option.bind_some]
  exact ⟨_,_,rfl,hd',hl',ha'⟩
structure TBase (t:GTreaty) (id kind:Int):Prop where
  hid:t.ID = id
  hkind:t.Kind = kind
  per:0 ≤ t.Period.From ∧ t.Period.From < t.Period.To ∧ t.Period.To ≤ 876600
  perils:t.Perils.length ≤ 3 ∧ AscI 0 15 none t.Perils
  areas:t.Areas.length ≤ 3 ∧ AscI 0 15 none t.Areas
  prem:0 ≤ t.Premium ∧ t.Premium ≤ 1073741824
  inu:t.Inures = []
  rein:t.Reinstatements.length ≤ 3 ∧ ∀ x ∈ t.Reinstatements,0 ≤ x ∧ x ≤ 2000000
  parts:t.Parts.length ≤ 4 ∧ Asc none t.Parts ∧ (shs t.Parts).sum ≤ 1000000
theorem TBase.len {t:GTreaty} {id kind:Int} (h:TBase t id kind):TLen t:=⟨by have:=h.perils.1; omega,by have:=h.areas.1; omega,by rw [h.inu]; simp⟩
def PropF (t:GTreaty):Prop :=
  t.Reinstatements = [] ∧ t.Timed = false ∧ t.Retention = 0 ∧ t.Window = 0 ∧ t.Deductible = 0 ∧ t.Aggregate = 0 ∧ t.Base = 0 ∧
  ((t.Kind = 1 ∧ t.Risk = 0 ∧ (1 ≤ t.Cession ∧ t.Cession ≤ 1000000) ∧ t.Line = 0 ∧ t.Lines = 0 ∧ (0 ≤ t.Limit ∧ t.Limit ≤ 1073741824)) ∨
   (t.Kind = 2 ∧ t.Risk = 0 ∧ t.Cession = 0 ∧ (1 ≤ t.Line ∧ t.Line ≤ 1073741824) ∧ (1 ≤ t.Lines ∧ t.Lines ≤ 9) ∧ t.Limit = 0) ∨
   (t.Kind = 3 ∧ (1 ≤ t.Risk ∧ t.Risk ≤ 4) ∧ (1 ≤ t.Cession ∧ t.Cession ≤ 1000000) ∧ t.Line = 0 ∧ t.Lines = 0 ∧ t.Limit = 0))
theorem propF_fields {t:GTreaty} (h:PropF t) (hp:0 ≤ t.Premium ∧ t.Premium ≤ 1073741824):fieldsE t = 0:=by
  obtain ⟨h1,h2,h3,h4,h5,h6,h7,h8⟩:=h
  unfold fieldsE restored alien wide
  rw [h1,h2]
  rcases h8 with ⟨k,r,c,l,ls,li⟩ | ⟨k,r,c,l,ls,li⟩ | ⟨k,r,c,l,ls,li⟩ <;> rw [k] <;> simp [List.range,List.range.loop,ix,vals,ruleL,non,mon,pos, *] <;> omega
theorem made_valid {t:GTreaty} {id kind:Int} (hi:1 ≤ id ∧ id ≤ 9) (h:TBase t id kind) (hk:1 ≤ kind ∧ kind ≤ 6) (hf:fieldsE t = 0):validE t = 0:=by
  unfold validE
  have hr:=h.rein
  rw [h.hid,h.hkind,if_neg (not_not_intro (by omega)),if_neg (not_not_intro hk),if_neg (not_not_intro h.per),if_neg (not_not_intro (scanA_ok h.perils.2)),if_neg (not_not_intro (scanA_ok h.areas.2)),if_neg (not_not_intro hf),if_neg (by omega),if_neg,h.inu,if_neg (by simp),if_neg (by simp [scanA]),if_neg (by simp),POk.parts ⟨by have:=h.parts.1; omega,h.parts.2.1⟩,if_neg (by have:=h.parts.2.2; omega)]
  intro hc
  obtain ⟨k,hk1,hk2⟩:=List.any_eq_true.1 hc
  have hk3:=List.mem_range.1 hk1
  unfold badR at hk2
  rw [ix_nat hk3] at hk2
  have:=hr.2 _ (List.getElem_mem hk3)
  simp at hk2
  omega
def ExF (t:GTreaty):Prop :=
  t.Risk = 0 ∧ t.Cession = 0 ∧ t.Line = 0 ∧ t.Lines = 0 ∧ (0 ≤ t.Retention ∧ t.Retention ≤ 1073741824) ∧ (1 ≤ t.Limit ∧ t.Limit ≤ 1073741824) ∧ (t.Reinstatements = [] → t.Timed = false) ∧
  ((t.Kind = 4 ∧ t.Window = 0 ∧ (0 ≤ t.Deductible ∧ t.Deductible ≤ 1073741824) ∧ (0 ≤ t.Aggregate ∧ t.Aggregate ≤ 1073741824) ∧ (0 ≤ t.Base ∧ t.Base ≤ 1000000000)) ∨
   (t.Kind = 5 ∧ (1 ≤ t.Window ∧ t.Window ≤ 30) ∧ (0 ≤ t.Deductible ∧ t.Deductible ≤ 1073741824) ∧ (0 ≤ t.Aggregate ∧ t.Aggregate ≤ 1073741824) ∧ t.Base = 0) ∨
   (t.Kind = 6 ∧ t.Window = 0 ∧ t.Deductible = 0 ∧ t.Aggregate = 0 ∧ t.Base = 0 ∧ t.Reinstatements = []))
theorem exF_fields {t:GTreaty} (h:ExF t) (hp:0 ≤ t.Premium ∧ t.Premium ≤ 1073741824):fieldsE t = 0:=by
  obtain ⟨h1,h2,h3,h4,h5,h6,h7,h8⟩:=h
  have hr:restored t = false:=by
    unfold restored
    rcases h8 with ⟨k,_⟩ | ⟨k,_⟩ | ⟨k,_,_,_,_,r⟩
    · by_cases r:t.Reinstatements = []
      · simp [k,r,h7 r]
      · have:t.Reinstatements.length ≠ 0:=fun hc=>r (List.length_eq_zero_iff.1 hc)
        simp [k]
        intro _
        exact r
    · by_cases r:t.Reinstatements = []
      · simp [k,r,h7 r]
      · simp [k]
        intro _
        exact r
    · simp [k,r,h7 r]
  unfold fieldsE
  rw [hr]
  unfold alien wide
  rcases h8 with ⟨k,a,b,c,d⟩ | ⟨k,a,b,c,d⟩ | ⟨k,a,b,c,d,r⟩ <;> rw [k] <;> simp [List.range,List.range.loop,ix,vals,ruleL,non,mon,pos, *] <;> omega
theorem treatyA_ok {d:GDeck} (h:DOk d) {id kind:Int} (hk:1 ≤ kind ∧ kind ≤ 6):∃ t d',qang d id kind = some (t,d') ∧ DOk d' ∧ TBase t id kind ∧ (kind ≤ 3 → PropF t) ∧ (4 ≤ kind → ExF t):=by
  unfold qang
  obtain ⟨v1,d1,e1,a1,b1,h1⟩:=next_ok h (n:=10) (by omega) (by omega)
  obtain ⟨v2,d2,e2,a2,b2,h2⟩:=next_ok h1 (n:=60) (by omega) (by omega)
  obtain ⟨l3,d3,e3,h3,a3,b3⟩:=subset_ok h2
  obtain ⟨l4,d4,e4,h4,a4,b4⟩:=subset_ok h3
  obtain ⟨v5,d5,e5,a5,b5,h5⟩:=money_ok h4
  obtain ⟨p6,d6,e6,h6,a6,b6,c6⟩:=partsMade_ok h5
  rw [e1,Option.bind_some]
  dsimp only
  rw [e2,Option.bind_some]
  dsimp only
  rw [e3,Option.bind_some]
  dsimp only
  rw [e4,Option.bind_some]
  dsimp only
  rw [e5,Option.bind_some]
  dsimp only
  rw [e6,Option.bind_some]
  dsimp only
  have ew:w64 (60 + v2) = 60 + v2:=w64_id (by omega) (by omega)
  by_cases k1:kind = 1
  · subst k1
    obtain ⟨v7,d7,e7,a7,b7,h7⟩:=upto_ok h6 (n:=999999) (by omega) (by omega)
    obtain ⟨v8,d8,e8,a8,b8,h8⟩:=next_ok h7 (n:=2) (by omega) (by omega)
    rw [if_pos (by simp),e7,Option.bind_some]
    dsimp only
    rw [e8,Option.bind_some]
    dsimp only
    have ec:w64 (1 + v7) = 1 + v7:=w64_id (by omega) (by omega)
    by_cases c8:v8 = 1
    · obtain ⟨v9,d9,e9,a9,b9,h9⟩:=money_ok h8
      rw [if_pos (by simpa using c8),e9,Option.bind_some,Option.bind_some]
      dsimp only
      rw [if_neg (by decide),Option.bind_some]
      dsimp only
      rw [if_neg (by decide),Option.bind_some]
      dsimp only
      rw [if_neg (by decide),Option.bind_some]
      dsimp only
      rw [if_neg (by decide),Option.bind_some,ew,ec]
      refine ⟨_,d9,rfl,h9,⟨rfl,rfl,⟨by dsimp only; omega,by dsimp only; omega,by dsimp only; omega⟩,⟨a3,b3⟩,⟨a4,b4⟩,⟨a5,b5⟩,rfl,⟨by simp,by simp⟩,⟨a6,b6,c6⟩⟩,fun _=>?_,fun hc=>absurd hc (by omega)⟩
      simp [PropF]
      omega
    · rw [if_neg (by simpa using c8),Option.bind_some]
      dsimp only
      rw [if_neg (by decide),Option.bind_some]
      dsimp only
      rw [if_neg (by decide),Option.bind_some]
      dsimp only
      rw [if_neg (by decide),Option.bind_some]
      dsimp only
      rw [if_neg (by decide),Option.bind_some,ew,ec]
      refine ⟨_,d8,rfl,h8,⟨rfl,rfl,⟨by dsimp only; omega,by dsimp only; omega,by dsimp only; omega⟩,⟨a3,b3⟩,⟨a4,b4⟩,⟨a5,b5⟩,rfl,⟨by simp,by simp⟩,⟨a6,b6,c6⟩⟩,fun _=>?_,fun hc=>absurd hc (by omega)⟩
      simp [PropF]
      omega
  by_cases k2:kind = 2
  · subst k2
    obtain ⟨v7,d7,e7,a7,b7,h7⟩:=upto_ok h6 (n:=1073741823) (by omega) (by omega)
    obtain ⟨v8,d8,e8,a8,b8,h8⟩:=range_ok h7 (lo:=1) (hi:=9) (by omega) (by omega) (by omega)
    rw [if_neg (by simp),if_pos (by simp),e7,Option.bind_some]
    dsimp only
    rw [e8,Option.bind_some,Option.bind_some]
    have ec:w64 (1 + v7) = 1 + v7:=w64_id (by omega) (by omega)
    dsimp only
    rw [if_neg (by decide),Option.bind_some]
    dsimp only
    rw [if_neg (by decide),Option.bind_some]
    dsimp only
    rw [if_neg (by decide),Option.bind_some]
    dsimp only
    rw [if_neg (by decide),Option.bind_some,ew,ec]
    refine ⟨_,d8,rfl,h8,⟨rfl,rfl,⟨by dsimp only; omega,by dsimp only; omega,by dsimp only; omega⟩,⟨a3,b3⟩,⟨a4,b4⟩,⟨a5,b5⟩,rfl,⟨by simp,by simp⟩,⟨a6,b6,c6⟩⟩,fun _=>?_,fun hc=>absurd hc (by omega)⟩
    simp [PropF]
    omega
  by_cases k3:kind = 3
  · subst k3
    obtain ⟨v7,d7,e7,a7,b7,h7⟩:=range_ok h6 (lo:=1) (hi:=4) (by omega) (by omega) (by omega)
    obtain ⟨v8,d8,e8,a8,b8,h8⟩:=upto_ok h7 (n:=999999) (by omega) (by omega)
    rw [if_neg (by simp),if_neg (by simp),if_pos (by simp),e7,Option.bind_some]
    dsimp only
    rw [e8,Option.bind_some,Option.bind_some]
    have ec:w64 (1 + v8) = 1 + v8:=w64_id (by omega) (by omega)
    dsimp only
    rw [if_neg (by decide),Option.bind_some]
    dsimp only
    rw [if_neg (by decide),Option.bind_some]
    dsimp only
    rw [if_neg (by decide),Option.bind_some]
    dsimp only
    rw [if_neg (by decide),Option.bind_some,ew,ec]
    refine ⟨_,d8,rfl,h8,⟨rfl,rfl,⟨by dsimp only; omega,by dsimp only; omega,by dsimp only; omega⟩,⟨a3,b3⟩,⟨a4,b4⟩,⟨a5,b5⟩,rfl,⟨by simp,by simp⟩,⟨a6,b6,c6⟩⟩,fun _=>?_,fun hc=>absurd hc (by omega)⟩
    simp [PropF]
    omega
  obtain ⟨v7,d7,e7,a7,b7,h7⟩:=upto_ok h6 (n:=1073741824) (by omega) (by omega)
  obtain ⟨v8,d8,e8,a8,b8,h8⟩:=upto_ok h7 (n:=1073741823) (by omega) (by omega)
  rw [if_neg (by simpa using k1),if_neg (by simpa using k2),if_neg (by simpa using k3),e7,Option.bind_some]
  dsimp only
  rw [e8,Option.bind_some,Option.bind_some]
  dsimp only
  have opt:∀ {d:GDeck},DOk d → ∃ (x:Int) (d':GDeck),((qanc (GDeck.mk d.L d.At) 2).bind fun r13_1=>if (decide (r13_1.1 = 1)) = true then ((qanb r13_1.2).bind fun r14_1=>some (r14_1.2.L,r14_1.2.At,r14_1.1)) else (some (r13_1.2.L,r13_1.2.At,0))) = some (d'.L,d'.At,x) ∧ DOk d' ∧ 0 ≤ x ∧ x ≤ 1073741824:=by
    intro d hd
    obtain ⟨v,d',e,a,b,k⟩:=next_ok hd (n:=2) (by omega) (by omega)
    rw [show GDeck.mk d.L d.At = d from rfl,e,Option.bind_some]
    dsimp only
    by_cases c:v = 1
    · obtain ⟨x,d2,e2,x1,x2,k2⟩:=money_ok k
      rw [if_pos (by simpa using c),e2]
      exact ⟨x,d2,rfl,k2,x1,x2⟩
    · rw [if_neg (by simpa using c)]
      exact ⟨0,d',rfl,k,by omega,by omega⟩
  have hmid:∃ (x y:Int) (r:List Int) (b:Bool) (d':GDeck),(if ((decide (kind = 4)) || (decide (kind = 5))) = true then (((qanc (GDeck.mk d8.L d8.At) 2).bind fun r13_1 =>
  if (decide (r13_1.1 = 1)) = true then ((qanb r13_1.2).bind fun r14_1 =>
  some (r14_1.2.L,r14_1.2.At,r14_1.1)) else (some (r13_1.2.L,r13_1.2.At,0))).bind fun s30 =>
  ((qanc (GDeck.mk s30.1 s30.2.1) 2).bind fun r15_1 =>
  if (decide (r15_1.1 = 1)) = true then ((qanb r15_1.2).bind fun r16_1 =>
  some (r16_1.2.L,r16_1.2.At,r16_1.1)) else (some (r15_1.2.L,r15_1.2.At,0))).bind fun s35 =>
  ((qanc (GDeck.mk s35.1 s35.2.1) 4).bind fun r17_1 =>
  loopV qanh (r17_1.2.L,r17_1.2.At,[],r17_1.1)).bind fun s40 =>
  if (decide (0 < (s40.2.2.length:Int))) = true then ((qanc (GDeck.mk s40.1 s40.2.1) 2).bind fun r21_6 =>
  some (r21_6.2.L,r21_6.2.At,s30.2.2,s35.2.2,s40.2.2,(decide (r21_6.1 = 1)))) else (some (s40.1,s40.2.1,s30.2.2,s35.2.2,s40.2.2,false))) else (some (d8.L,d8.At,0,0,[],false))) = some (d'.L,d'.At,x,y,r,b) ∧ DOk d' ∧ r.length ≤ 3 ∧ (∀ z ∈ r,0 ≤ z ∧ z ≤ 2000000) ∧ (0 ≤ x ∧ x ≤ 1073741824) ∧ (0 ≤ y ∧ y ≤ 1073741824) ∧ (r = [] → b = false) ∧ (kind ≠ 4 → kind ≠ 5 → x = 0 ∧ y = 0 ∧ r = []):=by
    by_cases hc:((decide (kind = 4)) || (decide (kind = 5))) = true
    · rw [if_pos hc]
      obtain ⟨x,dx,ex,hx,x1,x2⟩:=opt h8
      rw [ex,Option.bind_some]
      dsimp only
      obtain ⟨y,dy,ey,hy,y1,y2⟩:=opt hx
      rw [ey,Option.bind_some]
      dsimp only
      rw [show GDeck.mk dy.L dy.At = dy from rfl]
      obtain ⟨v,dv,ev,av,bv,hv⟩:=next_ok hy (n:=4) (by omega) (by omega)
      rw [ev,Option.bind_some]
      dsimp only
      have hloop:∀ (m:Nat) (d:GDeck) (l:List Int),DOk d → l.length + m ≤ 3 → (∀ z ∈ l,0 ≤ z ∧ z ≤ 2000000) → ∃ d' l',loopV qanh (d.L,d.At,l,(m:Int)) = some (d'.L,d'.At,l') ∧ DOk d' ∧ l'.length ≤ 3 ∧ ∀ z ∈ l',0 ≤ z ∧ z ≤ 2000000:=by
        intro m
        induction m with
        | zero =>
          intro d l hd hl hz
          have st:qanh (d.L,d.At,l,((0:Nat):Int)) = some (.inr (d.L,d.At,l)):=by
            unfold qanh
            dsimp only
            rw [if_neg (by simp)]
          exact ⟨d,l,loopV_stop st,hd,by omega,hz⟩
        | succ m ih =>
          intro d l hd hl hz
          obtain ⟨w,d2,e2,a2,b2,h2⟩:=upto_ok hd (n:=2000000) (by omega) (by omega)
          have st:qanh (d.L,d.At,l,((m + 1:Nat):Int)) = some (.inl (d2.L,d2.At,l ++ [w],(m:Int))):=by
            unfold qanh
            dsimp only
            rw [if_pos (by simp),show GDeck.mk d.L d.At = d from rfl,e2,Option.bind_some,chk_true (room_of (by simp; omega)),w64_id (by omega) (by omega)]
            simp
          rw [loopV_next st]
          refine ih d2 _ h2 (by simp; omega) (fun z hz'=>?_)
          rcases List.mem_append.1 hz' with hz' | hz'
          · exact hz z hz'
          · simp at hz'; omega
      obtain ⟨dl,l,el,hdl,hl1,hl2⟩:=hloop v.toNat dv [] hv (by simp; omega) (by simp)
      have ev2:((v.toNat:Nat):Int) = v:=by omega
      rw [ev2] at el
      rw [el,Option.bind_some]
      dsimp only
      by_cases hl0:0 < (l.length:Int)
      · obtain ⟨u,du,eu,_,_,hu⟩:=next_ok hdl (n:=2) (by omega) (by omega)
        rw [if_pos (by simpa using hl0),show GDeck.mk dl.L dl.At = dl from rfl,eu,Option.bind_some]
        exact ⟨_,_,_,_,du,rfl,hu,hl1,hl2,⟨x1,x2⟩,⟨y1,y2⟩,fun hr=>by rw [hr] at hl0; simp at hl0,fun n4 n5=>by simp [n4,n5] at hc⟩
      · rw [if_neg (by simpa using hl0)]
        exact ⟨_,_,_,_,dl,rfl,hdl,hl1,hl2,⟨x1,x2⟩,⟨y1,y2⟩,fun _=>rfl,fun n4 n5=>by simp [n4,n5] at hc⟩
    · rw [if_neg hc]
      exact ⟨_,_,_,_,d8,rfl,h8,by simp,by simp,by omega,by omega,fun _=>rfl,fun _ _=>⟨rfl,rfl,rfl⟩⟩
  obtain ⟨x,y,r,b,dm,em,hm,hr1,hr2,hx,hy,hrb,hn45⟩:=hmid
  rw [em,Option.bind_some]
  dsimp only
  have hbase:∃ (x:Int) (d':GDeck),((if (decide (kind = 4)) = true then ((qanc (GDeck.mk dm.L dm.At) 2).bind fun r22_4 =>
  some (r22_4.2.L,r22_4.2.At,(decide (r22_4.1 = 1)))) else (some (dm.L,dm.At,false))).bind fun s56 =>
  if s56.2.2 = true then ((qani (GDeck.mk s56.1 s56.2.1) 1000).bind fun r23_1 =>
  some (r23_1.2.L,r23_1.2.At,(w64 (1 + r23_1.1)))) else (some (s56.1,s56.2.1,0))) = some (d'.L,d'.At,x) ∧ DOk d' ∧ (0 ≤ x ∧ x ≤ 1000000000) ∧ (kind ≠ 4 → x = 0):=by
    by_cases hc:kind = 4
    · rw [if_pos (by simpa using hc),show GDeck.mk dm.L dm.At = dm from rfl]
      obtain ⟨v,dv,ev,av,bv,hv⟩:=next_ok hm (n:=2) (by omega) (by omega)
      rw [ev,Option.bind_some,Option.bind_some]
      dsimp only
      by_cases c:v = 1
      · rw [if_pos (by simpa using c),show GDeck.mk dv.L dv.At = dv from rfl]
        obtain ⟨w,dw,ew,w1,w2,hw⟩:=upto_ok hv (n:=1000) (by omega) (by omega)
        rw [ew,Option.bind_some,w64_id (by omega) (by omega)]
        exact ⟨_,dw,rfl,hw,by omega,fun h=>absurd hc h⟩
      · rw [if_neg (by simpa using c)]
        exact ⟨_,dv,rfl,hv,by omega,fun h=>absurd hc h⟩
    · rw [if_neg (by simpa using hc),Option.bind_some]
      exact ⟨0,dm,rfl,hm,by omega,fun _=>rfl⟩
  obtain ⟨z,db,eb,hb,hz,hz4⟩:=hbase
  rw [eb,Option.bind_some]
  dsimp only
  have hwin:∃ (x:Int) (d':GDeck),(if (decide (kind = 5)) = true then ((qanf (GDeck.mk db.L db.At) 1 30).bind fun r25_1 =>
  some (r25_1.2.L,r25_1.2.At,r25_1.1)) else (some (db.L,db.At,0))) = some (d'.L,d'.At,x) ∧ DOk d' ∧ (kind = 5 → 1 ≤ x ∧ x ≤ 30) ∧ (kind ≠ 5 → x = 0):=by
    by_cases hc:kind = 5
    · rw [if_pos (by simpa using hc),show GDeck.mk db.L db.At = db from rfl]
      obtain ⟨v,dv,ev,v1,v2,hv⟩:=range_ok hb (lo:=1) (hi:=30) (by omega) (by omega) (by omega)
      rw [ev]
      exact ⟨_,dv,rfl,hv,fun _=>⟨v1,v2⟩,fun h=>absurd hc h⟩
    · rw [if_neg (by simpa using hc)]
      exact ⟨0,db,rfl,hb,fun h=>absurd h hc,fun _=>rfl⟩
  obtain ⟨u,du,eu,hu,hu5,hun⟩:=hwin
  rw [eu,Option.bind_some,ew,w64_id (n:=1 + v8) (by omega) (by omega)]
  refine ⟨_,du,rfl,hu,⟨rfl,rfl,⟨by dsimp only; omega,by dsimp only; omega,by dsimp only; omega⟩,⟨a3,b3⟩,⟨a4,b4⟩,⟨a5,b5⟩,rfl,⟨hr1,hr2⟩,⟨a6,b6,c6⟩⟩,fun h=>absurd h (by omega),fun _=>⟨rfl,rfl,rfl,rfl,by dsimp only; omega,by dsimp only; omega,hrb,?_⟩⟩
  have hk456:kind = 4 ∨ kind = 5 ∨ kind = 6:=by omega
  rcases hk456 with k | k | k
  · exact .inl ⟨k,hun (by omega),hx,hy,hz⟩
  · exact .inr (.inl ⟨k,hu5 k,hx,hy,hz4 (by omega)⟩)
  · have h45:=hn45 (by omega) (by omega)
    exact .inr (.inr ⟨k,hun (by omega),h45.1,h45.2.1,hz4 (by omega),h45.2.2⟩)
end Go.Proofs.YtdenliplkmjmjaaGreat.Sp
