import Derived.Test.YtgbnkoeidejhfaaDivL
import Derived.Laws.BitsAllLaws
namespace Go.Proofs.Ytgbnkoeidejhfaa
open Go.RowKit

/-- Where the highest bit stands. -/
theorem lead_spec (y : Nat) (h0 : 0 < y) (h1 : y < 9223372036854775808) : ∃ s : Nat, 64 - (Lib.bitLen y : Int) = (s : Int) ∧ 1 ≤ s ∧ s ≤ 63 ∧ 9223372036854775808 ≤ y * 2 ^ s ∧ y * 2 ^ s < 18446744073709551616 := by
  obtain ⟨ha, hb, hc⟩ := Lib.bitLenAux_bounds 64 y (by omega) (by omega)
  have hd := Lib.bitLen_le y 63 (by omega) (by omega)
  have he : Lib.bitLenAux 64 y = Lib.bitLen y := rfl
  rw [he] at ha hb hc
  generalize Lib.bitLen y = L at *
  refine ⟨64 - L, by omega, by omega, by omega, ?_, ?_⟩
  · calc 9223372036854775808 = 2 ^ (L - 1) * 2 ^ (64 - L) := by rw [← Nat.pow_add, show L - 1 + (64 - L) = 63 by omega]
      _ ≤ y * 2 ^ (64 - L) := Nat.mul_le_mul_right _ hb
  · calc y * 2 ^ (64 - L) < 2 ^ L * 2 ^ (64 - L) := Nat.mul_lt_mul_of_pos_right hc (Nat.two_pow_pos _)
      _ = 18446744073709551616 := by rw [← Nat.pow_add, show L + (64 - L) = 64 by omega]

theorem u64_mask32 (x : Nat) (hx : x < 18446744073709551616) : bits .and .u64 (x : Int) 4294967295 = ((x % 4294967296 : Nat) : Int) := by
  show IntKind.u64.wrap ((BitVec.ofInt 64 (x : Int) &&& BitVec.ofInt 64 ((4294967295 : Nat) : Int)).toNat : Int) = _
  rw [BitVec.toNat_and, ofInt_u64 x hx, ofInt_u64 4294967295 (by omega), show 4294967295 = 2 ^ 32 - 1 from rfl, Nat.and_two_pow_sub_one_eq_mod, IntKind.wrap_u64]
  omega

set_option maxRecDepth 100000 in
set_option maxHeartbeats 2000000 in
theorem div_any (hi lo y : Nat) (w : World) (hl : lo < 18446744073709551616) (hy : hi < y) (hy2 : y ≤ 4611686018427387904) :
    Calls Try.prog 64 #[.int .u64 (hi : Int), .int .u64 (lo : Int), .int .u64 (y : Int)] w fun e w' =>
      e = .returned (.tuple #[.int .u64 (((hi * 18446744073709551616 + lo) / y : Nat) : Int), .int .u64 (((hi * 18446744073709551616 + lo) % y : Nat) : Int)]) ∧ ∃ n, w' = w.drewN n := by
  have t1 : ((y : Int) == 0) = false := by rw [beq_eq_false_iff_ne]; omega
  have t2 : decide ((y : Int) ≤ (hi : Int)) = false := decide_eq_false (by omega)
  by_cases h0 : hi = 0
  · subst h0
    go_enter Try.func64, Try.ntmps64
    go_wp2_with fail
    go_quiet (fail)
    go_wp2_with fail
    go_ret2
    refine ⟨?_, _, rfl⟩
    have e1 : IntKind.u64.wrap ((lo : Int) / (y : Int)) = (((0 * 18446744073709551616 + lo) / y : Nat) : Int) := by
      rw [Nat.zero_mul, Nat.zero_add, IntKind.wrap_u64]
      have : lo / y ≤ lo := Nat.div_le_self _ _
      have h2 : (lo : Int) / (y : Int) = ((lo / y : Nat) : Int) := rfl
      rw [h2]
      generalize lo / y = c at *
      omega
    have e2 : (lo : Int) % (y : Int) = (((0 * 18446744073709551616 + lo) % y : Nat) : Int) := by rw [Nat.zero_mul, Nat.zero_add]; rfl
    rw [← e1, ← e2]
    rfl
  have t3 : ((hi : Int) == 0) = false := by rw [beq_eq_false_iff_ne]; omega
  obtain ⟨s, hs, hs1, hs2, hY1, hY2⟩ := lead_spec y (by omega) (by omega)
  have hp0 : 0 < 2 ^ s := Nat.two_pow_pos s
  have hp1 : 0 < 2 ^ (64 - s) := Nat.two_pow_pos _
  have hpp : 2 ^ s * 2 ^ (64 - s) = 18446744073709551616 := by rw [← Nat.pow_add, show s + (64 - s) = 64 by omega]
  obtain ⟨Y, hY⟩ : ∃ Y, Y = y * 2 ^ s := ⟨_, rfl⟩
  rw [← hY] at hY1 hY2
  have f0 : IntKind.u64.wrap ((y : Int) * 2 ^ s) = (Y : Int) := by
    rw [IntKind.wrap_u64, show (y : Int) * 2 ^ s = (Y : Int) from by rw [hY]; push_cast; rfl]; omega
  obtain ⟨yn1, hyn1⟩ : ∃ c, c = Y / 4294967296 := ⟨_, rfl⟩
  obtain ⟨yn0, hyn0⟩ : ∃ c, c = Y % 4294967296 := ⟨_, rfl⟩
  have hYe : Y = yn1 * 4294967296 + yn0 := by omega
  have b1 : 2147483648 ≤ yn1 := by omega
  have b2 : yn1 < 4294967296 := by omega
  have b3 : yn0 < 4294967296 := by omega
  have f1 : (Y : Int) / 4294967296 = (yn1 : Int) := by omega
  have f2 : bits .and .u64 (Y : Int) 4294967295 = (yn0 : Int) := by rw [u64_mask32 Y hY2, hyn0]
  obtain ⟨h2, hh2⟩ : ∃ c, c = hi * 2 ^ s := ⟨_, rfl⟩
  obtain ⟨l2, hl2⟩ : ∃ c, c = lo / 2 ^ (64 - s) := ⟨_, rfl⟩
  have hl2b : l2 < 2 ^ s := by rw [hl2, Nat.div_lt_iff_lt_mul hp1, hpp]; exact hl
  have hun : h2 + l2 < Y := by
    have : (hi + 1) * 2 ^ s ≤ y * 2 ^ s := Nat.mul_le_mul_right _ hy
    rw [Nat.add_mul, ← hh2, ← hY] at this
    omega
  have f3 : IntKind.u64.wrap ((hi : Int) * 2 ^ s) = (h2 : Int) := by
    rw [IntKind.wrap_u64, show (hi : Int) * 2 ^ s = (h2 : Int) from by rw [hh2]; push_cast; rfl]; omega
  have f4 : (lo : Int) / 2 ^ (64 - s) = (l2 : Int) := by rw [hl2]; push_cast; rfl
  have f5 : (64 - (s : Int)).toNat = 64 - s := by omega
  have f5b : IntKind.u64.wrap (64 - (s : Int)) = 64 - (s : Int) := by rw [IntKind.wrap_u64]; omega
  obtain ⟨un, hun2⟩ : ∃ c, c = h2 + l2 := ⟨_, rfl⟩
  have f6 : bits .or .u64 (h2 : Int) (l2 : Int) = (un : Int) := by
    rw [u64_or_nat h2 l2 (by omega) (by omega), hun2, hh2]
    rw [hh2] at hun2
    have := Nat.shiftLeft_add_eq_or_of_lt hl2b hi
    rw [Nat.shiftLeft_eq] at this
    rw [this]
  rw [← hun2] at hun
  obtain ⟨u10, hu10⟩ : ∃ c, c = lo * 2 ^ s % 18446744073709551616 := ⟨_, rfl⟩
  have f7 : IntKind.u64.wrap ((lo : Int) * 2 ^ s) = (u10 : Int) := by
    rw [IntKind.wrap_u64, show (lo : Int) * 2 ^ s = ((lo * 2 ^ s : Nat) : Int) from by push_cast; rfl, hu10]; rfl
  have hu10b : u10 < 18446744073709551616 := by rw [hu10]; exact Nat.mod_lt _ (by omega)
  obtain ⟨u1, hu1⟩ : ∃ c, c = u10 / 4294967296 := ⟨_, rfl⟩
  obtain ⟨u0, hu0⟩ : ∃ c, c = u10 % 4294967296 := ⟨_, rfl⟩
  have b4 : u1 < 4294967296 := by omega
  have b5 : u0 < 4294967296 := by omega
  have f8 : (u10 : Int) / 4294967296 = (u1 : Int) := by omega
  have f9 : bits .and .u64 (u10 : Int) 4294967295 = (u0 : Int) := by rw [u64_mask32 u10 hu10b, hu0]
  have hN : (hi * 18446744073709551616 + lo) * 2 ^ s = (un * 4294967296 + u1) * 4294967296 + u0 := by
    have e1 : lo * 2 ^ s = l2 * 18446744073709551616 + u10 := by
      have h1 := Nat.div_add_mod (lo * 2 ^ s) 18446744073709551616
      have h2 : lo * 2 ^ s / 18446744073709551616 = l2 := by
        rw [hl2, ← hpp, Nat.mul_comm lo, Nat.mul_div_mul_left _ _ hp0]
      rw [h2, ← hu10] at h1
      omega
    rw [Nat.add_mul, e1, Nat.mul_right_comm, ← hh2]
    omega
  have hdig := digits (B := 4294967296) (U := un * 4294967296 + u1) (u0 := u0) hY (by omega) hN
  obtain ⟨Qd, hQd⟩ : ∃ c, c = (un * 4294967296 + u1) / Y := ⟨_, rfl⟩
  obtain ⟨U1, hU1⟩ : ∃ c, c = (un * 4294967296 + u1) % Y := ⟨_, rfl⟩
  have hU1b : U1 < Y := by rw [hU1]; exact Nat.mod_lt _ (by omega)
  have hdm1 := Nat.div_add_mod (un * 4294967296 + u1) Y
  rw [← hQd, ← hU1] at hdm1
  rw [← hQd, ← hU1] at hdig
  obtain ⟨Qe, hQe⟩ : ∃ c, c = (U1 * 4294967296 + u0) / Y := ⟨_, rfl⟩
  obtain ⟨U2, hU2⟩ : ∃ c, c = (U1 * 4294967296 + u0) % Y := ⟨_, rfl⟩
  have hU2b : U2 < Y := by rw [hU2]; exact Nat.mod_lt _ (by omega)
  have hdm2 := Nat.div_add_mod (U1 * 4294967296 + u0) Y
  rw [← hQe, ← hU2] at hdm2
  rw [← hQe, ← hU2] at hdig
  have hQdb : Qd < 4294967296 := by rw [hQd, hYe]; exact digit_lt (by omega) b4
  have hQeb : Qe < 4294967296 := by rw [hQe, hYe]; exact digit_lt (by omega) b5
  -- the first digit
  obtain ⟨qa, hqa⟩ : ∃ c, c = un / yn1 := ⟨_, rfl⟩
  obtain ⟨ra, hra⟩ : ∃ c, c = un % yn1 := ⟨_, rfl⟩
  have D1 : Dig 4294967296 un yn1 yn0 u1 qa ra := by rw [hqa, hra]; exact Dig.first (by omega) b4 b3 (by omega) b2
  obtain ⟨ma, hma⟩ : ∃ c, c = qa * yn1 := ⟨_, rfl⟩
  have hma2 : ma + ra = un := by rw [hma]; exact D1.eq
  have g1 : (un : Int) / (yn1 : Int) = (qa : Int) := by rw [hqa]; rfl
  have g2 : IntKind.u64.wrap ((qa : Int) * (yn1 : Int)) = (ma : Int) := by
    rw [IntKind.wrap_u64, show (qa : Int) * (yn1 : Int) = (ma : Int) from by rw [hma]; push_cast; rfl]; omega
  have g3 : (un : Int) - (ma : Int) = (ra : Int) := by omega
  -- the second digit
  obtain ⟨qb, hqb⟩ : ∃ c, c = U1 / yn1 := ⟨_, rfl⟩
  obtain ⟨rb, hrb⟩ : ∃ c, c = U1 % yn1 := ⟨_, rfl⟩
  have D2 : Dig 4294967296 U1 yn1 yn0 u0 qb rb := by rw [hqb, hrb]; exact Dig.first (by omega) b5 b3 (by omega) b2
  obtain ⟨mb, hmb⟩ : ∃ c, c = qb * yn1 := ⟨_, rfl⟩
  have hmb2 : mb + rb = U1 := by rw [hmb]; exact D2.eq
  have g4 : (U1 : Int) / (yn1 : Int) = (qb : Int) := by rw [hqb]; rfl
  have g5 : IntKind.u64.wrap ((qb : Int) * (yn1 : Int)) = (mb : Int) := by
    rw [IntKind.wrap_u64, show (qb : Int) * (yn1 : Int) = (mb : Int) from by rw [hmb]; push_cast; rfl]; omega
  have g6 : (U1 : Int) - (mb : Int) = (rb : Int) := by omega
  -- what is left behind the first
  obtain ⟨P1, hP1⟩ : ∃ c, c = Y * Qd := ⟨_, rfl⟩
  rw [← hP1] at hdm1
  obtain ⟨k1, hk1⟩ : ∃ c, c = un * 4294967296 % 18446744073709551616 := ⟨_, rfl⟩
  obtain ⟨k2, hk2⟩ : ∃ c, c = (k1 + u1) % 18446744073709551616 := ⟨_, rfl⟩
  obtain ⟨k3, hk3⟩ : ∃ c, c = P1 % 18446744073709551616 := ⟨_, rfl⟩
  have m1 : IntKind.u64.wrap ((un : Int) * 4294967296) = (k1 : Int) := by rw [IntKind.wrap_u64]; omega
  have m2 : IntKind.u64.wrap ((k1 : Int) + (u1 : Int)) = (k2 : Int) := by rw [IntKind.wrap_u64]; omega
  have m3 : IntKind.u64.wrap ((Qd : Int) * (Y : Int)) = (k3 : Int) := by
    rw [IntKind.wrap_u64, show (Qd : Int) * (Y : Int) = (P1 : Int) from by rw [hP1, Nat.mul_comm]; push_cast; rfl]; omega
  have m4 : IntKind.u64.wrap ((k2 : Int) - (k3 : Int)) = (U1 : Int) := by rw [IntKind.wrap_u64]; omega
  obtain ⟨P2, hP2⟩ : ∃ c, c = Y * Qe := ⟨_, rfl⟩
  rw [← hP2] at hdm2
  obtain ⟨k4, hk4⟩ : ∃ c, c = U1 * 4294967296 % 18446744073709551616 := ⟨_, rfl⟩
  obtain ⟨k5, hk5⟩ : ∃ c, c = (k4 + u0) % 18446744073709551616 := ⟨_, rfl⟩
  obtain ⟨k6, hk6⟩ : ∃ c, c = P2 % 18446744073709551616 := ⟨_, rfl⟩
  have m5 : IntKind.u64.wrap ((U1 : Int) * 4294967296) = (k4 : Int) := by rw [IntKind.wrap_u64]; omega
  have m6 : IntKind.u64.wrap ((k4 : Int) + (u0 : Int)) = (k5 : Int) := by rw [IntKind.wrap_u64]; omega
  have m7 : IntKind.u64.wrap ((Qe : Int) * (Y : Int)) = (k6 : Int) := by
    rw [IntKind.wrap_u64, show (Qe : Int) * (Y : Int) = (P2 : Int) from by rw [hP2, Nat.mul_comm]; push_cast; rfl]; omega
  have m8 : IntKind.u64.wrap ((k5 : Int) - (k6 : Int)) = (U2 : Int) := by rw [IntKind.wrap_u64]; omega
  have m9 : (U2 : Int) / 2 ^ s = ((U2 / 2 ^ s : Nat) : Int) := by push_cast; rfl
  rw [← hdig.1, ← hdig.2]
  obtain ⟨V, hV⟩ : ∃ c, c = U2 / 2 ^ s := ⟨_, rfl⟩
  rw [← hV] at m9 ⊢
  have hqab := D1.q
  have hqbb := D2.q
  have w1 : IntKind.u64.wrap (qa : Int) = (qa : Int) := by rw [IntKind.wrap_u64]; omega
  have w2 : IntKind.u64.wrap (qb : Int) = (qb : Int) := by rw [IntKind.wrap_u64]; omega
  have HD1 := Lib.hid D1
  have HD2 := Lib.hid D2
  have HQd := Lib.hid hQd
  have HQe := Lib.hid hQe
  rw [hYe] at HQd HQe
  have huny : un < yn1 * 4294967296 + yn0 := by omega
  have hU1y : U1 < yn1 * 4294967296 + yn0 := by omega
  clear hV hdig hk1 hk2 hk3 hk4 hk5 hk6 hP1 hP2 hmb2 hmb hqb hrb hma hma2 hqa hra D1 D2 hdm1 hdm2 hQd hQe hU1 hU2 hN hu1 hu0 hu10 hun2 hl2 hh2 hYe hyn1 hyn0 hY hpp hp0 hp1 hl2b
  go_enter Try.func64, Try.ntmps64
  go_wp2_with fail
  refine (Try.bits_LeadingZeros64 (y : Int) _ (by omega) (by omega)).mono ?_
  rintro e w' ⟨rfl, rfl⟩
  rw [Int.toNat_natCast, hs]
  clear hs
  go_wp2_with fail
  refine divLoop0_any un yn1 yn0 u1 qa ra Qd _ _ huny b4 b3 (by omega) b2 HD1.out HQd.out _ _ _ _ _ _ _ _ _ _ _ _ _ _ _ _ _ _ _ _ _ _ _ _ _ _ _ _ _ _ _ _ _ _ _ _ _ _ _ _ _ _ _ _ _ _ _ _ _ _ _ _ _ _ _ _ _ _ _ _ _ _ _ _ _ _ _ _ _ _ _ _ _ _ _ _ _ _ _ _ _ _ _ _ _ _ _ _ _ _ _ _ _ _ _ _ _ _ _ _ _ _ _ _ _ _ _ _ _ _ _ _ _ _ _ _ _ _ _ _ _ _ _ _ _ _ _ _ _ ?_
  intro v16 v67 v68 v69 v70 v71 v72 v73 v74 v75 v76 v77 v78 v79 v80 v81 v82 v83 v84 v85
  go_wp2_with fail
  refine divLoop1_any U1 yn1 yn0 u0 qb rb Qe _ _ hU1y b5 b3 (by omega) b2 HD2.out HQe.out _ _ _ _ _ _ _ _ _ _ _ _ _ _ _ _ _ _ _ _ _ _ _ _ _ _ _ _ _ _ _ _ _ _ _ _ _ _ _ _ _ _ _ _ _ _ _ _ _ _ _ _ _ _ _ _ _ _ _ _ _ _ _ _ _ _ _ _ _ _ _ _ _ _ _ _ _ _ _ _ _ _ _ _ _ _ _ _ _ _ _ _ _ _ _ _ _ _ _ _ _ _ _ _ _ _ _ _ _ _ _ _ _ _ _ _ _ _ _ _ _ _ _ _ _ _ _ _ _ ?_
  intro y16 y102 y103 y104 y105 y106 y107 y108 y109 y110 y111 y112 y113 y114 y115 y116 y117 y118 y119 y120
  go_wp2_with fail
  go_ret2
  refine ⟨?_, 0, ?_⟩
  · rw [Int.natCast_add, Int.natCast_mul]; rfl
  · rfl
end Go.Proofs.Ytgbnkoeidejhfaa
