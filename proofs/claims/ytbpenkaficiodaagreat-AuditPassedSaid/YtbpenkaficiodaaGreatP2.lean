/- Joined texts, part 2: contracts of the functions that the laws reach, and what is needed for them. -/
import Derived.ProofKit
import Derived.OpenShut
import Derived.ChangeOld
import Derived.Below
import Derived.Carry
import Derived.SizedLaws
import Derived.StillTailTactics
import Derived.Defers
import Derived.Laws.LoneSync
import Derived.Laws.CopyOwn
import Derived.Test.YtbpenkaficiodaaGreatP1
/- Arithmetic modulo a number: the program's and the reference's sums and products. -/
namespace Go.Proofs.YtbpenkaficiodaaGreat
open Go.RowKit

def rightB (m : Nat) : Bool := decide (2 ≤ m) && decide (m ≤ 4611686018427387904)
theorem rightB_yes {m : Nat} (h : rightB m = true) : 2 ≤ m ∧ m ≤ 4611686018427387904 := by simpa [rightB] using h
theorem rightB_no {m : Nat} (h : rightB m = false) : m < 2 ∨ 4611686018427387904 < m := by
  simp [rightB] at h
  omega
def addM (a b m : Nat) : Nat := if rightB m then (a + b) % m else 0
def mulM (a b m : Nat) : Nat := if rightB m then a * b % m else 0
theorem addM_yes {a b m : Nat} (h : rightB m = true) : addM a b m = (a + b) % m := if_pos h
theorem mulM_yes {a b m : Nat} (h : rightB m = true) : mulM a b m = a * b % m := if_pos h
theorem addM_no {a b m : Nat} (h : rightB m = false) : addM a b m = 0 := if_neg (by rw [h]; simp)
theorem mulM_no {a b m : Nat} (h : rightB m = false) : mulM a b m = 0 := if_neg (by rw [h]; simp)
theorem addM_lt (a b m : Nat) : addM a b m ≤ 4611686018427387904 := by
  cases h : rightB m with
  | true => rw [addM_yes h]; have := rightB_yes h; have := Nat.mod_lt (a + b) (show 0 < m by omega); omega
  | false => rw [addM_no h]; omega
theorem mulM_lt (a b m : Nat) : mulM a b m ≤ 4611686018427387904 := by
  cases h : rightB m with
  | true => rw [mulM_yes h]; have := rightB_yes h; have := Nat.mod_lt (a * b) (show 0 < m by omega); omega
  | false => rw [mulM_no h]; omega

set_option maxRecDepth 100000 in
set_option maxHeartbeats 400000 in
theorem right_any (m : Nat) (w : World) : Calls Tryz.prog 155 #[.int .u64 (m : Int)] w fun e w' => e = .returned (.bool (rightB m)) ∧ w = w' := by
  by_cases h1 : 2 ≤ m
  · have d1 : decide ((2 : Int) ≤ (m : Int)) = true := decide_eq_true (by omega)
    by_cases h2 : m ≤ 4611686018427387904
    · have d2 : decide ((m : Int) ≤ 4611686018427387904) = true := decide_eq_true (by omega)
      have hr : rightB m = true := by simp [rightB, h1, h2]
      rw [hr]
      clear hr
      go_enter Tryz.func155, Tryz.ntmps155
      go_wp2_with fail
      go_ret
      exact ⟨rfl, rfl⟩
    · have d2 : decide ((m : Int) ≤ 4611686018427387904) = false := decide_eq_false (by omega)
      have hr : rightB m = false := by simp [rightB]; omega
      rw [hr]
      clear hr
      go_enter Tryz.func155, Tryz.ntmps155
      go_wp2_with fail
      go_ret
      exact ⟨rfl, rfl⟩
  · have d1 : decide ((2 : Int) ≤ (m : Int)) = false := decide_eq_false (by omega)
    have hr : rightB m = false := by simp [rightB]; omega
    rw [hr]
    clear hr
    go_enter Tryz.func155, Tryz.ntmps155
    go_wp2_with fail
    go_ret
    exact ⟨rfl, rfl⟩

set_option maxRecDepth 100000 in
set_option maxHeartbeats 400000 in
theorem add_any (a b m : Nat) (w : World) (ha : a < 18446744073709551616) (hb : b < 18446744073709551616) (hm : m < 18446744073709551616) :
    Calls Tryz.prog 128 #[.int .u64 (a : Int), .int .u64 (b : Int), .int .u64 (m : Int)] w fun e w' => e = .returned (.int .u64 (addM a b m : Int)) ∧ ∃ n, w' = w.drewN n := by
  cases hr : rightB m with
  | false =>
    rw [addM_no hr]
    have Hr := Lib.hid hr
    clear hr
    go_enter Tryz.func128, Tryz.ntmps128
    go_wp2_with fail
    refine (right_any m _).mono ?_
    rintro e w' ⟨rfl, rfl⟩
    rw [Hr.out]
    go_wp2_with fail
    go_ret
    exact ⟨rfl, 0, rfl⟩
  | true =>
    rw [addM_yes hr]
    obtain ⟨hm1, hm2⟩ := rightB_yes hr
    have Hr := Lib.hid hr
    clear hr
    obtain ⟨x, hx⟩ : ∃ x, x = a % m := ⟨_, rfl⟩
    obtain ⟨y, hy⟩ : ∃ y, y = b % m := ⟨_, rfl⟩
    have hxl : x < m := by rw [hx]; exact Nat.mod_lt _ (by omega)
    have hyl : y < m := by rw [hy]; exact Nat.mod_lt _ (by omega)
    have e1 : (a : Int) % (m : Int) = (x : Int) := by rw [hx]; rfl
    have e2 : (b : Int) % (m : Int) = (y : Int) := by rw [hy]; rfl
    have e3 : IntKind.u64.wrap ((x : Int) + (y : Int)) = (x : Int) + (y : Int) := by rw [IntKind.wrap_u64]; omega
    have hres : (a + b) % m = (x + y) % m := by rw [hx, hy, Nat.add_mod]
    have Hres := Lib.hid hres
    have e4 : ((x : Int) + (y : Int)) % (m : Int) = (((x + y) % m : Nat) : Int) := by push_cast; rfl
    have E4 := Lib.hid e4
    have q0 : 0 < m := by omega
    clear hx hy hres e4
    go_enter Tryz.func128, Tryz.ntmps128
    go_wp2_with fail
    refine (right_any m _).mono ?_
    rintro e w' ⟨rfl, rfl⟩
    rw [Hr.out]
    go_wp2_with fail
    go_quiet (fail)
    go_wp2_with fail
    go_ret
    refine ⟨?_, _, rfl⟩
    rw [Hres.out, ← E4.out]
    rfl

set_option maxRecDepth 100000 in
set_option maxHeartbeats 400000 in
theorem times_any (a b m : Nat) (w : World) (ha : a < m) (hb : b < m) (hm : m ≤ 4611686018427387904) :
    Calls Tryz.prog 156 #[.int .u64 (a : Int), .int .u64 (b : Int), .int .u64 (m : Int)] w fun e w' => e = .returned (.int .u64 ((a * b % m : Nat) : Int)) ∧ ∃ n, w' = w.drewN n := by
  have hab : a * b < m * m := Nat.mul_lt_mul'' ha hb
  have hmm : m * m ≤ m * 18446744073709551616 := Nat.mul_le_mul_left _ (by omega)
  obtain ⟨p, hp⟩ : ∃ p, p = a * b := ⟨_, rfl⟩
  have hpm : p / 18446744073709551616 < m := by
    rw [Nat.div_lt_iff_lt_mul (by omega), hp]
    exact Nat.lt_of_lt_of_le hab hmm
  have hdm := Nat.div_add_mod p 18446744073709551616
  rw [← hp]
  have Hp := Lib.hid hp
  clear hab hmm hp
  go_enter Tryz.func156, Tryz.ntmps156
  go_wp2_with fail
  refine (mul_named a b (by omega) (by omega) _).mono ?_
  rintro e w' ⟨h, l, rfl, Hh, rfl⟩
  have hh := Hh.out
  rw [← Hp.out] at hh
  obtain ⟨hh1, hh2⟩ := hh
  have hlb : l < 18446744073709551616 := by rw [hh2]; exact Nat.mod_lt _ (by omega)
  have hhm : h < m := by rw [hh1]; exact hpm
  have hpe : h * 18446744073709551616 + l = p := by omega
  have Hpe := Lib.hid hpe
  clear hh1 hh2 hpe hdm Hh hpm
  go_wp2_with fail
  refine (div_any h l m _ hlb hhm hm).mono ?_
  rintro e w1 ⟨rfl, n, rfl⟩
  rw [Hpe.out]
  go_wp2_with fail
  go_ret
  exact ⟨rfl, n, rfl⟩

set_option maxRecDepth 100000 in
set_option maxHeartbeats 400000 in
theorem mul_any (a b m : Nat) (w : World) (ha : a < 18446744073709551616) (hb : b < 18446744073709551616) (hm : m < 18446744073709551616) :
    Calls Tryz.prog 99 #[.int .u64 (a : Int), .int .u64 (b : Int), .int .u64 (m : Int)] w fun e w' => e = .returned (.int .u64 (mulM a b m : Int)) ∧ ∃ n, w' = w.drewN n := by
  cases hr : rightB m with
  | false =>
    rw [mulM_no hr]
    have Hr := Lib.hid hr
    clear hr
    go_enter Tryz.func99, Tryz.ntmps99
    go_wp2_with fail
    refine (right_any m _).mono ?_
    rintro e w' ⟨rfl, rfl⟩
    rw [Hr.out]
    go_wp2_with fail
    go_ret
    exact ⟨rfl, 0, rfl⟩
  | true =>
    rw [mulM_yes hr]
    obtain ⟨hm1, hm2⟩ := rightB_yes hr
    have Hr := Lib.hid hr
    clear hr
    obtain ⟨x, hx⟩ : ∃ x, x = a % m := ⟨_, rfl⟩
    obtain ⟨y, hy⟩ : ∃ y, y = b % m := ⟨_, rfl⟩
    have hxl : x < m := by rw [hx]; exact Nat.mod_lt _ (by omega)
    have hyl : y < m := by rw [hy]; exact Nat.mod_lt _ (by omega)
    have e1 : (a : Int) % (m : Int) = (x : Int) := by rw [hx]; rfl
    have e2 : (b : Int) % (m : Int) = (y : Int) := by rw [hy]; rfl
    have hres : a * b % m = x * y % m := by rw [hx, hy, ← Nat.mul_mod]
    have Hres := Lib.hid hres
    have q0 : 0 < m := by omega
    clear hx hy hres
    rw [Hres.out]
    go_enter Tryz.func99, Tryz.ntmps99
    go_wp2_with fail
    refine (right_any m _).mono ?_
    rintro e w' ⟨rfl, rfl⟩
    rw [Hr.out]
    go_wp2_with fail
    go_quiet ((exact Calls.quiet_of (times_any x y m _ hxl hyl hm2)))
    go_wp2_with fail
    go_ret
    exact ⟨rfl, _, rfl⟩
end Go.Proofs.YtbpenkaficiodaaGreat

/- Powers and inverses modulo a number: the law, without a program. -/
namespace Go.Proofs.YtbpenkaficiodaaGreat

def subM (a b m : Nat) : Nat := if rightB m then (a % m + m - b % m) % m else 0
def powM (a e m : Nat) : Nat := if rightB m then a ^ e % m else 0
theorem subM_yes {a b m : Nat} (h : rightB m = true) : subM a b m = (a % m + m - b % m) % m := if_pos h
theorem subM_no {a b m : Nat} (h : rightB m = false) : subM a b m = 0 := if_neg (by rw [h]; simp)
theorem powM_yes {a e m : Nat} (h : rightB m = true) : powM a e m = a ^ e % m := if_pos h
theorem powM_no {a e m : Nat} (h : rightB m = false) : powM a e m = 0 := if_neg (by rw [h]; simp)
theorem subM_le (a b m : Nat) : subM a b m ≤ 4611686018427387904 := by
  cases h : rightB m with
  | true => rw [subM_yes h]; have := rightB_yes h; have := Nat.mod_lt (a % m + m - b % m) (show 0 < m by omega); omega
  | false => rw [subM_no h]; omega
theorem powM_le (a e m : Nat) : powM a e m ≤ 4611686018427387904 := by
  cases h : rightB m with
  | true => rw [powM_yes h]; have := rightB_yes h; have := Nat.mod_lt (a ^ e) (show 0 < m by omega); omega
  | false => rw [powM_no h]; omega

/-- What a power's loop keeps: r a^e, modulo m. -/
def PowS (r a e m c : Nat) : Prop := r * a ^ e % m = c
theorem powS_start {a e m : Nat} : PowS 1 (a % m) e m (a ^ e % m) := by
  unfold PowS
  rw [Nat.one_mul, ← Nat.pow_mod]
theorem powS_even {r a e m c : Nat} (h : PowS r a e m c) (he : e % 2 = 0) : PowS r (a * a % m) (e / 2) m c := by
  unfold PowS at *
  rw [← h]
  have hp : a ^ e = (a * a) ^ (e / 2) := by
    rw [← Nat.pow_two, ← Nat.pow_mul, show 2 * (e / 2) = e by omega]
  rw [hp, Nat.mul_mod, ← Nat.pow_mod, ← Nat.mul_mod]
theorem powS_odd {r a e m c : Nat} (h : PowS r a e m c) (he : e % 2 = 1) : PowS (r * a % m) (a * a % m) (e / 2) m c := by
  have h2 : PowS (r * a % m) a (e - 1) m c := by
    unfold PowS at *
    rw [← h]
    have hp : a ^ e = a * a ^ (e - 1) := by
      rw [← Nat.pow_succ', show (e - 1).succ = e by omega]
    rw [hp, ← Nat.mul_assoc, Nat.mod_mul_mod]
  have h3 := powS_even h2 (by omega)
  rwa [show (e - 1) / 2 = e / 2 by omega] at h3
theorem powS_end {r a m c : Nat} (h : PowS r a 0 m c) (hr : r < m) : r = c := by
  unfold PowS at h
  rw [Nat.pow_zero, Nat.mul_one, Nat.mod_eq_of_lt hr] at h
  exact h

/-- Euclid's way: what is left at the end, and how often a is in it. -/
def invL (m : Nat) (before now was is : Nat) : Nat × Nat :=
  if h : now = 0 then (before, was) else invL m now (before % now) is (subM was (before / now * is % m) m)
termination_by now
decreasing_by exact Nat.mod_lt _ (Nat.pos_of_ne_zero h)
def invM (a m : Nat) : Nat × Bool := if rightB m then (if (invL m m (a % m) 0 1).1 = 1 then ((invL m m (a % m) 0 1).2, true) else (0, false)) else (0, false)
theorem invL_zero (m before was is : Nat) : invL m before 0 was is = (before, was) := by rw [invL]; simp
theorem invL_step (m before now was is : Nat) (h : now ≠ 0) : invL m before now was is = invL m now (before % now) is (subM was (before / now * is % m) m) := by
  rw [invL, dif_neg h]
theorem invM_no {a m : Nat} (h : rightB m = false) : invM a m = (0, false) := if_neg (by rw [h]; simp)
theorem invM_of {a m b x : Nat} (h : rightB m = true) (hl : invL m m (a % m) 0 1 = (b, x)) : invM a m = if b = 1 then (x, true) else (0, false) := by
  rw [invM, if_pos h, hl]
end Go.Proofs.YtbpenkaficiodaaGreat

/- Differences, powers and inverses modulo a number: the program's walks. -/
namespace Go.Proofs.YtbpenkaficiodaaGreat
open Go.RowKit

theorem u64_and_one (i : Nat) (hi : i < 18446744073709551616) : bits .and .u64 (i : Int) 1 = ((i % 2 : Nat) : Int) := by
  show IntKind.u64.wrap ((BitVec.ofInt 64 (i : Int) &&& BitVec.ofInt 64 ((1 : Nat) : Int)).toNat : Int) = _
  rw [BitVec.toNat_and, ofInt_u64 i hi, ofInt_u64 1 (by omega), Nat.and_one_is_mod, IntKind.wrap_u64]
  omega

set_option maxRecDepth 100000 in
set_option maxHeartbeats 400000 in
theorem sub_any (a b m : Nat) (w : World) (ha : a < 18446744073709551616) (hb : b < 18446744073709551616) (hm : m < 18446744073709551616) :
    Calls Tryz.prog 129 #[.int .u64 (a : Int), .int .u64 (b : Int), .int .u64 (m : Int)] w fun e w' => e = .returned (.int .u64 (subM a b m : Int)) ∧ ∃ n, w' = w.drewN n := by
  cases hr : rightB m with
  | false =>
    rw [subM_no hr]
    have Hr := Lib.hid hr
    clear hr
    go_enter Tryz.func129, Tryz.ntmps129
    go_wp2_with fail
    refine (right_any m _).mono ?_
    rintro e w' ⟨rfl, rfl⟩
    rw [Hr.out]
    go_wp2_with fail
    go_ret
    exact ⟨rfl, 0, rfl⟩
  | true =>
    rw [subM_yes hr]
    obtain ⟨hm1, hm2⟩ := rightB_yes hr
    have Hr := Lib.hid hr
    clear hr
    obtain ⟨x, hx⟩ : ∃ x, x = a % m := ⟨_, rfl⟩
    obtain ⟨y, hy⟩ : ∃ y, y = b % m := ⟨_, rfl⟩
    have hxl : x < m := by rw [hx]; exact Nat.mod_lt _ (by omega)
    have hyl : y < m := by rw [hy]; exact Nat.mod_lt _ (by omega)
    have e1 : (a : Int) % (m : Int) = (x : Int) := by rw [hx]; rfl
    have e2 : (b : Int) % (m : Int) = (y : Int) := by rw [hy]; rfl
    have e3 : IntKind.u64.wrap ((x : Int) + (m : Int)) = (x : Int) + (m : Int) := by rw [IntKind.wrap_u64]; omega
    obtain ⟨z, hz⟩ : ∃ z, z = x + m - y := ⟨_, rfl⟩
    have e4 : IntKind.u64.wrap ((x : Int) + (m : Int) - (y : Int)) = (z : Int) := by rw [IntKind.wrap_u64]; omega
    rw [← hx, ← hy, ← hz]
    have e5 : (z : Int) % (m : Int) = ((z % m : Nat) : Int) := by push_cast; rfl
    have E5 := Lib.hid e5
    have q0 : 0 < m := by omega
    clear hx hy hz e5
    go_enter Tryz.func129, Tryz.ntmps129
    go_wp2_with fail
    refine (right_any m _).mono ?_
    rintro e w' ⟨rfl, rfl⟩
    rw [Hr.out]
    go_wp2_with fail
    go_quiet (fail)
    go_wp2_with fail
    go_ret
    refine ⟨?_, _, rfl⟩
    rw [← E5.out]
    rfl

set_option maxRecDepth 100000 in
set_option maxHeartbeats 1000000 in
theorem pow_any (a e0 m : Nat) (w : World) (ha : a < 18446744073709551616) (he : e0 < 18446744073709551616) (hm : m < 18446744073709551616) :
    Calls Tryz.prog 103 #[.int .u64 (a : Int), .int .u64 (e0 : Int), .int .u64 (m : Int)] w fun e w' => e = .returned (.int .u64 (powM a e0 m : Int)) ∧ ∃ n, w' = w.drewN n := by
  cases hr : rightB m with
  | false =>
    rw [powM_no hr]
    have Hr := Lib.hid hr
    clear hr
    go_enter Tryz.func103, Tryz.ntmps103
    go_wp2_with fail
    refine (right_any m _).mono ?_
    rintro e w' ⟨rfl, rfl⟩
    rw [Hr.out]
    go_wp2_with fail
    go_ret
    exact ⟨rfl, 0, rfl⟩
  | true =>
    rw [powM_yes hr]
    obtain ⟨hm1, hm2⟩ := rightB_yes hr
    have Hr := Lib.hid hr
    clear hr
    obtain ⟨x, hx⟩ : ∃ x, x = a % m := ⟨_, rfl⟩
    have hxl : x < m := by rw [hx]; exact Nat.mod_lt _ (by omega)
    have e1 : (a : Int) % (m : Int) = (x : Int) := by rw [hx]; rfl
    obtain ⟨c, hc⟩ : ∃ c, c = a ^ e0 % m := ⟨_, rfl⟩
    have hst : PowS 1 x e0 m c := by rw [hx, hc]; exact powS_start
    rw [← hc]
    have Hst := Lib.hid hst
    have q0 : 0 < m := by omega
    clear hx hc hst
    go_enter Tryz.func103, Tryz.ntmps103
    go_wp2_with fail
    refine (right_any m _).mono ?_
    rintro e w' ⟨rfl, rfl⟩
    rw [Hr.out]
    go_wp2_with fail
    simp only [e1]
    clear e1
    go_loopw [0, 1, 7] (fun av ev rv wr => ∃ t k r : Nat, av = .int .u64 (t : Int) ∧ ev = .int .u64 (k : Int) ∧ rv = .int .u64 (r : Int) ∧ t < m ∧ r < m ∧ k < 18446744073709551616 ∧ PowS r t k m c ∧ ∃ q, wr = w.drewN q) (fun _ ev _ _ => (intOf ev).toNat)
    case atStart => exact ⟨x, e0, 1, rfl, rfl, rfl, hxl, by omega, he, Hst.out, 0, rfl⟩
    case round =>
      obtain ⟨t, k, r, rfl, rfl, rfl, htm, hrm, hkb, hpc, q, rfl⟩ := hrel
      have Hc := Lib.hid hpc
      clear hpc Hst
      by_cases hk : 0 < k
      · have d1 : decide ((0 : Int) < (k : Int)) = true := decide_eq_true (by omega)
        have hand := u64_and_one k hkb
        obtain ⟨pb, hpb⟩ : ∃ b, b = k % 2 := ⟨_, rfl⟩
        rw [← hpb] at hand
        obtain ⟨t2, ht2⟩ : ∃ b, b = t * t % m := ⟨_, rfl⟩
        have ht2m : t2 < m := by rw [ht2]; exact Nat.mod_lt _ q0
        by_cases ho : pb = 1
        · have d2 : ((pb : Int) == 1) = true := by rw [beq_iff_eq]; omega
          obtain ⟨r2, hr2⟩ : ∃ b, b = r * t % m := ⟨_, rfl⟩
          have hr2m : r2 < m := by rw [hr2]; exact Nat.mod_lt _ q0
          have hnx : PowS r2 t2 (k / 2) m c := by rw [hr2, ht2]; exact powS_odd Hc.out (by omega)
          have Hnx := Lib.hid hnx
          have Ht2 := Lib.hid ht2
          have Hr2 := Lib.hid hr2
          clear hnx ht2 hr2 hpb ho
          go_wp2_with fail
          refine (times_any r t m _ hrm htm hm2).mono ?_
          rw [← Hr2.out]
          rintro e w' ⟨rfl, n1, rfl⟩
          go_wp2_with fail
          refine (times_any t t m _ htm htm hm2).mono ?_
          rw [← Ht2.out]
          rintro e w' ⟨rfl, n2, rfl⟩
          go_wp2_with fail
          go_roundw
          case rel => exact ⟨t2, k / 2, r2, rfl, by go_num, rfl, ht2m, hr2m, by omega, Hnx.out, _, rfl⟩
          case measure => simp [intOf]; omega
        · have d2 : ((pb : Int) == 1) = false := by rw [beq_eq_false_iff_ne]; omega
          have hnx : PowS r t2 (k / 2) m c := by rw [ht2]; exact powS_even Hc.out (by omega)
          have Hnx := Lib.hid hnx
          have Ht2 := Lib.hid ht2
          clear hnx ht2 hpb
          go_wp2_with fail
          refine (times_any t t m _ htm htm hm2).mono ?_
          rw [← Ht2.out]
          rintro e w' ⟨rfl, n2, rfl⟩
          go_wp2_with fail
          go_roundw
          case rel => exact ⟨t2, k / 2, r, rfl, by go_num, rfl, ht2m, hrm, by omega, Hnx.out, _, rfl⟩
          case measure => simp [intOf]; omega
      · have d1 : decide ((0 : Int) < (k : Int)) = false := decide_eq_false (by omega)
        have hk0 : k = 0 := by omega
        have h := Hc.out
        rw [hk0] at h
        have hres := powS_end h hrm
        clear hk0 h
        subst hres
        go_wp2_with fail
        go_ret
        exact ⟨rfl, _, rfl⟩

set_option maxRecDepth 100000 in
set_option maxHeartbeats 1000000 in
theorem inv_any (a m : Nat) (w : World) (ha : a < 18446744073709551616) (hm : m < 18446744073709551616) :
    Calls Tryz.prog 157 #[.int .u64 (a : Int), .int .u64 (m : Int)] w fun e w' => e = .returned (.tuple #[.int .u64 ((invM a m).1 : Int), .bool (invM a m).2]) ∧ ∃ n, w' = w.drewN n := by
  cases hr : rightB m with
  | false =>
    rw [invM_no hr]
    have Hr := Lib.hid hr
    clear hr
    go_enter Tryz.func157, Tryz.ntmps157
    go_wp2_with fail
    refine (right_any m _).mono ?_
    rintro e w' ⟨rfl, rfl⟩
    rw [Hr.out]
    go_wp2_with fail
    go_ret2
    exact ⟨rfl, 0, rfl⟩
  | true =>
    obtain ⟨hm1, hm2⟩ := rightB_yes hr
    obtain ⟨b0, x0, hbx⟩ : ∃ b x, invL m m (a % m) 0 1 = (b, x) := ⟨_, _, rfl⟩
    obtain ⟨RR, hRR⟩ : ∃ RR : Nat × Bool, RR = if b0 = 1 then (x0, true) else (0, false) := ⟨_, rfl⟩
    obtain ⟨R1, R2⟩ := RR
    rw [invM_of hr hbx, ← hRR]
    have HRR := Lib.hid hRR
    obtain ⟨x, hx⟩ : ∃ x, x = a % m := ⟨_, rfl⟩
    have hxl : x < m := by rw [hx]; exact Nat.mod_lt _ (by omega)
    have e1 : (a : Int) % (m : Int) = (x : Int) := by rw [hx]; rfl
    rw [← hx] at hbx
    have Hbx := Lib.hid hbx
    have Hr := Lib.hid hr
    have q0 : 0 < m := by omega
    clear hx hbx hr hRR
    go_enter Tryz.func157, Tryz.ntmps157
    go_wp2_with fail
    refine (right_any m _).mono ?_
    rintro e w' ⟨rfl, rfl⟩
    rw [Hr.out]
    go_wp2_with fail
    go_quiet (fail)
    go_wp2_with fail
    simp only [e1]
    clear e1
    go_loopw [6, 7, 8, 9] (fun bv nv wv iv wr => ∃ bf nw ws is : Nat, bv = .int .u64 (bf : Int) ∧ nv = .int .u64 (nw : Int) ∧ wv = .int .u64 (ws : Int) ∧ iv = .int .u64 (is : Int) ∧ bf ≤ m ∧ nw ≤ m ∧ ws < m ∧ is < m ∧ invL m bf nw ws is = (b0, x0) ∧ ∃ q, wr = w.drewN q) (fun _ nv _ _ _ => (intOf nv).toNat)
    case atStart => exact ⟨m, x, 0, 1, rfl, rfl, rfl, rfl, by omega, by omega, by omega, by omega, Hbx.out, _, rfl⟩
    case round =>
      obtain ⟨bf, nw, ws, is, rfl, rfl, rfl, rfl, hbf, hnw, hws, his, hl, q, rfl⟩ := hrel
      have Hl := Lib.hid hl
      clear hl Hbx
      by_cases hn : 0 < nw
      · have d1 : decide ((0 : Int) < (nw : Int)) = true := decide_eq_true (by omega)
        obtain ⟨k, hk⟩ : ∃ k, k = bf / nw := ⟨_, rfl⟩
        have hkb : k ≤ bf := by rw [hk]; exact Nat.div_le_self _ _
        obtain ⟨rm, hrm⟩ : ∃ k, k = bf % nw := ⟨_, rfl⟩
        have hrmn : rm < nw := by rw [hrm]; exact Nat.mod_lt _ hn
        obtain ⟨km, hkm⟩ : ∃ k', k' = k % m := ⟨_, rfl⟩
        have hkmm : km < m := by rw [hkm]; exact Nat.mod_lt _ q0
        obtain ⟨p, hp⟩ : ∃ p, p = km * is % m := ⟨_, rfl⟩
        have hpm : p < m := by rw [hp]; exact Nat.mod_lt _ q0
        obtain ⟨z, hz⟩ : ∃ z, z = subM ws p m := ⟨_, rfl⟩
        have hzm : z < m := by rw [hz, subM, if_pos (by simp [rightB]; omega)]; exact Nat.mod_lt _ q0
        have hnx : invL m nw rm is z = (b0, x0) := by
          rw [← Hl.out, invL_step m bf nw ws is (by omega), ← hk, ← hrm, hz, hp, hkm, Nat.mod_mul_mod]
        have f1 : (bf : Int) / (nw : Int) = (k : Int) := by rw [hk]; rfl
        have f2 : (bf : Int) % (nw : Int) = (rm : Int) := by rw [hrm]; rfl
        have f3 : (k : Int) % (m : Int) = (km : Int) := by rw [hkm]; rfl
        have f4 : IntKind.u64.wrap (k : Int) = (k : Int) := by rw [IntKind.wrap_u64]; omega
        have Hnx := Lib.hid hnx
        have Hp := Lib.hid hp
        have Hz := Lib.hid hz
        clear hk hrm hkm hp hz hnx
        go_wp2_with fail
        go_quiet (fail)
        go_wp2_with fail
        refine (times_any km is m _ hkmm his hm2).mono ?_
        rw [← Hp.out]
        rintro e w' ⟨rfl, n1, rfl⟩
        go_wp2_with fail
        refine (sub_any ws p m _ (by omega) (by omega) hm).mono ?_
        rw [← Hz.out]
        rintro e w' ⟨rfl, n2, rfl⟩
        go_wp2_with fail
        go_roundw
        case rel => exact ⟨nw, rm, is, z, rfl, by first | rfl | exact congrArg _ f2, rfl, rfl, hnw, by omega, his, hzm, Hnx.out, _, rfl⟩
        case measure => simp [intOf]; omega
      · have d1 : decide ((0 : Int) < (nw : Int)) = false := decide_eq_false (by omega)
        have hn0 : nw = 0 := by omega
        have h := Hl.out
        rw [hn0, invL_zero] at h
        injection h with h1 h2
        clear hn0 Hl
        subst h1 h2
        by_cases hb1 : bf = 1
        · have d2 : ((bf : Int) != 1) = false := by rw [bne_eq_false_iff_eq]; omega
          have hres := HRR.out
          rw [if_pos hb1] at hres
          injection hres with hr1 hr2
          clear hb1 HRR
          subst hr1 hr2
          go_wp2_with fail
          go_ret2
          exact ⟨rfl, _, rfl⟩
        · have d2 : ((bf : Int) != 1) = true := by rw [bne_iff_ne]; omega
          have hres := HRR.out
          rw [if_neg hb1] at hres
          injection hres with hr1 hr2
          clear HRR
          subst hr1 hr2
          go_wp2_with fail
          go_ret2
          exact ⟨rfl, _, rfl⟩
end Go.Proofs.YtbpenkaficiodaaGreat

namespace Go.Proofs.YtbpenkaficiodaaGreat
open Go.RowKit

/-- What the reference's product keeps: s and t n, modulo m. -/
def MulS (s t k m c : Nat) : Prop := (s + t * k) % m = c
theorem half_of {x x' m : Nat} (h : (x < m ∧ x' = x) ∨ (m ≤ x ∧ x' = x - m)) : ∃ c, x = x' + m * c := by
  rcases h with ⟨_, rfl⟩ | ⟨h, rfl⟩
  · exact ⟨0, by omega⟩
  · exact ⟨1, by omega⟩
theorem mulS_even {s t t' k m c : Nat} (h : MulS s t k m c) (hk : k % 2 = 0) (_ht : t < m) (h2 : (t + t < m ∧ t' = t + t) ∨ (m ≤ t + t ∧ t' = t + t - m)) : MulS s t' (k / 2) m c := by
  obtain ⟨d, hd⟩ := half_of h2
  unfold MulS at *
  rw [← h]
  have e : t * k = (t + t) * (k / 2) := by
    have : k = 2 * (k / 2) := by omega
    conv => lhs; rw [this]
    rw [← Nat.mul_assoc, Nat.mul_two]
  rw [e, hd, Nat.add_mul, Nat.mul_assoc, ← Nat.add_assoc, Nat.add_mul_mod_self_left]
theorem mulS_odd {s s' t t' k m c : Nat} (h : MulS s t k m c) (hk : k % 2 = 1) (_hs : s < m) (ht : t < m) (h1 : (s + t < m ∧ s' = s + t) ∨ (m ≤ s + t ∧ s' = s + t - m)) (h2 : (t + t < m ∧ t' = t + t) ∨ (m ≤ t + t ∧ t' = t + t - m)) : MulS s' t' (k / 2) m c := by
  have h3 : MulS s' t (k - 1) m c := by
    obtain ⟨d, hd⟩ := half_of h1
    unfold MulS at *
    rw [← h]
    have e : t * k = t + t * (k - 1) := by
      have : k = 1 + (k - 1) := by omega
      conv => lhs; rw [this]
      rw [Nat.mul_add, Nat.mul_one]
    rw [e, ← Nat.add_assoc, hd, Nat.add_assoc, Nat.add_comm (m * d), ← Nat.add_assoc, Nat.add_mul_mod_self_left]
  have h4 := mulS_even h3 (by omega) ht h2
  rwa [show (k - 1) / 2 = k / 2 by omega] at h4

set_option maxRecDepth 100000 in
set_option maxHeartbeats 400000 in
theorem refRight_any (m : Nat) (w : World) : Calls Tryz.prog 146 #[.int .u64 (m : Int)] w fun e w' => e = .returned (.bool (rightB m)) ∧ w = w' := by
  by_cases h1 : 2 ≤ m
  · have d1 : decide ((2 : Int) ≤ (m : Int)) = true := decide_eq_true (by omega)
    by_cases h2 : m ≤ 4611686018427387904
    · have d2 : decide ((m : Int) ≤ 4611686018427387904) = true := decide_eq_true (by omega)
      have hr : rightB m = true := by simp [rightB, h1, h2]
      rw [hr]
      clear hr
      go_enter Tryz.func146, Tryz.ntmps146
      go_wp2_with fail
      go_ret
      exact ⟨rfl, rfl⟩
    · have d2 : decide ((m : Int) ≤ 4611686018427387904) = false := decide_eq_false (by omega)
      have hr : rightB m = false := by simp [rightB]; omega
      rw [hr]
      clear hr
      go_enter Tryz.func146, Tryz.ntmps146
      go_wp2_with fail
      go_ret
      exact ⟨rfl, rfl⟩
  · have d1 : decide ((2 : Int) ≤ (m : Int)) = false := decide_eq_false (by omega)
    have hr : rightB m = false := by simp [rightB]; omega
    rw [hr]
    clear hr
    go_enter Tryz.func146, Tryz.ntmps146
    go_wp2_with fail
    go_ret
    exact ⟨rfl, rfl⟩

set_option maxRecDepth 100000 in
set_option maxHeartbeats 400000 in
theorem refAdd_any (a b m : Nat) (w : World) (ha : a < 18446744073709551616) (hb : b < 18446744073709551616) (hm : m < 18446744073709551616) :
    Calls Tryz.prog 159 #[.int .u64 (a : Int), .int .u64 (b : Int), .int .u64 (m : Int)] w fun e w' => e = .returned (.int .u64 (addM a b m : Int)) ∧ ∃ n, w' = w.drewN n := by
  cases hr : rightB m with
  | false =>
    rw [addM_no hr]
    have Hr := Lib.hid hr
    clear hr
    go_enter Tryz.func159, Tryz.ntmps159
    go_wp2_with fail
    refine (refRight_any m _).mono ?_
    rintro e w' ⟨rfl, rfl⟩
    rw [Hr.out]
    go_wp2_with fail
    go_ret
    exact ⟨rfl, 0, rfl⟩
  | true =>
    rw [addM_yes hr]
    obtain ⟨hm1, hm2⟩ := rightB_yes hr
    have Hr := Lib.hid hr
    clear hr
    obtain ⟨x, hx⟩ : ∃ x, x = a % m := ⟨_, rfl⟩
    obtain ⟨y, hy⟩ : ∃ y, y = b % m := ⟨_, rfl⟩
    have hxl : x < m := by rw [hx]; exact Nat.mod_lt _ (by omega)
    have hyl : y < m := by rw [hy]; exact Nat.mod_lt _ (by omega)
    have e1 : (a : Int) % (m : Int) = (x : Int) := by rw [hx]; rfl
    have e2 : (b : Int) % (m : Int) = (y : Int) := by rw [hy]; rfl
    have e3 : IntKind.u64.wrap ((x : Int) + (y : Int)) = (x : Int) + (y : Int) := by rw [IntKind.wrap_u64]; omega
    have hres : (a + b) % m = (x + y) % m := by rw [hx, hy, Nat.add_mod]
    have q0 : 0 < m := by omega
    have Hres := Lib.hid hres
    clear hx hy hres
    by_cases hs : m ≤ x + y
    · have d1 : decide ((m : Int) ≤ (x : Int) + (y : Int)) = true := decide_eq_true (by omega)
      have hf : (x + y) % m = x + y - m := by rw [Nat.mod_eq_sub_mod hs, Nat.mod_eq_of_lt (by omega)]
      have Hf := Lib.hid hf
      clear hf
      go_enter Tryz.func159, Tryz.ntmps159
      go_wp2_with fail
      refine (refRight_any m _).mono ?_
      rintro e w' ⟨rfl, rfl⟩
      rw [Hr.out]
      go_wp2_with fail
      go_quiet (fail)
      go_wp2_with fail
      go_ret
      refine ⟨?_, _, rfl⟩
      rw [Hres.out, Hf.out, show ((x + y - m : Nat) : Int) = (x : Int) + (y : Int) - (m : Int) by omega]
      rfl
    · have d1 : decide ((m : Int) ≤ (x : Int) + (y : Int)) = false := decide_eq_false (by omega)
      have hf : (x + y) % m = x + y := Nat.mod_eq_of_lt (by omega)
      have Hf := Lib.hid hf
      clear hf
      go_enter Tryz.func159, Tryz.ntmps159
      go_wp2_with fail
      refine (refRight_any m _).mono ?_
      rintro e w' ⟨rfl, rfl⟩
      rw [Hr.out]
      go_wp2_with fail
      go_quiet (fail)
      go_wp2_with fail
      go_ret
      refine ⟨?_, _, rfl⟩
      rw [Hres.out, Hf.out, Int.natCast_add]
      rfl

set_option maxRecDepth 100000 in
set_option maxHeartbeats 1000000 in
theorem refMul_any (a b m : Nat) (w : World) (ha : a < 18446744073709551616) (hb : b < 18446744073709551616) (hm : m < 18446744073709551616) :
    Calls Tryz.prog 111 #[.int .u64 (a : Int), .int .u64 (b : Int), .int .u64 (m : Int)] w fun e w' => e = .returned (.int .u64 (mulM a b m : Int)) ∧ w = w' := by
  cases hr : rightB m with
  | false =>
    rw [mulM_no hr]
    have Hr := Lib.hid hr
    clear hr
    go_enter Tryz.func111, Tryz.ntmps111
    go_wp2_with fail
    refine (refRight_any m _).mono ?_
    rintro e w' ⟨rfl, rfl⟩
    rw [Hr.out]
    go_wp2_with fail
    go_ret
    exact ⟨rfl, rfl⟩
  | true =>
    rw [mulM_yes hr]
    obtain ⟨hm1, hm2⟩ := rightB_yes hr
    have Hr := Lib.hid hr
    clear hr
    obtain ⟨x, hx⟩ : ∃ x, x = a % m := ⟨_, rfl⟩
    obtain ⟨y, hy⟩ : ∃ y, y = b % m := ⟨_, rfl⟩
    have hxl : x < m := by rw [hx]; exact Nat.mod_lt _ (by omega)
    have hyl : y < m := by rw [hy]; exact Nat.mod_lt _ (by omega)
    have e1 : (a : Int) % (m : Int) = (x : Int) := by rw [hx]; rfl
    have e2 : (b : Int) % (m : Int) = (y : Int) := by rw [hy]; rfl
    obtain ⟨c, hc⟩ : ∃ c, c = a * b % m := ⟨_, rfl⟩
    have hst : MulS 0 x y m c := by unfold MulS; rw [hc, hx, hy, Nat.zero_add, ← Nat.mul_mod]
    have Hst := Lib.hid hst
    rw [← hc]
    have q0 : 0 < m := by omega
    clear hx hy hc hst
    go_enter Tryz.func111, Tryz.ntmps111
    go_wp2_with fail
    refine (refRight_any m _).mono ?_
    rintro e w' ⟨rfl, rfl⟩
    rw [Hr.out]
    go_wp2_with fail
    go_loopw [7, 8, 9] (fun sv tv nv wr => ∃ k s t : Nat, sv = .int .u64 (s : Int) ∧ tv = .int .u64 (t : Int) ∧ nv = .int .u64 (k : Int) ∧ s < m ∧ t < m ∧ k < 18446744073709551616 ∧ MulS s t k m c ∧ wr = w) (fun _ _ nv _ => (intOf nv).toNat)
    case atStart => exact ⟨y, 0, x, rfl, by first | rfl | exact congrArg _ e1, by first | rfl | exact congrArg _ e2, by omega, by omega, by omega, Hst.out, rfl⟩
    case round =>
      obtain ⟨k, s, t, rfl, rfl, rfl, hsm, htm, hkb, hcc, rfl⟩ := hrel
      have Hc := Lib.hid hcc
      clear hcc Hst
      by_cases hk : 0 < k
      · have d1 : decide ((0 : Int) < (k : Int)) = true := decide_eq_true (by omega)
        by_cases ho : k % 2 = 1
        · by_cases hs : m ≤ s + t
          · by_cases ht : m ≤ t + t
            · skip
              have d2 : ((k : Int) % 2 == 1) = true := by rw [beq_iff_eq]; omega
              have d3 : decide ((m : Int) ≤ (s : Int) + (t : Int)) = true := decide_eq_true (by omega)
              have d4 : decide ((m : Int) ≤ (t : Int) + (t : Int)) = true := decide_eq_true (by omega)
              have hnx := mulS_odd (s' := s + t - m) (t' := t + t - m) Hc.out (by omega) hsm htm (.inr ⟨by omega, rfl⟩) (.inr ⟨by omega, rfl⟩)
              have Hnx := Lib.hid hnx
              clear hnx
              go_wp2_with fail
              go_roundw
              case rel => exact ⟨k / 2, s + t - m, t + t - m, by go_num, by go_num, by go_num, by omega, by omega, by omega, Hnx.out, trivial⟩
              case measure => simp [intOf]; omega
            · skip
              have d2 : ((k : Int) % 2 == 1) = true := by rw [beq_iff_eq]; omega
              have d3 : decide ((m : Int) ≤ (s : Int) + (t : Int)) = true := decide_eq_true (by omega)
              have d4 : decide ((m : Int) ≤ (t : Int) + (t : Int)) = false := decide_eq_false (by omega)
              have hnx := mulS_odd (s' := s + t - m) (t' := t + t) Hc.out (by omega) hsm htm (.inr ⟨by omega, rfl⟩) (.inl ⟨by omega, rfl⟩)
              have Hnx := Lib.hid hnx
              clear hnx
              go_wp2_with fail
              go_roundw
              case rel => exact ⟨k / 2, s + t - m, t + t, by go_num, by go_num, by go_num, by omega, by omega, by omega, Hnx.out, trivial⟩
              case measure => simp [intOf]; omega
          · by_cases ht : m ≤ t + t
            · skip
              have d2 : ((k : Int) % 2 == 1) = true := by rw [beq_iff_eq]; omega
              have d3 : decide ((m : Int) ≤ (s : Int) + (t : Int)) = false := decide_eq_false (by omega)
              have d4 : decide ((m : Int) ≤ (t : Int) + (t : Int)) = true := decide_eq_true (by omega)
              have hnx := mulS_odd (s' := s + t) (t' := t + t - m) Hc.out (by omega) hsm htm (.inl ⟨by omega, rfl⟩) (.inr ⟨by omega, rfl⟩)
              have Hnx := Lib.hid hnx
              clear hnx
              go_wp2_with fail
              go_roundw
              case rel => exact ⟨k / 2, s + t, t + t - m, by go_num, by go_num, by go_num, by omega, by omega, by omega, Hnx.out, trivial⟩
              case measure => simp [intOf]; omega
            · skip
              have d2 : ((k : Int) % 2 == 1) = true := by rw [beq_iff_eq]; omega
              have d3 : decide ((m : Int) ≤ (s : Int) + (t : Int)) = false := decide_eq_false (by omega)
              have d4 : decide ((m : Int) ≤ (t : Int) + (t : Int)) = false := decide_eq_false (by omega)
              have hnx := mulS_odd (s' := s + t) (t' := t + t) Hc.out (by omega) hsm htm (.inl ⟨by omega, rfl⟩) (.inl ⟨by omega, rfl⟩)
              have Hnx := Lib.hid hnx
              clear hnx
              go_wp2_with fail
              go_roundw
              case rel => exact ⟨k / 2, s + t, t + t, by go_num, by go_num, by go_num, by omega, by omega, by omega, Hnx.out, trivial⟩
              case measure => simp [intOf]; omega
        · by_cases ht : m ≤ t + t
          · skip
            have d2 : ((k : Int) % 2 == 1) = false := by rw [beq_eq_false_iff_ne]; omega
            have d4 : decide ((m : Int) ≤ (t : Int) + (t : Int)) = true := decide_eq_true (by omega)
            have hnx := mulS_even (t' := t + t - m) Hc.out (by omega) htm (.inr ⟨by omega, rfl⟩)
            have Hnx := Lib.hid hnx
            clear hnx
            go_wp2_with fail
            go_roundw
            case rel => exact ⟨k / 2, s, t + t - m, by go_num, by go_num, by go_num, by omega, by omega, by omega, Hnx.out, trivial⟩
            case measure => simp [intOf]; omega
          · skip
            have d2 : ((k : Int) % 2 == 1) = false := by rw [beq_eq_false_iff_ne]; omega
            have d4 : decide ((m : Int) ≤ (t : Int) + (t : Int)) = false := decide_eq_false (by omega)
            have hnx := mulS_even (t' := t + t) Hc.out (by omega) htm (.inl ⟨by omega, rfl⟩)
            have Hnx := Lib.hid hnx
            clear hnx
            go_wp2_with fail
            go_roundw
            case rel => exact ⟨k / 2, s, t + t, by go_num, by go_num, by go_num, by omega, by omega, by omega, Hnx.out, trivial⟩
            case measure => simp [intOf]; omega
      · have d1 : decide ((0 : Int) < (k : Int)) = false := decide_eq_false (by omega)
        have hk0 : k = 0 := by omega
        have hres : s = c := by
          have h := Hc.out
          unfold MulS at h
          rw [hk0, Nat.mul_zero, Nat.add_zero, Nat.mod_eq_of_lt hsm] at h
          exact h
        clear hk0
        subst hres
        go_wp2_with fail
        go_ret
        exact ⟨rfl, rfl⟩
end Go.Proofs.YtbpenkaficiodaaGreat

/- Differences, powers and inverses modulo a number: the reference's walks. -/
namespace Go.Proofs.YtbpenkaficiodaaGreat
open Go.RowKit

theorem subM_add {a b m : Nat} (h : rightB m = true) : addM a (m - b % m) m = subM a b m := by
  rw [addM_yes h, subM_yes h]
  have hm := (rightB_yes h).1
  have hb : b % m < m := Nat.mod_lt _ (by omega)
  rw [show a % m + m - b % m = a % m + (m - b % m) by omega, Nat.mod_add_mod]

set_option maxRecDepth 100000 in
set_option maxHeartbeats 400000 in
theorem refSub_any (a b m : Nat) (w : World) (ha : a < 18446744073709551616) (hb : b < 18446744073709551616) (hm : m < 18446744073709551616) :
    Calls Tryz.prog 160 #[.int .u64 (a : Int), .int .u64 (b : Int), .int .u64 (m : Int)] w fun e w' => e = .returned (.int .u64 (subM a b m : Int)) ∧ ∃ n, w' = w.drewN n := by
  cases hr : rightB m with
  | false =>
    rw [subM_no hr]
    have Hr := Lib.hid hr
    clear hr
    go_enter Tryz.func160, Tryz.ntmps160
    go_wp2_with fail
    refine (refRight_any m _).mono ?_
    rintro e w' ⟨rfl, rfl⟩
    rw [Hr.out]
    go_wp2_with fail
    go_ret
    exact ⟨rfl, 0, rfl⟩
  | true =>
    rw [← subM_add hr]
    obtain ⟨hm1, hm2⟩ := rightB_yes hr
    have Hr := Lib.hid hr
    clear hr
    obtain ⟨y, hy⟩ : ∃ y, y = b % m := ⟨_, rfl⟩
    have hyl : y < m := by rw [hy]; exact Nat.mod_lt _ (by omega)
    have e2 : (b : Int) % (m : Int) = (y : Int) := by rw [hy]; rfl
    obtain ⟨z, hz⟩ : ∃ z, z = m - y := ⟨_, rfl⟩
    have hzl : z ≤ m := by omega
    have e3 : IntKind.u64.wrap ((m : Int) - (y : Int)) = (z : Int) := by rw [IntKind.wrap_u64]; omega
    rw [← hy, ← hz]
    have q0 : 0 < m := by omega
    have e4 : (m : Int) - (y : Int) = (z : Int) := by omega
    clear hy hz
    go_enter Tryz.func160, Tryz.ntmps160
    go_wp2_with fail
    refine (refRight_any m _).mono ?_
    rintro e w' ⟨rfl, rfl⟩
    rw [Hr.out]
    go_wp2_with fail
    refine (refAdd_any a z m _ ha (by omega) hm).mono ?_
    rintro e w' ⟨rfl, n, rfl⟩
    go_wp2_with fail
    go_ret
    exact ⟨rfl, _, rfl⟩

set_option maxRecDepth 100000 in
set_option maxHeartbeats 1000000 in
theorem refPow_any (a e0 m : Nat) (w : World) (ha : a < 18446744073709551616) (he : e0 < 18446744073709551616) (hm : m < 18446744073709551616) :
    Calls Tryz.prog 73 #[.int .u64 (a : Int), .int .u64 (e0 : Int), .int .u64 (m : Int)] w fun e w' => e = .returned (.int .u64 (powM a e0 m : Int)) ∧ w' = w := by
  cases hr : rightB m with
  | false =>
    rw [powM_no hr]
    have Hr := Lib.hid hr
    clear hr
    go_enter Tryz.func73, Tryz.ntmps73
    go_wp2_with fail
    refine (refRight_any m _).mono ?_
    rintro e w' ⟨rfl, rfl⟩
    rw [Hr.out]
    go_wp2_with fail
    go_ret
    exact ⟨rfl, rfl⟩
  | true =>
    rw [powM_yes hr]
    obtain ⟨hm1, hm2⟩ := rightB_yes hr
    have Hmul : ∀ x y, x * y % m = mulM x y m := fun x y => (mulM_yes hr).symm
    have Hr := Lib.hid hr
    clear hr
    obtain ⟨x, hx⟩ : ∃ x, x = a % m := ⟨_, rfl⟩
    have hxl : x < m := by rw [hx]; exact Nat.mod_lt _ (by omega)
    have e1 : (a : Int) % (m : Int) = (x : Int) := by rw [hx]; rfl
    obtain ⟨c, hc⟩ : ∃ c, c = a ^ e0 % m := ⟨_, rfl⟩
    have hst : PowS 1 x e0 m c := by rw [hx, hc]; exact powS_start
    rw [← hc]
    have Hst := Lib.hid hst
    have HMul := Lib.hid Hmul
    have q0 : 0 < m := by omega
    clear hx hc hst Hmul
    go_enter Tryz.func73, Tryz.ntmps73
    go_wp2_with fail
    refine (refRight_any m _).mono ?_
    rintro e w' ⟨rfl, rfl⟩
    rw [Hr.out]
    go_wp2_with fail
    simp only [e1]
    clear e1
    go_loopw [1, 7, 8] (fun ev rv av wr => ∃ t k r : Nat, ev = .int .u64 (k : Int) ∧ rv = .int .u64 (r : Int) ∧ av = .int .u64 (t : Int) ∧ t < m ∧ r < m ∧ k < 18446744073709551616 ∧ PowS r t k m c ∧ wr = w) (fun ev _ _ _ => (intOf ev).toNat)
    case atStart => exact ⟨x, e0, 1, rfl, rfl, rfl, hxl, by omega, he, Hst.out, rfl⟩
    case round =>
      obtain ⟨t, k, r, rfl, rfl, rfl, htm, hrm, hkb, hpc, rfl⟩ := hrel
      have Hc := Lib.hid hpc
      clear hpc Hst
      by_cases hk : 0 < k
      · have d1 : decide ((0 : Int) < (k : Int)) = true := decide_eq_true (by omega)
        obtain ⟨t2, ht2⟩ : ∃ b, b = t * t % m := ⟨_, rfl⟩
        have ht2m : t2 < m := by rw [ht2]; exact Nat.mod_lt _ q0
        have Ht2 := Lib.hid (ht2.trans (HMul.out t t))
        by_cases ho : k % 2 = 1
        · have d2 : ((k : Int) % 2 == 1) = true := by rw [beq_iff_eq]; omega
          obtain ⟨r2, hr2⟩ : ∃ b, b = r * t % m := ⟨_, rfl⟩
          have hr2m : r2 < m := by rw [hr2]; exact Nat.mod_lt _ q0
          have hnx : PowS r2 t2 (k / 2) m c := by rw [hr2, ht2]; exact powS_odd Hc.out ho
          have Hnx := Lib.hid hnx
          have Hr2 := Lib.hid (hr2.trans (HMul.out r t))
          clear hnx ht2 hr2 ho
          go_wp2_with fail
          refine (refMul_any r t m _ (by omega) (by omega) hm).mono ?_
          rw [← Hr2.out]
          rintro e w' ⟨rfl, rfl⟩
          go_wp2_with fail
          refine (refMul_any t t m _ (by omega) (by omega) hm).mono ?_
          rw [← Ht2.out]
          rintro e w' ⟨rfl, rfl⟩
          go_wp2_with fail
          go_roundw
          case rel => exact ⟨t2, k / 2, r2, by go_num, rfl, rfl, ht2m, hr2m, by omega, Hnx.out, trivial⟩
          case measure => simp [intOf]; omega
        · have d2 : ((k : Int) % 2 == 1) = false := by rw [beq_eq_false_iff_ne]; omega
          have hnx : PowS r t2 (k / 2) m c := by rw [ht2]; exact powS_even Hc.out (by omega)
          have Hnx := Lib.hid hnx
          clear hnx ht2
          go_wp2_with fail
          refine (refMul_any t t m _ (by omega) (by omega) hm).mono ?_
          rw [← Ht2.out]
          rintro e w' ⟨rfl, rfl⟩
          go_wp2_with fail
          go_roundw
          case rel => exact ⟨t2, k / 2, r, by go_num, rfl, rfl, ht2m, hrm, by omega, Hnx.out, trivial⟩
          case measure => simp [intOf]; omega
      · have d1 : decide ((0 : Int) < (k : Int)) = false := decide_eq_false (by omega)
        have hk0 : k = 0 := by omega
        have h := Hc.out
        rw [hk0] at h
        have hres := powS_end h hrm
        clear hk0 h
        subst hres
        have e5 : (r : Int) % (m : Int) = (r : Int) := Int.emod_eq_of_lt (by omega) (by omega)
        go_wp2_with fail
        go_ret
        exact ⟨congrArg (fun z => Ending.returned (Value.int IntKind.u64 z)) e5, rfl⟩

set_option maxRecDepth 100000 in
set_option maxHeartbeats 1000000 in
theorem refInv_any (a m : Nat) (w : World) (ha : a < 18446744073709551616) (hm : m < 18446744073709551616) :
    Calls Tryz.prog 158 #[.int .u64 (a : Int), .int .u64 (m : Int)] w fun e w' => e = .returned (.tuple #[.int .u64 ((invM a m).1 : Int), .bool (invM a m).2]) ∧ ∃ n, w' = w.drewN n := by
  cases hr : rightB m with
  | false =>
    rw [invM_no hr]
    have Hr := Lib.hid hr
    clear hr
    go_enter Tryz.func158, Tryz.ntmps158
    go_wp2_with fail
    refine (refRight_any m _).mono ?_
    rintro e w' ⟨rfl, rfl⟩
    rw [Hr.out]
    go_wp2_with fail
    go_ret2
    exact ⟨rfl, 0, rfl⟩
  | true =>
    obtain ⟨hm1, hm2⟩ := rightB_yes hr
    obtain ⟨b0, x0, hbx⟩ : ∃ b x, invL m m (a % m) 0 1 = (b, x) := ⟨_, _, rfl⟩
    obtain ⟨RR, hRR⟩ : ∃ RR : Nat × Bool, RR = if b0 = 1 then (x0, true) else (0, false) := ⟨_, rfl⟩
    obtain ⟨R1, R2⟩ := RR
    rw [invM_of hr hbx, ← hRR]
    have HRR := Lib.hid hRR
    obtain ⟨x, hx⟩ : ∃ x, x = a % m := ⟨_, rfl⟩
    have hxl : x < m := by rw [hx]; exact Nat.mod_lt _ (by omega)
    have e1 : (a : Int) % (m : Int) = (x : Int) := by rw [hx]; rfl
    rw [← hx] at hbx
    have Hbx := Lib.hid hbx
    have Hmul : ∀ x y, mulM x y m = x * y % m := fun x y => mulM_yes hr
    have HMul := Lib.hid Hmul
    have Hr := Lib.hid hr
    have q0 : 0 < m := by omega
    clear hx hbx hr hRR Hmul
    go_enter Tryz.func158, Tryz.ntmps158
    go_wp2_with fail
    refine (refRight_any m _).mono ?_
    rintro e w' ⟨rfl, rfl⟩
    rw [Hr.out]
    go_wp2_with fail
    simp only [e1]
    clear e1
    go_loopw [6, 7, 8, 9] (fun nv bv iv wv wr => ∃ bf nw ws is : Nat, nv = .int .u64 (nw : Int) ∧ bv = .int .u64 (bf : Int) ∧ iv = .int .u64 (is : Int) ∧ wv = .int .u64 (ws : Int) ∧ bf ≤ m ∧ nw ≤ m ∧ ws < m ∧ is < m ∧ invL m bf nw ws is = (b0, x0) ∧ ∃ q, wr = w.drewN q) (fun nv _ _ _ _ => (intOf nv).toNat)
    case atStart => exact ⟨m, x, 0, 1, rfl, rfl, rfl, rfl, by omega, by omega, by omega, by omega, Hbx.out, 0, rfl⟩
    case round =>
      obtain ⟨bf, nw, ws, is, rfl, rfl, rfl, rfl, hbf, hnw, hws, his, hl, q, rfl⟩ := hrel
      have Hl := Lib.hid hl
      clear hl Hbx
      by_cases hn : 0 < nw
      · have d1 : decide ((0 : Int) < (nw : Int)) = true := decide_eq_true (by omega)
        obtain ⟨k, hk⟩ : ∃ k, k = bf / nw := ⟨_, rfl⟩
        have hkb : k ≤ bf := by rw [hk]; exact Nat.div_le_self _ _
        obtain ⟨rm, hrm⟩ : ∃ k, k = bf % nw := ⟨_, rfl⟩
        have hrmn : rm < nw := by rw [hrm]; exact Nat.mod_lt _ hn
        obtain ⟨kr, hkr⟩ : ∃ x, x = k * nw := ⟨_, rfl⟩
        have hsum : kr + rm = bf := by rw [hkr, hk, hrm, Nat.mul_comm]; exact Nat.div_add_mod _ _
        obtain ⟨p, hp⟩ : ∃ p, p = mulM k is m := ⟨_, rfl⟩
        have hpm : p < m := by rw [hp, HMul.out]; exact Nat.mod_lt _ q0
        obtain ⟨z, hz⟩ : ∃ z, z = subM ws p m := ⟨_, rfl⟩
        have hzm : z < m := by rw [hz, subM, if_pos (by simp [rightB]; omega)]; exact Nat.mod_lt _ q0
        have hnx : invL m nw rm is z = (b0, x0) := by
          rw [← Hl.out, invL_step m bf nw ws is (by omega), ← hk, ← hrm, hz, hp, HMul.out]
        have f1 : (bf : Int) / (nw : Int) = (k : Int) := by rw [hk]; rfl
        have f4 : IntKind.u64.wrap (k : Int) = (k : Int) := by rw [IntKind.wrap_u64]; omega
        have f2 : (k : Int) * (nw : Int) = (kr : Int) := by rw [hkr]; push_cast; rfl
        have f3 : IntKind.u64.wrap (kr : Int) = (kr : Int) := by rw [IntKind.wrap_u64]; omega
        have f5 : (bf : Int) - (kr : Int) = (rm : Int) := by omega
        have f6 : IntKind.u64.wrap (rm : Int) = (rm : Int) := by rw [IntKind.wrap_u64]; omega
        have Hnx := Lib.hid hnx
        have Hp := Lib.hid hp
        have Hz := Lib.hid hz
        clear hk hrm hkr hp hz hnx
        go_wp2_with fail
        refine (refMul_any k is m _ (by omega) (by omega) hm).mono ?_
        rw [← Hp.out]
        rintro e w' ⟨rfl, rfl⟩
        go_wp2_with fail
        refine (refSub_any ws p m _ (by omega) (by omega) hm).mono ?_
        rw [← Hz.out]
        rintro e w' ⟨rfl, n2, rfl⟩
        go_wp2_with fail
        go_roundw
        case rel => exact ⟨nw, rm, is, z, by go_num, rfl, rfl, rfl, hnw, by omega, his, hzm, Hnx.out, _, rfl⟩
        case measure => simp [intOf]; omega
      · have d1 : decide ((0 : Int) < (nw : Int)) = false := decide_eq_false (by omega)
        have hn0 : nw = 0 := by omega
        have h := Hl.out
        rw [hn0, invL_zero] at h
        injection h with h1 h2
        clear hn0 Hl
        subst h1 h2
        have e5 : (ws : Int) % (m : Int) = (ws : Int) := Int.emod_eq_of_lt (by omega) (by omega)
        by_cases hb1 : bf = 1
        · have d2 : ((bf : Int) != 1) = false := by rw [bne_eq_false_iff_eq]; omega
          have hres := HRR.out
          rw [if_pos hb1] at hres
          injection hres with hr1 hr2
          clear hb1 HRR
          subst hr1 hr2
          go_wp2_with fail
          go_ret2
          exact ⟨congrArg (fun z => Ending.returned (Value.tuple #[Value.int IntKind.u64 z, Value.bool true])) e5, _, rfl⟩
        · have d2 : ((bf : Int) != 1) = true := by rw [bne_iff_ne]; omega
          have hres := HRR.out
          rw [if_neg hb1] at hres
          injection hres with hr1 hr2
          clear HRR
          subst hr1 hr2
          go_wp2_with fail
          go_ret2
          exact ⟨rfl, _, rfl⟩
end Go.Proofs.YtbpenkaficiodaaGreat

/- What an argument's reading says of its cells: numbers, texts, arrays, structs, slices, each a lemma; the arguments read behind a call that only grows memory as they did. -/
namespace Go.Proofs.YtbpenkaficiodaaGreat
open Go.ChangeShapes Go.WideShapes Go.ChangeAt Go.RowKit
section
variable {H : Type} {enc : TypeId × Value → H} {P : Program} {w : World}

/-- These cells read as data of the type, and no part of it is too large. -/
def Rdg (enc : TypeId × Value → H) (P : Program) (w : World) (t : TypeId) (cs : List Value) : Prop :=
  ∃ n x, DataW.trod enc P w 0 (fun _ => true) true n t cs = some x ∧ (x.1.weights P t).all (· ≤ reachBytes) = true

theorem all_sub {l m : List Nat} (h : m.all (· ≤ reachBytes) = true) (hs : ∀ x ∈ l, x ∈ m) : l.all (· ≤ reachBytes) = true :=
  List.all_eq_true.2 fun x hx => List.all_eq_true.1 h x (hs x hx)
theorem weightsAll_mem {e : TypeId} : ∀ {ds : List (DataW H)} {i : Nat} {d : DataW H}, ds[i]? = some d → ∀ x ∈ d.weights P e, x ∈ DataW.weightsAll P e ds
  | d0 :: ds, 0, d, h, x, hx => by
    simp only [List.getElem?_cons_zero, Option.some.injEq] at h
    subst h
    simp only [DataW.weightsAll, List.mem_append]
    exact .inl hx
  | d0 :: ds, i + 1, d, h, x, hx => by
    simp only [List.getElem?_cons_succ] at h
    simp only [DataW.weightsAll, List.mem_append]
    exact .inr (weightsAll_mem h x hx)
  | [], _, _, h, _, _ => by simp at h

theorem rd_of {t : TypeId} {v : Value} {d : DataW H} {p : List MemPlace} {ts : List TypeId} {ds : List (DataW H)} (h : DataW.Trod enc P w 0 (fun _ => true) true t v d p)
    (hz : (DataW.weightsEach P ts ds).all (· ≤ reachBytes) = true) (j : Nat) (ht : ts[j]? = some t) (hd : ds[j]? = some d) : Rdg enc P w t v.cells.toList := by
  obtain ⟨n, hn⟩ := h
  exact ⟨n, _, hn, all_sub hz fun x hx => DataW.weights_mem_each ht hd x hx⟩
theorem rd_string {t : TypeId} {cs : List Value} (hu : P.underlying t = some .string) (h : Rdg enc P w t cs) : ∃ s : ByteArray, cs = [.string s] ∧ s.size ≤ reachBytes := by
  obtain ⟨n, x, hx, hz⟩ := h
  obtain ⟨s, hc, rfl, _⟩ := DataW.trod_string hu hx
  refine ⟨s, hc, ?_⟩
  simpa [DataW.weights] using hz
theorem rd_int {t : TypeId} {k : IntKind} {cs : List Value} (hu : P.underlying t = some (.int k)) (h : Rdg enc P w t cs) : ∃ n : Int, cs = [.int k n] ∧ (Lit.int k n).wf = true := by
  obtain ⟨n, x, hx, _⟩ := h
  obtain ⟨m, hc, _, hw⟩ := DataW.trod_int hu hx
  exact ⟨m, hc, hw⟩
theorem rd_bool {t : TypeId} {cs : List Value} (hu : P.underlying t = some .bool) (h : Rdg enc P w t cs) : ∃ b, cs = [.bool b] := by
  obtain ⟨n, x, hx, _⟩ := h
  obtain ⟨m, hc, _⟩ := DataW.trod_bool hu hx
  exact ⟨m, hc⟩
theorem rd_array {t e : TypeId} {n : Nat} {cs : List Value} (hu : P.underlying t = some (.array n e)) (h : Rdg enc P w t cs) :
    cs.length = P.cellsOf t ∧ ∀ i, i < n → Rdg enc P w e ((cs.drop (i * P.cellsOf e)).take (P.cellsOf e)) := by
  obtain ⟨m, x, hx, hz⟩ := h
  obtain ⟨xs, m', rfl, rfl, hl, hn, hall⟩ := DataW.trod_array hu hx
  refine ⟨hl, fun i hi => ?_⟩
  have hxi : xs[i]? = some xs[i] := List.getElem?_eq_getElem (by omega)
  refine ⟨m', xs[i], by rw [hall i hi, hxi], all_sub hz fun y hy => ?_⟩
  simp only [DataW.weights, hu]
  exact weightsAll_mem (i := i) (d := xs[i].1) (by rw [List.getElem?_map, hxi]; rfl) y hy
theorem rd_struct {t : TypeId} {fs : Array Field} {cs : List Value} (hu : P.underlying t = some (.struct fs)) (h : Rdg enc P w t cs) :
    cs.length = P.cellsOf t ∧ ∀ (i : Nat) (f : Field), fs[i]? = some f → Rdg enc P w f.type ((cs.drop f.offset).take (P.cellsOf f.type)) := by
  obtain ⟨m, x, hx, hz⟩ := h
  obtain ⟨xs, m', rfl, rfl, hl, hn, hall⟩ := DataW.trod_struct hu hx
  refine ⟨hl, fun i f hf => ?_⟩
  have hi : i < xs.length := by rw [hn]; exact (Array.getElem?_eq_some_iff.1 hf).1
  have hxi : xs[i]? = some xs[i] := List.getElem?_eq_getElem hi
  refine ⟨m', xs[i], by rw [hall i f hf, hxi], all_sub hz fun y hy => ?_⟩
  simp only [DataW.weights, hu]
  exact DataW.weights_mem_each (j := i) (t := f.type) (d := xs[i].1) (by rw [List.getElem?_map, Array.getElem?_toList, hf]; rfl) (by rw [List.getElem?_map, hxi]; rfl) y hy
theorem rd_slice {t e : TypeId} {cs : List Value} (hu : P.underlying t = some (.slice e)) (h : Rdg enc P w t cs) :
    cs = [.slice none 0 0] ∨ ∃ (a : Addr) (len cap : Nat), cs = [.slice (some a) len cap] ∧ len ≤ cap ∧ cap * P.bytesOf e ≤ reachBytes ∧ cap ≤ maxLen ∧
      ∀ i, i < len → ∃ cells, w.cells? 0 (a.add (i * P.cellsOf e)) (P.cellsOf e) = some cells ∧ Rdg enc P w e cells := by
  obtain ⟨m, x, hx, hz⟩ := h
  rcases DataW.trod_slice hu hx with ⟨h0, _⟩ | ⟨a, len, cap, elems, rest, m', rfl, hc, rfl, _, hl, hm, hel, hi, hs, _⟩
  · exact .inl h0
  · refine .inr ⟨a, len, cap, hc, hl, ?_, hm, fun i h => ?_⟩
    · have hr := (hs rfl).1
      have := List.all_eq_true.1 hz ((elems.length + rest.length) * P.bytesOf e) (by simp [DataW.weights, hu])
      rw [hel, hr, Nat.add_sub_cancel' hl] at this
      simpa using this
    · have hei : elems[i]? = some elems[i] := List.getElem?_eq_getElem (by omega)
      have h1 := hi i h
      rw [hei, Option.bind_eq_some_iff] at h1
      obtain ⟨cells, hcc, ht⟩ := h1
      refine ⟨cells, hcc, m', elems[i], ht, all_sub hz fun y hy => ?_⟩
      simp only [DataW.weights, hu, List.mem_cons, List.mem_append]
      exact .inr (.inl (weightsAll_mem (i := i) (d := elems[i].1) (by rw [List.getElem?_map, hei]; rfl) y hy))
theorem cells_one {a : Addr} {cs : List Value} (h : w.cells? 0 a 1 = some cs) : ∃ v, cs = [v] ∧ w.cell? a = some v := by
  unfold World.cells? at h
  rw [if_pos (Nat.zero_le _)] at h
  have hr : List.range 1 = [0] := rfl
  rw [hr] at h
  cases hc : w.cell? (a.add 0) with
  | none => simp [hc] at h
  | some v =>
    simp [hc] at h
    exact ⟨v, h.symm, hc⟩

theorem cells_get {a : Addr} {n : Nat} {cs : List Value} (h : w.cells? 0 a n = some cs) : cs.length = n ∧ ∀ i v, cs[i]? = some v → w.cell? (a.add i) = some v := by
  unfold World.cells? at h
  rw [if_pos (Nat.zero_le _)] at h
  have hl := mapM_some_length h
  refine ⟨by simpa using hl, fun i v hi => ?_⟩
  have hlt : i < n := by have := (List.getElem?_eq_some_iff.1 hi).1; simp at hl; omega
  have := mapM_some_get h i i (by simp [hlt])
  rw [this, hi]

theorem trodAll_below (hl : laidOutB P = true) : ∀ {ts : List TypeId} {vs : List Value} {ds : List (DataW H)} {ps : List MemPlace} {W W' : World},
    (ts.all fun t => P.readableRec t && decide (t < P.types.size)) = true → DataW.TrodAll enc P W 0 (fun _ => true) true ts vs ds ps → Below W.heap.size W W' → (∀ x ∈ ps, x.block < W.heap.size) →
    DataW.TrodAll enc P W' 0 (fun b => decide (b < W.heap.size)) true ts vs ds ps
  | [], [], [], _, _, _, _, h, _, _ => h
  | t :: ts, v :: vs, d :: ds, ps, W, W', hr, ⟨p, q, h1, h2, e⟩, hb, hlt => by
    simp only [List.all_cons, Bool.and_eq_true, decide_eq_true_eq] at hr
    exact ⟨p, q, Below.trod hl hr.1.1 hr.1.2 h1 hb (fun x hx => hlt x (by rw [e]; exact List.mem_append_left _ hx)), trodAll_below hl (by simpa using hr.2) h2 hb (fun x hx => hlt x (by rw [e]; exact List.mem_append_right _ hx)), e⟩
end
theorem okWide_agg {P : Program} {w : World} {r : Reach} {b : Nat} {t e : TypeId} {n : Nat} {v : Value} (ht : P.underlying t = some (.array n e)) (h : Value.okWide P w r b t v) : ∃ cs, v = .agg cs ∧ cs.size = P.cellsOf t := by
  simp only [Value.okWide, ht] at h
  obtain ⟨cs, h1, h2, _⟩ := h
  exact ⟨cs, h1, h2⟩
section
variable {H : Type} {enc : TypeId × Value → H} {P : Program} {w : World}
theorem rd_array2 {t e : TypeId} {cs : List Value} (hu : P.underlying t = some (.array 2 e)) (hc : P.cellsOf t = 2) (he : P.cellsOf e = 1) (h : Rdg enc P w t cs) : ∃ c0 c1, cs = [c0, c1] ∧ Rdg enc P w e [c0] ∧ Rdg enc P w e [c1] := by
  obtain ⟨hl, hall⟩ := rd_array hu h
  rw [hc] at hl
  match cs, hl with
  | [c0, c1], _ =>
    refine ⟨c0, c1, rfl, ?_, ?_⟩
    · have := hall 0 (by omega); rw [he] at this; exact this
    · have := hall 1 (by omega); rw [he] at this; exact this
theorem rd_array3 {t e : TypeId} {cs : List Value} (hu : P.underlying t = some (.array 3 e)) (hc : P.cellsOf t = 3) (he : P.cellsOf e = 1) (h : Rdg enc P w t cs) : ∃ c0 c1 c2, cs = [c0, c1, c2] ∧ Rdg enc P w e [c0] ∧ Rdg enc P w e [c1] ∧ Rdg enc P w e [c2] := by
  obtain ⟨hl, hall⟩ := rd_array hu h
  rw [hc] at hl
  match cs, hl with
  | [c0, c1, c2], _ =>
    refine ⟨c0, c1, c2, rfl, ?_, ?_, ?_⟩
    · have := hall 0 (by omega); rw [he] at this; exact this
    · have := hall 1 (by omega); rw [he] at this; exact this
    · have := hall 2 (by omega); rw [he] at this; exact this
end
end Go.Proofs.YtbpenkaficiodaaGreat

/- The group's functions: elements, powers, quotients: the program's and the reference's walks. -/
namespace Go.Proofs.YtbpenkaficiodaaGreat
open Go.RowKit

/-- A group's value: its four numbers, and its rows. -/
def gval (P Q G H : Nat) (R : Value) : Value := .agg #[.int .u64 (P : Int), .int .u64 (Q : Int), .int .u64 (G : Int), .int .u64 (H : Int), R]
def inG (P Q x : Nat) : Bool := decide (0 < x) && decide (x < P) && decide (powM x Q P = 1)
def expG (P Q x e : Nat) : Nat := powM x (e % Q) P
def overG (P x y : Nat) : Nat := mulM x (invM y P).1 P
theorem bint1 (r : Nat) : ((r : Int) == 1) = decide (r = 1) := by
  by_cases h : r = 1
  · rw [h]; rfl
  · rw [decide_eq_false h, beq_eq_false_iff_ne]; omega
theorem invL_lt (m : Nat) (hr : rightB m = true) : ∀ (now before was is : Nat), was < m → is < m → (invL m before now was is).2 < m := by
  intro now
  induction now using Nat.strongRecOn with
  | ind now ih =>
    intro before was is hw hi
    by_cases h : now = 0
    · rw [h, invL_zero]; exact hw
    · rw [invL_step m before now was is h]
      refine ih _ (Nat.mod_lt _ (Nat.pos_of_ne_zero h)) _ _ _ hi ?_
      rw [subM_yes hr]
      exact Nat.mod_lt _ (by have := rightB_yes hr; omega)
theorem invM_lt (a m : Nat) : (invM a m).1 ≤ 4611686018427387904 := by
  cases hr : rightB m with
  | false => rw [invM_no hr]; omega
  | true =>
    have hm := rightB_yes hr
    have hl := invL_lt m hr (a % m) m 0 1 (by omega) (by omega)
    rw [invM, if_pos hr]
    split
    · show (invL m m (a % m) 0 1).2 ≤ _; omega
    · omega

set_option maxRecDepth 100000 in
set_option maxHeartbeats 1000000 in
theorem in_any (P Q G H x : Nat) (R : Value) (w : World) (hP : P < 18446744073709551616) (hQ : Q < 18446744073709551616) (hx : x < 18446744073709551616) :
    Calls Tryz.prog 77 #[gval P Q G H R, .int .u64 (x : Int)] w fun e w' => e = .returned (.bool (inG P Q x)) ∧ Below w.heap.size w w' := by
  unfold gval
  by_cases h1 : 0 < x
  · have d1 : decide ((0 : Int) < (x : Int)) = true := decide_eq_true (by omega)
    by_cases h2 : x < P
    · have d2 : decide ((x : Int) < (P : Int)) = true := decide_eq_true (by omega)
      have hres : inG P Q x = (((powM x Q P : Nat) : Int) == 1) := by
        rw [inG, decide_eq_true h1, decide_eq_true h2, bint1]; rfl
      obtain ⟨r, hr⟩ : ∃ r, r = powM x Q P := ⟨_, rfl⟩
      rw [hres, ← hr]
      have Hr := Lib.hid hr
      clear hr hres
      go_enter Tryz.func77, Tryz.ntmps77
      go_wp2_with fail
      refine (pow_any x Q P _ hx hQ hP).mono ?_
      rw [← Hr.out]
      rintro e w' ⟨rfl, n, rfl⟩
      go_wp2_with fail
      go_ret
      exact ⟨rfl, below_drewN ((Below.refl _ _).alloc (Nat.le_refl _) _) _⟩
    · have d2 : decide ((x : Int) < (P : Int)) = false := decide_eq_false (by omega)
      have hres : inG P Q x = false := by rw [inG, decide_eq_false h2]; simp
      rw [hres]
      clear hres
      go_enter Tryz.func77, Tryz.ntmps77
      go_wp2_with fail
      go_ret
      exact ⟨rfl, ((Below.refl _ _).alloc (Nat.le_refl _) _)⟩
  · have d1 : decide ((0 : Int) < (x : Int)) = false := decide_eq_false (by omega)
    have hres : inG P Q x = false := by rw [inG, decide_eq_false h1]; simp
    rw [hres]
    clear hres
    go_enter Tryz.func77, Tryz.ntmps77
    go_wp2_with fail
    go_ret
    exact ⟨rfl, ((Below.refl _ _).alloc (Nat.le_refl _) _)⟩

set_option maxRecDepth 100000 in
set_option maxHeartbeats 1000000 in
theorem refIn_any (P Q G H x : Nat) (R : Value) (w : World) (hP : P < 18446744073709551616) (hQ : Q < 18446744073709551616) (hx : x < 18446744073709551616) :
    Calls Tryz.prog 20 #[gval P Q G H R, .int .u64 (x : Int)] w fun e w' => e = .returned (.bool (inG P Q x)) ∧ Below w.heap.size w w' := by
  unfold gval
  by_cases h1 : 0 < x
  · have d1 : decide ((1 : Int) ≤ (x : Int)) = true := decide_eq_true (by omega)
    by_cases h2 : x < P
    · have d2 : decide ((x : Int) < (P : Int)) = true := decide_eq_true (by omega)
      have hres : inG P Q x = (((powM x Q P : Nat) : Int) == 1) := by
        rw [inG, decide_eq_true h1, decide_eq_true h2, bint1]; rfl
      obtain ⟨r, hr⟩ : ∃ r, r = powM x Q P := ⟨_, rfl⟩
      rw [hres, ← hr]
      have Hr := Lib.hid hr
      clear hr hres
      go_enter Tryz.func20, Tryz.ntmps20
      go_wp2_with fail
      refine (refPow_any x Q P _ hx hQ hP).mono ?_
      rw [← Hr.out]
      rintro e w' ⟨rfl, rfl⟩
      go_wp2_with fail
      go_ret
      exact ⟨rfl, ((Below.refl _ _).alloc (Nat.le_refl _) _)⟩
    · have d2 : decide ((x : Int) < (P : Int)) = false := decide_eq_false (by omega)
      have hres : inG P Q x = false := by rw [inG, decide_eq_false h2]; simp
      rw [hres]
      clear hres
      go_enter Tryz.func20, Tryz.ntmps20
      go_wp2_with fail
      go_ret
      exact ⟨rfl, ((Below.refl _ _).alloc (Nat.le_refl _) _)⟩
  · have d1 : decide ((1 : Int) ≤ (x : Int)) = false := decide_eq_false (by omega)
    have hres : inG P Q x = false := by rw [inG, decide_eq_false h1]; simp
    rw [hres]
    clear hres
    go_enter Tryz.func20, Tryz.ntmps20
    go_wp2_with fail
    go_ret
    exact ⟨rfl, ((Below.refl _ _).alloc (Nat.le_refl _) _)⟩

set_option maxRecDepth 100000 in
set_option maxHeartbeats 1000000 in
theorem exp_any (P Q G H x ex : Nat) (R : Value) (w : World) (hP : P < 18446744073709551616) (hQ : Q < 18446744073709551616) (hQ2 : 2 ≤ Q) (hx : x < 18446744073709551616) (he : ex < 18446744073709551616) :
    Calls Tryz.prog 102 #[gval P Q G H R, .int .u64 (x : Int), .int .u64 (ex : Int)] w fun e w' => e = .returned (.int .u64 (expG P Q x ex : Int)) ∧ Below w.heap.size w w' := by
  unfold gval expG
  have d1 : decide ((Q : Int) < 2) = false := decide_eq_false (by omega)
  obtain ⟨k, hk⟩ : ∃ k, k = ex % Q := ⟨_, rfl⟩
  have hkl : k < Q := by rw [hk]; exact Nat.mod_lt _ (by omega)
  have e1 : (ex : Int) % (Q : Int) = (k : Int) := by rw [hk]; rfl
  have hq0 : (Q : Int) ≠ 0 := by omega
  rw [← hk]
  obtain ⟨r, hr⟩ : ∃ r, r = powM x k P := ⟨_, rfl⟩
  rw [← hr]
  have HP := fun W => pow_any x k P W hx (by omega) hP
  rw [← hr] at HP
  have e1t : (ex : Int).tmod (Q : Int) = (k : Int) := by rw [Int.tmod_eq_emod_of_nonneg (by omega)]; exact e1
  clear hr hk
  go_enter Tryz.func102, Tryz.ntmps102
  go_wp2_with fail
  go_quiet ((go_at_call 103; exact Calls.quiet_of (HP _)))
  go_wp2_with fail
  go_ret
  exact ⟨rfl, below_drewN ((Below.refl _ _).alloc (Nat.le_refl _) _) _⟩

set_option maxRecDepth 100000 in
set_option maxHeartbeats 1000000 in
theorem refExp_any (P Q G H x ex : Nat) (R : Value) (w : World) (hP : P < 18446744073709551616) (hQ : Q < 18446744073709551616) (hQ2 : 2 ≤ Q) (hx : x < 18446744073709551616) (he : ex < 18446744073709551616) :
    Calls Tryz.prog 74 #[gval P Q G H R, .int .u64 (x : Int), .int .u64 (ex : Int)] w fun e w' => e = .returned (.int .u64 (expG P Q x ex : Int)) ∧ Below w.heap.size w w' := by
  unfold gval expG
  have d1 : decide ((Q : Int) < 2) = false := decide_eq_false (by omega)
  obtain ⟨k, hk⟩ : ∃ k, k = ex % Q := ⟨_, rfl⟩
  have hkl : k < Q := by rw [hk]; exact Nat.mod_lt _ (by omega)
  have e1 : (ex : Int) % (Q : Int) = (k : Int) := by rw [hk]; rfl
  have hq0 : (Q : Int) ≠ 0 := by omega
  rw [← hk]
  obtain ⟨r, hr⟩ : ∃ r, r = powM x k P := ⟨_, rfl⟩
  rw [← hr]
  have HP := fun W => refPow_any x k P W hx (by omega) hP
  rw [← hr] at HP
  have e1t : (ex : Int).tmod (Q : Int) = (k : Int) := by rw [Int.tmod_eq_emod_of_nonneg (by omega)]; exact e1
  clear hr hk
  go_enter Tryz.func74, Tryz.ntmps74
  go_wp2_with fail
  go_quiet ((go_at_call 73; exact Calls.quiet_of_same (HP _)))
  go_wp2_with fail
  go_ret
  exact ⟨rfl, below_drewN ((Below.refl _ _).alloc (Nat.le_refl _) _) _⟩

set_option maxRecDepth 100000 in
set_option maxHeartbeats 1000000 in
theorem over_any (P Q G H x y : Nat) (R : Value) (w : World) (hP : P < 18446744073709551616) (hx : x < 18446744073709551616) (hy : y < 18446744073709551616) :
    Calls Tryz.prog 101 #[gval P Q G H R, .int .u64 (x : Int), .int .u64 (y : Int)] w fun e w' => e = .returned (.int .u64 (overG P x y : Int)) ∧ Below w.heap.size w w' := by
  unfold gval overG
  have hil := invM_lt y P
  obtain ⟨z, b, hz⟩ : ∃ z b, invM y P = (z, b) := ⟨_, _, rfl⟩
  rw [hz] at hil ⊢
  have Hz := Lib.hid hz
  obtain ⟨r, hr⟩ : ∃ r, r = mulM x z P := ⟨_, rfl⟩
  show Calls _ _ _ _ fun e w' => e = .returned (.int .u64 (mulM x z P : Int)) ∧ _
  rw [← hr]
  have Hr := Lib.hid hr
  clear hr hz
  go_enter Tryz.func101, Tryz.ntmps101
  go_wp2_with fail
  refine (inv_any y P _ hy hP).mono ?_
  rw [Hz.out]
  rintro e w' ⟨rfl, n1, rfl⟩
  go_wp2_with fail
  refine (mul_any x z P _ hx (by omega) hP).mono ?_
  rw [← Hr.out]
  rintro e w' ⟨rfl, n2, rfl⟩
  go_wp2_with fail
  go_ret
  exact ⟨rfl, below_drewN ((Below.refl _ _).alloc (Nat.le_refl _) _) _⟩

set_option maxRecDepth 100000 in
set_option maxHeartbeats 1000000 in
theorem refOver_any (P Q G H x y : Nat) (R : Value) (w : World) (hP : P < 18446744073709551616) (hx : x < 18446744073709551616) (hy : y < 18446744073709551616) :
    Calls Tryz.prog 108 #[gval P Q G H R, .int .u64 (x : Int), .int .u64 (y : Int)] w fun e w' => e = .returned (.int .u64 (overG P x y : Int)) ∧ Below w.heap.size w w' := by
  unfold gval overG
  have hil := invM_lt y P
  obtain ⟨z, b, hz⟩ : ∃ z b, invM y P = (z, b) := ⟨_, _, rfl⟩
  rw [hz] at hil ⊢
  have Hz := Lib.hid hz
  obtain ⟨r, hr⟩ : ∃ r, r = mulM x z P := ⟨_, rfl⟩
  show Calls _ _ _ _ fun e w' => e = .returned (.int .u64 (mulM x z P : Int)) ∧ _
  rw [← hr]
  have Hr := Lib.hid hr
  clear hr hz
  go_enter Tryz.func108, Tryz.ntmps108
  go_wp2_with fail
  refine (refInv_any y P _ hy hP).mono ?_
  rw [Hz.out]
  rintro e w' ⟨rfl, n1, rfl⟩
  go_wp2_with fail
  refine (refMul_any x z P _ hx (by omega) hP).mono ?_
  rw [← Hr.out]
  rintro e w' ⟨rfl, rfl⟩
  go_wp2_with fail
  go_ret
  exact ⟨rfl, below_drewN ((Below.refl _ _).alloc (Nat.le_refl _) _) _⟩
end Go.Proofs.YtbpenkaficiodaaGreat

namespace Go.Proofs.YtbpenkaficiodaaGreat
open Go.RowKit

theorem Tryz.mixed : Tryz.prog.follows .mixedOrders = true := by kernel_rfl

/-- A maker's cells: once, and K. -/
def mk (d s : Int) (ks : List W32) : List Value := [.int .u32 d, .int .i32 s, .int .u32 0] ++ ks.map v32
abbrev Maker (w : World) (b : Nat) (d s : Int) (ks : List W32) : Prop := Blk w b 242 (mk d s ks)
/-- K as far as the primes below p + 2 go. -/
def kTo (p : Nat) : List W32 := (prs p).map kOf ++ List.replicate (64 - (prs p).length) 0
theorem kTo_length (p : Nat) (h : (prs p).length ≤ 64) : (kTo p).length = 64 := by simp [kTo]; omega
theorem kTo_no (p : Nat) (h : isPr (p + 2) = false) : kTo (p + 1) = kTo p := by simp [kTo, prs, h]
theorem kTo_yes (p : Nat) (h : isPr (p + 2) = true) (hl : (prs p).length < 64) : kTo (p + 1) = (kTo p).set (prs p).length (kOf (p + 2)) := by
  obtain ⟨m, hm⟩ : ∃ m, 64 - (prs p).length = m + 1 := ⟨63 - (prs p).length, by omega⟩
  have e : 64 - ((prs p).length + 1) = m := by omega
  simp [kTo, prs, h, hm, e, List.replicate_succ]
theorem mk_set (d s : Int) (ks : List W32) (i : Nat) (x : W32) : (mk d s ks).set (3 + i) (v32 x) = mk d s (ks.set i x) := by
  rw [Nat.add_comm]
  simp [mk, List.map_set]
theorem mk_cell (d s : Int) (ks : List W32) (i : Nat) (h : i < ks.length) : (mk d s ks)[3 + i]? = some (v32 (ks.getD i 0)) := by
  rw [Nat.add_comm]
  simp [mk, List.getD_eq_getElem?_getD, h]
theorem kTo_end : kTo 310 = kList := by
  simp [kTo, prs_k, prs_all]

theorem behind_still (q : Nat) (z : Int) (hz : z = (q : Int)) (hq : q < 65536) (w : World) :
    Calls Tryz.prog 206 #[.int .u64 z] w fun e w' => e = .returned (v32 (kOf q)) ∧ w' = w := by
  subst hz
  exact (behind_any q w hq).mono fun _ _ ⟨he, hw⟩ => ⟨he, hw.symm⟩

set_option maxRecDepth 100000 in
set_option maxHeartbeats 1000000 in
theorem fill_any (pl : Addr) (b : Nat) (w : World) (hpb : ¬ b = pl.block) (hp : w.cell? pl = some (.pointer (some ⟨b, 0, none⟩))) (hM : Maker w b 0 1 (List.replicate 64 0)) :
    Calls Tryz.prog 205 #[.pointer (some pl)] w fun e w' => e = .returned (.tuple #[]) ∧ Maker w' b 0 1 kList ∧ w.grownBy w' (some b) ∧ w'.heap.size = w.heap.size := by
  go_enter Tryz.func205, Tryz.ntmps205
  go_wp2
  go_loopw [1, 2] (fun x y wr => ∃ p : Nat, p ≤ 310 ∧ x = .int .i64 ((prs p).length : Int) ∧ y = .int .u64 ((p : Int) + 2) ∧ Maker wr b 0 1 (kTo p) ∧ w.grownBy wr (some b) ∧ wr.heap.size = w.heap.size) (fun _ y _ => 400 - (intOf y).toNat)
  case atStart => exact ⟨0, by omega, rfl, rfl, hM, grown_refl _ _, rfl⟩
  case round =>
    obtain ⟨p, hp310, rfl, rfl, hMr, hg, hsz⟩ := hrel
    by_cases hlt : (prs p).length < 64
    · have hp309 : p < 310 := by
        rcases Nat.lt_or_ge p 310 with h | h
        · exact h
        · have := prs_mono 310 p h; have := prs_all; omega
      have HM := Lib.hid hMr
      have Hg := Lib.hid hg
      have Hsz := Lib.hid hsz
      have Hlt := Lib.hid hlt
      have hpl : wr.cell? pl = some (.pointer (some ⟨b, 0, none⟩)) := hg.cell hp (by simp; omega)
      clear hMr hg hsz hM hp
      obtain ⟨l, hl⟩ : ∃ l, l = (prs p).length := ⟨_, rfl⟩
      rw [← hl] at hlt ⊢
      have Hl := Lib.hid hl
      clear hl
      go_wp2
      go_loop [3, 4] (fun x y => ∃ (f d : Nat) (c : Bool), f + d = 22 ∧ 2 ≤ d ∧ d ≤ 19 ∧ trial (p + 2) f d c = isPr (p + 2) ∧ x = .bool c ∧ y = .int .u64 (d : Int)) (fun _ y => 30 - (intOf y).toNat)
      case atStart => exact ⟨20, 2, true, rfl, by omega, by omega, rfl, rfl, rfl⟩
      case round =>
        obtain ⟨f, d, c, hfd, hd2, hd19, htr, rfl, rfl⟩ := hrel
        obtain ⟨f, rfl⟩ : ∃ g, f = g + 1 := ⟨f - 1, by omega⟩
        have hd2' : (d : Int) * (d : Int) ≤ 361 := by exact_mod_cast Nat.mul_le_mul hd19 hd19
        have hd2'' : 0 ≤ (d : Int) * (d : Int) := by exact_mod_cast Nat.zero_le (d * d)
        by_cases hdd : d * d ≤ p + 2
        · have hd17 : d ≤ 17 := by
            rcases Nat.lt_or_ge 17 d with h | h
            · have := Nat.mul_le_mul h h; omega
            · exact h
          have hdd' : decide ((d : Int) * (d : Int) ≤ (p : Int) + 2) = true := by simp; exact_mod_cast hdd
          have htr' : trial (p + 2) f (d + 1) (c && (p + 2) % d != 0) = isPr (p + 2) := by rw [← htr]; simp [trial, hdd]
          have hm : ((p : Int) + 2) % (d : Int) = (((p + 2) % d : Nat) : Int) := by simp
          obtain ⟨m, hmm⟩ : ∃ m, m = (p + 2) % d := ⟨_, rfl⟩
          rw [← hmm] at hm htr'
          have Htr := Lib.hid htr'
          clear htr htr' hmm hdd
          cases c with
          | false =>
            go_wp2
            go_round
            case rel => exact ⟨f, d + 1, false, by omega, by omega, by omega, Htr.out, rfl, by go_num⟩
            case measure => simp [intOf]; omega
          | true =>
            by_cases hm0 : m = 0
            · have hm1 : ((m : Int) != 0) = false := by simp; omega
              go_wp2
              go_round
              case rel => exact ⟨f, d + 1, false, by omega, by omega, by omega, by have := Htr.out; rw [hm0] at this; exact this, rfl, by go_num⟩
              case measure => simp [intOf]; omega
            · have hm1 : ((m : Int) != 0) = true := by simp; omega
              go_wp2
              go_round
              case rel => exact ⟨f, d + 1, true, by omega, by omega, by omega, by have := Htr.out; rw [show (m != 0) = true by simp [hm0]] at this; exact this, rfl, by go_num⟩
              case measure => simp [intOf]; omega
        · have hdd' : decide ((d : Int) * (d : Int) ≤ (p : Int) + 2) = false := by simp; exact_mod_cast Nat.lt_of_not_le hdd
          have htr' : c = isPr (p + 2) := by rw [← htr]; simp [trial, hdd]
          have Htr := Lib.hid htr'
          clear htr htr' hdd
          cases c with
          | false =>
            have hno := kTo_no p Htr.out.symm
            have Hno := Lib.hid hno
            clear hno
            have hlen : (prs (p + 1)).length = (prs p).length := by simp [prs, Htr.out.symm]
            have Hlen := Lib.hid hlen
            clear hlen
            go_wp2
            go_roundw
            case rel => exact ⟨p + 1, by omega, by rw [Hlen.out, Hl.out], by go_num, by rw [Hno.out]; exact HM.out, Hg.out, Hsz.out⟩
            case measure => simp [intOf]; omega
          | true =>
            have hyes := kTo_yes p Htr.out.symm (by have := Hlt.out; omega)
            have hlen : (prs (p + 1)).length = (prs p).length + 1 := by simp [prs, Htr.out.symm]
            have Hlen := Lib.hid hlen
            have Hyes := Lib.hid hyes
            have hkl := kTo_length p (by have := Hlt.out; omega)
            have hcell : wr.cell? ⟨b, 3 + l, none⟩ = some (v32 ((kTo p).getD l 0)) := by
              rw [HM.out.cell, mk_cell _ _ _ _ (by rw [hkl]; exact hlt)]
            have hfr := HM.out.frozen (3 + l)
            have hset := HM.out.set (3 + l) (v32 (kOf (p + 2)))
            rw [mk_set, show (kTo p).set l (kOf (p + 2)) = kTo (p + 1) from by rw [Hl.out, ← hyes]] at hset
            have Hset := Lib.hid hset
            clear hlen hyes hkl hset
            go_wp2_with fail
            refine wp_region_still_tail 7 Tryz.mixed (by kernel_rfl) ?_
            simp only [List.take_succ_cons, List.take_zero, List.drop_succ_cons, List.drop_zero]
            still_step
            still_step
            still_step
            still_call (behind_still (p + 2) _ (by push_cast; rfl) (by omega) _)
            still_step
            still_step
            still_step
            refine wpStill_nil ?_
            go_wp2
            go_roundw
            case rel => exact ⟨p + 1, by omega, by rw [Hlen.out, ← Hl.out]; go_num, by go_num, Hset.out, grown_trans Hg.out (grown_set_drew wr b (3 + l) _), (by simpa [World.setCell] using Hsz.out)⟩
            case measure => simp [intOf]; omega
    · have hp : p = 310 := by
        rcases Nat.lt_or_ge p 310 with h | h
        · have := prs_mono p 309 (by omega); have := prs_309; omega
        · omega
      have hM' : Maker wr b 0 1 kList := by rw [← kTo_end, ← hp]; exact hMr
      have HM := Lib.hid hM'
      have Hg := Lib.hid hg
      have Hsz := Lib.hid hsz
      clear hM' hg hsz hMr hp
      go_wp2
      go_end0
      exact ⟨rfl, HM.out, Hg.out, Hsz.out⟩

/-! ### sync.Once, one goroutine -/
theorem o_disable (w : World) : (callFunc 226 #[]).run Tryz.prog w = .ok (.value (.tuple #[])) w := run_call_mark0 Tryz.func226 (by kernel_rfl) (by kernel_rfl) (by kernel_rfl) .disable (by kernel_rfl) w
theorem o_enable (w : World) : (callFunc 228 #[]).run Tryz.prog w = .ok (.value (.tuple #[])) w := run_call_mark0 Tryz.func228 (by kernel_rfl) (by kernel_rfl) (by kernel_rfl) .enable (by kernel_rfl) w
theorem o_acquire (a : Addr) (w : World) : (callFunc 229 #[.pointer (some a)]).run Tryz.prog w = .ok (.value (.tuple #[])) w := run_call_marked Tryz.func229 (by kernel_rfl) (by kernel_rfl) (by kernel_rfl) .acquire (by kernel_rfl) a w
theorem o_releaseMerge (a : Addr) (w : World) : (callFunc 231 #[.pointer (some a)]).run Tryz.prog w = .ok (.value (.tuple #[])) w := run_call_marked Tryz.func231 (by kernel_rfl) (by kernel_rfl) (by kernel_rfl) .releaseMerge (by kernel_rfl) a w

theorem o_store (a : Addr) (x : Value) (u : FrameMode) (w : World) (hc : w.cell? a = some x) (hz : w.frozen? a = false) :
    CallsD Tryz.prog 220 #[.pointer (some a), .bool true] u w fun e u' w' => u' = u ∧ (e = .returned (.tuple #[]) ∧ w' = w.drew.setCell a (.int .u32 1)) := by
  have hc' : w.drew.cell? a = some x := by go_simp
  have hz' : w.drew.frozen? a = false := by go_simp
  have hst := run_call_store (P := Tryz.prog) Tryz.func224 (by kernel_rfl) (by kernel_rfl) (by kernel_rfl) (by kernel_rfl) (k := .u32) (y := 1) hc' hz'
  go_enter_d Tryz.func220, Tryz.ntmps220
  go_wp2
  go_region_calls
  all_goals (go_end0; exact ⟨rfl, rfl⟩)

set_option maxRecDepth 100000 in
theorem o_unlock (a : Addr) (u : FrameMode) (w : World) (hc : w.cell? a = some (.int .i32 1)) (hz : w.frozen? a = false) :
    CallsD Tryz.prog 219 #[.pointer (some a)] u w fun e u' w' => u' = u ∧ (e = .returned (.tuple #[]) ∧ w' = w.setCell a (.int .i32 0)) := by
  have hd := o_disable
  have he := o_enable
  have hr := o_releaseMerge
  have hadd := run_call_add (P := Tryz.prog) Tryz.func232 (by kernel_rfl) (by kernel_rfl) (by kernel_rfl) .i32 (by kernel_rfl) (y := -1) (s := 0) hc hz (by simp [go_sem]; rfl)
  have hcv := run_convert_to_unsafe (P := Tryz.prog) (src := 269) (dst := 247) Tryz.underlying269 Tryz.underlying247 (by kernel_rfl) hc
  go_enter_d Tryz.func219, Tryz.ntmps219
  go_wp2
  go_end0
  go_wp2
  go_end0
  exact ⟨rfl, rfl⟩

set_option maxRecDepth 100000 in
theorem o_lock (a : Addr) (w : World) (hc : w.cell? a = some (.int .i32 0)) (hz : w.frozen? a = false) :
    Calls Tryz.prog 218 #[.pointer (some a)] w fun e w' => e = .returned (.tuple #[]) ∧ w' = w.setCell a (.int .i32 1) := by
  have hd := o_disable
  have he := o_enable
  have ha := o_acquire
  have hcas := run_call_cas_hit (P := Tryz.prog) Tryz.func227 (by kernel_rfl) (by kernel_rfl) (by kernel_rfl) .i32 (by kernel_rfl) (y := 1) hc hz
  have hc' : (w.setCell a (.int .i32 1)).cell? a = some (.int .i32 1) := World.cell?_setCell_same w a _ hc
  have hcv := run_convert_to_unsafe (P := Tryz.prog) (src := 269) (dst := 247) Tryz.underlying269 Tryz.underlying247 (by kernel_rfl) hc'
  go_enter Tryz.func218, Tryz.ntmps218
  go_wp2
  first | go_end0 | (simp only [Exit.inBlock, Exit.then]; refine bodyPost_ret (results_none rfl _ _ _) rfl ?_) | refine bodyPost_ret (results_none rfl _ _ _) rfl ?_
  go_wp2
  go_end0
  exact ⟨rfl, rfl⟩
end Go.Proofs.YtbpenkaficiodaaGreat

namespace Go.Proofs.YtbpenkaficiodaaGreat
open Go.RowKit

theorem mk_set0 (d s d' : Int) (ks : List W32) : (mk d s ks).set 0 (.int .u32 d') = mk d' s ks := rfl
theorem mk_set1 (d s s' : Int) (ks : List W32) : (mk d s ks).set 1 (.int .i32 s') = mk d s' ks := rfl
theorem Maker.done {w : World} {b : Nat} {d s : Int} {ks : List W32} (h : Maker w b d s ks) : w.cell? ⟨b, 0, none⟩ = some (.int .u32 d) := h.cell 0
theorem Maker.lock {w : World} {b : Nat} {d s : Int} {ks : List W32} (h : Maker w b d s ks) : w.cell? ⟨b, 1, none⟩ = some (.int .i32 s) := h.cell 1

set_option maxRecDepth 100000 in
set_option maxHeartbeats 1600000 in
theorem slow_any (b : Nat) (pl : Addr) (hpb : ¬ b = pl.block) (w : World) (hp : w.cell? pl = some (.pointer (some ⟨b, 0, none⟩))) (hM : Maker w b 0 0 (List.replicate 64 0)) :
    Calls Tryz.prog 212 #[.pointer (some ⟨b, 0, none⟩), .func (.func 205) #[] #[.pointer (some pl)]] w fun e w' => e = .returned (.tuple #[]) ∧ Maker w' b 1 0 kList ∧ w.grownBy w' (some b) ∧ w'.heap.size = w.heap.size := by
  have h0 := hM.lock
  have f0 := hM.frozen 1
  have hM1 : Maker (w.setCell ⟨b, 1, none⟩ (.int .i32 1)) b 0 1 (List.replicate 64 0) := by have := hM.set 1 (.int .i32 1); rwa [mk_set1] at this
  have hl := run_call_load (P := Tryz.prog) Tryz.func217 (by kernel_rfl) (by kernel_rfl) (by kernel_rfl) .u32 (by kernel_rfl) hM1.done
  have hp1 : (w.setCell ⟨b, 1, none⟩ (.int .i32 1)).cell? pl = some (.pointer (some ⟨b, 0, none⟩)) := (World.cell?_setCell_other _ ⟨b, 1, none⟩ pl _ (fun h => hpb (by rw [← h]))).trans hp
  have hnot : ∀ (x : Bool) (w : World), (Op.unary .not (.bool x)).run Tryz.prog w = .ok (.bool (!x)) w := fun _ _ => rfl
  have HM1 := Lib.hid hM1
  have hg1 := Lib.hid (grown_set w b 1 (.int .i32 1))
  clear hM1 hM
  go_enter_defers Tryz.func212, Tryz.ntmps212
  go_wp2_with (first | (go_at_call 218; refine (o_lock ⟨b, 1, none⟩ _ h0 f0).mono ?_; rintro e w' ⟨rfl, rfl⟩) | (go_at_call 211; go_in))
  refine (fill_any pl b _ hpb hp1 HM1.out).mono ?_
  rintro e w2 ⟨rfl, hM2, hg2, hs2⟩
  have hM3 : Maker (w2.drew.setCell ⟨b, 0, none⟩ (.int .u32 1)) b 1 1 kList := by have := hM2.drew.set 0 (.int .u32 1); rwa [mk_set0] at this
  have hM4 : Maker ((w2.drew.setCell ⟨b, 0, none⟩ (.int .u32 1)).setCell ⟨b, 1, none⟩ (.int .i32 0)) b 1 0 kList := by have := hM3.set 1 (.int .i32 0); rwa [mk_set1] at this
  have d2 := hM2.done
  have l2 := hM2.lock
  have z0 := hM2.frozen 0
  have z1 := hM2.frozen 1
  have c3 := hM3.lock
  have z3 := hM3.frozen 1
  have hgr : w.grownBy ((w2.drew.setCell ⟨b, 0, none⟩ (.int .u32 1)).setCell ⟨b, 1, none⟩ (.int .i32 0)) (some b) :=
    grown_trans (grown_trans (grown_trans hg1.out hg2) (grown_trans (grown_drewN w2 1 _) (grown_set w2.drew b 0 _))) (grown_set _ b 1 _)
  have HM4 := Lib.hid hM4
  have Hgr := Lib.hid hgr
  have Hs2 := Lib.hid hs2
  clear hM2 hM3 hM4 hgr hs2 hg2
  go_wp2
  refine leaves_cons (f := 220) (args := #[.pointer (some ⟨b, 0, none⟩), .bool true]) (by simp) (by simp [go_sem]) ?_
  refine (o_store ⟨b, 0, none⟩ (.int .u32 0) .returning _ d2 z0).mono ?_
  rintro e u' w'' ⟨rfl, rfl, rfl⟩
  refine leaves_cons (f := 219) (args := #[.pointer (some ⟨b, 1, none⟩)]) (by simp [settle]) (by simp [go_sem]) ?_
  refine (o_unlock ⟨b, 1, none⟩ _ _ c3 z3).mono ?_
  rintro e u' w'' ⟨rfl, rfl, rfl⟩
  simp [Leaves, settle, results, Tryz.results212]
  exact ⟨HM4.out, Hgr.out, by have := Hs2.out; simp [World.setCell] at this ⊢; exact this⟩

set_option maxRecDepth 100000 in
set_option maxHeartbeats 1600000 in
theorem do_first (b : Nat) (pl : Addr) (hpb : ¬ b = pl.block) (w : World) (hp : w.cell? pl = some (.pointer (some ⟨b, 0, none⟩))) (hM : Maker w b 0 0 (List.replicate 64 0)) :
    Calls Tryz.prog 204 #[.pointer (some ⟨b, 0, none⟩), .func (.func 205) #[] #[.pointer (some pl)]] w fun e w' => e = .returned (.tuple #[]) ∧ Maker w' b 1 0 kList ∧ w.grownBy w' (some b) ∧ w'.heap.size = w.heap.size := by
  have hl := run_call_load (P := Tryz.prog) Tryz.func217 (by kernel_rfl) (by kernel_rfl) (by kernel_rfl) .u32 (by kernel_rfl) hM.done
  have hnot : ∀ (x : Bool) (w : World), (Op.unary .not (.bool x)).run Tryz.prog w = .ok (.bool (!x)) w := fun _ _ => rfl
  have HM := Lib.hid hM
  clear hM
  go_enter Tryz.func204, Tryz.ntmps204
  go_wp2_with (first | (go_at_call 212; refine (slow_any b pl hpb _ hp HM.out).mono ?_; rintro e w' ⟨rfl, hM2, hg2, hs2⟩; have HM2 := Lib.hid hM2; have Hg2 := Lib.hid hg2; have Hs2 := Lib.hid hs2; clear hM2 hg2 hs2) | (go_at_call 211; go_in))
  go_end0
  exact ⟨rfl, HM2.out, Hg2.out, Hs2.out⟩

set_option maxRecDepth 100000 in
theorem do_done (b : Nat) (fv : Value) (s : Int) (ks : List W32) (w : World) (hM : Maker w b 1 s ks) :
    Calls Tryz.prog 204 #[.pointer (some ⟨b, 0, none⟩), fv] w fun e w' => e = .returned (.tuple #[]) ∧ w = w' := by
  have hl := run_call_load (P := Tryz.prog) Tryz.func217 (by kernel_rfl) (by kernel_rfl) (by kernel_rfl) .u32 (by kernel_rfl) hM.done
  have hnot : ∀ (x : Bool) (w : World), (Op.unary .not (.bool x)).run Tryz.prog w = .ok (.bool (!x)) w := fun _ _ => rfl
  clear hM
  go_enter Tryz.func204, Tryz.ntmps204
  go_wp2
  go_end0
  exact ⟨rfl, rfl⟩

/-- A maker that is new, or has made K. -/
def Ready (w : World) (b : Nat) : Prop := Maker w b 0 0 (List.replicate 64 0) ∨ Maker w b 1 0 kList
theorem Ready.lt {w : World} {b : Nat} (h : Ready w b) : b < w.heap.size := h.elim Blk.lt Blk.lt
theorem Ready.alloc {w : World} {b : Nat} (h : Ready w b) (o : Obj) : Ready (w.alloc o) b := h.imp (·.alloc o) (·.alloc o)

set_option maxRecDepth 100000 in
set_option maxHeartbeats 1600000 in
theorem numbers_any (b : Nat) (w : World) (hM : Ready w b) :
    Calls Tryz.prog 201 #[.pointer (some ⟨b, 0, none⟩)] w fun e w' => e = .returned (.pointer (some ⟨b, 3, none⟩)) ∧ Maker w' b 1 0 kList ∧ w.grownBy w' (some b) := by
  have hmf : ∀ (fn : Fn) (first cap : Array Value) (w : World), (Instr.makeFunc fn first cap).run Tryz.prog w = .ok (.func fn first cap) w := fun _ _ _ _ => rfl
  have hb := hM.lt
  rcases hM with hM | hM
  · have p0 : (w.alloc (.cells #[.pointer (some ⟨b, 0, none⟩)] 228)).cell? ⟨w.heap.size, 0, none⟩ = some (.pointer (some ⟨b, 0, none⟩)) := by simp
    have H := do_first b ⟨w.heap.size, 0, none⟩ (by simp; omega) _ p0 (hM.alloc _)
    have HH := Lib.hid H
    clear H hM
    go_enter Tryz.func201, Tryz.ntmps201
    go_wp2_with (go_at_call 204; refine HH.out.mono ?_; rintro e w' ⟨rfl, hM2, hg2, hs2⟩; have pE := hg2.cell p0 (by simp; omega); have HM2 := Lib.hid hM2; have Hg2 := Lib.hid hg2; clear hM2 hg2 hs2)
    go_ret
    exact ⟨rfl, HM2.out, grown_trans (grown_alloc _ _ _) Hg2.out⟩
  · have p0 : (w.alloc (.cells #[.pointer (some ⟨b, 0, none⟩)] 228)).cell? ⟨w.heap.size, 0, none⟩ = some (.pointer (some ⟨b, 0, none⟩)) := by simp
    have H := do_done b (.func (.func 205) #[] #[.pointer (some ⟨w.heap.size, 0, none⟩)]) 0 kList _ (hM.alloc (.cells #[.pointer (some ⟨b, 0, none⟩)] 228))
    have HH := Lib.hid H
    have HM := Lib.hid (hM.alloc (.cells #[.pointer (some ⟨b, 0, none⟩)] 228))
    clear H hM
    go_enter Tryz.func201, Tryz.ntmps201
    go_wp2_with (go_at_call 204; refine HH.out.mono ?_; rintro e w' ⟨rfl, rfl⟩)
    go_ret
    exact ⟨rfl, HM.out, grown_alloc _ _ _⟩
end Go.Proofs.YtbpenkaficiodaaGreat

namespace Go.Proofs.YtbpenkaficiodaaGreat
open Go.RowKit

theorem rot_still (x : W32) (n : Nat) (w : World) (h1 : 1 ≤ n) (h2 : n ≤ 31) :
    Calls Tryz.prog 207 #[v32 x, .int .i64 (n : Int)] w fun e w' => e = .returned (v32 (x.rotateRight n)) ∧ w' = w :=
  (rot_any x n w h1 h2).mono fun _ _ ⟨he, hw⟩ => ⟨he, hw.symm⟩

theorem rot_lit (n : Nat) (x : W32) (z : Int) (hz : z = (n : Int)) (w : World) (h1 : 1 ≤ n) (h2 : n ≤ 31) :
    Calls Tryz.prog 207 #[v32 x, .int .i64 z] w fun e w' => e = .returned (v32 (x.rotateRight n)) ∧ w' = w := by
  subst hz
  exact rot_still x n w h1 h2

/-- What a round of sums reads: the eight numbers, the words, K. -/
structure Rd (x : World) (V W kb : Nat) (w0 : World) (v : St) (l : List UInt8) : Prop where
  st : Blk x V 251 v.cells
  ws : Blk x W 240 (wArr l 64)
  ks : Maker x kb 1 0 kList
  below : Below V w0 x
theorem Rd.drewN {x : World} {V W kb : Nat} {w0 : World} {v : St} {l : List UInt8} (h : Rd x V W kb w0 v l) (n : Nat) : Rd (x.drewN n) V W kb w0 v l := ⟨h.st, h.ws, h.ks, below_drewN h.below n⟩
theorem Rd.drew {x : World} {V W kb : Nat} {w0 : World} {v : St} {l : List UInt8} (h : Rd x V W kb w0 v l) : Rd x.drew V W kb w0 v l := ⟨h.st, h.ws, h.ks, h.below.drew⟩
theorem Rd.cells {x : World} {V W kb : Nat} {w0 : World} {v : St} {l : List UInt8} (h : Rd x V W kb w0 v l) :
    x.cell? ⟨V, 0, none⟩ = some (v32 v.a) ∧ x.cell? ⟨V, 1, none⟩ = some (v32 v.b) ∧ x.cell? ⟨V, 2, none⟩ = some (v32 v.c) ∧ x.cell? ⟨V, 4, none⟩ = some (v32 v.e) ∧ x.cell? ⟨V, 5, none⟩ = some (v32 v.f) ∧ x.cell? ⟨V, 6, none⟩ = some (v32 v.g) ∧ x.cell? ⟨V, 7, none⟩ = some (v32 v.h) :=
  ⟨h.st.cell 0, h.st.cell 1, h.st.cell 2, h.st.cell 4, h.st.cell 5, h.st.cell 6, h.st.cell 7⟩
theorem Rd.word {x : World} {V W kb : Nat} {w0 : World} {v : St} {l : List UInt8} (h : Rd x V W kb w0 v l) (t : Nat) (ht : t < 64) : x.cell? ⟨W, t, none⟩ = some (v32 ((sch l 64).getD t 0)) := by
  rw [h.ws.cell, wArr_get l 64 t ht]
theorem kList_length : kList.length = 64 := rfl
theorem Rd.k {x : World} {V W kb : Nat} {w0 : World} {v : St} {l : List UInt8} (h : Rd x V W kb w0 v l) (t : Nat) (ht : t < 64) : x.cell? ⟨kb, 3 + t, none⟩ = some (v32 (kList.getD t 0)) := by
  rw [h.ks.cell, mk_cell _ _ _ _ (by rw [kList_length]; exact ht)]

set_option maxRecDepth 100000 in
set_option maxHeartbeats 2000000 in
theorem block_any (hb kb : Nat) (v0 : St) (s : ByteArray) (hs : s.size = 64) (w : World) (_hne : ¬ hb = kb) (hH : Blk w hb 251 v0.cells) (hK : Maker w kb 1 0 kList) :
    Calls Tryz.prog 202 #[.pointer (some ⟨hb, 0, none⟩), .string s, .pointer (some ⟨kb, 3, none⟩)] w fun e w' => e = .returned (.tuple #[]) ∧ Blk w' hb 251 (comp v0 s.data.toList).cells ∧ w.grownBy w' (some hb) := by
  obtain ⟨l, hl⟩ : ∃ l, l = s.data.toList := ⟨_, rfl⟩
  have hll : l.length = 64 := by rw [hl, Array.length_toList]; exact hs
  have hget : ∀ (j : Nat) (z : Int), z = (j : Int) → j < 64 → ∀ W, (Instr.index 9 (.string s) (.int .i64 z)).run Tryz.prog W = .ok (.int .u8 ((l.getD j 0).toNat : Int)) W := by
    intro j z hz hj W
    refine run_index_str Tryz.underlying_str s z j _ hz ?_ W
    rw [← hl, List.getD_eq_getElem?_getD, List.getElem?_eq_getElem (by omega)]; rfl
  rw [← hl]
  have Hget := Lib.hid hget
  clear hl hget hs
  go_enter Tryz.func202, Tryz.ntmps202
  go_wp2
  go_loopw [18] (fun x wr => ∃ t : Nat, t ≤ 64 ∧ x = .int .i64 (t : Int) ∧ Blk wr w.heap.size 240 (wArr l t) ∧ Below w.heap.size w wr) (fun x _ => (64 - intOf x).toNat)
  case atStart => exact ⟨0, by omega, rfl, Blk.of _ _ _ _ rfl, (Below.refl _ _).alloc (Nat.le_refl _) _⟩
  case round =>
    obtain ⟨wo, rfl⟩ : ∃ wo : World, wo = wr := ⟨_, rfl⟩
    obtain ⟨t, ht, rfl, hA, hB⟩ := hrel
    have HA := Lib.hid hA
    have HB := Lib.hid hB
    clear hA hB
    by_cases h64 : t < 64
    · have b64 : decide ((t : Int) < 64) = true := by simp; omega
      have c64 : (t : Int) < 64 := by omega
      by_cases h16 : t < 16
      · have b16 : decide ((t : Int) < 16) = true := by simp; omega
        go_wp2
        go_loopw [23] (fun y wi => ∃ i : Nat, i ≤ 4 ∧ y = .int .i64 (i : Int) ∧ Blk wi w.heap.size 240 ((wArr l t).set t (v32 (pword l t i))) ∧ Below w.heap.size w wi) (fun y _ => (4 - intOf y).toNat)
        case atStart => exact ⟨0, by omega, rfl, by rw [show v32 (pword l t 0) = v32 0 from rfl, set_same (wArr_zero l t h64)]; exact HA.out, HB.out⟩
        case round =>
          obtain ⟨i, hi, rfl, hA1, hB1⟩ := hrel
          by_cases hi4 : i < 4
          · have hcell : wr.cell? ⟨w.heap.size, t, none⟩ = some (v32 (pword l t i)) := by
              rw [hA1.cell, List.getElem?_set_self (by rw [wArr_length _ _ (by omega)]; omega)]
            have hfr := hA1.frozen t
            have hset := hA1.set t (v32 (pword l t (i + 1)))
            rw [List.set_set] at hset
            have hix := Hget.out (4 * t + i) (4 * (t : Int) + (i : Int)) (by omega) (by omega)
            have hcv : IntKind.u32.wrap (((l.getD (4 * t + i) 0).toNat : Nat) : Int) = iw (BitVec.ofNat 32 (l.getD (4 * t + i) 0).toNat) := w32_wrap _
            have hsh := w32_shl8 (pword l t i)
            have hw1 : IntKind.i64.wrap (4 * (t : Int)) = 4 * (t : Int) := IntWalk.i64_in _ (by omega)
            have hw2 : IntKind.i64.wrap (4 * (t : Int) + (i : Int)) = 4 * (t : Int) + (i : Int) := IntWalk.i64_in _ (by omega)
            have hor := w32_or (pword l t i <<< 8) (BitVec.ofNat 32 (l.getD (4 * t + i) 0).toNat)
            have hpw : v32 (pword l t (i + 1)) = v32 (pword l t i <<< 8 ||| BitVec.ofNat 32 (l.getD (4 * t + i) 0).toNat) := rfl
            rw [hpw] at hset
            have HA1 := Lib.hid hA1
            have HB1 := Lib.hid hB1
            have Hset := Lib.hid hset
            have Hpw := Lib.hid hpw
            clear hA1 hB1 hset hpw
            obtain ⟨c, hc⟩ : ∃ c, c = (l.getD (4 * t + i) 0).toNat := ⟨_, rfl⟩
            rw [← hc] at hix hcv hor Hset Hpw
            clear hc
            go_wp2
            refine wp_region_still_tail 14 Tryz.mixed (by kernel_rfl) ?_
            simp only [List.take_succ_cons, List.take_zero, List.drop_succ_cons, List.drop_zero]
            repeat still_step
            refine wpStill_nil ?_
            clear hw1 hw2 hix
            go_wp2
            go_roundw
            case rel => exact ⟨i + 1, by omega, by go_num, by rw [Hpw.out]; exact Hset.out, below_set_drew HB1.out (Nat.le_refl _) _ _⟩
            case measure => simp [intOf]; omega
          · have hi4' : i = 4 := by omega
            have hA2 : Blk wr w.heap.size 240 (wArr l (t + 1)) := by
              rw [← wArr_succ l t h64, show wnext l t (sch l t) = pword l t 4 by simp [wnext, h16], ← hi4']; exact hA1
            have HA1 := Lib.hid hA2
            have HB1 := Lib.hid hB1
            clear hA1 hB1 hA2 hi4'
            go_wp2
            go_roundw
            case rel => exact ⟨t + 1, by omega, by go_num, HA1.out, HB1.out⟩
            case measure => simp [intOf]; omega
      · have b16 : decide ((t : Int) < 16) = false := by simp; omega
        have hg : ∀ j, j < t → wo.cell? ⟨w.heap.size, j, none⟩ = some (v32 ((sch l t).getD j 0)) := fun j hj => by rw [HA.out.cell, wArr_get l t j hj]
        have g15 := hg (t - 15) (by omega)
        have g2 := hg (t - 2) (by omega)
        have g16 := hg (t - 16) (by omega)
        have g7 := hg (t - 7) (by omega)
        have hfr := HA.out.frozen t
        obtain ⟨x15, e15⟩ : ∃ x, x = (sch l t).getD (t - 15) 0 := ⟨_, rfl⟩
        obtain ⟨x2, e2⟩ : ∃ x, x = (sch l t).getD (t - 2) 0 := ⟨_, rfl⟩
        obtain ⟨x16, e16⟩ : ∃ x, x = (sch l t).getD (t - 16) 0 := ⟨_, rfl⟩
        obtain ⟨x7, e7⟩ : ∃ x, x = (sch l t).getD (t - 7) 0 := ⟨_, rfl⟩
        have hval : wnext l t (sch l t) = x16 + (x15.rotateRight 7 ^^^ x15.rotateRight 18 ^^^ x15 >>> 3) + x7 + (x2.rotateRight 17 ^^^ x2.rotateRight 19 ^^^ x2 >>> 10) := by
          rw [e15, e2, e16, e7]; simp [wnext, h16, sg0, sg1]
        have hset := HA.out.set t (v32 (wnext l t (sch l t)))
        rw [wArr_succ l t h64, hval] at hset
        have hz := wArr_zero l t h64
        have g0 : wo.cell? ⟨w.heap.size, t, none⟩ = some (v32 0) := by rw [HA.out.cell, hz]
        rw [← e15] at g15
        rw [← e2] at g2
        rw [← e16] at g16
        rw [← e7] at g7
        have Hset := Lib.hid hset
        have Hval := Lib.hid hval
        have u15 : ((t : Int) - 15).toNat = t - 15 := by omega
        have u2 : ((t : Int) - 2).toNat = t - 2 := by omega
        have u16 : ((t : Int) - 16).toNat = t - 16 := by omega
        have u7 : ((t : Int) - 7).toNat = t - 7 := by omega
        have q15 : IntKind.i64.wrap ((t : Int) - 15) = (t : Int) - 15 := IntWalk.i64_in _ (by omega)
        have q2 : IntKind.i64.wrap ((t : Int) - 2) = (t : Int) - 2 := IntWalk.i64_in _ (by omega)
        have q16 : IntKind.i64.wrap ((t : Int) - 16) = (t : Int) - 16 := IntWalk.i64_in _ (by omega)
        have q7 : IntKind.i64.wrap ((t : Int) - 7) = (t : Int) - 7 := IntWalk.i64_in _ (by omega)
        have d16 : (16 : Int) ≤ (t : Int) := by omega
        have d7 : (7 : Int) ≤ (t : Int) := by omega
        have k16 : (t : Int) - 16 < 64 := by omega
        have k7 : (t : Int) - 7 < 64 := by omega
        have j16 : 0 ≤ (t : Int) - 16 := by omega
        have j7 : 0 ≤ (t : Int) - 7 := by omega
        clear hg hset hz hval e15 e2 e16 e7
        go_wp2
        go_quiet (fail)
        go_wp2_with fail
        have g16' : (wo.drewN nq).cell? ⟨w.heap.size, t - 16, none⟩ = some (v32 x16) := g16
        have g7' : (wo.drewN nq).cell? ⟨w.heap.size, t - 7, none⟩ = some (v32 x7) := g7
        have g0' : (wo.drewN nq).cell? ⟨w.heap.size, t, none⟩ = some (v32 0) := g0
        have hfr' : (wo.drewN nq).frozen? ⟨w.heap.size, t, none⟩ = false := hfr
        have hset' := ((HA.out.drewN nq).set t (v32 (wnext l t (sch l t))))
        rw [wArr_succ l t h64, Hval.out] at hset'
        have hb' : Below w.heap.size w (wo.drewN nq) := below_drewN HB.out nq
        have Hset' := Lib.hid hset'
        have Hb' := Lib.hid hb'
        clear g16 g7 g0 hfr Hset HA HB g15 g2 hset' hb'
        generalize wo.drewN nq = wq at *
        have rx := w32_xor
        have ra := w32_add
        have r3 := w32_shr3
        have r10 := w32_shr10
        refine wp_region_still_tail 29 Tryz.mixed (by kernel_rfl) ?_
        simp only [List.take_succ_cons, List.take_zero, List.drop_succ_cons, List.drop_zero]
        repeat still_step
        still_call (rot_lit 7 _ _ rfl _ (by omega) (by omega))
        repeat still_step
        still_call (rot_lit 18 _ _ rfl _ (by omega) (by omega))
        repeat still_step
        still_call (rot_lit 17 _ _ rfl _ (by omega) (by omega))
        repeat still_step
        still_call (rot_lit 19 _ _ rfl _ (by omega) (by omega))
        repeat still_step
        refine wpStill_nil ?_
        clear rx ra r3 r10
        go_wp2
        go_roundw
        case rel => exact ⟨t + 1, by omega, by go_num, Hset'.out, below_set_drew Hb'.out (Nat.le_refl _) _ _⟩
        case measure => simp [intOf]; omega
    · have hA : Blk wo w.heap.size 240 (wArr l 64) := by rw [← show t = 64 from by omega]; exact HA.out
      have hB := HB.out
      have hH1 := hH.below hB hH.lt
      have hK1 : Maker wo kb 1 0 kList := hK.below hB hK.lt
      have b64 : decide ((t : Int) < 64) = false := by simp; omega
      have c0 : wo.cell? ⟨hb, 0, none⟩ = some (v32 v0.a) := hH1.cell 0
      have c1 : wo.cell? ⟨hb, 1, none⟩ = some (v32 v0.b) := hH1.cell 1
      have c2 : wo.cell? ⟨hb, 2, none⟩ = some (v32 v0.c) := hH1.cell 2
      have c3 : wo.cell? ⟨hb, 3, none⟩ = some (v32 v0.d) := hH1.cell 3
      have c4 : wo.cell? ⟨hb, 4, none⟩ = some (v32 v0.e) := hH1.cell 4
      have c5 : wo.cell? ⟨hb, 5, none⟩ = some (v32 v0.f) := hH1.cell 5
      have c6 : wo.cell? ⟨hb, 6, none⟩ = some (v32 v0.g) := hH1.cell 6
      have c7 : wo.cell? ⟨hb, 7, none⟩ = some (v32 v0.h) := hH1.cell 7
      have HA2 := Lib.hid hA
      have HB2 := Lib.hid hB
      have HH1 := Lib.hid hH1
      have HK1 := Lib.hid hK1
      clear hA hB hH1 hK1 HA HB hH hK
      go_wp2_with fail
      go_loopw [82] (fun y x => ∃ r : Nat, r ≤ 64 ∧ y = .int .i64 (r : Int) ∧ Rd x wo.heap.size w.heap.size kb wo (rnds (sch l 64) v0 r) l) (fun y _ => (64 - intOf y).toNat)
      case atStart => exact ⟨0, by omega, rfl, Blk.of _ _ _ _ rfl, HA2.out.alloc _, HK1.out.alloc _, (Below.refl _ _).alloc (Nat.le_refl _) _⟩
      case round =>
        obtain ⟨x, rfl⟩ : ∃ x : World, x = wr := ⟨_, rfl⟩
        obtain ⟨r, hr, rfl, hR⟩ := hrel
        by_cases r64 : r < 64
        · have b64' : decide ((r : Int) < 64) = true := by simp; omega
          have c64' : (r : Int) < 64 := by omega
          obtain ⟨v, hv⟩ : ∃ v, v = rnds (sch l 64) v0 r := ⟨_, rfl⟩
          rw [← hv] at hR
          have hnext : rnds (sch l 64) v0 (r + 1) = rnd v (kList.getD r 0) ((sch l 64).getD r 0) := by rw [hv]; rfl
          have Hnext := Lib.hid hnext
          have HR := Lib.hid hR
          clear hv hnext hR c0 c1 c2 c3 c4 c5 c6 c7
          obtain ⟨kr, hkr⟩ : ∃ k, k = kList.getD r 0 := ⟨_, rfl⟩
          obtain ⟨wr', hwr⟩ : ∃ k, k = (sch l 64).getD r 0 := ⟨_, rfl⟩
          have Hkr := Lib.hid hkr
          have Hwr := Lib.hid hwr
          clear hkr hwr
          obtain ⟨f0, f1, f2, f4, f5, f6, f7⟩ := HR.out.cells
          go_wp2_with fail
          go_quiet (fail)
          have HR2 := Lib.hid (HR.out.drewN nq)
          clear HR f0 f1 f2 f4 f5 f6 f7
          generalize x.drewN nq = x2 at *
          obtain ⟨f0, f1, f2, f4, f5, f6, f7⟩ := HR2.out.cells
          have fw := HR2.out.word r r64
          have fk := HR2.out.k r r64
          rw [← Hkr.out] at fk
          rw [← Hwr.out] at fw
          have rx := w32_xor
          have rn := w32_and
          have ra := w32_add
          have ro := w32_not
          go_wp2_with fail
          refine wp_region_quiet_lit (by kernel_rfl) (by kernel_rfl) ?_
          repeat (quiet_step (fail))
          quiet_step ((exact Calls.quiet_of_same (rot_lit 6 _ _ rfl _ (by omega) (by omega))))
          repeat (quiet_step (fail))
          quiet_step ((exact Calls.quiet_of_same (rot_lit 11 _ _ rfl _ (by omega) (by omega))))
          repeat (quiet_step (fail))
          quiet_step ((exact Calls.quiet_of_same (rot_lit 25 _ _ rfl _ (by omega) (by omega))))
          repeat (quiet_step (fail))
          refine wpQuiet_nil ?_
          intro _ hw'
          obtain ⟨nq2, hw''⟩ := hw'
          subst hw''
          have HR3 := Lib.hid (HR2.out.drewN nq2)
          clear HR2 f0 f1 f2 f4 f5 f6 f7 fk fw
          generalize x2.drewN nq2 = x3 at *
          obtain ⟨f0, f1, f2, f4, f5, f6, f7⟩ := HR3.out.cells
          have hone : v.h + (v.e.rotateRight 6 ^^^ v.e.rotateRight 11 ^^^ v.e.rotateRight 25) + (v.e &&& v.f ^^^ ~~~v.e &&& v.g) + kr + wr' = one v kr wr' := rfl
          rw [hone]
          generalize ho1 : one v kr wr' = o1 at *
          have Ho1 := Lib.hid ho1
          clear ho1
          go_wp2_with fail
          refine wp_region_quiet_lit (by kernel_rfl) (by kernel_rfl) ?_
          repeat (quiet_step (fail))
          quiet_step ((exact Calls.quiet_of_same (rot_lit 2 _ _ rfl _ (by omega) (by omega))))
          repeat (quiet_step (fail))
          quiet_step ((exact Calls.quiet_of_same (rot_lit 13 _ _ rfl _ (by omega) (by omega))))
          repeat (quiet_step (fail))
          quiet_step ((exact Calls.quiet_of_same (rot_lit 22 _ _ rfl _ (by omega) (by omega))))
          repeat (quiet_step (fail))
          refine wpQuiet_nil ?_
          intro _ hw'
          obtain ⟨nq3, hw''⟩ := hw'
          subst hw''
          have HR4 := Lib.hid (HR3.out.drewN nq3)
          clear HR3 f0 f1 f2 f4 f5 f6 f7
          generalize x3.drewN nq3 = x4 at *
          have htwo : (v.a.rotateRight 2 ^^^ v.a.rotateRight 13 ^^^ v.a.rotateRight 22) + (v.a &&& v.b ^^^ v.a &&& v.c ^^^ v.b &&& v.c) = two v := rfl
          rw [htwo]
          generalize ho2 : two v = o2 at *
          have Ho2 := Lib.hid ho2
          clear ho2
          have hD := HR4.out.drew
          have hsrc : ∀ (j : Nat) (u : Value), (v.cells.take 7)[j]? = some u → x4.drew.cell? ((⟨wo.heap.size, 0, none⟩ : Addr).add j) = some u := by
            intro j u hj
            have ha : (⟨wo.heap.size, 0, none⟩ : Addr).add j = ⟨wo.heap.size, j, none⟩ := by unfold Addr.add; split <;> simp_all
            rw [ha, hD.st.cell, ← hj, List.getElem?_take]
            split
            · rfl
            · rename_i hn; rw [List.getElem?_take, if_neg hn] at hj; cases hj
          have Hsrc := Lib.hid hsrc
          have HD := Lib.hid hD
          clear hsrc hD
          go_wp2_with fail
          refine wp_region_still_tail 2 Tryz.mixed (by kernel_rfl) ?_
          simp only [List.take_succ_cons, List.take_zero, List.drop_succ_cons, List.drop_zero]
          repeat still_step
          refine wpStill_nil ?_
          refine wpList_copy_splice (w := x4.drew) rfl _ _ 243 243 rfl 223 (by kernel_rfl) (by kernel_rfl) (some ⟨wo.heap.size, 1, none⟩) (some ⟨wo.heap.size, 0, none⟩) 7 7 7 8 rfl rfl wo.heap.size 1 v.cells 251 HD.out.st (v.cells.take 7) rfl (fun _ => ⟨rfl, _, rfl, Hsrc.out⟩) (by simp [St.cells]) (by simp [St.cells, Value.oneCell']) wo.heap.size wo HD.out.below (Nat.le_refl _) ?_
          intro x5 h5 hb5
          have hS5 : Blk x5 wo.heap.size 251 [v32 v.a, v32 v.a, v32 v.b, v32 v.c, v32 v.d, v32 v.e, v32 v.f, v32 v.g] := h5.out
          have hW5 := HA2.out.below hb5 HA2.out.lt
          have hK5 := HK1.out.below hb5 HK1.out.lt
          have e4 : x5.cell? ⟨wo.heap.size, 4, none⟩ = some (v32 v.d) := hS5.cell 4
          have z0 := hS5.frozen 0
          have z4 := hS5.frozen 4
          have e0 : x5.cell? ⟨wo.heap.size, 0, none⟩ = some (v32 v.a) := hS5.cell 0
          have hend : Rd ((x5.setCell ⟨wo.heap.size, 0, none⟩ (v32 (o1 + o2))).setCell ⟨wo.heap.size, 4, none⟩ (v32 (v.d + o1))) wo.heap.size w.heap.size kb wo ⟨o1 + o2, v.a, v.b, v.c, v.d + o1, v.e, v.f, v.g⟩ l :=
            ⟨(hS5.set 0 _).set 4 _, (hW5.other (by simp; have := HA2.out.lt; omega) _).other (by simp; have := HA2.out.lt; omega) _, (hK5.other (by simp; have := HK1.out.lt; omega) _).other (by simp; have := HK1.out.lt; omega) _, below_set (below_set hb5 (Nat.le_refl _) _ _) (Nat.le_refl _) _ _⟩
          have Hend := Lib.hid hend
          clear h5 hS5 hW5 hK5 hend hb5 Hsrc HD HR4
          have hrn : rnds (sch l 64) v0 (r + 1) = ⟨o1 + o2, v.a, v.b, v.c, v.d + o1, v.e, v.f, v.g⟩ := by
            rw [Hnext.out, ← Hkr.out, ← Hwr.out, rnd, Ho1.out, Ho2.out]
          have Hrn := Lib.hid hrn
          clear hrn
          go_wp2_with fail
          go_roundw
          case rel => exact ⟨r + 1, by omega, by go_num, by rw [Hrn.out]; exact Hend.out⟩
          case measure => simp [intOf]; omega
        · have hr64 : r = 64 := by omega
          rw [hr64] at hR
          obtain ⟨v, hv⟩ : ∃ v, v = rnds (sch l 64) v0 64 := ⟨_, rfl⟩
          have hcomp : comp v0 l = v0.add v := by rw [hv]; rfl
          have b64' : decide ((r : Int) < 64) = false := by simp; omega
          rw [← hv] at hR
          have hV := hR.st
          have hH := HH1.out.below hR.below HH1.out.lt
          have hg : w.grownBy x (some hb) := grown_trans (grown_of_below_lt HB2.out) (grownBy_of_below hR.below _)
          have HV := Lib.hid hV
          have HH := Lib.hid hH
          have Hg := Lib.hid hg
          have Hcomp := Lib.hid hcomp
          have hlt := HH1.out.lt
          clear hr64 hV hH hg hcomp hv hR HH1 HK1 HA2 c0 c1 c2 c3 c4 c5 c6 c7
          go_wp2_with fail
          go_loopw [158] (fun q y => ∃ i : Nat, i ≤ 8 ∧ q = .int .i64 (i : Int) ∧ Blk y hb 251 ((addTo v0.list v.list i).map v32) ∧ Blk y wo.heap.size 251 v.cells ∧ x.grownBy y (some hb)) (fun q _ => (8 - intOf q).toNat)
          case atStart => exact ⟨0, by omega, rfl, HH.out, HV.out, grown_refl _ _⟩
          case round =>
            obtain ⟨i, hi, rfl, hH, hV, hg⟩ := hrel
            by_cases i8 : i < 8
            · have c8 : (i : Int) < 8 := by omega
              have f1 : wr.cell? ⟨hb, i, none⟩ = some (v32 (v0.list.getD i 0)) := by
                rw [hH.cell, List.getElem?_map, addTo_get v0 v i i8]; rfl
              have f2 : wr.cell? ⟨wo.heap.size, i, none⟩ = some (v32 (v.list.getD i 0)) := by rw [hV.cell, St.get v i i8]
              have z1 := hH.frozen i
              have hset := hH.set i (v32 (v0.list.getD i 0 + v.list.getD i 0))
              rw [← List.map_set, addTo_set v0 v i i8] at hset
              have hoth : Blk (wr.setCell ⟨hb, i, none⟩ (v32 (v0.list.getD i 0 + v.list.getD i 0))) wo.heap.size 251 v.cells := hV.other (by simp; omega) _
              have hg2 := grown_trans hg (grown_set_drew wr hb i (v32 (v0.list.getD i 0 + v.list.getD i 0)))
              generalize v0.list.getD i 0 = p at *
              generalize v.list.getD i 0 = q at *
              have ra := w32_add
              have Hset := Lib.hid hset
              have Hoth := Lib.hid hoth
              have Hg2 := Lib.hid hg2
              clear hH hV hg hset hoth hg2
              go_wp2_with fail
              refine wp_region_still_tail 11 Tryz.mixed (by kernel_rfl) ?_
              simp only [List.take_succ_cons, List.take_zero, List.drop_succ_cons, List.drop_zero]
              repeat still_step
              refine wpStill_nil ?_
              go_wp2
              go_roundw
              case rel => exact ⟨i + 1, by omega, by go_num, Hset.out, Hoth.out, Hg2.out⟩
              case measure => simp [intOf]; omega
            · have hi8 : i = 8 := by omega
              rw [hi8, addTo_end, ← St.cells_eq, ← Hcomp.out] at hH
              have HH2 := Lib.hid hH
              have HG2 := Lib.hid (grown_trans Hg.out hg)
              clear hH hV hg hi8 HV HH Hg Hcomp
              go_wp2
              go_end0
              exact ⟨rfl, HH2.out, HG2.out⟩
end Go.Proofs.YtbpenkaficiodaaGreat
