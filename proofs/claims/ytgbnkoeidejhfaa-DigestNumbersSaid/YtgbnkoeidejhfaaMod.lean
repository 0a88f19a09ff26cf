/- Arithmetic modulo a number: the program's and the reference's sums and products. -/
import Derived.Test.YtgbnkoeidejhfaaDiv
import Derived.Test.YtgbnkoeidejhfaaDigB
namespace Go.Proofs.Ytgbnkoeidejhfaa
open Go.RowKit

def rightB (m : Nat) : Bool := decide (2 ≤ m) && decide (m ≤ 4611686018427387904)
theorem rightB_yes {m : Nat} (h : rightB m = true) : 2 ≤ m ∧ m ≤ 4611686018427387904 := by simpa [rightB] using h
theorem rightB_no {m : Nat} (h : rightB m = false) : m < 2 ∨ 4611686018427387904 < m := by
  simp [rightB] at h
  omega
def addM (a b m : Nat) : Nat := if rightB m then (a + b) % m else 0
def mulM (a b m : Nat) : Nat := if rightB m then a * b % m else 0
theorem addM_yes {a b m : Nat} (h : rightB m = true) : addM a b m = (a + b) % m := if_pos h
theorem mulM_yes {a b m : Nat} (h : rightB m = true) : mulM a b m = a * b % m := if_pos h
theorem addM_no {a b m : Nat} (h : rightB m = false) : addM a b m = 0 := if_neg (by rw [h]; simp)
theorem mulM_no {a b m : Nat} (h : rightB m = false) : mulM a b m = 0 := if_neg (by rw [h]; simp)
theorem addM_lt (a b m : Nat) : addM a b m ≤ 4611686018427387904 := by
  cases h : rightB m with
  | true => rw [addM_yes h]; have := rightB_yes h; have := Nat.mod_lt (a + b) (show 0 < m by omega); omega
  | false => rw [addM_no h]; omega
theorem mulM_lt (a b m : Nat) : mulM a b m ≤ 4611686018427387904 := by
  cases h : rightB m with
  | true => rw [mulM_yes h]; have := rightB_yes h; have := Nat.mod_lt (a * b) (show 0 < m by omega); omega
  | false => rw [mulM_no h]; omega

set_option maxRecDepth 100000 in
set_option maxHeartbeats 400000 in
theorem right_any (m : Nat) (w : World) : Calls Try.prog 52 #[.int .u64 (m : Int)] w fun e w' => e = .returned (.bool (rightB m)) ∧ w = w' := by
  by_cases h1 : 2 ≤ m
  · have d1 : decide ((2 : Int) ≤ (m : Int)) = true := decide_eq_true (by omega)
    by_cases h2 : m ≤ 4611686018427387904
    · have d2 : decide ((m : Int) ≤ 4611686018427387904) = true := decide_eq_true (by omega)
      have hr : rightB m = true := by simp [rightB, h1, h2]
      rw [hr]
      clear hr
      go_enter Try.func52, Try.ntmps52
      go_wp2_with fail
      go_ret
      exact ⟨rfl, rfl⟩
    · have d2 : decide ((m : Int) ≤ 4611686018427387904) = false := decide_eq_false (by omega)
      have hr : rightB m = false := by simp [rightB]; omega
      rw [hr]
      clear hr
      go_enter Try.func52, Try.ntmps52
      go_wp2_with fail
      go_ret
      exact ⟨rfl, rfl⟩
  · have d1 : decide ((2 : Int) ≤ (m : Int)) = false := decide_eq_false (by omega)
    have hr : rightB m = false := by simp [rightB]; omega
    rw [hr]
    clear hr
    go_enter Try.func52, Try.ntmps52
    go_wp2_with fail
    go_ret
    exact ⟨rfl, rfl⟩

set_option maxRecDepth 100000 in
set_option maxHeartbeats 400000 in
theorem add_any (a b m : Nat) (w : World) (ha : a < 18446744073709551616) (hb : b < 18446744073709551616) (hm : m < 18446744073709551616) :
    Calls Try.prog 43 #[.int .u64 (a : Int), .int .u64 (b : Int), .int .u64 (m : Int)] w fun e w' => e = .returned (.int .u64 (addM a b m : Int)) ∧ ∃ n, w' = w.drewN n := by
  cases hr : rightB m with
  | false =>
    rw [addM_no hr]
    have Hr := Lib.hid hr
    clear hr
    go_enter Try.func43, Try.ntmps43
    go_wp2_with fail
    refine (right_any m _).mono ?_
    rintro e w' ⟨rfl, rfl⟩
    rw [Hr.out]
    go_wp2_with fail
    go_ret
    exact ⟨rfl, 0, rfl⟩
  | true =>
    rw [addM_yes hr]
    obtain ⟨hm1, hm2⟩ := rightB_yes hr
    have Hr := Lib.hid hr
    clear hr
    obtain ⟨x, hx⟩ : ∃ x, x = a % m := ⟨_, rfl⟩
    obtain ⟨y, hy⟩ : ∃ y, y = b % m := ⟨_, rfl⟩
    have hxl : x < m := by rw [hx]; exact Nat.mod_lt _ (by omega)
    have hyl : y < m := by rw [hy]; exact Nat.mod_lt _ (by omega)
    have e1 : (a : Int) % (m : Int) = (x : Int) := by rw [hx]; rfl
    have e2 : (b : Int) % (m : Int) = (y : Int) := by rw [hy]; rfl
    have e3 : IntKind.u64.wrap ((x : Int) + (y : Int)) = (x : Int) + (y : Int) := by rw [IntKind.wrap_u64]; omega
    have hres : (a + b) % m = (x + y) % m := by rw [hx, hy, Nat.add_mod]
    have Hres := Lib.hid hres
    have e4 : ((x : Int) + (y : Int)) % (m : Int) = (((x + y) % m : Nat) : Int) := by push_cast; rfl
    have E4 := Lib.hid e4
    have q0 : 0 < m := by omega
    clear hx hy hres e4
    go_enter Try.func43, Try.ntmps43
    go_wp2_with fail
    refine (right_any m _).mono ?_
    rintro e w' ⟨rfl, rfl⟩
    rw [Hr.out]
    go_wp2_with fail
    go_quiet (fail)
    go_wp2_with fail
    go_ret
    refine ⟨?_, _, rfl⟩
    rw [Hres.out, ← E4.out]
    rfl

set_option maxRecDepth 100000 in
set_option maxHeartbeats 400000 in
theorem times_any (a b m : Nat) (w : World) (ha : a < m) (hb : b < m) (hm : m ≤ 4611686018427387904) :
    Calls Try.prog 53 #[.int .u64 (a : Int), .int .u64 (b : Int), .int .u64 (m : Int)] w fun e w' => e = .returned (.int .u64 ((a * b % m : Nat) : Int)) ∧ ∃ n, w' = w.drewN n := by
  have hab : a * b < m * m := Nat.mul_lt_mul'' ha hb
  have hmm : m * m ≤ m * 18446744073709551616 := Nat.mul_le_mul_left _ (by omega)
  obtain ⟨p, hp⟩ : ∃ p, p = a * b := ⟨_, rfl⟩
  have hpm : p / 18446744073709551616 < m := by
    rw [Nat.div_lt_iff_lt_mul (by omega), hp]
    exact Nat.lt_of_lt_of_le hab hmm
  have hdm := Nat.div_add_mod p 18446744073709551616
  rw [← hp]
  have Hp := Lib.hid hp
  clear hab hmm hp
  go_enter Try.func53, Try.ntmps53
  go_wp2_with fail
  refine (mul_named a b (by omega) (by omega) _).mono ?_
  rintro e w' ⟨h, l, rfl, Hh, rfl⟩
  have hh := Hh.out
  rw [← Hp.out] at hh
  obtain ⟨hh1, hh2⟩ := hh
  have hlb : l < 18446744073709551616 := by rw [hh2]; exact Nat.mod_lt _ (by omega)
  have hhm : h < m := by rw [hh1]; exact hpm
  have hpe : h * 18446744073709551616 + l = p := by omega
  have Hpe := Lib.hid hpe
  clear hh1 hh2 hpe hdm Hh hpm
  go_wp2_with fail
  refine (div_any h l m _ hlb hhm hm).mono ?_
  rintro e w1 ⟨rfl, n, rfl⟩
  rw [Hpe.out]
  go_wp2_with fail
  go_ret
  exact ⟨rfl, n, rfl⟩

set_option maxRecDepth 100000 in
set_option maxHeartbeats 400000 in
theorem mul_any (a b m : Nat) (w : World) (ha : a < 18446744073709551616) (hb : b < 18446744073709551616) (hm : m < 18446744073709551616) :
    Calls Try.prog 44 #[.int .u64 (a : Int), .int .u64 (b : Int), .int .u64 (m : Int)] w fun e w' => e = .returned (.int .u64 (mulM a b m : Int)) ∧ ∃ n, w' = w.drewN n := by
  cases hr : rightB m with
  | false =>
    rw [mulM_no hr]
    have Hr := Lib.hid hr
    clear hr
    go_enter Try.func44, Try.ntmps44
    go_wp2_with fail
    refine (right_any m _).mono ?_
    rintro e w' ⟨rfl, rfl⟩
    rw [Hr.out]
    go_wp2_with fail
    go_ret
    exact ⟨rfl, 0, rfl⟩
  | true =>
    rw [mulM_yes hr]
    obtain ⟨hm1, hm2⟩ := rightB_yes hr
    have Hr := Lib.hid hr
    clear hr
    obtain ⟨x, hx⟩ : ∃ x, x = a % m := ⟨_, rfl⟩
    obtain ⟨y, hy⟩ : ∃ y, y = b % m := ⟨_, rfl⟩
    have hxl : x < m := by rw [hx]; exact Nat.mod_lt _ (by omega)
    have hyl : y < m := by rw [hy]; exact Nat.mod_lt _ (by omega)
    have e1 : (a : Int) % (m : Int) = (x : Int) := by rw [hx]; rfl
    have e2 : (b : Int) % (m : Int) = (y : Int) := by rw [hy]; rfl
    have hres : a * b % m = x * y % m := by rw [hx, hy, ← Nat.mul_mod]
    have Hres := Lib.hid hres
    have q0 : 0 < m := by omega
    clear hx hy hres
    rw [Hres.out]
    go_enter Try.func44, Try.ntmps44
    go_wp2_with fail
    refine (right_any m _).mono ?_
    rintro e w' ⟨rfl, rfl⟩
    rw [Hr.out]
    go_wp2_with fail
    go_quiet ((exact Calls.quiet_of (times_any x y m _ hxl hyl hm2)))
    go_wp2_with fail
    go_ret
    exact ⟨rfl, _, rfl⟩
end Go.Proofs.Ytgbnkoeidejhfaa
