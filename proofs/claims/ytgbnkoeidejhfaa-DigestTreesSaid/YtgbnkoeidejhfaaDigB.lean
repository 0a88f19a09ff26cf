import Derived.Test.YtgbnkoeidejhfaaDigA
import Derived.Test.YtgbnkoeidejhfaaShelf
import Derived.Test.YtgbnkoeidejhfaaShelfB
namespace Go.Proofs.Ytgbnkoeidejhfaa
open Go.RowKit

theorem mul_named (x y : Nat) (hx : x < 18446744073709551616) (hy : y < 18446744073709551616) (w : World) :
    Calls Try.prog 63 #[.int .u64 (x : Int), .int .u64 (y : Int)] w fun e w' => ∃ h l : Nat, e = .returned (.tuple #[.int .u64 (h : Int), .int .u64 (l : Int)]) ∧
      Hid (h = x * y / 18446744073709551616 ∧ l = x * y % 18446744073709551616) ∧ w = w' :=
  (Try.bits_Mul64 x y hx hy w).mono fun _ _ ⟨he, hw⟩ => ⟨_, _, he, ⟨rfl, rfl⟩, hw.symm⟩

set_option maxRecDepth 100000 in
set_option maxHeartbeats 1000000 in
theorem behind_core (p : Nat) (R : Nat) (hR : Hid (behindL p 36 0 = R)) (w : World) (hp : p < 65536) :
    Calls Try.prog 57 #[.int .u64 (p : Int)] w fun e w' => e = .returned (v32 (BitVec.ofNat 32 R)) ∧ w = w' := by
  go_enter Try.func57, Try.ntmps57
  go_wp2
  go_loop [3, 4] (fun x y => ∃ j r : Nat, j ≤ 36 ∧ r < 68719476736 ∧ behindL p j r = R ∧ x = .int .u64 (r : Int) ∧ y = .int .u64 ((2 ^ j / 2 : Nat) : Int)) (fun _ y => (intOf y).toNat)
  case atStart => exact ⟨36, 0, by omega, by omega, hR.out, rfl, rfl⟩
  case round =>
    obtain ⟨j, r, hj, hr, heq, rfl, rfl⟩ := hrel
    cases j with
    | zero =>
      have hv : (Value.int .u32 ((r : Int) % 4294967296)) = v32 (BitVec.ofNat 32 R) := by
        rw [← heq]; simp [behindL, v32, iw]
      have Hv := Lib.hid hv
      clear hv heq
      go_wp2
      go_ret
      exact ⟨congrArg _ Hv.out, rfl⟩
    | succ j =>
      obtain ⟨b, hb⟩ : ∃ b : Nat, b = 2 ^ (j + 1) / 2 := ⟨_, rfl⟩
      have hb1 : b = 2 ^ j := by rw [hb, Nat.pow_succ]; omega
      have hb0 : 0 < b := by rw [hb1]; exact Nat.two_pow_pos j
      have hb2 : b ≤ 34359738368 := by rw [hb1]; exact Nat.pow_le_pow_right (by omega) (by omega : j ≤ 35)
      obtain ⟨t, ht⟩ : ∃ t : Nat, t = r ||| b := ⟨_, rfl⟩
      have ht1 : t < 68719476736 := by
        rw [ht]; exact Nat.or_lt_two_pow (n := 36) hr (by omega)
      have ho : bits .or .u64 (r : Int) (b : Int) = (t : Int) := by rw [ht]; exact u64_or_nat r b (by omega) (by omega)
      rw [← hb]
      have Hb1 := Lib.hid hb1
      have Ht := Lib.hid ht
      have Heq := Lib.hid heq
      clear hb hb1 ht heq
      go_wp2_with fail
      refine (mul_named t t (by omega) (by omega) _).mono ?_
      rintro e w' ⟨h, l, rfl, Hh, rfl⟩
      go_wp2_with fail
      refine (mul_named l t (by have := Hh.out; omega) (by omega) _).mono ?_
      rintro e w' ⟨h1, l1, rfl, Hh1, rfl⟩
      go_wp2_with fail
      refine (mul_named h t (by have := Hh.out; have := Nat.mul_lt_mul'' ht1 ht1; omega) (by omega) _).mono ?_
      rintro e w' ⟨h2, l2, rfl, Hh2, rfl⟩
      obtain ⟨mid, hmid⟩ : ∃ m : Nat, m = (h1 + l2) % 18446744073709551616 := ⟨_, rfl⟩
      obtain ⟨over, hover⟩ : ∃ m : Nat, m = (h1 + l2) / 18446744073709551616 := ⟨_, rfl⟩
      have ha := Try.bl_Add64 h1 l2
      rw [← hmid, ← hover] at ha
      have hC : cubeB p t = (over == 0 && (decide (mid < p * 4294967296) || (mid == p * 4294967296 && l1 == 0))) := by
        exact cubeB_def p t h l h1 l1 l2 mid over Hh.out.1 Hh.out.2 Hh1.out.1 Hh1.out.2 Hh2.out.2 hmid hover
      have HC := Lib.hid hC
      clear hmid hover hC
      have hstep : behindL p j (if cubeB p t then t else r) = R := by
        rw [← Heq.out, Ht.out, Hb1.out, behindL_succ]
      have Hstep := Lib.hid hstep
      have hbj : ((b : Int) / 2) = ((2 ^ j / 2 : Nat) : Int) := by rw [Hb1.out]; omega
      have Hbj := Lib.hid hbj
      clear hstep hbj
      by_cases c1 : over = 0
      · have d1 : ((over : Int) == 0) = true := by simp <;> omega
        by_cases c2 : mid < p * 4294967296
        · have d2 : decide ((mid : Int) < (p : Int) * 4294967296) = true := by simp <;> omega
          go_wp2
          refine ⟨?_, by simp [intOf]; omega⟩
          have hc := cubeB_yes HC.out (by omega)
          exact ⟨j, t, by omega, by omega, (by have := Hstep.out; rwa [if_pos hc] at this), rfl, by rw [Hbj.out]⟩
        · have d2 : decide ((mid : Int) < (p : Int) * 4294967296) = false := by simp <;> omega
          by_cases c3 : mid = p * 4294967296
          · have d3 : ((mid : Int) == (p : Int) * 4294967296) = true := by simp <;> omega
            by_cases c4 : l1 = 0
            · have d4 : ((l1 : Int) == 0) = true := by simp <;> omega
              go_wp2
              refine ⟨?_, by simp [intOf]; omega⟩
              have hc := cubeB_yes HC.out (by omega)
              exact ⟨j, t, by omega, by omega, (by have := Hstep.out; rwa [if_pos hc] at this), rfl, by rw [Hbj.out]⟩
            · have d4 : ((l1 : Int) == 0) = false := by simp <;> omega
              go_wp2
              refine ⟨?_, by simp [intOf]; omega⟩
              have hc := cubeB_no HC.out (by omega)
              exact ⟨j, r, by omega, by omega, (by have := Hstep.out; rwa [if_neg hc] at this), rfl, by rw [Hbj.out]⟩
          · have d3 : ((mid : Int) == (p : Int) * 4294967296) = false := by simp <;> omega
            go_wp2
            refine ⟨?_, by simp [intOf]; omega⟩
            have hc := cubeB_no HC.out (by omega)
            exact ⟨j, r, by omega, by omega, (by have := Hstep.out; rwa [if_neg hc] at this), rfl, by rw [Hbj.out]⟩
      · have d1 : ((over : Int) == 0) = false := by simp <;> omega
        go_wp2
        refine ⟨?_, by simp [intOf]; omega⟩
        have hc := cubeB_no HC.out (by omega)
        exact ⟨j, r, by omega, by omega, (by have := Hstep.out; rwa [if_neg hc] at this), rfl, by rw [Hbj.out]⟩
theorem behind_any (p : Nat) (w : World) (hp : p < 65536) :
    Calls Try.prog 57 #[.int .u64 (p : Int)] w fun e w' => e = .returned (v32 (BitVec.ofNat 32 (behindL p 36 0))) ∧ w = w' :=
  behind_core p _ (Lib.hid rfl) w hp
end Go.Proofs.Ytgbnkoeidejhfaa
