import Derived.Test.YtgbnkoeidejhfaaMod
namespace Go.Proofs.Ytgbnkoeidejhfaa
open Go.RowKit

/-- What the reference's product keeps: s and t n, modulo m. -/
def MulS (s t k m c : Nat) : Prop := (s + t * k) % m = c
theorem half_of {x x' m : Nat} (h : (x < m ∧ x' = x) ∨ (m ≤ x ∧ x' = x - m)) : ∃ c, x = x' + m * c := by
  rcases h with ⟨_, rfl⟩ | ⟨h, rfl⟩
  · exact ⟨0, by omega⟩
  · exact ⟨1, by omega⟩
theorem mulS_even {s t t' k m c : Nat} (h : MulS s t k m c) (hk : k % 2 = 0) (_ht : t < m) (h2 : (t + t < m ∧ t' = t + t) ∨ (m ≤ t + t ∧ t' = t + t - m)) : MulS s t' (k / 2) m c := by
  obtain ⟨d, hd⟩ := half_of h2
  unfold MulS at *
  rw [← h]
  have e : t * k = (t + t) * (k / 2) := by
    have : k = 2 * (k / 2) := by omega
    conv => lhs; rw [this]
    rw [← Nat.mul_assoc, Nat.mul_two]
  rw [e, hd, Nat.add_mul, Nat.mul_assoc, ← Nat.add_assoc, Nat.add_mul_mod_self_left]
theorem mulS_odd {s s' t t' k m c : Nat} (h : MulS s t k m c) (hk : k % 2 = 1) (_hs : s < m) (ht : t < m) (h1 : (s + t < m ∧ s' = s + t) ∨ (m ≤ s + t ∧ s' = s + t - m)) (h2 : (t + t < m ∧ t' = t + t) ∨ (m ≤ t + t ∧ t' = t + t - m)) : MulS s' t' (k / 2) m c := by
  have h3 : MulS s' t (k - 1) m c := by
    obtain ⟨d, hd⟩ := half_of h1
    unfold MulS at *
    rw [← h]
    have e : t * k = t + t * (k - 1) := by
      have : k = 1 + (k - 1) := by omega
      conv => lhs; rw [this]
      rw [Nat.mul_add, Nat.mul_one]
    rw [e, ← Nat.add_assoc, hd, Nat.add_assoc, Nat.add_comm (m * d), ← Nat.add_assoc, Nat.add_mul_mod_self_left]
  have h4 := mulS_even h3 (by omega) ht h2
  rwa [show (k - 1) / 2 = k / 2 by omega] at h4

set_option maxRecDepth 100000 in
set_option maxHeartbeats 400000 in
theorem refRight_any (m : Nat) (w : World) : Calls Try.prog 54 #[.int .u64 (m : Int)] w fun e w' => e = .returned (.bool (rightB m)) ∧ w = w' := by
  by_cases h1 : 2 ≤ m
  · have d1 : decide ((2 : Int) ≤ (m : Int)) = true := decide_eq_true (by omega)
    by_cases h2 : m ≤ 4611686018427387904
    · have d2 : decide ((m : Int) ≤ 4611686018427387904) = true := decide_eq_true (by omega)
      have hr : rightB m = true := by simp [rightB, h1, h2]
      rw [hr]
      clear hr
      go_enter Try.func54, Try.ntmps54
      go_wp2_with fail
      go_ret
      exact ⟨rfl, rfl⟩
    · have d2 : decide ((m : Int) ≤ 4611686018427387904) = false := decide_eq_false (by omega)
      have hr : rightB m = false := by simp [rightB]; omega
      rw [hr]
      clear hr
      go_enter Try.func54, Try.ntmps54
      go_wp2_with fail
      go_ret
      exact ⟨rfl, rfl⟩
  · have d1 : decide ((2 : Int) ≤ (m : Int)) = false := decide_eq_false (by omega)
    have hr : rightB m = false := by simp [rightB]; omega
    rw [hr]
    clear hr
    go_enter Try.func54, Try.ntmps54
    go_wp2_with fail
    go_ret
    exact ⟨rfl, rfl⟩

set_option maxRecDepth 100000 in
set_option maxHeartbeats 400000 in
theorem refAdd_any (a b m : Nat) (w : World) (ha : a < 18446744073709551616) (hb : b < 18446744073709551616) (hm : m < 18446744073709551616) :
    Calls Try.prog 45 #[.int .u64 (a : Int), .int .u64 (b : Int), .int .u64 (m : Int)] w fun e w' => e = .returned (.int .u64 (addM a b m : Int)) ∧ ∃ n, w' = w.drewN n := by
  cases hr : rightB m with
  | false =>
    rw [addM_no hr]
    have Hr := Lib.hid hr
    clear hr
    go_enter Try.func45, Try.ntmps45
    go_wp2_with fail
    refine (refRight_any m _).mono ?_
    rintro e w' ⟨rfl, rfl⟩
    rw [Hr.out]
    go_wp2_with fail
    go_ret
    exact ⟨rfl, 0, rfl⟩
  | true =>
    rw [addM_yes hr]
    obtain ⟨hm1, hm2⟩ := rightB_yes hr
    have Hr := Lib.hid hr
    clear hr
    obtain ⟨x, hx⟩ : ∃ x, x = a % m := ⟨_, rfl⟩
    obtain ⟨y, hy⟩ : ∃ y, y = b % m := ⟨_, rfl⟩
    have hxl : x < m := by rw [hx]; exact Nat.mod_lt _ (by omega)
    have hyl : y < m := by rw [hy]; exact Nat.mod_lt _ (by omega)
    have e1 : (a : Int) % (m : Int) = (x : Int) := by rw [hx]; rfl
    have e2 : (b : Int) % (m : Int) = (y : Int) := by rw [hy]; rfl
    have e3 : IntKind.u64.wrap ((x : Int) + (y : Int)) = (x : Int) + (y : Int) := by rw [IntKind.wrap_u64]; omega
    have hres : (a + b) % m = (x + y) % m := by rw [hx, hy, Nat.add_mod]
    have q0 : 0 < m := by omega
    have Hres := Lib.hid hres
    clear hx hy hres
    by_cases hs : m ≤ x + y
    · have d1 : decide ((m : Int) ≤ (x : Int) + (y : Int)) = true := decide_eq_true (by omega)
      have hf : (x + y) % m = x + y - m := by rw [Nat.mod_eq_sub_mod hs, Nat.mod_eq_of_lt (by omega)]
      have Hf := Lib.hid hf
      clear hf
      go_enter Try.func45, Try.ntmps45
      go_wp2_with fail
      refine (refRight_any m _).mono ?_
      rintro e w' ⟨rfl, rfl⟩
      rw [Hr.out]
      go_wp2_with fail
      go_quiet (fail)
      go_wp2_with fail
      go_ret
      refine ⟨?_, _, rfl⟩
      rw [Hres.out, Hf.out, show ((x + y - m : Nat) : Int) = (x : Int) + (y : Int) - (m : Int) by omega]
      rfl
    · have d1 : decide ((m : Int) ≤ (x : Int) + (y : Int)) = false := decide_eq_false (by omega)
      have hf : (x + y) % m = x + y := Nat.mod_eq_of_lt (by omega)
      have Hf := Lib.hid hf
      clear hf
      go_enter Try.func45, Try.ntmps45
      go_wp2_with fail
      refine (refRight_any m _).mono ?_
      rintro e w' ⟨rfl, rfl⟩
      rw [Hr.out]
      go_wp2_with fail
      go_quiet (fail)
      go_wp2_with fail
      go_ret
      refine ⟨?_, _, rfl⟩
      rw [Hres.out, Hf.out, Int.natCast_add]
      rfl

set_option maxRecDepth 100000 in
set_option maxHeartbeats 1000000 in
theorem refMul_any (a b m : Nat) (w : World) (ha : a < 18446744073709551616) (hb : b < 18446744073709551616) (hm : m < 18446744073709551616) :
    Calls Try.prog 46 #[.int .u64 (a : Int), .int .u64 (b : Int), .int .u64 (m : Int)] w fun e w' => e = .returned (.int .u64 (mulM a b m : Int)) ∧ w = w' := by
  cases hr : rightB m with
  | false =>
    rw [mulM_no hr]
    have Hr := Lib.hid hr
    clear hr
    go_enter Try.func46, Try.ntmps46
    go_wp2_with fail
    refine (refRight_any m _).mono ?_
    rintro e w' ⟨rfl, rfl⟩
    rw [Hr.out]
    go_wp2_with fail
    go_ret
    exact ⟨rfl, rfl⟩
  | true =>
    rw [mulM_yes hr]
    obtain ⟨hm1, hm2⟩ := rightB_yes hr
    have Hr := Lib.hid hr
    clear hr
    obtain ⟨x, hx⟩ : ∃ x, x = a % m := ⟨_, rfl⟩
    obtain ⟨y, hy⟩ : ∃ y, y = b % m := ⟨_, rfl⟩
    have hxl : x < m := by rw [hx]; exact Nat.mod_lt _ (by omega)
    have hyl : y < m := by rw [hy]; exact Nat.mod_lt _ (by omega)
    have e1 : (a : Int) % (m : Int) = (x : Int) := by rw [hx]; rfl
    have e2 : (b : Int) % (m : Int) = (y : Int) := by rw [hy]; rfl
    obtain ⟨c, hc⟩ : ∃ c, c = a * b % m := ⟨_, rfl⟩
    have hst : MulS 0 x y m c := by unfold MulS; rw [hc, hx, hy, Nat.zero_add, ← Nat.mul_mod]
    have Hst := Lib.hid hst
    rw [← hc]
    have q0 : 0 < m := by omega
    clear hx hy hc hst
    go_enter Try.func46, Try.ntmps46
    go_wp2_with fail
    refine (refRight_any m _).mono ?_
    rintro e w' ⟨rfl, rfl⟩
    rw [Hr.out]
    go_wp2_with fail
    go_loopw [7, 8, 9] (fun sv tv nv wr => ∃ k s t : Nat, sv = .int .u64 (s : Int) ∧ tv = .int .u64 (t : Int) ∧ nv = .int .u64 (k : Int) ∧ s < m ∧ t < m ∧ k < 18446744073709551616 ∧ MulS s t k m c ∧ wr = w) (fun _ _ nv _ => (intOf nv).toNat)
    case atStart => exact ⟨y, 0, x, rfl, by first | rfl | exact congrArg _ e1, by first | rfl | exact congrArg _ e2, by omega, by omega, by omega, Hst.out, rfl⟩
    case round =>
      obtain ⟨k, s, t, rfl, rfl, rfl, hsm, htm, hkb, hcc, rfl⟩ := hrel
      have Hc := Lib.hid hcc
      clear hcc Hst
      by_cases hk : 0 < k
      · have d1 : decide ((0 : Int) < (k : Int)) = true := decide_eq_true (by omega)
        by_cases ho : k % 2 = 1
        · by_cases hs : m ≤ s + t
          · by_cases ht : m ≤ t + t
            · skip
              have d2 : ((k : Int) % 2 == 1) = true := by rw [beq_iff_eq]; omega
              have d3 : decide ((m : Int) ≤ (s : Int) + (t : Int)) = true := decide_eq_true (by omega)
              have d4 : decide ((m : Int) ≤ (t : Int) + (t : Int)) = true := decide_eq_true (by omega)
              have hnx := mulS_odd (s' := s + t - m) (t' := t + t - m) Hc.out (by omega) hsm htm (.inr ⟨by omega, rfl⟩) (.inr ⟨by omega, rfl⟩)
              have Hnx := Lib.hid hnx
              clear hnx
              go_wp2_with fail
              go_roundw
              case rel => exact ⟨k / 2, s + t - m, t + t - m, by go_num, by go_num, by go_num, by omega, by omega, by omega, Hnx.out, trivial⟩
              case measure => simp [intOf]; omega
            · skip
              have d2 : ((k : Int) % 2 == 1) = true := by rw [beq_iff_eq]; omega
              have d3 : decide ((m : Int) ≤ (s : Int) + (t : Int)) = true := decide_eq_true (by omega)
              have d4 : decide ((m : Int) ≤ (t : Int) + (t : Int)) = false := decide_eq_false (by omega)
              have hnx := mulS_odd (s' := s + t - m) (t' := t + t) Hc.out (by omega) hsm htm (.inr ⟨by omega, rfl⟩) (.inl ⟨by omega, rfl⟩)
              have Hnx := Lib.hid hnx
              clear hnx
              go_wp2_with fail
              go_roundw
              case rel => exact ⟨k / 2, s + t - m, t + t, by go_num, by go_num, by go_num, by omega, by omega, by omega, Hnx.out, trivial⟩
              case measure => simp [intOf]; omega
          · by_cases ht : m ≤ t + t
            · skip
              have d2 : ((k : Int) % 2 == 1) = true := by rw [beq_iff_eq]; omega
              have d3 : decide ((m : Int) ≤ (s : Int) + (t : Int)) = false := decide_eq_false (by omega)
              have d4 : decide ((m : Int) ≤ (t : Int) + (t : Int)) = true := decide_eq_true (by omega)
              have hnx := mulS_odd (s' := s + t) (t' := t + t - m) Hc.out (by omega) hsm htm (.inl ⟨by omega, rfl⟩) (.inr ⟨by omega, rfl⟩)
              have Hnx := Lib.hid hnx
              clear hnx
              go_wp2_with fail
              go_roundw
              case rel => exact ⟨k / 2, s + t, t + t - m, by go_num, by go_num, by go_num, by omega, by omega, by omega, Hnx.out, trivial⟩
              case measure => simp [intOf]; omega
            · skip
              have d2 : ((k : Int) % 2 == 1) = true := by rw [beq_iff_eq]; omega
              have d3 : decide ((m : Int) ≤ (s : Int) + (t : Int)) = false := decide_eq_false (by omega)
              have d4 : decide ((m : Int) ≤ (t : Int) + (t : Int)) = false := decide_eq_false (by omega)
              have hnx := mulS_odd (s' := s + t) (t' := t + t) Hc.out (by omega) hsm htm (.inl ⟨by omega, rfl⟩) (.inl ⟨by omega, rfl⟩)
              have Hnx := Lib.hid hnx
              clear hnx
              go_wp2_with fail
              go_roundw
              case rel => exact ⟨k / 2, s + t, t + t, by go_num, by go_num, by go_num, by omega, by omega, by omega, Hnx.out, trivial⟩
              case measure => simp [intOf]; omega
        · by_cases ht : m ≤ t + t
          · skip
            have d2 : ((k : Int) % 2 == 1) = false := by rw [beq_eq_false_iff_ne]; omega
            have d4 : decide ((m : Int) ≤ (t : Int) + (t : Int)) = true := decide_eq_true (by omega)
            have hnx := mulS_even (t' := t + t - m) Hc.out (by omega) htm (.inr ⟨by omega, rfl⟩)
            have Hnx := Lib.hid hnx
            clear hnx
            go_wp2_with fail
            go_roundw
            case rel => exact ⟨k / 2, s, t + t - m, by go_num, by go_num, by go_num, by omega, by omega, by omega, Hnx.out, trivial⟩
            case measure => simp [intOf]; omega
          · skip
            have d2 : ((k : Int) % 2 == 1) = false := by rw [beq_eq_false_iff_ne]; omega
            have d4 : decide ((m : Int) ≤ (t : Int) + (t : Int)) = false := decide_eq_false (by omega)
            have hnx := mulS_even (t' := t + t) Hc.out (by omega) htm (.inl ⟨by omega, rfl⟩)
            have Hnx := Lib.hid hnx
            clear hnx
            go_wp2_with fail
            go_roundw
            case rel => exact ⟨k / 2, s, t + t, by go_num, by go_num, by go_num, by omega, by omega, by omega, Hnx.out, trivial⟩
            case measure => simp [intOf]; omega
      · have d1 : decide ((0 : Int) < (k : Int)) = false := decide_eq_false (by omega)
        have hk0 : k = 0 := by omega
        have hres : s = c := by
          have h := Hc.out
          unfold MulS at h
          rw [hk0, Nat.mul_zero, Nat.add_zero, Nat.mod_eq_of_lt hsm] at h
          exact h
        clear hk0
        subst hres
        go_wp2_with fail
        go_ret
        exact ⟨rfl, rfl⟩
end Go.Proofs.Ytgbnkoeidejhfaa
