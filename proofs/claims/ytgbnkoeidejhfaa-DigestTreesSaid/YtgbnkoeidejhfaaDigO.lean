import Derived.Test.YtgbnkoeidejhfaaDigN
import Derived.Test.YtgbnkoeidejhfaaStrs
namespace Go.Proofs.Ytgbnkoeidejhfaa
open Go.RowKit

theorem Try.underlying_strs : Try.prog.underlying 30 = some (.slice 9) := by kernel_rfl

theorem i64_and_one (i : Nat) (hi : i < 9223372036854775808) : bits .and .i64 (i : Int) 1 = ((i % 2 : Nat) : Int) := by
  show IntKind.i64.wrap ((BitVec.ofInt 64 (i : Int) &&& BitVec.ofInt 64 ((1 : Nat) : Int)).toNat : Int) = _
  rw [BitVec.toNat_and, ofInt_u64 i (by omega), ofInt_u64 1 (by omega), Nat.and_one_is_mod, IntKind.wrap_i64]
  omega

set_option maxRecDepth 100000 in
set_option maxHeartbeats 1000000 in
theorem climb_any (item : List UInt8) (i n : Int) (A : Option Addr) (cap : Nat) (p : List (List UInt8)) (w : World) (hl : item.length ≤ 1099511627775) (hp : Strs w A cap p) (hi1 : -9223372036854775808 ≤ i) (hi2 : i ≤ 9223372036854775807) (hn1 : -9223372036854775808 ≤ n) (hn2 : n ≤ 9223372036854775807) (_hpl : p.length ≤ 140737488355328) :
    Calls Try.prog 18 #[.string (str item), .int .i64 i, .int .i64 n, .slice A p.length cap] w fun e w' => e = .returned (.tuple #[(climbRes (climbOf item i n p)).1, (climbRes (climbOf item i n p)).2]) ∧ Below w.heap.size w w' := by
  by_cases h : i < 0 ∨ n ≤ i ∨ 65536 < n
  · have hc : climbOf item i n p = none := if_pos h
    rw [hc]
    by_cases h1 : i < 0
    · have b1 : decide (i < 0) = true := decide_eq_true h1
      go_enter Try.func18, Try.ntmps18
      go_wp2_with fail
      go_ret2
      exact ⟨rfl, Below.refl _ _⟩
    · have b1 : decide (i < 0) = false := decide_eq_false h1
      by_cases h2 : n ≤ i
      · have b2 : decide (n ≤ i) = true := decide_eq_true h2
        go_enter Try.func18, Try.ntmps18
        go_wp2_with fail
        go_ret2
        exact ⟨rfl, Below.refl _ _⟩
      · have b2 : decide (n ≤ i) = false := decide_eq_false h2
        have b3 : decide (65536 < n) = true := decide_eq_true (by omega)
        go_enter Try.func18, Try.ntmps18
        go_wp2_with fail
        go_ret2
        exact ⟨rfl, Below.refl _ _⟩
  · have hc : climbOf item i n p = climbG n.toNat i.toNat n.toNat (sha (0 :: item)) p := if_neg h
    rw [hc]
    have h1 : ¬ i < 0 := by omega
    have h2 : ¬ n ≤ i := by omega
    have h3 : ¬ 65536 < n := by omega
    obtain ⟨i0, rfl⟩ : ∃ k : Nat, i = (k : Int) := ⟨i.toNat, by omega⟩
    obtain ⟨n0, rfl⟩ : ∃ k : Nat, n = (k : Int) := ⟨n.toNat, by omega⟩
    simp only [Int.toNat_natCast]
    have b1 : decide ((i0 : Int) < 0) = false := decide_eq_false h1
    have b2 : decide ((n0 : Int) ≤ (i0 : Int)) = false := decide_eq_false h2
    have b3 : decide (65536 < (n0 : Int)) = false := decide_eq_false h3
    obtain ⟨x0, hx0⟩ : ∃ x, x = sha (0 :: item) := ⟨_, rfl⟩
    have hx0l : x0.length = 32 := by rw [hx0, sha_length]
    rw [← hx0]
    obtain ⟨r, hr⟩ : ∃ r, r = climbG n0 i0 n0 x0 p := ⟨_, rfl⟩
    rw [← hr]
    have Hr := Lib.hid hr
    have Hx0 := Lib.hid hx0
    have Hp := Lib.hid hp
    clear hr hx0 hc h hp
    go_enter Try.func18, Try.ntmps18
    go_wp2_with (go_at_call 36; refine (leaf_any item _ hl).mono ?_; rintro e w1 ⟨rfl, hb1⟩; rw [← Hx0.out]; have Hb1 := Lib.hid hb1; clear hb1)
    go_loopw [1, 2, 3, 10] (fun iv nv pv xv wr => ∃ (k i1 n1 : Nat) (x : List UInt8) (q : List (List UInt8)) (B : Option Addr) (cp : Nat), iv = .int .i64 (i1 : Int) ∧ nv = .int .i64 (n1 : Int) ∧ pv = .slice B q.length cp ∧ xv = .string (str x) ∧ x.length = 32 ∧ i1 < n1 ∧ n1 ≤ k ∧ n1 ≤ 65536 ∧ q.length ≤ p.length ∧ Strs wr B cp q ∧ r = climbG k i1 n1 x q ∧ Below w.heap.size w wr) (fun _ nv _ _ _ => (intOf nv).toNat)
    case atStart => exact ⟨n0, i0, n0, x0, p, A, cap, rfl, rfl, rfl, rfl, hx0l, by omega, by omega, by omega, by omega, Hp.out.below Hb1.out, Hr.out, Hb1.out⟩
    case round =>
      obtain ⟨k, i1, n1, x, q, B, cp, rfl, rfl, rfl, rfl, hxl, hin, hnk, hn6, hql, hq, hr, hb⟩ := hrel
      have Hr1 := Lib.hid hr
      have Hq := Lib.hid hq
      have Hb := Lib.hid hb
      clear hr hq hb Hr Hp Hb1 Hx0
      obtain ⟨k, rfl⟩ : ∃ j, k = j + 1 := ⟨k - 1, by omega⟩
      by_cases h1n : n1 ≤ 1
      · have c1 : decide ((1 : Int) < (n1 : Int)) = false := decide_eq_false (by omega)
        cases q with
        | nil =>
          have hres : r = some x := by rw [Hr1.out]; simp [climbG, h1n]
          have Hres := Lib.hid hres
          clear hres
          go_wp2_with fail
          go_ret2
          exact ⟨by rw [Hres.out]; rfl, Hb.out⟩
        | cons y q =>
          have hres : r = none := by rw [Hr1.out]; simp [climbG, h1n]
          obtain ⟨ql, hq1⟩ : ∃ j, j = (y :: q).length := ⟨_, rfl⟩
          have hq0 : 0 < ql := by rw [hq1]; simp
          have c2 : decide ((0 : Int) < (ql : Int)) = true := decide_eq_true (by omega)
          rw [← hq1] at hql
          rw [← hq1]
          have Hres := Lib.hid hres
          clear hres hq1
          go_wp2_with fail
          go_ret2
          exact ⟨by rw [Hres.out]; rfl, Hb.out⟩
      · have c1 : decide ((1 : Int) < (n1 : Int)) = true := decide_eq_true (by omega)
        obtain ⟨m, hm⟩ : ∃ m, m = i1 ^^^ 1 := ⟨_, rfl⟩
        have hx := i64_xor_one i1 (by omega)
        have hmle := xor_one_le i1
        rw [← hm] at hx hmle
        have Hm := Lib.hid hm
        clear hm
        have d1 : IntKind.i64.wrap ((n1 : Int) + 1) = (n1 : Int) + 1 := IntWalk.i64_in _ (by omega)
        by_cases h2n : n1 ≤ m
        · have c2 : decide ((n1 : Int) ≤ (m : Int)) = true := decide_eq_true (by omega)
          have hnx : r = climbG k (i1 / 2) ((n1 + 1) / 2) x q := by rw [Hr1.out]; simp [climbG, h1n, ← Hm.out, h2n]
          have Hnx := Lib.hid hnx
          clear hnx
          go_wp2_with fail
          go_roundw
          case rel => exact ⟨k, i1 / 2, (n1 + 1) / 2, x, q, B, cp, by go_num, by go_num, rfl, rfl, hxl, by omega, by omega, by omega, hql, Hq.out, Hnx.out, Hb.out⟩
          case measure => simp [intOf]; omega
        · have c2 : decide ((n1 : Int) ≤ (m : Int)) = false := decide_eq_false (by omega)
          cases q with
          | nil =>
            have hres : r = none := by rw [Hr1.out]; simp [climbG, h1n, ← Hm.out, h2n]
            have Hres := Lib.hid hres
            clear hres
            go_wp2_with fail
            go_ret2
            exact ⟨by rw [Hres.out]; rfl, Hb.out⟩
          | cons y q =>
            obtain ⟨a, rfl, hc⟩ := Hq.out.cells 0 y rfl
            have hc0 : wr.cell? a = some (.string (str y)) := hc
            clear hc
            have hys := str_size y
            obtain ⟨ql, hq1⟩ : ∃ j, j = (y :: q).length := ⟨_, rfl⟩
            have hq2 : ql = q.length + 1 := by rw [hq1]; rfl
            have e0 : ((ql : Int) == 0) = false := by rw [beq_eq_false_iff_ne]; omega
            have e0b : (0 : Int) < (ql : Int) := by omega
            obtain ⟨yl, hyl⟩ : ∃ j, j = y.length := ⟨_, rfl⟩
            rw [← hyl] at hys
            have Hq2 := Lib.hid hq2
            clear hq2
            rw [← hq1] at hql
            rw [← hq1]
            by_cases h32 : y.length = 32
            · have e1 : ((yl : Int) != 32) = false := by rw [bne_eq_false_iff_eq]; omega
              obtain ⟨pb, hpb⟩ : ∃ b, b = i1 % 2 := ⟨_, rfl⟩
              have hand := i64_and_one i1 (by omega)
              rw [← hpb] at hand
              have htl := Hq.out.tail
              have hpb2 : pb = 0 ∨ pb = 1 := by omega
              have hnx : r = climbG k (i1 / 2) ((n1 + 1) / 2) (if pb = 0 then sha (1 :: (x ++ y)) else sha (1 :: (y ++ x))) q := by rw [Hr1.out, hpb]; simp [climbG, h1n, ← Hm.out, h2n, h32]
              have Hnx := Lib.hid hnx
              have Htl := Lib.hid htl
              clear hnx hq1 hpb htl Hr1 Hm hyl
              have hqc : 1 ≤ cp := by have := Hq.out.len; simp at this; omega
              rcases hpb2 with rfl | rfl
              · have hand0 : bits .and .i64 (i1 : Int) 1 = 0 := hand
                have g1 : ((0 : Int) == 0) = true := rfl
                obtain ⟨x2, hx2⟩ : ∃ x2, x2 = sha (1 :: (x ++ y)) := ⟨_, rfl⟩
                have hx2l : x2.length = 32 := by rw [hx2, sha_length]
                have hnx2 : r = climbG k (i1 / 2) ((n1 + 1) / 2) x2 q := by rw [Hnx.out, hx2]; rfl
                have Hnx2 := Lib.hid hnx2
                have Hx2 := Lib.hid hx2
                clear hand hnx2 hx2 Hnx
                by_cases hcp : cp = 1
                · subst hcp
                  go_wp2_with (go_at_call 37; refine (node_any x y _ (by omega) (by omega)).mono ?_; rintro e w2 ⟨rfl, hb2⟩; rw [← Hx2.out]; have Hb2 := Lib.hid hb2; clear hb2)
                  go_roundw
                  case rel => exact ⟨k, i1 / 2, (n1 + 1) / 2, x2, q, some a, 0, by go_num, by go_num, by rw [Hq2.out]; rfl, rfl, hx2l, by omega, by omega, by omega, by have := Hq2.out; omega, Strs.below Htl.out Hb2.out, Hnx2.out, below_trans Hb.out Hb2.out⟩
                  case measure => simp [intOf]; omega
                · have hcp2 : ¬ cp = 1 := hcp
                  go_wp2_with (go_at_call 37; refine (node_any x y _ (by omega) (by omega)).mono ?_; rintro e w2 ⟨rfl, hb2⟩; rw [← Hx2.out]; have Hb2 := Lib.hid hb2; clear hb2)
                  go_roundw
                  case rel => exact ⟨k, i1 / 2, (n1 + 1) / 2, x2, q, some (a.add 1), cp - 1, by go_num, by go_num, by rw [Hq2.out]; rfl, rfl, hx2l, by omega, by omega, by omega, by have := Hq2.out; omega, Strs.below (by have h := Htl.out; rw [if_neg hcp2] at h; exact h) Hb2.out, Hnx2.out, below_trans Hb.out Hb2.out⟩
                  case measure => simp [intOf]; omega
              · have hand0 : bits .and .i64 (i1 : Int) 1 = 1 := hand
                have g1 : ((1 : Int) == 0) = false := rfl
                obtain ⟨x2, hx2⟩ : ∃ x2, x2 = sha (1 :: (y ++ x)) := ⟨_, rfl⟩
                have hx2l : x2.length = 32 := by rw [hx2, sha_length]
                have hnx2 : r = climbG k (i1 / 2) ((n1 + 1) / 2) x2 q := by rw [Hnx.out, hx2]; rfl
                have Hnx2 := Lib.hid hnx2
                have Hx2 := Lib.hid hx2
                clear hand hnx2 hx2 Hnx
                by_cases hcp : cp = 1
                · subst hcp
                  go_wp2_with (go_at_call 37; refine (node_any y x _ (by omega) (by omega)).mono ?_; rintro e w2 ⟨rfl, hb2⟩; rw [← Hx2.out]; have Hb2 := Lib.hid hb2; clear hb2)
                  go_roundw
                  case rel => exact ⟨k, i1 / 2, (n1 + 1) / 2, x2, q, some a, 0, by go_num, by go_num, by rw [Hq2.out]; rfl, rfl, hx2l, by omega, by omega, by omega, by have := Hq2.out; omega, Strs.below Htl.out Hb2.out, Hnx2.out, below_trans Hb.out Hb2.out⟩
                  case measure => simp [intOf]; omega
                · have hcp2 : ¬ cp = 1 := hcp
                  go_wp2_with (go_at_call 37; refine (node_any y x _ (by omega) (by omega)).mono ?_; rintro e w2 ⟨rfl, hb2⟩; rw [← Hx2.out]; have Hb2 := Lib.hid hb2; clear hb2)
                  go_roundw
                  case rel => exact ⟨k, i1 / 2, (n1 + 1) / 2, x2, q, some (a.add 1), cp - 1, by go_num, by go_num, by rw [Hq2.out]; rfl, rfl, hx2l, by omega, by omega, by omega, by have := Hq2.out; omega, Strs.below (by have h := Htl.out; rw [if_neg hcp2] at h; exact h) Hb2.out, Hnx2.out, below_trans Hb.out Hb2.out⟩
                  case measure => simp [intOf]; omega
            · have e1 : ((yl : Int) != 32) = true := by rw [bne_iff_ne]; omega
              have hres : r = none := by rw [Hr1.out]; simp [climbG, h1n, ← Hm.out, h2n, h32]
              have Hres := Lib.hid hres
              clear hres hq1 hyl
              go_wp2_with fail
              go_ret2
              exact ⟨by rw [Hres.out]; rfl, Hb.out⟩
theorem climb_none (item : List UInt8) (i n : Int) (A : Option Addr) (cap : Nat) (p : List (List UInt8)) (w : World) (hr : climbOf item i n p = none) (hl : item.length ≤ 1099511627775) (hp : Strs w A cap p) (hi1 : -9223372036854775808 ≤ i) (hi2 : i ≤ 9223372036854775807) (hn1 : -9223372036854775808 ≤ n) (hn2 : n ≤ 9223372036854775807) (hpl : p.length ≤ 140737488355328) :
    Calls Try.prog 18 #[.string (str item), .int .i64 i, .int .i64 n, .slice A p.length cap] w fun e w' => e = .returned (.tuple #[.string (str []), .bool false]) ∧ Below w.heap.size w w' :=
  (climb_any item i n A cap p w hl hp hi1 hi2 hn1 hn2 hpl).mono fun e w' ⟨he, hb⟩ => ⟨by rw [he, hr]; rfl, hb⟩
theorem climb_some (item x : List UInt8) (i n : Int) (A : Option Addr) (cap : Nat) (p : List (List UInt8)) (w : World) (hr : climbOf item i n p = some x) (hl : item.length ≤ 1099511627775) (hp : Strs w A cap p) (hi1 : -9223372036854775808 ≤ i) (hi2 : i ≤ 9223372036854775807) (hn1 : -9223372036854775808 ≤ n) (hn2 : n ≤ 9223372036854775807) (hpl : p.length ≤ 140737488355328) :
    Calls Try.prog 18 #[.string (str item), .int .i64 i, .int .i64 n, .slice A p.length cap] w fun e w' => e = .returned (.tuple #[.string (str x), .bool true]) ∧ Below w.heap.size w w' :=
  (climb_any item i n A cap p w hl hp hi1 hi2 hn1 hn2 hpl).mono fun e w' ⟨he, hb⟩ => ⟨by rw [he, hr]; rfl, hb⟩
end Go.Proofs.Ytgbnkoeidejhfaa
