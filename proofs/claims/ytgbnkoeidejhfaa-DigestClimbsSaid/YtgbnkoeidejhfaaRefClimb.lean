import Derived.Test.YtgbnkoeidejhfaaRefSum
import Derived.Test.YtgbnkoeidejhfaaDigO
import Derived.Test.YtgbnkoeidejhfaaBindsP
namespace Go.Proofs.Ytgbnkoeidejhfaa
open Go.RowKit

set_option maxRecDepth 100000 in
set_option maxHeartbeats 1000000 in
theorem refClimb_any (item : List UInt8) (i n : Int) (A : Option Addr) (cap : Nat) (p : List (List UInt8)) (w : World) (hl : item.length ≤ 1099511627775) (hp : Strs w A cap p) (hi1 : -9223372036854775808 ≤ i) (hi2 : i ≤ 9223372036854775807) (hn1 : -9223372036854775808 ≤ n) (hn2 : n ≤ 9223372036854775807) (hpl : p.length ≤ 140737488355328)
    (hlen : ∀ x ∈ p, x.length ≤ 140737488355328) :
    Calls Try.prog 19 #[.string (str item), .int .i64 i, .int .i64 n, .slice A p.length cap] w fun e w' => e = .returned (.tuple #[(climbRes (climbOf item i n p)).1, (climbRes (climbOf item i n p)).2]) ∧ Below w.heap.size w w' := by
  by_cases h : i < 0 ∨ n ≤ i ∨ 65536 < n
  · have hc : climbOf item i n p = none := if_pos h
    rw [hc]
    by_cases h1 : i < 0
    · have b1 : decide (i < 0) = true := decide_eq_true h1
      go_enter Try.func19, Try.ntmps19
      go_wp2_with fail
      go_ret2
      exact ⟨rfl, Below.refl _ _⟩
    · have b1 : decide (i < 0) = false := decide_eq_false h1
      by_cases h2 : n ≤ i
      · have b2 : decide (n ≤ i) = true := decide_eq_true h2
        go_enter Try.func19, Try.ntmps19
        go_wp2_with fail
        go_ret2
        exact ⟨rfl, Below.refl _ _⟩
      · have b2 : decide (n ≤ i) = false := decide_eq_false h2
        have b3 : decide (65536 < n) = true := decide_eq_true (by omega)
        go_enter Try.func19, Try.ntmps19
        go_wp2_with fail
        go_ret2
        exact ⟨rfl, Below.refl _ _⟩
  · have hc : climbOf item i n p = climbG n.toNat i.toNat n.toNat (sha (0 :: item)) p := if_neg h
    rw [hc]
    have h1 : ¬ i < 0 := by omega
    have h2 : ¬ n ≤ i := by omega
    have h3 : ¬ 65536 < n := by omega
    obtain ⟨i0, rfl⟩ : ∃ k : Nat, i = (k : Int) := ⟨i.toNat, by omega⟩
    obtain ⟨n0, rfl⟩ : ∃ k : Nat, n = (k : Int) := ⟨n.toNat, by omega⟩
    simp only [Int.toNat_natCast]
    have b1 : decide ((i0 : Int) < 0) = false := decide_eq_false h1
    have b2 : decide ((n0 : Int) ≤ (i0 : Int)) = false := decide_eq_false h2
    have b3 : decide (65536 < (n0 : Int)) = false := decide_eq_false h3
    have e0 : ({ data := #[0] } : ByteArray) = str [0] := rfl
    have s0 := str_add Try.prog [0] item (by simp; omega)
    obtain ⟨S0, hS0⟩ : ∃ S, S = (0 : UInt8) :: item := ⟨_, rfl⟩
    rw [show [(0 : UInt8)] ++ item = 0 :: item from rfl, ← hS0] at s0
    have hS0l : S0.length ≤ 1099511627776 := by rw [hS0]; simp; omega
    obtain ⟨x0, hx0⟩ : ∃ x, x = sha S0 := ⟨_, rfl⟩
    have hx0l : x0.length = 32 := by rw [hx0, sha_length]
    rw [← hS0, ← hx0]
    obtain ⟨r, hr⟩ : ∃ r, r = climbG n0 i0 n0 x0 p := ⟨_, rfl⟩
    rw [← hr]
    obtain ⟨pl, hpl2⟩ : ∃ j, j = p.length := ⟨_, rfl⟩
    rw [← hpl2] at hpl
    rw [← hpl2]
    have Hpl2 := Lib.hid hpl2
    have Hr := Lib.hid hr
    have Hx0 := Lib.hid hx0
    have Hp := Lib.hid hp
    have Hx0l := Lib.hid hx0l
    have Hlen := Lib.hid hlen
    clear hr hx0 hc h hp hS0 hpl2 hx0l hlen
    go_enter Try.func19, Try.ntmps19
    go_wp2_with (go_at_call 12; refine (refSum_any S0 _ hS0l).mono ?_; rintro e w1 ⟨rfl, hb1⟩; rw [← Hx0.out]; have Hb1 := Lib.hid hb1; clear hb1)
    clear s0 e0 b1 b2 b3
    have e1 : ({ data := #[1] } : ByteArray) = str [1] := rfl
    go_loopw [1, 2, 10, 11] (fun iv nv xv mv wr => ∃ (k i1 n1 met : Nat) (x : List UInt8), iv = .int .i64 (i1 : Int) ∧ nv = .int .i64 (n1 : Int) ∧ mv = .int .i64 (met : Int) ∧ xv = .string (str x) ∧ x.length = 32 ∧ i1 < n1 ∧ n1 ≤ k ∧ n1 ≤ 65536 ∧ met ≤ pl ∧ Strs wr A cap p ∧ r = climbG k i1 n1 x (p.drop met) ∧ Below w.heap.size w wr) (fun _ nv _ _ _ => (intOf nv).toNat)
    case atStart => exact ⟨n0, i0, n0, 0, x0, rfl, rfl, rfl, rfl, Hx0l.out, by omega, by omega, by omega, by omega, Hp.out.below Hb1.out, by rw [Hr.out]; rfl, Hb1.out⟩
    case round =>
      obtain ⟨k, i1, n1, met, x, rfl, rfl, rfl, rfl, hxl, hin, hnk, hn6, hmet, hq, hr, hb⟩ := hrel
      have Hr1 := Lib.hid hr
      have Hb := Lib.hid hb
      have Hhxl := Lib.hid hxl
      clear hr hb Hr Hp Hb1 Hx0 Hx0l hxl
      have Hp := Lib.hid hq
      clear hq
      obtain ⟨k, rfl⟩ : ∃ j, k = j + 1 := ⟨k - 1, by omega⟩
      by_cases h1n : n1 ≤ 1
      · have c1 : decide ((1 : Int) < (n1 : Int)) = false := decide_eq_false (by omega)
        by_cases hmp : met = pl
        · have d1 : ((met : Int) != (pl : Int)) = false := by rw [bne_eq_false_iff_eq]; omega
          have hres : r = some x := by
            rw [Hr1.out, List.drop_of_length_le (by rw [← Hpl2.out]; omega)]; simp [climbG, h1n]
          have Hres := Lib.hid hres
          clear hres hmp
          go_wp2_with fail
          go_ret2
          exact ⟨by rw [Hres.out]; rfl, Hb.out⟩
        · have d1 : ((met : Int) != (pl : Int)) = true := by rw [bne_iff_ne]; omega
          have hres : r = none := by
            have hlt : met < p.length := by rw [← Hpl2.out]; omega
            rw [Hr1.out, List.drop_eq_getElem_cons hlt]; simp [climbG, h1n]; exact hlt
          have Hres := Lib.hid hres
          clear hres
          go_wp2_with fail
          go_ret2
          exact ⟨by rw [Hres.out]; rfl, Hb.out⟩
      · have c1 : decide ((1 : Int) < (n1 : Int)) = true := decide_eq_true (by omega)
        obtain ⟨m, hm⟩ : ∃ m, m = i1 ^^^ 1 := ⟨_, rfl⟩
        have hx := i64_xor_one i1 (by omega)
        have hmle := xor_one_le i1
        rw [← hm] at hx hmle
        have Hm := Lib.hid hm
        clear hm
        by_cases h2n : n1 ≤ m
        · have c2 : decide ((m : Int) < (n1 : Int)) = false := decide_eq_false (by omega)
          have hnx : r = climbG k (i1 / 2) ((n1 + 1) / 2) x (p.drop met) := by rw [Hr1.out, climbG_skip (by omega) (by rw [← Hm.out]; exact h2n)]
          have Hnx := Lib.hid hnx
          clear hnx
          go_wp2_with fail
          go_roundw
          case rel => exact ⟨k, i1 / 2, (n1 + 1) / 2, met, x, by go_num, by go_num, rfl, rfl, Hhxl.out, by omega, by omega, by omega, hmet, Hp.out, Hnx.out, Hb.out⟩
          case measure => simp [intOf]; omega
        · have c2 : decide ((m : Int) < (n1 : Int)) = true := decide_eq_true (by omega)
          by_cases hmp : pl ≤ met
          · have d1 : decide ((pl : Int) ≤ (met : Int)) = true := decide_eq_true (by omega)
            have hres : r = none := by
              rw [Hr1.out, List.drop_of_length_le (by rw [← Hpl2.out]; omega)]; simp [climbG, h1n, ← Hm.out, h2n]
            have Hres := Lib.hid hres
            clear hres
            go_wp2_with fail
            go_ret2
            exact ⟨by rw [Hres.out]; rfl, Hb.out⟩
          · have d1 : decide ((pl : Int) ≤ (met : Int)) = false := decide_eq_false (by omega)
            have hlt : met < p.length := by rw [← Hpl2.out]; omega
            obtain ⟨y, hy⟩ : ∃ y, y = p[met] := ⟨_, rfl⟩
            have hd : p.drop met = y :: p.drop (met + 1) := by rw [List.drop_eq_getElem_cons hlt, hy]
            have hpm : p[met]? = some y := by rw [List.getElem?_eq_getElem hlt, hy]
            obtain ⟨a, rfl, hcell⟩ := Hp.out.cells met y hpm
            have hyl := Hlen.out y (List.mem_of_getElem? hpm)
            have hys := str_size y
            obtain ⟨yl, hyl2⟩ : ∃ j, j = y.length := ⟨_, rfl⟩
            rw [← hyl2] at hys
            have hmi : (met : Int) < (pl : Int) := by omega
            have hmn : met < pl := by omega
            by_cases h32 : y.length = 32
            · have d2 : ((yl : Int) != 32) = false := by rw [bne_eq_false_iff_eq]; omega
              have hnx : r = climbG k (i1 / 2) ((n1 + 1) / 2) (if i1 % 2 = 0 then sha (1 :: (x ++ y)) else sha (1 :: (y ++ x))) (p.drop (met + 1)) := by
                rw [Hr1.out, hd]; simp [climbG, h1n, ← Hm.out, h2n, h32]
              have hxl := Hhxl.out
              clear hy hd hpm hlt hyl2
              by_cases hp2 : i1 % 2 = 0
              · have hpar : ((i1 : Int) % 2 == 0) = true := by rw [beq_iff_eq]; omega
                have v0 := str_add Try.prog [1] x (by simp; omega)
                have v1 := str_add Try.prog (1 :: x) y (by simp; omega)
                obtain ⟨S, hS⟩ : ∃ S, S = (1 :: (x ++ y) : List UInt8) := ⟨_, rfl⟩
                have hSl : S.length = 65 := by rw [hS]; simp [hxl, h32]
                simp only [List.cons_append, List.nil_append] at v0 v1
                rw [← hS] at v1
                obtain ⟨x2, hx2⟩ : ∃ x2, x2 = sha S := ⟨_, rfl⟩
                have hx2l : x2.length = 32 := by rw [hx2, sha_length]
                have hnx2 : r = climbG k (i1 / 2) ((n1 + 1) / 2) x2 (p.drop (met + 1)) := by rw [hnx, hx2, hS, if_pos hp2]
                have Hnx2 := Lib.hid hnx2
                have Hx2 := Lib.hid hx2
                have HSl := Lib.hid hSl
                have Hx2l := Lib.hid hx2l
                clear hnx hnx2 hx2 hS hSl hx2l hxl h32 Hhxl
                go_wp2_with (go_at_call 12; refine (refSum_any S _ (by have := HSl.out; omega)).mono ?_; rintro e w2 ⟨rfl, hb2⟩; rw [← Hx2.out]; have Hb2 := Lib.hid (below_trans Hb.out hb2); have Hp2 := Lib.hid (Hp.out.below hb2); clear hb2)
                go_roundw
                case rel => exact ⟨k, i1 / 2, (n1 + 1) / 2, met + 1, x2, by go_num, by go_num, by go_num, rfl, Hx2l.out, by omega, by omega, by omega, by omega, Hp2.out, Hnx2.out, Hb2.out⟩
                case measure => simp [intOf]; omega
              · have hpar : ((i1 : Int) % 2 == 0) = false := by rw [beq_eq_false_iff_ne]; omega
                have v0 := str_add Try.prog [1] y (by simp; omega)
                have v1 := str_add Try.prog (1 :: y) x (by simp; omega)
                obtain ⟨S, hS⟩ : ∃ S, S = (1 :: (y ++ x) : List UInt8) := ⟨_, rfl⟩
                have hSl : S.length = 65 := by rw [hS]; simp [hxl, h32]
                simp only [List.cons_append, List.nil_append] at v0 v1
                rw [← hS] at v1
                obtain ⟨x2, hx2⟩ : ∃ x2, x2 = sha S := ⟨_, rfl⟩
                have hx2l : x2.length = 32 := by rw [hx2, sha_length]
                have hnx2 : r = climbG k (i1 / 2) ((n1 + 1) / 2) x2 (p.drop (met + 1)) := by rw [hnx, hx2, hS, if_neg hp2]
                have Hnx2 := Lib.hid hnx2
                have Hx2 := Lib.hid hx2
                have HSl := Lib.hid hSl
                have Hx2l := Lib.hid hx2l
                clear hnx hnx2 hx2 hS hSl hx2l hxl h32 Hhxl
                go_wp2_with (go_at_call 12; refine (refSum_any S _ (by have := HSl.out; omega)).mono ?_; rintro e w2 ⟨rfl, hb2⟩; rw [← Hx2.out]; have Hb2 := Lib.hid (below_trans Hb.out hb2); have Hp2 := Lib.hid (Hp.out.below hb2); clear hb2)
                go_roundw
                case rel => exact ⟨k, i1 / 2, (n1 + 1) / 2, met + 1, x2, by go_num, by go_num, by go_num, rfl, Hx2l.out, by omega, by omega, by omega, by omega, Hp2.out, Hnx2.out, Hb2.out⟩
                case measure => simp [intOf]; omega
            · have d2 : ((yl : Int) != 32) = true := by rw [bne_iff_ne]; omega
              have hres : r = none := by
                rw [Hr1.out, hd]; simp [climbG, h1n, ← Hm.out, h2n, h32]
              have Hres := Lib.hid hres
              clear hres hy hd hpm hlt hyl2
              go_wp2_with fail
              go_ret2
              exact ⟨by rw [Hres.out]; rfl, Hb.out⟩
end Go.Proofs.Ytgbnkoeidejhfaa
