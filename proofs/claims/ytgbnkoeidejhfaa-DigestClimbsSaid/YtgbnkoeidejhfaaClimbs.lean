import Derived.Test.YtgbnkoeidejhfaaRefClimb
import Derived.Test.YtgbnkoeidejhfaaFew
import Derived.Test.YtgbnkoeidejhfaaDigJ
namespace Go.Proofs.Ytgbnkoeidejhfaa
open Go.RowKit

theorem refClimb_none (item : List UInt8) (i n : Int) (A : Option Addr) (cap : Nat) (p : List (List UInt8)) (w : World) (hr : climbOf item i n p = none) (hl : item.length ≤ 1099511627775) (hp : Strs w A cap p) (hi1 : -9223372036854775808 ≤ i) (hi2 : i ≤ 9223372036854775807) (hn1 : -9223372036854775808 ≤ n) (hn2 : n ≤ 9223372036854775807) (hpl : p.length ≤ 140737488355328)
    (hlen : ∀ x ∈ p, x.length ≤ 140737488355328) :
    Calls Try.prog 19 #[.string (str item), .int .i64 i, .int .i64 n, .slice A p.length cap] w fun e w' => e = .returned (.tuple #[.string (str []), .bool false]) ∧ Below w.heap.size w w' :=
  (refClimb_any item i n A cap p w hl hp hi1 hi2 hn1 hn2 hpl hlen).mono fun e w' ⟨he, hb⟩ => ⟨by rw [he, hr]; rfl, hb⟩
theorem refClimb_some (item x : List UInt8) (i n : Int) (A : Option Addr) (cap : Nat) (p : List (List UInt8)) (w : World) (hr : climbOf item i n p = some x) (hl : item.length ≤ 1099511627775) (hp : Strs w A cap p) (hi1 : -9223372036854775808 ≤ i) (hi2 : i ≤ 9223372036854775807) (hn1 : -9223372036854775808 ≤ n) (hn2 : n ≤ 9223372036854775807) (hpl : p.length ≤ 140737488355328)
    (hlen : ∀ x ∈ p, x.length ≤ 140737488355328) :
    Calls Try.prog 19 #[.string (str item), .int .i64 i, .int .i64 n, .slice A p.length cap] w fun e w' => e = .returned (.tuple #[.string (str x), .bool true]) ∧ Below w.heap.size w w' :=
  (refClimb_any item i n A cap p w hl hp hi1 hi2 hn1 hn2 hpl hlen).mono fun e w' ⟨he, hb⟩ => ⟨by rw [he, hr]; rfl, hb⟩

set_option maxRecDepth 100000 in
set_option maxHeartbeats 1000000 in
theorem climbs_walk (l : List UInt8) (i n : Int) (A : Option Addr) (cap : Nat) (p : List (List UInt8)) (w : World) (hp : Strs w A cap p) (hlen : ∀ x ∈ p, x.length ≤ 140737488355328) (hl : l.length ≤ 140737488355328)
    (hi1 : -9223372036854775808 ≤ i) (hi2 : i ≤ 9223372036854775807) (hn1 : -9223372036854775808 ≤ n) (hn2 : n ≤ 9223372036854775807) :
    Calls Try.prog 6 #[.string (str l), .agg #[.int .i64 i, .int .i64 n], .slice A p.length cap] w fun e w' => e = .returned (.bool true) ∧ Below w.heap.size w w' := by
  have hsz := str_size l
  have Hp := Lib.hid hp
  clear hp
  go_enter Try.func6, Try.ntmps6
  go_wp2_with fail
  refine (awake_any _).mono ?_
  rintro e w1 ⟨rfl, hb1⟩
  have hI : Blk w1 w.heap.size 29 [.int .i64 i, .int .i64 n] := (Blk.of w _ _ _ rfl).below hb1 (by simp)
  have hB1 : Below w.heap.size w w1 := ((Below.refl _ _).alloc (Nat.le_refl _) _).trans (hb1.mono (by simp))
  have j0 : w1.cell? ⟨w.heap.size, 0, none⟩ = some (.int .i64 i) := hI.cell 0
  have j1 : w1.cell? ⟨w.heap.size, 1, none⟩ = some (.int .i64 n) := hI.cell 1
  have HB := Lib.hid hB1
  have Hp1 := Lib.hid (Hp.out.below hB1)
  clear hI hB1 hb1 Hp
  by_cases h5 : 5000 < l.length
  · have d1 : decide ((5000 : Int) < (l.length : Int)) = true := decide_eq_true (by omega)
    go_wp2_with fail
    go_ret
    exact ⟨rfl, HB.out⟩
  have d1 : decide ((5000 : Int) < (l.length : Int)) = false := decide_eq_false (by omega)
  by_cases hf : fewB p = false
  · go_wp2_with fail
    refine (few_any A cap p _ Hp1.out hlen).mono ?_
    rintro e w' ⟨rfl, rfl⟩
    go_wp2_with fail
    go_ret
    exact ⟨rfl, HB.out⟩
  have hf : fewB p = true := by simpa using hf
  have hy := fewB_yes hf
  go_wp2_with fail
  refine (few_any A cap p _ Hp1.out hlen).mono ?_
  rintro e w' ⟨rfl, rfl⟩
  cases hr : climbOf l i n p with
  | none =>
    have Hr := Lib.hid hr
    clear hr
    go_wp2_with fail
    refine (climb_none l i n A cap p _ Hr.out (by omega) Hp1.out hi1 hi2 hn1 hn2 (by omega)).mono ?_
    rintro e w2 ⟨rfl, hb2⟩
    have j0 : w2.cell? ⟨w.heap.size, 0, none⟩ = some (.int .i64 i) := below_cell hb2 j0
    have j1 : w2.cell? ⟨w.heap.size, 1, none⟩ = some (.int .i64 n) := below_cell hb2 j1
    have HB2 := Lib.hid (below_trans HB.out hb2)
    have Hp2 := Lib.hid (Hp1.out.below hb2)
    clear hb2 HB Hp1
    go_wp2_with fail
    refine (refClimb_none l i n A cap p _ Hr.out (by omega) Hp2.out hi1 hi2 hn1 hn2 (by omega) hlen).mono ?_
    rintro e w3 ⟨rfl, hb3⟩
    have HB3 := Lib.hid (below_trans HB2.out hb3)
    clear hb3 HB2
    go_wp2_with fail
    go_ret
    exact ⟨by simp, HB3.out⟩
  | some x =>
    have Hr := Lib.hid hr
    clear hr
    go_wp2_with fail
    refine (climb_some l x i n A cap p _ Hr.out (by omega) Hp1.out hi1 hi2 hn1 hn2 (by omega)).mono ?_
    rintro e w2 ⟨rfl, hb2⟩
    have j0 : w2.cell? ⟨w.heap.size, 0, none⟩ = some (.int .i64 i) := below_cell hb2 j0
    have j1 : w2.cell? ⟨w.heap.size, 1, none⟩ = some (.int .i64 n) := below_cell hb2 j1
    have HB2 := Lib.hid (below_trans HB.out hb2)
    have Hp2 := Lib.hid (Hp1.out.below hb2)
    clear hb2 HB Hp1
    have d9 := str_eq_yes (rfl : x = x)
    go_wp2_with fail
    refine (refClimb_some l x i n A cap p _ Hr.out (by omega) Hp2.out hi1 hi2 hn1 hn2 (by omega) hlen).mono ?_
    rintro e w3 ⟨rfl, hb3⟩
    have HB3 := Lib.hid (below_trans HB2.out hb3)
    clear hb3 HB2
    go_wp2_with fail
    go_ret
    exact ⟨by simp, HB3.out⟩
end Go.Proofs.Ytgbnkoeidejhfaa
