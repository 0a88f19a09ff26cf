import Derived.Test.YtgbnkoeidejhfaaRefMac
import Derived.Test.YtgbnkoeidejhfaaStrs
namespace Go.Proofs.Ytgbnkoeidejhfaa
open Go.RowKit

set_option maxRecDepth 100000 in
set_option maxHeartbeats 1000000 in
theorem macs_walk (k s : List UInt8) (w : World) (hk : k.length ≤ 140737488355328) (hs : s.length ≤ 140737488355328) :
    Calls Try.prog 4 #[.string (str k), .string (str s)] w fun e w' => e = .returned (.bool true) ∧ Below w.heap.size w w' := by
  have hszk := str_size k
  have hszs := str_size s
  have hc : ({ data := #[] } : ByteArray) = str [] := rfl
  have hc2 : ({ data := #[182, 19, 103, 154] } : ByteArray) = str [182, 19, 103, 154] := rfl
  obtain ⟨M, hM⟩ : ∃ M, M = hmac [] [] := ⟨_, rfl⟩
  have hsz : (str M).size = 32 := by rw [str_size, hM, hmac_length]
  have ht : (str M).extract 0 4 = str [182, 19, 103, 154] := by rw [str_take, hM, hmac_empty]
  have HM := Lib.hid hM
  clear hM
  have he := str_eq_yes (rfl : ([182, 19, 103, 154] : List UInt8) = [182, 19, 103, 154])
  go_enter Try.func4, Try.ntmps4
  go_wp2_with fail
  refine (macTop_any [] [] _ (by simp) (by simp)).mono ?_
  rintro e w1 ⟨rfl, hb1⟩
  rw [← HM.out]
  have HB1 := Lib.hid hb1
  clear hb1
  by_cases h1 : 5000 < k.length
  · have d1 : decide ((5000 : Int) < (k.length : Int)) = true := decide_eq_true (by omega)
    go_wp2_with fail
    go_ret
    exact ⟨rfl, HB1.out⟩
  have d1 : decide ((5000 : Int) < (k.length : Int)) = false := decide_eq_false (by omega)
  by_cases h2 : 5000 < s.length
  · have d2 : decide ((5000 : Int) < (s.length : Int)) = true := decide_eq_true (by omega)
    go_wp2_with fail
    go_ret
    exact ⟨rfl, HB1.out⟩
  have d2 : decide ((5000 : Int) < (s.length : Int)) = false := decide_eq_false (by omega)
  go_wp2_with fail
  refine (macTop_any k s _ (by omega) (by omega)).mono ?_
  rintro e w2 ⟨rfl, hb2⟩
  have HB2 := Lib.hid (below_trans HB1.out hb2)
  clear hb2
  go_wp2_with fail
  refine (refMac_any k s _ (by omega) (by omega)).mono ?_
  rintro e w3 ⟨rfl, hb3⟩
  have HB3 := Lib.hid (below_trans HB2.out hb3)
  clear hb3
  go_wp2_with fail
  go_ret
  exact ⟨by simp, HB3.out⟩
end Go.Proofs.Ytgbnkoeidejhfaa
