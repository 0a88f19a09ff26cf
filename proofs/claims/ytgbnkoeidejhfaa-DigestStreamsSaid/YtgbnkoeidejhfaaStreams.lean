import Derived.Test.YtgbnkoeidejhfaaRefStream
import Derived.Test.YtgbnkoeidejhfaaDigJ
import Derived.Test.YtgbnkoeidejhfaaStrs
namespace Go.Proofs.Ytgbnkoeidejhfaa
open Go.RowKit

set_option maxRecDepth 100000 in
set_option maxHeartbeats 1000000 in
theorem streams_walk (k c : List UInt8) (n : Int) (w : World) (hk : k.length ≤ 140737488355328) (hc : c.length ≤ 140737488355328) (hn1 : -9223372036854775808 ≤ n) (hn2 : n ≤ 9223372036854775807) :
    Calls Try.prog 5 #[.string (str k), .string (str c), .int .i64 n] w fun e w' => e = .returned (.bool true) ∧ Below w.heap.size w w' := by
  have hszk := str_size k
  have hszc := str_size c
  have ca : ({ data := #[97] } : ByteArray) = str [97] := rfl
  have cb : ({ data := #[98] } : ByteArray) = str [98] := rfl
  obtain ⟨T, hT⟩ : ∃ T, T = streamOf [97] [98] 5 := ⟨_, rfl⟩
  have hTl : (str T).size = 5 := by rw [str_size, hT]; exact streamOf_length [97] [98] 5 (by omega) (by omega)
  have HT := Lib.hid hT
  clear hT
  go_enter Try.func5, Try.ntmps5
  go_wp2_with fail
  refine (awake_any _).mono ?_
  rintro e w0 ⟨rfl, hb0⟩
  have HB0 := Lib.hid hb0
  clear hb0
  go_wp2_with fail
  refine (stream_any [97] [98] 5 _ (by simp) (by simp) (by omega) (by omega)).mono ?_
  rintro e w1 ⟨rfl, hb1⟩
  rw [← HT.out]
  have HB1 := Lib.hid (below_trans HB0.out hb1)
  clear hb1
  by_cases h1 : 1000 < k.length
  · have d1 : decide ((1000 : Int) < (k.length : Int)) = true := decide_eq_true (by omega)
    go_wp2_with fail
    go_ret
    exact ⟨rfl, HB1.out⟩
  have d1 : decide ((1000 : Int) < (k.length : Int)) = false := decide_eq_false (by omega)
  by_cases h2 : 1000 < c.length
  · have d2 : decide ((1000 : Int) < (c.length : Int)) = true := decide_eq_true (by omega)
    go_wp2_with fail
    go_ret
    exact ⟨rfl, HB1.out⟩
  have d2 : decide ((1000 : Int) < (c.length : Int)) = false := decide_eq_false (by omega)
  by_cases h3 : 1000 < n ∧ n ≤ 65536
  · have d3 : decide (1000 < n) = true := decide_eq_true h3.1
    have d4 : decide (n ≤ 65536) = true := decide_eq_true h3.2
    clear h3
    go_wp2_with fail
    go_ret
    exact ⟨rfl, HB1.out⟩
  obtain ⟨S, hS⟩ : ∃ S, S = streamOf k c n := ⟨_, rfl⟩
  have HS := Lib.hid hS
  have hne := str_eq_yes (rfl : S = S)
  by_cases h4 : 1000 < n
  · have d3 : decide (1000 < n) = true := decide_eq_true h4
    have d4 : decide (n ≤ 65536) = false := decide_eq_false (by omega)
    have d5 : decide (n < 2) = false := decide_eq_false (by omega)
    clear h3 hS
    go_wp2_with fail
    refine (stream_any k c n _ (by omega) (by omega) (by omega) (by omega)).mono ?_
    rintro e w2 ⟨rfl, hb2⟩
    rw [← HS.out]
    have HB2 := Lib.hid (below_trans HB1.out hb2)
    clear hb2
    go_wp2_with fail
    refine (refStream_any k c n _ (by omega) (by omega) (by omega) (by omega)).mono ?_
    rintro e w3 ⟨rfl, hb3⟩
    rw [← HS.out]
    have HB3 := Lib.hid (below_trans HB2.out hb3)
    clear hb3
    go_wp2_with fail
    go_quiet (fail)
    go_wp2_with fail
    go_ret
    exact ⟨rfl, below_drewN HB3.out _⟩
  have d3 : decide (1000 < n) = false := decide_eq_false h4
  by_cases h5 : n < 2
  · have d5 : decide (n < 2) = true := decide_eq_true h5
    clear h3 hS
    go_wp2_with fail
    refine (stream_any k c n _ (by omega) (by omega) (by omega) (by omega)).mono ?_
    rintro e w2 ⟨rfl, hb2⟩
    rw [← HS.out]
    have HB2 := Lib.hid (below_trans HB1.out hb2)
    clear hb2
    go_wp2_with fail
    refine (refStream_any k c n _ (by omega) (by omega) (by omega) (by omega)).mono ?_
    rintro e w3 ⟨rfl, hb3⟩
    rw [← HS.out]
    have HB3 := Lib.hid (below_trans HB2.out hb3)
    clear hb3
    go_wp2_with fail
    go_quiet (fail)
    go_wp2_with fail
    go_ret
    exact ⟨rfl, below_drewN HB3.out _⟩
  have d5 : decide (n < 2) = false := decide_eq_false h5
  obtain ⟨m, rfl⟩ : ∃ m : Nat, n = (m : Int) := ⟨n.toNat, by omega⟩
  have hSl : S.length = m := by rw [hS]; exact streamOf_length k c m (by omega) (by omega)
  have hpr := streamOf_pred k c m (by omega) (by omega)
  rw [← hS] at hpr
  have hm1 : ((m - 1 : Nat) : Int) = (m : Int) - 1 := by omega
  rw [hm1] at hpr
  have hSz : (str S).size = m := by rw [str_size, hSl]
  have hex : (str S).extract 0 (m - 1) = str (S.take (m - 1)) := str_take S (m - 1)
  have HPr := Lib.hid hpr
  clear h3 hS hSl hpr hm1
  go_wp2_with fail
  refine (stream_any k c m _ (by omega) (by omega) (by omega) (by omega)).mono ?_
  rintro e w2 ⟨rfl, hb2⟩
  rw [← HS.out]
  have HB2 := Lib.hid (below_trans HB1.out hb2)
  clear hb2
  go_wp2_with fail
  refine (refStream_any k c m _ (by omega) (by omega) (by omega) (by omega)).mono ?_
  rintro e w3 ⟨rfl, hb3⟩
  rw [← HS.out]
  have HB3 := Lib.hid (below_trans HB2.out hb3)
  clear hb3
  go_wp2_with fail
  have q1 : IntKind.i64.wrap ((m : Int) - 1) = (m : Int) - 1 := IntWalk.i64_in _ (by omega)
  have q2 : ((m : Int) - 1).toNat = m - 1 := by omega
  have q3 : 0 ≤ (m : Int) - 1 := by omega
  have q5 : 1 ≤ (m : Int) := by omega
  have q4 : (m : Int) - 1 ≤ (m : Int) := by omega
  obtain ⟨S1, hS1⟩ : ∃ S1, S1 = S.take (m - 1) := ⟨_, rfl⟩
  rw [← hS1] at hex
  have HS1 := Lib.hid (hS1.trans HPr.out.symm)
  have hne1 := str_eq_yes (rfl : S1 = S1)
  clear hS1
  refine region_quiet_tail (fun w' => Below w3.heap.size w3 w') 18 Try.mixed (by kernel_rfl) (Below.refl _ _).drew ?_
  simp only [List.take_succ_cons, List.take_zero, List.drop_succ_cons, List.drop_zero]
  repeat (refine wpQuiet_step (fun K hK => ?_); go_simp; refine ⟨_, fun w' hb => rfl, hK _ ?_⟩; clear hK K)
  refine wpQuiet_step (fun K hK => ?_)
  go_simp
  refine ⟨.string (str S1), fun w' hb => ?_, hK _ ?_⟩
  · rw [HS1.out, HPr.out, ← HPr.out]
    refine (stream_any k c ((m : Int) - 1) w' (by omega) (by omega) (by omega) (by omega)).mono ?_
    rintro e w4 ⟨rfl, hb4⟩
    exact ⟨rfl, below_trans hb hb4⟩
  clear hK K
  repeat (refine wpQuiet_step (fun K hK => ?_); go_simp; refine ⟨_, fun w' hb => (by first | rfl | exact ⟨rfl, rfl⟩), hK _ ?_⟩; clear hK K)
  refine wpQuiet_nil ?_
  intro w4 hb4
  have HB4 := Lib.hid (HB3.out.trans (hb4.mono HB3.out.size))
  clear hb4
  go_wp2_with fail
  go_ret
  exact ⟨by simp, HB4.out⟩
end Go.Proofs.Ytgbnkoeidejhfaa
