import Derived.Test.YtgbnkoeidejhfaaRefMac
import Derived.Test.YtgbnkoeidejhfaaStream
namespace Go.Proofs.Ytgbnkoeidejhfaa
open Go.RowKit

set_option maxRecDepth 100000 in
set_option maxHeartbeats 1000000 in
theorem refStream_any (k c : List UInt8) (n : Int) (w : World) (hk : k.length ≤ 1099511627776) (hc : c.length ≤ 274877906944) (hn1 : -9223372036854775808 ≤ n) (hn2 : n ≤ 9223372036854775807) :
    Calls Try.prog 16 #[.string (str k), .string (str c), .int .i64 n] w fun e w' => e = .returned (.string (str (streamOf k c n))) ∧ Below w.heap.size w w' := by
  by_cases h1 : n < 1
  · have b1 : decide (n < 1) = true := decide_eq_true h1
    rw [streamOf_out k c n (.inl h1)]
    go_enter Try.func16, Try.ntmps16
    go_wp2_with fail
    go_ret
    exact ⟨rfl, Below.refl _ _⟩
  have b1 : decide (n < 1) = false := decide_eq_false h1
  by_cases h2 : 65536 < n
  · have b2 : decide (65536 < n) = true := decide_eq_true h2
    rw [streamOf_out k c n (.inr h2)]
    go_enter Try.func16, Try.ntmps16
    go_wp2_with fail
    go_ret
    exact ⟨rfl, Below.refl _ _⟩
  have b2 : decide (65536 < n) = false := decide_eq_false h2
  obtain ⟨m, rfl⟩ : ∃ m : Nat, n = (m : Int) := ⟨n.toNat, by omega⟩
  have hm : ∀ i : Nat, m ≤ 32 * i → (macs k c i).take m = streamOf k c (m : Int) := fun i hi => streamOf_of k c m i (by omega) (by omega) hi
  have Hm := Lib.hid hm
  clear hm
  obtain ⟨S, hS⟩ : ∃ S, S = streamOf k c (m : Int) := ⟨_, rfl⟩
  rw [← hS]
  have HS := Lib.hid hS
  clear hS
  go_enter Try.func16, Try.ntmps16
  go_wp2_with fail
  clear b1 b2
  go_loopw [7, 8] (fun x y wr => ∃ i : Nat, 32 * i < m + 32 ∧ y = .int .i64 (i : Int) ∧ x = .string (str (macs k c i)) ∧ Below w.heap.size w wr) (fun _ y _ => m + 64 - 32 * (intOf y).toNat)
  case atStart => exact ⟨0, by omega, rfl, rfl, Below.refl _ _⟩
  case round =>
    obtain ⟨i, hi, rfl, rfl, hb⟩ := hrel
    have Hb := Lib.hid hb
    clear hb
    obtain ⟨M, hM⟩ : ∃ M, M = macs k c i := ⟨_, rfl⟩
    have hMl : M.length = 32 * i := by rw [hM, macs_length]
    have hms : (str M).size = 32 * i := by rw [str_size, hMl]
    rw [← hM]
    by_cases hlt : 32 * i < m
    · have d1 : decide (32 * (i : Int) < (m : Int)) = true := decide_eq_true (by omega)
      have hcv : IntKind.u64.wrap (i : Int) = (i : Int) := by rw [IntKind.wrap_u64]; omega
      have ha := str_add Try.prog c (be 4 i) (by rw [be_length]; omega)
      obtain ⟨N, hN⟩ : ∃ N, N = c ++ be 4 i := ⟨_, rfl⟩
      have hNl : N.length ≤ 549755813888 := by rw [hN, List.length_append, be_length]; omega
      rw [← hN] at ha
      obtain ⟨M2, hM2⟩ : ∃ M2, M2 = macs k c (i + 1) := ⟨_, rfl⟩
      have hnx : M2 = M ++ hmac k N := by rw [hM2, hM, hN]; rfl
      have ha2 := str_add Try.prog M (hmac k N) (by rw [hMl, hmac_length]; omega)
      rw [← hnx] at ha2
      have HM2 := Lib.hid hM2
      clear hM hN hnx hMl hM2
      go_wp2_with fail
      refine (bytes_any i 4 _ (by omega) (by omega)).mono ?_
      rintro e w1 ⟨rfl, hb1⟩
      have Hb1 := Lib.hid (below_trans Hb.out hb1)
      clear hb1 Hb
      go_wp2_with fail
      refine (refMac_any k N _ hk hNl).mono ?_
      rintro e w2 ⟨rfl, hb2⟩
      have Hb2 := Lib.hid (below_trans Hb1.out hb2)
      clear hb2 Hb1
      go_wp2_with fail
      go_roundw
      case rel => exact ⟨i + 1, by omega, by go_num, by rw [HM2.out], Hb2.out⟩
      case measure => simp [intOf]; omega
    · have d1 : decide (32 * (i : Int) < (m : Int)) = false := decide_eq_false (by omega)
      have hfin : M.take m = S := by rw [hM, HS.out]; exact Hm.out i (by omega)
      have hex : (str M).extract 0 m = str S := by rw [str_take, hfin]
      have hlem : m ≤ 32 * i := by omega
      clear hM hfin hMl
      go_wp2_with fail
      go_ret
      exact ⟨rfl, Hb.out⟩
end Go.Proofs.Ytgbnkoeidejhfaa
