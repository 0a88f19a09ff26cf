import Derived.Test.YtgbnkoeidejhfaaProg
import Derived.Test.YtgbnkoeidejhfaaDigPure
import Derived.Test.YtgbnkoeidejhfaaKit
import Derived.WalkKit
import Derived.KernelRfl
import Derived.Lib.Hide
namespace Go.Proofs.Ytgbnkoeidejhfaa
open Go.RowKit

theorem neg_and31 (n : Nat) (h1 : 1 ≤ n) (h2 : n ≤ 31) : bits BinOp.and IntKind.u64 (IntKind.u64.wrap (-(n : Int))) 31 = ((32 - n : Nat) : Int) := by
  have : ∀ n ∈ List.range 32, 1 ≤ n → bits BinOp.and IntKind.u64 (IntKind.u64.wrap (-(n : Int))) 31 = ((32 - n : Nat) : Int) := by decide +kernel
  exact this n (by simp; omega) h1

set_option maxHeartbeats 400000 in
theorem rot_any (x : W32) (n : Nat) (w : World) (h1 : 1 ≤ n) (h2 : n ≤ 31) :
    Calls Try.prog 58 #[v32 x, .int .i64 (n : Int)] w fun e w' => e = .returned (v32 (x.rotateRight n)) ∧ w = w' := by
  have hk := neg_and31 n h1 h2
  have hl := w32_shl x (32 - n)
  have hr := w32_shr x n
  have ho := w32_or (x <<< (32 - n)) (x >>> n)
  have hs : (32 : Int) - ((32 - n : Nat) : Int) = (n : Int) := by omega
  rw [← rot_eq x n h1 h2]
  go_enter Try.func58, Try.ntmps58
  go_wp2
  go_ret
  exact ⟨by simp, rfl⟩
theorem Try.underlying_bytes : Try.prog.underlying 64 = some (.slice 5) := by kernel_rfl
theorem Try.underlying_u8 : Try.prog.underlying 5 = some (.int .u8) := by kernel_rfl
theorem Try.underlying_str : Try.prog.underlying 9 = some .string := by kernel_rfl
theorem Try.info_u8 : (Try.prog.info? 5).map (fun i => (i.zero, i.size, i.bytes)) = some (some (.int .u8 0), 1, 1) := by kernel_rfl

set_option maxRecDepth 100000 in
set_option maxHeartbeats 400000 in
theorem number_any (n size : Nat) (w : World) (h1 : 1 ≤ size) (h2 : size ≤ 8) :
    Calls Try.prog 34 #[.int .u64 (n : Int), .int .i64 (size : Int)] w fun e w' => e = .returned (.string (str (be size n))) ∧ Below w.heap.size w w' := by
  go_enter Try.func34, Try.ntmps34
  go_wp2
  go_loopw [5, 6] (fun v i wr => ∃ (k : Nat) (z : Int), k ≤ size ∧ z = 8 * ((size : Int) - 1 - k) ∧ i = .int .i64 z ∧ Own wr w.heap.size 5 v (vbytes ((be size n).take k)) ∧ Below w.heap.size w wr) (fun _ i _ => (intOf i + 8).toNat)
  case atStart => exact ⟨0, _, by omega, by simp, rfl, by simpa [vbytes] using Own.nil w w.heap.size 5, Below.refl _ _⟩
  case round =>
    obtain ⟨k, z, hk, hz, rfl, hown, hb⟩ := hrel
    have Hown := Lib.hid hown
    have Hb := Lib.hid hb
    have Hz := Lib.hid hz
    have z1 : z ≤ 56 := by omega
    have z2 : -8 ≤ z := by omega
    clear hown hb hz
    by_cases hlt : k < size
    · have z0 : 0 ≤ z := by have := Hz.out; omega
      have hz8 : z.toNat = 8 * (size - 1 - k) := by have := Hz.out; omega
      have hl : (vbytes ((be size n).take k)).length = k := by rw [vbytes_length, List.length_take, be_length]; omega
      have hval : (Value.int .u8 ((n : Int) / 2 ^ z.toNat % 256)) = .int .u8 (((UInt8.ofNat (n / 256 ^ (size - 1 - k))).toNat : Nat) : Int) := by
        rw [hz8, be_val]
      have hstep := be_take_succ size n k hlt
      have Hval := Lib.hid hval
      have Hstep := Lib.hid hstep
      have Hl := Lib.hid hl
      clear hval hstep hz8 hl
      go_wp2_with (at_builtin; go_must (refine ap1 Hown.out Hb.out Try.underlying_bytes Try.info_u8 rfl (by omega) (by rw [Hl.out]; omega) rfl _ _ rfl rfl rfl rfl ?_; intro v1 w1 hown1 hb1 hg1; rw [Hval.out, show ∀ c : UInt8, [Value.int .u8 (c.toNat : Int)] = vbytes [c] from fun _ => rfl, ← vbytes_append, ← Hstep.out] at hown1; have Hown1 := Lib.hid hown1; have Hb1 := Lib.hid hb1; clear hown1 hb1 hg1))
      go_roundw
      case rel => exact ⟨k + 1, z - 8, by omega, by have := Hz.out; push_cast; omega, by go_num, Hown1.out, Hb1.out⟩
      case measure => simp [intOf]; omega
    · have z0 : z < 0 := by have := Hz.out; omega
      have hk' : k = size := by omega
      have hstr : ∀ W, Own W w.heap.size 5 u5 (vbytes ((be size n).take k)) → (convert 64 9 u5).run Try.prog W = .ok (.string (str (be size n))) W := by
        intro W h
        rw [hk', List.take_of_length_le (by rw [be_length]; omega)] at h
        exact Own.string Try.underlying_bytes Try.underlying_u8 Try.underlying_str h
      have hs1 := hstr _ Hown.out
      clear hk' hstr
      go_wp2
      go_ret
      exact ⟨rfl, Hb.out⟩
end Go.Proofs.Ytgbnkoeidejhfaa
