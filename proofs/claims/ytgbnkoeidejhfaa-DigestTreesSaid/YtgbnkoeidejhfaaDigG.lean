import Derived.Test.YtgbnkoeidejhfaaDigF
namespace Go.Proofs.Ytgbnkoeidejhfaa
open Go.RowKit

/-- Bounded: what is summed takes up to 2^40 bytes. -/
abbrev SumLim : Nat := 1099511627776

set_option maxRecDepth 100000 in
set_option maxHeartbeats 400000 in
theorem sumTop_any (l : List UInt8) (w : World) (hl : l.length ≤ 1099511627776) :
    Calls Try.prog 11 #[.string (str l)] w fun e w' => e = .returned (.string (str (sha l))) ∧ Below w.heap.size w w' := by
  go_enter Try.func11, Try.ntmps11
  go_wp2_with (go_at_call 27; refine (sum_any w.heap.size (str l) _ (.inl (Blk.of _ _ _ _ rfl)) (by rw [str_size]; exact hl)).mono ?_; rintro e w1 ⟨rfl, hM1, hg1⟩; have Hg1 := Lib.hid hg1; clear hM1 hg1; rw [str_list])
  go_ret
  exact ⟨rfl, below_of_grown ((Below.refl _ _).alloc (Nat.le_refl _) _) Hg1.out (Nat.le_refl _)⟩

set_option maxRecDepth 100000 in
set_option maxHeartbeats 400000 in
theorem bytes_any (n size : Nat) (w : World) (h1 : 1 ≤ size) (h2 : size ≤ 8) :
    Calls Try.prog 29 #[.int .u64 (n : Int), .int .i64 (size : Int)] w fun e w' => e = .returned (.string (str (be size n))) ∧ Below w.heap.size w w' := by
  go_enter Try.func29, Try.ntmps29
  go_wp2
  go_loopw [5, 6] (fun v i wr => ∃ (k : Nat) (z : Int), k ≤ size ∧ z = (size : Int) - 1 - k ∧ i = .int .i64 z ∧ Own wr w.heap.size 5 v (vbytes ((be size n).take k)) ∧ Below w.heap.size w wr) (fun _ i _ => (intOf i + 1).toNat)
  case atStart => exact ⟨0, _, by omega, by simp, rfl, by simpa [vbytes] using Own.nil w w.heap.size 5, Below.refl _ _⟩
  case round =>
    obtain ⟨k, z, hk, hz, rfl, hown, hb⟩ := hrel
    have Hown := Lib.hid hown
    have Hb := Lib.hid hb
    have Hz := Lib.hid hz
    have z1 : z ≤ 7 := by omega
    have z2 : -1 ≤ z := by omega
    clear hown hb hz
    by_cases hlt : k < size
    · have z0 : 0 ≤ z := by have := Hz.out; omega
      have hz8 : (8 * z).toNat = 8 * (size - 1 - k) := by have := Hz.out; omega
      have hl : (vbytes ((be size n).take k)).length = k := by rw [vbytes_length, List.length_take, be_length]; omega
      have hval : (Value.int .u8 ((n : Int) / 2 ^ (8 * z).toNat % 256)) = .int .u8 (((UInt8.ofNat (n / 256 ^ (size - 1 - k))).toNat : Nat) : Int) := by
        rw [hz8, be_val]
      have hstep := be_take_succ size n k hlt
      have Hval := Lib.hid hval
      have Hstep := Lib.hid hstep
      have Hl := Lib.hid hl
      clear hval hstep hz8 hl
      go_wp2_with (at_builtin; go_must (refine ap1 Hown.out Hb.out Try.underlying_bytes Try.info_u8 rfl (by omega) (by rw [Hl.out]; omega) rfl _ _ rfl rfl rfl rfl ?_; intro v1 w1 hown1 hb1 hg1; rw [Hval.out, show ∀ c : UInt8, [Value.int .u8 (c.toNat : Int)] = vbytes [c] from fun _ => rfl, ← vbytes_append, ← Hstep.out] at hown1; have Hown1 := Lib.hid hown1; have Hb1 := Lib.hid hb1; clear hown1 hb1 hg1))
      go_roundw
      case rel => exact ⟨k + 1, z - 1, by omega, by have := Hz.out; push_cast; omega, by go_num, Hown1.out, Hb1.out⟩
      case measure => simp [intOf]; omega
    · have z0 : z < 0 := by have := Hz.out; omega
      have hk' : k = size := by omega
      have hstr : ∀ W, Own W w.heap.size 5 u5 (vbytes ((be size n).take k)) → (convert 64 9 u5).run Try.prog W = .ok (.string (str (be size n))) W := by
        intro W h
        rw [hk', List.take_of_length_le (by rw [be_length]; omega)] at h
        exact Own.string Try.underlying_bytes Try.underlying_u8 Try.underlying_str h
      have hs1 := hstr _ Hown.out
      clear hk' hstr
      go_wp2
      go_ret
      exact ⟨rfl, Hb.out⟩

set_option maxRecDepth 100000 in
set_option maxHeartbeats 400000 in
theorem rturn_any (n : Nat) (x : W32) (z : Int) (hz : z = (n : Int)) (w : World) (h1 : 1 ≤ n) (h2 : n ≤ 31) :
    Calls Try.prog 30 #[v32 x, .int .i64 z] w fun e w' => e = .returned (v32 (x.rotateRight n)) ∧ ∃ m, w' = w.drewN m := by
  subst hz
  have hl := w32_shl x (32 - n)
  have hr := w32_shr x n
  have ho := w32_or (x >>> n) (x <<< (32 - n))
  have hs : (32 : Int) - (n : Int) = ((32 - n : Nat) : Int) := by omega
  have hw : IntKind.i64.wrap ((32 : Int) - (n : Int)) = ((32 - n : Nat) : Int) := by rw [IntWalk.i64_in _ (by omega)]; exact hs
  rw [← rot_eq x n h1 h2, BitVec.or_comm]
  go_enter Try.func30, Try.ntmps30
  go_wp2
  go_quiet (fail)
  go_wp2
  go_ret
  exact ⟨by simp, nq, rfl⟩
end Go.Proofs.Ytgbnkoeidejhfaa
