import Derived.Test.YtgbnkoeidejhfaaDigG
namespace Go.Proofs.Ytgbnkoeidejhfaa
open Go.RowKit

theorem sha_abc : (sha [97, 98, 99]).take 4 = [186, 120, 22, 191] := by decide +kernel

set_option maxRecDepth 100000 in
set_option maxHeartbeats 1000000 in
theorem awake_any (w : World) : Calls Try.prog 10 #[] w fun e w' => e = .returned (.bool true) ∧ Below w.heap.size w w' := by
  have hc : ({ data := #[97, 98, 99] } : ByteArray) = str [97, 98, 99] := rfl
  have hc2 : ({ data := #[186, 120, 22, 191] } : ByteArray) = str [186, 120, 22, 191] := rfl
  obtain ⟨s, hs⟩ : ∃ s, s = sha [97, 98, 99] := ⟨_, rfl⟩
  have hl : s.length = 32 := by rw [hs, sha_length]
  have hsz : (str s).size = 32 := by rw [str_size, hl]
  have ht : (str s).extract 0 4 = str [186, 120, 22, 191] := by rw [str_take, hs, sha_abc]
  have Hs := Lib.hid hs
  clear hs hl
  go_enter Try.func10, Try.ntmps10
  go_wp2_with (go_at_call 11; refine (sumTop_any [97, 98, 99] _ (by simp)).mono ?_; rintro e w1 ⟨rfl, hb1⟩; have Hb1 := Lib.hid hb1; clear hb1; rw [← Hs.out])
  go_ret
  exact ⟨rfl, Hb1.out⟩
end Go.Proofs.Ytgbnkoeidejhfaa
