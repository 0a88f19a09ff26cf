import Derived.Test.YtgbnkoeidejhfaaDigL
namespace Go.Proofs.Ytgbnkoeidejhfaa
open Go.RowKit

set_option maxRecDepth 100000 in
set_option maxHeartbeats 400000 in
theorem macTop_any (k s : List UInt8) (w : World) (hk : k.length ≤ 1099511627776) (hs : s.length ≤ 549755813888) :
    Calls Try.prog 13 #[.string (str k), .string (str s)] w fun e w' => e = .returned (.string (str (hmac k s))) ∧ Below w.heap.size w w' := by
  go_enter Try.func13, Try.ntmps13
  go_wp2_with (go_at_call 31; refine (mac_any w.heap.size k s _ (.inl (Blk.of _ _ _ _ rfl)) hk hs).mono ?_; rintro e w1 ⟨rfl, hM1, hg1⟩; have Hg1 := Lib.hid hg1; clear hM1 hg1)
  go_ret
  exact ⟨rfl, below_of_grown ((Below.refl _ _).alloc (Nat.le_refl _) _) Hg1.out (Nat.le_refl _)⟩
theorem hmac_empty : (hmac [] []).take 4 = [182, 19, 103, 154] := by decide +kernel
end Go.Proofs.Ytgbnkoeidejhfaa
