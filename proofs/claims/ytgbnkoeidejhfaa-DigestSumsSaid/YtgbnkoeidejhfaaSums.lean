import Derived.Test.YtgbnkoeidejhfaaRefSum
import Derived.Test.YtgbnkoeidejhfaaDigJ
namespace Go.Proofs.Ytgbnkoeidejhfaa
open Go.RowKit

set_option maxRecDepth 100000 in
set_option maxHeartbeats 1000000 in
theorem sums_walk (s : ByteArray) (w : World) : Calls Try.prog 3 #[.string s] w fun e w' => e = .returned (.bool true) ∧ Below w.heap.size w w' := by
  obtain ⟨l, rfl⟩ : ∃ l, s = str l := ⟨s.data.toList, (str_of s).symm⟩
  have hsz := str_size l
  by_cases h : 5000 < l.length
  · have hb : decide ((5000 : Int) < (l.length : Int)) = true := decide_eq_true (by omega)
    go_enter Try.func3, Try.ntmps3
    go_wp2_with (go_at_call 10; refine (awake_any _).mono ?_; rintro e w1 ⟨rfl, hb1⟩; have Hb1 := Lib.hid hb1; clear hb1)
    go_ret
    exact ⟨rfl, Hb1.out⟩
  · have hb : decide ((5000 : Int) < (l.length : Int)) = false := decide_eq_false (by omega)
    go_enter Try.func3, Try.ntmps3
    go_wp2_with (first
      | (go_at_call 10; refine (awake_any _).mono ?_; rintro e w1 ⟨rfl, hb1⟩; have Hb1 := Lib.hid hb1; clear hb1)
      | (go_at_call 11; refine (sumTop_any l _ (by omega)).mono ?_; rintro e w2 ⟨rfl, hb2⟩; have Hb2 := Lib.hid (below_trans Hb1.out hb2); clear hb2)
      | (go_at_call 12; refine (refSum_any l _ (by omega)).mono ?_; rintro e w3 ⟨rfl, hb3⟩; have Hb3 := Lib.hid (below_trans Hb2.out hb3); clear hb3))
    go_ret
    exact ⟨by simp, Hb3.out⟩
end Go.Proofs.Ytgbnkoeidejhfaa
