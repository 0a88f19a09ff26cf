/- A block that is known whole, as a row. -/
import Derived.Test.YtgbnkoeidejhfaaOwn
namespace Go.Proofs.Ytgbnkoeidejhfaa
open Go.RowKit
theorem Row.of_blk {w : World} {b : Nat} {T : TypeId} {cs : List Value} (h : Blk w b T cs) (n : Nat) (hn : cs.length = n) (hm : n ≤ maxLen) : Row w b T 1 (.slice (some ⟨b, 0, none⟩) n n) n cs := by
  refine ⟨by omega, .inr ⟨b, n, cs.toArray, (0, 0), rfl, Nat.le_refl _, h, fun o _ => by simp, Nat.le_refl _, hm, by simp [hn], ?_⟩⟩
  simp [List.take_of_length_le (show cs.length ≤ n by omega)]

end Go.Proofs.Ytgbnkoeidejhfaa
