/- The loops of a body, in their order. -/
import Derived.WalkKit
namespace Go.Proofs.Ytgbnkoeidejhfaa
def loopsOf : Code → List Code
  | .loop c => [c]
  | .seq a b => loopsOf a ++ loopsOf b
  | .block _ c => loopsOf c
  | .scope c => loopsOf c
  | .cond _ a b => loopsOf a ++ loopsOf b
  | _ => []
def nthLoop (c : Code) (n : Nat) : Code := (loopsOf c).getD n .skip
end Go.Proofs.Ytgbnkoeidejhfaa
