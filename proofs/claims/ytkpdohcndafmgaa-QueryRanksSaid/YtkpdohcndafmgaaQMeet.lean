/- Going through two lists, key by key: what a step makes of each. -/
import Derived.Test.YtkpdohcndafmgaaQWMore
namespace Go.Proofs.Ytkpdohcndafmgaa.Meet
/-- n steps through two lists whose keys rise. -/
def meetS {α β γ : Type} (c : α → β → Int) (st : Option α → Option β → List γ → List γ) : Nat → List α → List β → List γ → List γ
  | 0, _, _, o => o
  | _ + 1, [], [], o => o
  | n + 1, x :: a, [], o => meetS c st n a [] (st (some x) none o)
  | n + 1, [], y :: b, o => meetS c st n [] b (st none (some y) o)
  | n + 1, x :: a, y :: b, o => if c x y < 0 then meetS c st n a (y :: b) (st (some x) none o) else if c x y > 0 then meetS c st n (x :: a) b (st none (some y) o) else meetS c st n a b (st (some x) (some y) o)
end Go.Proofs.Ytkpdohcndafmgaa.Meet
