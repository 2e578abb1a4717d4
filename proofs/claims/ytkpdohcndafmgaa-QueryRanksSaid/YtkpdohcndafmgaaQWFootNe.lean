/- Words of the printed walks (begun as a starting text: what print.sh writes; the theorems that this claim names). -/
import Derived.Test.YtkpdohcndafmgaaQWN
/-! ### 52. A row that stays read whatever happens to a block (a set of blocks) doesn't lie there -/
namespace Go.Proofs.YtkpdohcndafmgaaW.PrintWords
open Go.RowKit
namespace Kd
section
variable {α : Type} {d : Kd α} {W : World} {g n : Nat} {S ok : Nat → Prop} {A : Option Addr} {ad : Addr} {xs : List α}
end
end Kd
end Go.Proofs.YtkpdohcndafmgaaW.PrintWords
