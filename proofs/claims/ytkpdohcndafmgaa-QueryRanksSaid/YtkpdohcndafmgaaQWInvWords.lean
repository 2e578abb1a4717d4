/- Words of the printed walks (begun as a starting text: what print.sh writes; the theorems that this claim names). -/
import Derived.Test.YtkpdohcndafmgaaQWInv
import Derived.Test.YtkpdohcndafmgaaQWFootNe
namespace Go.Proofs.YtkpdohcndafmgaaW.PrintWords
open Go.RowKit
end Go.Proofs.YtkpdohcndafmgaaW.PrintWords
namespace Go.Proofs.YtkpdohcndafmgaaW.PrintLast
section
variable {ops : Array Oper} {a : Act} {o og : Oper} {g : Nat} {t : Tmp} {u : Bool}
end
end Go.Proofs.YtkpdohcndafmgaaW.PrintLast
