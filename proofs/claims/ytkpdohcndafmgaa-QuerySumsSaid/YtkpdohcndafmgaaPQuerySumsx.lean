/- For each Go function that is told here: a Lean function, and that the call comes to just its answers, wherever it has one. Written by a program of this session (wip/mkprint.py). -/
import Derived.Test.YtkpdohcndafmgaaPQuerySumsx0
import Derived.Test.YtkpdohcndafmgaaPQuerySumsx1
import Derived.Test.YtkpdohcndafmgaaPQuerySumsx2
import Derived.Test.YtkpdohcndafmgaaPQuerySumsx3
import Derived.Test.YtkpdohcndafmgaaPQuerySumsx4
import Derived.Test.YtkpdohcndafmgaaPQuerySumsx5
import Derived.Test.YtkpdohcndafmgaaPQuerySumsx6
import Derived.Test.YtkpdohcndafmgaaPQuerySumsx7
import Derived.Test.YtkpdohcndafmgaaPQuerySumsx8
namespace Go.Proofs.Ytkpdohcndafmgaa.PQuerySums
open Go.RowKit Go.Proofs.YtkpdohcndafmgaaW.PrintWords Go.Proofs.YtkpdohcndafmgaaW.PrintLast Go.Proofs.YtkpdohcndafmgaaW.PrintMore
attribute [local go_sem] max2_int min2_int max_two min_two max_three min_three max_four min_four   -- for this text's walks alone
set_option linter.unusedVariables false
set_option linter.unusedSimpArgs false

end Go.Proofs.Ytkpdohcndafmgaa.PQuerySums
