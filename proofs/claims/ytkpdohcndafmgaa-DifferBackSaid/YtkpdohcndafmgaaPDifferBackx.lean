/- For each Go function that is told here: a Lean function, and that the call comes to just its answers, wherever it has one. Written by a program of this session (wip/mkprint.py). -/
import Derived.Test.YtkpdohcndafmgaaPDifferBackx0
import Derived.Test.YtkpdohcndafmgaaPDifferBackx1
import Derived.Test.YtkpdohcndafmgaaPDifferBackx2
import Derived.Test.YtkpdohcndafmgaaPDifferBackx3
import Derived.Test.YtkpdohcndafmgaaPDifferBackx4
import Derived.Test.YtkpdohcndafmgaaPDifferBackx5
import Derived.Test.YtkpdohcndafmgaaPDifferBackx6
import Derived.Test.YtkpdohcndafmgaaPDifferBackx7
import Derived.Test.YtkpdohcndafmgaaPDifferBackx8
import Derived.Test.YtkpdohcndafmgaaPDifferBackx9
import Derived.Test.YtkpdohcndafmgaaPDifferBackx10
namespace Go.Proofs.Ytkpdohcndafmgaa.PDifferBack
open Go.RowKit Go.Proofs.YtkpdohcndafmgaaW.PrintWords Go.Proofs.YtkpdohcndafmgaaW.PrintLast Go.Proofs.YtkpdohcndafmgaaW.PrintMore
attribute [local go_sem] max2_int min2_int max_two min_two max_three min_three max_four min_four   -- for this text's walks alone
set_option linter.unusedVariables false
set_option linter.unusedSimpArgs false

end Go.Proofs.Ytkpdohcndafmgaa.PDifferBack
