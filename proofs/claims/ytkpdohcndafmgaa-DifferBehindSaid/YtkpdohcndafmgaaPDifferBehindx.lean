/- For each Go function that is told here: a Lean function, and that the call comes to just its answers, wherever it has one. Written by a program of this session (wip/mkprint.py). -/
import Derived.Test.YtkpdohcndafmgaaPDifferBehindx0
import Derived.Test.YtkpdohcndafmgaaPDifferBehindx1
import Derived.Test.YtkpdohcndafmgaaPDifferBehindx2
import Derived.Test.YtkpdohcndafmgaaPDifferBehindx3
import Derived.Test.YtkpdohcndafmgaaPDifferBehindx4
import Derived.Test.YtkpdohcndafmgaaPDifferBehindx5
import Derived.Test.YtkpdohcndafmgaaPDifferBehindx6
import Derived.Test.YtkpdohcndafmgaaPDifferBehindx7
import Derived.Test.YtkpdohcndafmgaaPDifferBehindx8
import Derived.Test.YtkpdohcndafmgaaPDifferBehindx9
import Derived.Test.YtkpdohcndafmgaaPDifferBehindx10
namespace Go.Proofs.Ytkpdohcndafmgaa.PDifferBehind
open Go.RowKit Go.Proofs.YtkpdohcndafmgaaW.PrintWords Go.Proofs.YtkpdohcndafmgaaW.PrintLast Go.Proofs.YtkpdohcndafmgaaW.PrintMore
attribute [local go_sem] max2_int min2_int max_two min_two max_three min_three max_four min_four   -- for this text's walks alone
set_option linter.unusedVariables false
set_option linter.unusedSimpArgs false

end Go.Proofs.Ytkpdohcndafmgaa.PDifferBehind
