/- For each Go function that is told here: a Lean function, and that the call comes to just its answers, wherever it has one. Written by a program of this session (wip/mkprint.py). -/
import Derived.Test.YtkpdohcndafmgaaPQueryTurnsx0
import Derived.Test.YtkpdohcndafmgaaPQueryTurnsx1
import Derived.Test.YtkpdohcndafmgaaPQueryTurnsx2
import Derived.Test.YtkpdohcndafmgaaPQueryTurnsx3
import Derived.Test.YtkpdohcndafmgaaPQueryTurnsx4
import Derived.Test.YtkpdohcndafmgaaPQueryTurnsx5
import Derived.Test.YtkpdohcndafmgaaPQueryTurnsx6
import Derived.Test.YtkpdohcndafmgaaPQueryTurnsx7
import Derived.Test.YtkpdohcndafmgaaPQueryTurnsx8
namespace Go.Proofs.Ytkpdohcndafmgaa.PQueryTurns
open Go.RowKit Go.Proofs.YtkpdohcndafmgaaW.PrintWords Go.Proofs.YtkpdohcndafmgaaW.PrintLast Go.Proofs.YtkpdohcndafmgaaW.PrintMore
attribute [local go_sem] max2_int min2_int max_two min_two max_three min_three max_four min_four   -- for this text's walks alone
set_option linter.unusedVariables false
set_option linter.unusedSimpArgs false

end Go.Proofs.Ytkpdohcndafmgaa.PQueryTurns
