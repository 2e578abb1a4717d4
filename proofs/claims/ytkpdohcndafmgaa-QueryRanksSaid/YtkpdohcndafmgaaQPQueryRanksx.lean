/- For each Go function that is told here: a Lean function, and that the call comes to just its answers, wherever it has one. Written by a program of this session (wip/mkprint.py). -/
import Derived.Test.YtkpdohcndafmgaaQPQueryRanksx0
import Derived.Test.YtkpdohcndafmgaaQPQueryRanksx1
import Derived.Test.YtkpdohcndafmgaaQPQueryRanksx2
import Derived.Test.YtkpdohcndafmgaaQPQueryRanksx3
import Derived.Test.YtkpdohcndafmgaaQPQueryRanksx4
import Derived.Test.YtkpdohcndafmgaaQPQueryRanksx5
import Derived.Test.YtkpdohcndafmgaaQPQueryRanksx6
import Derived.Test.YtkpdohcndafmgaaQPQueryRanksx7
import Derived.Test.YtkpdohcndafmgaaQPQueryRanksx8
import Derived.Test.YtkpdohcndafmgaaQPQueryRanksx9
import Derived.Test.YtkpdohcndafmgaaQPQueryRanksx10
import Derived.Test.YtkpdohcndafmgaaQPQueryRanksx11
import Derived.Test.YtkpdohcndafmgaaQPQueryRanksx12
namespace Go.Proofs.Ytkpdohcndafmgaa.PQueryRanks
open Go.RowKit Go.Proofs.YtkpdohcndafmgaaW.PrintWords Go.Proofs.YtkpdohcndafmgaaW.PrintLast Go.Proofs.YtkpdohcndafmgaaW.PrintMore
attribute [local go_sem] max2_int min2_int max_two min_two max_three min_three max_four min_four   -- for this text's walks alone
set_option linter.unusedVariables false
set_option linter.unusedSimpArgs false

end Go.Proofs.Ytkpdohcndafmgaa.PQueryRanks
