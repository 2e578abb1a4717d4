/- For each Go function that is told here: a Lean function, and that the call comes to just its answers, wherever it has one. Written by a program of this session (wip/mkprint.py). -/
import Derived.Test.YtcbbadnhacklpaaPImagePacksx0
import Derived.Test.YtcbbadnhacklpaaPImagePacksx1
import Derived.Test.YtcbbadnhacklpaaPImagePacksx2
import Derived.Test.YtcbbadnhacklpaaPImagePacksx3
import Derived.Test.YtcbbadnhacklpaaPImagePacksx4
import Derived.Test.YtcbbadnhacklpaaPImagePacksx5
import Derived.Test.YtcbbadnhacklpaaPImagePacksx6
import Derived.Test.YtcbbadnhacklpaaPImagePacksx7
import Derived.Test.YtcbbadnhacklpaaPImagePacksx8
import Derived.Test.YtcbbadnhacklpaaPImagePacksx9
namespace Go.Proofs.Ytcbbadnhacklpaa.PImagePacks
open Go.RowKit Go.Proofs.YtcbbadnhacklpaaW.PrintWords Go.Proofs.YtcbbadnhacklpaaW.PrintLast Go.Proofs.YtcbbadnhacklpaaW.PrintMore
attribute [local go_sem] max2_int min2_int max_two min_two max_three min_three max_four min_four   -- for this text's walks alone
set_option linter.unusedVariables false
set_option linter.unusedSimpArgs false

end Go.Proofs.Ytcbbadnhacklpaa.PImagePacks
