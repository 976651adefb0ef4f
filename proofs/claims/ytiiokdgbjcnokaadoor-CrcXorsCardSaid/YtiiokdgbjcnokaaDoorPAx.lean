-- Written by wip/crc/xprint.sh of this session (a scratch copy of the kit's print, turned at ^x of an unsigned number).
import Derived.Test.YtiiokdgbjcnokaaDoorPAx0
import Derived.Test.YtiiokdgbjcnokaaDoorPAx1
import Derived.Test.YtiiokdgbjcnokaaDoorPAx2
namespace Go.Proofs.YtiiokdgbjcnokaaDoor.PA
open Go.RowKit Go.Proofs.YtiiokdgbjcnokaaDoorW.PrintWords Go.Proofs.YtiiokdgbjcnokaaDoorW.PrintLast Go.Proofs.YtiiokdgbjcnokaaDoorW.PrintMore
attribute [local go_sem] max2_int min2_int max_two min_two max_three min_three max_four min_four   -- for this text's walks alone
set_option linter.unusedVariables false
set_option linter.unusedSimpArgs false

end Go.Proofs.YtiiokdgbjcnokaaDoor.PA
