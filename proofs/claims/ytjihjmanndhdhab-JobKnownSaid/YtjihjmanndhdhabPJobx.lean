-- printed by a program of this session: the kit's print with contracts of this session's own for some functions
import Derived.Test.YtjihjmanndhdhabPJobx0
import Derived.Test.YtjihjmanndhdhabPJobx1
import Derived.Test.YtjihjmanndhdhabPJobx2
import Derived.Test.YtjihjmanndhdhabPJobx3
import Derived.Test.YtjihjmanndhdhabPJobx4
namespace Go.Proofs.Ytjihjmanndhdhab.PJob
open Go.RowKit Go.Proofs.YtjihjmanndhdhabW.PrintWords Go.Proofs.YtjihjmanndhdhabW.PrintLast Go.Proofs.YtjihjmanndhdhabW.PrintMore
attribute [local go_sem] max2_int min2_int max_two min_two max_three min_three max_four min_four   -- for this text's walks alone
set_option linter.unusedVariables false
set_option linter.unusedSimpArgs false

end Go.Proofs.Ytjihjmanndhdhab.PJob
