/- Contracts of functions of the given program (lines by a program of this session's own). -/
import Derived.Test.YtlhfafklpchihaaDoorMAllx0
import Derived.Test.YtlhfafklpchihaaDoorMAllx1
import Derived.Test.YtlhfafklpchihaaDoorMAllx2
import Derived.Test.YtlhfafklpchihaaDoorMAllx3
import Derived.Test.YtlhfafklpchihaaDoorMAllx4
import Derived.Test.YtlhfafklpchihaaDoorMAllx5
import Derived.Test.YtlhfafklpchihaaDoorMAllx6
import Derived.Test.YtlhfafklpchihaaDoorMAllx7
namespace Go.Proofs.YtlhfafklpchihaaDoor.MAll
open Go.RowKit Go.Proofs.YtlhfafklpchihaaDoorW.PrintWords Go.Proofs.YtlhfafklpchihaaDoorW.PrintLast Go.Proofs.YtlhfafklpchihaaDoorW.PrintMore
attribute [local go_sem] max2_int min2_int max_two min_two max_three min_three max_four min_four   -- for this text's walks alone
set_option linter.unusedVariables false
set_option linter.unusedSimpArgs false

end Go.Proofs.YtlhfafklpchihaaDoor.MAll
