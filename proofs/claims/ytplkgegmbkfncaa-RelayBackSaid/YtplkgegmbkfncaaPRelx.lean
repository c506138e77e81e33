-- printed by a program of this session, made after the kit's own printer
import Derived.Test.YtplkgegmbkfncaaPRelx0
import Derived.Test.YtplkgegmbkfncaaPRelx1
import Derived.Test.YtplkgegmbkfncaaPRelx2
import Derived.Test.YtplkgegmbkfncaaPRelx3
import Derived.Test.YtplkgegmbkfncaaPRelx4
import Derived.Test.YtplkgegmbkfncaaPRelx5
import Derived.Test.YtplkgegmbkfncaaPRelx6
import Derived.Test.YtplkgegmbkfncaaPRelx7
namespace Go.Proofs.Ytplkgegmbkfncaa.PRel
open Go.RowKit Go.Proofs.YtplkgegmbkfncaaW.PrintWords Go.Proofs.YtplkgegmbkfncaaW.PrintLast Go.Proofs.YtplkgegmbkfncaaW.PrintMore
attribute [local go_sem] max2_int min2_int max_two min_two max_three min_three max_four min_four   -- for this text's walks alone
set_option linter.unusedVariables false
set_option linter.unusedSimpArgs false

end Go.Proofs.Ytplkgegmbkfncaa.PRel
