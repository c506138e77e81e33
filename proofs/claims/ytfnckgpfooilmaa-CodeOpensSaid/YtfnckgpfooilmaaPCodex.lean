-- printed by a program of this session, made after the kit's own printer
import Derived.Test.YtfnckgpfooilmaaPCodex0
import Derived.Test.YtfnckgpfooilmaaPCodex1
import Derived.Test.YtfnckgpfooilmaaPCodex2
import Derived.Test.YtfnckgpfooilmaaPCodex3
import Derived.Test.YtfnckgpfooilmaaPCodex4
import Derived.Test.YtfnckgpfooilmaaPCodex5
import Derived.Test.YtfnckgpfooilmaaPCodex6
import Derived.Test.YtfnckgpfooilmaaPCodex7
namespace Go.Proofs.Ytfnckgpfooilmaa.PCode
open Go.RowKit Go.Proofs.YtfnckgpfooilmaaW.PrintWords Go.Proofs.YtfnckgpfooilmaaW.PrintLast Go.Proofs.YtfnckgpfooilmaaW.PrintMore
attribute [local go_sem] max2_int min2_int max_two min_two max_three min_three max_four min_four   -- for this text's walks alone
set_option linter.unusedVariables false
set_option linter.unusedSimpArgs false

end Go.Proofs.Ytfnckgpfooilmaa.PCode
