-- printed by a program of this session, made after the kit's own printer
import Derived.Test.YtfnckgpfooilmaaPCrox0
import Derived.Test.YtfnckgpfooilmaaPCrox1
import Derived.Test.YtfnckgpfooilmaaPCrox2
import Derived.Test.YtfnckgpfooilmaaPCrox3
namespace Go.Proofs.Ytfnckgpfooilmaa.PCro
open Go.RowKit Go.Proofs.YtfnckgpfooilmaaW.PrintWords Go.Proofs.YtfnckgpfooilmaaW.PrintLast Go.Proofs.YtfnckgpfooilmaaW.PrintMore
attribute [local go_sem] max2_int min2_int max_two min_two max_three min_three max_four min_four   -- for this text's walks alone
set_option linter.unusedVariables false
set_option linter.unusedSimpArgs false

end Go.Proofs.Ytfnckgpfooilmaa.PCro
