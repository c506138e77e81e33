-- printed by a program of this session, made after the kit's own printer
import Derived.Test.YtiklcnlehlpdaaaPOptx0
import Derived.Test.YtiklcnlehlpdaaaPOptx1
import Derived.Test.YtiklcnlehlpdaaaPOptx2
import Derived.Test.YtiklcnlehlpdaaaPOptx3
import Derived.Test.YtiklcnlehlpdaaaPOptx4
import Derived.Test.YtiklcnlehlpdaaaPOptx5
import Derived.Test.YtiklcnlehlpdaaaPOptx6
namespace Go.Proofs.Ytiklcnlehlpdaaa.POpt
open Go.RowKit Go.Proofs.YtiklcnlehlpdaaaW.PrintWords Go.Proofs.YtiklcnlehlpdaaaW.PrintLast Go.Proofs.YtiklcnlehlpdaaaW.PrintMore
attribute [local go_sem] max2_int min2_int max_two min_two max_three min_three max_four min_four   -- for this text's walks alone
set_option linter.unusedVariables false
set_option linter.unusedSimpArgs false

end Go.Proofs.Ytiklcnlehlpdaaa.POpt
