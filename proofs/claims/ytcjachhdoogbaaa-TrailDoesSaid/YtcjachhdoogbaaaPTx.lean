-- Written by a program of this session (the kit's print, some functions given by hand).
import Derived.Test.YtcjachhdoogbaaaPTx0
import Derived.Test.YtcjachhdoogbaaaPTx1
import Derived.Test.YtcjachhdoogbaaaPTx2
import Derived.Test.YtcjachhdoogbaaaPTx3
import Derived.Test.YtcjachhdoogbaaaPTx4
import Derived.Test.YtcjachhdoogbaaaPTx5
import Derived.Test.YtcjachhdoogbaaaPTx6
import Derived.Test.YtcjachhdoogbaaaPTx7
import Derived.Test.YtcjachhdoogbaaaPTx8
namespace Go.Proofs.Ytcjachhdoogbaaa.PT
open Go.RowKit Go.Proofs.YtcjachhdoogbaaaW.PrintWords Go.Proofs.YtcjachhdoogbaaaW.PrintLast Go.Proofs.YtcjachhdoogbaaaW.PrintMore
attribute [local go_sem] max2_int min2_int max_two min_two max_three min_three max_four min_four   -- for this text's walks alone
set_option linter.unusedVariables false
set_option linter.unusedSimpArgs false

end Go.Proofs.Ytcjachhdoogbaaa.PT
