-- Laid by a program of this session (printall.sh) out of the translation: contracts of the functions that several laws reach. Lean checks it.
import Derived.Test.YtglmilgphbflaaaQx0
import Derived.Test.YtglmilgphbflaaaQx1
import Derived.Test.YtglmilgphbflaaaQx2
namespace Go.Proofs.Ytglmilgphbflaaa.Q
open Go.RowKit Go.Proofs.YtglmilgphbflaaaW.PrintWords Go.Proofs.YtglmilgphbflaaaW.PrintLast Go.Proofs.YtglmilgphbflaaaW.PrintMore
attribute [local go_sem] max2_int min2_int max_two min_two max_three min_three max_four min_four   -- for this text's walks alone
set_option linter.unusedVariables false
set_option linter.unusedSimpArgs false

end Go.Proofs.Ytglmilgphbflaaa.Q
