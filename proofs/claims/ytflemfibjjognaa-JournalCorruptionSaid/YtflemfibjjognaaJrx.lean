import Derived.Test.YtflemfibjjognaaJrx0
import Derived.Test.YtflemfibjjognaaJrx1
import Derived.Test.YtflemfibjjognaaJrx2
import Derived.Test.YtflemfibjjognaaJrx3
import Derived.Test.YtflemfibjjognaaJrx4
import Derived.Test.YtflemfibjjognaaJrx5
import Derived.Test.YtflemfibjjognaaJrx6
import Derived.Test.YtflemfibjjognaaJrx7
namespace Go.Proofs.Ytflemfibjjognaa.Jr
open Go.RowKit Go.Proofs.YtflemfibjjognaaW.PrintWords Go.Proofs.YtflemfibjjognaaW.PrintLast Go.Proofs.YtflemfibjjognaaW.PrintMore
attribute [local go_sem] max2_int min2_int max_two min_two max_three min_three max_four min_four   -- for this text's walks alone
set_option linter.unusedVariables false
set_option linter.unusedSimpArgs false

end Go.Proofs.Ytflemfibjjognaa.Jr
