import Derived.Test.YtflemfibjjognaaJsx0
import Derived.Test.YtflemfibjjognaaJsx1
import Derived.Test.YtflemfibjjognaaJsx2
import Derived.Test.YtflemfibjjognaaJsx3
import Derived.Test.YtflemfibjjognaaJsx4
import Derived.Test.YtflemfibjjognaaJsx5
import Derived.Test.YtflemfibjjognaaJsx6
namespace Go.Proofs.Ytflemfibjjognaa.Js
open Go.RowKit Go.Proofs.YtflemfibjjognaaW.PrintWords Go.Proofs.YtflemfibjjognaaW.PrintLast Go.Proofs.YtflemfibjjognaaW.PrintMore
attribute [local go_sem] max2_int min2_int max_two min_two max_three min_three max_four min_four   -- for this text's walks alone
set_option linter.unusedVariables false
set_option linter.unusedSimpArgs false

end Go.Proofs.Ytflemfibjjognaa.Js
