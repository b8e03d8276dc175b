-- laid by a program of this session's (wip/tools/myprint.py) over the translation
import Derived.Test.YthialihgamlljaaG0
import Derived.Test.YthialihgamlljaaG1
import Derived.Test.YthialihgamlljaaG2
import Derived.Test.YthialihgamlljaaG3
import Derived.Test.YthialihgamlljaaG4
import Derived.Test.YthialihgamlljaaG5
import Derived.Test.YthialihgamlljaaG6
import Derived.Test.YthialihgamlljaaG7
namespace Go.Proofs.Ythialihgamlljaa.G
open Go.RowKit Go.Proofs.YthialihgamlljaaW.PrintWords Go.Proofs.YthialihgamlljaaW.PrintLast Go.Proofs.YthialihgamlljaaW.PrintMore
attribute [local go_sem] max2_int min2_int max_two min_two max_three min_three max_four min_four   -- for this text's walks alone
set_option linter.unusedVariables false
set_option linter.unusedSimpArgs false

end Go.Proofs.Ythialihgamlljaa.G
