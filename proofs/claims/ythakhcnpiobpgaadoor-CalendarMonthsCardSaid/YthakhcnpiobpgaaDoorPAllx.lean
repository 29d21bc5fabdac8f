-- Written by myprint.py over the kit's print.py (a printed text of this session's own make).
import Derived.Test.YthakhcnpiobpgaaDoorPAllx0
import Derived.Test.YthakhcnpiobpgaaDoorPAllx1
import Derived.Test.YthakhcnpiobpgaaDoorPAllx2
import Derived.Test.YthakhcnpiobpgaaDoorPAllx3
import Derived.Test.YthakhcnpiobpgaaDoorPAllx4
import Derived.Test.YthakhcnpiobpgaaDoorPAllx5
import Derived.Test.YthakhcnpiobpgaaDoorPAllx6
import Derived.Test.YthakhcnpiobpgaaDoorPAllx7
import Derived.Test.YthakhcnpiobpgaaDoorPAllx8
namespace Go.Proofs.YthakhcnpiobpgaaDoor.PAll
open Go.Proofs.YthakhcnpiobpgaaDoor.Stub Go.Proofs.YthakhcnpiobpgaaDoor.CalA
open Go.RowKit Go.Proofs.YthakhcnpiobpgaaDoorW.PrintWords Go.Proofs.YthakhcnpiobpgaaDoorW.PrintLast Go.Proofs.YthakhcnpiobpgaaDoorW.PrintMore
attribute [local go_sem] max2_int min2_int max_two min_two max_three min_three max_four min_four   -- for this text's walks alone
set_option linter.unusedVariables false
set_option linter.unusedSimpArgs false

end Go.Proofs.YthakhcnpiobpgaaDoor.PAll
