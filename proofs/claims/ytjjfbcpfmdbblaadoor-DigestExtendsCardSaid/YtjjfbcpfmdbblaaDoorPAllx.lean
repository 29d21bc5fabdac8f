-- Written by myprint.py over the kit's print.py (a printed text of this session's own make).
import Derived.Test.YtjjfbcpfmdbblaaDoorPAllx0
import Derived.Test.YtjjfbcpfmdbblaaDoorPAllx1
import Derived.Test.YtjjfbcpfmdbblaaDoorPAllx2
import Derived.Test.YtjjfbcpfmdbblaaDoorPAllx3
import Derived.Test.YtjjfbcpfmdbblaaDoorPAllx4
import Derived.Test.YtjjfbcpfmdbblaaDoorPAllx5
namespace Go.Proofs.YtjjfbcpfmdbblaaDoor.PAll
open Go.Proofs.YtjjfbcpfmdbblaaDoor.Stub Go.Proofs.YtjjfbcpfmdbblaaDoor.DigD
open Go.RowKit Go.Proofs.YtjjfbcpfmdbblaaDoorW.PrintWords Go.Proofs.YtjjfbcpfmdbblaaDoorW.PrintLast Go.Proofs.YtjjfbcpfmdbblaaDoorW.PrintMore
attribute [local go_sem] max2_int min2_int max_two min_two max_three min_three max_four min_four   -- for this text's walks alone
set_option linter.unusedVariables false
set_option linter.unusedSimpArgs false

end Go.Proofs.YtjjfbcpfmdbblaaDoor.PAll
