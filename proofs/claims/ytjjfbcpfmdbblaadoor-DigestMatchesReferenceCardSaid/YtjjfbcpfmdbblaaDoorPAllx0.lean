-- Written by myprint.py over the kit's print.py (a printed text of this session's own make).
import Derived.Test.YtjjfbcpfmdbblaaDoorProg
import Derived.Below
import Derived.Deep.Draws
import Derived.Deep.AppendLies
import Derived.Maps.AppendAt
import Derived.OwnWalk
import Derived.Laws.BytesArg
import Derived.Laws.MakeOwn
import Derived.Laws.OwnMore
import Derived.Deep.OwnRows
import Derived.Tactics
import Derived.Lib.ConvBytes
import Derived.Laws.Slices
import Derived.WalkKit
import Derived.KernelRfl
import Derived.RowKit3
import Derived.Deep.LoopGhost
import Derived.Deep.QuietTactic
import Derived.BigQuiet
import Derived.WideLaws
import Derived.Deep.DeepCutAuto
import Derived.Deep.CutBlock
import Derived.Deep.RegionHeld3
import Derived.Laws.Rows
import Derived.Lib.AppendStr
import Derived.ArgAppend
import Derived.Laws.IdiomCopy
import Derived.OrdersHeld
import Derived.Laws.BitsLemmas
import Derived.RowKit
import Derived.Test.YtjjfbcpfmdbblaaDoorWWords
import Derived.Test.YtjjfbcpfmdbblaaDoorWLast
import Derived.Test.YtjjfbcpfmdbblaaDoorWTab
import Derived.Test.YtjjfbcpfmdbblaaDoorWFour
import Derived.Test.YtjjfbcpfmdbblaaDoorWQPut
import Derived.Test.YtjjfbcpfmdbblaaDoorWApart
import Derived.Test.YtjjfbcpfmdbblaaDoorWArr
import Derived.Test.YtjjfbcpfmdbblaaDoorWZeros
import Derived.Test.YtjjfbcpfmdbblaaDoorWFoot
import Derived.Test.YtjjfbcpfmdbblaaDoorWKept
import Derived.Test.YtjjfbcpfmdbblaaDoorWShare
import Derived.Test.YtjjfbcpfmdbblaaDoorWN
import Derived.Test.YtjjfbcpfmdbblaaDoorWFootNe
import Derived.Test.YtjjfbcpfmdbblaaDoorWAt
import Derived.Test.YtjjfbcpfmdbblaaDoorWEqStruct
import Derived.Test.YtjjfbcpfmdbblaaDoorWRepsOne
import Derived.Test.YtjjfbcpfmdbblaaDoorWInv
import Derived.Test.YtjjfbcpfmdbblaaDoorWInvWords
import Derived.Test.YtjjfbcpfmdbblaaDoorWGuard
import Derived.Test.YtjjfbcpfmdbblaaDoorWNEv
import Derived.Test.YtjjfbcpfmdbblaaDoorWMore
import Derived.Test.YtjjfbcpfmdbblaaDoorStubDig
namespace Go.Proofs.YtjjfbcpfmdbblaaDoor.PAll
open Go.Proofs.YtjjfbcpfmdbblaaDoor.Stub Go.Proofs.YtjjfbcpfmdbblaaDoor.DigD
open Go.RowKit Go.Proofs.YtjjfbcpfmdbblaaDoorW.PrintWords Go.Proofs.YtjjfbcpfmdbblaaDoorW.PrintLast Go.Proofs.YtjjfbcpfmdbblaaDoorW.PrintMore
attribute [local go_sem] max2_int min2_int max_two min_two max_three min_three max_four min_four   -- for this text's walks alone
set_option linter.unusedVariables false
set_option linter.unusedSimpArgs false



def errW : Option Int → Value
  | none => .nilIface
  | some c => .iface 0 (.int .i64 c)
theorem errW_none : errW none = .nilIface := rfl
theorem errW_some (c : Int) : errW (some c) = .iface 0 (.int .i64 c) := rfl

theorem info5 : (Tryd.prog.info? 5).map (fun i => (i.zero, i.size, i.bytes)) = some (some (.int .u8 0), 1, 1) := by kernel_rfl
-- the values' own types

end Go.Proofs.YtjjfbcpfmdbblaaDoor.PAll
