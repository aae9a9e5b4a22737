/- Each theorem here says that a call of one Go function ends with what the plain function of that name answers (printed by a program of this session); a law's row says that the law returns true for every input. No condition. -/
import Derived.Test.YtaoepeiadhdbaaaDoorProg
import Derived.Below
import Derived.Deep.Draws
import Derived.Deep.AppendLies
import Derived.Maps.AppendAt
import Derived.OwnWalk
import Derived.Laws.BytesArg
import Derived.Laws.MakeOwn
import Derived.Laws.OwnMore
import Derived.Deep.OwnRows
import Derived.Tactics
import Derived.Lib.ConvBytes
import Derived.Laws.Slices
import Derived.WalkKit
import Derived.KernelRfl
import Derived.RowKit3
import Derived.Deep.LoopGhost
import Derived.Deep.QuietTactic
import Derived.BigQuiet
import Derived.WideLaws
import Derived.Deep.DeepCutAuto
import Derived.Deep.CutBlock
import Derived.Deep.RegionHeld3
import Derived.Laws.Rows
import Derived.Lib.AppendStr
import Derived.ArgAppend
import Derived.Laws.IdiomCopy
import Derived.OrdersHeld
import Derived.Laws.BitsLemmas
import Derived.RowKit
import Derived.Test.YtaoepeiadhdbaaaDoorWWords
import Derived.Test.YtaoepeiadhdbaaaDoorWLast
import Derived.Test.YtaoepeiadhdbaaaDoorWTab
import Derived.Test.YtaoepeiadhdbaaaDoorWFour
import Derived.Test.YtaoepeiadhdbaaaDoorWQPut
import Derived.Test.YtaoepeiadhdbaaaDoorWApart
import Derived.Test.YtaoepeiadhdbaaaDoorWArr
import Derived.Test.YtaoepeiadhdbaaaDoorWZeros
import Derived.Test.YtaoepeiadhdbaaaDoorWFoot
import Derived.Test.YtaoepeiadhdbaaaDoorWKept
import Derived.Test.YtaoepeiadhdbaaaDoorWShare
import Derived.Test.YtaoepeiadhdbaaaDoorWN
import Derived.Test.YtaoepeiadhdbaaaDoorWFootNe
import Derived.Test.YtaoepeiadhdbaaaDoorWAt
import Derived.Test.YtaoepeiadhdbaaaDoorWEqStruct
import Derived.Test.YtaoepeiadhdbaaaDoorWRepsOne
import Derived.Test.YtaoepeiadhdbaaaDoorWInv
import Derived.Test.YtaoepeiadhdbaaaDoorWInvWords
import Derived.Test.YtaoepeiadhdbaaaDoorWGuard
import Derived.Test.YtaoepeiadhdbaaaDoorWNEv
import Derived.Test.YtaoepeiadhdbaaaDoorWMore
namespace Go.Proofs.YtaoepeiadhdbaaaDoor.P
open Go.RowKit Go.Proofs.YtaoepeiadhdbaaaDoorW.PrintWords Go.Proofs.YtaoepeiadhdbaaaDoorW.PrintLast Go.Proofs.YtaoepeiadhdbaaaDoorW.PrintMore
attribute [local go_sem] max2_int min2_int max_two min_two max_three min_three max_four min_four   -- for this text's walks alone
set_option linter.unusedVariables false
set_option linter.unusedSimpArgs false



def errW : Option Int → Value
  | none => .nilIface
  | some c => .iface 0 (.int .i64 c)
theorem errW_none : errW none = .nilIface := rfl
theorem errW_some (c : Int) : errW (some c) = .iface 0 (.int .i64 c) := rfl

-- the values' own types

end Go.Proofs.YtaoepeiadhdbaaaDoor.P
