/- Each theorem here says that a call of one Go function ends with what the plain function of that name answers (printed by a program of this session); a law's row says that the law returns true for every input. No condition. -/
import Derived.Test.YtkkadhhmdgbpiaaDoorProg
import Derived.Below
import Derived.Deep.Draws
import Derived.Deep.AppendLies
import Derived.Maps.AppendAt
import Derived.OwnWalk
import Derived.Laws.BytesArg
import Derived.Laws.MakeOwn
import Derived.Laws.OwnMore
import Derived.Deep.OwnRows
import Derived.Tactics
import Derived.Lib.ConvBytes
import Derived.Laws.Slices
import Derived.WalkKit
import Derived.KernelRfl
import Derived.RowKit3
import Derived.Deep.LoopGhost
import Derived.Deep.QuietTactic
import Derived.BigQuiet
import Derived.WideLaws
import Derived.Deep.DeepCutAuto
import Derived.Deep.CutBlock
import Derived.Deep.RegionHeld3
import Derived.Laws.Rows
import Derived.Lib.AppendStr
import Derived.ArgAppend
import Derived.Laws.IdiomCopy
import Derived.OrdersHeld
import Derived.Laws.BitsLemmas
import Derived.RowKit
import Derived.Test.YtkkadhhmdgbpiaaDoorWWords
import Derived.Test.YtkkadhhmdgbpiaaDoorWLast
import Derived.Test.YtkkadhhmdgbpiaaDoorWTab
import Derived.Test.YtkkadhhmdgbpiaaDoorWFour
import Derived.Test.YtkkadhhmdgbpiaaDoorWQPut
import Derived.Test.YtkkadhhmdgbpiaaDoorWApart
import Derived.Test.YtkkadhhmdgbpiaaDoorWArr
import Derived.Test.YtkkadhhmdgbpiaaDoorWZeros
import Derived.Test.YtkkadhhmdgbpiaaDoorWFoot
import Derived.Test.YtkkadhhmdgbpiaaDoorWKept
import Derived.Test.YtkkadhhmdgbpiaaDoorWShare
import Derived.Test.YtkkadhhmdgbpiaaDoorWN
import Derived.Test.YtkkadhhmdgbpiaaDoorWFootNe
import Derived.Test.YtkkadhhmdgbpiaaDoorWAt
import Derived.Test.YtkkadhhmdgbpiaaDoorWEqStruct
import Derived.Test.YtkkadhhmdgbpiaaDoorWRepsOne
import Derived.Test.YtkkadhhmdgbpiaaDoorWInv
import Derived.Test.YtkkadhhmdgbpiaaDoorWInvWords
import Derived.Test.YtkkadhhmdgbpiaaDoorWGuard
import Derived.Test.YtkkadhhmdgbpiaaDoorWNEv
import Derived.Test.YtkkadhhmdgbpiaaDoorWMore
namespace Go.Proofs.YtkkadhhmdgbpiaaDoor.P
open Go.RowKit Go.Proofs.YtkkadhhmdgbpiaaDoorW.PrintWords Go.Proofs.YtkkadhhmdgbpiaaDoorW.PrintLast Go.Proofs.YtkkadhhmdgbpiaaDoorW.PrintMore
attribute [local go_sem] max2_int min2_int max_two min_two max_three min_three max_four min_four   -- for this text's walks alone
set_option linter.unusedVariables false
set_option linter.unusedSimpArgs false



def errW : Option Int → Value
  | none => .nilIface
  | some c => .iface 0 (.int .i64 c)
theorem errW_none : errW none = .nilIface := rfl
theorem errW_some (c : Int) : errW (some c) = .iface 0 (.int .i64 c) := rfl

-- the values' own types

end Go.Proofs.YtkkadhhmdgbpiaaDoor.P
