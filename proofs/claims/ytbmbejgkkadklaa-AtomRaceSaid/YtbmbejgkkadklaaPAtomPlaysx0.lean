-- Written by a program of this session over the print of the kit (functions marked FOREIGN are proved by this session).
import Derived.Test.YtbmbejgkkadklaaProg
import Derived.Below
import Derived.Deep.Draws
import Derived.Deep.AppendLies
import Derived.Maps.AppendAt
import Derived.OwnWalk
import Derived.Laws.BytesArg
import Derived.Laws.MakeOwn
import Derived.Laws.OwnMore
import Derived.Deep.OwnRows
import Derived.Tactics
import Derived.Lib.ConvBytes
import Derived.Laws.Slices
import Derived.WalkKit
import Derived.KernelRfl
import Derived.RowKit3
import Derived.Deep.LoopGhost
import Derived.Deep.QuietTactic
import Derived.BigQuiet
import Derived.WideLaws
import Derived.Deep.DeepCutAuto
import Derived.Deep.CutBlock
import Derived.Deep.RegionHeld3
import Derived.Laws.Rows
import Derived.Lib.AppendStr
import Derived.ArgAppend
import Derived.Laws.IdiomCopy
import Derived.OrdersHeld
import Derived.Laws.BitsLemmas
import Derived.RowKit
import Derived.Test.YtbmbejgkkadklaaWWords
import Derived.Test.YtbmbejgkkadklaaWLast
import Derived.Test.YtbmbejgkkadklaaWTab
import Derived.Test.YtbmbejgkkadklaaWFour
import Derived.Test.YtbmbejgkkadklaaWQPut
import Derived.Test.YtbmbejgkkadklaaWApart
import Derived.Test.YtbmbejgkkadklaaWArr
import Derived.Test.YtbmbejgkkadklaaWZeros
import Derived.Test.YtbmbejgkkadklaaWFoot
import Derived.Test.YtbmbejgkkadklaaWKept
import Derived.Test.YtbmbejgkkadklaaWShare
import Derived.Test.YtbmbejgkkadklaaWN
import Derived.Test.YtbmbejgkkadklaaWFootNe
import Derived.Test.YtbmbejgkkadklaaWAt
import Derived.Test.YtbmbejgkkadklaaWEqStruct
import Derived.Test.YtbmbejgkkadklaaWRepsOne
import Derived.Test.YtbmbejgkkadklaaWInv
import Derived.Test.YtbmbejgkkadklaaWInvWords
import Derived.Test.YtbmbejgkkadklaaWGuard
import Derived.Test.YtbmbejgkkadklaaWNEv
import Derived.Test.YtbmbejgkkadklaaWMore
namespace Go.Proofs.Ytbmbejgkkadklaa.PAtomPlays
open Go.RowKit Go.Proofs.YtbmbejgkkadklaaW.PrintWords Go.Proofs.YtbmbejgkkadklaaW.PrintLast Go.Proofs.YtbmbejgkkadklaaW.PrintMore
attribute [local go_sem] max2_int min2_int max_two min_two max_three min_three max_four min_four   -- for this text's walks alone
set_option linter.unusedVariables false
set_option linter.unusedSimpArgs false



def errW : Option Int → Value
  | none => .nilIface
  | some c => .iface 0 (.int .i64 c)
theorem errW_none : errW none = .nilIface := rfl
theorem errW_some (c : Int) : errW (some c) = .iface 0 (.int .i64 c) := rfl

-- the values' own types

end Go.Proofs.Ytbmbejgkkadklaa.PAtomPlays
