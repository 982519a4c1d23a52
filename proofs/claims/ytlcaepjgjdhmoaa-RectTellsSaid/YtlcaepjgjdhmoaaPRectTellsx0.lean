-- Written by a program of this session over the print of the kit (functions marked FOREIGN are proved by this session).
import Derived.Test.YtlcaepjgjdhmoaaProg
import Derived.Test.YtlcaepjgjdhmoaaKit
import Derived.Below
import Derived.Deep.Draws
import Derived.Deep.AppendLies
import Derived.Maps.AppendAt
import Derived.OwnWalk
import Derived.Laws.BytesArg
import Derived.Laws.MakeOwn
import Derived.Laws.OwnMore
import Derived.Deep.OwnRows
import Derived.Tactics
import Derived.Lib.ConvBytes
import Derived.Laws.Slices
import Derived.WalkKit
import Derived.KernelRfl
import Derived.RowKit3
import Derived.Deep.LoopGhost
import Derived.Deep.QuietTactic
import Derived.BigQuiet
import Derived.WideLaws
import Derived.Deep.DeepCutAuto
import Derived.Deep.CutBlock
import Derived.Deep.RegionHeld3
import Derived.Laws.Rows
import Derived.Lib.AppendStr
import Derived.ArgAppend
import Derived.Laws.IdiomCopy
import Derived.OrdersHeld
import Derived.Laws.BitsLemmas
import Derived.RowKit
import Derived.Test.YtlcaepjgjdhmoaaWWords
import Derived.Test.YtlcaepjgjdhmoaaWLast
import Derived.Test.YtlcaepjgjdhmoaaWTab
import Derived.Test.YtlcaepjgjdhmoaaWFour
import Derived.Test.YtlcaepjgjdhmoaaWQPut
import Derived.Test.YtlcaepjgjdhmoaaWApart
import Derived.Test.YtlcaepjgjdhmoaaWArr
import Derived.Test.YtlcaepjgjdhmoaaWZeros
import Derived.Test.YtlcaepjgjdhmoaaWFoot
import Derived.Test.YtlcaepjgjdhmoaaWKept
import Derived.Test.YtlcaepjgjdhmoaaWShare
import Derived.Test.YtlcaepjgjdhmoaaWN
import Derived.Test.YtlcaepjgjdhmoaaWFootNe
import Derived.Test.YtlcaepjgjdhmoaaWAt
import Derived.Test.YtlcaepjgjdhmoaaWEqStruct
import Derived.Test.YtlcaepjgjdhmoaaWRepsOne
import Derived.Test.YtlcaepjgjdhmoaaWInv
import Derived.Test.YtlcaepjgjdhmoaaWInvWords
import Derived.Test.YtlcaepjgjdhmoaaWGuard
import Derived.Test.YtlcaepjgjdhmoaaWNEv
import Derived.Test.YtlcaepjgjdhmoaaWMore
namespace Go.Proofs.Ytlcaepjgjdhmoaa.PRectTells
open Go.RowKit Go.Proofs.YtlcaepjgjdhmoaaW.PrintWords Go.Proofs.YtlcaepjgjdhmoaaW.PrintLast Go.Proofs.YtlcaepjgjdhmoaaW.PrintMore
attribute [local go_sem] max2_int min2_int max_two min_two max_three min_three max_four min_four   -- for this text's walks alone
set_option linter.unusedVariables false
set_option linter.unusedSimpArgs false



def errW : Option Int → Value
  | none => .nilIface
  | some c => .iface 0 (.int .i64 c)
theorem errW_none : errW none = .nilIface := rfl
theorem errW_some (c : Int) : errW (some c) = .iface 0 (.int .i64 c) := rfl

-- the values' own types

end Go.Proofs.Ytlcaepjgjdhmoaa.PRectTells
