/-
For LexSigns: what the Go functions that it reaches compute, as plain Lean functions, and the walks that show it; conditions as each theorem states them. (Written by a program of this session on the kit's print.)
-/
-- PRINTED by print.py (a twelfth state) out of the translation. Not trusted: Lean checks it.
import Derived.Test.YtmklkkpeolnjbabDoorProg
import Derived.Below
import Derived.Deep.Draws
import Derived.Deep.AppendLies
import Derived.Maps.AppendAt
import Derived.OwnWalk
import Derived.Laws.BytesArg
import Derived.Laws.MakeOwn
import Derived.Laws.OwnMore
import Derived.Deep.OwnRows
import Derived.Tactics
import Derived.Lib.ConvBytes
import Derived.Laws.Slices
import Derived.WalkKit
import Derived.KernelRfl
import Derived.RowKit3
import Derived.Deep.LoopGhost
import Derived.Deep.QuietTactic
import Derived.BigQuiet
import Derived.WideLaws
import Derived.Deep.DeepCutAuto
import Derived.Deep.CutBlock
import Derived.Deep.RegionHeld3
import Derived.Laws.Rows
import Derived.Lib.AppendStr
import Derived.ArgAppend
import Derived.Laws.IdiomCopy
import Derived.OrdersHeld
import Derived.Laws.BitsLemmas
import Derived.RowKit
import Derived.Test.YtmklkkpeolnjbabDoorWWords
import Derived.Test.YtmklkkpeolnjbabDoorWLast
import Derived.Test.YtmklkkpeolnjbabDoorWTab
import Derived.Test.YtmklkkpeolnjbabDoorWFour
import Derived.Test.YtmklkkpeolnjbabDoorWQPut
import Derived.Test.YtmklkkpeolnjbabDoorWApart
import Derived.Test.YtmklkkpeolnjbabDoorWArr
import Derived.Test.YtmklkkpeolnjbabDoorWZeros
import Derived.Test.YtmklkkpeolnjbabDoorWFoot
import Derived.Test.YtmklkkpeolnjbabDoorWKept
import Derived.Test.YtmklkkpeolnjbabDoorWShare
import Derived.Test.YtmklkkpeolnjbabDoorWN
import Derived.Test.YtmklkkpeolnjbabDoorWFootNe
import Derived.Test.YtmklkkpeolnjbabDoorWAt
import Derived.Test.YtmklkkpeolnjbabDoorWEqStruct
import Derived.Test.YtmklkkpeolnjbabDoorWRepsOne
import Derived.Test.YtmklkkpeolnjbabDoorWInv
import Derived.Test.YtmklkkpeolnjbabDoorWInvWords
import Derived.Test.YtmklkkpeolnjbabDoorWGuard
import Derived.Test.YtmklkkpeolnjbabDoorWNEv
import Derived.Test.YtmklkkpeolnjbabDoorWMore
import Derived.Test.YtmklkkpeolnjbabDoorWords2
import Derived.RegionTactic
import Derived.ChangeAlike
import Derived.BigRegion
namespace Go.Proofs.YtmklkkpeolnjbabDoor.PLexCut
open Go.RowKit Go.Proofs.YtmklkkpeolnjbabDoorW.PrintWords Go.Proofs.YtmklkkpeolnjbabDoorW.PrintLast Go.Proofs.YtmklkkpeolnjbabDoorW.PrintMore
attribute [local go_sem] max2_int min2_int max_two min_two max_three min_three max_four min_four   -- for this text's walks alone
set_option linter.unusedVariables false
set_option linter.unusedSimpArgs false



def errW : Option Int → Value
  | none => .nilIface
  | some c => .iface 34 (.int .i64 c)
theorem errW_none : errW none = .nilIface := rfl
theorem errW_some (c : Int) : errW (some c) = .iface 34 (.int .i64 c) := rfl

-- the values' own types

end Go.Proofs.YtmklkkpeolnjbabDoor.PLexCut
