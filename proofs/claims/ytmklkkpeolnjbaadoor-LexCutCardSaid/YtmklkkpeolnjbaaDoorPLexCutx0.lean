/-
For LexCut: what the Go functions that it reaches compute, as plain Lean functions, and the walks that show it; conditions as each theorem states them. (Written by a program of this session on the kit's print.)
-/
-- PRINTED by print.py (a twelfth state) out of the translation. Not trusted: Lean checks it.
import Derived.Test.YtmklkkpeolnjbaaDoorProg
import Derived.Below
import Derived.Deep.Draws
import Derived.Deep.AppendLies
import Derived.Maps.AppendAt
import Derived.OwnWalk
import Derived.Laws.BytesArg
import Derived.Laws.MakeOwn
import Derived.Laws.OwnMore
import Derived.Deep.OwnRows
import Derived.Tactics
import Derived.Lib.ConvBytes
import Derived.Laws.Slices
import Derived.WalkKit
import Derived.KernelRfl
import Derived.RowKit3
import Derived.Deep.LoopGhost
import Derived.Deep.QuietTactic
import Derived.BigQuiet
import Derived.WideLaws
import Derived.Deep.DeepCutAuto
import Derived.Deep.CutBlock
import Derived.Deep.RegionHeld3
import Derived.Laws.Rows
import Derived.Lib.AppendStr
import Derived.ArgAppend
import Derived.Laws.IdiomCopy
import Derived.OrdersHeld
import Derived.Laws.BitsLemmas
import Derived.RowKit
import Derived.Test.YtmklkkpeolnjbaaDoorWWords
import Derived.Test.YtmklkkpeolnjbaaDoorWLast
import Derived.Test.YtmklkkpeolnjbaaDoorWTab
import Derived.Test.YtmklkkpeolnjbaaDoorWFour
import Derived.Test.YtmklkkpeolnjbaaDoorWQPut
import Derived.Test.YtmklkkpeolnjbaaDoorWApart
import Derived.Test.YtmklkkpeolnjbaaDoorWArr
import Derived.Test.YtmklkkpeolnjbaaDoorWZeros
import Derived.Test.YtmklkkpeolnjbaaDoorWFoot
import Derived.Test.YtmklkkpeolnjbaaDoorWKept
import Derived.Test.YtmklkkpeolnjbaaDoorWShare
import Derived.Test.YtmklkkpeolnjbaaDoorWN
import Derived.Test.YtmklkkpeolnjbaaDoorWFootNe
import Derived.Test.YtmklkkpeolnjbaaDoorWAt
import Derived.Test.YtmklkkpeolnjbaaDoorWEqStruct
import Derived.Test.YtmklkkpeolnjbaaDoorWRepsOne
import Derived.Test.YtmklkkpeolnjbaaDoorWInv
import Derived.Test.YtmklkkpeolnjbaaDoorWInvWords
import Derived.Test.YtmklkkpeolnjbaaDoorWGuard
import Derived.Test.YtmklkkpeolnjbaaDoorWNEv
import Derived.Test.YtmklkkpeolnjbaaDoorWMore
import Derived.Test.YtmklkkpeolnjbaaDoorWords2
import Derived.RegionTactic
import Derived.ChangeAlike
import Derived.BigRegion
namespace Go.Proofs.YtmklkkpeolnjbaaDoor.PLexCut
open Go.RowKit Go.Proofs.YtmklkkpeolnjbaaDoorW.PrintWords Go.Proofs.YtmklkkpeolnjbaaDoorW.PrintLast Go.Proofs.YtmklkkpeolnjbaaDoorW.PrintMore
attribute [local go_sem] max2_int min2_int max_two min_two max_three min_three max_four min_four   -- for this text's walks alone
set_option linter.unusedVariables false
set_option linter.unusedSimpArgs false



def errW : Option Int → Value
  | none => .nilIface
  | some c => .iface 35 (.int .i64 c)
theorem errW_none : errW none = .nilIface := rfl
theorem errW_some (c : Int) : errW (some c) = .iface 35 (.int .i64 c) := rfl

theorem info9 : (Tryd.prog.info? 9).map (fun i => (i.zero, i.size, i.bytes)) = some (some (.string ⟨#[]⟩), 1, 16) := by kernel_rfl
-- the values' own types

end Go.Proofs.YtmklkkpeolnjbaaDoor.PLexCut
