/-
For ScopeHides: what the Go functions that it reaches compute, as plain Lean functions, and the walks that show it; conditions as each theorem states them. (Written by a program of this session on the kit's print.)
-/
-- PRINTED by print.py (a twelfth state) out of the translation. Not trusted: Lean checks it.
import Derived.Test.YtchgmfdojhbgaaaProg
import Derived.Below
import Derived.Deep.Draws
import Derived.Deep.AppendLies
import Derived.Maps.AppendAt
import Derived.OwnWalk
import Derived.Laws.BytesArg
import Derived.Laws.MakeOwn
import Derived.Laws.OwnMore
import Derived.Deep.OwnRows
import Derived.Tactics
import Derived.Lib.ConvBytes
import Derived.Laws.Slices
import Derived.WalkKit
import Derived.KernelRfl
import Derived.RowKit3
import Derived.Deep.LoopGhost
import Derived.Deep.QuietTactic
import Derived.BigQuiet
import Derived.WideLaws
import Derived.Deep.DeepCutAuto
import Derived.Deep.CutBlock
import Derived.Deep.RegionHeld3
import Derived.Laws.Rows
import Derived.Lib.AppendStr
import Derived.ArgAppend
import Derived.Laws.IdiomCopy
import Derived.OrdersHeld
import Derived.Laws.BitsLemmas
import Derived.RowKit
import Derived.Test.YtchgmfdojhbgaaaWWords
import Derived.Test.YtchgmfdojhbgaaaWLast
import Derived.Test.YtchgmfdojhbgaaaWTab
import Derived.Test.YtchgmfdojhbgaaaWFour
import Derived.Test.YtchgmfdojhbgaaaWQPut
import Derived.Test.YtchgmfdojhbgaaaWApart
import Derived.Test.YtchgmfdojhbgaaaWArr
import Derived.Test.YtchgmfdojhbgaaaWZeros
import Derived.Test.YtchgmfdojhbgaaaWFoot
import Derived.Test.YtchgmfdojhbgaaaWKept
import Derived.Test.YtchgmfdojhbgaaaWShare
import Derived.Test.YtchgmfdojhbgaaaWN
import Derived.Test.YtchgmfdojhbgaaaWFootNe
import Derived.Test.YtchgmfdojhbgaaaWAt
import Derived.Test.YtchgmfdojhbgaaaWEqStruct
import Derived.Test.YtchgmfdojhbgaaaWRepsOne
import Derived.Test.YtchgmfdojhbgaaaWInv
import Derived.Test.YtchgmfdojhbgaaaWInvWords
import Derived.Test.YtchgmfdojhbgaaaWGuard
import Derived.Test.YtchgmfdojhbgaaaWNEv
import Derived.Test.YtchgmfdojhbgaaaWMore
import Derived.Test.YtchgmfdojhbgaaaWords2
import Derived.RegionTactic
import Derived.ChangeAlike
import Derived.BigRegion
namespace Go.Proofs.Ytchgmfdojhbgaaa.PScopeHides
open Go.RowKit Go.Proofs.YtchgmfdojhbgaaaW.PrintWords Go.Proofs.YtchgmfdojhbgaaaW.PrintLast Go.Proofs.YtchgmfdojhbgaaaW.PrintMore
attribute [local go_sem] max2_int min2_int max_two min_two max_three min_three max_four min_four   -- for this text's walks alone
set_option linter.unusedVariables false
set_option linter.unusedSimpArgs false



def errW : Option Int → Value
  | none => .nilIface
  | some c => .iface 0 (.int .i64 c)
theorem errW_none : errW none = .nilIface := rfl
theorem errW_some (c : Int) : errW (some c) = .iface 0 (.int .i64 c) := rfl

-- the values' own types

end Go.Proofs.Ytchgmfdojhbgaaa.PScopeHides
