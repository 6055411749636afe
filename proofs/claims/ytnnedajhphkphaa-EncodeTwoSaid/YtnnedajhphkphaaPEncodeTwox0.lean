/-
For EncodeTwo: what the Go functions that it reaches compute, as plain Lean functions, and the walks that show it; conditions as each theorem states them. (Written by a program of this session on the kit's print.)
-/
-- PRINTED by print.py (a twelfth state) out of the translation. Not trusted: Lean checks it.
import Derived.Test.YtnnedajhphkphaaProg
import Derived.Below
import Derived.Deep.Draws
import Derived.Deep.AppendLies
import Derived.Maps.AppendAt
import Derived.OwnWalk
import Derived.Laws.BytesArg
import Derived.Laws.MakeOwn
import Derived.Laws.OwnMore
import Derived.Deep.OwnRows
import Derived.Tactics
import Derived.Lib.ConvBytes
import Derived.Laws.Slices
import Derived.WalkKit
import Derived.KernelRfl
import Derived.RowKit3
import Derived.Deep.LoopGhost
import Derived.Deep.QuietTactic
import Derived.BigQuiet
import Derived.WideLaws
import Derived.Deep.DeepCutAuto
import Derived.Deep.CutBlock
import Derived.Deep.RegionHeld3
import Derived.Laws.Rows
import Derived.Lib.AppendStr
import Derived.ArgAppend
import Derived.Laws.IdiomCopy
import Derived.OrdersHeld
import Derived.Laws.BitsLemmas
import Derived.RowKit
import Derived.Test.YtnnedajhphkphaaWWords
import Derived.Test.YtnnedajhphkphaaWLast
import Derived.Test.YtnnedajhphkphaaWTab
import Derived.Test.YtnnedajhphkphaaWFour
import Derived.Test.YtnnedajhphkphaaWQPut
import Derived.Test.YtnnedajhphkphaaWApart
import Derived.Test.YtnnedajhphkphaaWArr
import Derived.Test.YtnnedajhphkphaaWZeros
import Derived.Test.YtnnedajhphkphaaWFoot
import Derived.Test.YtnnedajhphkphaaWKept
import Derived.Test.YtnnedajhphkphaaWShare
import Derived.Test.YtnnedajhphkphaaWN
import Derived.Test.YtnnedajhphkphaaWFootNe
import Derived.Test.YtnnedajhphkphaaWAt
import Derived.Test.YtnnedajhphkphaaWEqStruct
import Derived.Test.YtnnedajhphkphaaWRepsOne
import Derived.Test.YtnnedajhphkphaaWInv
import Derived.Test.YtnnedajhphkphaaWInvWords
import Derived.Test.YtnnedajhphkphaaWGuard
import Derived.Test.YtnnedajhphkphaaWNEv
import Derived.Test.YtnnedajhphkphaaWMore
import Derived.Test.YtnnedajhphkphaaWords2
import Derived.RegionTactic
import Derived.ChangeAlike
import Derived.BigRegion
namespace Go.Proofs.Ytnnedajhphkphaa.PEncodeTwo
open Go.RowKit Go.Proofs.YtnnedajhphkphaaW.PrintWords Go.Proofs.YtnnedajhphkphaaW.PrintLast Go.Proofs.YtnnedajhphkphaaW.PrintMore
attribute [local go_sem] max2_int min2_int max_two min_two max_three min_three max_four min_four   -- for this text's walks alone
set_option linter.unusedVariables false
set_option linter.unusedSimpArgs false



def errW : Option Int → Value
  | none => .nilIface
  | some c => .iface 0 (.int .i64 c)
theorem errW_none : errW none = .nilIface := rfl
theorem errW_some (c : Int) : errW (some c) = .iface 0 (.int .i64 c) := rfl

theorem info3 : (Try.prog.info? 3).map (fun i => (i.zero, i.size, i.bytes)) = some (some (.int .i64 0), 1, 8) := by kernel_rfl
theorem info5 : (Try.prog.info? 5).map (fun i => (i.zero, i.size, i.bytes)) = some (some (.int .u8 0), 1, 1) := by kernel_rfl
-- the values' own types

end Go.Proofs.Ytnnedajhphkphaa.PEncodeTwo
