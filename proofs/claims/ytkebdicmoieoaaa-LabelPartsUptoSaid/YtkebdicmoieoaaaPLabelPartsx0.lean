/-
For LabelParts: what the Go functions that it reaches compute, as plain Lean functions, and the walks that show it; conditions as each theorem states them. (Written by a program of this session on the kit's print.)
-/
-- PRINTED by print.py (a twelfth state) out of the translation. Not trusted: Lean checks it.
import Derived.Test.YtkebdicmoieoaaaProg
import Derived.Below
import Derived.Deep.Draws
import Derived.Deep.AppendLies
import Derived.Maps.AppendAt
import Derived.OwnWalk
import Derived.Laws.BytesArg
import Derived.Laws.MakeOwn
import Derived.Laws.OwnMore
import Derived.Deep.OwnRows
import Derived.Tactics
import Derived.Lib.ConvBytes
import Derived.Laws.Slices
import Derived.WalkKit
import Derived.KernelRfl
import Derived.RowKit3
import Derived.Deep.LoopGhost
import Derived.Deep.QuietTactic
import Derived.BigQuiet
import Derived.WideLaws
import Derived.Deep.DeepCutAuto
import Derived.Deep.CutBlock
import Derived.Deep.RegionHeld3
import Derived.Laws.Rows
import Derived.Lib.AppendStr
import Derived.ArgAppend
import Derived.Laws.IdiomCopy
import Derived.OrdersHeld
import Derived.Laws.BitsLemmas
import Derived.RowKit
import Derived.Test.YtkebdicmoieoaaaWWords
import Derived.Test.YtkebdicmoieoaaaWLast
import Derived.Test.YtkebdicmoieoaaaWTab
import Derived.Test.YtkebdicmoieoaaaWFour
import Derived.Test.YtkebdicmoieoaaaWQPut
import Derived.Test.YtkebdicmoieoaaaWApart
import Derived.Test.YtkebdicmoieoaaaWArr
import Derived.Test.YtkebdicmoieoaaaWZeros
import Derived.Test.YtkebdicmoieoaaaWFoot
import Derived.Test.YtkebdicmoieoaaaWKept
import Derived.Test.YtkebdicmoieoaaaWShare
import Derived.Test.YtkebdicmoieoaaaWN
import Derived.Test.YtkebdicmoieoaaaWFootNe
import Derived.Test.YtkebdicmoieoaaaWAt
import Derived.Test.YtkebdicmoieoaaaWEqStruct
import Derived.Test.YtkebdicmoieoaaaWRepsOne
import Derived.Test.YtkebdicmoieoaaaWInv
import Derived.Test.YtkebdicmoieoaaaWInvWords
import Derived.Test.YtkebdicmoieoaaaWGuard
import Derived.Test.YtkebdicmoieoaaaWNEv
import Derived.Test.YtkebdicmoieoaaaWMore
namespace Go.Proofs.Ytkebdicmoieoaaa.PLabelParts
open Go.RowKit Go.Proofs.YtkebdicmoieoaaaW.PrintWords Go.Proofs.YtkebdicmoieoaaaW.PrintLast Go.Proofs.YtkebdicmoieoaaaW.PrintMore
attribute [local go_sem] max2_int min2_int max_two min_two max_three min_three max_four min_four   -- for this text's walks alone
set_option linter.unusedVariables false
set_option linter.unusedSimpArgs false



def errW : Option Int → Value
  | none => .nilIface
  | some c => .iface 0 (.int .i64 c)
theorem errW_none : errW none = .nilIface := rfl
theorem errW_some (c : Int) : errW (some c) = .iface 0 (.int .i64 c) := rfl

theorem info24 : (Try.prog.info? 24).map (fun i => (i.zero, i.size, i.bytes)) = some (some (.int .i64 0), 1, 8) := by kernel_rfl
-- the values' own types

end Go.Proofs.Ytkebdicmoieoaaa.PLabelParts
