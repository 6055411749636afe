/-
An append of one slice to another of a second slice type with the same elements: the words' law for one type, turned. Conditions: as each theorem states them.
-/
import Derived.Test.YtaenjbhhpdmhgaaWMore
import Derived.Test.YtaenjbhhpdmhgaaWWords
set_option linter.unusedVariables false
set_option linter.unusedSimpArgs false
namespace Go.Proofs.YtaenjbhhpdmhgaaW.PrintWords
open Go.RowKit
namespace Kd
section
variable {P : Program} {ops : Array Oper} {rest : List Oper} {o : Oper} {a : Act} {Q : Exit → Act → World → Prop} {Kc : Act → World → Prop} {α : Type}
end
end Kd
end Go.Proofs.YtaenjbhhpdmhgaaW.PrintWords
