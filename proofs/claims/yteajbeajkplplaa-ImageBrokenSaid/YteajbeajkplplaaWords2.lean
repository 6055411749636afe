/-
An append of one slice to another of a second slice type with the same elements: the words' law for one type, turned. Conditions: as each theorem states them.
-/
import Derived.Test.YteajbeajkplplaaWMore
import Derived.Test.YteajbeajkplplaaWWords
set_option linter.unusedVariables false
set_option linter.unusedSimpArgs false
namespace Go.Proofs.YteajbeajkplplaaW.PrintWords
open Go.RowKit
theorem q1_ {α : Type} (l : List α) (i : Nat) (a : α) : l.toArray.setIfInBounds i a = (l.set i a).toArray := List.setIfInBounds_toArray ..
theorem q2_ {α : Type} {xs : List α} {a x : α} : (x :: xs).set 0 a = a :: xs := List.set_cons_zero ..
theorem q3_ {α : Type} {xs : List α} {n : Nat} {a x : α} : (x :: xs).set (n + 1) a = x :: xs.set n a := List.set_cons_succ ..
namespace Kd
section
variable {P : Program} {ops : Array Oper} {rest : List Oper} {o : Oper} {a : Act} {Q : Exit → Act → World → Prop} {Kc : Act → World → Prop} {α : Type}
end
end Kd
end Go.Proofs.YteajbeajkplplaaW.PrintWords
