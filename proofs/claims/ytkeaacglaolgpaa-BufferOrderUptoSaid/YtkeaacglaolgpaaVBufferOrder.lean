/-
The plain statement of BufferOrder where what came in is of bulk at most 1048576: slices' lengths and strings' sizes together. Conditions: as stated.
-/
import Derived.Test.YtkeaacglaolgpaaPBufferOrderx3
namespace Go.Proofs.Ytkeaacglaolgpaa.PBufferOrder
open Go.RowKit Go.Proofs.YtkeaacglaolgpaaW.PrintWords Go.Proofs.YtkeaacglaolgpaaW.PrintLast Go.Proofs.YtkeaacglaolgpaaW.PrintMore
def tautochronelaw22_BufferOrder.PureUpto : Prop := ∀ (l0 : List Int) (l1 : List Int), l0.length ≤ maxLen → l0.length * 1 ≤ 140737488351232 → (∀ x ∈ l0, (Lit.int .u8 x).wf = true) → l1.length ≤ maxLen → l1.length * 8 ≤ 140737488351232 → (∀ x ∈ l1, (Lit.int .u64 x).wf = true) → l0.length + l1.length ≤ 1048576 → ∃ k, tautochronelaw22_BufferOrder.f k l0 l1 = some true
end Go.Proofs.Ytkeaacglaolgpaa.PBufferOrder
