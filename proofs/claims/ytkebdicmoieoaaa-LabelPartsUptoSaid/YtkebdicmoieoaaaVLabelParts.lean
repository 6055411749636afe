/-
The plain statement of LabelParts where what came in is of bulk at most 1048576: slices' lengths and strings' sizes together. Conditions: as stated.
-/
import Derived.Test.YtkebdicmoieoaaaPLabelPartsx1
namespace Go.Proofs.Ytkebdicmoieoaaa.PLabelParts
open Go.RowKit Go.Proofs.YtkebdicmoieoaaaW.PrintWords Go.Proofs.YtkebdicmoieoaaaW.PrintLast Go.Proofs.YtkebdicmoieoaaaW.PrintMore
def tautochronelaw02_LabelParts.PureUpto : Prop := ∀ (l0 : List Int) (l1 : List Int), l0.length ≤ maxLen → l0.length * 8 ≤ 140737488351232 → (∀ x ∈ l0, (Lit.int .i64 x).wf = true) → l1.length ≤ maxLen → l1.length * 8 ≤ 140737488351232 → (∀ x ∈ l1, (Lit.int .i64 x).wf = true) → l0.length + l1.length ≤ 1048576 → ∃ k, tautochronelaw02_LabelParts.f k l0 l1 = some true
end Go.Proofs.Ytkebdicmoieoaaa.PLabelParts
