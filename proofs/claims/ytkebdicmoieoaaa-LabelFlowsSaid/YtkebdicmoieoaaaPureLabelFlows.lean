/-
The statement LabelFlows, of numbers alone: what is Public flows everywhere, what is not only to what is not. Condition: none beyond the statement's own.
-/
import Derived.Test.YtkebdicmoieoaaaPLabelFlowsx1
import Derived.Test.YtkebdicmoieoaaaKit
namespace Go.Proofs.Ytkebdicmoieoaaa.Pure
open Go.RowKit Go.Proofs.Ytkebdicmoieoaaa.PLabelFlows Go.Proofs.YtkebdicmoieoaaaW.PrintWords Go.Proofs.YtkebdicmoieoaaaW.PrintLast Go.Proofs.Ytkebdicmoieoaaa.Kit

theorem awake_some : tautochronelaw02_awake.f 9 = some true := by decide +kernel

theorem LabelFlows : tautochronelaw02_LabelFlows.Pure := by
  intro a b _ _
  refine ⟨9, ?_⟩
  unfold tautochronelaw02_LabelFlows.f
  rw [awake_some]
  simp only [Option.bind_some, if_true, label_Flows.f]
  by_cases h : a = 0 <;> simp [h]

end Go.Proofs.Ytkebdicmoieoaaa.Pure
