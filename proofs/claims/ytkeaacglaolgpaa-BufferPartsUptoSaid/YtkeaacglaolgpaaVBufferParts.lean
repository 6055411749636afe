/-
How the arguments of BufferParts are read, and its plain statement where what came in is of bulk at most 1048576. Conditions: as stated.
-/
import Derived.Test.YtkeaacglaolgpaaPBufferPartsx3
import Derived.Test.YtkeaacglaolgpaaOpens
import Derived.KernelRfl
set_option linter.unusedVariables false
namespace Go.Proofs.Ytkeaacglaolgpaa.PBufferParts
open Go.RowKit Go.Proofs.YtkeaacglaolgpaaW.PrintWords Go.Proofs.YtkeaacglaolgpaaW.PrintLast Go.Proofs.YtkeaacglaolgpaaW.PrintMore
def wf26 (x : S26) : Prop := (Lit.int .i64 x.f0).wf = true ∧ (Lit.int .u64 x.f1).wf = true
theorem o26 : Opens.Opens Try.prog 26 k26 wf26 :=
  Opens.imp (Opens.iso (Opens.struct Try.underlying26 (by kernel_rfl) (Opens.cons (Opens.int Try.underlying3 (by kernel_rfl)) rfl (Opens.last (Opens.int Try.underlying24 (by kernel_rfl)) rfl rfl))) (fun x : S26 => (x.f0, x.f1)) (fun p => ⟨p.1, p.2⟩) (fun _ => rfl)) (fun _ h => h)
/-- The plain statement. -/
def tautochronelaw22_BufferParts.PureR : Prop := ∀ (l0 : List S26) (l1 : List S26) (l2 : List Int), l0.length ≤ maxLen → l0.length * 16 ≤ 140737488351232 → (∀ x ∈ l0, wf26 x) → l1.length ≤ maxLen → l1.length * 16 ≤ 140737488351232 → (∀ x ∈ l1, wf26 x) → l2.length ≤ maxLen → l2.length * 8 ≤ 140737488351232 → (∀ x ∈ l2, (Lit.int .u64 x).wf = true) → l0.length + l1.length + l2.length ≤ 1048576 → ∃ k, tautochronelaw22_BufferParts.f k l0 l1 l2 = some true
end Go.Proofs.Ytkeaacglaolgpaa.PBufferParts
