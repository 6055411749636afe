/-
How the arguments of BufferPush are read, and its plain statement. Conditions: as stated.
-/
import Derived.Test.YtkeaacglaolgpaaPBufferPushx2
import Derived.Test.YtkeaacglaolgpaaOpens
import Derived.KernelRfl
set_option linter.unusedVariables false
namespace Go.Proofs.Ytkeaacglaolgpaa.PBufferPush
open Go.RowKit Go.Proofs.YtkeaacglaolgpaaW.PrintWords Go.Proofs.YtkeaacglaolgpaaW.PrintLast Go.Proofs.YtkeaacglaolgpaaW.PrintMore
def wf26 (x : S26) : Prop := (Lit.int .i64 x.f0).wf = true ∧ (Lit.int .u64 x.f1).wf = true
theorem o26 : Opens.Opens Try.prog 26 k26 wf26 :=
  Opens.imp (Opens.iso (Opens.struct Try.underlying26 (by kernel_rfl) (Opens.cons (Opens.int Try.underlying3 (by kernel_rfl)) rfl (Opens.last (Opens.int Try.underlying24 (by kernel_rfl)) rfl rfl))) (fun x : S26 => (x.f0, x.f1)) (fun p => ⟨p.1, p.2⟩) (fun _ => rfl)) (fun _ h => h)
/-- The plain statement. -/
def tautochronelaw22_BufferPush.PureR : Prop := ∀ (l0 : List S26) (a1 : Int) (a2 : Int), l0.length ≤ maxLen → l0.length * 16 ≤ 140737488351232 → (∀ x ∈ l0, wf26 x) → (Lit.int .i64 a1).wf = true → (Lit.int .u64 a2).wf = true → ∃ k, tautochronelaw22_BufferPush.f k l0 a1 a2 = some true
end Go.Proofs.Ytkeaacglaolgpaa.PBufferPush
