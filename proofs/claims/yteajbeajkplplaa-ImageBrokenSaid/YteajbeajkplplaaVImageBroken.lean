/-
How the arguments of ImageBroken are read, and its plain statement. Conditions: as stated.
-/
import Derived.Test.YteajbeajkplplaaPImageBytesx0
import Derived.Test.YteajbeajkplplaaOpens
import Derived.KernelRfl
set_option linter.unusedVariables false
namespace Go.Proofs.Yteajbeajkplplaa.PImageBytes
open Go.RowKit Go.Proofs.YteajbeajkplplaaW.PrintWords Go.Proofs.YteajbeajkplplaaW.PrintLast Go.Proofs.YteajbeajkplplaaW.PrintMore
def wf46 (x : S46) : Prop := (Lit.int .i64 x.f0).wf = true ∧ (Lit.int .i64 x.f1).wf = true ∧ (Lit.int .i64 x.f2).wf = true ∧ (Lit.int .i64 x.f3).wf = true ∧ (Lit.int .i64 x.f4).wf = true ∧ (Lit.int .i64 x.f5).wf = true ∧ (Lit.int .u64 x.f6).wf = true ∧ (Lit.int .i64 x.f7).wf = true
theorem o46 : Opens.Opens Try.prog 46 k46 wf46 :=
  Opens.imp (Opens.iso (Opens.struct Try.underlying46 (by kernel_rfl) (Opens.cons (Opens.int Try.underlying42 (by kernel_rfl)) rfl (Opens.cons (Opens.int Try.underlying43 (by kernel_rfl)) rfl (Opens.cons (Opens.int Try.underlying3 (by kernel_rfl)) rfl (Opens.cons (Opens.int Try.underlying3 (by kernel_rfl)) rfl (Opens.cons (Opens.int Try.underlying3 (by kernel_rfl)) rfl (Opens.cons (Opens.int Try.underlying3 (by kernel_rfl)) rfl (Opens.cons (Opens.int Try.underlying44 (by kernel_rfl)) rfl (Opens.last (Opens.int Try.underlying3 (by kernel_rfl)) rfl rfl))))))))) (fun x : S46 => (x.f0, x.f1, x.f2, x.f3, x.f4, x.f5, x.f6, x.f7)) (fun p => ⟨p.1, p.2.1, p.2.2.1, p.2.2.2.1, p.2.2.2.2.1, p.2.2.2.2.2.1, p.2.2.2.2.2.2.1, p.2.2.2.2.2.2.2⟩) (fun _ => rfl)) (fun _ h => h)
end Go.Proofs.Yteajbeajkplplaa.PImageBytes
