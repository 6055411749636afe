/-
How the arguments of EncodeBack are read, and its plain statement. Conditions: as stated.
-/
import Derived.Test.YtnnedajhphkphaaPEncodeAllx0
import Derived.Test.YtnnedajhphkphaaOpens
import Derived.KernelRfl
set_option linter.unusedVariables false
namespace Go.Proofs.Ytnnedajhphkphaa.PEncodeAll
open Go.RowKit Go.Proofs.YtnnedajhphkphaaW.PrintWords Go.Proofs.YtnnedajhphkphaaW.PrintLast Go.Proofs.YtnnedajhphkphaaW.PrintMore
def wf26 (x : S26) : Prop := (Lit.int .i64 x.f0).wf = true ∧ (Lit.int .i64 x.f1).wf = true ∧ (Lit.int .i64 x.f2).wf = true ∧ (Lit.int .i64 x.f3).wf = true ∧ (Lit.int .i64 x.f4).wf = true ∧ (Lit.int .i64 x.f5).wf = true ∧ (Lit.int .u64 x.f6).wf = true ∧ (Lit.int .i64 x.f7).wf = true
theorem o26 : Opens.Opens Try.prog 26 k26 wf26 :=
  Opens.imp (Opens.iso (Opens.struct Try.underlying26 (by kernel_rfl) (Opens.cons (Opens.int Try.underlying22 (by kernel_rfl)) rfl (Opens.cons (Opens.int Try.underlying23 (by kernel_rfl)) rfl (Opens.cons (Opens.int Try.underlying3 (by kernel_rfl)) rfl (Opens.cons (Opens.int Try.underlying3 (by kernel_rfl)) rfl (Opens.cons (Opens.int Try.underlying3 (by kernel_rfl)) rfl (Opens.cons (Opens.int Try.underlying3 (by kernel_rfl)) rfl (Opens.cons (Opens.int Try.underlying24 (by kernel_rfl)) rfl (Opens.last (Opens.int Try.underlying3 (by kernel_rfl)) rfl rfl))))))))) (fun x : S26 => (x.f0, x.f1, x.f2, x.f3, x.f4, x.f5, x.f6, x.f7)) (fun p => ⟨p.1, p.2.1, p.2.2.1, p.2.2.2.1, p.2.2.2.2.1, p.2.2.2.2.2.1, p.2.2.2.2.2.2.1, p.2.2.2.2.2.2.2⟩) (fun _ => rfl)) (fun _ h => h)
end Go.Proofs.Ytnnedajhphkphaa.PEncodeAll
