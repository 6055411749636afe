/-
How the arguments of DeadSmall are read, and its plain statement. Conditions: as stated.
-/
import Derived.Test.YtpibifgllbfgmaaPDeadOfx0
import Derived.Test.YtpibifgllbfgmaaOpens
import Derived.KernelRfl
set_option linter.unusedVariables false
namespace Go.Proofs.Ytpibifgllbfgmaa.PDeadOf
open Go.RowKit Go.Proofs.YtpibifgllbfgmaaW.PrintWords Go.Proofs.YtpibifgllbfgmaaW.PrintLast Go.Proofs.YtpibifgllbfgmaaW.PrintMore
def wf31 (x : S31) : Prop := (Lit.int .i64 x.f0).wf = true ∧ (Lit.int .i64 x.f1).wf = true ∧ (Lit.int .i64 x.f2).wf = true ∧ (Lit.int .i64 x.f3).wf = true ∧ (Lit.int .i64 x.f4).wf = true ∧ (Lit.int .i64 x.f5).wf = true ∧ (Lit.int .u64 x.f6).wf = true ∧ (Lit.int .i64 x.f7).wf = true
theorem o31 : Opens.Opens Try.prog 31 k31 wf31 :=
  Opens.imp (Opens.iso (Opens.struct Try.underlying31 (by kernel_rfl) (Opens.cons (Opens.int Try.underlying27 (by kernel_rfl)) rfl (Opens.cons (Opens.int Try.underlying28 (by kernel_rfl)) rfl (Opens.cons (Opens.int Try.underlying3 (by kernel_rfl)) rfl (Opens.cons (Opens.int Try.underlying3 (by kernel_rfl)) rfl (Opens.cons (Opens.int Try.underlying3 (by kernel_rfl)) rfl (Opens.cons (Opens.int Try.underlying3 (by kernel_rfl)) rfl (Opens.cons (Opens.int Try.underlying29 (by kernel_rfl)) rfl (Opens.last (Opens.int Try.underlying3 (by kernel_rfl)) rfl rfl))))))))) (fun x : S31 => (x.f0, x.f1, x.f2, x.f3, x.f4, x.f5, x.f6, x.f7)) (fun p => ⟨p.1, p.2.1, p.2.2.1, p.2.2.2.1, p.2.2.2.2.1, p.2.2.2.2.2.1, p.2.2.2.2.2.2.1, p.2.2.2.2.2.2.2⟩) (fun _ => rfl)) (fun _ h => h)
end Go.Proofs.Ytpibifgllbfgmaa.PDeadOf
