/-
How the arguments of EncodeTwo are read, and its plain statement. Conditions: as stated.
-/
import Derived.Test.YtnnedajhphkphaaPEncodeTwox9
import Derived.Test.YtnnedajhphkphaaOpens
import Derived.KernelRfl
set_option linter.unusedVariables false
namespace Go.Proofs.Ytnnedajhphkphaa.PEncodeTwo
open Go.RowKit Go.Proofs.YtnnedajhphkphaaW.PrintWords Go.Proofs.YtnnedajhphkphaaW.PrintLast Go.Proofs.YtnnedajhphkphaaW.PrintMore
structure S26 where
  f0 : Int
  f1 : Int
  f2 : Int
  f3 : Int
  f4 : Int
  f5 : Int
  f6 : Int
  f7 : Int
def k26 : Kd S26 := Kd.iso (Kd.pair (Kd.int .i64) (Kd.pair (Kd.int .i64) (Kd.pair (Kd.int .i64) (Kd.pair (Kd.int .i64) (Kd.pair (Kd.int .i64) (Kd.pair (Kd.int .i64) (Kd.pair (Kd.int .u64) (Kd.int .i64)))))))) (fun x : S26 => (x.f0, x.f1, x.f2, x.f3, x.f4, x.f5, x.f6, x.f7))
theorem k26_open {w : World} {x : S26} {cs : List Value} (h : k26.K w x cs) : cs = [.int .i64 x.f0, .int .i64 x.f1, .int .i64 x.f2, .int .i64 x.f3, .int .i64 x.f4, .int .i64 x.f5, .int .u64 x.f6, .int .i64 x.f7] := by
  obtain ⟨_, _, rfl, rfl, ⟨_, _, rfl, rfl, ⟨_, _, rfl, rfl, ⟨_, _, rfl, rfl, ⟨_, _, rfl, rfl, ⟨_, _, rfl, rfl, ⟨_, _, rfl, rfl, rfl⟩⟩⟩⟩⟩⟩⟩ := h
  exact rfl
def wf26 (x : S26) : Prop := (Lit.int .i64 x.f0).wf = true ∧ (Lit.int .i64 x.f1).wf = true ∧ (Lit.int .i64 x.f2).wf = true ∧ (Lit.int .i64 x.f3).wf = true ∧ (Lit.int .i64 x.f4).wf = true ∧ (Lit.int .i64 x.f5).wf = true ∧ (Lit.int .u64 x.f6).wf = true ∧ (Lit.int .i64 x.f7).wf = true
theorem o26 : Opens.Opens Try.prog 26 k26 wf26 :=
  Opens.imp (Opens.iso (Opens.struct Try.underlying26 (by kernel_rfl) (Opens.cons (Opens.int Try.underlying22 (by kernel_rfl)) rfl (Opens.cons (Opens.int Try.underlying23 (by kernel_rfl)) rfl (Opens.cons (Opens.int Try.underlying3 (by kernel_rfl)) rfl (Opens.cons (Opens.int Try.underlying3 (by kernel_rfl)) rfl (Opens.cons (Opens.int Try.underlying3 (by kernel_rfl)) rfl (Opens.cons (Opens.int Try.underlying3 (by kernel_rfl)) rfl (Opens.cons (Opens.int Try.underlying24 (by kernel_rfl)) rfl (Opens.last (Opens.int Try.underlying3 (by kernel_rfl)) rfl rfl))))))))) (fun x : S26 => (x.f0, x.f1, x.f2, x.f3, x.f4, x.f5, x.f6, x.f7)) (fun p => ⟨p.1, p.2.1, p.2.2.1, p.2.2.2.1, p.2.2.2.2.1, p.2.2.2.2.2.1, p.2.2.2.2.2.2.1, p.2.2.2.2.2.2.2⟩) (fun _ => rfl)) (fun _ h => h)
/-- The plain statement. -/
def tautochronelaw20_EncodeTwo.PureR : Prop := ∀ (x0 : S26) (x1 : S26), wf26 x0 → wf26 x1 → ∃ k, tautochronelaw20_EncodeTwo.f k x0.f0 x0.f1 x0.f2 x0.f3 x0.f4 x0.f5 x0.f6 x0.f7 x1.f0 x1.f1 x1.f2 x1.f3 x1.f4 x1.f5 x1.f6 x1.f7 = some true
end Go.Proofs.Ytnnedajhphkphaa.PEncodeTwo
