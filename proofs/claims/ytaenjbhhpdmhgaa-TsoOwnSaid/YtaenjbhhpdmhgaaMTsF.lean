/-
A step of a thread: (*Machine).Step. Conditions: as each theorem states them.
-/
import Derived.Test.YtaenjbhhpdmhgaaMTsD
set_option linter.unusedVariables false
set_option linter.unusedSimpArgs false
namespace Go.Proofs.Ytaenjbhhpdmhgaa.Tso
open Go.RowKit Go.Proofs.YtaenjbhhpdmhgaaW.PrintWords Go.Proofs.YtaenjbhhpdmhgaaW.PrintLast Go.Proofs.YtaenjbhhpdmhgaaW.PrintMore
open Go.Proofs.Ytaenjbhhpdmhgaa.Kit
open Go.Proofs.Ytaenjbhhpdmhgaa.PTsoScript
theorem prow_of {W : World} {base : Nat} {ok : Nat → Prop} {pv : Value} {ts : List Nat} (h : Kd.R kP 72 W base ok pv ts) : PRow W pv ts := by
  obtain ⟨A, c, rfl, hc, hC⟩ := Kd.R_reads h
  refine ⟨A, c, rfl, hc, hC.2.1, fun k hk => ?_⟩
  obtain ⟨ad, cs, e, _, hK, hcell⟩ := Kd.C_get hC 0 (k : Int) (by omega) (by omega)
  refine ⟨ad, e, ?_⟩
  have hK2 : cs = [.pointer (some ⟨ts.getD (k : Int).toNat 0, 0, none⟩)] := hK
  subst hK2
  have := hcell 0 _ rfl
  simp only [Int.toNat_natCast] at this
  rw [show k * kP.sz + 0 = k from by show k * 1 + 0 = k; omega] at this
  rw [this]
  simp [hk]
/-- What a call of Step leaves. -/
def StepP (w : World) (base mb : Nat) (ts : List Nat) (col : Nat → Nat) (pv : Value) (M' : Mch) (k : Int) (kind place : Int) (hit : Bool) (e : Ending) (w' : World) : Prop :=
  e = .returned (.agg (eArr k kind place hit)) ∧ Keep base mb ts col w w' ∧ ∃ col' cv', (∀ q, q < w.heap.size → col' q = col q) ∧ Mach w' base mb col' ts cv' pv M'
end Go.Proofs.Ytaenjbhhpdmhgaa.Tso
