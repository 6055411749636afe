/-
The statement EncodeTwo: the law returns true for every input, and each argument reads as it did. Conditions: none beyond the given row's.
-/
import Derived.Test.YtnnedajhphkphaaRows
import Derived.Test.YtnnedajhphkphaaVEncodeTwo
import Derived.Test.YtnnedajhphkphaaPureEncodeTwo
import Derived.Test.YtnnedajhphkphaaOpens
import Derived.WalkKit
import Derived.ProofKit
import Derived.OpenShut
import Derived.ShutString
import Derived.ChangeOld
import Derived.Below
import Derived.SizedLaws
import Derived.Lib.SmallJoins
namespace Go.Proofs.Ytnnedajhphkphaa.encodeTwoRow
open Go.ChangeShapes Go.WideShapes Go.ChangeAt Go.RowKit Go.Joins Go.Proofs.YtnnedajhphkphaaW.PrintWords
open Go.Proofs.Ytnnedajhphkphaa.PEncodeTwo
open Go.ChangeMaps (open_string shut_string)
set_option linter.unusedVariables false
set_option linter.unusedSimpArgs false
theorem own : ownKnob Try.prog.godebug = none := by kernel_rfl
theorem laidOut : laidOutB Try.prog = true := by kernel_rfl
set_option maxRecDepth 100000 in
theorem lifted (os : Os) (started : os.Started) (H : Type) (enc : TypeId × Value → H) :
    ReturnsInHanded {} Try.checked os 5 .any (Rows.encodeTwoSpec.pre6 enc Try.prog Try.f5 Rows.encodeTwoRow.domain false) (Rows.encodeTwoSpec.post enc Try.prog Try.f5 false true false false) := by
  refine returnsInHanded_of_change_sized (C := Try.checked) own started (by kernel_rfl) Try.func5
    (ChangeSpec.witness6 (enc := enc) (C := Try.checked) false ⟨#[], #[.agg #[.int .i64 0, .int .i64 0, .int .i64 0, .int .i64 0, .int .i64 0, .int .i64 0, .int .u64 0, .int .i64 0], .agg #[.int .i64 0, .int .i64 0, .int .i64 0, .int .i64 0, .int .i64 0, .int .i64 0, .int .u64 0, .int .i64 0]], []⟩ 8 (by kernel_rfl) (by kernel_rfl) (by kernel_rfl) (by kernel_rfl)) ?_
  intro W base args ds gs before hval0 hW hcnd hsz0 _
  have hsz : (DataW.weightsEach Try.prog (Try.f5.params.toList ++ Rows.encodeTwoSpec.plain.varTypes Try.prog) (ds ++ gs)).all (· ≤ reachBytes) = true := hsz0
  have hval : ∀ (j : Nat) t v, Try.f5.params[j]? = some t → args[j]? = some v → Value.okWide Try.prog W .any base t v := hval0
  have hW' := hW
  obtain ⟨p, q, hA0, hV, rfl, hfz, hnd⟩ := hW
  have hA : DataW.TrodAll enc Try.prog W 0 (fun _ => true) true Try.f5.params.toList args.toList ds p := hA0
  rw [Try.params5] at hA hval hsz
  obtain ⟨v0, vs0, d0, ds0, p0, q0, hargs, rfl, rfl, h0, r0⟩ := trodAll_cons hA
  obtain ⟨v1, vs1, d1, ds1, p1, q1, rfl, rfl, rfl, h1, r1⟩ := trodAll_cons r0
  obtain ⟨rfl, rfl, rfl⟩ := trodAll_nil r1
  obtain rfl : args = #[v0, v1] := by cases args; simp_all
  obtain ⟨rfl, rfl⟩ := trodVars_none hV
  obtain ⟨cs0, rfl, hsz0⟩ := okWide_struct Try.underlying26 (hval 0 26 v0 rfl rfl)
  have k0 := h0
  have lt0 : ∀ x ∈ p0, x.block < W.heap.size := by obtain ⟨m, hm⟩ := k0; exact DataW.trod_lt m _ _ _ hm
  obtain ⟨x0, hC0, hw0⟩ : ∃ x : S26, k26.K W x cs0.toList ∧ wf26 x := by
    obtain ⟨fuel, hf⟩ := h0
    exact (o26).2 enc W _ _ _ fuel _ _ (by simpa [Value.cells] using hf)
  have e0_ := k26_open hC0
  obtain ⟨cl0⟩ := cs0
  simp only at e0_
  subst e0_
  obtain ⟨cs1, rfl, hsz1⟩ := okWide_struct Try.underlying26 (hval 1 26 v1 rfl rfl)
  have k1 := h1
  have lt1 : ∀ x ∈ p1, x.block < W.heap.size := by obtain ⟨m, hm⟩ := k1; exact DataW.trod_lt m _ _ _ hm
  obtain ⟨x1, hC1, hw1⟩ : ∃ x : S26, k26.K W x cs1.toList ∧ wf26 x := by
    obtain ⟨fuel, hf⟩ := h1
    exact (o26).2 enc W _ _ _ fuel _ _ (by simpa [Value.cells] using hf)
  have e1_ := k26_open hC1
  obtain ⟨cl1⟩ := cs1
  simp only at e1_
  subst e1_
  clear hA0 hval0 hsz0 hsz
  obtain ⟨k, h⟩ := Pure.EncodeTwo x0 x1 hw0 hw1
  refine (tautochronelaw20_EncodeTwo.calls k x0.f0 x0.f1 x0.f2 x0.f3 x0.f4 x0.f5 x0.f6 x0.f7 x1.f0 x1.f1 x1.f2 x1.f3 x1.f4 x1.f5 x1.f6 x1.f7 true W rfl h).mono fun e W' ⟨he, bel0⟩ => ?_
  have bel : Below W.heap.size W W' := bel0
  subst he
  exact ⟨_, rfl, _, _, _, [], _, [], hW', trodAll_mk1 (shut_bool Try.underlying4 _), (trodAll_cons_mk (Below.trod laidOut (by kernel_rfl) (of_decide_eq_true (by kernel_rfl)) k0 bel lt0) (trodAll_cons_mk (Below.trod laidOut (by kernel_rfl) (of_decide_eq_true (by kernel_rfl)) k1 bel lt1) trodAll_mk0)), rfl, bel.frame _, fun h => by cases h⟩
theorem over : Rows.encodeTwoRow.holds Try.pinned (OpenSpec.ofChange Rows.encodeTwoSpec) :=
  OpenClaim.holds_of_wide 5 Try.f5 rfl rfl rfl rfl rfl rfl rfl ⟨rfl, rfl, rfl, rfl, rfl⟩ rfl rfl rfl rfl rfl (by kernel_rfl) Try.func5 (by kernel_rfl)
    (of_decide_eq_true (by kernel_rfl)) (by unfold Func.isWrapper; first | (rw [if_pos (by decide +kernel)]; kernel_rfl) | (rw [if_neg (by decide +kernel)]; exact ⟨rfl, rfl⟩))
    (fun os started H enc _ => lifted os started H enc)
theorem proved : Rows.EncodeTwoSaid := over
#print axioms proved
end Go.Proofs.Ytnnedajhphkphaa.encodeTwoRow
namespace Go.Proofs.Ytnnedajhphkphaa
/-- The row, under a short name, for the claim. -/
theorem encodeTwo_holds : Rows.EncodeTwoSaid := encodeTwoRow.proved
end Go.Proofs.Ytnnedajhphkphaa
