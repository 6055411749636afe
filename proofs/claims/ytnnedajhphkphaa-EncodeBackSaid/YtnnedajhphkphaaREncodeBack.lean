/-
The statement EncodeBack: the law returns true for every input, and each argument reads as it did. Conditions: none beyond the given row's.
-/
import Derived.Test.YtnnedajhphkphaaRows
import Derived.Test.YtnnedajhphkphaaVEncodeBack
import Derived.Test.YtnnedajhphkphaaMLawEncodeBack
import Derived.Test.YtnnedajhphkphaaOpens
import Derived.WalkKit
import Derived.ProofKit
import Derived.OpenShut
import Derived.ShutString
import Derived.ChangeOld
import Derived.Below
import Derived.SizedLaws
import Derived.Lib.SmallJoins
namespace Go.Proofs.Ytnnedajhphkphaa.encodeBackRow
open Go.ChangeShapes Go.WideShapes Go.ChangeAt Go.RowKit Go.Joins Go.Proofs.YtnnedajhphkphaaW.PrintWords
open Go.Proofs.Ytnnedajhphkphaa.PEncodeAll
open Go.ChangeMaps (open_string shut_string)
set_option linter.unusedVariables false
set_option linter.unusedSimpArgs false
theorem own : ownKnob Try.prog.godebug = none := by kernel_rfl
theorem laidOut : laidOutB Try.prog = true := by kernel_rfl
set_option maxRecDepth 100000 in
theorem lifted (os : Os) (started : os.Started) (H : Type) (enc : TypeId × Value → H) :
    ReturnsInHanded {} Try.checked os 6 .any (Rows.encodeBackSpec.pre6 enc Try.prog Try.f6 Rows.encodeBackRow.domain false) (Rows.encodeBackSpec.post enc Try.prog Try.f6 false true false false) := by
  refine returnsInHanded_of_change_sized (C := Try.checked) own started (by kernel_rfl) Try.func6
    (ChangeSpec.witness6 (enc := enc) (C := Try.checked) false ⟨#[], #[.agg #[.int .i64 0, .int .i64 0, .int .i64 0, .int .i64 0, .int .i64 0, .int .i64 0, .int .u64 0, .int .i64 0], .slice none 0 0, .int .u8 0, .int .u8 0], []⟩ 8 (by kernel_rfl) (by kernel_rfl) (by kernel_rfl) (by kernel_rfl)) ?_
  intro W base args ds gs before hval0 hW hcnd hsz0 _
  have hsz : (DataW.weightsEach Try.prog (Try.f6.params.toList ++ Rows.encodeBackSpec.plain.varTypes Try.prog) (ds ++ gs)).all (· ≤ reachBytes) = true := hsz0
  have hval : ∀ (j : Nat) t v, Try.f6.params[j]? = some t → args[j]? = some v → Value.okWide Try.prog W .any base t v := hval0
  have hW' := hW
  obtain ⟨p, q, hA0, hV, rfl, hfz, hnd⟩ := hW
  have hA : DataW.TrodAll enc Try.prog W 0 (fun _ => true) true Try.f6.params.toList args.toList ds p := hA0
  rw [Try.params6] at hA hval hsz
  obtain ⟨v0, vs0, d0, ds0, p0, q0, hargs, rfl, rfl, h0, r0⟩ := trodAll_cons hA
  obtain ⟨v1, vs1, d1, ds1, p1, q1, rfl, rfl, rfl, h1, r1⟩ := trodAll_cons r0
  obtain ⟨v2, vs2, d2, ds2, p2, q2, rfl, rfl, rfl, h2, r2⟩ := trodAll_cons r1
  obtain ⟨v3, vs3, d3, ds3, p3, q3, rfl, rfl, rfl, h3, r3⟩ := trodAll_cons r2
  obtain ⟨rfl, rfl, rfl⟩ := trodAll_nil r3
  obtain rfl : args = #[v0, v1, v2, v3] := by cases args; simp_all
  obtain ⟨rfl, rfl⟩ := trodVars_none hV
  obtain ⟨cs0, rfl, hsz0⟩ := okWide_struct Try.underlying26 (hval 0 26 v0 rfl rfl)
  have k0 := h0
  have lt0 : ∀ x ∈ p0, x.block < W.heap.size := by obtain ⟨m, hm⟩ := k0; exact DataW.trod_lt m _ _ _ hm
  obtain ⟨x0, hC0, hw0⟩ : ∃ x : S26, k26.K W x cs0.toList ∧ wf26 x := by
    obtain ⟨fuel, hf⟩ := h0
    exact (o26).2 enc W _ _ _ fuel _ _ (by simpa [Value.cells] using hf)
  have e0_ := k26_open hC0
  obtain ⟨cl0⟩ := cs0
  simp only at e0_
  subst e0_
  obtain ⟨A1, len1, cap1, rfl⟩ := okWide_slice Try.underlying30 (hval 1 30 v1 rfl rfl)
  have k1 := h1
  have lt1 : ∀ x ∈ p1, x.block < W.heap.size := by obtain ⟨m, hm⟩ := k1; exact DataW.trod_lt m _ _ _ hm
  obtain ⟨l1, hl1, hcap1, hm1, hC1, hw1⟩ : ∃ xs : List Int, xs.length = len1 ∧ len1 ≤ cap1 ∧ len1 ≤ maxLen ∧ Kd.C (Kd.int .u8) W A1 len1 xs ∧ ∀ x ∈ xs, (Lit.int .u8 x).wf = true := by
    obtain ⟨fuel, hf⟩ := h1
    exact Opens.reads Try.underlying30 (Opens.int Try.underlying5 (by kernel_rfl)) (by simpa [Value.cells] using hf)
  have y1 : len1 * 1 ≤ 140737488351232 := Opens.sized hsz (j := 1) (t := 30) rfl rfl Try.underlying30 (by kernel_rfl) h1
  subst hl1
  obtain ⟨a2, rfl, rfl, rfl, w2⟩ := open_int Try.underlying5 (hval 2 5 v2 rfl rfl) h2
  obtain ⟨a3, rfl, rfl, rfl, w3⟩ := open_int Try.underlying5 (hval 3 5 v3 rfl rfl) h3
  clear hA0 hval0 hsz0 hsz
  refine (Pure.backlaw.calls x0 A1 cap1 l1 a2 a3 W hC1 hcap1 (fun y hy => by have := Kit.wf_bounds_u8 (hw1 y hy); exact ⟨this.1, by omega⟩) (Kit.wf_bounds_u64 hw0.2.2.2.2.2.2.1) (by have := Kit.wf_bounds_u8 w2; exact ⟨this.1, by omega⟩) (by have := Kit.wf_bounds_u8 w3; exact ⟨this.1, by omega⟩) (by omega)).mono fun e W' ⟨he, bel0⟩ => ?_
  have bel : Below W.heap.size W W' := bel0
  subst he
  exact ⟨_, rfl, _, _, _, [], _, [], hW', trodAll_mk1 (shut_bool Try.underlying4 _), (trodAll_cons_mk (Below.trod laidOut (by kernel_rfl) (of_decide_eq_true (by kernel_rfl)) k0 bel lt0) (trodAll_cons_mk (Below.trod laidOut (by kernel_rfl) (of_decide_eq_true (by kernel_rfl)) k1 bel lt1) (trodAll_cons_mk (shut_int Try.underlying5 w2) (trodAll_cons_mk (shut_int Try.underlying5 w3) trodAll_mk0)))), rfl, bel.frame _, fun h => by cases h⟩
theorem over : Rows.encodeBackRow.holds Try.pinned (OpenSpec.ofChange Rows.encodeBackSpec) :=
  OpenClaim.holds_of_wide 6 Try.f6 rfl rfl rfl rfl rfl rfl rfl ⟨rfl, rfl, rfl, rfl, rfl⟩ rfl rfl rfl rfl rfl (by kernel_rfl) Try.func6 (by kernel_rfl)
    (of_decide_eq_true (by kernel_rfl)) (by unfold Func.isWrapper; first | (rw [if_pos (by decide +kernel)]; kernel_rfl) | (rw [if_neg (by decide +kernel)]; exact ⟨rfl, rfl⟩))
    (fun os started H enc _ => lifted os started H enc)
theorem proved : Rows.EncodeBackSaid := over
#print axioms proved
end Go.Proofs.Ytnnedajhphkphaa.encodeBackRow
namespace Go.Proofs.Ytnnedajhphkphaa
/-- The row, under a short name, for the claim. -/
theorem encodeBack_holds : Rows.EncodeBackSaid := encodeBackRow.proved
end Go.Proofs.Ytnnedajhphkphaa
