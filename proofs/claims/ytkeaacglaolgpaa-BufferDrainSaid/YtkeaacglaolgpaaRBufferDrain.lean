/-
The statement BufferDrain: the law returns true for every input, and each argument reads as it did. Conditions: none beyond the given row's.
-/
import Derived.Test.YtkeaacglaolgpaaRows
import Derived.Test.YtkeaacglaolgpaaVBufferDrain
import Derived.Test.YtkeaacglaolgpaaPureBufferDrain
import Derived.Test.YtkeaacglaolgpaaOpens
import Derived.WalkKit
import Derived.ProofKit
import Derived.OpenShut
import Derived.ShutString
import Derived.ChangeOld
import Derived.Below
import Derived.SizedLaws
import Derived.Lib.SmallJoins
namespace Go.Proofs.Ytkeaacglaolgpaa.bufferDrainRow
open Go.ChangeShapes Go.WideShapes Go.ChangeAt Go.RowKit Go.Joins Go.Proofs.YtkeaacglaolgpaaW.PrintWords
open Go.Proofs.Ytkeaacglaolgpaa.PBufferDrain
open Go.ChangeMaps (open_string shut_string)
set_option linter.unusedVariables false
set_option linter.unusedSimpArgs false
theorem own : ownKnob Try.prog.godebug = none := by kernel_rfl
theorem laidOut : laidOutB Try.prog = true := by kernel_rfl
set_option maxRecDepth 100000 in
theorem lifted (os : Os) (started : os.Started) (H : Type) (enc : TypeId × Value → H) :
    ReturnsInHanded {} Try.checked os 7 .any (Rows.bufferDrainSpec.pre6 enc Try.prog Try.f7 Rows.bufferDrainRow.domain false) (Rows.bufferDrainSpec.post enc Try.prog Try.f7 false true false false) := by
  refine returnsInHanded_of_change_sized (C := Try.checked) own started (by kernel_rfl) Try.func7
    (ChangeSpec.witness6 (enc := enc) (C := Try.checked) false ⟨#[], #[.slice none 0 0, .slice none 0 0], []⟩ 8 (by kernel_rfl) (by kernel_rfl) (by kernel_rfl) (by kernel_rfl)) ?_
  intro W base args ds gs before hval0 hW hcnd hsz0 _
  have hsz : (DataW.weightsEach Try.prog (Try.f7.params.toList ++ Rows.bufferDrainSpec.plain.varTypes Try.prog) (ds ++ gs)).all (· ≤ reachBytes) = true := hsz0
  have hval : ∀ (j : Nat) t v, Try.f7.params[j]? = some t → args[j]? = some v → Value.okWide Try.prog W .any base t v := hval0
  have hW' := hW
  obtain ⟨p, q, hA0, hV, rfl, hfz, hnd⟩ := hW
  have hA : DataW.TrodAll enc Try.prog W 0 (fun _ => true) true Try.f7.params.toList args.toList ds p := hA0
  rw [Try.params7] at hA hval hsz
  obtain ⟨v0, vs0, d0, ds0, p0, q0, hargs, rfl, rfl, h0, r0⟩ := trodAll_cons hA
  obtain ⟨v1, vs1, d1, ds1, p1, q1, rfl, rfl, rfl, h1, r1⟩ := trodAll_cons r0
  obtain ⟨rfl, rfl, rfl⟩ := trodAll_nil r1
  obtain rfl : args = #[v0, v1] := by cases args; simp_all
  obtain ⟨rfl, rfl⟩ := trodVars_none hV
  obtain ⟨A0, len0, cap0, rfl⟩ := okWide_slice Try.underlying22 (hval 0 22 v0 rfl rfl)
  have k0 := h0
  have lt0 : ∀ x ∈ p0, x.block < W.heap.size := by obtain ⟨m, hm⟩ := k0; exact DataW.trod_lt m _ _ _ hm
  obtain ⟨l0, hl0, hcap0, hm0, hC0, hw0⟩ : ∃ xs : List S26, xs.length = len0 ∧ len0 ≤ cap0 ∧ len0 ≤ maxLen ∧ Kd.C k26 W A0 len0 xs ∧ ∀ x ∈ xs, wf26 x := by
    obtain ⟨fuel, hf⟩ := h0
    exact Opens.reads Try.underlying22 o26 (by simpa [Value.cells] using hf)
  have y0 : len0 * 16 ≤ 140737488351232 := Opens.sized hsz (j := 0) (t := 22) rfl rfl Try.underlying22 (by kernel_rfl) h0
  subst hl0
  obtain ⟨A1, len1, cap1, rfl⟩ := okWide_slice Try.underlying38 (hval 1 38 v1 rfl rfl)
  have k1 := h1
  have lt1 : ∀ x ∈ p1, x.block < W.heap.size := by obtain ⟨m, hm⟩ := k1; exact DataW.trod_lt m _ _ _ hm
  obtain ⟨l1, hl1, hcap1, hm1, hC1, hw1⟩ : ∃ xs : List Int, xs.length = len1 ∧ len1 ≤ cap1 ∧ len1 ≤ maxLen ∧ Kd.C (Kd.int .u64) W A1 len1 xs ∧ ∀ x ∈ xs, (Lit.int .u64 x).wf = true := by
    obtain ⟨fuel, hf⟩ := h1
    exact Opens.reads Try.underlying38 (Opens.int Try.underlying24 (by kernel_rfl)) (by simpa [Value.cells] using hf)
  have y1 : len1 * 8 ≤ 140737488351232 := Opens.sized hsz (j := 1) (t := 38) rfl rfl Try.underlying38 (by kernel_rfl) h1
  subst hl1
  clear hA0 hval0 hsz0 hsz
  obtain ⟨k, h⟩ := Pure.BufferDrain l0 l1 hm0 y0 hw0 hm1 y1 hw1
  refine (tautochronelaw22_BufferDrain.calls k A0 cap0 l0 A1 cap1 l1 true W hC0 hcap0 hC1 hcap1 h).mono fun e W' ⟨he, bel0⟩ => ?_
  have bel : Below W.heap.size W W' := bel0
  subst he
  exact ⟨_, rfl, _, _, _, [], _, [], hW', trodAll_mk1 (shut_bool Try.underlying4 _), (trodAll_cons_mk (Below.trod laidOut (by kernel_rfl) (of_decide_eq_true (by kernel_rfl)) k0 bel lt0) (trodAll_cons_mk (Below.trod laidOut (by kernel_rfl) (of_decide_eq_true (by kernel_rfl)) k1 bel lt1) trodAll_mk0)), rfl, bel.frame _, fun h => by cases h⟩
theorem over : Rows.bufferDrainRow.holds Try.pinned (OpenSpec.ofChange Rows.bufferDrainSpec) :=
  OpenClaim.holds_of_wide 7 Try.f7 rfl rfl rfl rfl rfl rfl rfl ⟨rfl, rfl, rfl, rfl, rfl⟩ rfl rfl rfl rfl rfl (by kernel_rfl) Try.func7 (by kernel_rfl)
    (of_decide_eq_true (by kernel_rfl)) (by unfold Func.isWrapper; first | (rw [if_pos (by decide +kernel)]; kernel_rfl) | (rw [if_neg (by decide +kernel)]; exact ⟨rfl, rfl⟩))
    (fun os started H enc _ => lifted os started H enc)
theorem proved : Rows.BufferDrainSaid := over
#print axioms proved
end Go.Proofs.Ytkeaacglaolgpaa.bufferDrainRow
namespace Go.Proofs.Ytkeaacglaolgpaa
/-- The row, under a short name, for the claim. -/
theorem bufferDrain_holds : Rows.BufferDrainSaid := bufferDrainRow.proved
end Go.Proofs.Ytkeaacglaolgpaa
