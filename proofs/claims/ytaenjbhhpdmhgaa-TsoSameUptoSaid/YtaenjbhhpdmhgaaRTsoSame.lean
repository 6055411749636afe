/-
The statement TsoSameUpto: the law returns true where what came in is of bulk at most 1048576, and each argument reads as it did. Conditions: none beyond the given row's.
-/
import Derived.Test.YtaenjbhhpdmhgaaRows
import Derived.Test.YtaenjbhhpdmhgaaVTsoSame
import Derived.Test.YtaenjbhhpdmhgaaMTsSm
import Derived.Test.YtaenjbhhpdmhgaaOpens
import Derived.Test.YtaenjbhhpdmhgaaBulk
import Derived.Deep.CondSized
import Derived.JoinedCond
import Derived.WalkKit
import Derived.ProofKit
import Derived.OpenShut
import Derived.ShutString
import Derived.ChangeOld
import Derived.Below
import Derived.SizedLaws
import Derived.Lib.SmallJoins
namespace Go.Proofs.Ytaenjbhhpdmhgaa.tsoSameRow
open Go.ChangeShapes Go.WideShapes Go.ChangeAt Go.RowKit Go.Joins Go.Proofs.YtaenjbhhpdmhgaaW.PrintWords
open Go.Proofs.Ytaenjbhhpdmhgaa.PTsoScript
open Go.ChangeMaps (open_string shut_string)
set_option linter.unusedVariables false
set_option linter.unusedSimpArgs false
theorem own : ownKnob Try.prog.godebug = none := by kernel_rfl
theorem laidOut : laidOutB Try.prog = true := by kernel_rfl
set_option maxRecDepth 100000 in
theorem lifted (os : Os) (started : os.Started) (H : Type) (enc : TypeId × Value → H) (F : Stop.Interp) :
    ReturnsInHanded {} Try.checked os 8 .any ((Rows.OpenSpec.upto Rows.tsoSameSpec).pre6 enc Try.prog Try.f8 Rows.tsoSameUptoRow.domain false) (((Rows.OpenSpec.upto Rows.tsoSameSpec).at F).post enc Try.prog Try.f8 false true false false) := by
  refine returnsInHanded_of_cond_sized (C := Try.checked) (s := Rows.OpenSpec.upto Rows.tsoSameSpec) (k := Rows.uptoSmall) rfl own started (by kernel_rfl) Try.func8
    (OpenSpec.witness (enc := enc) (C := Try.checked) (s := Rows.OpenSpec.upto Rows.tsoSameSpec) (k := Rows.uptoSmall) rfl false ⟨#[], #[.slice none 0 0, .slice none 0 0, .slice none 0 0], []⟩ 8 (by kernel_rfl) (by kernel_rfl) (by kernel_rfl)
      (x := ([.nil, .nil, .nil], [], [])) (by kernel_rfl) rfl (by kernel_rfl)) ?_
  intro W base args ds gs before hval0 hW hcnd hk_ hsz0 _
  have hsz : (DataW.weightsEach Try.prog (Try.f8.params.toList ++ Rows.tsoSameSpec.plain.varTypes Try.prog) (ds ++ gs)).all (· ≤ reachBytes) = true := hsz0
  have hval : ∀ (j : Nat) t v, Try.f8.params[j]? = some t → args[j]? = some v → Value.okWide Try.prog W .any base t v := hval0
  have hW' := hW
  obtain ⟨p, q, hA0, hV, rfl, hfz, hnd⟩ := hW
  have hA : DataW.TrodAll enc Try.prog W 0 (fun _ => true) true Try.f8.params.toList args.toList ds p := hA0
  rw [Try.params8] at hA hval hsz
  obtain ⟨v0, vs0, d0, ds0, p0, q0, hargs, rfl, rfl, h0, r0⟩ := trodAll_cons hA
  obtain ⟨v1, vs1, d1, ds1, p1, q1, rfl, rfl, rfl, h1, r1⟩ := trodAll_cons r0
  obtain ⟨v2, vs2, d2, ds2, p2, q2, rfl, rfl, rfl, h2, r2⟩ := trodAll_cons r1
  obtain ⟨rfl, rfl, rfl⟩ := trodAll_nil r2
  obtain rfl : args = #[v0, v1, v2] := by cases args; simp_all
  obtain ⟨rfl, rfl⟩ := trodVars_none hV
  have hb_ := Bulk.bound hk_
  simp only [List.cons_append, List.nil_append, Rows.uptoBulkAll] at hb_
  obtain ⟨A0, len0, cap0, rfl⟩ := okWide_slice Try.underlying34 (hval 0 34 v0 rfl rfl)
  have k0 := h0
  have lt0 : ∀ x ∈ p0, x.block < W.heap.size := by obtain ⟨m, hm⟩ := k0; exact DataW.trod_lt m _ _ _ hm
  obtain ⟨l0, hl0, hcap0, hm0, hC0, hw0⟩ : ∃ xs : List (List S28), xs.length = len0 ∧ len0 ≤ cap0 ∧ len0 ≤ maxLen ∧ Kd.C (Kd.slice 28 k28) W A0 len0 xs ∧ ∀ x ∈ xs, (x.length ≤ maxLen ∧ ∀ y_ ∈ x, wf28 y_) := by
    obtain ⟨fuel, hf⟩ := h0
    exact Opens.reads Try.underlying34 (Opens.slice Try.underlying29 (by kernel_rfl) o28) (by simpa [Value.cells] using hf)
  have y0 : len0 * 24 ≤ 140737488351232 := Opens.sized hsz (j := 0) (t := 34) rfl rfl Try.underlying34 (by kernel_rfl) h0
  have hb0_ := Bulk.slice_len Try.underlying34 h0
  subst hl0
  obtain ⟨A1, len1, cap1, rfl⟩ := okWide_slice Try.underlying42 (hval 1 42 v1 rfl rfl)
  have k1 := h1
  have lt1 : ∀ x ∈ p1, x.block < W.heap.size := by obtain ⟨m, hm⟩ := k1; exact DataW.trod_lt m _ _ _ hm
  obtain ⟨l1, hl1, hcap1, hm1, hC1, hw1⟩ : ∃ xs : List Int, xs.length = len1 ∧ len1 ≤ cap1 ∧ len1 ≤ maxLen ∧ Kd.C (Kd.int .u64) W A1 len1 xs ∧ ∀ x ∈ xs, (Lit.int .u64 x).wf = true := by
    obtain ⟨fuel, hf⟩ := h1
    exact Opens.reads Try.underlying42 (Opens.int Try.underlying26 (by kernel_rfl)) (by simpa [Value.cells] using hf)
  have y1 : len1 * 8 ≤ 140737488351232 := Opens.sized hsz (j := 1) (t := 42) rfl rfl Try.underlying42 (by kernel_rfl) h1
  have hb1_ := Bulk.slice_len Try.underlying42 h1
  subst hl1
  obtain ⟨A2, len2, cap2, rfl⟩ := okWide_slice Try.underlying22 (hval 2 22 v2 rfl rfl)
  have k2 := h2
  have lt2 : ∀ x ∈ p2, x.block < W.heap.size := by obtain ⟨m, hm⟩ := k2; exact DataW.trod_lt m _ _ _ hm
  obtain ⟨l2, hl2, hcap2, hm2, hC2, hw2⟩ : ∃ xs : List Int, xs.length = len2 ∧ len2 ≤ cap2 ∧ len2 ≤ maxLen ∧ Kd.C (Kd.int .i8) W A2 len2 xs ∧ ∀ x ∈ xs, (Lit.int .i8 x).wf = true := by
    obtain ⟨fuel, hf⟩ := h2
    exact Opens.reads Try.underlying22 (Opens.int Try.underlying37 (by kernel_rfl)) (by simpa [Value.cells] using hf)
  have y2 : len2 * 1 ≤ 140737488351232 := Opens.sized hsz (j := 2) (t := 22) rfl rfl Try.underlying22 (by kernel_rfl) h2
  have hb2_ := Bulk.slice_len Try.underlying22 h2
  subst hl2
  clear hA0 hval0 hsz0 hsz
  refine (Tso.tsoSame.calls A0 cap0 l0 A1 cap1 l1 A2 cap2 l2 W hC0 hcap0 (by omega) (fun t ht x hx => Kit.wf_bounds_u64 ((hw0 t ht).2 x hx).2.2.2.2.2.2.1) hC1 (fun v hv => Kit.wf_bounds_u64 (hw1 v hv)) hC2 hcap2 (by omega) (fun v hv => Kit.wf_bounds_i8 (hw2 v hv))).mono fun e W' ⟨he, bel0⟩ => ?_
  have bel : Below W.heap.size W W' := bel0
  subst he
  exact ⟨_, rfl, _, _, _, [], _, [], hW', trodAll_mk1 (shut_bool Try.underlying4 _), (trodAll_cons_mk (Below.trod laidOut (by kernel_rfl) (of_decide_eq_true (by kernel_rfl)) k0 bel lt0) (trodAll_cons_mk (Below.trod laidOut (by kernel_rfl) (of_decide_eq_true (by kernel_rfl)) k1 bel lt1) (trodAll_cons_mk (Below.trod laidOut (by kernel_rfl) (of_decide_eq_true (by kernel_rfl)) k2 bel lt2) trodAll_mk0))), rfl, bel.frame _, fun h => by cases h⟩
theorem over : Rows.tsoSameUptoRow.holds Try.pinned (Rows.OpenSpec.upto Rows.tsoSameSpec) :=
  OpenClaim.holds_of_cond 8 Try.f8 rfl rfl rfl rfl rfl rfl rfl ⟨rfl, rfl, rfl, rfl, rfl⟩ rfl rfl rfl rfl rfl (by kernel_rfl) Try.func8 (by kernel_rfl)
    (of_decide_eq_true (by kernel_rfl)) (by unfold Func.isWrapper; first | (rw [if_pos (by decide +kernel)]; kernel_rfl) | (rw [if_neg (by decide +kernel)]; exact ⟨rfl, rfl⟩))
    (fun os started H enc _ F => lifted os started H enc F)
theorem proved : Rows.TsoSameUptoSaid := over
#print axioms proved
end Go.Proofs.Ytaenjbhhpdmhgaa.tsoSameRow
namespace Go.Proofs.Ytaenjbhhpdmhgaa
/-- The row, under a short name, for the claim. -/
theorem tsoSameUpto_holds : Rows.TsoSameUptoSaid := tsoSameRow.proved
end Go.Proofs.Ytaenjbhhpdmhgaa
