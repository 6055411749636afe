/-
The statement WordRing, of numbers alone: the law walked whole with its calls, at the four equations of a ring; these are facts of 'wrap'. Condition: none beyond the statement's own.
-/
import Derived.Test.YtjlniahifmhjfaaRows
import Derived.Test.YtjlniahifmhjfaaPWordRingx0
import Derived.Test.YtjlniahifmhjfaaKit
import Derived.WalkKit
import Derived.ProofKit
import Derived.OpenShut
import Derived.ShutString
import Derived.ChangeOld
import Derived.Below
import Derived.SizedLaws
set_option linter.unusedVariables false
set_option linter.unusedSimpArgs false
namespace Go.Proofs.Ytjlniahifmhjfaa.MWordRing
open Go.RowKit Go.Proofs.YtjlniahifmhjfaaW.PrintWords Go.Proofs.YtjlniahifmhjfaaW.PrintLast Go.Proofs.YtjlniahifmhjfaaW.PrintMore
open Go.Proofs.Ytjlniahifmhjfaa.Kit
set_option maxHeartbeats 8000000 in
set_option maxRecDepth 100000 in
/-- The walk: where the four equations hold, the law answers true. -/
theorem ring.calls (a b c : Int) (w : World)
    (h1 : (IntKind.u64.wrap (IntKind.u64.wrap (a + b) + c) == IntKind.u64.wrap (a + IntKind.u64.wrap (b + c))) = true)
    (h2 : (IntKind.u64.wrap (IntKind.u64.wrap (a * b) * c) == IntKind.u64.wrap (a * IntKind.u64.wrap (b * c))) = true)
    (h3 : (IntKind.u64.wrap (a * IntKind.u64.wrap (b + c)) == IntKind.u64.wrap (IntKind.u64.wrap (a * b) + IntKind.u64.wrap (a * c))) = true)
    (h4 : (IntKind.u64.wrap a == a) = true) :
    Calls Try.prog 7 #[.int .u64 a, .int .u64 b, .int .u64 c] w fun e w' => e = .returned (.bool true) ∧ Below w.heap.size w w' := by
  have HB := Aside0.mk (Below.refl w.heap.size w)
  go_enter Try.func7, Try.ntmps7
  go_wp2
  go_ret
  exact ⟨by first | rfl | (rw [h4]; done) | (simp [h4]; done) | (simp_all; done), by repeat (first | (with_reducible first | exact HB.out | apply below_alloc) | exact HB.out)⟩
/-- The plain law. -/
theorem wrap_eq (x : Int) : IntKind.u64.wrap x = x % 18446744073709551616 := by rw [IntKind.wrap_u64]
theorem mul_l (x y n : Int) : x % n * y % n = x * y % n := by rw [Int.mul_emod, Int.emod_emod, ← Int.mul_emod]
theorem mul_r (x y n : Int) : x * (y % n) % n = x * y % n := by rw [Int.mul_emod, Int.emod_emod, ← Int.mul_emod]
theorem law (a b c : Int) (w : World) (w0 : (Lit.int .u64 a).wf = true) :
    Calls Try.prog 7 #[.int .u64 a, .int .u64 b, .int .u64 c] w fun e w' => e = .returned (.bool true) ∧ Below w.heap.size w w' := by
  obtain ⟨ha0, ha1⟩ := wf_bounds_u64 w0
  refine ring.calls a b c w (beq_iff_eq.mpr ?_) (beq_iff_eq.mpr ?_) (beq_iff_eq.mpr ?_) (beq_iff_eq.mpr ?_)
  · simp only [wrap_eq, Int.emod_add_emod, Int.add_emod_emod, Int.add_assoc]
  · simp only [wrap_eq, mul_l, mul_r, Int.mul_assoc]
  · simp only [wrap_eq, mul_l, mul_r, Int.emod_add_emod, Int.add_emod_emod, Int.mul_add]
  · rw [wrap_eq]; omega
end Go.Proofs.Ytjlniahifmhjfaa.MWordRing
namespace Go.Proofs.Ytjlniahifmhjfaa.wordRing
open Go.ChangeShapes Go.WideShapes Go.ChangeAt Go.RowKit
open Go.ChangeMaps (open_string shut_string)
theorem own : ownKnob Try.prog.godebug = none := by kernel_rfl
set_option maxRecDepth 100000 in
theorem lifted (os : Os) (started : os.Started) (H : Type) (enc : TypeId × Value → H) :
    ReturnsInHanded {} Try.checked os 7 .any (Rows.wordRingSpec.pre6 enc Try.prog Try.f7 Rows.wordRingRow.domain false) (Rows.wordRingSpec.post enc Try.prog Try.f7 false true false false) := by
  refine returnsInHanded_of_change_sized (C := Try.checked) own started (by kernel_rfl) Try.func7
    (ChangeSpec.witness6 (enc := enc) (C := Try.checked) false ⟨#[], #[.int .u64 0, .int .u64 0, .int .u64 0], []⟩ 8 (by kernel_rfl) (by kernel_rfl) (by kernel_rfl) (by kernel_rfl)) ?_
  intro W base args ds gs before hval0 hW hcnd hsz0 _
  have hval : ∀ (j : Nat) t v, Try.f7.params[j]? = some t → args[j]? = some v → Value.okWide Try.prog W .any base t v := hval0
  have hW' := hW
  obtain ⟨p, q, hA0, hV, rfl, hfz, hnd⟩ := hW
  have hA : DataW.TrodAll enc Try.prog W 0 (fun _ => true) true Try.f7.params.toList args.toList ds p := hA0
  rw [Try.params7] at hA hval
  obtain ⟨v0, vs0, d0, ds0, p0, q0, hargs, rfl, rfl, h0, r0⟩ := trodAll_cons hA
  obtain ⟨v1, vs1, d1, ds1, p1, q1, rfl, rfl, rfl, h1, r1⟩ := trodAll_cons r0
  obtain ⟨v2, vs2, d2, ds2, p2, q2, rfl, rfl, rfl, h2, r2⟩ := trodAll_cons r1
  obtain ⟨rfl, rfl, rfl⟩ := trodAll_nil r2
  obtain rfl : args = #[v0, v1, v2] := by cases args; simp_all
  obtain ⟨rfl, rfl⟩ := trodVars_none hV
  obtain ⟨a0, rfl, rfl, rfl, w0⟩ := open_int Try.underlying22 (hval 0 22 v0 rfl rfl) h0
  obtain ⟨a1, rfl, rfl, rfl, w1⟩ := open_int Try.underlying22 (hval 1 22 v1 rfl rfl) h1
  obtain ⟨a2, rfl, rfl, rfl, w2⟩ := open_int Try.underlying22 (hval 2 22 v2 rfl rfl) h2
  clear hA0 hval0 hsz0
  refine (MWordRing.law a0 a1 a2 W w0).mono fun e W' ⟨he, bel⟩ => ?_
  subst he
  exact ⟨_, rfl, _, _, _, [], _, [], hW', trodAll_mk1 (shut_bool Try.underlying4 _), (trodAll_cons_mk (shut_int Try.underlying22 w0) (trodAll_cons_mk (shut_int Try.underlying22 w1) (trodAll_cons_mk (shut_int Try.underlying22 w2) trodAll_mk0))), rfl, bel.frame _, fun h => by cases h⟩
theorem over : Rows.wordRingRow.holds Try.pinned (OpenSpec.ofChange Rows.wordRingSpec) :=
  OpenClaim.holds_of_wide 7 Try.f7 rfl rfl rfl rfl rfl rfl rfl ⟨rfl, rfl, rfl, rfl, rfl⟩ rfl rfl rfl rfl rfl (by kernel_rfl) Try.func7 (by kernel_rfl)
    (of_decide_eq_true (by kernel_rfl)) (by unfold Func.isWrapper; first | (rw [if_pos (by decide +kernel)]; kernel_rfl) | (rw [if_neg (by decide +kernel)]; exact ⟨rfl, rfl⟩))
    (fun os started H enc _ => lifted os started H enc)
theorem proved : Rows.WordRingSaid := over
end Go.Proofs.Ytjlniahifmhjfaa.wordRing
namespace Go.Proofs.Ytjlniahifmhjfaa
/-- The row, under a short name, for the claim. -/
theorem wordRing_holds : Rows.WordRingSaid := wordRing.proved
end Go.Proofs.Ytjlniahifmhjfaa
