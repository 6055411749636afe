/-
The statement ScopeHides: a name that is declared, or a local's, is not entered again until it is left. The law walked by the contracts of the scope's methods, at each of its four names. Condition: none beyond the statement's own.
-/
import Derived.Test.YtchgmfdojhbgaaaRows
import Derived.Test.YtchgmfdojhbgaaaMScopeC
import Derived.WalkKit
import Derived.ProofKit
import Derived.OpenShut
import Derived.ShutString
import Derived.ChangeOld
import Derived.Below
import Derived.SizedLaws
set_option linter.unusedVariables false
set_option linter.unusedSimpArgs false
namespace Go.Proofs.Ytchgmfdojhbgaaa.MScope
open Go.RowKit Go.Proofs.YtchgmfdojhbgaaaW.PrintWords Go.Proofs.YtchgmfdojhbgaaaW.PrintLast Go.Proofs.YtchgmfdojhbgaaaW.PrintMore
open Go.Proofs.Ytchgmfdojhbgaaa.Kit Go.ChangeMaps Go.MapKept
attribute [local go_sem] max2_int min2_int max_two min_two max_three min_three max_four min_four   -- for this text's walks alone
set_option maxHeartbeats 2000000 in
set_option maxRecDepth 100000 in
theorem hides.calls (a b c : Int) (w : World) (a0 : 0 ≤ a) (a1 : a ≤ 255) (b0 : 0 ≤ b) (b1 : b ≤ 255) (c0 : 0 ≤ c) (c1 : c ≤ 255) :
    Calls Try.prog 3 #[.int .u8 a, .int .u8 b, .int .u8 c] w fun e w' => e = .returned (.bool true) ∧ Below w.heap.size w w' := by
  go_enter Try.func3, Try.ntmps3
  go_upto_region 3 with (first
    | (go_at_call 6; refine (awake.calls w).mono ?_; rintro e w1 ⟨rfl, hb1⟩)
    | go_in)
  go_upto_region 5 with (first
    | (go_at_call 7; refine (of.calls (lit2g (w1.alloc (Obj.cells #[.string ⟨#[97]⟩, .string ⟨#[108]⟩, .string ⟨#[120]⟩, .string ⟨#[121]⟩] 9 (0, 0))) (w1.heap.size + 1) (by simp)) okk2 (by decide)).mono ?_; rintro e w2 ⟨p, m, rfl, hS, hb2⟩)
    | go_in)
  have hn : w2.heap[w1.heap.size]? = some (Obj.cells #[.string ⟨#[97]⟩, .string ⟨#[108]⟩, .string ⟨#[120]⟩, .string ⟨#[121]⟩] 9 (0, 0)) :=
    (hb2.block _ (by simp; omega)).trans ((Below.heap_alloc _ _ _ (by simp)).trans (heap_alloc_new w1 _))
  have HB : Below w.heap.size w w2 := ((hb1.alloc hb1.size _).alloc (by have := hb1.size; simp; omega) _).trans (hb2.mono (by have := hb1.size; simp; omega))
  have hS := hS.lower (base' := w.heap.size) (by have := hb1.size; simp; omega)
  clear hb2
  generalize w1.heap.size = N at hn ⊢
  have n0 : w2.cell? ⟨N, 0, none⟩ = some (.string ⟨#[97]⟩) := by simp [World.cell?, hn]
  have n1 : w2.cell? ⟨N, 1, none⟩ = some (.string ⟨#[108]⟩) := by simp [World.cell?, hn]
  have n2 : w2.cell? ⟨N, 2, none⟩ = some (.string ⟨#[120]⟩) := by simp [World.cell?, hn]
  have n3 : w2.cell? ⟨N, 3, none⟩ = some (.string ⟨#[121]⟩) := by simp [World.cell?, hn]
  clear hn hb1
  have hq : a % 4 = 0 ∨ a % 4 = 1 ∨ a % 4 = 2 ∨ a % 4 = 3 := by omega
  have hb2 : 0 ≤ b % 2 ∧ b % 2 < 2 := by omega
  have hc5 : 0 ≤ c % 5 ∧ c % 5 < 5 := by omega
  have hbb : b % 2 = 0 ∨ b % 2 = 1 := by omega
  rcases hq with hq | hq | hq | hq
  · skip
    have F : fnd D2 [] ⟨#[97]⟩ = (2, 0, 0, ⟨#[]⟩) := by decide
    go_upto_region 10 with (first
      | (go_at_call 8; refine (enter_taken ⟨#[97]⟩ (b % 2) (c % 5) (by rw [F]; decide) hS (by simp)).mono ?_; rintro e w3 ⟨rfl, v3, hS, hst⟩; have HB := HB.trans hst.below)
      | go_in)
    go_upto_region 11 with (first
      | (go_at_call 8; refine (enter_taken ⟨#[97]⟩ 0 0 (by rw [F]; decide) hS (by simp)).mono ?_; rintro e w4 ⟨rfl, v4, hS, hst⟩; have HB := HB.trans hst.below)
      | go_in)
    go_upto_region 12 with (first
      | (go_at_call 9; refine (find_at ⟨#[97]⟩ F hS (by simp)).mono ?_; rintro e w5 ⟨rfl, hS, hst⟩; have HB := HB.trans hst.below)
      | go_in)
    go_upto_region 17 with (first
      | (go_at_call 10; refine (leave.calls 0 hS).mono ?_; rintro e w6 ⟨rfl, v6, hS, hst⟩; rw [if_neg (by simp)] at hS; have HB := HB.trans hst.below)
      | go_in)
    go_wp2_with (first
      | (go_at_call 8; refine (enter_taken ⟨#[97]⟩ 0 0 (by rw [F]; decide) hS (by simp)).mono ?_; rintro e w7 ⟨rfl, v7, hS, hst⟩; have HB := HB.trans hst.below)
      | go_in)
    go_ret
    exact ⟨rfl, HB⟩
  · skip
    have F : fnd D2 [] ⟨#[108]⟩ = (1, 0, 0, ⟨#[]⟩) := by decide
    go_upto_region 10 with (first
      | (go_at_call 8; refine (enter_taken ⟨#[108]⟩ (b % 2) (c % 5) (by rw [F]; decide) hS (by simp)).mono ?_; rintro e w3 ⟨rfl, v3, hS, hst⟩; have HB := HB.trans hst.below)
      | go_in)
    go_upto_region 11 with (first
      | (go_at_call 8; refine (enter_taken ⟨#[108]⟩ 0 0 (by rw [F]; decide) hS (by simp)).mono ?_; rintro e w4 ⟨rfl, v4, hS, hst⟩; have HB := HB.trans hst.below)
      | go_in)
    go_upto_region 12 with (first
      | (go_at_call 9; refine (find_at ⟨#[108]⟩ F hS (by simp)).mono ?_; rintro e w5 ⟨rfl, hS, hst⟩; have HB := HB.trans hst.below)
      | go_in)
    go_upto_region 17 with (first
      | (go_at_call 10; refine (leave.calls 0 hS).mono ?_; rintro e w6 ⟨rfl, v6, hS, hst⟩; rw [if_neg (by simp)] at hS; have HB := HB.trans hst.below)
      | go_in)
    go_wp2_with (first
      | (go_at_call 8; refine (enter_taken ⟨#[108]⟩ 0 0 (by rw [F]; decide) hS (by simp)).mono ?_; rintro e w7 ⟨rfl, v7, hS, hst⟩; have HB := HB.trans hst.below)
      | go_in)
    go_ret
    exact ⟨rfl, HB⟩
  · rcases (show c % 5 ≤ 0 ∨ 0 < c % 5 by omega) with hc | hc
    · skip
      have F : (fnd D2 [] ⟨#[120]⟩).1 = 0 := by decide
      have F2 : fnd D2 [⟨⟨#[120]⟩, b % 2, c % 5⟩] ⟨#[120]⟩ = (4, b % 2, c % 5, ⟨#[]⟩) := by
        have h0 : c % 5 = 0 := by omega
        rw [h0]; simp [fnd, fndL]
      have hcc : (if 0 < c % 5 then c % 5 else 0) = c % 5 := by split <;> omega
      go_upto_region 10 with (first
        | (go_at_call 8; refine (enter_free ⟨#[120]⟩ (b % 2) (c % 5) (c % 5) [⟨⟨#[120]⟩, b % 2, c % 5⟩] hcc (by rfl) F hS (by simp)).mono ?_; rintro e w3 ⟨rfl, v3, hS, hst⟩; have HB := HB.trans hst.below)
        | go_in)
      go_upto_region 11 with (first
        | (go_at_call 8; refine (enter_taken ⟨#[120]⟩ 0 0 (by rw [F2]; simp) hS (by simp)).mono ?_; rintro e w4 ⟨rfl, v4, hS, hst⟩; have HB := HB.trans hst.below)
        | go_in)
      go_upto_region 12 with (first
        | (go_at_call 9; refine (find_at ⟨#[120]⟩ F2 hS (by simp)).mono ?_; rintro e w5 ⟨rfl, hS, hst⟩; have HB := HB.trans hst.below)
        | go_in)
      go_upto_region 17 with (first
        | (go_at_call 10; refine (leave.calls 0 hS).mono ?_; rintro e w6 ⟨rfl, v6, hS, hst⟩; rw [if_pos (by simp)] at hS; have hS : Sc w6 w.heap.size p m v6 D2 [] := hS; have HB := HB.trans hst.below)
        | go_in)
      go_wp2_with (first
        | (go_at_call 8; refine (enter_free ⟨#[120]⟩ 0 0 0 [⟨⟨#[120]⟩, 0, 0⟩] (by decide) (by rfl) F hS (by simp)).mono ?_; rintro e w7 ⟨rfl, v7, hS, hst⟩; have HB := HB.trans hst.below)
        | go_in)
      go_ret
      exact ⟨rfl, HB⟩
    · skip
      have F : (fnd D2 [] ⟨#[120]⟩).1 = 0 := by decide
      have F2 : fnd D2 [⟨⟨#[120]⟩, b % 2, c % 5⟩] ⟨#[120]⟩ = (5, b % 2, c % 5, ⟨#[]⟩) := by simp [fnd, fndL, hc]
      have hcc : (if 0 < c % 5 then c % 5 else 0) = c % 5 := by split <;> omega
      go_upto_region 10 with (first
        | (go_at_call 8; refine (enter_free ⟨#[120]⟩ (b % 2) (c % 5) (c % 5) [⟨⟨#[120]⟩, b % 2, c % 5⟩] hcc (by rfl) F hS (by simp)).mono ?_; rintro e w3 ⟨rfl, v3, hS, hst⟩; have HB := HB.trans hst.below)
        | go_in)
      go_upto_region 11 with (first
        | (go_at_call 8; refine (enter_taken ⟨#[120]⟩ 0 0 (by rw [F2]; simp) hS (by simp)).mono ?_; rintro e w4 ⟨rfl, v4, hS, hst⟩; have HB := HB.trans hst.below)
        | go_in)
      go_upto_region 12 with (first
        | (go_at_call 9; refine (find_at ⟨#[120]⟩ F2 hS (by simp)).mono ?_; rintro e w5 ⟨rfl, hS, hst⟩; have HB := HB.trans hst.below)
        | go_in)
      go_upto_region 17 with (first
        | (go_at_call 10; refine (leave.calls 0 hS).mono ?_; rintro e w6 ⟨rfl, v6, hS, hst⟩; rw [if_pos (by simp)] at hS; have hS : Sc w6 w.heap.size p m v6 D2 [] := hS; have HB := HB.trans hst.below)
        | go_in)
      go_wp2_with (first
        | (go_at_call 8; refine (enter_free ⟨#[120]⟩ 0 0 0 [⟨⟨#[120]⟩, 0, 0⟩] (by decide) (by rfl) F hS (by simp)).mono ?_; rintro e w7 ⟨rfl, v7, hS, hst⟩; have HB := HB.trans hst.below)
        | go_in)
      go_ret
      exact ⟨rfl, HB⟩
  · rcases (show c % 5 ≤ 0 ∨ 0 < c % 5 by omega) with hc | hc
    · skip
      have F : (fnd D2 [] ⟨#[121]⟩).1 = 0 := by decide
      have F2 : fnd D2 [⟨⟨#[121]⟩, b % 2, c % 5⟩] ⟨#[121]⟩ = (4, b % 2, c % 5, ⟨#[]⟩) := by
        have h0 : c % 5 = 0 := by omega
        rw [h0]; simp [fnd, fndL]
      have hcc : (if 0 < c % 5 then c % 5 else 0) = c % 5 := by split <;> omega
      go_upto_region 10 with (first
        | (go_at_call 8; refine (enter_free ⟨#[121]⟩ (b % 2) (c % 5) (c % 5) [⟨⟨#[121]⟩, b % 2, c % 5⟩] hcc (by rfl) F hS (by simp)).mono ?_; rintro e w3 ⟨rfl, v3, hS, hst⟩; have HB := HB.trans hst.below)
        | go_in)
      go_upto_region 11 with (first
        | (go_at_call 8; refine (enter_taken ⟨#[121]⟩ 0 0 (by rw [F2]; simp) hS (by simp)).mono ?_; rintro e w4 ⟨rfl, v4, hS, hst⟩; have HB := HB.trans hst.below)
        | go_in)
      go_upto_region 12 with (first
        | (go_at_call 9; refine (find_at ⟨#[121]⟩ F2 hS (by simp)).mono ?_; rintro e w5 ⟨rfl, hS, hst⟩; have HB := HB.trans hst.below)
        | go_in)
      go_upto_region 17 with (first
        | (go_at_call 10; refine (leave.calls 0 hS).mono ?_; rintro e w6 ⟨rfl, v6, hS, hst⟩; rw [if_pos (by simp)] at hS; have hS : Sc w6 w.heap.size p m v6 D2 [] := hS; have HB := HB.trans hst.below)
        | go_in)
      go_wp2_with (first
        | (go_at_call 8; refine (enter_free ⟨#[121]⟩ 0 0 0 [⟨⟨#[121]⟩, 0, 0⟩] (by decide) (by rfl) F hS (by simp)).mono ?_; rintro e w7 ⟨rfl, v7, hS, hst⟩; have HB := HB.trans hst.below)
        | go_in)
      go_ret
      exact ⟨rfl, HB⟩
    · skip
      have F : (fnd D2 [] ⟨#[121]⟩).1 = 0 := by decide
      have F2 : fnd D2 [⟨⟨#[121]⟩, b % 2, c % 5⟩] ⟨#[121]⟩ = (5, b % 2, c % 5, ⟨#[]⟩) := by simp [fnd, fndL, hc]
      have hcc : (if 0 < c % 5 then c % 5 else 0) = c % 5 := by split <;> omega
      go_upto_region 10 with (first
        | (go_at_call 8; refine (enter_free ⟨#[121]⟩ (b % 2) (c % 5) (c % 5) [⟨⟨#[121]⟩, b % 2, c % 5⟩] hcc (by rfl) F hS (by simp)).mono ?_; rintro e w3 ⟨rfl, v3, hS, hst⟩; have HB := HB.trans hst.below)
        | go_in)
      go_upto_region 11 with (first
        | (go_at_call 8; refine (enter_taken ⟨#[121]⟩ 0 0 (by rw [F2]; simp) hS (by simp)).mono ?_; rintro e w4 ⟨rfl, v4, hS, hst⟩; have HB := HB.trans hst.below)
        | go_in)
      go_upto_region 12 with (first
        | (go_at_call 9; refine (find_at ⟨#[121]⟩ F2 hS (by simp)).mono ?_; rintro e w5 ⟨rfl, hS, hst⟩; have HB := HB.trans hst.below)
        | go_in)
      go_upto_region 17 with (first
        | (go_at_call 10; refine (leave.calls 0 hS).mono ?_; rintro e w6 ⟨rfl, v6, hS, hst⟩; rw [if_pos (by simp)] at hS; have hS : Sc w6 w.heap.size p m v6 D2 [] := hS; have HB := HB.trans hst.below)
        | go_in)
      go_wp2_with (first
        | (go_at_call 8; refine (enter_free ⟨#[121]⟩ 0 0 0 [⟨⟨#[121]⟩, 0, 0⟩] (by decide) (by rfl) F hS (by simp)).mono ?_; rintro e w7 ⟨rfl, v7, hS, hst⟩; have HB := HB.trans hst.below)
        | go_in)
      go_ret
      exact ⟨rfl, HB⟩
end Go.Proofs.Ytchgmfdojhbgaaa.MScope
namespace Go.Proofs.Ytchgmfdojhbgaaa.scopeHides
open Go.ChangeShapes Go.WideShapes Go.ChangeAt Go.RowKit Go.Proofs.Ytchgmfdojhbgaaa.Kit
open Go.ChangeMaps (open_string shut_string)
theorem own : ownKnob Try.prog.godebug = none := by kernel_rfl
set_option maxRecDepth 100000 in
theorem lifted (os : Os) (started : os.Started) (H : Type) (enc : TypeId × Value → H) :
    ReturnsInHanded {} Try.checked os 3 .any (Rows.scopeHidesSpec.pre6 enc Try.prog Try.f3 Rows.scopeHidesRow.domain false) (Rows.scopeHidesSpec.post enc Try.prog Try.f3 false true false false) := by
  refine returnsInHanded_of_change_sized (C := Try.checked) own started (by kernel_rfl) Try.func3
    (ChangeSpec.witness6 (enc := enc) (C := Try.checked) false ⟨#[], #[.int .u8 0, .int .u8 0, .int .u8 0], []⟩ 8 (by kernel_rfl) (by kernel_rfl) (by kernel_rfl) (by kernel_rfl)) ?_
  intro W base args ds gs before hval0 hW hcnd hsz0 _
  have hval : ∀ (j : Nat) t v, Try.f3.params[j]? = some t → args[j]? = some v → Value.okWide Try.prog W .any base t v := hval0
  have hW' := hW
  obtain ⟨p, q, hA0, hV, rfl, hfz, hnd⟩ := hW
  have hA : DataW.TrodAll enc Try.prog W 0 (fun _ => true) true Try.f3.params.toList args.toList ds p := hA0
  rw [Try.params3] at hA hval
  obtain ⟨v0, vs0, d0, ds0, p0, q0, hargs, rfl, rfl, h0, r0⟩ := trodAll_cons hA
  obtain ⟨v1, vs1, d1, ds1, p1, q1, rfl, rfl, rfl, h1, r1⟩ := trodAll_cons r0
  obtain ⟨v2, vs2, d2, ds2, p2, q2, rfl, rfl, rfl, h2, r2⟩ := trodAll_cons r1
  obtain ⟨rfl, rfl, rfl⟩ := trodAll_nil r2
  obtain rfl : args = #[v0, v1, v2] := by cases args; simp_all
  obtain ⟨rfl, rfl⟩ := trodVars_none hV
  obtain ⟨a0, rfl, rfl, rfl, w0⟩ := open_int Try.underlying5 (hval 0 5 v0 rfl rfl) h0
  obtain ⟨a1, rfl, rfl, rfl, w1⟩ := open_int Try.underlying5 (hval 1 5 v1 rfl rfl) h1
  obtain ⟨a2, rfl, rfl, rfl, w2⟩ := open_int Try.underlying5 (hval 2 5 v2 rfl rfl) h2
  clear hA0 hval0 hsz0
  obtain ⟨x0, y0⟩ := wf_bounds_u8 w0
  obtain ⟨x1, y1⟩ := wf_bounds_u8 w1
  obtain ⟨x2, y2⟩ := wf_bounds_u8 w2
  refine (MScope.hides.calls a0 a1 a2 W x0 y0 x1 y1 x2 y2).mono fun e W' ⟨he, bel⟩ => ?_
  subst he
  exact ⟨_, rfl, _, _, _, [], _, [], hW', trodAll_mk1 (shut_bool Try.underlying4 _), (trodAll_cons_mk (shut_int Try.underlying5 w0) (trodAll_cons_mk (shut_int Try.underlying5 w1) (trodAll_cons_mk (shut_int Try.underlying5 w2) trodAll_mk0))), rfl, bel.frame _, fun h => by cases h⟩
theorem over : Rows.scopeHidesRow.holds Try.pinned (OpenSpec.ofChange Rows.scopeHidesSpec) :=
  OpenClaim.holds_of_wide 3 Try.f3 rfl rfl rfl rfl rfl rfl rfl ⟨rfl, rfl, rfl, rfl, rfl⟩ rfl rfl rfl rfl rfl (by kernel_rfl) Try.func3 (by kernel_rfl)
    (of_decide_eq_true (by kernel_rfl)) (by unfold Func.isWrapper; first | (rw [if_pos (by decide +kernel)]; kernel_rfl) | (rw [if_neg (by decide +kernel)]; exact ⟨rfl, rfl⟩))
    (fun os started H enc _ => lifted os started H enc)
theorem proved : Rows.ScopeHidesSaid := over
end Go.Proofs.Ytchgmfdojhbgaaa.scopeHides
namespace Go.Proofs.Ytchgmfdojhbgaaa
/-- The row, under a short name, for the claim. -/
theorem scopeHides_holds : Rows.ScopeHidesSaid := scopeHides.proved
end Go.Proofs.Ytchgmfdojhbgaaa
