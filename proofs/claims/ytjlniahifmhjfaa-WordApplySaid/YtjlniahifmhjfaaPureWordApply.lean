/-
The statement WordApply, of numbers alone: what an operator makes of two words is what the document says. Condition: none beyond the statement's own.
-/
import Derived.Test.YtjlniahifmhjfaaPWordApplyx1
import Derived.Test.YtjlniahifmhjfaaKit
set_option linter.unusedSimpArgs false
set_option linter.unusedVariables false
namespace Go.Proofs.Ytjlniahifmhjfaa.Pure
open Go.RowKit Go.Proofs.Ytjlniahifmhjfaa.PWordApply Go.Proofs.YtjlniahifmhjfaaW.PrintWords Go.Proofs.YtjlniahifmhjfaaW.PrintLast Go.Proofs.YtjlniahifmhjfaaW.PrintMore Go.Proofs.Ytjlniahifmhjfaa.Kit

theorem awake_some : tautochronelaw01_awake.f = some true := by decide +kernel

theorem tmod64 {b : Int} (h0 : 0 ≤ b) : Int.tmod b 64 = b % 64 := Int.tmod_eq_emod_of_nonneg h0

theorem shl_loop (a b : Int) (m : Nat) (hb : Int.tmod b 64 = (m : Int)) (hm : m < 64) (hf : word_Apply.f 6 a b = some (IntKind.u64.wrap (a * 2 ^ m))) :
    ∀ (d i : Nat), i + d = m → ∀ x, x = IntKind.u64.wrap (a * 2 ^ i) → Ev (fun k => tautochronelaw01_WordApply.l0 k 6 a b x (i : Int)) true := by
  intro d
  induction d with
  | zero =>
    intro i hi x hx
    refine Ev.step (fun k => rfl) ?_
    refine Ev.neg (by rw [hb]; omega) (Ev.pure hf (Ev.done ?_))
    obtain rfl : i = m := by omega
    rw [hx]; simp
  | succ d ih =>
    intro i hi x hx
    refine Ev.step (fun k => rfl) ?_
    refine Ev.pos (by rw [hb]; omega) ?_
    have e2 : IntKind.u64.wrap ((i : Int) + 1) = ((i + 1 : Nat) : Int) := by rw [IntKind.wrap_u64]; omega
    rw [e2]
    refine ih (i + 1) (by omega) _ ?_
    rw [hx, Int.pow_succ, ← Int.mul_assoc, IntKind.wrap_u64, IntKind.wrap_u64, IntKind.wrap_u64]
    omega

theorem shr_loop (a b : Int) (m : Nat) (h0 : 0 ≤ a) (h1 : a ≤ 18446744073709551615) (hb : Int.tmod b 64 = (m : Int)) (hm : m < 64) (hf : word_Apply.f 7 a b = some (a / 2 ^ m)) :
    ∀ (d i : Nat), i + d = m → ∀ x, x = a / 2 ^ i → Ev (fun k => tautochronelaw01_WordApply.l1 k 7 a b x (i : Int)) true := by
  intro d
  induction d with
  | zero =>
    intro i hi x hx
    refine Ev.step (fun k => rfl) ?_
    refine Ev.neg (by rw [hb]; omega) (Ev.pure hf (Ev.done ?_))
    obtain rfl : i = m := by omega
    rw [hx]; simp
  | succ d ih =>
    intro i hi x hx
    refine Ev.step (fun k => rfl) ?_
    refine Ev.pos (by rw [hb]; omega) ?_
    have e2 : IntKind.u64.wrap ((i : Int) + 1) = ((i + 1 : Nat) : Int) := by rw [IntKind.wrap_u64]; omega
    rw [e2]
    refine ih (i + 1) (by omega) _ ?_
    have hp : (0 : Int) < 2 ^ i := by exact_mod_cast Nat.two_pow_pos i
    have hx0 : 0 ≤ x := by rw [hx]; exact Int.ediv_nonneg h0 (by omega)
    have hx1 : x ≤ a := by rw [hx]; exact Int.ediv_le_self _ h0
    rw [Int.tdiv_eq_ediv_of_nonneg hx0, IntKind.wrap_u64, Int.pow_succ, ← Int.ediv_ediv_of_nonneg (by omega), ← hx]
    omega

theorem WordApply : tautochronelaw01_WordApply.Pure := by
  intro op a b _ ha hb
  obtain ⟨ha0, ha1⟩ := wf_bounds_u64 ha
  obtain ⟨hb0, hb1⟩ := wf_bounds_u64 hb
  refine Ev.rounds (g := fun k => tautochronelaw01_WordApply.f k op a b) ?_
  unfold tautochronelaw01_WordApply.f
  rw [awake_some]
  simp only [Option.bind_some, if_true]
  have hm := tmod64 hb0
  obtain ⟨m, hm1⟩ : ∃ m : Nat, Int.tmod b 64 = (m : Int) := Int.eq_ofNat_of_zero_le (by rw [hm]; omega)
  have hm2 : m < 64 := by omega
  by_cases h0 : op = 0
  · subst h0; refine Ev.fix ?_; simp [word_Apply.f]
  by_cases h1 : op = 1
  · subst h1; refine Ev.fix ?_; simp [word_Apply.f]
  by_cases h2 : op = 2
  · subst h2; refine Ev.fix ?_; simp [word_Apply.f]
  by_cases h3 : op = 3
  · subst h3; refine Ev.fix ?_; simp [word_Apply.f]
  by_cases h4 : op = 4
  · subst h4; refine Ev.fix ?_; simp [word_Apply.f]
  by_cases h5 : op = 5
  · subst h5; refine Ev.fix ?_; simp [word_Apply.f]
  by_cases h6 : op = 6
  · subst h6
    simp only [if_pos, if_neg, show ¬ (6 : Int) = 0 by decide, show ¬ (6 : Int) = 1 by decide, show ¬ (6 : Int) = 2 by decide, show ¬ (6 : Int) = 3 by decide, show ¬ (6 : Int) = 4 by decide, show ¬ (6 : Int) = 5 by decide, if_false]
    refine shl_loop a b m hm1 hm2 ?_ m 0 (by omega) a ?_
    · simp only [word_Apply.f, show ¬ (6 : Int) = 0 by decide, show ¬ (6 : Int) = 1 by decide, show ¬ (6 : Int) = 2 by decide, show ¬ (6 : Int) = 3 by decide, show ¬ (6 : Int) = 4 by decide, show ¬ (6 : Int) = 5 by decide, if_false, if_true, hm1]
      rw [if_pos (by omega), shl, Int.toNat_natCast, Nat.min_eq_left (by simp only [IntKind.bits]; omega)]
    · rw [IntKind.wrap_u64]; simp; omega
  by_cases h7 : op = 7
  · subst h7
    simp only [show ¬ (7 : Int) = 0 by decide, show ¬ (7 : Int) = 1 by decide, show ¬ (7 : Int) = 2 by decide, show ¬ (7 : Int) = 3 by decide, show ¬ (7 : Int) = 4 by decide, show ¬ (7 : Int) = 5 by decide, show ¬ (7 : Int) = 6 by decide, if_false, if_true]
    refine shr_loop a b m ha0 ha1 hm1 hm2 ?_ m 0 (by omega) a (by simp)
    simp only [word_Apply.f, show ¬ (7 : Int) = 0 by decide, show ¬ (7 : Int) = 1 by decide, show ¬ (7 : Int) = 2 by decide, show ¬ (7 : Int) = 3 by decide, show ¬ (7 : Int) = 4 by decide, show ¬ (7 : Int) = 5 by decide, show ¬ (7 : Int) = 6 by decide, if_false, if_true, hm1]
    rw [if_pos (by omega), shr, Int.toNat_natCast, Nat.min_eq_left (by simp only [IntKind.bits]; omega)]
  by_cases h8 : op = 8
  · subst h8
    simp only [show ¬ (8 : Int) = 0 by decide, show ¬ (8 : Int) = 1 by decide, show ¬ (8 : Int) = 2 by decide, show ¬ (8 : Int) = 3 by decide, show ¬ (8 : Int) = 4 by decide, show ¬ (8 : Int) = 5 by decide, show ¬ (8 : Int) = 6 by decide, show ¬ (8 : Int) = 7 by decide, if_false, if_true]
    by_cases e : a = b
    · have e1 : (a == b) = true := beq_iff_eq.mpr e
      have ef : word_Apply.f 8 a b = some 1 := by simp [word_Apply.f, word_truth.f, e1]
      exact Ev.pos e (Ev.pure ef (Ev.done rfl))
    · have e1 : (a == b) = false := beq_eq_false_iff_ne.mpr e
      have ef : word_Apply.f 8 a b = some 0 := by simp [word_Apply.f, word_truth.f, e1]
      exact Ev.neg e (Ev.pure ef (Ev.done rfl))
  by_cases h9 : op = 9
  · subst h9
    simp only [show ¬ (9 : Int) = 0 by decide, show ¬ (9 : Int) = 1 by decide, show ¬ (9 : Int) = 2 by decide, show ¬ (9 : Int) = 3 by decide, show ¬ (9 : Int) = 4 by decide, show ¬ (9 : Int) = 5 by decide, show ¬ (9 : Int) = 6 by decide, show ¬ (9 : Int) = 7 by decide, show ¬ (9 : Int) = 8 by decide, if_false, if_true]
    by_cases e : a < b
    · have ef : word_Apply.f 9 a b = some 1 := by simp [word_Apply.f, word_truth.f, e]
      exact Ev.pos e (Ev.pure ef (Ev.done rfl))
    · have ef : word_Apply.f 9 a b = some 0 := by simp [word_Apply.f, word_truth.f, e]
      exact Ev.neg e (Ev.pure ef (Ev.done rfl))
  simp only [h0, h1, h2, h3, h4, h5, h6, h7, h8, h9, if_false]
  refine Ev.fix ?_
  simp [word_Apply.f, h0, h1, h2, h3, h4, h5, h6, h7, h8, h9]

end Go.Proofs.Ytjlniahifmhjfaa.Pure
