/-
The statement WordRound, of numbers alone: what is added is taken away again; a word less itself is 0; not twice is nothing. Condition: none beyond the statement's own.
-/
import Derived.Test.YtjlniahifmhjfaaPWordRoundx1
import Derived.Test.YtjlniahifmhjfaaKit
set_option linter.unusedSimpArgs false
set_option linter.unusedVariables false
namespace Go.Proofs.Ytjlniahifmhjfaa.Pure
open Go.RowKit Go.Proofs.Ytjlniahifmhjfaa.PWordRound Go.Proofs.YtjlniahifmhjfaaW.PrintWords Go.Proofs.YtjlniahifmhjfaaW.PrintLast Go.Proofs.YtjlniahifmhjfaaW.PrintMore Go.Proofs.Ytjlniahifmhjfaa.Kit

theorem awake_some : tautochronelaw01_awake.f = some true := by decide +kernel

theorem xor_back (a b : Int) (ha0 : 0 ≤ a) (ha1 : a ≤ 18446744073709551615) (hb0 : 0 ≤ b) (hb1 : b ≤ 18446744073709551615) : Go.bits .xor .u64 (Go.bits .xor .u64 a b) b = a := by
  obtain ⟨n, rfl⟩ := Int.eq_ofNat_of_zero_le ha0
  obtain ⟨m, rfl⟩ := Int.eq_ofNat_of_zero_le hb0
  have hx : n ^^^ m < 2 ^ 64 := Nat.xor_lt_two_pow (by omega) (by omega)
  rw [bits_xor_u64_nat n m (by omega) (by omega), bits_xor_u64_nat _ m (by omega) (by omega), Nat.xor_assoc, Nat.xor_self, Nat.xor_zero]

theorem WordRound : tautochronelaw01_WordRound.Pure := by
  intro a b ha hb
  obtain ⟨ha0, ha1⟩ := wf_bounds_u64 ha
  obtain ⟨hb0, hb1⟩ := wf_bounds_u64 hb
  unfold tautochronelaw01_WordRound.f
  rw [awake_some]
  have e1 : IntKind.u64.wrap (IntKind.u64.wrap (a + b) - b) = a := by rw [IntKind.wrap_u64, IntKind.wrap_u64]; omega
  have e2 : IntKind.u64.wrap (a - a) = 0 := by rw [IntKind.wrap_u64]; omega
  simp only [word_Apply.f, Option.bind_some, if_true, show ¬ (1 : Int) = 0 by decide, show ¬ (5 : Int) = 0 by decide, show ¬ (5 : Int) = 1 by decide, show ¬ (5 : Int) = 2 by decide, show ¬ (5 : Int) = 3 by decide, show ¬ (5 : Int) = 4 by decide, if_false, e1, xor_back a b ha0 ha1 hb0 hb1, e2,
    show ¬ (8 : Int) = 0 by decide, show ¬ (8 : Int) = 1 by decide, show ¬ (8 : Int) = 2 by decide, show ¬ (8 : Int) = 3 by decide, show ¬ (8 : Int) = 4 by decide, show ¬ (8 : Int) = 5 by decide, show ¬ (8 : Int) = 6 by decide, show ¬ (8 : Int) = 7 by decide,
    show ¬ (9 : Int) = 0 by decide, show ¬ (9 : Int) = 1 by decide, show ¬ (9 : Int) = 2 by decide, show ¬ (9 : Int) = 3 by decide, show ¬ (9 : Int) = 4 by decide, show ¬ (9 : Int) = 5 by decide, show ¬ (9 : Int) = 6 by decide, show ¬ (9 : Int) = 7 by decide, show ¬ (9 : Int) = 8 by decide]
  rcases Int.lt_trichotomy a b with h | h | h
  · have h1 : (a == b) = false := beq_eq_false_iff_ne.mpr (by omega)
    have h2 : decide (a < b) = true := decide_eq_true h
    have h3 : decide (b < a) = false := decide_eq_false (by omega)
    simp only [h1, h2, h3, word_truth.f]; decide +kernel
  · have h1 : (a == b) = true := beq_iff_eq.mpr h
    have h2 : decide (a < b) = false := decide_eq_false (by omega)
    have h3 : decide (b < a) = false := decide_eq_false (by omega)
    simp only [h1, h2, h3, word_truth.f]; decide +kernel
  · have h1 : (a == b) = false := beq_eq_false_iff_ne.mpr (by omega)
    have h2 : decide (a < b) = false := decide_eq_false (by omega)
    have h3 : decide (b < a) = true := decide_eq_true h
    simp only [h1, h2, h3, word_truth.f]; decide +kernel

end Go.Proofs.Ytjlniahifmhjfaa.Pure
