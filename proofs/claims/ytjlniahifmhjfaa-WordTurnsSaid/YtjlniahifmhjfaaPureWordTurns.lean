/-
The statement WordTurns, of numbers alone: operators that do not care for the order are those that the document names, and do not care. Condition: none beyond the statement's own.
-/
import Derived.Test.YtjlniahifmhjfaaMWordTurnsx1
import Derived.Test.YtjlniahifmhjfaaKit
set_option linter.unusedSimpArgs false
set_option linter.unusedVariables false
namespace Go.Proofs.Ytjlniahifmhjfaa.Pure
open Go.RowKit Go.Proofs.Ytjlniahifmhjfaa.PWordTurns Go.Proofs.YtjlniahifmhjfaaW.PrintWords Go.Proofs.YtjlniahifmhjfaaW.PrintLast Go.Proofs.YtjlniahifmhjfaaW.PrintMore Go.Proofs.Ytjlniahifmhjfaa.Kit

theorem awake_some : tautochronelaw01_awake.f = some true := by decide +kernel
theorem and_turn (a b : Int) : Go.bits .and .u64 a b = Go.bits .and .u64 b a := by simp only [Go.bits, BitVec.and_comm]
theorem or_turn (a b : Int) : Go.bits .or .u64 a b = Go.bits .or .u64 b a := by simp only [Go.bits, BitVec.or_comm]
theorem xor_turn (a b : Int) : Go.bits .xor .u64 a b = Go.bits .xor .u64 b a := by simp only [Go.bits, BitVec.xor_comm]

theorem WordTurns : tautochronelaw01_WordTurns.Pure := by
  intro op a b _ _ _
  unfold tautochronelaw01_WordTurns.f
  rw [awake_some]
  simp only [Option.bind_some, if_true]
  by_cases h0 : op = 0
  · subst h0; simp [word_Apply.f, word_Turns.f, Int.add_comm]
  by_cases h2 : op = 2
  · subst h2; simp [word_Apply.f, word_Turns.f, Int.mul_comm]
  by_cases h3 : op = 3
  · subst h3; simp [word_Apply.f, word_Turns.f, and_turn a b]
  by_cases h4 : op = 4
  · subst h4; simp [word_Apply.f, word_Turns.f, or_turn a b]
  by_cases h5 : op = 5
  · subst h5; simp [word_Apply.f, word_Turns.f, xor_turn a b]
  by_cases h8 : op = 8
  · subst h8
    have hx : ∀ c d : Int, word_Apply.f 8 c d = some (if c = d then 1 else 0) := by
      intro c d
      by_cases h : c = d
      · have e1 : (c == d) = true := beq_iff_eq.mpr h
        simp [word_Apply.f, word_truth.f, h]
      · have e1 : (c == d) = false := beq_eq_false_iff_ne.mpr h
        simp [word_Apply.f, word_truth.f, e1, h]
    rw [hx a b, hx b a]
    have e : (if b = a then (1 : Int) else 0) = if a = b then 1 else 0 := by
      by_cases h : a = b
      · rw [if_pos h, if_pos h.symm]
      · rw [if_neg h, if_neg (fun h2 => h h2.symm)]
    rw [e]
    simp [word_Turns.f]
  simp [word_Turns.f, h0, h2, h3, h4, h5, h8]

end Go.Proofs.Ytjlniahifmhjfaa.Pure
