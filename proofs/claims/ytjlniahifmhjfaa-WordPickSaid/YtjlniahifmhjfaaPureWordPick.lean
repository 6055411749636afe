/-
The statement WordPick, of numbers alone: of two words the first is picked just if the third is not 0. Condition: none beyond the statement's own.
-/
import Derived.Test.YtjlniahifmhjfaaPWordPickx1
import Derived.Test.YtjlniahifmhjfaaKit
set_option linter.unusedSimpArgs false
set_option linter.unusedVariables false
namespace Go.Proofs.Ytjlniahifmhjfaa.Pure
open Go.RowKit Go.Proofs.Ytjlniahifmhjfaa.PWordPick Go.Proofs.YtjlniahifmhjfaaW.PrintWords Go.Proofs.YtjlniahifmhjfaaW.PrintLast Go.Proofs.YtjlniahifmhjfaaW.PrintMore Go.Proofs.Ytjlniahifmhjfaa.Kit

theorem awake_some : tautochronelaw01_awake.f = some true := by decide +kernel

theorem and_all (a : Int) (h0 : 0 ≤ a) (h1 : a ≤ 18446744073709551615) : Go.bits .and .u64 a 18446744073709551615 = a := by
  have h := bits_mask .u64 64 (by decide) (fun n p q => by rw [IntKind.wrap_u64]; omega) 64 (by decide) a h0 (by omega)
  have e : (2 : Int) ^ 64 - 1 = 18446744073709551615 := by decide
  rw [e] at h
  rw [h]; omega
theorem and_none (a : Int) : Go.bits .and .u64 a 0 = 0 := by
  show IntKind.u64.wrap ((BitVec.ofInt 64 a &&& BitVec.ofInt 64 0).toNat : Int) = 0
  rw [show BitVec.ofInt 64 0 = 0#64 by decide, BitVec.and_zero]
  decide
theorem not_all (a : Int) : Go.bits .andNot .u64 a 18446744073709551615 = 0 := by
  show IntKind.u64.wrap ((BitVec.ofInt 64 a &&& ~~~(BitVec.ofInt 64 18446744073709551615)).toNat : Int) = 0
  rw [show ~~~(BitVec.ofInt 64 18446744073709551615) = 0#64 by decide, BitVec.and_zero]
  decide
theorem not_none (a : Int) (h0 : 0 ≤ a) (h1 : a ≤ 18446744073709551615) : Go.bits .andNot .u64 a 0 = a := by
  obtain ⟨n, rfl⟩ := Int.eq_ofNat_of_zero_le h0
  show IntKind.u64.wrap ((BitVec.ofInt 64 (n : Int) &&& ~~~(BitVec.ofInt 64 0)).toNat : Int) = _
  rw [show ~~~(BitVec.ofInt 64 0) = BitVec.allOnes 64 by decide, BitVec.and_allOnes, BitVec.ofInt_natCast, BitVec.toNat_ofNat, IntKind.wrap_u64]
  omega
theorem or_left (a : Int) (h0 : 0 ≤ a) (h1 : a ≤ 18446744073709551615) : Go.bits .or .u64 a 0 = a := by
  obtain ⟨n, rfl⟩ := Int.eq_ofNat_of_zero_le h0
  have := bits_or_u64_nat n 0 (by omega) (by omega)
  simpa using this
theorem or_right (a : Int) (h0 : 0 ≤ a) (h1 : a ≤ 18446744073709551615) : Go.bits .or .u64 0 a = a := by
  obtain ⟨n, rfl⟩ := Int.eq_ofNat_of_zero_le h0
  have := bits_or_u64_nat 0 n (by omega) (by omega)
  simpa using this

theorem WordPick : tautochronelaw01_WordPick.Pure := by
  intro c a b hc ha hb
  obtain ⟨ha0, ha1⟩ := wf_bounds_u64 ha
  obtain ⟨hb0, hb1⟩ := wf_bounds_u64 hb
  unfold tautochronelaw01_WordPick.f word_Pick.f word_truth.f
  rw [awake_some]
  have e0 : IntKind.u64.wrap (-0) = 0 := by decide
  have e1 : IntKind.u64.wrap (-1) = 18446744073709551615 := by decide
  by_cases h : c = 0
  · subst h
    simp only [Option.bind_some, if_true, bne_self_eq_false, if_false, Bool.false_eq_true, e0, and_none, not_none b hb0 hb1, or_right b hb0 hb1, beq_self_eq_true]
  · have hne : (c != 0) = true := bne_iff_ne.mpr h
    simp only [Option.bind_some, if_true, hne, h, if_false, e1, and_all a ha0 ha1, not_all, or_left a ha0 ha1, beq_self_eq_true]

end Go.Proofs.Ytjlniahifmhjfaa.Pure
