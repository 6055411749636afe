/-
The statement WordShift, of numbers alone: shifts count round at 64; shifted there and back the high bits are gone. Condition: none beyond the statement's own.
-/
import Derived.Test.YtjlniahifmhjfaaMWordShiftx1
import Derived.Test.YtjlniahifmhjfaaKit
set_option linter.unusedSimpArgs false
set_option linter.unusedVariables false
namespace Go.Proofs.Ytjlniahifmhjfaa.Pure
open Go.RowKit Go.Proofs.Ytjlniahifmhjfaa.PWordShift Go.Proofs.YtjlniahifmhjfaaW.PrintWords Go.Proofs.YtjlniahifmhjfaaW.PrintLast Go.Proofs.YtjlniahifmhjfaaW.PrintMore Go.Proofs.Ytjlniahifmhjfaa.Kit

theorem awake_some : tautochronelaw01_awake.f = some true := by decide +kernel

theorem tmod64 {b : Int} (h0 : 0 ≤ b) : Int.tmod b 64 = b % 64 := Int.tmod_eq_emod_of_nonneg h0

theorem shl_is (a b : Int) (m : Nat) (h : Int.tmod b 64 = (m : Int)) (hm : m < 64) : word_Apply.f 6 a b = some (IntKind.u64.wrap (a * 2 ^ m)) := by
  simp only [word_Apply.f, show ¬ (6 : Int) = 0 by decide, show ¬ (6 : Int) = 1 by decide, show ¬ (6 : Int) = 2 by decide, show ¬ (6 : Int) = 3 by decide, show ¬ (6 : Int) = 4 by decide, show ¬ (6 : Int) = 5 by decide, if_false, if_true, h]
  rw [if_pos (by omega), shl, Int.toNat_natCast, Nat.min_eq_left (by simp only [IntKind.bits]; omega)]
theorem shr_is (a b : Int) (m : Nat) (h : Int.tmod b 64 = (m : Int)) (hm : m < 64) : word_Apply.f 7 a b = some (a / 2 ^ m) := by
  simp only [word_Apply.f, show ¬ (7 : Int) = 0 by decide, show ¬ (7 : Int) = 1 by decide, show ¬ (7 : Int) = 2 by decide, show ¬ (7 : Int) = 3 by decide, show ¬ (7 : Int) = 4 by decide, show ¬ (7 : Int) = 5 by decide, show ¬ (7 : Int) = 6 by decide, if_false, if_true, h]
  rw [if_pos (by omega), shr, Int.toNat_natCast, Nat.min_eq_left (by simp only [IntKind.bits]; omega)]

theorem mask_is (m : Nat) (hm : m < 64) : IntKind.u64.wrap (shl .u64 1 (IntKind.u64.wrap (64 - (m : Int))) - 1) = 2 ^ (64 - m) - 1 := by
  have e : IntKind.u64.wrap (64 - (m : Int)) = ((64 - m : Nat) : Int) := by rw [IntKind.wrap_u64]; omega
  rw [e, shl, Int.toNat_natCast, Nat.min_eq_left (by simp only [IntKind.bits]; omega), IntKind.wrap_u64, IntKind.wrap_u64, Int.one_mul]
  rcases Nat.eq_zero_or_pos m with h | h
  · subst h; decide
  · have h1 : (2 : Int) ^ (64 - m) ≤ 2 ^ 63 := by exact_mod_cast Nat.pow_le_pow_right (by decide) (show 64 - m ≤ 63 by omega)
    have h2 : (0 : Int) < 2 ^ (64 - m) := by exact_mod_cast Nat.two_pow_pos (64 - m)
    have e63 : (2 : Int) ^ 63 = 9223372036854775808 := by decide
    omega

theorem there_back (a : Int) (m : Nat) (hm : m < 64) : IntKind.u64.wrap (a * 2 ^ m) / 2 ^ m = a % 2 ^ (64 - m) := by
  have h2 : (0 : Int) < 2 ^ m := by exact_mod_cast Nat.two_pow_pos m
  have e : (18446744073709551616 : Int) = 2 ^ m * 2 ^ (64 - m) := by
    rw [← Int.pow_add, show m + (64 - m) = 64 by omega]; decide
  rw [IntKind.wrap_u64, e, Int.mul_comm a, Int.mul_emod_mul_of_pos _ _ h2, Int.mul_ediv_cancel_left _ (by omega)]

theorem WordShift : tautochronelaw01_WordShift.Pure := by
  intro a b ha hb
  obtain ⟨ha0, ha1⟩ := wf_bounds_u64 ha
  obtain ⟨hb0, hb1⟩ := wf_bounds_u64 hb
  have hm := tmod64 hb0
  obtain ⟨m, hm1⟩ : ∃ m : Nat, Int.tmod b 64 = (m : Int) := Int.eq_ofNat_of_zero_le (by rw [hm]; omega)
  have hm2 : m < 64 := by omega
  have hmm : Int.tmod (m : Int) 64 = (m : Int) := by rw [tmod64 (by omega)]; omega
  unfold tautochronelaw01_WordShift.f
  rw [awake_some, hm1, shl_is a b m hm1 hm2, shr_is a b m hm1 hm2, shl_is a m m hmm hm2, shr_is a m m hmm hm2]
  simp only [Option.bind_some, if_true]
  rw [shr_is _ b m hm1 hm2]
  simp only [Option.bind_some]
  have e : IntKind.u64.wrap (64 - (m : Int)) = ((64 - m : Nat) : Int) := by rw [IntKind.wrap_u64]; omega
  rw [if_pos (by rw [e]; omega), mask_is m hm2, there_back a m hm2]
  have hb := bits_mask .u64 64 (by decide) (fun n p q => by rw [IntKind.wrap_u64]; omega) (64 - m) (by omega) a ha0 (by omega)
  rw [hb, if_pos rfl, shl_is _ b m hm1 hm2]
  simp only [Option.bind_some]
  rw [if_pos (by omega)]
  simp only [shl, shr, Int.toNat_natCast]
  rw [Nat.min_eq_left (by simp only [IntKind.bits]; omega)]
  simp

end Go.Proofs.Ytjlniahifmhjfaa.Pure
