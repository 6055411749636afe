/-
The statement WordNone, of numbers alone: of what is no operator nothing comes. Condition: none beyond the statement's own.
-/
import Derived.Test.YtjlniahifmhjfabPWordNonex1
import Derived.Test.YtjlniahifmhjfabKit
set_option linter.unusedSimpArgs false
set_option linter.unusedVariables false
namespace Go.Proofs.Ytjlniahifmhjfab.Pure
open Go.RowKit Go.Proofs.Ytjlniahifmhjfab.PWordNone Go.Proofs.YtjlniahifmhjfabW.PrintWords Go.Proofs.YtjlniahifmhjfabW.PrintLast Go.Proofs.YtjlniahifmhjfabW.PrintMore Go.Proofs.Ytjlniahifmhjfab.Kit

theorem awake_some : tautochronelaw01_awake.f = some true := by decide +kernel
theorem tight_out (a : Int) (h : a < 0 ∨ 9 < a) : word_Tight.f a = some 0 := by
  unfold word_Tight.f
  simp only [Option.bind_some]
  rcases h with h | h
  · rw [if_pos h]
  · rw [if_neg (by omega), if_pos (by simp; omega)]
theorem tight_in : ∀ n : Nat, n < 10 → (word_Tight.f (n : Int)).bind (fun t => some (decide (t > 0))) = some true := by decide +kernel

theorem WordNone : tautochronelaw01_WordNone.Pure := by
  intro op a b _ _ _
  refine ⟨1, ?_⟩
  unfold tautochronelaw01_WordNone.f
  rw [awake_some]
  simp only [Option.bind_some, if_true]
  by_cases h : 0 ≤ op ∧ op < 10
  · obtain ⟨n, rfl⟩ := Int.eq_ofNat_of_zero_le h.1
    rw [if_pos (by omega), show decide ((n : Int) < 10) = true from decide_eq_true h.2]
    simp only [tautochronelaw01_WordNone.j0, if_true]
    exact tight_in n (by omega)
  · have ho : op < 0 ∨ 9 < op := by omega
    have e : (if op ≥ 0 then tautochronelaw01_WordNone.j0 1 op a b (decide (op < 10)) else tautochronelaw01_WordNone.j0 1 op a b false) = tautochronelaw01_WordNone.j0 1 op a b false := by
      split
      · rw [show decide (op < 10) = false from decide_eq_false (by omega)]
      · rfl
    rw [e]
    simp only [tautochronelaw01_WordNone.j0, Bool.false_eq_true, if_false]
    have ha : word_Apply.f op a b = some 0 := by
      unfold word_Apply.f
      iterate 10 rw [if_neg (by omega)]
    have ht : word_Turns.f op = some false := by
      unfold word_Turns.f
      iterate 6 rw [if_neg (by omega)]
    rw [ha, ht, tight_out op ho]
    simp

end Go.Proofs.Ytjlniahifmhjfab.Pure
