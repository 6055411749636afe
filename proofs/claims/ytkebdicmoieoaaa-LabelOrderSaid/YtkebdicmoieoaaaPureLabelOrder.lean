/-
The statement LabelOrder, of numbers alone: what is joined goes just where all of it goes. Condition: none beyond the statement's own.
-/
import Derived.Test.YtkebdicmoieoaaaPLabelOrderx1
import Derived.Test.YtkebdicmoieoaaaKit
namespace Go.Proofs.Ytkebdicmoieoaaa.Pure
open Go.RowKit Go.Proofs.Ytkebdicmoieoaaa.PLabelOrder Go.Proofs.YtkebdicmoieoaaaW.PrintWords Go.Proofs.YtkebdicmoieoaaaW.PrintLast Go.Proofs.Ytkebdicmoieoaaa.Kit

theorem awake_some : tautochronelaw02_awake.f 9 = some true := by decide +kernel

/-- What some are joined to: 1 just if one is not 0. -/
def joinOf (xs : List Int) : Int := if xs.all (· == 0) then 0 else 1
theorem join_snoc (xs : List Int) (x : Int) : joinOf (xs ++ [x]) = if x = 0 then joinOf xs else 1 := by
  unfold joinOf
  by_cases h : x = 0 <;> simp [h]
theorem join_loop (xs : List Int) (hl : xs.length ≤ 17592186044416) : ∀ (d i : Nat), i + d = xs.length → joinOf (xs.take i) = 0 →
    Ev (fun k => label_Join.l0 k xs (xs.length : Int) (i : Int)) (joinOf xs) := by
  intro d
  induction d with
  | zero =>
    intro i hi h0
    refine Ev.step (fun k => rfl) ?_
    have ht : xs.take i = xs := List.take_of_length_le (by omega)
    rw [ht] at h0
    exact Ev.neg (by omega) (Ev.done h0.symm)
  | succ d ih =>
    intro i hi h0
    have hlt : i < xs.length := by omega
    refine Ev.step (fun k => rfl) ?_
    refine Ev.pos (by omega) (Ev.pos (by omega) (Ev.pos (by omega) ?_))
    have e1 : xs.take i ++ [rd xs (i : Int)] = xs.take (i + 1) := by rw [rd_get _ _ hlt, List.take_succ_eq_append_getElem hlt]
    have e2 : wrap64 ((i : Int) + 1) = ((i + 1 : Nat) : Int) := by rw [wrap_in (by omega) (by omega)]; rfl
    simp only [e2]
    by_cases h : rd xs (i : Int) = 0
    · exact Ev.pos h (ih (i + 1) (by omega) (by rw [← e1, join_snoc, if_pos h, h0]))
    · refine Ev.neg h (Ev.done ?_)
      unfold joinOf
      rw [if_neg]
      intro ha
      rw [List.all_eq_true] at ha
      have := ha xs[i] (List.getElem_mem hlt)
      rw [rd_get _ _ hlt] at h
      exact h (by simpa using this)
theorem join_ev (xs : List Int) (hl : xs.length ≤ 17592186044416) : Ev (fun k => label_Join.f k xs) (joinOf xs) := by
  unfold label_Join.f
  exact join_loop xs hl xs.length 0 (by omega) (by simp [joinOf])
theorem join_three (k : Nat) (a b : Int) : label_Join.f (k + 3) [a, b] = some (joinOf [a, b]) := by
  by_cases ha : a = 0 <;> by_cases hb : b = 0 <;> simp [label_Join.f, label_Join.l0, joinOf, rd, wrap64, ha, hb]

theorem LabelOrder : tautochronelaw02_LabelOrder.Pure := by
  intro a b c _ _ _
  refine ⟨9, ?_⟩
  unfold tautochronelaw02_LabelOrder.f
  rw [awake_some, join_three 6 a b, join_three 6 b a]
  by_cases ha : a = 0 <;> by_cases hb : b = 0 <;> by_cases hc : c = 0 <;> simp [label_Flows.f, joinOf, ha, hb, hc]

end Go.Proofs.Ytkebdicmoieoaaa.Pure
