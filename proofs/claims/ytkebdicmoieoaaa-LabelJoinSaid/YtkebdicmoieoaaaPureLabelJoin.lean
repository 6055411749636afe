/-
The statement LabelJoin, of numbers alone: the label of some is Secret just if one of them is not Public. Condition: none beyond the statement's own.
-/
import Derived.Test.YtkebdicmoieoaaaPLabelJoinx1
import Derived.Test.YtkebdicmoieoaaaKit
namespace Go.Proofs.Ytkebdicmoieoaaa.Pure
open Go.RowKit Go.Proofs.Ytkebdicmoieoaaa.PLabelJoin Go.Proofs.YtkebdicmoieoaaaW.PrintWords Go.Proofs.YtkebdicmoieoaaaW.PrintLast Go.Proofs.Ytkebdicmoieoaaa.Kit

theorem awake_some : tautochronelaw02_awake.f 9 = some true := by decide +kernel

/-- What some are joined to: 1 just if one is not 0. -/
def joinOf (xs : List Int) : Int := if xs.all (· == 0) then 0 else 1
theorem join_snoc (xs : List Int) (x : Int) : joinOf (xs ++ [x]) = if x = 0 then joinOf xs else 1 := by
  unfold joinOf
  by_cases h : x = 0 <;> simp [h]
theorem join_loop (xs : List Int) (hl : xs.length ≤ 17592186044416) : ∀ (d i : Nat), i + d = xs.length → joinOf (xs.take i) = 0 →
    Ev (fun k => label_Join.l0 k xs (xs.length : Int) (i : Int)) (joinOf xs) := by
  intro d
  induction d with
  | zero =>
    intro i hi h0
    refine Ev.step (fun k => rfl) ?_
    have ht : xs.take i = xs := List.take_of_length_le (by omega)
    rw [ht] at h0
    exact Ev.neg (by omega) (Ev.done h0.symm)
  | succ d ih =>
    intro i hi h0
    have hlt : i < xs.length := by omega
    refine Ev.step (fun k => rfl) ?_
    refine Ev.pos (by omega) (Ev.pos (by omega) (Ev.pos (by omega) ?_))
    have e1 : xs.take i ++ [rd xs (i : Int)] = xs.take (i + 1) := by rw [rd_get _ _ hlt, List.take_succ_eq_append_getElem hlt]
    have e2 : wrap64 ((i : Int) + 1) = ((i + 1 : Nat) : Int) := by rw [wrap_in (by omega) (by omega)]; rfl
    simp only [e2]
    by_cases h : rd xs (i : Int) = 0
    · exact Ev.pos h (ih (i + 1) (by omega) (by rw [← e1, join_snoc, if_pos h, h0]))
    · refine Ev.neg h (Ev.done ?_)
      unfold joinOf
      rw [if_neg]
      intro ha
      rw [List.all_eq_true] at ha
      have := ha xs[i] (List.getElem_mem hlt)
      rw [rd_get _ _ hlt] at h
      exact h (by simpa using this)
theorem join_ev (xs : List Int) (hl : xs.length ≤ 17592186044416) : Ev (fun k => label_Join.f k xs) (joinOf xs) := by
  unfold label_Join.f
  exact join_loop xs hl xs.length 0 (by omega) (by simp [joinOf])
theorem law_loop (xs : List Int) (hl : xs.length ≤ 17592186044415) : ∀ (d i : Nat) (want : Int), i + d = xs.length → (want = joinOf (xs.take i)) →
    Ev (fun k => tautochronelaw02_LabelJoin.l0 k want (xs.take i) xs (xs.length : Int) (i : Int)) true := by
  intro d
  induction d with
  | zero =>
    intro i want hi hw
    refine Ev.step (fun k => rfl) ?_
    refine Ev.neg (by omega) ?_
    have ht : xs.take i = xs := List.take_of_length_le (by omega)
    rw [ht] at hw ⊢
    refine Ev.bind (join_ev xs (by omega)) ?_
    exact Ev.done (by simp [hw])
  | succ d ih =>
    intro i want hi hw
    have hlt : i < xs.length := by omega
    refine Ev.step (fun k => rfl) ?_
    refine Ev.pos (by omega) (Ev.pos (by omega) (Ev.pos (by omega) (Ev.pos (by rw [List.length_take]; omega) ?_)))
    refine Ev.pure rfl ?_
    have e1 : xs.take i ++ [rd xs (i : Int)] = xs.take (i + 1) := by rw [rd_get _ _ hlt, List.take_succ_eq_append_getElem hlt]
    have e2 : wrap64 ((i : Int) + 1) = ((i + 1 : Nat) : Int) := by rw [wrap_in (by omega) (by omega)]; rfl
    have e3 : joinOf (xs.take (i + 1)) = if rd xs (i : Int) = 0 then joinOf (xs.take i) else 1 := by rw [← e1, join_snoc]
    simp only [e1, e2]
    by_cases h0 : rd xs (i : Int) = 0
    · exact Ev.pos h0 (ih (i + 1) want (by omega) (by rw [e3, if_pos h0]; exact hw))
    · exact Ev.neg h0 (ih (i + 1) 1 (by omega) (by rw [e3, if_neg h0]))

theorem LabelJoin : tautochronelaw02_LabelJoin.Pure := by
  intro xs _ hl _
  refine Ev.rounds (g := fun k => tautochronelaw02_LabelJoin.f k xs) ?_
  unfold tautochronelaw02_LabelJoin.f
  refine Ev.bind (Ev.of tautochronelaw02_awake.mono awake_some) (Ev.pos rfl ?_)
  exact law_loop xs (by omega) xs.length 0 0 (by omega) (by simp [joinOf])

end Go.Proofs.Ytkebdicmoieoaaa.Pure
