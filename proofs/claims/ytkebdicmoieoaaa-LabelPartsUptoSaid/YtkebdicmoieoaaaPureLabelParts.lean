/-
The statement LabelParts, of numbers alone: the label of two lists is that of the labels of both. Condition: what came in is of bulk at most 1048576.
-/
import Derived.Test.YtkebdicmoieoaaaVLabelParts
import Derived.Test.YtkebdicmoieoaaaKit
namespace Go.Proofs.Ytkebdicmoieoaaa.Pure
open Go.RowKit Go.Proofs.Ytkebdicmoieoaaa.PLabelParts Go.Proofs.YtkebdicmoieoaaaW.PrintWords Go.Proofs.YtkebdicmoieoaaaW.PrintLast Go.Proofs.Ytkebdicmoieoaaa.Kit

theorem awake_some : tautochronelaw02_awake.f 9 = some true := by decide +kernel

/-- What some are joined to: 1 just if one is not 0. -/
def joinOf (xs : List Int) : Int := if xs.all (· == 0) then 0 else 1
theorem join_snoc (xs : List Int) (x : Int) : joinOf (xs ++ [x]) = if x = 0 then joinOf xs else 1 := by
  unfold joinOf
  by_cases h : x = 0 <;> simp [h]
theorem join_loop (xs : List Int) (hl : xs.length ≤ 17592186044416) : ∀ (d i : Nat), i + d = xs.length → joinOf (xs.take i) = 0 →
    Ev (fun k => label_Join.l0 k xs (xs.length : Int) (i : Int)) (joinOf xs) := by
  intro d
  induction d with
  | zero =>
    intro i hi h0
    refine Ev.step (fun k => rfl) ?_
    have ht : xs.take i = xs := List.take_of_length_le (by omega)
    rw [ht] at h0
    exact Ev.neg (by omega) (Ev.done h0.symm)
  | succ d ih =>
    intro i hi h0
    have hlt : i < xs.length := by omega
    refine Ev.step (fun k => rfl) ?_
    refine Ev.pos (by omega) (Ev.pos (by omega) (Ev.pos (by omega) ?_))
    have e1 : xs.take i ++ [rd xs (i : Int)] = xs.take (i + 1) := by rw [rd_get _ _ hlt, List.take_succ_eq_append_getElem hlt]
    have e2 : wrap64 ((i : Int) + 1) = ((i + 1 : Nat) : Int) := by rw [wrap_in (by omega) (by omega)]; rfl
    simp only [e2]
    by_cases h : rd xs (i : Int) = 0
    · exact Ev.pos h (ih (i + 1) (by omega) (by rw [← e1, join_snoc, if_pos h, h0]))
    · refine Ev.neg h (Ev.done ?_)
      unfold joinOf
      rw [if_neg]
      intro ha
      rw [List.all_eq_true] at ha
      have := ha xs[i] (List.getElem_mem hlt)
      rw [rd_get _ _ hlt] at h
      exact h (by simpa using this)
theorem join_ev (xs : List Int) (hl : xs.length ≤ 17592186044416) : Ev (fun k => label_Join.f k xs) (joinOf xs) := by
  unfold label_Join.f
  exact join_loop xs hl xs.length 0 (by omega) (by simp [joinOf])
theorem join_append (xs ys : List Int) : joinOf (xs ++ ys) = joinOf [joinOf xs, joinOf ys] := by
  unfold joinOf
  by_cases h : xs.all (· == 0) = true <;> by_cases h2 : ys.all (· == 0) = true <;> simp [h, h2]
theorem last_loop (xs ys : List Int) (hl : xs.length + ys.length ≤ 1048576) : ∀ (d i : Nat), i + d = ys.length →
    Ev (fun k => tautochronelaw02_LabelParts.l1 k xs (ys.take i) ys (ys.length : Int) (i : Int)) true := by
  intro d
  induction d with
  | zero =>
    intro i hi
    refine Ev.step (fun k => rfl) ?_
    refine Ev.neg (by omega) (Ev.pos (by simp; omega) (Ev.pure rfl ?_))
    have ht : ys.take i = ys := List.take_of_length_le (by omega)
    rw [ht, List.nil_append]
    refine Ev.pos (by omega) (Ev.bind (join_ev _ (by rw [List.length_append]; omega)) (Ev.bind (join_ev xs (by omega)) (Ev.bind (join_ev ys (by omega)) (Ev.bind (join_ev _ (by simp)) (Ev.done ?_)))))
    rw [join_append]; simp
  | succ d ih =>
    intro i hi
    have hlt : i < ys.length := by omega
    refine Ev.step (fun k => rfl) ?_
    refine Ev.pos (by omega) (Ev.pos (by omega) (Ev.pos (by omega) (Ev.pos (by rw [List.length_take]; omega) ?_)))
    have e1 : ys.take i ++ [rd ys (i : Int)] = ys.take (i + 1) := by rw [rd_get _ _ hlt, List.take_succ_eq_append_getElem hlt]
    have e2 : wrap64 ((i : Int) + 1) = ((i + 1 : Nat) : Int) := by rw [wrap_in (by omega) (by omega)]; rfl
    simp only [e1, e2]
    exact ih (i + 1) (by omega)
theorem first_loop (xs ys : List Int) (hl : xs.length + ys.length ≤ 1048576) : ∀ (d i : Nat), i + d = xs.length →
    Ev (fun k => tautochronelaw02_LabelParts.l0 k ys (xs.take i) xs (xs.length : Int) (i : Int)) true := by
  intro d
  induction d with
  | zero =>
    intro i hi
    refine Ev.step (fun k => rfl) ?_
    refine Ev.neg (by omega) ?_
    have ht : xs.take i = xs := List.take_of_length_le (by omega)
    rw [ht]
    exact last_loop xs ys hl ys.length 0 (by omega)
  | succ d ih =>
    intro i hi
    have hlt : i < xs.length := by omega
    refine Ev.step (fun k => rfl) ?_
    refine Ev.pos (by omega) (Ev.pos (by omega) (Ev.pos (by omega) (Ev.pos (by rw [List.length_take]; omega) ?_)))
    have e1 : xs.take i ++ [rd xs (i : Int)] = xs.take (i + 1) := by rw [rd_get _ _ hlt, List.take_succ_eq_append_getElem hlt]
    have e2 : wrap64 ((i : Int) + 1) = ((i + 1 : Nat) : Int) := by rw [wrap_in (by omega) (by omega)]; rfl
    simp only [e1, e2]
    exact ih (i + 1) (by omega)

theorem LabelParts : tautochronelaw02_LabelParts.PureUpto := by
  intro xs ys _ _ _ _ _ _ hu
  refine Ev.rounds (g := fun k => tautochronelaw02_LabelParts.f k xs ys) ?_
  unfold tautochronelaw02_LabelParts.f
  refine Ev.bind (Ev.of tautochronelaw02_awake.mono awake_some) (Ev.pos rfl ?_)
  exact first_loop xs ys hu xs.length 0 (by omega)

end Go.Proofs.Ytkebdicmoieoaaa.Pure
