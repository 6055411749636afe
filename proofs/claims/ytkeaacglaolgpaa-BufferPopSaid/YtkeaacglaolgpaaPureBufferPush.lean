/-
The statement BufferPush, plainly: what is pushed stands behind all, is found, and leaves what was. Condition: none beyond the statement's own.
-/
import Derived.Test.YtkeaacglaolgpaaVBufferPush
import Derived.Test.YtkeaacglaolgpaaKit
set_option linter.unusedSimpArgs false
set_option linter.unusedVariables false
namespace Go.Proofs.Ytkeaacglaolgpaa.Pure
open Go.RowKit Go.Proofs.YtkeaacglaolgpaaW.PrintWords Go.Proofs.YtkeaacglaolgpaaW.PrintLast Go.Proofs.YtkeaacglaolgpaaW.PrintMore Go.Proofs.Ytkeaacglaolgpaa.Kit
open Go.Proofs.Ytkeaacglaolgpaa.PBufferPush

theorem awake_some : tautochronelaw22_awake.f 9 = some true := by decide +kernel

theorem rdT_get (xs : List S26) (i : Nat) (h : i < xs.length) : rd_T26 xs (i : Int) = xs[i] := by
  simp [rd_T26, List.getD_eq_getElem?_getD, List.getElem?_eq_getElem h]
theorem next_in (i : Nat) (h : i ≤ 9223372036854775806) : wrap64 ((i : Int) + 1) = ((i + 1 : Nat) : Int) := by rw [wrap_in (by omega) (by omega)]; rfl
/-- What is found among the first n writes, the last one first. -/
def findN (b : List S26) (c : Int) : Nat → Int × Bool
  | 0 => (0, false)
  | n + 1 => if (rd_T26 b n).f0 = c then ((rd_T26 b n).f1, true) else findN b c n
theorem find_loop (b : List S26) (c : Int) (hl : b.length ≤ 17592186044416) : ∀ n : Nat, n ≤ b.length → Ev (fun k => buffer_Find.l0 k b c ((n : Int) - 1)) (findN b c n) := by
  intro n
  induction n with
  | zero =>
    intro _
    refine Ev.step (fun k => rfl) ?_
    exact Ev.neg (by omega) (Ev.done rfl)
  | succ n ih =>
    intro hn
    have e : ((n + 1 : Nat) : Int) - 1 = (n : Int) := by omega
    rw [e]
    refine Ev.step (fun k => rfl) ?_
    refine Ev.pos (by omega) (Ev.pos (by omega) (Ev.pos (by omega) ?_))
    by_cases h : (rd_T26 b n).f0 = c
    · refine Ev.pos h (Ev.done ?_)
      simp [findN, h]
    · refine Ev.neg h ?_
      have e2 : wrap64 ((n : Int) - 1) = (n : Int) - 1 := wrap_in (by omega) (by omega)
      simp only [e2]
      have := ih (by omega)
      simpa [findN, h] using this
theorem find_ev (b : List S26) (c : Int) (hl : b.length ≤ 17592186044416) : Ev (fun k => buffer_Find.f k b c) (findN b c b.length) := by
  unfold buffer_Find.f
  rw [wrap_in (by omega) (by omega)]
  exact find_loop b c hl b.length (Nat.le_refl _)
theorem push_is (b : List S26) (c v : Int) (hl : b.length < 8796093022208) : buffer_Push.f b c v = some (b ++ [⟨c, v⟩]) := by
  unfold buffer_Push.f
  simp only [List.length_nil, Nat.zero_add, List.nil_append, Option.bind_some]
  rw [if_pos hl, if_pos hl]
theorem same_loop (b : List S26) (hl : b.length ≤ 17592186044416) : ∀ (d i : Nat), i + d = b.length → Ev (fun k => tautochronelaw22_same.l0 k b b (b.length : Int) (i : Int)) true := by
  intro d
  induction d with
  | zero =>
    intro i hi
    refine Ev.step (fun k => rfl) ?_
    exact Ev.neg (by omega) (Ev.done rfl)
  | succ d ih =>
    intro i hi
    refine Ev.step (fun k => rfl) ?_
    refine Ev.pos (by omega) (Ev.pos (by omega) (Ev.pos (by omega) (Ev.pos (by omega) ?_)))
    refine Ev.neg (by simp) ?_
    simp only [next_in i (by omega)]
    exact ih (i + 1) (by omega)
theorem same_ev (b : List S26) (hl : b.length ≤ 17592186044416) : Ev (fun k => tautochronelaw22_same.f k b b) true := by
  unfold tautochronelaw22_same.f
  exact Ev.pos rfl (same_loop b hl b.length 0 (by omega))
theorem BufferPush : tautochronelaw22_BufferPush.PureR := by
  intro b c v _ hl _ _ _
  have hb : b.length ≤ 8796093021952 := by omega
  refine Ev.rounds (g := fun k => tautochronelaw22_BufferPush.f k b c v) ?_
  unfold tautochronelaw22_BufferPush.f
  refine Ev.bind (Ev.of tautochronelaw22_awake.mono awake_some) (Ev.pos rfl (Ev.pos (by simp; omega) (Ev.pure rfl ?_)))
  simp only [List.nil_append]
  refine Ev.pure (push_is b _ _ (by omega)) (Ev.pure (push_is b _ _ (by omega)) (Ev.bind (find_ev _ _ (by rw [List.length_append, List.length_singleton]; omega)) ?_))
  have hn : ∀ x : S26, ((b ++ [x]).length : Int) = (b.length : Int) + 1 := fun x => by rw [List.length_append, List.length_singleton]; rfl
  have ht : ∀ x : S26, (b ++ [x]).take ((b.length : Int)).toNat = b := fun x => by rw [Int.toNat_natCast, List.take_left']; rfl
  have hr : ∀ x : S26, rd_T26 (b ++ [x]) (b.length : Int) = x := fun x => by rw [rdT_get _ _ (by rw [List.length_append, List.length_singleton]; omega)]; simp
  have hf : findN (b ++ [⟨c, v⟩]) c (b ++ [(⟨c, v⟩ : S26)]).length = (v, true) := by
    rw [List.length_append, List.length_singleton]
    simp only [findN, hr, if_true]
  rw [hf]
  refine Ev.pos (by rw [hn, wrap_in (by omega) (by omega)]) (Ev.pos (by omega) (Ev.pos (by rw [hn]; omega) ?_))
  rw [ht]
  refine Ev.bind (same_ev b (by omega)) (Ev.pos rfl (Ev.pos (by rw [hn]; omega) ?_))
  rw [hr]
  refine Ev.pos (by simp) (Ev.pos (by rw [hn, hn]) (Ev.pos rfl (Ev.pos rfl (Ev.bind (same_ev b (by omega)) (Ev.done rfl)))))
end Go.Proofs.Ytkeaacglaolgpaa.Pure
