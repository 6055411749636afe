/-
The statement BufferFind, plainly: the last write to a cell is what is found. Condition: none beyond the statement's own.
-/
import Derived.Test.YtkeaacglaolgpaaVBufferFind
import Derived.Test.YtkeaacglaolgpaaKit
set_option linter.unusedSimpArgs false
set_option linter.unusedVariables false
namespace Go.Proofs.Ytkeaacglaolgpaa.Pure
open Go.RowKit Go.Proofs.YtkeaacglaolgpaaW.PrintWords Go.Proofs.YtkeaacglaolgpaaW.PrintLast Go.Proofs.YtkeaacglaolgpaaW.PrintMore Go.Proofs.Ytkeaacglaolgpaa.Kit
open Go.Proofs.Ytkeaacglaolgpaa.PBufferFind

theorem awake_some : tautochronelaw22_awake.f 9 = some true := by decide +kernel

theorem rdT_get (xs : List S26) (i : Nat) (h : i < xs.length) : rd_T26 xs (i : Int) = xs[i] := by
  simp [rd_T26, List.getD_eq_getElem?_getD, List.getElem?_eq_getElem h]
theorem next_in (i : Nat) (h : i ≤ 9223372036854775806) : wrap64 ((i : Int) + 1) = ((i + 1 : Nat) : Int) := by rw [wrap_in (by omega) (by omega)]; rfl
/-- What is found among the first n writes, the last one first. -/
def findN (b : List S26) (c : Int) : Nat → Int × Bool
  | 0 => (0, false)
  | n + 1 => if (rd_T26 b n).f0 = c then ((rd_T26 b n).f1, true) else findN b c n
theorem find_loop (b : List S26) (c : Int) (hl : b.length ≤ 17592186044416) : ∀ n : Nat, n ≤ b.length → Ev (fun k => buffer_Find.l0 k b c ((n : Int) - 1)) (findN b c n) := by
  intro n
  induction n with
  | zero =>
    intro _
    refine Ev.step (fun k => rfl) ?_
    exact Ev.neg (by omega) (Ev.done rfl)
  | succ n ih =>
    intro hn
    have e : ((n + 1 : Nat) : Int) - 1 = (n : Int) := by omega
    rw [e]
    refine Ev.step (fun k => rfl) ?_
    refine Ev.pos (by omega) (Ev.pos (by omega) (Ev.pos (by omega) ?_))
    by_cases h : (rd_T26 b n).f0 = c
    · refine Ev.pos h (Ev.done ?_)
      simp [findN, h]
    · refine Ev.neg h ?_
      have e2 : wrap64 ((n : Int) - 1) = (n : Int) - 1 := wrap_in (by omega) (by omega)
      simp only [e2]
      have := ih (by omega)
      simpa [findN, h] using this
theorem find_ev (b : List S26) (c : Int) (hl : b.length ≤ 17592186044416) : Ev (fun k => buffer_Find.f k b c) (findN b c b.length) := by
  unfold buffer_Find.f
  rw [wrap_in (by omega) (by omega)]
  exact find_loop b c hl b.length (Nat.le_refl _)
theorem push_is (b : List S26) (c v : Int) (hl : b.length < 8796093022208) : buffer_Push.f b c v = some (b ++ [⟨c, v⟩]) := by
  unfold buffer_Push.f
  simp only [List.length_nil, Nat.zero_add, List.nil_append, Option.bind_some]
  rw [if_pos hl, if_pos hl]
theorem law_loop (b : List S26) (c : Int) (hl : b.length ≤ 8796093021952) : ∀ (d i : Nat) (want : Int) (is : Bool), i + d = b.length → (want, is) = findN b c i →
    Ev (fun k => tautochronelaw22_BufferFind.l0 k b c want is b (b.length : Int) (i : Int)) true := by
  intro d
  induction d with
  | zero =>
    intro i want is hi hw
    obtain rfl : i = b.length := by omega
    refine Ev.step (fun k => rfl) ?_
    refine Ev.neg (by omega) (Ev.bind (find_ev b c (by omega)) ?_)
    rw [← hw]
    exact Ev.pos rfl (Ev.done (by simp))
  | succ d ih =>
    intro i want is hi hw
    refine Ev.step (fun k => rfl) ?_
    refine Ev.pos (by omega) (Ev.pos (by omega) (Ev.pos (by omega) ?_))
    simp only [next_in i (by omega)]
    by_cases h : (rd_T26 b (i : Int)).f0 = c
    · exact Ev.pos h (ih (i + 1) _ _ (by omega) (by simp [findN, h]))
    · exact Ev.neg h (ih (i + 1) _ _ (by omega) (by simp [findN, h, hw]))
theorem BufferFind : tautochronelaw22_BufferFind.PureR := by
  intro b c _ hl _ _
  refine Ev.rounds (g := fun k => tautochronelaw22_BufferFind.f k b c) ?_
  unfold tautochronelaw22_BufferFind.f
  refine Ev.bind (Ev.of tautochronelaw22_awake.mono awake_some) (Ev.pos rfl ?_)
  exact law_loop b c (by omega) b.length 0 0 false (by omega) rfl
end Go.Proofs.Ytkeaacglaolgpaa.Pure
