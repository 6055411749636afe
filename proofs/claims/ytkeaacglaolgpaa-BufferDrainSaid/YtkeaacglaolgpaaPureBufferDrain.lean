/-
The statement BufferDrain, plainly: cells after all writes are what they were, or the last that was written to them. Condition: none beyond the statement's own.
-/
import Derived.Test.YtkeaacglaolgpaaVBufferDrain
import Derived.Test.YtkeaacglaolgpaaKit
set_option linter.unusedSimpArgs false
set_option linter.unusedVariables false
namespace Go.Proofs.Ytkeaacglaolgpaa.Pure
open Go.RowKit Go.Proofs.YtkeaacglaolgpaaW.PrintWords Go.Proofs.YtkeaacglaolgpaaW.PrintLast Go.Proofs.YtkeaacglaolgpaaW.PrintMore Go.Proofs.Ytkeaacglaolgpaa.Kit
open Go.Proofs.Ytkeaacglaolgpaa.PBufferDrain

theorem awake_some : tautochronelaw22_awake.f 9 = some true := by decide +kernel

theorem rdT_get (xs : List S26) (i : Nat) (h : i < xs.length) : rd_T26 xs (i : Int) = xs[i] := by
  simp [rd_T26, List.getD_eq_getElem?_getD, List.getElem?_eq_getElem h]
theorem next_in (i : Nat) (h : i ≤ 9223372036854775806) : wrap64 ((i : Int) + 1) = ((i + 1 : Nat) : Int) := by rw [wrap_in (by omega) (by omega)]; rfl
/-- What is found among the first n writes, the last one first. -/
def findN (b : List S26) (c : Int) : Nat → Int × Bool
  | 0 => (0, false)
  | n + 1 => if (rd_T26 b n).f0 = c then ((rd_T26 b n).f1, true) else findN b c n
theorem find_loop (b : List S26) (c : Int) (hl : b.length ≤ 17592186044416) : ∀ n : Nat, n ≤ b.length → Ev (fun k => buffer_Find.l0 k b c ((n : Int) - 1)) (findN b c n) := by
  intro n
  induction n with
  | zero =>
    intro _
    refine Ev.step (fun k => rfl) ?_
    exact Ev.neg (by omega) (Ev.done rfl)
  | succ n ih =>
    intro hn
    have e : ((n + 1 : Nat) : Int) - 1 = (n : Int) := by omega
    rw [e]
    refine Ev.step (fun k => rfl) ?_
    refine Ev.pos (by omega) (Ev.pos (by omega) (Ev.pos (by omega) ?_))
    by_cases h : (rd_T26 b n).f0 = c
    · refine Ev.pos h (Ev.done ?_)
      simp [findN, h]
    · refine Ev.neg h ?_
      have e2 : wrap64 ((n : Int) - 1) = (n : Int) - 1 := wrap_in (by omega) (by omega)
      simp only [e2]
      have := ih (by omega)
      simpa [findN, h] using this
theorem find_ev (b : List S26) (c : Int) (hl : b.length ≤ 17592186044416) : Ev (fun k => buffer_Find.f k b c) (findN b c b.length) := by
  unfold buffer_Find.f
  rw [wrap_in (by omega) (by omega)]
  exact find_loop b c hl b.length (Nat.le_refl _)
theorem push_is (b : List S26) (c v : Int) (hl : b.length < 8796093022208) : buffer_Push.f b c v = some (b ++ [⟨c, v⟩]) := by
  unfold buffer_Push.f
  simp only [List.length_nil, Nat.zero_add, List.nil_append, Option.bind_some]
  rw [if_pos hl, if_pos hl]
/-- Cells after one write. -/
def put1 (c : List Int) (x : S26) : List Int := if 0 ≤ x.f0 ∧ x.f0 < (c.length : Int) then c.set x.f0.toNat x.f1 else c
def drainL (b : List S26) (c : List Int) : List Int := b.foldl put1 c
theorem put1_length (c : List Int) (x : S26) : (put1 c x).length = c.length := by
  unfold put1
  split <;> simp
theorem drainL_length (b : List S26) : ∀ c : List Int, (drainL b c).length = c.length := by
  induction b with
  | nil => intro c; rfl
  | cons x b ih => intro c; exact (ih (put1 c x)).trans (put1_length c x)
theorem drain_loop (b : List S26) (cells : List Int) (hb : b.length ≤ 17592186044416) : ∀ (d i : Nat) (c : List Int), i + d = b.length → c = drainL (b.take i) cells →
    Ev (fun k => buffer_Drain.l0 k c b (b.length : Int) (i : Int)) (drainL b cells) := by
  intro d
  induction d with
  | zero =>
    intro i c hi hc
    refine Ev.step (fun k => rfl) ?_
    refine Ev.neg (by omega) (Ev.done ?_)
    rw [hc, List.take_of_length_le (by omega)]
  | succ d ih =>
    intro i c hi hc
    have hlt : i < b.length := by omega
    refine Ev.step (fun k => rfl) ?_
    refine Ev.pos (by omega) (Ev.pos (by omega) (Ev.pos (by omega) ?_))
    simp only [next_in i (by omega)]
    have e1 : drainL (b.take (i + 1)) cells = put1 c (rd_T26 b (i : Int)) := by
      rw [hc, List.take_succ_eq_append_getElem hlt, rdT_get _ _ hlt]
      unfold drainL
      rw [List.foldl_append]
      rfl
    by_cases h1 : (rd_T26 b (i : Int)).f0 ≥ 0
    · refine Ev.pos h1 ?_
      by_cases h2 : (rd_T26 b (i : Int)).f0 < (c.length : Int)
      · refine Ev.pos h2 (Ev.pos h1 ?_)
        refine ih (i + 1) _ (by omega) ?_
        rw [e1, put1, if_pos ⟨h1, h2⟩]
      · refine Ev.neg h2 (ih (i + 1) _ (by omega) ?_)
        rw [e1, put1, if_neg (fun h => h2 h.2)]
    · refine Ev.neg h1 (ih (i + 1) _ (by omega) ?_)
      rw [e1, put1, if_neg (fun h => h1 h.1)]
theorem drain_ev (b : List S26) (cells : List Int) (hb : b.length ≤ 17592186044416) (hc : cells.length < 17592186044416) : Ev (fun k => buffer_Drain.f k b cells) (drainL b cells) := by
  unfold buffer_Drain.f
  refine Ev.pos (by simpa using hc) ?_
  rw [List.nil_append]
  exact drain_loop b cells hb b.length 0 cells (by omega) rfl
theorem sameN_loop (b : List Int) (hl : b.length ≤ 17592186044416) : ∀ (d i : Nat), i + d = b.length → Ev (fun k => tautochronelaw11_Same.l0 k b b (b.length : Int) (i : Int)) true := by
  intro d
  induction d with
  | zero =>
    intro i hi
    refine Ev.step (fun k => rfl) ?_
    exact Ev.neg (by omega) (Ev.done rfl)
  | succ d ih =>
    intro i hi
    refine Ev.step (fun k => rfl) ?_
    refine Ev.pos (by omega) (Ev.pos (by omega) (Ev.pos (by omega) (Ev.pos (by omega) ?_)))
    refine Ev.pos rfl ?_
    simp only [next_in i (by omega)]
    exact ih (i + 1) (by omega)
theorem sameN_ev (b : List Int) (hl : b.length ≤ 17592186044416) : Ev (fun k => tautochronelaw11_Same.f k b b) true := by
  unfold tautochronelaw11_Same.f
  exact Ev.pos rfl (sameN_loop b hl b.length 0 (by omega))
/-- A cell after the first n writes. -/
theorem cell_is (b : List S26) (cells : List Int) (j : Nat) (hj : j < cells.length) : ∀ n : Nat, n ≤ b.length →
    rd (drainL (b.take n) cells) (j : Int) = if (findN b (j : Int) n).2 = true then (findN b (j : Int) n).1 else rd cells (j : Int) := by
  intro n
  induction n with
  | zero => intro _; simp [drainL, findN]
  | succ n ih =>
    intro hn
    have hlt : n < b.length := by omega
    have ih := ih (by omega)
    have e1 : drainL (b.take (n + 1)) cells = put1 (drainL (b.take n) cells) (rd_T26 b (n : Int)) := by
      rw [List.take_succ_eq_append_getElem hlt, rdT_get _ _ hlt]
      unfold drainL
      rw [List.foldl_append]
      rfl
    rw [e1]
    have hL := drainL_length (b.take n) cells
    by_cases h : (rd_T26 b (n : Int)).f0 = (j : Int)
    · simp only [findN, h, if_true]
      rw [put1, if_pos (by rw [h, hL]; omega), h]
      simp [rd, List.getElem?_set, hL, hj]
    · simp only [findN, h, if_false]
      rw [← ih, put1]
      split
      · rename_i h2
        have : (rd_T26 b (n : Int)).f0.toNat ≠ j := by omega
        simp [rd, List.getElem?_set, this]
      · rfl
theorem law_loop (b : List S26) (cells out : List Int) (hb : b.length ≤ 17592186044416) (hc : cells.length ≤ 17592186044416) (ho : out = drainL b cells) : ∀ (d i : Nat), i + d = cells.length →
    Ev (fun k => tautochronelaw22_BufferDrain.l0 k b cells out (cells.length : Int) (i : Int)) true := by
  have hol : out.length = cells.length := by rw [ho, drainL_length]
  intro d
  induction d with
  | zero =>
    intro i hi
    refine Ev.step (fun k => rfl) ?_
    exact Ev.neg (by omega) (Ev.done rfl)
  | succ d ih =>
    intro i hi
    have hcell := cell_is b cells i (by omega) b.length (Nat.le_refl _)
    rw [List.take_of_length_le (Nat.le_refl _), ← ho] at hcell
    refine Ev.step (fun k => rfl) ?_
    refine Ev.pos (by omega) (Ev.pos (by omega) (Ev.pos (by omega) (Ev.bind (find_ev b _ (by omega)) ?_)))
    simp only [next_in i (by omega)]
    by_cases h : (findN b (i : Int) b.length).2 = true
    · rw [if_pos h] at hcell
      exact Ev.pos h (Ev.pos (by omega) (Ev.pos hcell (ih (i + 1) (by omega))))
    · rw [if_neg h] at hcell
      exact Ev.neg h (Ev.pos (by omega) (Ev.pos hcell (ih (i + 1) (by omega))))
theorem BufferDrain : tautochronelaw22_BufferDrain.PureR := by
  intro b cells _ hb _ _ hc _
  refine Ev.rounds (g := fun k => tautochronelaw22_BufferDrain.f k b cells) ?_
  unfold tautochronelaw22_BufferDrain.f
  refine Ev.bind (Ev.of tautochronelaw22_awake.mono awake_some) (Ev.pos rfl (Ev.pos (by simp; omega) (Ev.bind (drain_ev b cells (by omega) (by omega)) (Ev.pos (by rw [drainL_length]) ?_))))
  rw [List.nil_append]
  refine Ev.bind (sameN_ev cells (by omega)) ?_
  refine Ev.step (f := fun k => if (!true) = true then some false else tautochronelaw22_BufferDrain.l0 k b cells (drainL b cells) (cells.length : Int) 0) (fun k => rfl) ?_
  exact Ev.neg (by decide) (law_loop b cells _ (by omega) (by omega) rfl cells.length 0 (by omega))
end Go.Proofs.Ytkeaacglaolgpaa.Pure
