/-
The statement BufferOrder, plainly: what is pushed one by one is what was pushed, and comes out so. Condition: what came in is of bulk at most 1048576.
-/
import Derived.Test.YtkeaacglaolgpaaVBufferOrder
import Derived.Test.YtkeaacglaolgpaaKit
set_option linter.unusedSimpArgs false
set_option linter.unusedVariables false
namespace Go.Proofs.Ytkeaacglaolgpaa.Pure
open Go.RowKit Go.Proofs.YtkeaacglaolgpaaW.PrintWords Go.Proofs.YtkeaacglaolgpaaW.PrintLast Go.Proofs.YtkeaacglaolgpaaW.PrintMore Go.Proofs.Ytkeaacglaolgpaa.Kit
open Go.Proofs.Ytkeaacglaolgpaa.PBufferOrder

theorem awake_some : tautochronelaw22_awake.f 9 = some true := by decide +kernel

theorem rdT_get (xs : List S26) (i : Nat) (h : i < xs.length) : rd_T26 xs (i : Int) = xs[i] := by
  simp [rd_T26, List.getD_eq_getElem?_getD, List.getElem?_eq_getElem h]
theorem next_in (i : Nat) (h : i ≤ 9223372036854775806) : wrap64 ((i : Int) + 1) = ((i + 1 : Nat) : Int) := by rw [wrap_in (by omega) (by omega)]; rfl
/-- What is found among the first n writes, the last one first. -/
def findN (b : List S26) (c : Int) : Nat → Int × Bool
  | 0 => (0, false)
  | n + 1 => if (rd_T26 b n).f0 = c then ((rd_T26 b n).f1, true) else findN b c n
theorem find_loop (b : List S26) (c : Int) (hl : b.length ≤ 17592186044416) : ∀ n : Nat, n ≤ b.length → Ev (fun k => buffer_Find.l0 k b c ((n : Int) - 1)) (findN b c n) := by
  intro n
  induction n with
  | zero =>
    intro _
    refine Ev.step (fun k => rfl) ?_
    exact Ev.neg (by omega) (Ev.done rfl)
  | succ n ih =>
    intro hn
    have e : ((n + 1 : Nat) : Int) - 1 = (n : Int) := by omega
    rw [e]
    refine Ev.step (fun k => rfl) ?_
    refine Ev.pos (by omega) (Ev.pos (by omega) (Ev.pos (by omega) ?_))
    by_cases h : (rd_T26 b n).f0 = c
    · refine Ev.pos h (Ev.done ?_)
      simp [findN, h]
    · refine Ev.neg h ?_
      have e2 : wrap64 ((n : Int) - 1) = (n : Int) - 1 := wrap_in (by omega) (by omega)
      simp only [e2]
      have := ih (by omega)
      simpa [findN, h] using this
theorem find_ev (b : List S26) (c : Int) (hl : b.length ≤ 17592186044416) : Ev (fun k => buffer_Find.f k b c) (findN b c b.length) := by
  unfold buffer_Find.f
  rw [wrap_in (by omega) (by omega)]
  exact find_loop b c hl b.length (Nat.le_refl _)
theorem push_is (b : List S26) (c v : Int) (hl : b.length < 8796093022208) : buffer_Push.f b c v = some (b ++ [⟨c, v⟩]) := by
  unfold buffer_Push.f
  simp only [List.length_nil, Nat.zero_add, List.nil_append, Option.bind_some]
  rw [if_pos hl, if_pos hl]
/-- The writes, the i-th one and those behind it up to n. -/
def item (xs ys : List Int) (i : Nat) : S26 := ⟨rd xs (i : Int), rd ys (i : Int)⟩
def items (xs ys : List Int) (i n : Nat) : List S26 := (List.range' i (n - i)).map (item xs ys)
theorem items_length (xs ys : List Int) (i n : Nat) : (items xs ys i n).length = n - i := by simp [items]
theorem items_snoc (xs ys : List Int) (n : Nat) : items xs ys 0 n ++ [item xs ys n] = items xs ys 0 (n + 1) := by
  simp [items, List.range'_concat]
theorem items_cons (xs ys : List Int) (i n : Nat) (h : i < n) : items xs ys i n = item xs ys i :: items xs ys (i + 1) n := by
  unfold items
  rw [show n - i = (n - (i + 1)) + 1 by omega, List.range'_succ]
  rfl
theorem pop_cons (x : S26) (b : List S26) (hl : b.length < 8796093022208) : buffer_Pop.f (x :: b) = some (x.f0, x.f1, b, true) := by
  unfold buffer_Pop.f
  rw [if_neg (by rw [List.length_cons]; omega), if_pos (by rw [List.length_cons]; omega), if_pos (by rw [List.length_cons]; omega)]
  simp only [Option.bind_some, List.drop_succ_cons, List.drop_zero, List.nil_append, List.length_nil, Nat.zero_add]
  rw [if_pos hl]
  rfl
theorem wf_all {xs : List Int} {k : IntKind} (h : ∀ x ∈ xs, (Lit.int k x).wf = true) (i : Nat) (hi : i < xs.length) : (Lit.int k (rd xs (i : Int))).wf = true := by
  rw [rd_get xs i hi]; exact h _ (List.getElem_mem hi)
theorem out_loop (xs ys : List Int) (n : Nat) (hn : n ≤ 1048576) (hx : n ≤ xs.length) (hy : n ≤ ys.length) (hw : ∀ x ∈ xs, (Lit.int .u8 x).wf = true) : ∀ (d i : Nat), i + d = n →
    Ev (fun k => tautochronelaw22_BufferOrder.l1 k xs ys (items xs ys i n) (n : Int) (i : Int)) true := by
  intro d
  induction d with
  | zero =>
    intro i hi
    refine Ev.step (fun k => rfl) ?_
    refine Ev.neg (by omega) (Ev.done ?_)
    rw [items_length]; simp; omega
  | succ d ih =>
    intro i hi
    have hb := wf_bounds_u8 (wf_all hw i (by omega))
    refine Ev.step (fun k => rfl) ?_
    refine Ev.pos (by omega) ?_
    rw [items_cons xs ys i n (by omega)]
    refine Ev.pure (pop_cons _ _ (by rw [items_length]; omega)) (Ev.pos rfl (Ev.pos (by omega) (Ev.pos (by omega) ?_)))
    refine Ev.pos (by rw [wrap_in (by omega) (by omega)]; rfl) (Ev.pos (by omega) (Ev.pos rfl ?_))
    refine Ev.pos (by rw [items_length, wrap_in (x := (n : Int) - i) (by omega) (by omega), wrap_in (by omega) (by omega)]; omega) ?_
    simp only [next_in i (by omega)]
    exact ih (i + 1) (by omega)
theorem in_loop (xs ys : List Int) (n : Nat) (hn : n ≤ 1048576) (hx : n ≤ xs.length) (hy : n ≤ ys.length) (hw : ∀ x ∈ xs, (Lit.int .u8 x).wf = true) : ∀ (d i : Nat), i + d = n →
    Ev (fun k => tautochronelaw22_BufferOrder.l0 k xs ys (items xs ys 0 i) (n : Int) (i : Int)) true := by
  intro d
  induction d with
  | zero =>
    intro i hi
    obtain rfl : i = n := by omega
    refine Ev.step (fun k => rfl) ?_
    refine Ev.neg (by omega) (Ev.pos (by rw [items_length]; omega) ?_)
    exact out_loop xs ys i hn hx hy hw i 0 (by omega)
  | succ d ih =>
    intro i hi
    have hb := wf_bounds_u8 (wf_all hw i (by omega))
    refine Ev.step (fun k => rfl) ?_
    refine Ev.pos (by omega) (Ev.pos (by omega) (Ev.pos (by omega) (Ev.pos (by omega) ?_)))
    refine Ev.pure (push_is _ _ _ (by rw [items_length]; omega)) ?_
    rw [wrap_in (x := rd xs (i : Int)) (by omega) (by omega)]
    have e := items_snoc xs ys i
    simp only [item] at e
    simp only [e, next_in i (by omega)]
    exact ih (i + 1) (by omega)
theorem BufferOrder : tautochronelaw22_BufferOrder.PureUpto := by
  intro xs ys _ _ hw _ _ _ hu
  refine Ev.rounds (g := fun k => tautochronelaw22_BufferOrder.f k xs ys) ?_
  unfold tautochronelaw22_BufferOrder.f
  refine Ev.bind (Ev.of tautochronelaw22_awake.mono awake_some) (Ev.pos rfl ?_)
  have e : mn (xs.length : Int) (ys.length : Int) = ((min xs.length ys.length : Nat) : Int) := by unfold mn; split <;> omega
  rw [e]
  exact in_loop xs ys (min xs.length ys.length) (by omega) (by omega) (by omega) hw (min xs.length ys.length) 0 (by omega)
end Go.Proofs.Ytkeaacglaolgpaa.Pure
