/-
What the image laws need, plainly: which codes are good, which images may be, what their bytes are, what Make makes, and that bytes tell the image. Conditions: as each theorem states them.
-/
import Derived.Test.YteajbeajkplplaaPImageBytesx10
import Derived.Test.YteajbeajkplplaaPImageBytesx13
import Derived.Test.YteajbeajkplplaaKit
import Derived.WalkKit
import Derived.ProofKit
set_option linter.unusedSimpArgs false
set_option linter.unusedVariables false
namespace Go.Proofs.Yteajbeajkplplaa.Pure
open Go.RowKit Go.Proofs.YteajbeajkplplaaW.PrintWords Go.Proofs.YteajbeajkplplaaW.PrintLast Go.Proofs.YteajbeajkplplaaW.PrintMore Go.Proofs.Yteajbeajkplplaa.Kit
open Go.Proofs.Yteajbeajkplplaa.PImageBytes
attribute [local go_sem] max2_int min2_int max_two min_two max_three min_three max_four min_four   -- for this text's walks alone
/-- A code's eight numbers: Op, Do, To, A, B, C, Value, Target. -/
abbrev T8 := Int × Int × Int × Int × Int × Int × Int × Int
/-- What counts of a code. -/
def bareS (o d t a b c v g : Int) : T8 :=
  (o, if o = 2 then d else 0, if o = 0 ∨ o = 1 ∨ o = 2 ∨ o = 3 ∨ o = 4 then t else -1,
    if o = 1 ∨ o = 2 ∨ o = 3 ∨ o = 7 ∨ o = 10 ∨ o = 12 then a else if o = 4 ∨ o = 5 then mx a (-1) else -1,
    if o = 2 ∨ o = 3 ∨ o = 5 then b else -1, if o = 3 then c else -1,
    if o = 0 ∨ o = 4 ∨ o = 5 ∨ o = 8 ∨ o = 9 ∨ o = 10 then v else 0, if o = 6 ∨ o = 7 then g else 0)
def IsBare (o d t a b c v g : Int) : Prop :=
  (bareS o d t a b c v g).2.1 = d ∧ (bareS o d t a b c v g).2.2.1 = t ∧ (bareS o d t a b c v g).2.2.2.1 = a ∧ (bareS o d t a b c v g).2.2.2.2.1 = b ∧ (bareS o d t a b c v g).2.2.2.2.2.1 = c ∧ (bareS o d t a b c v g).2.2.2.2.2.2.1 = v ∧ (bareS o d t a b c v g).2.2.2.2.2.2.2 = g
instance (o d t a b c v g : Int) : Decidable (IsBare o d t a b c v g) := by unfold IsBare; infer_instance
theorem op_cases {P : Int → Prop} (o : Int) (h : ∀ n : Int, n = 0 ∨ n = 1 ∨ n = 2 ∨ n = 3 ∨ n = 4 ∨ n = 5 ∨ n = 6 ∨ n = 7 ∨ n = 8 ∨ n = 9 ∨ n = 10 ∨ n = 11 ∨ n = 12 ∨ n = 13 → P n)
    (hx : o ≠ 0 → o ≠ 1 → o ≠ 2 → o ≠ 3 → o ≠ 4 → o ≠ 5 → o ≠ 6 → o ≠ 7 → o ≠ 8 → o ≠ 9 → o ≠ 10 → o ≠ 11 → o ≠ 12 → o ≠ 13 → P o) : P o := by
  by_cases hr : 0 ≤ o ∧ o ≤ 13
  · exact h o (by omega)
  · exact hx (by omega) (by omega) (by omega) (by omega) (by omega) (by omega) (by omega) (by omega) (by omega) (by omega) (by omega) (by omega) (by omega) (by omega)
theorem bare_is (k : Nat) (o d t a b c v g : Int) : encode_bare.f (k + 4) o d t a b c v g = some (bareS o d t a b c v g) := by
  refine op_cases (P := fun o => encode_bare.f (k + 4) o d t a b c v g = some (bareS o d t a b c v g)) o (fun n hn => ?_) (fun h0 h1 h2 h3 h4 h5 h6 h7 h8 h9 h10 h11 h12 h13 => ?_)
  · rcases hn with rfl | rfl | rfl | rfl | rfl | rfl | rfl | rfl | rfl | rfl | rfl | rfl | rfl | rfl <;> simp [encode_bare.f, code_Defines.f, encode_bare.j0, encode_bare.j1, encode_bare.j2, encode_bare.j3, bareS]
  · simp [encode_bare.f, code_Defines.f, encode_bare.j0, encode_bare.j1, encode_bare.j2, encode_bare.j3, bareS, h0, h1, h2, h3, h4, h5, h6, h7, h8, h9, h10, h11, h12, h13]
theorem lawbare_is (k : Nat) (o d t a b c v g : Int) : tautochronelaw20_bare.f (k + 4) o d t a b c v g = some (bareS o d t a b c v g) := by
  refine op_cases (P := fun o => tautochronelaw20_bare.f (k + 4) o d t a b c v g = some (bareS o d t a b c v g)) o (fun n hn => ?_) (fun h0 h1 h2 h3 h4 h5 h6 h7 h8 h9 h10 h11 h12 h13 => ?_)
  · rcases hn with rfl | rfl | rfl | rfl | rfl | rfl | rfl | rfl | rfl | rfl | rfl | rfl | rfl | rfl <;> simp [tautochronelaw20_bare.f, code_Defines.f, tautochronelaw20_bare.j0, tautochronelaw20_bare.j1, tautochronelaw20_bare.j2, tautochronelaw20_bare.j3, bareS]
  · simp [tautochronelaw20_bare.f, code_Defines.f, tautochronelaw20_bare.j0, tautochronelaw20_bare.j1, tautochronelaw20_bare.j2, tautochronelaw20_bare.j3, bareS, h0, h1, h2, h3, h4, h5, h6, h7, h8, h9, h10, h11, h12, h13]
theorem ev4 {α : Type} {g : Nat → Option α} {r : α} (m : Nat) (h : ∀ k, g (k + m) = some r) : Ev g r :=
  ⟨m, fun k hk => by obtain ⟨j, rfl⟩ : ∃ j, k = j + m := ⟨k - m, by omega⟩; exact h j⟩
theorem bare_ev (o d t a b c v g : Int) : Ev (fun k => encode_bare.f k o d t a b c v g) (bareS o d t a b c v g) := ev4 4 (fun k => bare_is k ..)
theorem lawbare_ev (o d t a b c v g : Int) : Ev (fun k => tautochronelaw20_bare.f k o d t a b c v g) (bareS o d t a b c v g) := ev4 4 (fun k => lawbare_is k ..)
theorem Bare_ev (o d t a b c v g : Int) : Ev (fun k => encode_Bare.f k o d t a b c v g) (bareS o d t a b c v g) := by
  unfold encode_Bare.f
  exact Ev.bind (bare_ev ..) (Ev.done rfl)
/-- The registers that a code takes. -/
def usesS (o a b c : Int) : List Int :=
  if o = 1 ∨ o = 7 ∨ o = 10 ∨ o = 12 then [a] else if o = 2 then [a, b] else if o = 3 then [a, b, c] else if o = 4 then (if a ≥ 0 then [a] else []) else if o = 5 then (if a ≥ 0 then [a, b] else [b]) else []
theorem uses_is (k : Nat) (o d t a b c v g : Int) : code_Uses.f (k + 1) o d t a b c v g = some (usesS o a b c) := by
  refine op_cases (P := fun o => code_Uses.f (k + 1) o d t a b c v g = some (usesS o a b c)) o (fun n hn => ?_) (fun h0 h1 h2 h3 h4 h5 h6 h7 h8 h9 h10 h11 h12 h13 => ?_)
  · rcases hn with rfl | rfl | rfl | rfl | rfl | rfl | rfl | rfl | rfl | rfl | rfl | rfl | rfl | rfl <;> simp [code_Uses.f, code_Uses.j0, usesS] <;> split <;> rfl
  · simp [code_Uses.f, code_Uses.j0, usesS, h1, h2, h3, h4, h5, h7, h10, h12]
theorem uses_ev (o d t a b c v g : Int) : Ev (fun k => code_Uses.f k o d t a b c v g) (usesS o a b c) := ev4 1 (fun k => uses_is k ..)
theorem defines_is (o d t a b c v g : Int) : code_Defines.f o d t a b c v g = some (if o = 0 ∨ o = 1 ∨ o = 2 ∨ o = 3 ∨ o = 4 then (t, true) else (0, false)) := by
  unfold code_Defines.f
  by_cases h0 : o = 0
  · simp [h0]
  by_cases h1 : o = 1
  · simp [h1]
  by_cases h2 : o = 2
  · simp [h2]
  by_cases h3 : o = 3
  · simp [h3]
  by_cases h4 : o = 4
  · simp [h4]
  simp [h0, h1, h2, h3, h4]
theorem tight_is (d : Int) : ∃ n, word_Tight.f d = some n ∧ (n = 0 ↔ ¬ (0 ≤ d ∧ d ≤ 9)) := by
  by_cases h : 0 ≤ d ∧ d ≤ 9
  · have hk : ∀ n : Nat, n < 10 → ∃ m : Int, word_Tight.f (n : Int) = some m ∧ m ≠ 0 := by
      intro n hn
      have : n = 0 ∨ n = 1 ∨ n = 2 ∨ n = 3 ∨ n = 4 ∨ n = 5 ∨ n = 6 ∨ n = 7 ∨ n = 8 ∨ n = 9 := by omega
      rcases this with rfl | rfl | rfl | rfl | rfl | rfl | rfl | rfl | rfl | rfl <;> exact ⟨_, rfl, by decide⟩
    obtain ⟨n, rfl⟩ := Int.eq_ofNat_of_zero_le h.1
    obtain ⟨m, hm, h0⟩ := hk n (by omega)
    exact ⟨m, hm, by simp [h0]; omega⟩
  · refine ⟨0, ?_, by simp [h]⟩
    unfold word_Tight.f
    simp only [Option.bind_some]
    by_cases h1 : d < 0
    · rw [if_pos h1]
    · rw [if_neg h1, if_pos (by simp; omega)]
/-- Whether a code may have bytes. -/
def MayS (o d t a b c v g : Int) : Prop :=
  0 ≤ o ∧ o ≤ 13 ∧ (o = 2 → 0 ≤ d ∧ d ≤ 9) ∧ IsBare o d t a b c v g ∧ 0 ≤ g ∧ g ≤ 65535 ∧ (o ≤ 4 → 0 ≤ t ∧ t < 8) ∧ ∀ u ∈ usesS o a b c, 0 ≤ u ∧ u < 8
instance (o d t a b c v g : Int) : Decidable (MayS o d t a b c v g) := by unfold MayS; infer_instance
theorem uses_loop (us : List Int) (hl : us.length ≤ 3) : ∀ (m i : Nat), i + m = us.length → (∀ u ∈ us.take i, 0 ≤ u ∧ u < 8) → Ev (fun k => encode_May.l0 k us (us.length : Int) (i : Int)) (decide (∀ u ∈ us, 0 ≤ u ∧ u < 8)) := by
  intro m
  induction m with
  | zero =>
    intro i hi hu
    refine Ev.step (fun k => rfl) ?_
    refine Ev.neg (by omega) (Ev.done ?_)
    rw [List.take_of_length_le (by omega)] at hu
    exact (decide_eq_true hu).symm
  | succ m ih =>
    intro i hi hu
    have hlt : i < us.length := by omega
    refine Ev.step (fun k => rfl) ?_
    refine Ev.pos (by omega) (Ev.pos (by omega) (Ev.pos (by omega) ?_))
    have hm : us[i] ∈ us := List.getElem_mem hlt
    rw [rd_get us i hlt]
    by_cases h0 : us[i] < 0
    · exact Ev.pos h0 (Ev.done (decide_eq_false (fun h => by have := h _ hm; omega)).symm)
    · refine Ev.neg h0 ?_
      by_cases h1 : us[i] ≥ 8
      · exact Ev.pos h1 (Ev.done (decide_eq_false (fun h => by have := h _ hm; omega)).symm)
      · refine Ev.neg h1 ?_
        have e2 : wrap64 ((i : Int) + 1) = ((i + 1 : Nat) : Int) := by rw [wrap_in (by omega) (by omega)]; rfl
        simp only [e2]
        refine ih (i + 1) (by omega) (fun u hu1 => ?_)
        rw [List.take_succ_eq_append_getElem hlt] at hu1
        rcases List.mem_append.1 hu1 with h | h
        · exact hu u h
        · rw [List.mem_singleton] at h; subst h; omega
theorem uses_len (o a b c : Int) : (usesS o a b c).length ≤ 3 := by
  unfold usesS
  repeat' split
  all_goals simp
theorem bare_test (o d t a b c v g : Int) : (!(o == (bareS o d t a b c v g).1) || (!(d == (bareS o d t a b c v g).2.1) || (!(t == (bareS o d t a b c v g).2.2.1) || (!(a == (bareS o d t a b c v g).2.2.2.1) || (!(b == (bareS o d t a b c v g).2.2.2.2.1) || (!(c == (bareS o d t a b c v g).2.2.2.2.2.1) || (!(v == (bareS o d t a b c v g).2.2.2.2.2.2.1) || (!(g == (bareS o d t a b c v g).2.2.2.2.2.2.2)))))))))
    = !(decide (IsBare o d t a b c v g)) := by
  have h0 : (bareS o d t a b c v g).1 = o := rfl
  have e : ∀ x y : Int, (x == y) = decide (y = x) := fun x y => by
    by_cases h : y = x
    · subst h; simp
    · rw [decide_eq_false h, beq_eq_false_iff_ne.mpr (fun h3 => h h3.symm)]
  rw [h0]
  simp only [e, decide_true, Bool.not_true, Bool.false_or]
  have e2 : decide (IsBare o d t a b c v g) = decide ((bareS o d t a b c v g).2.1 = d ∧ (bareS o d t a b c v g).2.2.1 = t ∧ (bareS o d t a b c v g).2.2.2.1 = a ∧ (bareS o d t a b c v g).2.2.2.2.1 = b ∧ (bareS o d t a b c v g).2.2.2.2.2.1 = c ∧ (bareS o d t a b c v g).2.2.2.2.2.2.1 = v ∧ (bareS o d t a b c v g).2.2.2.2.2.2.2 = g) := by
    unfold IsBare; rfl
  rw [e2]
  generalize (bareS o d t a b c v g).2.1 = x1, (bareS o d t a b c v g).2.2.1 = x2, (bareS o d t a b c v g).2.2.2.1 = x3, (bareS o d t a b c v g).2.2.2.2.1 = x4, (bareS o d t a b c v g).2.2.2.2.2.1 = x5, (bareS o d t a b c v g).2.2.2.2.2.2.1 = x6, (bareS o d t a b c v g).2.2.2.2.2.2.2 = x7
  rw [Bool.eq_iff_iff]
  simp only [Bool.or_eq_true, Bool.not_eq_true', decide_eq_false_iff_not]
  omega
theorem may_j2 (o d t a b c v g : Int) (x : Bool) : Ev (fun k => encode_May.j2 k x o d t a b c v g) (!x && decide (∀ u ∈ usesS o a b c, 0 ≤ u ∧ u < 8)) := by
  refine Ev.step (f := fun k => if x = true then some false else (code_Uses.f k o d t a b c v g).bind fun t152 => encode_May.l0 k t152 (t152.length : Int) 0) (fun k => rfl) ?_
  cases x with
  | true => exact Ev.pos rfl (Ev.done rfl)
  | false =>
    refine Ev.neg (by decide) (Ev.bind (uses_ev ..) ?_)
    have := uses_loop (usesS o a b c) (uses_len ..) (usesS o a b c).length 0 (by omega) (by simp)
    simpa using this
theorem may_j1 (o d t a b c v g : Int) (x : Bool) : Ev (fun k => encode_May.j1 k x o d t a b c v g) (!x && decide ((o = 0 ∨ o = 1 ∨ o = 2 ∨ o = 3 ∨ o = 4 → 0 ≤ t ∧ t < 8) ∧ ∀ u ∈ usesS o a b c, 0 ≤ u ∧ u < 8)) := by
  refine Ev.step (fun k => encode_May.j1.eq_2 ..) ?_
  cases x with
  | true => exact Ev.pos rfl (Ev.done rfl)
  | false =>
    refine Ev.neg (by decide) (Ev.pure (defines_is ..) ?_)
    by_cases h : o = 0 ∨ o = 1 ∨ o = 2 ∨ o = 3 ∨ o = 4
    · rw [if_pos h]
      refine Ev.pos rfl ?_
      by_cases ht : t < 0
      · refine Ev.pos ht ?_
        have := may_j2 o d t a b c v g true
        have e : (!false && decide ((o = 0 ∨ o = 1 ∨ o = 2 ∨ o = 3 ∨ o = 4 → 0 ≤ t ∧ t < 8) ∧ ∀ u ∈ usesS o a b c, 0 ≤ u ∧ u < 8)) = false := by
          simp only [Bool.not_false, Bool.true_and, decide_eq_false_iff_not]
          intro hh; have := hh.1 h; omega
        rw [e]; simpa using this
      · refine Ev.neg ht ?_
        have := may_j2 o d t a b c v g (decide (t ≥ 8))
        have e : (!false && decide ((o = 0 ∨ o = 1 ∨ o = 2 ∨ o = 3 ∨ o = 4 → 0 ≤ t ∧ t < 8) ∧ ∀ u ∈ usesS o a b c, 0 ≤ u ∧ u < 8)) = (!decide (t ≥ 8) && decide (∀ u ∈ usesS o a b c, 0 ≤ u ∧ u < 8)) := by
          rw [Bool.eq_iff_iff]
          simp only [Bool.not_false, Bool.true_and, decide_eq_true_eq, Bool.and_eq_true, Bool.not_eq_true', decide_eq_false_iff_not]
          constructor
          · intro hh; exact ⟨by have := hh.1 h; omega, hh.2⟩
          · intro hh; exact ⟨fun _ => by omega, hh.2⟩
        rw [e]; exact this
    · rw [if_neg h]
      refine Ev.neg (by simp) ?_
      have := may_j2 o d t a b c v g false
      have e : (!false && decide ((o = 0 ∨ o = 1 ∨ o = 2 ∨ o = 3 ∨ o = 4 → 0 ≤ t ∧ t < 8) ∧ ∀ u ∈ usesS o a b c, 0 ≤ u ∧ u < 8)) = (!false && decide (∀ u ∈ usesS o a b c, 0 ≤ u ∧ u < 8)) := by
        rw [Bool.eq_iff_iff]
        simp only [Bool.not_false, Bool.true_and, decide_eq_true_eq]
        exact ⟨fun hh => hh.2, fun hh => ⟨fun h2 => absurd h2 h, hh⟩⟩
      rw [e]; exact this
theorem may_j0 (o d t a b c v g : Int) (x : Bool) : Ev (fun k => encode_May.j0 k x o d t a b c v g) (!x && decide (IsBare o d t a b c v g ∧ 0 ≤ g ∧ g ≤ 65535 ∧ (o = 0 ∨ o = 1 ∨ o = 2 ∨ o = 3 ∨ o = 4 → 0 ≤ t ∧ t < 8) ∧ ∀ u ∈ usesS o a b c, 0 ≤ u ∧ u < 8)) := by
  refine Ev.step (fun k => encode_May.j0.eq_2 ..) ?_
  cases x with
  | true => exact Ev.pos rfl (Ev.done rfl)
  | false =>
    refine Ev.neg (by decide) (Ev.bind (bare_ev ..) ?_)
    rw [bare_test]
    by_cases h : IsBare o d t a b c v g
    · refine Ev.neg (by simp [h]) ?_
      by_cases hg : g < 0
      · refine Ev.pos hg ?_
        have := may_j1 o d t a b c v g true
        have e : (!false && decide (IsBare o d t a b c v g ∧ 0 ≤ g ∧ g ≤ 65535 ∧ (o = 0 ∨ o = 1 ∨ o = 2 ∨ o = 3 ∨ o = 4 → 0 ≤ t ∧ t < 8) ∧ ∀ u ∈ usesS o a b c, 0 ≤ u ∧ u < 8)) = false := by
          simp only [Bool.not_false, Bool.true_and, decide_eq_false_iff_not]
          intro hh; have := hh.2.1; omega
        rw [e]; simpa using this
      · refine Ev.neg hg ?_
        have := may_j1 o d t a b c v g (decide (g > 65535))
        have e : (!false && decide (IsBare o d t a b c v g ∧ 0 ≤ g ∧ g ≤ 65535 ∧ (o = 0 ∨ o = 1 ∨ o = 2 ∨ o = 3 ∨ o = 4 → 0 ≤ t ∧ t < 8) ∧ ∀ u ∈ usesS o a b c, 0 ≤ u ∧ u < 8)) = (!decide (g > 65535) && decide ((o = 0 ∨ o = 1 ∨ o = 2 ∨ o = 3 ∨ o = 4 → 0 ≤ t ∧ t < 8) ∧ ∀ u ∈ usesS o a b c, 0 ≤ u ∧ u < 8)) := by
          rw [Bool.eq_iff_iff]
          simp only [Bool.not_false, Bool.true_and, decide_eq_true_eq, Bool.and_eq_true, Bool.not_eq_true', decide_eq_false_iff_not]
          constructor
          · intro hh; exact ⟨by omega, hh.2.2.2⟩
          · intro hh; exact ⟨h, by omega, by omega, hh.2⟩
        rw [e]; exact this
    · refine Ev.pos (by simp [h]) ?_
      have := may_j1 o d t a b c v g true
      have e : (!false && decide (IsBare o d t a b c v g ∧ 0 ≤ g ∧ g ≤ 65535 ∧ (o = 0 ∨ o = 1 ∨ o = 2 ∨ o = 3 ∨ o = 4 → 0 ≤ t ∧ t < 8) ∧ ∀ u ∈ usesS o a b c, 0 ≤ u ∧ u < 8)) = false := by
        simp only [Bool.not_false, Bool.true_and, decide_eq_false_iff_not]
        intro hh; exact h hh.1
      rw [e]; simpa using this
theorem may_ev (o d t a b c v g : Int) : Ev (fun k => encode_May.f k o d t a b c v g) (decide (MayS o d t a b c v g)) := by
  unfold encode_May.f
  have hj := may_j0 o d t a b c v g
  by_cases h1 : o < 0
  · refine Ev.pos h1 ?_
    have e : decide (MayS o d t a b c v g) = false := decide_eq_false (fun h => by have := h.1; omega)
    rw [e]; simpa using hj true
  refine Ev.neg h1 ?_
  by_cases h2 : o > 13
  · refine Ev.pos h2 ?_
    have e : decide (MayS o d t a b c v g) = false := decide_eq_false (fun h => by have := h.2.1; omega)
    rw [e]; simpa using hj true
  refine Ev.neg h2 ?_
  have core : ∀ x : Bool, (x = true ↔ o = 2 ∧ ¬ (0 ≤ d ∧ d ≤ 9)) → Ev (fun k => encode_May.j0 k x o d t a b c v g) (decide (MayS o d t a b c v g)) := by
    intro x hx
    have e : decide (MayS o d t a b c v g) = (!x && decide (IsBare o d t a b c v g ∧ 0 ≤ g ∧ g ≤ 65535 ∧ (o = 0 ∨ o = 1 ∨ o = 2 ∨ o = 3 ∨ o = 4 → 0 ≤ t ∧ t < 8) ∧ ∀ u ∈ usesS o a b c, 0 ≤ u ∧ u < 8)) := by
      rw [Bool.eq_iff_iff, Bool.and_eq_true, Bool.not_eq_true', decide_eq_true_iff, decide_eq_true_iff]
      constructor
      · rintro ⟨_, _, hd, hb, hg0, hg1, ht, hu⟩
        refine ⟨?_, hb, hg0, hg1, fun h => ht (by omega), hu⟩
        cases x with
        | false => rfl
        | true => have := hx.1 rfl; exact absurd (hd this.1) this.2
      · rintro ⟨hxf, hb, hg0, hg1, ht, hu⟩
        refine ⟨by omega, by omega, fun ho => ?_, hb, hg0, hg1, fun h => ht (by omega), hu⟩
        by_cases hd : 0 ≤ d ∧ d ≤ 9
        · exact hd
        · rw [hx.2 ⟨ho, hd⟩] at hxf; cases hxf
    rw [e]; exact hj x
  by_cases h3 : o = 2
  · refine Ev.pos h3 ?_
    obtain ⟨n, hn, hn0⟩ := tight_is d
    refine Ev.pure hn (core (n == 0) ?_)
    rw [beq_iff_eq, hn0]
    exact ⟨fun h => ⟨h3, h⟩, fun h => h.2⟩
  · exact Ev.neg h3 (core false (by simp [h3]))

theorem tmod_of (n m : Int) (hm : 0 < m) : Int.tmod n m = n % m ∨ Int.tmod n m = n % m - m := by
  rw [Int.tmod_eq_emod]
  split
  · left; omega
  · right; rw [Int.natAbs_of_nonneg (by omega)]
theorem rest_is (n m : Int) (hm : 0 < m) (hm2 : m ≤ 65536) : tautochronelaw20_rest.f n m = some (n % m) := by
  unfold tautochronelaw20_rest.f
  rw [if_neg (by omega)]
  have h0 := Int.emod_nonneg n (show m ≠ 0 by omega)
  have h1 := Int.emod_lt_of_pos n hm
  have ht := tmod_of n m hm
  rw [wrap_in (by omega) (by omega), Int.tmod_eq_emod_of_nonneg (by omega)]
  congr 1
  rcases ht with ht | ht <;> rw [ht]
  · rw [Int.add_emod_right, Int.emod_emod]
  · rw [show n % m - m + m = n % m by omega, Int.emod_emod]
/-- A code that may be, of any. -/
def mkA (o a : Int) : Int := if o % 14 = 4 ∨ o % 14 = 5 then a % 9 - 1 else a % 8
def makeS (o d t a b c v g : Int) : T8 := bareS (o % 14) (d % 10) (t % 8) (mkA o a) (b % 8) (c % 8) v (g % 65536)
theorem make_ev (o d t a b c v g : Int) : Ev (fun k => tautochronelaw20_Make.f k o d t a b c v g) (makeS o d t a b c v g) := by
  unfold tautochronelaw20_Make.f
  have hr : ∀ n m : Int, 0 < m → m ≤ 65536 → tautochronelaw20_rest.f n m = some (n % m) := rest_is
  refine Ev.pure (hr o 14 (by decide) (by decide)) (Ev.pure (hr d 10 (by decide) (by decide)) (Ev.pure (hr t 8 (by decide) (by decide)) (Ev.pure (hr b 8 (by decide) (by decide)) (Ev.pure (hr c 8 (by decide) (by decide)) (Ev.pure (hr g 65536 (by decide) (by decide)) ?_)))))
  have core : ∀ x : Bool, (x = true ↔ o % 14 = 4 ∨ o % 14 = 5) → Ev (fun k => tautochronelaw20_Make.j0 k x (o % 14) (d % 10) (t % 8) a (b % 8) (c % 8) v (g % 65536)) (makeS o d t a b c v g) := by
    intro x hx
    refine Ev.step (fun k => tautochronelaw20_Make.j0.eq_2 ..) ?_
    cases x with
    | true =>
      have h := hx.1 rfl
      refine Ev.pos rfl (Ev.pure (hr a 9 (by decide) (by decide)) ?_)
      rw [wrap_in (by omega) (by omega)]
      refine Ev.bind (lawbare_ev ..) (Ev.done ?_)
      simp only [makeS, mkA, if_pos h]
    | false =>
      have h : ¬ (o % 14 = 4 ∨ o % 14 = 5) := fun h => by have := hx.2 h; cases this
      refine Ev.neg (by decide) (Ev.pure (hr a 8 (by decide) (by decide)) ?_)
      refine Ev.bind (lawbare_ev ..) (Ev.done ?_)
      simp only [makeS, mkA, if_neg h]
  by_cases h4 : o % 14 = 4
  · exact Ev.pos h4 (core true (by simp [h4]))
  · exact Ev.neg h4 (core (o % 14 == 5) (by rw [beq_iff_eq]; omega))
/-- A code in its ranges, that is as it is told. -/
structure Ok8 (o d t a b c v g : Int) : Prop where
  o0 : 0 ≤ o
  o1 : o ≤ 13
  d0 : 0 ≤ d
  d1 : d ≤ 9
  t0 : -1 ≤ t
  t1 : t ≤ 7
  a0 : -1 ≤ a
  a1 : a ≤ 7
  b0 : -1 ≤ b
  b1 : b ≤ 7
  c0 : -1 ≤ c
  c1 : c ≤ 7
  v0 : 0 ≤ v
  v1 : v ≤ 18446744073709551615
  g0 : 0 ≤ g
  g1 : g ≤ 65535
  may : MayS o d t a b c v g
theorem make_ok (o d t a b c v g : Int) (hv0 : 0 ≤ v) (hv1 : v ≤ 18446744073709551615) :
    Ok8 (makeS o d t a b c v g).1 (makeS o d t a b c v g).2.1 (makeS o d t a b c v g).2.2.1 (makeS o d t a b c v g).2.2.2.1 (makeS o d t a b c v g).2.2.2.2.1 (makeS o d t a b c v g).2.2.2.2.2.1 (makeS o d t a b c v g).2.2.2.2.2.2.1 (makeS o d t a b c v g).2.2.2.2.2.2.2 := by
  have hA : (o % 14 = 4 ∨ o % 14 = 5 → -1 ≤ mkA o a ∧ mkA o a ≤ 7) ∧ (¬ (o % 14 = 4 ∨ o % 14 = 5) → 0 ≤ mkA o a ∧ mkA o a ≤ 7) := by
    unfold mkA
    constructor
    · intro h; rw [if_pos h]; omega
    · intro h; rw [if_neg h]; omega
  unfold makeS
  generalize mkA o a = a' at hA
  have ho : 0 ≤ o % 14 ∧ o % 14 ≤ 13 := by omega
  generalize o % 14 = o' at ho hA
  have hd : 0 ≤ d % 10 ∧ d % 10 ≤ 9 := by omega
  generalize d % 10 = d' at hd
  have ht : 0 ≤ t % 8 ∧ t % 8 ≤ 7 := by omega
  generalize t % 8 = t' at ht
  have hb : 0 ≤ b % 8 ∧ b % 8 ≤ 7 := by omega
  generalize b % 8 = b' at hb
  have hc : 0 ≤ c % 8 ∧ c % 8 ≤ 7 := by omega
  generalize c % 8 = c' at hc
  have hg : 0 ≤ g % 65536 ∧ g % 65536 ≤ 65535 := by omega
  generalize g % 65536 = g' at hg
  have hcases : o' = 0 ∨ o' = 1 ∨ o' = 2 ∨ o' = 3 ∨ o' = 4 ∨ o' = 5 ∨ o' = 6 ∨ o' = 7 ∨ o' = 8 ∨ o' = 9 ∨ o' = 10 ∨ o' = 11 ∨ o' = 12 ∨ o' = 13 := by omega
  clear ho
  rcases hcases with rfl | rfl | rfl | rfl | rfl | rfl | rfl | rfl | rfl | rfl | rfl | rfl | rfl | rfl <;> simp at hA
  all_goals first
    | (constructor <;> simp [bareS, MayS, IsBare, usesS] <;> omega)
    | (have hm : mx a' (-1) = a' := by unfold mx; omega
       constructor <;> simp [bareS, MayS, IsBare, usesS, hm] <;> (first | omega | (split <;> simp <;> omega)))
def regS (r : Int) : Int := if r < 0 then 255 else r % 256
theorem reg_is (r : Int) : encode_reg.f r = some (regS r) := by
  unfold encode_reg.f regS; split <;> rfl
/-- A code's bytes. -/
def headS (o d t a b c g : Int) : List Int := [o % 256, d % 256, regS t, regS a, regS b, regS c, (g / 256) % 256, g % 256]
def wordS (v : Int) : List Int := [v / 72057594037927936 % 256, v / 281474976710656 % 256, v / 1099511627776 % 256, v / 4294967296 % 256, v / 16777216 % 256, v / 65536 % 256, v / 256 % 256, v % 256]
def encS (o d t a b c v g : Int) : List Int := headS o d t a b c g ++ wordS v
theorem enc_step (k : Nat) (xs : List Int) (j o d t a b c v g : Int) (h0 : 0 ≤ j) (h7 : j ≤ 7) (hl : xs.length < 100) :
    encode_Encode.l0 (k + 1) xs j o d t a b c v g = encode_Encode.l0 k (xs ++ [(shr .u64 v (8 * j)) % 256]) (j - 1) o d t a b c v g := by
  show (if j ≥ 0 then _ else _) = _
  rw [if_pos h0, wrap_in (x := 8 * j) (by omega) (by omega), if_pos (by omega), if_pos (by omega), wrap_in (by omega) (by omega)]
theorem enc_loop (k : Nat) (hd : List Int) (hh : hd.length = 8) (o d t a b c v g : Int) : encode_Encode.l0 (k + 9) hd 7 o d t a b c v g = some (hd ++ wordS v, true) := by
  rw [enc_step (k + 8) _ _ _ _ _ _ _ _ _ _ (by omega) (by omega) (by omega)]
  rw [enc_step (k + 7) _ _ _ _ _ _ _ _ _ _ (by omega) (by omega) (by simp only [List.length_append, List.length_cons, List.length_nil]; omega)]
  rw [enc_step (k + 6) _ _ _ _ _ _ _ _ _ _ (by omega) (by omega) (by simp only [List.length_append, List.length_cons, List.length_nil]; omega)]
  rw [enc_step (k + 5) _ _ _ _ _ _ _ _ _ _ (by omega) (by omega) (by simp only [List.length_append, List.length_cons, List.length_nil]; omega)]
  rw [enc_step (k + 4) _ _ _ _ _ _ _ _ _ _ (by omega) (by omega) (by simp only [List.length_append, List.length_cons, List.length_nil]; omega)]
  rw [enc_step (k + 3) _ _ _ _ _ _ _ _ _ _ (by omega) (by omega) (by simp only [List.length_append, List.length_cons, List.length_nil]; omega)]
  rw [enc_step (k + 2) _ _ _ _ _ _ _ _ _ _ (by omega) (by omega) (by simp only [List.length_append, List.length_cons, List.length_nil]; omega)]
  rw [enc_step (k + 1) _ _ _ _ _ _ _ _ _ _ (by omega) (by omega) (by simp only [List.length_append, List.length_cons, List.length_nil]; omega)]
  show (if (7 - 1 - 1 - 1 - 1 - 1 - 1 - 1 - 1 : Int) ≥ 0 then _ else _) = _
  rw [if_neg (by omega)]
  have e7 : shr .u64 v (8 * 7) = v / 72057594037927936 := (shr_small (k := .u64) (x := v) (y := 56) (j := _) rfl (by decide)).symm
  have e6 : shr .u64 v (8 * (7 - 1)) = v / 281474976710656 := (shr_small (k := .u64) (x := v) (y := 48) (j := _) rfl (by decide)).symm
  have e5 : shr .u64 v (8 * (7 - 1 - 1)) = v / 1099511627776 := (shr_small (k := .u64) (x := v) (y := 40) (j := _) rfl (by decide)).symm
  have e4 : shr .u64 v (8 * (7 - 1 - 1 - 1)) = v / 4294967296 := (shr_small (k := .u64) (x := v) (y := 32) (j := _) rfl (by decide)).symm
  have e3 : shr .u64 v (8 * (7 - 1 - 1 - 1 - 1)) = v / 16777216 := (shr_small (k := .u64) (x := v) (y := 24) (j := _) rfl (by decide)).symm
  have e2 : shr .u64 v (8 * (7 - 1 - 1 - 1 - 1 - 1)) = v / 65536 := (shr_small (k := .u64) (x := v) (y := 16) (j := _) rfl (by decide)).symm
  have e1 : shr .u64 v (8 * (7 - 1 - 1 - 1 - 1 - 1 - 1)) = v / 256 := (shr_small (k := .u64) (x := v) (y := 8) (j := _) rfl (by decide)).symm
  have e0 : shr .u64 v (8 * (7 - 1 - 1 - 1 - 1 - 1 - 1 - 1)) = v := by
    have := (shr_small (k := .u64) (x := v) (y := 0) (j := _) rfl (by decide)).symm
    simpa using this
  rw [e7, e6, e5, e4, e3, e2, e1, e0]
  simp only [wordS, List.append_assoc, List.cons_append, List.nil_append]
theorem enc_ev (o d t a b c v g : Int) : Ev (fun k => encode_Encode.f k o d t a b c v g) (if MayS o d t a b c v g then (encS o d t a b c v g, true) else ([], false)) := by
  unfold encode_Encode.f
  refine Ev.bind (may_ev ..) ?_
  by_cases h : MayS o d t a b c v g
  · rw [decide_eq_true h, if_pos h]
    refine Ev.pos rfl (Ev.pure (reg_is t) (Ev.pure (reg_is a) (Ev.pure (reg_is b) (Ev.pure (reg_is c) ?_))))
    exact ev4 9 (fun k => enc_loop k (headS o d t a b c g) rfl o d t a b c v g)
  · rw [decide_eq_false h, if_neg h]
    exact Ev.neg (by decide) (Ev.done rfl)
theorem reg_inj {x y : Int} (hx0 : -1 ≤ x) (hx1 : x ≤ 7) (hy0 : -1 ≤ y) (hy1 : y ≤ 7) (h : regS x = regS y) : x = y := by
  unfold regS at h
  split at h <;> split at h <;> omega
theorem word_inj {v w : Int} (hv0 : 0 ≤ v) (hv1 : v ≤ 18446744073709551615) (hw0 : 0 ≤ w) (hw1 : w ≤ 18446744073709551615) (h : wordS v = wordS w) : v = w := by
  unfold wordS at h
  simp only [List.cons.injEq, and_true] at h
  omega
theorem enc_inj {o d t a b c v g o' d' t' a' b' c' v' g' : Int} (h : Ok8 o d t a b c v g) (h' : Ok8 o' d' t' a' b' c' v' g') (e : encS o d t a b c v g = encS o' d' t' a' b' c' v' g') :
    o = o' ∧ d = d' ∧ t = t' ∧ a = a' ∧ b = b' ∧ c = c' ∧ v = v' ∧ g = g' := by
  obtain ⟨o0, o1, d0, d1, t0, t1, a0, a1, b0, b1, c0, c1, v0, v1, g0, g1, _⟩ := h
  obtain ⟨o0', o1', d0', d1', t0', t1', a0', a1', b0', b1', c0', c1', v0', v1', g0', g1', _⟩ := h'
  have e1 : headS o d t a b c g = headS o' d' t' a' b' c' g' ∧ wordS v = wordS v' := List.append_inj e rfl
  have e2 := e1.1
  unfold headS at e2
  simp only [List.cons.injEq, and_true] at e2
  obtain ⟨x1, x2, x3, x4, x5, x6, x7, x8⟩ := e2
  exact ⟨by omega, by omega, reg_inj t0 t1 t0' t1' x3, reg_inj a0 a1 a0' a1' x4, reg_inj b0 b1 b0' b1' x5, reg_inj c0 c1 c0' c1' x6, word_inj v0 v1 v0' v1' e1.2, by omega⟩
theorem enc_byte (o d t a b c v g : Int) : ∀ x ∈ encS o d t a b c v g, 0 ≤ x ∧ x < 256 := by
  intro x hx
  have hr : ∀ r, 0 ≤ regS r ∧ regS r < 256 := fun r => by unfold regS; split <;> omega
  unfold encS headS wordS at hx
  simp only [List.cons_append, List.nil_append, List.mem_cons, List.not_mem_nil, or_false] at hx
  rcases hx with rfl | rfl | rfl | rfl | rfl | rfl | rfl | rfl | rfl | rfl | rfl | rfl | rfl | rfl | rfl | rfl <;> first | exact hr _ | omega
def okX (x : S46) : Prop := MayS x.f0 x.f1 x.f2 x.f3 x.f4 x.f5 x.f6 x.f7
instance (x : S46) : Decidable (okX x) := by unfold okX; infer_instance
def encX (x : S46) : List Int := encS x.f0 x.f1 x.f2 x.f3 x.f4 x.f5 x.f6 x.f7
theorem encX_len (x : S46) : (encX x).length = 16 := rfl
theorem flat_lenX (xs : List S46) : (xs.flatMap encX).length = 16 * xs.length := by
  induction xs with
  | nil => rfl
  | cons a xs ih => rw [List.flatMap_cons, List.length_append, ih, encX_len, List.length_cons]; omega
theorem rdT_at (xs : List S46) (i : Nat) (h : i < xs.length) : rd_T46 xs (i : Int) = xs[i] := by
  simp [rd_T46, List.getD_eq_getElem?_getD, List.getElem?_eq_getElem h]
theorem nxt (i : Nat) (h : i ≤ 9223372036854775806) : wrap64 ((i : Int) + 1) = ((i + 1 : Nat) : Int) := by rw [wrap_in (by omega) (by omega)]; rfl
theorem all_loop (xs : List S46) (hl : xs.length ≤ 2199023255551) : ∀ (d i : Nat) (acc : List Int), i + d = xs.length → acc.length ≤ 16 * i →
    Ev (fun k => encode_All.l0 k acc xs (xs.length : Int) (i : Int)) (if ∀ x ∈ xs.drop i, okX x then (acc ++ (xs.drop i).flatMap encX, true) else ([], false)) := by
  intro d
  induction d with
  | zero =>
    intro i acc hi ha
    refine Ev.step (fun k => rfl) ?_
    have : xs.drop i = [] := List.drop_eq_nil_of_le (by omega)
    rw [this]
    exact Ev.neg (by omega) (Ev.done (by simp))
  | succ d ih =>
    intro i acc hi ha
    refine Ev.step (fun k => rfl) ?_
    refine Ev.pos (by omega) (Ev.pos (by omega) (Ev.pos (by omega) ?_))
    have hil : i < xs.length := by omega
    simp only [rdT_at xs i hil]
    refine Ev.bind (enc_ev ..) ?_
    rw [List.drop_eq_getElem_cons hil]
    by_cases hk : okX xs[i]
    · have hk' : MayS xs[i].f0 xs[i].f1 xs[i].f2 xs[i].f3 xs[i].f4 xs[i].f5 xs[i].f6 xs[i].f7 := hk
      rw [if_pos hk']
      have hlen : (encS xs[i].f0 xs[i].f1 xs[i].f2 xs[i].f3 xs[i].f4 xs[i].f5 xs[i].f6 xs[i].f7).length = 16 := rfl
      refine Ev.pos rfl (Ev.pos (by show acc.length + 16 < _; omega) ?_)
      simp only [nxt i (by omega)]
      have := ih (i + 1) (acc ++ encX xs[i]) (by omega) (by rw [List.length_append, encX_len]; omega)
      have e : (∀ x ∈ xs[i] :: xs.drop (i + 1), okX x) ↔ ∀ x ∈ xs.drop (i + 1), okX x :=
        ⟨fun h x hx => h x (List.mem_cons_of_mem _ hx), fun h x hx => by
          rcases List.mem_cons.mp hx with rfl | hx
          · exact hk
          · exact h x hx⟩
      rw [List.flatMap_cons, ← List.append_assoc]
      simp only [e]
      exact this
    · have hk' : ¬ MayS xs[i].f0 xs[i].f1 xs[i].f2 xs[i].f3 xs[i].f4 xs[i].f5 xs[i].f6 xs[i].f7 := hk
      rw [if_neg hk', if_neg (by intro h; exact hk (h _ List.mem_cons_self))]
      exact Ev.neg (by decide) (Ev.done rfl)
theorem all_ev (xs : List S46) (hl : xs.length ≤ 2199023255551) : Ev (fun k => encode_All.f k xs) (if ∀ x ∈ xs, okX x then (xs.flatMap encX, true) else ([], false)) := by
  have := all_loop xs hl xs.length 0 [] (by omega) (by simp)
  simpa [encode_All.f] using this
def Ok46 (x : S46) : Prop := Ok8 x.f0 x.f1 x.f2 x.f3 x.f4 x.f5 x.f6 x.f7
def U16 (us : List Int) : Bool := us.all fun u => decide (0 ≤ u ∧ u ≤ 65535)
/-- A code good among n codes: its operation and operator are some, its target among them, its values below 65536. -/
def gcS (n : Nat) (o d t a b c g : Int) : Prop :=
  0 ≤ o ∧ o ≤ 13 ∧ (o = 2 → 0 ≤ d ∧ d ≤ 9) ∧ (o = 6 ∨ o = 7 → 0 ≤ g ∧ g < n) ∧ (o = 0 ∨ o = 1 ∨ o = 2 ∨ o = 3 ∨ o = 4 → 0 ≤ t ∧ t ≤ 65535) ∧ U16 (usesS o a b c) = true
instance (n : Nat) (o d t a b c g : Int) : Decidable (gcS n o d t a b c g) := by unfold gcS; infer_instance
def gcX (n : Nat) (x : S46) : Prop := gcS n x.f0 x.f1 x.f2 x.f3 x.f4 x.f5 x.f7
instance (n : Nat) (x : S46) : Decidable (gcX n x) := by unfold gcX; infer_instance
def lastS (l : List S46) : Int := (rd_T46 l ((l.length : Int) - 1)).f0
def goodS (l : List S46) : Prop := l.length ≠ 0 ∧ l.length ≤ 4096 ∧ (lastS l = 13 ∨ lastS l = 6) ∧ ∀ x ∈ l, gcX l.length x
instance (l : List S46) : Decidable (goodS l) := by unfold goodS; infer_instance
theorem jumps_is (o d t a b c v g : Int) : code_Jumps.f o d t a b c v g = some (if o = 6 then (true, false) else if o = 7 then (true, true) else (false, o != 13)) := by
  unfold code_Jumps.f
  by_cases h : o = 6
  · rw [if_pos h, if_pos h]
  · rw [if_neg h, if_neg h]
    by_cases h2 : o = 7
    · rw [if_pos h2, if_pos h2]
    · rw [if_neg h2, if_neg h2]
theorem good_l1 (x0 x33 : List S46) (x34 i : Int) (us : List Int) (hl : us.length ≤ 3) (r : Bool) (hr : Ev (fun k => code_Good.l0 k x0 x33 x34 (wrap64 (i + 1))) r) :
    ∀ (m j : Nat), j + m = us.length → Ev (fun k => code_Good.l1 k x0 x33 x34 i us (us.length : Int) (j : Int)) (U16 (us.drop j) && r) := by
  intro m
  induction m with
  | zero =>
    intro j hj
    refine Ev.step (fun k => code_Good.l1.eq_2 ..) (Ev.neg (by omega) ?_)
    rw [List.drop_eq_nil_of_le (by omega)]
    simpa [U16] using hr
  | succ m ih =>
    intro j hj
    have hlt : j < us.length := by omega
    refine Ev.step (fun k => code_Good.l1.eq_2 ..) (Ev.pos (by omega) (Ev.pos (by omega) (Ev.pos (by omega) ?_)))
    rw [rd_get us j hlt, List.drop_eq_getElem_cons hlt]
    have e : ∀ z : Bool, (0 ≤ us[j] ∧ us[j] ≤ 65535 ↔ z = true) → (U16 (us[j] :: us.drop (j + 1)) && r) = (z && (U16 (us.drop (j + 1)) && r)) := by
      intro z hz
      have : decide (0 ≤ us[j] ∧ us[j] ≤ 65535) = z := by
        cases z with
        | true => exact decide_eq_true (hz.mpr rfl)
        | false => exact decide_eq_false (fun h => by have := hz.mp h; cases this)
      rw [U16, List.all_cons, this, Bool.and_assoc]; rfl
    by_cases h0 : us[j] < 0
    · rw [e false ⟨fun h => by omega, fun h => by cases h⟩]; exact Ev.pos h0 (Ev.done rfl)
    · refine Ev.neg h0 ?_
      by_cases h1 : us[j] > 65535
      · rw [e false ⟨fun h => by omega, fun h => by cases h⟩]; exact Ev.pos h1 (Ev.done rfl)
      · refine Ev.neg h1 ?_
        rw [e true ⟨fun _ => rfl, fun _ => by omega⟩, nxt j (by omega)]
        exact ih (j + 1) (by omega)
theorem good_j5 (x0 x33 : List S46) (x34 i : Int) (o d t a b c v g : Int) (x r : Bool) (hr : Ev (fun k => code_Good.l0 k x0 x33 x34 (wrap64 (i + 1))) r) :
    Ev (fun k => code_Good.j5 k x0 x33 x34 i x o d t a b c v g) (!x && (U16 (usesS o a b c) && r)) := by
  refine Ev.step (fun k => code_Good.j5.eq_2 ..) ?_
  cases x with
  | true => exact Ev.pos rfl (Ev.done rfl)
  | false =>
    refine Ev.neg (by decide) (Ev.bind (uses_ev ..) ?_)
    simpa using good_l1 x0 x33 x34 i (usesS o a b c) (uses_len ..) r hr (usesS o a b c).length 0 (by omega)
theorem good_j4 (x0 x33 : List S46) (x34 i : Int) (o d t a b c v g : Int) (x r : Bool) (hr : Ev (fun k => code_Good.l0 k x0 x33 x34 (wrap64 (i + 1))) r) :
    Ev (fun k => code_Good.j4 k x0 x33 x34 i x o d t a b c v g) (!x && (decide ((o = 0 ∨ o = 1 ∨ o = 2 ∨ o = 3 ∨ o = 4 → 0 ≤ t ∧ t ≤ 65535) ∧ U16 (usesS o a b c) = true) && r)) := by
  refine Ev.step (fun k => code_Good.j4.eq_2 ..) ?_
  cases x with
  | true => exact Ev.pos rfl (Ev.done rfl)
  | false =>
    refine Ev.neg (by decide) (Ev.pure (defines_is ..) ?_)
    have h5 := fun x => good_j5 x0 x33 x34 i o d t a b c v g x r hr
    by_cases h : o = 0 ∨ o = 1 ∨ o = 2 ∨ o = 3 ∨ o = 4
    · rw [if_pos h]
      by_cases h0 : t < 0
      · refine Ev.pos h0 ?_
        have := h5 true
        rw [decide_eq_false (fun hh => by have := hh.1 h; omega)]; simpa using this
      · refine Ev.neg h0 ?_
        have := h5 (decide (t > 65535))
        have e : decide ((o = 0 ∨ o = 1 ∨ o = 2 ∨ o = 3 ∨ o = 4 → 0 ≤ t ∧ t ≤ 65535) ∧ U16 (usesS o a b c) = true) = (!decide (t > 65535) && U16 (usesS o a b c)) := by
          rw [Bool.eq_iff_iff]
          simp only [decide_eq_true_eq, Bool.and_eq_true, Bool.not_eq_true', decide_eq_false_iff_not]
          exact ⟨fun hh => ⟨by have := hh.1 h; omega, hh.2⟩, fun hh => ⟨fun _ => by omega, hh.2⟩⟩
        rw [e, Bool.and_assoc]; simpa using this
    · rw [if_neg h]
      refine Ev.neg (by decide) ?_
      have := h5 false
      have e : decide ((o = 0 ∨ o = 1 ∨ o = 2 ∨ o = 3 ∨ o = 4 → 0 ≤ t ∧ t ≤ 65535) ∧ U16 (usesS o a b c) = true) = U16 (usesS o a b c) := by
        rw [Bool.eq_iff_iff, decide_eq_true_iff]
        exact ⟨fun hh => hh.2, fun hh => ⟨fun h2 => absurd h2 h, hh⟩⟩
      rw [e]; simpa using this
theorem good_j3 (x0 x33 : List S46) (x34 i : Int) (o d t a b c v g : Int) (x r : Bool) (hr : Ev (fun k => code_Good.l0 k x0 x33 x34 (wrap64 (i + 1))) r) :
    Ev (fun k => code_Good.j3 k x0 x33 x34 i x o d t a b c v g) (!x && (decide ((o = 6 ∨ o = 7 → 0 ≤ g ∧ g < x0.length) ∧ (o = 0 ∨ o = 1 ∨ o = 2 ∨ o = 3 ∨ o = 4 → 0 ≤ t ∧ t ≤ 65535) ∧ U16 (usesS o a b c) = true) && r)) := by
  refine Ev.step (fun k => code_Good.j3.eq_2 ..) ?_
  cases x with
  | true => exact Ev.pos rfl (Ev.done rfl)
  | false =>
    refine Ev.neg (by decide) (Ev.pure (jumps_is ..) ?_)
    have h4 := fun x => good_j4 x0 x33 x34 i o d t a b c v g x r hr
    by_cases h : o = 6 ∨ o = 7
    · have e1 : (if o = 6 then (true, false) else if o = 7 then (true, true) else (false, o != 13)).1 = true := by
        rcases h with rfl | rfl <;> rfl
      refine Ev.pos e1 ?_
      by_cases h0 : g < 0
      · refine Ev.pos h0 ?_
        have := h4 true
        rw [decide_eq_false (fun hh => by have := hh.1 h; omega)]; simpa using this
      · refine Ev.neg h0 ?_
        have := h4 (decide (g ≥ (x0.length : Int)))
        have e : decide ((o = 6 ∨ o = 7 → 0 ≤ g ∧ g < x0.length) ∧ (o = 0 ∨ o = 1 ∨ o = 2 ∨ o = 3 ∨ o = 4 → 0 ≤ t ∧ t ≤ 65535) ∧ U16 (usesS o a b c) = true) = (!decide (g ≥ (x0.length : Int)) && decide ((o = 0 ∨ o = 1 ∨ o = 2 ∨ o = 3 ∨ o = 4 → 0 ≤ t ∧ t ≤ 65535) ∧ U16 (usesS o a b c) = true)) := by
          rw [Bool.eq_iff_iff]
          simp only [decide_eq_true_eq, Bool.and_eq_true, Bool.not_eq_true', decide_eq_false_iff_not]
          exact ⟨fun hh => ⟨by have := hh.1 h; omega, hh.2⟩, fun hh => ⟨fun _ => by omega, hh.2⟩⟩
        rw [e, Bool.and_assoc]; simpa using this
    · have e1 : (if o = 6 then (true, false) else if o = 7 then (true, true) else (false, o != 13)).1 = false := by
        rw [if_neg (fun h6 => h (.inl h6)), if_neg (fun h7 => h (.inr h7))]
      refine Ev.neg (by rw [e1]; decide) ?_
      have := h4 false
      have e : decide ((o = 6 ∨ o = 7 → 0 ≤ g ∧ g < x0.length) ∧ (o = 0 ∨ o = 1 ∨ o = 2 ∨ o = 3 ∨ o = 4 → 0 ≤ t ∧ t ≤ 65535) ∧ U16 (usesS o a b c) = true) = decide ((o = 0 ∨ o = 1 ∨ o = 2 ∨ o = 3 ∨ o = 4 → 0 ≤ t ∧ t ≤ 65535) ∧ U16 (usesS o a b c) = true) := by
        rw [decide_eq_decide]
        exact ⟨fun hh => hh.2, fun hh => ⟨fun h2 => absurd h2 h, hh⟩⟩
      rw [e]; simpa using this
theorem good_l0 (l : List S46) (hl : l.length ≤ 4096) : ∀ (m i : Nat), i + m = l.length → Ev (fun k => code_Good.l0 k l l (l.length : Int) (i : Int)) ((l.drop i).all fun x => decide (gcX l.length x)) := by
  intro m
  induction m with
  | zero =>
    intro i hi
    refine Ev.step (fun k => code_Good.l0.eq_2 ..) (Ev.neg (by omega) (Ev.done ?_))
    rw [List.drop_eq_nil_of_le (by omega)]
    simp
  | succ m ih =>
    intro i hi
    have hlt : i < l.length := by omega
    refine Ev.step (fun k => code_Good.l0.eq_2 ..) (Ev.pos (by omega) (Ev.pos (by omega) (Ev.pos (by omega) ?_)))
    rw [rdT_at l i hlt, List.drop_eq_getElem_cons hlt]
    have hr : Ev (fun k => code_Good.l0 k l l (l.length : Int) (wrap64 ((i : Int) + 1))) ((l.drop (i + 1)).all fun x => decide (gcX l.length x)) := by
      rw [nxt i (by omega)]; exact ih (i + 1) (by omega)
    obtain ⟨x, hx⟩ : ∃ x, x = l[i] := ⟨_, rfl⟩
    rw [← hx]
    have h3 := fun z => good_j3 l l (l.length : Int) (i : Int) x.f0 x.f1 x.f2 x.f3 x.f4 x.f5 x.f6 x.f7 z _ hr
    have e : ∀ z : Bool, (0 ≤ x.f0 ∧ x.f0 ≤ 13 ∧ (x.f0 = 2 → 0 ≤ x.f1 ∧ x.f1 ≤ 9) ↔ z = false) → (!z && (decide ((x.f0 = 6 ∨ x.f0 = 7 → 0 ≤ x.f7 ∧ x.f7 < l.length) ∧ (x.f0 = 0 ∨ x.f0 = 1 ∨ x.f0 = 2 ∨ x.f0 = 3 ∨ x.f0 = 4 → 0 ≤ x.f2 ∧ x.f2 ≤ 65535) ∧ U16 (usesS x.f0 x.f3 x.f4 x.f5) = true) && (l.drop (i + 1)).all fun x => decide (gcX l.length x))) = (x :: l.drop (i + 1)).all fun y => decide (gcX l.length y) := by
      intro z hz
      rw [List.all_cons, ← Bool.and_assoc]
      congr 1
      rw [Bool.eq_iff_iff]
      simp only [decide_eq_true_eq, Bool.and_eq_true, Bool.not_eq_true']
      constructor
      · rintro ⟨h1, h2⟩
        obtain ⟨q1, q2, q3⟩ := hz.mpr h1
        exact ⟨q1, q2, q3, h2⟩
      · rintro ⟨q1, q2, q3, q4⟩
        exact ⟨hz.mp ⟨q1, q2, q3⟩, q4⟩
    by_cases h0 : x.f0 < 0
    · refine Ev.pos h0 ?_
      rw [← e true ⟨fun hh => by omega, fun hh => by cases hh⟩]; exact h3 true
    · refine Ev.neg h0 ?_
      by_cases h1 : x.f0 > 13
      · refine Ev.pos h1 ?_
        rw [← e true ⟨fun hh => by omega, fun hh => by cases hh⟩]; exact h3 true
      · refine Ev.neg h1 ?_
        by_cases h2 : x.f0 = 2
        · refine Ev.pos h2 ?_
          obtain ⟨n, hn, hn0⟩ := tight_is x.f1
          refine Ev.pure hn ?_
          rw [← e (n == 0) ⟨fun hh => by rw [beq_eq_false_iff_ne]; intro hz; exact (hn0.mp hz) (hh.2.2 h2), fun hh => ⟨by omega, by omega, fun _ => by
            rw [beq_eq_false_iff_ne] at hh
            exact Decidable.byContradiction fun hc => hh (hn0.mpr hc)⟩⟩]
          exact h3 (n == 0)
        · refine Ev.neg h2 ?_
          rw [← e false ⟨fun _ => rfl, fun _ => ⟨by omega, by omega, fun hh => absurd hh h2⟩⟩]; exact h3 false
theorem good_ev (l : List S46) (hl : l.length ≤ 9223372036854775807) : Ev (fun k => code_Good.f k l) (decide (goodS l)) := by
  unfold code_Good.f
  by_cases h0 : (l.length : Int) = 0
  · refine Ev.pos h0 (Ev.step (fun k => code_Good.j0.eq_2 ..) (Ev.pos rfl (Ev.done ?_)))
    exact (decide_eq_false fun h => h.1 (by omega)).symm
  · refine Ev.neg h0 (Ev.step (fun k => code_Good.j0.eq_2 ..) ?_)
    by_cases h1 : (l.length : Int) > 4096
    · refine Ev.pos (by simpa using h1) (Ev.done ?_)
      exact (decide_eq_false fun h => by have := h.2.1; omega).symm
    · have e : wrap64 ((l.length : Int) - 1) = (l.length : Int) - 1 := wrap_in (by omega) (by omega)
      refine Ev.neg (by simpa using h1) ?_
      rw [e]
      refine Ev.pos (by omega) (Ev.pos (by omega) ?_)
      have hl := good_l0 l (by omega) l.length 0 (by omega)
      rw [List.drop_zero] at hl
      have hj : ∀ z : Bool, (lastS l = 13 ∨ lastS l = 6 ↔ z = false) → Ev (fun k => code_Good.j1 k l z) (decide (goodS l)) := by
        intro z hz
        refine Ev.step (fun k => code_Good.j1.eq_2 ..) ?_
        cases z with
        | true =>
          refine Ev.pos rfl (Ev.done ?_)
          exact (decide_eq_false fun h => by have := hz.mp h.2.2.1; cases this).symm
        | false =>
          refine Ev.neg (by decide) ?_
          have e2 : decide (goodS l) = l.all fun x => decide (gcX l.length x) := by
            rw [Bool.eq_iff_iff, decide_eq_true_iff, List.all_eq_true]
            exact ⟨fun h x hx => decide_eq_true (h.2.2.2 x hx), fun h => ⟨by omega, by omega, hz.mpr rfl, fun x hx => of_decide_eq_true (h x hx)⟩⟩
          rw [e2]; exact hl
      by_cases h13 : (rd_T46 l ((l.length : Int) - 1)).f0 = 13
      · exact Ev.pos h13 (hj false ⟨fun _ => rfl, fun _ => .inl h13⟩)
      · refine Ev.neg h13 (hj _ ⟨fun h => ?_, fun h => .inr ?_⟩)
        · rcases h with h | h
          · exact absurd h h13
          · rw [bne_eq_false_iff_eq]; exact h
        · rw [bne_eq_false_iff_eq] at h; exact h
theorem rdL_at (L : List (List S46)) (i : Nat) (h : i < L.length) : rd_L3 L (i : Int) = L[i] := by
  simp [rd_L3, List.getD_eq_getElem?_getD, List.getElem?_eq_getElem h]
/-- The first cell of an instruction is one. -/
def inS (c : Int) (x : S46) : Prop := x.f0 = 4 ∨ x.f0 = 5 ∨ x.f0 = 8 ∨ x.f0 = 9 ∨ x.f0 = 10 → x.f6 < c
instance (c : Int) (x : S46) : Decidable (inS c x) := by unfold inS; infer_instance
def thS (c : Int) (t : List S46) : Prop := goodS t ∧ ∀ x ∈ t, okX x ∧ inS c x
instance (c : Int) (t : List S46) : Decidable (thS c t) := by unfold thS; infer_instance
def imS (s c : Int) (L : List (List S46)) : Prop := 0 ≤ s ∧ s ≤ c ∧ c ≤ 1048576 ∧ L.length ≤ 16 ∧ ∀ t ∈ L, thS c t
instance (s c : Int) (L : List (List S46)) : Decidable (imS s c L) := by unfold imS; infer_instance
theorem u64_in {c : Int} (h0 : 0 ≤ c) (h1 : c ≤ 1048576) : IntKind.u64.wrap c = c := by rw [IntKind.wrap_u64]; omega
theorem within_is (x : S46) (c : Int) (h0 : 0 ≤ c) (h1 : c ≤ 1048576) : image_within.f x.f0 x.f1 x.f2 x.f3 x.f4 x.f5 x.f6 x.f7 c = some (decide (inS c x)) := by
  unfold image_within.f
  rw [u64_in h0 h1]
  have yes : (x.f0 = 4 ∨ x.f0 = 5 ∨ x.f0 = 8 ∨ x.f0 = 9 ∨ x.f0 = 10) → some (decide (x.f6 < c)) = some (decide (inS c x)) := by
    intro h
    rw [Option.some.injEq, decide_eq_decide]
    exact ⟨fun hh _ => hh, fun hh => hh h⟩
  by_cases e4 : x.f0 = 4
  · rw [if_pos e4]; exact yes (.inl e4)
  by_cases e5 : x.f0 = 5
  · rw [if_neg e4, if_pos e5]; exact yes (.inr (.inl e5))
  by_cases e8 : x.f0 = 8
  · rw [if_neg e4, if_neg e5, if_pos e8]; exact yes (.inr (.inr (.inl e8)))
  by_cases e9 : x.f0 = 9
  · rw [if_neg e4, if_neg e5, if_neg e8, if_pos e9]; exact yes (.inr (.inr (.inr (.inl e9))))
  by_cases e10 : x.f0 = 10
  · rw [if_neg e4, if_neg e5, if_neg e8, if_neg e9, if_pos e10]; exact yes (.inr (.inr (.inr (.inr e10))))
  rw [if_neg e4, if_neg e5, if_neg e8, if_neg e9, if_neg e10, Option.some.injEq, eq_comm, decide_eq_true_iff]
  intro h; omega
def okIn (c : Int) (x : S46) : Bool := decide (okX x ∧ inS c x)
theorem imay_l1 (L : List (List S46)) (n i s c : Int) (t : List S46) (h0 : 0 ≤ c) (h1 : c ≤ 1048576) (ht : t.length ≤ 4096) (r : Bool) (hr : Ev (fun k => image_May.l0 k L n (wrap64 (i + 1)) s c L) r) :
    ∀ (m j : Nat), j + m = t.length → Ev (fun k => image_May.l1 k L n i t (t.length : Int) (j : Int) s c L) ((t.drop j).all (okIn c) && r) := by
  intro m
  induction m with
  | zero =>
    intro j hj
    refine Ev.step (fun k => image_May.l1.eq_2 ..) (Ev.neg (by omega) ?_)
    rw [List.drop_eq_nil_of_le (by omega)]
    simpa using hr
  | succ m ih =>
    intro j hj
    have hlt : j < t.length := by omega
    refine Ev.step (fun k => image_May.l1.eq_2 ..) (Ev.pos (by omega) (Ev.pos (by omega) (Ev.pos (by omega) ?_)))
    rw [rdT_at t j hlt, List.drop_eq_getElem_cons hlt]
    obtain ⟨x, hx⟩ : ∃ x, x = t[j] := ⟨_, rfl⟩
    rw [← hx, List.all_cons]
    refine Ev.bind (may_ev ..) ?_
    by_cases hm : MayS x.f0 x.f1 x.f2 x.f3 x.f4 x.f5 x.f6 x.f7
    · refine Ev.pos (decide_eq_true hm) (Ev.pure (within_is x c h0 h1) ?_)
      by_cases hw : inS c x
      · refine Ev.pos (decide_eq_true hw) ?_
        have e : okIn c x = true := decide_eq_true ⟨hm, hw⟩
        rw [e, Bool.true_and, nxt j (by omega)]
        exact ih (j + 1) (by omega)
      · refine Ev.neg (by simpa using hw) (Ev.done ?_)
        have e : okIn c x = false := decide_eq_false (fun h => hw h.2)
        rw [e]; rfl
    · refine Ev.neg (by simpa using hm) (Ev.done ?_)
      have e : okIn c x = false := decide_eq_false (fun h => hm h.1)
      rw [e]; rfl
theorem thS_bool (c : Int) (t : List S46) : decide (thS c t) = (decide (goodS t) && t.all (okIn c)) := by
  rw [Bool.eq_iff_iff, Bool.and_eq_true, decide_eq_true_iff, decide_eq_true_iff, List.all_eq_true]
  exact ⟨fun h => ⟨h.1, fun x hx => decide_eq_true (h.2 x hx)⟩, fun h => ⟨h.1, fun x hx => of_decide_eq_true (h.2 x hx)⟩⟩
theorem imay_l0 (L : List (List S46)) (s c : Int) (h0 : 0 ≤ c) (h1 : c ≤ 1048576) (hL : L.length ≤ 16) (ht : ∀ t ∈ L, t.length ≤ 9223372036854775807) :
    ∀ (m i : Nat), i + m = L.length → Ev (fun k => image_May.l0 k L (L.length : Int) (i : Int) s c L) ((L.drop i).all fun t => decide (thS c t)) := by
  intro m
  induction m with
  | zero =>
    intro i hi
    refine Ev.step (fun k => image_May.l0.eq_2 ..) (Ev.neg (by omega) (Ev.done ?_))
    rw [List.drop_eq_nil_of_le (by omega)]; rfl
  | succ m ih =>
    intro i hi
    have hlt : i < L.length := by omega
    refine Ev.step (fun k => image_May.l0.eq_2 ..) (Ev.pos (by omega) (Ev.pos (by omega) (Ev.pos (by omega) ?_)))
    rw [rdL_at L i hlt, List.drop_eq_getElem_cons hlt, List.all_cons]
    have hr : Ev (fun k => image_May.l0 k L (L.length : Int) (wrap64 ((i : Int) + 1)) s c L) ((L.drop (i + 1)).all fun t => decide (thS c t)) := by
      rw [nxt i (by omega)]; exact ih (i + 1) (by omega)
    have htl := ht L[i] (List.getElem_mem hlt)
    refine Ev.bind (good_ev L[i] htl) ?_
    by_cases hg : goodS L[i]
    · refine Ev.pos (decide_eq_true hg) ?_
      rw [thS_bool, decide_eq_true hg, Bool.true_and]
      have := imay_l1 L (L.length : Int) (i : Int) s c L[i] h0 h1 hg.2.1 _ hr L[i].length 0 (by omega)
      simpa using this
    · refine Ev.neg (by simpa using hg) (Ev.done ?_)
      rw [thS_bool, decide_eq_false hg]; rfl
theorem imS_bool {s c : Int} {L : List (List S46)} (h0 : 0 ≤ s) (h1 : s ≤ c) (h2 : c ≤ 1048576) (h3 : L.length ≤ 16) : (L.all fun t => decide (thS c t)) = decide (imS s c L) := by
  rw [Bool.eq_iff_iff, decide_eq_true_iff, List.all_eq_true]
  exact ⟨fun h => ⟨h0, h1, h2, h3, fun t ht => of_decide_eq_true (h t ht)⟩, fun h t ht => decide_eq_true (h.2.2.2.2 t ht)⟩
theorem imay_ev (s c : Int) (L : List (List S46)) (ht : ∀ t ∈ L, t.length ≤ 9223372036854775807) : Ev (fun k => image_May.f k s c L) (decide (imS s c L)) := by
  unfold image_May.f
  have bad : ¬ imS s c L → Ev (fun k => image_May.j0 k true s c L) (decide (imS s c L)) := by
    intro h; rw [decide_eq_false h]
    exact Ev.step (fun k => image_May.j0.eq_2 ..) (Ev.pos rfl (Ev.done rfl))
  by_cases h0 : s < 0
  · exact Ev.pos h0 (bad (fun h => by have := h.1; omega))
  by_cases h1 : c < s
  · exact Ev.neg h0 (Ev.pos h1 (bad (fun h => by have := h.2.1; omega)))
  by_cases h2 : c > 1048576
  · exact Ev.neg h0 (Ev.neg h1 (Ev.pos h2 (bad (fun h => by have := h.2.2.1; omega))))
  refine Ev.neg h0 (Ev.neg h1 (Ev.neg h2 ?_))
  by_cases h3 : (L.length : Int) > 16
  · rw [decide_eq_true h3]; exact bad (fun h => by have := h.2.2.2.1; omega)
  · rw [decide_eq_false h3]
    refine Ev.step (fun k => image_May.j0.eq_2 ..) (Ev.neg (by decide) ?_)
    have := imay_l0 L s c (by omega) (by omega) (by omega) ht L.length 0 (by omega)
    rw [List.drop_zero, imS_bool (s := s) (by omega) (by omega) (by omega) (by omega)] at this
    exact this
/-- A number's four bytes. -/
def b4 (n : Int) : List Int := [n / 16777216 % 256, n / 65536 % 256, n / 256 % 256, n % 256]
def thB (t : List S46) : List Int := b4 t.length ++ t.flatMap encX
/-- An image's bytes. -/
def imB (s c : Int) (L : List (List S46)) : List Int := b4 s ++ b4 c ++ b4 L.length ++ L.flatMap thB
theorem put_is (l : List Int) (n : Int) (h : l.length + 4 < 140737488355328) : image_put.f l n = some (l ++ b4 n) := by
  unfold image_put.f
  simp only [Option.bind_some]
  rw [if_pos (by simpa using h)]; rfl
theorem ienc_l0 (L : List (List S46)) (c : Int) (hL : L.length ≤ 16) (hk : ∀ t ∈ L, thS c t) : ∀ (m i : Nat) (acc : List Int), i + m = L.length → acc.length ≤ 12 + 65540 * i →
    Ev (fun k => image_Encode.l0 k acc L (L.length : Int) (i : Int)) (acc ++ (L.drop i).flatMap thB, true) := by
  intro m
  induction m with
  | zero =>
    intro i acc hi ha
    refine Ev.step (fun k => image_Encode.l0.eq_2 ..) (Ev.neg (by omega) (Ev.done ?_))
    rw [List.drop_eq_nil_of_le (by omega)]; simp
  | succ m ih =>
    intro i acc hi ha
    have hlt : i < L.length := by omega
    refine Ev.step (fun k => image_Encode.l0.eq_2 ..) (Ev.pos (by omega) (Ev.pos (by omega) (Ev.pos (by omega) ?_)))
    rw [rdL_at L i hlt, List.drop_eq_getElem_cons hlt]
    obtain ⟨t, ht⟩ : ∃ t, t = L[i] := ⟨_, rfl⟩
    have hkt := hk L[i] (List.getElem_mem hlt)
    rw [← ht] at hkt ⊢
    have htl := hkt.1.2.1
    have hall := all_ev t (by omega)
    rw [if_pos (fun x hx => (hkt.2 x hx).1)] at hall
    refine Ev.bind hall (Ev.pure (put_is acc _ (by omega)) ?_)
    have hb4 : (b4 (t.length : Int)).length = 4 := rfl
    refine Ev.pos (by rw [List.length_append, flat_lenX, hb4]; omega) ?_
    rw [nxt i (by omega)]
    have := ih (i + 1) (acc ++ b4 t.length ++ t.flatMap encX) (by omega) (by rw [List.length_append, List.length_append, flat_lenX, hb4]; omega)
    rw [List.flatMap_cons, thB]
    simpa using this
theorem ienc_ev (s c : Int) (L : List (List S46)) (ht : ∀ t ∈ L, t.length ≤ 9223372036854775807) : Ev (fun k => image_Encode.f k s c L) (if imS s c L then (imB s c L, true) else ([], false)) := by
  unfold image_Encode.f
  refine Ev.bind (imay_ev s c L ht) ?_
  by_cases h : imS s c L
  · rw [if_pos h]
    refine Ev.pos (decide_eq_true h) (Ev.pure (put_is [] s (by simp)) (Ev.pure (put_is _ c (by simp [b4])) (Ev.pure (put_is _ _ (by simp [b4])) ?_)))
    have := ienc_l0 L c h.2.2.2.1 h.2.2.2.2 L.length 0 ([] ++ b4 s ++ b4 c ++ b4 L.length) (by omega) (by simp [b4])
    simpa [imB] using this
  · rw [if_neg h]
    exact Ev.neg (by simpa using h) (Ev.done rfl)
theorem ims_nil : imS 0 0 [] := ⟨by decide, by decide, by decide, by decide, fun t h => by cases h⟩
theorem iawake_ev : Ev (fun k => tautochronelaw21_awake.f k) true := by
  unfold tautochronelaw21_awake.f
  have h := ienc_ev 0 0 [] (fun t h => by cases h)
  rw [if_pos ims_nil] at h
  refine Ev.bind h (Ev.pos rfl (Ev.pos (by decide) (Ev.done ?_)))
  have e : imB 0 0 [] = List.replicate 12 0 := rfl
  show ((strOfNums (imB 0 0 [])).toList == _) = true
  rw [e]; exact beq_self_eq_true _
theorem s46_ext {x y : S46} (h0 : x.f0 = y.f0) (h1 : x.f1 = y.f1) (h2 : x.f2 = y.f2) (h3 : x.f3 = y.f3) (h4 : x.f4 = y.f4) (h5 : x.f5 = y.f5) (h6 : x.f6 = y.f6) (h7 : x.f7 = y.f7) : x = y := by
  obtain ⟨_, _, _, _, _, _, _, _⟩ := x
  obtain ⟨_, _, _, _, _, _, _, _⟩ := y
  simp only at h0 h1 h2 h3 h4 h5 h6 h7
  subst h0 h1 h2 h3 h4 h5 h6 h7
  rfl
instance : DecidableEq S46 := fun x y => decidable_of_iff (x.f0 = y.f0 ∧ x.f1 = y.f1 ∧ x.f2 = y.f2 ∧ x.f3 = y.f3 ∧ x.f4 = y.f4 ∧ x.f5 = y.f5 ∧ x.f6 = y.f6 ∧ x.f7 = y.f7)
  ⟨fun ⟨h0, h1, h2, h3, h4, h5, h6, h7⟩ => s46_ext h0 h1 h2 h3 h4 h5 h6 h7, fun h => by subst h; exact ⟨rfl, rfl, rfl, rfl, rfl, rfl, rfl, rfl⟩⟩
/-! The law's Make. -/
def U64 (x : S46) : Prop := 0 ≤ x.f6 ∧ x.f6 ≤ 18446744073709551615
def mkX (x : S46) : S46 :=
  let p := makeS x.f0 x.f1 x.f2 x.f3 x.f4 x.f5 x.f6 x.f7
  ⟨p.1, p.2.1, p.2.2.1, p.2.2.2.1, p.2.2.2.2.1, p.2.2.2.2.2.1, p.2.2.2.2.2.2.1, p.2.2.2.2.2.2.2⟩
theorem mk_ok (x : S46) (h : U64 x) : Ok46 (mkX x) := make_ok x.f0 x.f1 x.f2 x.f3 x.f4 x.f5 x.f6 x.f7 h.1 h.2
def PlaceOp (o : Int) : Prop := o = 4 ∨ o = 5 ∨ o = 8 ∨ o = 9 ∨ o = 10
instance (o : Int) : Decidable (PlaceOp o) := by unfold PlaceOp; infer_instance
def fixX (c n : Int) (d : S46) : S46 := ⟨d.f0, d.f1, d.f2, d.f3, d.f4, d.f5, if PlaceOp d.f0 then d.f6 % c else d.f6, d.f7 % (n + 1)⟩
def haltX : S46 := ⟨13, 0, -1, -1, -1, -1, 0, 0⟩
def thM (c : Int) (t : List S46) : List S46 := (t.take 30).map (fun x => fixX c ((t.take 30).length : Int) (mkX x)) ++ [haltX]
/-- What Make makes may be. -/
theorem fix_ok {c n : Int} {d : S46} (h : Ok46 d) (hc0 : 1 ≤ c) (hc1 : c ≤ 1048576) (hn0 : 0 ≤ n) (hn1 : n ≤ 30) : Ok46 (fixX c n d) ∧ inS c (fixX c n d) ∧ ∀ m : Nat, n + 1 = m → gcX m (fixX c n d) := by
  have hv : 0 ≤ (fixX c n d).f6 ∧ (fixX c n d).f6 ≤ 18446744073709551615 := by
    have h0 := h.v0
    have h1 := h.v1
    show 0 ≤ (if PlaceOp d.f0 then d.f6 % c else d.f6) ∧ (if PlaceOp d.f0 then d.f6 % c else d.f6) ≤ 18446744073709551615
    split
    · have := Int.emod_nonneg d.f6 (b := c) (by omega)
      have := Int.emod_lt_of_pos d.f6 (b := c) (by omega)
      omega
    · exact ⟨h0, h1⟩
  have hg0 := Int.emod_nonneg d.f7 (b := n + 1) (by omega)
  have hg1 := Int.emod_lt_of_pos d.f7 (b := n + 1) (by omega)
  have hg : (fixX c n d).f7 = d.f7 % (n + 1) := rfl
  obtain ⟨m0, m1, m2, mb, m3, m4, m5, m6⟩ := h.may
  have hbare : IsBare d.f0 d.f1 d.f2 d.f3 d.f4 d.f5 (fixX c n d).f6 (fixX c n d).f7 := by
    obtain ⟨b1, b2, b3, b4_, b5, b6, b7⟩ := mb
    simp only [bareS] at b1 b2 b3 b4_ b5 b6 b7
    refine ⟨b1, b2, b3, b4_, b5, ?_, ?_⟩
    · show (if d.f0 = 0 ∨ d.f0 = 4 ∨ d.f0 = 5 ∨ d.f0 = 8 ∨ d.f0 = 9 ∨ d.f0 = 10 then (fixX c n d).f6 else 0) = (fixX c n d).f6
      by_cases hp : d.f0 = 0 ∨ d.f0 = 4 ∨ d.f0 = 5 ∨ d.f0 = 8 ∨ d.f0 = 9 ∨ d.f0 = 10
      · rw [if_pos hp]
      · rw [if_neg hp] at b6 ⊢
        show 0 = (if PlaceOp d.f0 then d.f6 % c else d.f6)
        rw [if_neg (show ¬ PlaceOp d.f0 from fun hq => hp (.inr hq))]; exact b6
    · show (if d.f0 = 6 ∨ d.f0 = 7 then (fixX c n d).f7 else 0) = (fixX c n d).f7
      by_cases hp : d.f0 = 6 ∨ d.f0 = 7
      · rw [if_pos hp]
      · rw [if_neg hp] at b7 ⊢
        rw [hg, ← b7]; simp
  have hmay : MayS d.f0 d.f1 d.f2 d.f3 d.f4 d.f5 (fixX c n d).f6 (fixX c n d).f7 := ⟨m0, m1, m2, hbare, by rw [hg]; omega, by rw [hg]; omega, m5, m6⟩
  refine ⟨⟨h.o0, h.o1, h.d0, h.d1, h.t0, h.t1, h.a0, h.a1, h.b0, h.b1, h.c0, h.c1, hv.1, hv.2, by show 0 ≤ d.f7 % (n + 1); omega, by show d.f7 % (n + 1) ≤ 65535; omega, hmay⟩, ?_, ?_⟩
  · intro hp
    show (if PlaceOp d.f0 then d.f6 % c else d.f6) < c
    rw [if_pos (show PlaceOp d.f0 from hp)]
    exact Int.emod_lt_of_pos _ (by omega)
  · intro m hm
    refine ⟨m0, m1, m2, fun _ => ⟨by rw [hg]; omega, by rw [hg]; omega⟩, fun hp => ?_, ?_⟩
    · have hp' : d.f0 = 0 ∨ d.f0 = 1 ∨ d.f0 = 2 ∨ d.f0 = 3 ∨ d.f0 = 4 := hp
      have := m5 (by omega)
      exact ⟨this.1, by show d.f2 ≤ 65535; omega⟩
    · show U16 (usesS d.f0 d.f3 d.f4 d.f5) = true
      rw [U16, List.all_eq_true]
      intro u hu
      have := m6 u hu
      exact decide_eq_true ⟨this.1, by omega⟩
theorem halt_ok : Ok46 haltX := ⟨by decide, by decide, by decide, by decide, by decide, by decide, by decide, by decide, by decide, by decide, by decide, by decide, by decide, by decide, by decide, by decide, by decide⟩
theorem last_app (l : List S46) (x : S46) : lastS (l ++ [x]) = x.f0 := by
  have e : (((l ++ [x]).length : Int) - 1).toNat = l.length := by rw [List.length_append]; simp
  unfold lastS rd_T46
  rw [e]; simp
theorem thM_ok {c : Int} (hc0 : 1 ≤ c) (hc1 : c ≤ 1048576) {t : List S46} (hu : ∀ x ∈ t, U64 x) : thS c (thM c t) ∧ ∀ x ∈ thM c t, Ok46 x := by
  have hlen : (thM c t).length = (t.take 30).length + 1 := by rw [thM, List.length_append, List.length_map]; rfl
  have hn30 : (t.take 30).length ≤ 30 := by rw [List.length_take]; omega
  have each : ∀ x ∈ thM c t, Ok46 x ∧ inS c x ∧ gcX (thM c t).length x := by
    intro x hx
    rcases List.mem_append.mp hx with hx | hx
    · obtain ⟨y, hy, rfl⟩ := List.mem_map.mp hx
      have := fix_ok (c := c) (n := ((t.take 30).length : Int)) (mk_ok y (hu y (List.mem_of_mem_take hy))) hc0 hc1 (by omega) (by omega)
      exact ⟨this.1, this.2.1, this.2.2 _ (by rw [hlen]; omega)⟩
    · rw [List.mem_singleton.mp hx]
      refine ⟨halt_ok, fun h => ?_, ⟨by decide, by decide, by decide, fun h => ?_, fun h => ?_, by decide⟩⟩
      · rcases h with h | h | h | h | h <;> cases h
      · rcases h with h | h <;> cases h
      · rcases h with h | h | h | h | h <;> cases h
  refine ⟨⟨⟨by omega, by omega, .inl (by rw [thM, last_app]; rfl), fun x hx => (each x hx).2.2⟩, fun x hx => ⟨(each x hx).1.may, (each x hx).2.1⟩⟩, fun x hx => (each x hx).1⟩
theorem mkI_ok (R : List (List S46)) (a1 a2 : Int) (h1 : 0 ≤ a1 ∧ a1 ≤ 255) (h2 : 0 ≤ a2 ∧ a2 ≤ 255) (hu : ∀ t ∈ R, ∀ x ∈ t, U64 x) :
    imS (a1 % (a2 + 2)) (a2 + 1) ((R.take 16).map (thM (a2 + 1))) ∧ ∀ t ∈ (R.take 16).map (thM (a2 + 1)), ∀ x ∈ t, Ok46 x := by
  have hm0 := Int.emod_nonneg a1 (b := a2 + 2) (by omega)
  have hm1 := Int.emod_lt_of_pos a1 (b := a2 + 2) (by omega)
  have each : ∀ t ∈ (R.take 16).map (thM (a2 + 1)), thS (a2 + 1) t ∧ ∀ x ∈ t, Ok46 x := by
    intro t ht
    obtain ⟨y, hy, rfl⟩ := List.mem_map.mp ht
    exact thM_ok (by omega) (by omega) (hu y (List.mem_of_mem_take hy))
  exact ⟨⟨hm0, by omega, by omega, by rw [List.length_map, List.length_take]; omega, fun t ht => (each t ht).1⟩, fun t ht => (each t ht).2⟩
/-! An image's bytes tell it: no image's bytes begin another's. -/
def nb (a b c d : Int) : Int := a * 16777216 + b * 65536 + c * 256 + d
theorem b4_app {n m : Int} {r s : List Int} (hn0 : 0 ≤ n) (hn1 : n ≤ 4294967295) (hm0 : 0 ≤ m) (hm1 : m ≤ 4294967295) (h : b4 n ++ r = b4 m ++ s) : n = m ∧ r = s := by
  have h2 := List.append_inj h rfl
  refine ⟨?_, h2.2⟩
  have h3 := h2.1
  unfold b4 at h3
  simp only [List.cons.injEq, and_true] at h3
  omega
/-- A code that may be lies in its ranges. -/
theorem may_ok {x : S46} (h : okX x) (hv : U64 x) : Ok46 x := by
  obtain ⟨m0, m1, m2, mb, m3, m4, m5, m6⟩ := h
  have mb' := mb
  obtain ⟨b1, b2, b3, b4_, b5, b6, b7⟩ := mb'
  simp only [bareS] at b1 b2 b3 b4_ b5 b6 b7
  have hu : ∀ u, u ∈ usesS x.f0 x.f3 x.f4 x.f5 → 0 ≤ u ∧ u < 8 := m6
  have hd : 0 ≤ x.f1 ∧ x.f1 ≤ 9 := by
    by_cases h : x.f0 = 2
    · exact m2 h
    · rw [if_neg h] at b1; omega
  have ht : -1 ≤ x.f2 ∧ x.f2 ≤ 7 := by
    by_cases h : x.f0 = 0 ∨ x.f0 = 1 ∨ x.f0 = 2 ∨ x.f0 = 3 ∨ x.f0 = 4
    · have := m5 (by omega); omega
    · rw [if_neg h] at b2; omega
  have ha : -1 ≤ x.f3 ∧ x.f3 ≤ 7 := by
    by_cases h : x.f0 = 1 ∨ x.f0 = 2 ∨ x.f0 = 3 ∨ x.f0 = 7 ∨ x.f0 = 10 ∨ x.f0 = 12
    · have := hu x.f3 (by rcases h with h | h | h | h | h | h <;> simp [usesS, h]); omega
    · rw [if_neg h] at b3
      by_cases h2 : x.f0 = 4 ∨ x.f0 = 5
      · rw [if_pos h2] at b3
        by_cases h3 : x.f3 = -1
        · omega
        · have h4 : 0 ≤ x.f3 := by unfold mx at b3; split at b3 <;> omega
          have := hu x.f3 (by rcases h2 with h | h <;> simp [usesS, h, h4]); omega
      · rw [if_neg h2] at b3; omega
  have hb : -1 ≤ x.f4 ∧ x.f4 ≤ 7 := by
    by_cases h : x.f0 = 2 ∨ x.f0 = 3 ∨ x.f0 = 5
    · have := hu x.f4 (by
        rcases h with h | h | h
        · simp [usesS, h]
        · simp [usesS, h]
        · by_cases h4 : 0 ≤ x.f3 <;> simp [usesS, h, h4]); omega
    · rw [if_neg h] at b4_; omega
  have hc : -1 ≤ x.f5 ∧ x.f5 ≤ 7 := by
    by_cases h : x.f0 = 3
    · have := hu x.f5 (by simp [usesS, h]); omega
    · rw [if_neg h] at b5; omega
  exact ⟨m0, m1, hd.1, hd.2, ht.1, ht.2, ha.1, ha.2, hb.1, hb.2, hc.1, hc.2, hv.1, hv.2, m3, m4, ⟨m0, m1, m2, mb, m3, m4, m5, m6⟩⟩
theorem encX_inj {x y : S46} (hx : Ok46 x) (hy : Ok46 y) (e : encX x = encX y) : x = y := by
  obtain ⟨e0, e1, e2, e3, e4, e5, e6, e7⟩ := enc_inj hx hy e
  exact s46_ext e0 e1 e2 e3 e4 e5 e6 e7
theorem flat_inj : ∀ (t u : List S46) (r s : List Int), t.length = u.length → (∀ x ∈ t, Ok46 x) → (∀ x ∈ u, Ok46 x) → t.flatMap encX ++ r = u.flatMap encX ++ s → t = u ∧ r = s
  | [], [], r, s, _, _, _, h => ⟨rfl, by simpa using h⟩
  | x :: t, y :: u, r, s, hl, ht, hu, h => by
    rw [List.flatMap_cons, List.flatMap_cons, List.append_assoc, List.append_assoc] at h
    have h2 := List.append_inj h rfl
    have e := encX_inj (ht x List.mem_cons_self) (hu y List.mem_cons_self) h2.1
    have h3 := flat_inj t u r s (by simpa using hl) (fun z hz => ht z (List.mem_cons_of_mem _ hz)) (fun z hz => hu z (List.mem_cons_of_mem _ hz)) h2.2
    exact ⟨by rw [e, h3.1], h3.2⟩
  | [], y :: u, _, _, hl, _, _, _ => by simp at hl
  | x :: t, [], _, _, hl, _, _, _ => by simp at hl
theorem ths_inj : ∀ (K L : List (List S46)) (r s : List Int), K.length = L.length → (∀ t ∈ K, t.length ≤ 4096 ∧ ∀ x ∈ t, Ok46 x) → (∀ t ∈ L, t.length ≤ 4096 ∧ ∀ x ∈ t, Ok46 x) → K.flatMap thB ++ r = L.flatMap thB ++ s → K = L ∧ r = s
  | [], [], r, s, _, _, _, h => ⟨rfl, by simpa using h⟩
  | t :: K, u :: L, r, s, hl, hK, hL, h => by
    have ht := hK t List.mem_cons_self
    have hu := hL u List.mem_cons_self
    rw [List.flatMap_cons, List.flatMap_cons, thB, thB, List.append_assoc, List.append_assoc, List.append_assoc, List.append_assoc] at h
    have h2 := b4_app (by omega) (by omega) (by omega) (by omega) h
    have h3 := flat_inj t u _ _ (by have := h2.1; omega) ht.2 hu.2 h2.2
    have h4 := ths_inj K L r s (by simpa using hl) (fun z hz => hK z (List.mem_cons_of_mem _ hz)) (fun z hz => hL z (List.mem_cons_of_mem _ hz)) h3.2
    exact ⟨by rw [h3.1, h4.1], h4.2⟩
  | [], y :: u, _, _, hl, _, _, _ => by simp at hl
  | x :: t, [], _, _, hl, _, _, _ => by simp at hl
theorem imB_inj {s c s' c' : Int} {K L : List (List S46)} {r q : List Int} (hK : imS s c K) (hL : imS s' c' L) (uK : ∀ t ∈ K, ∀ x ∈ t, U64 x) (uL : ∀ t ∈ L, ∀ x ∈ t, U64 x) (h : imB s c K ++ r = imB s' c' L ++ q) :
    s = s' ∧ c = c' ∧ K = L ∧ r = q := by
  obtain ⟨k0, k1, k2, k3, k4⟩ := hK
  obtain ⟨l0, l1, l2, l3, l4⟩ := hL
  unfold imB at h
  simp only [List.append_assoc] at h
  have h1 := b4_app (by omega) (by omega) (by omega) (by omega) h
  have h2 := b4_app (by omega) (by omega) (by omega) (by omega) h1.2
  have h3 := b4_app (by omega) (by omega) (by omega) (by omega) h2.2
  have h4 := ths_inj K L r q (by have := h3.1; omega) (fun t ht => ⟨(k4 t ht).1.2.1, fun x hx => may_ok ((k4 t ht).2 x hx).1 (uK t ht x hx)⟩) (fun t ht => ⟨(l4 t ht).1.2.1, fun x hx => may_ok ((l4 t ht).2 x hx).1 (uL t ht x hx)⟩) h3.2
  exact ⟨h1.1, h2.1, h4.1, h4.2⟩
theorem b4_byte (n : Int) : ∀ x ∈ b4 n, 0 ≤ x ∧ x < 256 := by
  intro x hx
  unfold b4 at hx
  simp only [List.mem_cons, List.not_mem_nil, or_false] at hx
  rcases hx with rfl | rfl | rfl | rfl <;> omega
theorem imB_byte (s c : Int) (L : List (List S46)) : ∀ x ∈ imB s c L, 0 ≤ x ∧ x < 256 := by
  intro x hx
  unfold imB at hx
  simp only [List.mem_append] at hx
  rcases hx with ((hx | hx) | hx) | hx
  · exact b4_byte _ x hx
  · exact b4_byte _ x hx
  · exact b4_byte _ x hx
  · obtain ⟨t, _, hx⟩ := List.mem_flatMap.mp hx
    rcases List.mem_append.mp hx with hx | hx
    · exact b4_byte _ x hx
    · obtain ⟨y, _, hx⟩ := List.mem_flatMap.mp hx
      exact enc_byte _ _ _ _ _ _ _ _ x hx
end Go.Proofs.Yteajbeajkplplaa.Pure
