/-
Which codes are good and which images may be, plainly (15, 20, 21). Conditions: as each theorem states them.
-/
import Derived.Test.YtaenjbhhpdmhgaaPTsoScriptx6
import Derived.Test.YtaenjbhhpdmhgaaPTsoScriptx7
import Derived.Test.YtaenjbhhpdmhgaaKit
import Derived.WalkKit
import Derived.ProofKit
set_option linter.unusedSimpArgs false
set_option linter.unusedVariables false
namespace Go.Proofs.Ytaenjbhhpdmhgaa.Pure
open Go.RowKit Go.Proofs.YtaenjbhhpdmhgaaW.PrintWords Go.Proofs.YtaenjbhhpdmhgaaW.PrintLast Go.Proofs.YtaenjbhhpdmhgaaW.PrintMore Go.Proofs.Ytaenjbhhpdmhgaa.Kit
open Go.Proofs.Ytaenjbhhpdmhgaa.PTsoScript
attribute [local go_sem] max2_int min2_int max_two min_two max_three min_three max_four min_four   -- for this text's walks alone
/-- A code's eight numbers: Op, Do, To, A, B, C, Value, Target. -/
abbrev T8 := Int × Int × Int × Int × Int × Int × Int × Int
/-- What counts of a code. -/
def bareS (o d t a b c v g : Int) : T8 :=
  (o, if o = 2 then d else 0, if o = 0 ∨ o = 1 ∨ o = 2 ∨ o = 3 ∨ o = 4 then t else -1,
    if o = 1 ∨ o = 2 ∨ o = 3 ∨ o = 7 ∨ o = 10 ∨ o = 12 then a else if o = 4 ∨ o = 5 then mx a (-1) else -1,
    if o = 2 ∨ o = 3 ∨ o = 5 then b else -1, if o = 3 then c else -1,
    if o = 0 ∨ o = 4 ∨ o = 5 ∨ o = 8 ∨ o = 9 ∨ o = 10 then v else 0, if o = 6 ∨ o = 7 then g else 0)
def IsBare (o d t a b c v g : Int) : Prop :=
  (bareS o d t a b c v g).2.1 = d ∧ (bareS o d t a b c v g).2.2.1 = t ∧ (bareS o d t a b c v g).2.2.2.1 = a ∧ (bareS o d t a b c v g).2.2.2.2.1 = b ∧ (bareS o d t a b c v g).2.2.2.2.2.1 = c ∧ (bareS o d t a b c v g).2.2.2.2.2.2.1 = v ∧ (bareS o d t a b c v g).2.2.2.2.2.2.2 = g
instance (o d t a b c v g : Int) : Decidable (IsBare o d t a b c v g) := by unfold IsBare; infer_instance
theorem op_cases {P : Int → Prop} (o : Int) (h : ∀ n : Int, n = 0 ∨ n = 1 ∨ n = 2 ∨ n = 3 ∨ n = 4 ∨ n = 5 ∨ n = 6 ∨ n = 7 ∨ n = 8 ∨ n = 9 ∨ n = 10 ∨ n = 11 ∨ n = 12 ∨ n = 13 → P n)
    (hx : o ≠ 0 → o ≠ 1 → o ≠ 2 → o ≠ 3 → o ≠ 4 → o ≠ 5 → o ≠ 6 → o ≠ 7 → o ≠ 8 → o ≠ 9 → o ≠ 10 → o ≠ 11 → o ≠ 12 → o ≠ 13 → P o) : P o := by
  by_cases hr : 0 ≤ o ∧ o ≤ 13
  · exact h o (by omega)
  · exact hx (by omega) (by omega) (by omega) (by omega) (by omega) (by omega) (by omega) (by omega) (by omega) (by omega) (by omega) (by omega) (by omega) (by omega)
theorem bare_is (k : Nat) (o d t a b c v g : Int) : encode_bare.f (k + 4) o d t a b c v g = some (bareS o d t a b c v g) := by
  refine op_cases (P := fun o => encode_bare.f (k + 4) o d t a b c v g = some (bareS o d t a b c v g)) o (fun n hn => ?_) (fun h0 h1 h2 h3 h4 h5 h6 h7 h8 h9 h10 h11 h12 h13 => ?_)
  · rcases hn with rfl | rfl | rfl | rfl | rfl | rfl | rfl | rfl | rfl | rfl | rfl | rfl | rfl | rfl <;> simp [encode_bare.f, code_Defines.f, encode_bare.j0, encode_bare.j1, encode_bare.j2, encode_bare.j3, bareS]
  · simp [encode_bare.f, code_Defines.f, encode_bare.j0, encode_bare.j1, encode_bare.j2, encode_bare.j3, bareS, h0, h1, h2, h3, h4, h5, h6, h7, h8, h9, h10, h11, h12, h13]
theorem ev4 {α : Type} {g : Nat → Option α} {r : α} (m : Nat) (h : ∀ k, g (k + m) = some r) : Ev g r :=
  ⟨m, fun k hk => by obtain ⟨j, rfl⟩ : ∃ j, k = j + m := ⟨k - m, by omega⟩; exact h j⟩
theorem bare_ev (o d t a b c v g : Int) : Ev (fun k => encode_bare.f k o d t a b c v g) (bareS o d t a b c v g) := ev4 4 (fun k => bare_is k ..)
theorem Bare_ev (o d t a b c v g : Int) : Ev (fun k => encode_Bare.f k o d t a b c v g) (bareS o d t a b c v g) := by
  unfold encode_Bare.f
  exact Ev.bind (bare_ev ..) (Ev.done rfl)
/-- The registers that a code takes. -/
def usesS (o a b c : Int) : List Int :=
  if o = 1 ∨ o = 7 ∨ o = 10 ∨ o = 12 then [a] else if o = 2 then [a, b] else if o = 3 then [a, b, c] else if o = 4 then (if a ≥ 0 then [a] else []) else if o = 5 then (if a ≥ 0 then [a, b] else [b]) else []
theorem uses_is (k : Nat) (o d t a b c v g : Int) : code_Uses.f (k + 1) o d t a b c v g = some (usesS o a b c) := by
  refine op_cases (P := fun o => code_Uses.f (k + 1) o d t a b c v g = some (usesS o a b c)) o (fun n hn => ?_) (fun h0 h1 h2 h3 h4 h5 h6 h7 h8 h9 h10 h11 h12 h13 => ?_)
  · rcases hn with rfl | rfl | rfl | rfl | rfl | rfl | rfl | rfl | rfl | rfl | rfl | rfl | rfl | rfl <;> simp [code_Uses.f, code_Uses.j0, usesS] <;> split <;> rfl
  · simp [code_Uses.f, code_Uses.j0, usesS, h1, h2, h3, h4, h5, h7, h10, h12]
theorem uses_ev (o d t a b c v g : Int) : Ev (fun k => code_Uses.f k o d t a b c v g) (usesS o a b c) := ev4 1 (fun k => uses_is k ..)
theorem defines_is (o d t a b c v g : Int) : code_Defines.f o d t a b c v g = some (if o = 0 ∨ o = 1 ∨ o = 2 ∨ o = 3 ∨ o = 4 then (t, true) else (0, false)) := by
  unfold code_Defines.f
  by_cases h0 : o = 0
  · simp [h0]
  by_cases h1 : o = 1
  · simp [h1]
  by_cases h2 : o = 2
  · simp [h2]
  by_cases h3 : o = 3
  · simp [h3]
  by_cases h4 : o = 4
  · simp [h4]
  simp [h0, h1, h2, h3, h4]
theorem tight_is (d : Int) : ∃ n, word_Tight.f d = some n ∧ (n = 0 ↔ ¬ (0 ≤ d ∧ d ≤ 9)) := by
  by_cases h : 0 ≤ d ∧ d ≤ 9
  · have hk : ∀ n : Nat, n < 10 → ∃ m : Int, word_Tight.f (n : Int) = some m ∧ m ≠ 0 := by
      intro n hn
      have : n = 0 ∨ n = 1 ∨ n = 2 ∨ n = 3 ∨ n = 4 ∨ n = 5 ∨ n = 6 ∨ n = 7 ∨ n = 8 ∨ n = 9 := by omega
      rcases this with rfl | rfl | rfl | rfl | rfl | rfl | rfl | rfl | rfl | rfl <;> exact ⟨_, rfl, by decide⟩
    obtain ⟨n, rfl⟩ := Int.eq_ofNat_of_zero_le h.1
    obtain ⟨m, hm, h0⟩ := hk n (by omega)
    exact ⟨m, hm, by simp [h0]; omega⟩
  · refine ⟨0, ?_, by simp [h]⟩
    unfold word_Tight.f
    simp only [Option.bind_some]
    by_cases h1 : d < 0
    · rw [if_pos h1]
    · rw [if_neg h1, if_pos (by simp; omega)]
/-- Whether a code may have bytes. -/
def MayS (o d t a b c v g : Int) : Prop :=
  0 ≤ o ∧ o ≤ 13 ∧ (o = 2 → 0 ≤ d ∧ d ≤ 9) ∧ IsBare o d t a b c v g ∧ 0 ≤ g ∧ g ≤ 65535 ∧ (o ≤ 4 → 0 ≤ t ∧ t < 8) ∧ ∀ u ∈ usesS o a b c, 0 ≤ u ∧ u < 8
instance (o d t a b c v g : Int) : Decidable (MayS o d t a b c v g) := by unfold MayS; infer_instance
theorem uses_loop (us : List Int) (hl : us.length ≤ 3) : ∀ (m i : Nat), i + m = us.length → (∀ u ∈ us.take i, 0 ≤ u ∧ u < 8) → Ev (fun k => encode_May.l0 k us (us.length : Int) (i : Int)) (decide (∀ u ∈ us, 0 ≤ u ∧ u < 8)) := by
  intro m
  induction m with
  | zero =>
    intro i hi hu
    refine Ev.step (fun k => rfl) ?_
    refine Ev.neg (by omega) (Ev.done ?_)
    rw [List.take_of_length_le (by omega)] at hu
    exact (decide_eq_true hu).symm
  | succ m ih =>
    intro i hi hu
    have hlt : i < us.length := by omega
    refine Ev.step (fun k => rfl) ?_
    refine Ev.pos (by omega) (Ev.pos (by omega) (Ev.pos (by omega) ?_))
    have hm : us[i] ∈ us := List.getElem_mem hlt
    rw [rd_get us i hlt]
    by_cases h0 : us[i] < 0
    · exact Ev.pos h0 (Ev.done (decide_eq_false (fun h => by have := h _ hm; omega)).symm)
    · refine Ev.neg h0 ?_
      by_cases h1 : us[i] ≥ 8
      · exact Ev.pos h1 (Ev.done (decide_eq_false (fun h => by have := h _ hm; omega)).symm)
      · refine Ev.neg h1 ?_
        have e2 : wrap64 ((i : Int) + 1) = ((i + 1 : Nat) : Int) := by rw [wrap_in (by omega) (by omega)]; rfl
        simp only [e2]
        refine ih (i + 1) (by omega) (fun u hu1 => ?_)
        rw [List.take_succ_eq_append_getElem hlt] at hu1
        rcases List.mem_append.1 hu1 with h | h
        · exact hu u h
        · rw [List.mem_singleton] at h; subst h; omega
theorem uses_len (o a b c : Int) : (usesS o a b c).length ≤ 3 := by
  unfold usesS
  repeat' split
  all_goals simp
theorem bare_test (o d t a b c v g : Int) : (!(o == (bareS o d t a b c v g).1) || (!(d == (bareS o d t a b c v g).2.1) || (!(t == (bareS o d t a b c v g).2.2.1) || (!(a == (bareS o d t a b c v g).2.2.2.1) || (!(b == (bareS o d t a b c v g).2.2.2.2.1) || (!(c == (bareS o d t a b c v g).2.2.2.2.2.1) || (!(v == (bareS o d t a b c v g).2.2.2.2.2.2.1) || (!(g == (bareS o d t a b c v g).2.2.2.2.2.2.2)))))))))
    = !(decide (IsBare o d t a b c v g)) := by
  have h0 : (bareS o d t a b c v g).1 = o := rfl
  have e : ∀ x y : Int, (x == y) = decide (y = x) := fun x y => by
    by_cases h : y = x
    · subst h; simp
    · rw [decide_eq_false h, beq_eq_false_iff_ne.mpr (fun h3 => h h3.symm)]
  rw [h0]
  simp only [e, decide_true, Bool.not_true, Bool.false_or]
  have e2 : decide (IsBare o d t a b c v g) = decide ((bareS o d t a b c v g).2.1 = d ∧ (bareS o d t a b c v g).2.2.1 = t ∧ (bareS o d t a b c v g).2.2.2.1 = a ∧ (bareS o d t a b c v g).2.2.2.2.1 = b ∧ (bareS o d t a b c v g).2.2.2.2.2.1 = c ∧ (bareS o d t a b c v g).2.2.2.2.2.2.1 = v ∧ (bareS o d t a b c v g).2.2.2.2.2.2.2 = g) := by
    unfold IsBare; rfl
  rw [e2]
  generalize (bareS o d t a b c v g).2.1 = x1, (bareS o d t a b c v g).2.2.1 = x2, (bareS o d t a b c v g).2.2.2.1 = x3, (bareS o d t a b c v g).2.2.2.2.1 = x4, (bareS o d t a b c v g).2.2.2.2.2.1 = x5, (bareS o d t a b c v g).2.2.2.2.2.2.1 = x6, (bareS o d t a b c v g).2.2.2.2.2.2.2 = x7
  rw [Bool.eq_iff_iff]
  simp only [Bool.or_eq_true, Bool.not_eq_true', decide_eq_false_iff_not]
  omega
theorem may_j2 (o d t a b c v g : Int) (x : Bool) : Ev (fun k => encode_May.j2 k x o d t a b c v g) (!x && decide (∀ u ∈ usesS o a b c, 0 ≤ u ∧ u < 8)) := by
  refine Ev.step (f := fun k => if x = true then some false else (code_Uses.f k o d t a b c v g).bind fun t152 => encode_May.l0 k t152 (t152.length : Int) 0) (fun k => rfl) ?_
  cases x with
  | true => exact Ev.pos rfl (Ev.done rfl)
  | false =>
    refine Ev.neg (by decide) (Ev.bind (uses_ev ..) ?_)
    have := uses_loop (usesS o a b c) (uses_len ..) (usesS o a b c).length 0 (by omega) (by simp)
    simpa using this
theorem may_j1 (o d t a b c v g : Int) (x : Bool) : Ev (fun k => encode_May.j1 k x o d t a b c v g) (!x && decide ((o = 0 ∨ o = 1 ∨ o = 2 ∨ o = 3 ∨ o = 4 → 0 ≤ t ∧ t < 8) ∧ ∀ u ∈ usesS o a b c, 0 ≤ u ∧ u < 8)) := by
  refine Ev.step (fun k => encode_May.j1.eq_2 ..) ?_
  cases x with
  | true => exact Ev.pos rfl (Ev.done rfl)
  | false =>
    refine Ev.neg (by decide) (Ev.pure (defines_is ..) ?_)
    by_cases h : o = 0 ∨ o = 1 ∨ o = 2 ∨ o = 3 ∨ o = 4
    · rw [if_pos h]
      refine Ev.pos rfl ?_
      by_cases ht : t < 0
      · refine Ev.pos ht ?_
        have := may_j2 o d t a b c v g true
        have e : (!false && decide ((o = 0 ∨ o = 1 ∨ o = 2 ∨ o = 3 ∨ o = 4 → 0 ≤ t ∧ t < 8) ∧ ∀ u ∈ usesS o a b c, 0 ≤ u ∧ u < 8)) = false := by
          simp only [Bool.not_false, Bool.true_and, decide_eq_false_iff_not]
          intro hh; have := hh.1 h; omega
        rw [e]; simpa using this
      · refine Ev.neg ht ?_
        have := may_j2 o d t a b c v g (decide (t ≥ 8))
        have e : (!false && decide ((o = 0 ∨ o = 1 ∨ o = 2 ∨ o = 3 ∨ o = 4 → 0 ≤ t ∧ t < 8) ∧ ∀ u ∈ usesS o a b c, 0 ≤ u ∧ u < 8)) = (!decide (t ≥ 8) && decide (∀ u ∈ usesS o a b c, 0 ≤ u ∧ u < 8)) := by
          rw [Bool.eq_iff_iff]
          simp only [Bool.not_false, Bool.true_and, decide_eq_true_eq, Bool.and_eq_true, Bool.not_eq_true', decide_eq_false_iff_not]
          constructor
          · intro hh; exact ⟨by have := hh.1 h; omega, hh.2⟩
          · intro hh; exact ⟨fun _ => by omega, hh.2⟩
        rw [e]; exact this
    · rw [if_neg h]
      refine Ev.neg (by simp) ?_
      have := may_j2 o d t a b c v g false
      have e : (!false && decide ((o = 0 ∨ o = 1 ∨ o = 2 ∨ o = 3 ∨ o = 4 → 0 ≤ t ∧ t < 8) ∧ ∀ u ∈ usesS o a b c, 0 ≤ u ∧ u < 8)) = (!false && decide (∀ u ∈ usesS o a b c, 0 ≤ u ∧ u < 8)) := by
        rw [Bool.eq_iff_iff]
        simp only [Bool.not_false, Bool.true_and, decide_eq_true_eq]
        exact ⟨fun hh => hh.2, fun hh => ⟨fun h2 => absurd h2 h, hh⟩⟩
      rw [e]; exact this
theorem may_j0 (o d t a b c v g : Int) (x : Bool) : Ev (fun k => encode_May.j0 k x o d t a b c v g) (!x && decide (IsBare o d t a b c v g ∧ 0 ≤ g ∧ g ≤ 65535 ∧ (o = 0 ∨ o = 1 ∨ o = 2 ∨ o = 3 ∨ o = 4 → 0 ≤ t ∧ t < 8) ∧ ∀ u ∈ usesS o a b c, 0 ≤ u ∧ u < 8)) := by
  refine Ev.step (fun k => encode_May.j0.eq_2 ..) ?_
  cases x with
  | true => exact Ev.pos rfl (Ev.done rfl)
  | false =>
    refine Ev.neg (by decide) (Ev.bind (bare_ev ..) ?_)
    rw [bare_test]
    by_cases h : IsBare o d t a b c v g
    · refine Ev.neg (by simp [h]) ?_
      by_cases hg : g < 0
      · refine Ev.pos hg ?_
        have := may_j1 o d t a b c v g true
        have e : (!false && decide (IsBare o d t a b c v g ∧ 0 ≤ g ∧ g ≤ 65535 ∧ (o = 0 ∨ o = 1 ∨ o = 2 ∨ o = 3 ∨ o = 4 → 0 ≤ t ∧ t < 8) ∧ ∀ u ∈ usesS o a b c, 0 ≤ u ∧ u < 8)) = false := by
          simp only [Bool.not_false, Bool.true_and, decide_eq_false_iff_not]
          intro hh; have := hh.2.1; omega
        rw [e]; simpa using this
      · refine Ev.neg hg ?_
        have := may_j1 o d t a b c v g (decide (g > 65535))
        have e : (!false && decide (IsBare o d t a b c v g ∧ 0 ≤ g ∧ g ≤ 65535 ∧ (o = 0 ∨ o = 1 ∨ o = 2 ∨ o = 3 ∨ o = 4 → 0 ≤ t ∧ t < 8) ∧ ∀ u ∈ usesS o a b c, 0 ≤ u ∧ u < 8)) = (!decide (g > 65535) && decide ((o = 0 ∨ o = 1 ∨ o = 2 ∨ o = 3 ∨ o = 4 → 0 ≤ t ∧ t < 8) ∧ ∀ u ∈ usesS o a b c, 0 ≤ u ∧ u < 8)) := by
          rw [Bool.eq_iff_iff]
          simp only [Bool.not_false, Bool.true_and, decide_eq_true_eq, Bool.and_eq_true, Bool.not_eq_true', decide_eq_false_iff_not]
          constructor
          · intro hh; exact ⟨by omega, hh.2.2.2⟩
          · intro hh; exact ⟨h, by omega, by omega, hh.2⟩
        rw [e]; exact this
    · refine Ev.pos (by simp [h]) ?_
      have := may_j1 o d t a b c v g true
      have e : (!false && decide (IsBare o d t a b c v g ∧ 0 ≤ g ∧ g ≤ 65535 ∧ (o = 0 ∨ o = 1 ∨ o = 2 ∨ o = 3 ∨ o = 4 → 0 ≤ t ∧ t < 8) ∧ ∀ u ∈ usesS o a b c, 0 ≤ u ∧ u < 8)) = false := by
        simp only [Bool.not_false, Bool.true_and, decide_eq_false_iff_not]
        intro hh; exact h hh.1
      rw [e]; simpa using this
theorem may_ev (o d t a b c v g : Int) : Ev (fun k => encode_May.f k o d t a b c v g) (decide (MayS o d t a b c v g)) := by
  unfold encode_May.f
  have hj := may_j0 o d t a b c v g
  by_cases h1 : o < 0
  · refine Ev.pos h1 ?_
    have e : decide (MayS o d t a b c v g) = false := decide_eq_false (fun h => by have := h.1; omega)
    rw [e]; simpa using hj true
  refine Ev.neg h1 ?_
  by_cases h2 : o > 13
  · refine Ev.pos h2 ?_
    have e : decide (MayS o d t a b c v g) = false := decide_eq_false (fun h => by have := h.2.1; omega)
    rw [e]; simpa using hj true
  refine Ev.neg h2 ?_
  have core : ∀ x : Bool, (x = true ↔ o = 2 ∧ ¬ (0 ≤ d ∧ d ≤ 9)) → Ev (fun k => encode_May.j0 k x o d t a b c v g) (decide (MayS o d t a b c v g)) := by
    intro x hx
    have e : decide (MayS o d t a b c v g) = (!x && decide (IsBare o d t a b c v g ∧ 0 ≤ g ∧ g ≤ 65535 ∧ (o = 0 ∨ o = 1 ∨ o = 2 ∨ o = 3 ∨ o = 4 → 0 ≤ t ∧ t < 8) ∧ ∀ u ∈ usesS o a b c, 0 ≤ u ∧ u < 8)) := by
      rw [Bool.eq_iff_iff, Bool.and_eq_true, Bool.not_eq_true', decide_eq_true_iff, decide_eq_true_iff]
      constructor
      · rintro ⟨_, _, hd, hb, hg0, hg1, ht, hu⟩
        refine ⟨?_, hb, hg0, hg1, fun h => ht (by omega), hu⟩
        cases x with
        | false => rfl
        | true => have := hx.1 rfl; exact absurd (hd this.1) this.2
      · rintro ⟨hxf, hb, hg0, hg1, ht, hu⟩
        refine ⟨by omega, by omega, fun ho => ?_, hb, hg0, hg1, fun h => ht (by omega), hu⟩
        by_cases hd : 0 ≤ d ∧ d ≤ 9
        · exact hd
        · rw [hx.2 ⟨ho, hd⟩] at hxf; cases hxf
    rw [e]; exact hj x
  by_cases h3 : o = 2
  · refine Ev.pos h3 ?_
    obtain ⟨n, hn, hn0⟩ := tight_is d
    refine Ev.pure hn (core (n == 0) ?_)
    rw [beq_iff_eq, hn0]
    exact ⟨fun h => ⟨h3, h⟩, fun h => h.2⟩
  · exact Ev.neg h3 (core false (by simp [h3]))
def okX (x : S28) : Prop := MayS x.f0 x.f1 x.f2 x.f3 x.f4 x.f5 x.f6 x.f7
instance (x : S28) : Decidable (okX x) := by unfold okX; infer_instance
theorem rdT_at (xs : List S28) (i : Nat) (h : i < xs.length) : rd_T28 xs (i : Int) = xs[i] := by
  simp [rd_T28, List.getD_eq_getElem?_getD, List.getElem?_eq_getElem h]
theorem nxt (i : Nat) (h : i ≤ 9223372036854775806) : wrap64 ((i : Int) + 1) = ((i + 1 : Nat) : Int) := by rw [wrap_in (by omega) (by omega)]; rfl
def U16 (us : List Int) : Bool := us.all fun u => decide (0 ≤ u ∧ u ≤ 65535)
/-- A code good among n codes: its operation and operator are some, its target among them, its values below 65536. -/
def gcS (n : Nat) (o d t a b c g : Int) : Prop :=
  0 ≤ o ∧ o ≤ 13 ∧ (o = 2 → 0 ≤ d ∧ d ≤ 9) ∧ (o = 6 ∨ o = 7 → 0 ≤ g ∧ g < n) ∧ (o = 0 ∨ o = 1 ∨ o = 2 ∨ o = 3 ∨ o = 4 → 0 ≤ t ∧ t ≤ 65535) ∧ U16 (usesS o a b c) = true
instance (n : Nat) (o d t a b c g : Int) : Decidable (gcS n o d t a b c g) := by unfold gcS; infer_instance
def gcX (n : Nat) (x : S28) : Prop := gcS n x.f0 x.f1 x.f2 x.f3 x.f4 x.f5 x.f7
instance (n : Nat) (x : S28) : Decidable (gcX n x) := by unfold gcX; infer_instance
def lastS (l : List S28) : Int := (rd_T28 l ((l.length : Int) - 1)).f0
def goodS (l : List S28) : Prop := l.length ≠ 0 ∧ l.length ≤ 4096 ∧ (lastS l = 13 ∨ lastS l = 6) ∧ ∀ x ∈ l, gcX l.length x
instance (l : List S28) : Decidable (goodS l) := by unfold goodS; infer_instance
theorem jumps_is (o d t a b c v g : Int) : code_Jumps.f o d t a b c v g = some (if o = 6 then (true, false) else if o = 7 then (true, true) else (false, o != 13)) := by
  unfold code_Jumps.f
  by_cases h : o = 6
  · rw [if_pos h, if_pos h]
  · rw [if_neg h, if_neg h]
    by_cases h2 : o = 7
    · rw [if_pos h2, if_pos h2]
    · rw [if_neg h2, if_neg h2]
theorem good_l1 (x0 x33 : List S28) (x34 i : Int) (us : List Int) (hl : us.length ≤ 3) (r : Bool) (hr : Ev (fun k => code_Good.l0 k x0 x33 x34 (wrap64 (i + 1))) r) :
    ∀ (m j : Nat), j + m = us.length → Ev (fun k => code_Good.l1 k x0 x33 x34 i us (us.length : Int) (j : Int)) (U16 (us.drop j) && r) := by
  intro m
  induction m with
  | zero =>
    intro j hj
    refine Ev.step (fun k => code_Good.l1.eq_2 ..) (Ev.neg (by omega) ?_)
    rw [List.drop_eq_nil_of_le (by omega)]
    simpa [U16] using hr
  | succ m ih =>
    intro j hj
    have hlt : j < us.length := by omega
    refine Ev.step (fun k => code_Good.l1.eq_2 ..) (Ev.pos (by omega) (Ev.pos (by omega) (Ev.pos (by omega) ?_)))
    rw [rd_get us j hlt, List.drop_eq_getElem_cons hlt]
    have e : ∀ z : Bool, (0 ≤ us[j] ∧ us[j] ≤ 65535 ↔ z = true) → (U16 (us[j] :: us.drop (j + 1)) && r) = (z && (U16 (us.drop (j + 1)) && r)) := by
      intro z hz
      have : decide (0 ≤ us[j] ∧ us[j] ≤ 65535) = z := by
        cases z with
        | true => exact decide_eq_true (hz.mpr rfl)
        | false => exact decide_eq_false (fun h => by have := hz.mp h; cases this)
      rw [U16, List.all_cons, this, Bool.and_assoc]; rfl
    by_cases h0 : us[j] < 0
    · rw [e false ⟨fun h => by omega, fun h => by cases h⟩]; exact Ev.pos h0 (Ev.done rfl)
    · refine Ev.neg h0 ?_
      by_cases h1 : us[j] > 65535
      · rw [e false ⟨fun h => by omega, fun h => by cases h⟩]; exact Ev.pos h1 (Ev.done rfl)
      · refine Ev.neg h1 ?_
        rw [e true ⟨fun _ => rfl, fun _ => by omega⟩, nxt j (by omega)]
        exact ih (j + 1) (by omega)
theorem good_j5 (x0 x33 : List S28) (x34 i : Int) (o d t a b c v g : Int) (x r : Bool) (hr : Ev (fun k => code_Good.l0 k x0 x33 x34 (wrap64 (i + 1))) r) :
    Ev (fun k => code_Good.j5 k x0 x33 x34 i x o d t a b c v g) (!x && (U16 (usesS o a b c) && r)) := by
  refine Ev.step (fun k => code_Good.j5.eq_2 ..) ?_
  cases x with
  | true => exact Ev.pos rfl (Ev.done rfl)
  | false =>
    refine Ev.neg (by decide) (Ev.bind (uses_ev ..) ?_)
    simpa using good_l1 x0 x33 x34 i (usesS o a b c) (uses_len ..) r hr (usesS o a b c).length 0 (by omega)
theorem good_j4 (x0 x33 : List S28) (x34 i : Int) (o d t a b c v g : Int) (x r : Bool) (hr : Ev (fun k => code_Good.l0 k x0 x33 x34 (wrap64 (i + 1))) r) :
    Ev (fun k => code_Good.j4 k x0 x33 x34 i x o d t a b c v g) (!x && (decide ((o = 0 ∨ o = 1 ∨ o = 2 ∨ o = 3 ∨ o = 4 → 0 ≤ t ∧ t ≤ 65535) ∧ U16 (usesS o a b c) = true) && r)) := by
  refine Ev.step (fun k => code_Good.j4.eq_2 ..) ?_
  cases x with
  | true => exact Ev.pos rfl (Ev.done rfl)
  | false =>
    refine Ev.neg (by decide) (Ev.pure (defines_is ..) ?_)
    have h5 := fun x => good_j5 x0 x33 x34 i o d t a b c v g x r hr
    by_cases h : o = 0 ∨ o = 1 ∨ o = 2 ∨ o = 3 ∨ o = 4
    · rw [if_pos h]
      by_cases h0 : t < 0
      · refine Ev.pos h0 ?_
        have := h5 true
        rw [decide_eq_false (fun hh => by have := hh.1 h; omega)]; simpa using this
      · refine Ev.neg h0 ?_
        have := h5 (decide (t > 65535))
        have e : decide ((o = 0 ∨ o = 1 ∨ o = 2 ∨ o = 3 ∨ o = 4 → 0 ≤ t ∧ t ≤ 65535) ∧ U16 (usesS o a b c) = true) = (!decide (t > 65535) && U16 (usesS o a b c)) := by
          rw [Bool.eq_iff_iff]
          simp only [decide_eq_true_eq, Bool.and_eq_true, Bool.not_eq_true', decide_eq_false_iff_not]
          exact ⟨fun hh => ⟨by have := hh.1 h; omega, hh.2⟩, fun hh => ⟨fun _ => by omega, hh.2⟩⟩
        rw [e, Bool.and_assoc]; simpa using this
    · rw [if_neg h]
      refine Ev.neg (by decide) ?_
      have := h5 false
      have e : decide ((o = 0 ∨ o = 1 ∨ o = 2 ∨ o = 3 ∨ o = 4 → 0 ≤ t ∧ t ≤ 65535) ∧ U16 (usesS o a b c) = true) = U16 (usesS o a b c) := by
        rw [Bool.eq_iff_iff, decide_eq_true_iff]
        exact ⟨fun hh => hh.2, fun hh => ⟨fun h2 => absurd h2 h, hh⟩⟩
      rw [e]; simpa using this
theorem good_j3 (x0 x33 : List S28) (x34 i : Int) (o d t a b c v g : Int) (x r : Bool) (hr : Ev (fun k => code_Good.l0 k x0 x33 x34 (wrap64 (i + 1))) r) :
    Ev (fun k => code_Good.j3 k x0 x33 x34 i x o d t a b c v g) (!x && (decide ((o = 6 ∨ o = 7 → 0 ≤ g ∧ g < x0.length) ∧ (o = 0 ∨ o = 1 ∨ o = 2 ∨ o = 3 ∨ o = 4 → 0 ≤ t ∧ t ≤ 65535) ∧ U16 (usesS o a b c) = true) && r)) := by
  refine Ev.step (fun k => code_Good.j3.eq_2 ..) ?_
  cases x with
  | true => exact Ev.pos rfl (Ev.done rfl)
  | false =>
    refine Ev.neg (by decide) (Ev.pure (jumps_is ..) ?_)
    have h4 := fun x => good_j4 x0 x33 x34 i o d t a b c v g x r hr
    by_cases h : o = 6 ∨ o = 7
    · have e1 : (if o = 6 then (true, false) else if o = 7 then (true, true) else (false, o != 13)).1 = true := by
        rcases h with rfl | rfl <;> rfl
      refine Ev.pos e1 ?_
      by_cases h0 : g < 0
      · refine Ev.pos h0 ?_
        have := h4 true
        rw [decide_eq_false (fun hh => by have := hh.1 h; omega)]; simpa using this
      · refine Ev.neg h0 ?_
        have := h4 (decide (g ≥ (x0.length : Int)))
        have e : decide ((o = 6 ∨ o = 7 → 0 ≤ g ∧ g < x0.length) ∧ (o = 0 ∨ o = 1 ∨ o = 2 ∨ o = 3 ∨ o = 4 → 0 ≤ t ∧ t ≤ 65535) ∧ U16 (usesS o a b c) = true) = (!decide (g ≥ (x0.length : Int)) && decide ((o = 0 ∨ o = 1 ∨ o = 2 ∨ o = 3 ∨ o = 4 → 0 ≤ t ∧ t ≤ 65535) ∧ U16 (usesS o a b c) = true)) := by
          rw [Bool.eq_iff_iff]
          simp only [decide_eq_true_eq, Bool.and_eq_true, Bool.not_eq_true', decide_eq_false_iff_not]
          exact ⟨fun hh => ⟨by have := hh.1 h; omega, hh.2⟩, fun hh => ⟨fun _ => by omega, hh.2⟩⟩
        rw [e, Bool.and_assoc]; simpa using this
    · have e1 : (if o = 6 then (true, false) else if o = 7 then (true, true) else (false, o != 13)).1 = false := by
        rw [if_neg (fun h6 => h (.inl h6)), if_neg (fun h7 => h (.inr h7))]
      refine Ev.neg (by rw [e1]; decide) ?_
      have := h4 false
      have e : decide ((o = 6 ∨ o = 7 → 0 ≤ g ∧ g < x0.length) ∧ (o = 0 ∨ o = 1 ∨ o = 2 ∨ o = 3 ∨ o = 4 → 0 ≤ t ∧ t ≤ 65535) ∧ U16 (usesS o a b c) = true) = decide ((o = 0 ∨ o = 1 ∨ o = 2 ∨ o = 3 ∨ o = 4 → 0 ≤ t ∧ t ≤ 65535) ∧ U16 (usesS o a b c) = true) := by
        rw [decide_eq_decide]
        exact ⟨fun hh => hh.2, fun hh => ⟨fun h2 => absurd h2 h, hh⟩⟩
      rw [e]; simpa using this
theorem good_l0 (l : List S28) (hl : l.length ≤ 4096) : ∀ (m i : Nat), i + m = l.length → Ev (fun k => code_Good.l0 k l l (l.length : Int) (i : Int)) ((l.drop i).all fun x => decide (gcX l.length x)) := by
  intro m
  induction m with
  | zero =>
    intro i hi
    refine Ev.step (fun k => code_Good.l0.eq_2 ..) (Ev.neg (by omega) (Ev.done ?_))
    rw [List.drop_eq_nil_of_le (by omega)]
    simp
  | succ m ih =>
    intro i hi
    have hlt : i < l.length := by omega
    refine Ev.step (fun k => code_Good.l0.eq_2 ..) (Ev.pos (by omega) (Ev.pos (by omega) (Ev.pos (by omega) ?_)))
    rw [rdT_at l i hlt, List.drop_eq_getElem_cons hlt]
    have hr : Ev (fun k => code_Good.l0 k l l (l.length : Int) (wrap64 ((i : Int) + 1))) ((l.drop (i + 1)).all fun x => decide (gcX l.length x)) := by
      rw [nxt i (by omega)]; exact ih (i + 1) (by omega)
    obtain ⟨x, hx⟩ : ∃ x, x = l[i] := ⟨_, rfl⟩
    rw [← hx]
    have h3 := fun z => good_j3 l l (l.length : Int) (i : Int) x.f0 x.f1 x.f2 x.f3 x.f4 x.f5 x.f6 x.f7 z _ hr
    have e : ∀ z : Bool, (0 ≤ x.f0 ∧ x.f0 ≤ 13 ∧ (x.f0 = 2 → 0 ≤ x.f1 ∧ x.f1 ≤ 9) ↔ z = false) → (!z && (decide ((x.f0 = 6 ∨ x.f0 = 7 → 0 ≤ x.f7 ∧ x.f7 < l.length) ∧ (x.f0 = 0 ∨ x.f0 = 1 ∨ x.f0 = 2 ∨ x.f0 = 3 ∨ x.f0 = 4 → 0 ≤ x.f2 ∧ x.f2 ≤ 65535) ∧ U16 (usesS x.f0 x.f3 x.f4 x.f5) = true) && (l.drop (i + 1)).all fun x => decide (gcX l.length x))) = (x :: l.drop (i + 1)).all fun y => decide (gcX l.length y) := by
      intro z hz
      rw [List.all_cons, ← Bool.and_assoc]
      congr 1
      rw [Bool.eq_iff_iff]
      simp only [decide_eq_true_eq, Bool.and_eq_true, Bool.not_eq_true']
      constructor
      · rintro ⟨h1, h2⟩
        obtain ⟨q1, q2, q3⟩ := hz.mpr h1
        exact ⟨q1, q2, q3, h2⟩
      · rintro ⟨q1, q2, q3, q4⟩
        exact ⟨hz.mp ⟨q1, q2, q3⟩, q4⟩
    by_cases h0 : x.f0 < 0
    · refine Ev.pos h0 ?_
      rw [← e true ⟨fun hh => by omega, fun hh => by cases hh⟩]; exact h3 true
    · refine Ev.neg h0 ?_
      by_cases h1 : x.f0 > 13
      · refine Ev.pos h1 ?_
        rw [← e true ⟨fun hh => by omega, fun hh => by cases hh⟩]; exact h3 true
      · refine Ev.neg h1 ?_
        by_cases h2 : x.f0 = 2
        · refine Ev.pos h2 ?_
          obtain ⟨n, hn, hn0⟩ := tight_is x.f1
          refine Ev.pure hn ?_
          rw [← e (n == 0) ⟨fun hh => by rw [beq_eq_false_iff_ne]; intro hz; exact (hn0.mp hz) (hh.2.2 h2), fun hh => ⟨by omega, by omega, fun _ => by
            rw [beq_eq_false_iff_ne] at hh
            exact Decidable.byContradiction fun hc => hh (hn0.mpr hc)⟩⟩]
          exact h3 (n == 0)
        · refine Ev.neg h2 ?_
          rw [← e false ⟨fun _ => rfl, fun _ => ⟨by omega, by omega, fun hh => absurd hh h2⟩⟩]; exact h3 false
theorem good_ev (l : List S28) (hl : l.length ≤ 9223372036854775807) : Ev (fun k => code_Good.f k l) (decide (goodS l)) := by
  unfold code_Good.f
  by_cases h0 : (l.length : Int) = 0
  · refine Ev.pos h0 (Ev.step (fun k => code_Good.j0.eq_2 ..) (Ev.pos rfl (Ev.done ?_)))
    exact (decide_eq_false fun h => h.1 (by omega)).symm
  · refine Ev.neg h0 (Ev.step (fun k => code_Good.j0.eq_2 ..) ?_)
    by_cases h1 : (l.length : Int) > 4096
    · refine Ev.pos (by simpa using h1) (Ev.done ?_)
      exact (decide_eq_false fun h => by have := h.2.1; omega).symm
    · have e : wrap64 ((l.length : Int) - 1) = (l.length : Int) - 1 := wrap_in (by omega) (by omega)
      refine Ev.neg (by simpa using h1) ?_
      rw [e]
      refine Ev.pos (by omega) (Ev.pos (by omega) ?_)
      have hl := good_l0 l (by omega) l.length 0 (by omega)
      rw [List.drop_zero] at hl
      have hj : ∀ z : Bool, (lastS l = 13 ∨ lastS l = 6 ↔ z = false) → Ev (fun k => code_Good.j1 k l z) (decide (goodS l)) := by
        intro z hz
        refine Ev.step (fun k => code_Good.j1.eq_2 ..) ?_
        cases z with
        | true =>
          refine Ev.pos rfl (Ev.done ?_)
          exact (decide_eq_false fun h => by have := hz.mp h.2.2.1; cases this).symm
        | false =>
          refine Ev.neg (by decide) ?_
          have e2 : decide (goodS l) = l.all fun x => decide (gcX l.length x) := by
            rw [Bool.eq_iff_iff, decide_eq_true_iff, List.all_eq_true]
            exact ⟨fun h x hx => decide_eq_true (h.2.2.2 x hx), fun h => ⟨by omega, by omega, hz.mpr rfl, fun x hx => of_decide_eq_true (h x hx)⟩⟩
          rw [e2]; exact hl
      by_cases h13 : (rd_T28 l ((l.length : Int) - 1)).f0 = 13
      · exact Ev.pos h13 (hj false ⟨fun _ => rfl, fun _ => .inl h13⟩)
      · refine Ev.neg h13 (hj _ ⟨fun h => ?_, fun h => .inr ?_⟩)
        · rcases h with h | h
          · exact absurd h h13
          · rw [bne_eq_false_iff_eq]; exact h
        · rw [bne_eq_false_iff_eq] at h; exact h
theorem rdL_at (L : List (List S28)) (i : Nat) (h : i < L.length) : rd_L3 L (i : Int) = L[i] := by
  simp [rd_L3, List.getD_eq_getElem?_getD, List.getElem?_eq_getElem h]
/-- The first cell of an instruction is one. -/
def inS (c : Int) (x : S28) : Prop := x.f0 = 4 ∨ x.f0 = 5 ∨ x.f0 = 8 ∨ x.f0 = 9 ∨ x.f0 = 10 → x.f6 < c
instance (c : Int) (x : S28) : Decidable (inS c x) := by unfold inS; infer_instance
def thS (c : Int) (t : List S28) : Prop := goodS t ∧ ∀ x ∈ t, okX x ∧ inS c x
instance (c : Int) (t : List S28) : Decidable (thS c t) := by unfold thS; infer_instance
def imS (s c : Int) (L : List (List S28)) : Prop := 0 ≤ s ∧ s ≤ c ∧ c ≤ 1048576 ∧ L.length ≤ 16 ∧ ∀ t ∈ L, thS c t
instance (s c : Int) (L : List (List S28)) : Decidable (imS s c L) := by unfold imS; infer_instance
theorem u64_in {c : Int} (h0 : 0 ≤ c) (h1 : c ≤ 1048576) : IntKind.u64.wrap c = c := by rw [IntKind.wrap_u64]; omega
theorem within_is (x : S28) (c : Int) (h0 : 0 ≤ c) (h1 : c ≤ 1048576) : image_within.f x.f0 x.f1 x.f2 x.f3 x.f4 x.f5 x.f6 x.f7 c = some (decide (inS c x)) := by
  unfold image_within.f
  rw [u64_in h0 h1]
  have yes : (x.f0 = 4 ∨ x.f0 = 5 ∨ x.f0 = 8 ∨ x.f0 = 9 ∨ x.f0 = 10) → some (decide (x.f6 < c)) = some (decide (inS c x)) := by
    intro h
    rw [Option.some.injEq, decide_eq_decide]
    exact ⟨fun hh _ => hh, fun hh => hh h⟩
  by_cases e4 : x.f0 = 4
  · rw [if_pos e4]; exact yes (.inl e4)
  by_cases e5 : x.f0 = 5
  · rw [if_neg e4, if_pos e5]; exact yes (.inr (.inl e5))
  by_cases e8 : x.f0 = 8
  · rw [if_neg e4, if_neg e5, if_pos e8]; exact yes (.inr (.inr (.inl e8)))
  by_cases e9 : x.f0 = 9
  · rw [if_neg e4, if_neg e5, if_neg e8, if_pos e9]; exact yes (.inr (.inr (.inr (.inl e9))))
  by_cases e10 : x.f0 = 10
  · rw [if_neg e4, if_neg e5, if_neg e8, if_neg e9, if_pos e10]; exact yes (.inr (.inr (.inr (.inr e10))))
  rw [if_neg e4, if_neg e5, if_neg e8, if_neg e9, if_neg e10, Option.some.injEq, eq_comm, decide_eq_true_iff]
  intro h; omega
def okIn (c : Int) (x : S28) : Bool := decide (okX x ∧ inS c x)
theorem imay_l1 (L : List (List S28)) (n i s c : Int) (t : List S28) (h0 : 0 ≤ c) (h1 : c ≤ 1048576) (ht : t.length ≤ 4096) (r : Bool) (hr : Ev (fun k => image_May.l0 k L n (wrap64 (i + 1)) s c L) r) :
    ∀ (m j : Nat), j + m = t.length → Ev (fun k => image_May.l1 k L n i t (t.length : Int) (j : Int) s c L) ((t.drop j).all (okIn c) && r) := by
  intro m
  induction m with
  | zero =>
    intro j hj
    refine Ev.step (fun k => image_May.l1.eq_2 ..) (Ev.neg (by omega) ?_)
    rw [List.drop_eq_nil_of_le (by omega)]
    simpa using hr
  | succ m ih =>
    intro j hj
    have hlt : j < t.length := by omega
    refine Ev.step (fun k => image_May.l1.eq_2 ..) (Ev.pos (by omega) (Ev.pos (by omega) (Ev.pos (by omega) ?_)))
    rw [rdT_at t j hlt, List.drop_eq_getElem_cons hlt]
    obtain ⟨x, hx⟩ : ∃ x, x = t[j] := ⟨_, rfl⟩
    rw [← hx, List.all_cons]
    refine Ev.bind (may_ev ..) ?_
    by_cases hm : MayS x.f0 x.f1 x.f2 x.f3 x.f4 x.f5 x.f6 x.f7
    · refine Ev.pos (decide_eq_true hm) (Ev.pure (within_is x c h0 h1) ?_)
      by_cases hw : inS c x
      · refine Ev.pos (decide_eq_true hw) ?_
        have e : okIn c x = true := decide_eq_true ⟨hm, hw⟩
        rw [e, Bool.true_and, nxt j (by omega)]
        exact ih (j + 1) (by omega)
      · refine Ev.neg (by simpa using hw) (Ev.done ?_)
        have e : okIn c x = false := decide_eq_false (fun h => hw h.2)
        rw [e]; rfl
    · refine Ev.neg (by simpa using hm) (Ev.done ?_)
      have e : okIn c x = false := decide_eq_false (fun h => hm h.1)
      rw [e]; rfl
theorem thS_bool (c : Int) (t : List S28) : decide (thS c t) = (decide (goodS t) && t.all (okIn c)) := by
  rw [Bool.eq_iff_iff, Bool.and_eq_true, decide_eq_true_iff, decide_eq_true_iff, List.all_eq_true]
  exact ⟨fun h => ⟨h.1, fun x hx => decide_eq_true (h.2 x hx)⟩, fun h => ⟨h.1, fun x hx => of_decide_eq_true (h.2 x hx)⟩⟩
theorem imay_l0 (L : List (List S28)) (s c : Int) (h0 : 0 ≤ c) (h1 : c ≤ 1048576) (hL : L.length ≤ 16) (ht : ∀ t ∈ L, t.length ≤ 9223372036854775807) :
    ∀ (m i : Nat), i + m = L.length → Ev (fun k => image_May.l0 k L (L.length : Int) (i : Int) s c L) ((L.drop i).all fun t => decide (thS c t)) := by
  intro m
  induction m with
  | zero =>
    intro i hi
    refine Ev.step (fun k => image_May.l0.eq_2 ..) (Ev.neg (by omega) (Ev.done ?_))
    rw [List.drop_eq_nil_of_le (by omega)]; rfl
  | succ m ih =>
    intro i hi
    have hlt : i < L.length := by omega
    refine Ev.step (fun k => image_May.l0.eq_2 ..) (Ev.pos (by omega) (Ev.pos (by omega) (Ev.pos (by omega) ?_)))
    rw [rdL_at L i hlt, List.drop_eq_getElem_cons hlt, List.all_cons]
    have hr : Ev (fun k => image_May.l0 k L (L.length : Int) (wrap64 ((i : Int) + 1)) s c L) ((L.drop (i + 1)).all fun t => decide (thS c t)) := by
      rw [nxt i (by omega)]; exact ih (i + 1) (by omega)
    have htl := ht L[i] (List.getElem_mem hlt)
    refine Ev.bind (good_ev L[i] htl) ?_
    by_cases hg : goodS L[i]
    · refine Ev.pos (decide_eq_true hg) ?_
      rw [thS_bool, decide_eq_true hg, Bool.true_and]
      have := imay_l1 L (L.length : Int) (i : Int) s c L[i] h0 h1 hg.2.1 _ hr L[i].length 0 (by omega)
      simpa using this
    · refine Ev.neg (by simpa using hg) (Ev.done ?_)
      rw [thS_bool, decide_eq_false hg]; rfl
theorem imS_bool {s c : Int} {L : List (List S28)} (h0 : 0 ≤ s) (h1 : s ≤ c) (h2 : c ≤ 1048576) (h3 : L.length ≤ 16) : (L.all fun t => decide (thS c t)) = decide (imS s c L) := by
  rw [Bool.eq_iff_iff, decide_eq_true_iff, List.all_eq_true]
  exact ⟨fun h => ⟨h0, h1, h2, h3, fun t ht => of_decide_eq_true (h t ht)⟩, fun h t ht => decide_eq_true (h.2.2.2.2 t ht)⟩
theorem imay_ev (s c : Int) (L : List (List S28)) (ht : ∀ t ∈ L, t.length ≤ 9223372036854775807) : Ev (fun k => image_May.f k s c L) (decide (imS s c L)) := by
  unfold image_May.f
  have bad : ¬ imS s c L → Ev (fun k => image_May.j0 k true s c L) (decide (imS s c L)) := by
    intro h; rw [decide_eq_false h]
    exact Ev.step (fun k => image_May.j0.eq_2 ..) (Ev.pos rfl (Ev.done rfl))
  by_cases h0 : s < 0
  · exact Ev.pos h0 (bad (fun h => by have := h.1; omega))
  by_cases h1 : c < s
  · exact Ev.neg h0 (Ev.pos h1 (bad (fun h => by have := h.2.1; omega)))
  by_cases h2 : c > 1048576
  · exact Ev.neg h0 (Ev.neg h1 (Ev.pos h2 (bad (fun h => by have := h.2.2.1; omega))))
  refine Ev.neg h0 (Ev.neg h1 (Ev.neg h2 ?_))
  by_cases h3 : (L.length : Int) > 16
  · rw [decide_eq_true h3]; exact bad (fun h => by have := h.2.2.2.1; omega)
  · rw [decide_eq_false h3]
    refine Ev.step (fun k => image_May.j0.eq_2 ..) (Ev.neg (by decide) ?_)
    have := imay_l0 L s c (by omega) (by omega) (by omega) ht L.length 0 (by omega)
    rw [List.drop_zero, imS_bool (s := s) (by omega) (by omega) (by omega) (by omega)] at this
    exact this
end Go.Proofs.Ytaenjbhhpdmhgaa.Pure
