/-
What EncodeBack needs, plainly: what Make, bytes, may and Decode make of a code, and of bytes. Conditions: as each theorem states them.
-/
import Derived.Test.YtnnedajhphkphaaPEncodeAllx8
import Derived.Test.YtnnedajhphkphaaPEncodeAllx9
import Derived.Test.YtnnedajhphkphaaPEncodeAllx11
import Derived.Test.YtnnedajhphkphaaKit
import Derived.WalkKit
import Derived.ProofKit
set_option linter.unusedSimpArgs false
set_option linter.unusedVariables false
namespace Go.Proofs.Ytnnedajhphkphaa.Pure
open Go.RowKit Go.Proofs.YtnnedajhphkphaaW.PrintWords Go.Proofs.YtnnedajhphkphaaW.PrintLast Go.Proofs.YtnnedajhphkphaaW.PrintMore Go.Proofs.Ytnnedajhphkphaa.Kit
open Go.Proofs.Ytnnedajhphkphaa.PEncodeAll
attribute [local go_sem] max2_int min2_int max_two min_two max_three min_three max_four min_four   -- for this text's walks alone
/-- A code's eight numbers: Op, Do, To, A, B, C, Value, Target. -/
abbrev T8 := Int × Int × Int × Int × Int × Int × Int × Int
/-- What counts of a code. -/
def bareS (o d t a b c v g : Int) : T8 :=
  (o, if o = 2 then d else 0, if o = 0 ∨ o = 1 ∨ o = 2 ∨ o = 3 ∨ o = 4 then t else -1,
    if o = 1 ∨ o = 2 ∨ o = 3 ∨ o = 7 ∨ o = 10 ∨ o = 12 then a else if o = 4 ∨ o = 5 then mx a (-1) else -1,
    if o = 2 ∨ o = 3 ∨ o = 5 then b else -1, if o = 3 then c else -1,
    if o = 0 ∨ o = 4 ∨ o = 5 ∨ o = 8 ∨ o = 9 ∨ o = 10 then v else 0, if o = 6 ∨ o = 7 then g else 0)
def IsBare (o d t a b c v g : Int) : Prop :=
  (bareS o d t a b c v g).2.1 = d ∧ (bareS o d t a b c v g).2.2.1 = t ∧ (bareS o d t a b c v g).2.2.2.1 = a ∧ (bareS o d t a b c v g).2.2.2.2.1 = b ∧ (bareS o d t a b c v g).2.2.2.2.2.1 = c ∧ (bareS o d t a b c v g).2.2.2.2.2.2.1 = v ∧ (bareS o d t a b c v g).2.2.2.2.2.2.2 = g
instance (o d t a b c v g : Int) : Decidable (IsBare o d t a b c v g) := by unfold IsBare; infer_instance
theorem isBare_iff (o d t a b c v g : Int) : IsBare o d t a b c v g ↔ bareS o d t a b c v g = (o, d, t, a, b, c, v, g) := by
  unfold IsBare
  constructor
  · rintro ⟨h1, h2, h3, h4, h5, h6, h7⟩
    have h0 : (bareS o d t a b c v g).1 = o := rfl
    exact Prod.ext h0 (Prod.ext h1 (Prod.ext h2 (Prod.ext h3 (Prod.ext h4 (Prod.ext h5 (Prod.ext h6 h7))))))
  · intro h; rw [h]; exact ⟨rfl, rfl, rfl, rfl, rfl, rfl, rfl⟩
theorem op_cases {P : Int → Prop} (o : Int) (h : ∀ n : Int, n = 0 ∨ n = 1 ∨ n = 2 ∨ n = 3 ∨ n = 4 ∨ n = 5 ∨ n = 6 ∨ n = 7 ∨ n = 8 ∨ n = 9 ∨ n = 10 ∨ n = 11 ∨ n = 12 ∨ n = 13 → P n)
    (hx : o ≠ 0 → o ≠ 1 → o ≠ 2 → o ≠ 3 → o ≠ 4 → o ≠ 5 → o ≠ 6 → o ≠ 7 → o ≠ 8 → o ≠ 9 → o ≠ 10 → o ≠ 11 → o ≠ 12 → o ≠ 13 → P o) : P o := by
  by_cases hr : 0 ≤ o ∧ o ≤ 13
  · exact h o (by omega)
  · exact hx (by omega) (by omega) (by omega) (by omega) (by omega) (by omega) (by omega) (by omega) (by omega) (by omega) (by omega) (by omega) (by omega) (by omega)
theorem bare_is (k : Nat) (o d t a b c v g : Int) : encode_bare.f (k + 4) o d t a b c v g = some (bareS o d t a b c v g) := by
  refine op_cases (P := fun o => encode_bare.f (k + 4) o d t a b c v g = some (bareS o d t a b c v g)) o (fun n hn => ?_) (fun h0 h1 h2 h3 h4 h5 h6 h7 h8 h9 h10 h11 h12 h13 => ?_)
  · rcases hn with rfl | rfl | rfl | rfl | rfl | rfl | rfl | rfl | rfl | rfl | rfl | rfl | rfl | rfl <;> simp [encode_bare.f, code_Defines.f, encode_bare.j0, encode_bare.j1, encode_bare.j2, encode_bare.j3, bareS]
  · simp [encode_bare.f, code_Defines.f, encode_bare.j0, encode_bare.j1, encode_bare.j2, encode_bare.j3, bareS, h0, h1, h2, h3, h4, h5, h6, h7, h8, h9, h10, h11, h12, h13]
theorem lawbare_is (k : Nat) (o d t a b c v g : Int) : tautochronelaw20_bare.f (k + 4) o d t a b c v g = some (bareS o d t a b c v g) := by
  refine op_cases (P := fun o => tautochronelaw20_bare.f (k + 4) o d t a b c v g = some (bareS o d t a b c v g)) o (fun n hn => ?_) (fun h0 h1 h2 h3 h4 h5 h6 h7 h8 h9 h10 h11 h12 h13 => ?_)
  · rcases hn with rfl | rfl | rfl | rfl | rfl | rfl | rfl | rfl | rfl | rfl | rfl | rfl | rfl | rfl <;> simp [tautochronelaw20_bare.f, code_Defines.f, tautochronelaw20_bare.j0, tautochronelaw20_bare.j1, tautochronelaw20_bare.j2, tautochronelaw20_bare.j3, bareS]
  · simp [tautochronelaw20_bare.f, code_Defines.f, tautochronelaw20_bare.j0, tautochronelaw20_bare.j1, tautochronelaw20_bare.j2, tautochronelaw20_bare.j3, bareS, h0, h1, h2, h3, h4, h5, h6, h7, h8, h9, h10, h11, h12, h13]
theorem ev4 {α : Type} {g : Nat → Option α} {r : α} (m : Nat) (h : ∀ k, g (k + m) = some r) : Ev g r :=
  ⟨m, fun k hk => by obtain ⟨j, rfl⟩ : ∃ j, k = j + m := ⟨k - m, by omega⟩; exact h j⟩
theorem bare_ev (o d t a b c v g : Int) : Ev (fun k => encode_bare.f k o d t a b c v g) (bareS o d t a b c v g) := ev4 4 (fun k => bare_is k ..)
theorem lawbare_ev (o d t a b c v g : Int) : Ev (fun k => tautochronelaw20_bare.f k o d t a b c v g) (bareS o d t a b c v g) := ev4 4 (fun k => lawbare_is k ..)
theorem Bare_ev (o d t a b c v g : Int) : Ev (fun k => encode_Bare.f k o d t a b c v g) (bareS o d t a b c v g) := by
  unfold encode_Bare.f
  exact Ev.bind (bare_ev ..) (Ev.done rfl)
/-- The registers that a code takes. -/
def usesS (o a b c : Int) : List Int :=
  if o = 1 ∨ o = 7 ∨ o = 10 ∨ o = 12 then [a] else if o = 2 then [a, b] else if o = 3 then [a, b, c] else if o = 4 then (if a ≥ 0 then [a] else []) else if o = 5 then (if a ≥ 0 then [a, b] else [b]) else []
theorem uses_is (k : Nat) (o d t a b c v g : Int) : code_Uses.f (k + 1) o d t a b c v g = some (usesS o a b c) := by
  refine op_cases (P := fun o => code_Uses.f (k + 1) o d t a b c v g = some (usesS o a b c)) o (fun n hn => ?_) (fun h0 h1 h2 h3 h4 h5 h6 h7 h8 h9 h10 h11 h12 h13 => ?_)
  · rcases hn with rfl | rfl | rfl | rfl | rfl | rfl | rfl | rfl | rfl | rfl | rfl | rfl | rfl | rfl <;> simp [code_Uses.f, code_Uses.j0, usesS] <;> split <;> rfl
  · simp [code_Uses.f, code_Uses.j0, usesS, h1, h2, h3, h4, h5, h7, h10, h12]
theorem uses_ev (o d t a b c v g : Int) : Ev (fun k => code_Uses.f k o d t a b c v g) (usesS o a b c) := ev4 1 (fun k => uses_is k ..)
theorem defines_is (o d t a b c v g : Int) : code_Defines.f o d t a b c v g = some (if o = 0 ∨ o = 1 ∨ o = 2 ∨ o = 3 ∨ o = 4 then (t, true) else (0, false)) := by
  unfold code_Defines.f
  by_cases h0 : o = 0
  · simp [h0]
  by_cases h1 : o = 1
  · simp [h1]
  by_cases h2 : o = 2
  · simp [h2]
  by_cases h3 : o = 3
  · simp [h3]
  by_cases h4 : o = 4
  · simp [h4]
  simp [h0, h1, h2, h3, h4]
theorem tight_is (d : Int) : ∃ n, word_Tight.f d = some n ∧ (n = 0 ↔ ¬ (0 ≤ d ∧ d ≤ 9)) := by
  by_cases h : 0 ≤ d ∧ d ≤ 9
  · have hk : ∀ n : Nat, n < 10 → ∃ m : Int, word_Tight.f (n : Int) = some m ∧ m ≠ 0 := by
      intro n hn
      have : n = 0 ∨ n = 1 ∨ n = 2 ∨ n = 3 ∨ n = 4 ∨ n = 5 ∨ n = 6 ∨ n = 7 ∨ n = 8 ∨ n = 9 := by omega
      rcases this with rfl | rfl | rfl | rfl | rfl | rfl | rfl | rfl | rfl | rfl <;> exact ⟨_, rfl, by decide⟩
    obtain ⟨n, rfl⟩ := Int.eq_ofNat_of_zero_le h.1
    obtain ⟨m, hm, h0⟩ := hk n (by omega)
    exact ⟨m, hm, by simp [h0]; omega⟩
  · refine ⟨0, ?_, by simp [h]⟩
    unfold word_Tight.f
    simp only [Option.bind_some]
    by_cases h1 : d < 0
    · rw [if_pos h1]
    · rw [if_neg h1, if_pos (by simp; omega)]
/-- Whether a code may have bytes. -/
def MayS (o d t a b c v g : Int) : Prop :=
  0 ≤ o ∧ o ≤ 13 ∧ (o = 2 → 0 ≤ d ∧ d ≤ 9) ∧ IsBare o d t a b c v g ∧ 0 ≤ g ∧ g ≤ 65535 ∧ (o ≤ 4 → 0 ≤ t ∧ t < 8) ∧ ∀ u ∈ usesS o a b c, 0 ≤ u ∧ u < 8
instance (o d t a b c v g : Int) : Decidable (MayS o d t a b c v g) := by unfold MayS; infer_instance
theorem uses_loop (us : List Int) (hl : us.length ≤ 3) : ∀ (m i : Nat), i + m = us.length → (∀ u ∈ us.take i, 0 ≤ u ∧ u < 8) → Ev (fun k => encode_May.l0 k us (us.length : Int) (i : Int)) (decide (∀ u ∈ us, 0 ≤ u ∧ u < 8)) := by
  intro m
  induction m with
  | zero =>
    intro i hi hu
    refine Ev.step (fun k => rfl) ?_
    refine Ev.neg (by omega) (Ev.done ?_)
    rw [List.take_of_length_le (by omega)] at hu
    exact (decide_eq_true hu).symm
  | succ m ih =>
    intro i hi hu
    have hlt : i < us.length := by omega
    refine Ev.step (fun k => rfl) ?_
    refine Ev.pos (by omega) (Ev.pos (by omega) (Ev.pos (by omega) ?_))
    have hm : us[i] ∈ us := List.getElem_mem hlt
    rw [rd_get us i hlt]
    by_cases h0 : us[i] < 0
    · exact Ev.pos h0 (Ev.done (decide_eq_false (fun h => by have := h _ hm; omega)).symm)
    · refine Ev.neg h0 ?_
      by_cases h1 : us[i] ≥ 8
      · exact Ev.pos h1 (Ev.done (decide_eq_false (fun h => by have := h _ hm; omega)).symm)
      · refine Ev.neg h1 ?_
        have e2 : wrap64 ((i : Int) + 1) = ((i + 1 : Nat) : Int) := by rw [wrap_in (by omega) (by omega)]; rfl
        simp only [e2]
        refine ih (i + 1) (by omega) (fun u hu1 => ?_)
        rw [List.take_succ_eq_append_getElem hlt] at hu1
        rcases List.mem_append.1 hu1 with h | h
        · exact hu u h
        · rw [List.mem_singleton] at h; subst h; omega
theorem uses_len (o a b c : Int) : (usesS o a b c).length ≤ 3 := by
  unfold usesS
  repeat' split
  all_goals simp
theorem bare_test (o d t a b c v g : Int) : (!(o == (bareS o d t a b c v g).1) || (!(d == (bareS o d t a b c v g).2.1) || (!(t == (bareS o d t a b c v g).2.2.1) || (!(a == (bareS o d t a b c v g).2.2.2.1) || (!(b == (bareS o d t a b c v g).2.2.2.2.1) || (!(c == (bareS o d t a b c v g).2.2.2.2.2.1) || (!(v == (bareS o d t a b c v g).2.2.2.2.2.2.1) || (!(g == (bareS o d t a b c v g).2.2.2.2.2.2.2)))))))))
    = !(decide (IsBare o d t a b c v g)) := by
  have h0 : (bareS o d t a b c v g).1 = o := rfl
  have e : ∀ x y : Int, (x == y) = decide (y = x) := fun x y => by
    by_cases h : y = x
    · subst h; simp
    · rw [decide_eq_false h, beq_eq_false_iff_ne.mpr (fun h3 => h h3.symm)]
  rw [h0]
  simp only [e, decide_true, Bool.not_true, Bool.false_or]
  have e2 : decide (IsBare o d t a b c v g) = decide ((bareS o d t a b c v g).2.1 = d ∧ (bareS o d t a b c v g).2.2.1 = t ∧ (bareS o d t a b c v g).2.2.2.1 = a ∧ (bareS o d t a b c v g).2.2.2.2.1 = b ∧ (bareS o d t a b c v g).2.2.2.2.2.1 = c ∧ (bareS o d t a b c v g).2.2.2.2.2.2.1 = v ∧ (bareS o d t a b c v g).2.2.2.2.2.2.2 = g) := by
    unfold IsBare; rfl
  rw [e2]
  generalize (bareS o d t a b c v g).2.1 = x1, (bareS o d t a b c v g).2.2.1 = x2, (bareS o d t a b c v g).2.2.2.1 = x3, (bareS o d t a b c v g).2.2.2.2.1 = x4, (bareS o d t a b c v g).2.2.2.2.2.1 = x5, (bareS o d t a b c v g).2.2.2.2.2.2.1 = x6, (bareS o d t a b c v g).2.2.2.2.2.2.2 = x7
  rw [Bool.eq_iff_iff]
  simp only [Bool.or_eq_true, Bool.not_eq_true', decide_eq_false_iff_not]
  omega
theorem may_j2 (o d t a b c v g : Int) (x : Bool) : Ev (fun k => encode_May.j2 k x o d t a b c v g) (!x && decide (∀ u ∈ usesS o a b c, 0 ≤ u ∧ u < 8)) := by
  refine Ev.step (f := fun k => if x = true then some false else (code_Uses.f k o d t a b c v g).bind fun t152 => encode_May.l0 k t152 (t152.length : Int) 0) (fun k => rfl) ?_
  cases x with
  | true => exact Ev.pos rfl (Ev.done rfl)
  | false =>
    refine Ev.neg (by decide) (Ev.bind (uses_ev ..) ?_)
    have := uses_loop (usesS o a b c) (uses_len ..) (usesS o a b c).length 0 (by omega) (by simp)
    simpa using this
theorem may_j1 (o d t a b c v g : Int) (x : Bool) : Ev (fun k => encode_May.j1 k x o d t a b c v g) (!x && decide ((o = 0 ∨ o = 1 ∨ o = 2 ∨ o = 3 ∨ o = 4 → 0 ≤ t ∧ t < 8) ∧ ∀ u ∈ usesS o a b c, 0 ≤ u ∧ u < 8)) := by
  refine Ev.step (fun k => encode_May.j1.eq_2 ..) ?_
  cases x with
  | true => exact Ev.pos rfl (Ev.done rfl)
  | false =>
    refine Ev.neg (by decide) (Ev.pure (defines_is ..) ?_)
    by_cases h : o = 0 ∨ o = 1 ∨ o = 2 ∨ o = 3 ∨ o = 4
    · rw [if_pos h]
      refine Ev.pos rfl ?_
      by_cases ht : t < 0
      · refine Ev.pos ht ?_
        have := may_j2 o d t a b c v g true
        have e : (!false && decide ((o = 0 ∨ o = 1 ∨ o = 2 ∨ o = 3 ∨ o = 4 → 0 ≤ t ∧ t < 8) ∧ ∀ u ∈ usesS o a b c, 0 ≤ u ∧ u < 8)) = false := by
          simp only [Bool.not_false, Bool.true_and, decide_eq_false_iff_not]
          intro hh; have := hh.1 h; omega
        rw [e]; simpa using this
      · refine Ev.neg ht ?_
        have := may_j2 o d t a b c v g (decide (t ≥ 8))
        have e : (!false && decide ((o = 0 ∨ o = 1 ∨ o = 2 ∨ o = 3 ∨ o = 4 → 0 ≤ t ∧ t < 8) ∧ ∀ u ∈ usesS o a b c, 0 ≤ u ∧ u < 8)) = (!decide (t ≥ 8) && decide (∀ u ∈ usesS o a b c, 0 ≤ u ∧ u < 8)) := by
          rw [Bool.eq_iff_iff]
          simp only [Bool.not_false, Bool.true_and, decide_eq_true_eq, Bool.and_eq_true, Bool.not_eq_true', decide_eq_false_iff_not]
          constructor
          · intro hh; exact ⟨by have := hh.1 h; omega, hh.2⟩
          · intro hh; exact ⟨fun _ => by omega, hh.2⟩
        rw [e]; exact this
    · rw [if_neg h]
      refine Ev.neg (by simp) ?_
      have := may_j2 o d t a b c v g false
      have e : (!false && decide ((o = 0 ∨ o = 1 ∨ o = 2 ∨ o = 3 ∨ o = 4 → 0 ≤ t ∧ t < 8) ∧ ∀ u ∈ usesS o a b c, 0 ≤ u ∧ u < 8)) = (!false && decide (∀ u ∈ usesS o a b c, 0 ≤ u ∧ u < 8)) := by
        rw [Bool.eq_iff_iff]
        simp only [Bool.not_false, Bool.true_and, decide_eq_true_eq]
        exact ⟨fun hh => hh.2, fun hh => ⟨fun h2 => absurd h2 h, hh⟩⟩
      rw [e]; exact this
theorem may_j0 (o d t a b c v g : Int) (x : Bool) : Ev (fun k => encode_May.j0 k x o d t a b c v g) (!x && decide (IsBare o d t a b c v g ∧ 0 ≤ g ∧ g ≤ 65535 ∧ (o = 0 ∨ o = 1 ∨ o = 2 ∨ o = 3 ∨ o = 4 → 0 ≤ t ∧ t < 8) ∧ ∀ u ∈ usesS o a b c, 0 ≤ u ∧ u < 8)) := by
  refine Ev.step (fun k => encode_May.j0.eq_2 ..) ?_
  cases x with
  | true => exact Ev.pos rfl (Ev.done rfl)
  | false =>
    refine Ev.neg (by decide) (Ev.bind (bare_ev ..) ?_)
    rw [bare_test]
    by_cases h : IsBare o d t a b c v g
    · refine Ev.neg (by simp [h]) ?_
      by_cases hg : g < 0
      · refine Ev.pos hg ?_
        have := may_j1 o d t a b c v g true
        have e : (!false && decide (IsBare o d t a b c v g ∧ 0 ≤ g ∧ g ≤ 65535 ∧ (o = 0 ∨ o = 1 ∨ o = 2 ∨ o = 3 ∨ o = 4 → 0 ≤ t ∧ t < 8) ∧ ∀ u ∈ usesS o a b c, 0 ≤ u ∧ u < 8)) = false := by
          simp only [Bool.not_false, Bool.true_and, decide_eq_false_iff_not]
          intro hh; have := hh.2.1; omega
        rw [e]; simpa using this
      · refine Ev.neg hg ?_
        have := may_j1 o d t a b c v g (decide (g > 65535))
        have e : (!false && decide (IsBare o d t a b c v g ∧ 0 ≤ g ∧ g ≤ 65535 ∧ (o = 0 ∨ o = 1 ∨ o = 2 ∨ o = 3 ∨ o = 4 → 0 ≤ t ∧ t < 8) ∧ ∀ u ∈ usesS o a b c, 0 ≤ u ∧ u < 8)) = (!decide (g > 65535) && decide ((o = 0 ∨ o = 1 ∨ o = 2 ∨ o = 3 ∨ o = 4 → 0 ≤ t ∧ t < 8) ∧ ∀ u ∈ usesS o a b c, 0 ≤ u ∧ u < 8)) := by
          rw [Bool.eq_iff_iff]
          simp only [Bool.not_false, Bool.true_and, decide_eq_true_eq, Bool.and_eq_true, Bool.not_eq_true', decide_eq_false_iff_not]
          constructor
          · intro hh; exact ⟨by omega, hh.2.2.2⟩
          · intro hh; exact ⟨h, by omega, by omega, hh.2⟩
        rw [e]; exact this
    · refine Ev.pos (by simp [h]) ?_
      have := may_j1 o d t a b c v g true
      have e : (!false && decide (IsBare o d t a b c v g ∧ 0 ≤ g ∧ g ≤ 65535 ∧ (o = 0 ∨ o = 1 ∨ o = 2 ∨ o = 3 ∨ o = 4 → 0 ≤ t ∧ t < 8) ∧ ∀ u ∈ usesS o a b c, 0 ≤ u ∧ u < 8)) = false := by
        simp only [Bool.not_false, Bool.true_and, decide_eq_false_iff_not]
        intro hh; exact h hh.1
      rw [e]; simpa using this
theorem may_ev (o d t a b c v g : Int) : Ev (fun k => encode_May.f k o d t a b c v g) (decide (MayS o d t a b c v g)) := by
  unfold encode_May.f
  have hj := may_j0 o d t a b c v g
  by_cases h1 : o < 0
  · refine Ev.pos h1 ?_
    have e : decide (MayS o d t a b c v g) = false := decide_eq_false (fun h => by have := h.1; omega)
    rw [e]; simpa using hj true
  refine Ev.neg h1 ?_
  by_cases h2 : o > 13
  · refine Ev.pos h2 ?_
    have e : decide (MayS o d t a b c v g) = false := decide_eq_false (fun h => by have := h.2.1; omega)
    rw [e]; simpa using hj true
  refine Ev.neg h2 ?_
  have core : ∀ x : Bool, (x = true ↔ o = 2 ∧ ¬ (0 ≤ d ∧ d ≤ 9)) → Ev (fun k => encode_May.j0 k x o d t a b c v g) (decide (MayS o d t a b c v g)) := by
    intro x hx
    have e : decide (MayS o d t a b c v g) = (!x && decide (IsBare o d t a b c v g ∧ 0 ≤ g ∧ g ≤ 65535 ∧ (o = 0 ∨ o = 1 ∨ o = 2 ∨ o = 3 ∨ o = 4 → 0 ≤ t ∧ t < 8) ∧ ∀ u ∈ usesS o a b c, 0 ≤ u ∧ u < 8)) := by
      rw [Bool.eq_iff_iff, Bool.and_eq_true, Bool.not_eq_true', decide_eq_true_iff, decide_eq_true_iff]
      constructor
      · rintro ⟨_, _, hd, hb, hg0, hg1, ht, hu⟩
        refine ⟨?_, hb, hg0, hg1, fun h => ht (by omega), hu⟩
        cases x with
        | false => rfl
        | true => have := hx.1 rfl; exact absurd (hd this.1) this.2
      · rintro ⟨hxf, hb, hg0, hg1, ht, hu⟩
        refine ⟨by omega, by omega, fun ho => ?_, hb, hg0, hg1, fun h => ht (by omega), hu⟩
        by_cases hd : 0 ≤ d ∧ d ≤ 9
        · exact hd
        · rw [hx.2 ⟨ho, hd⟩] at hxf; cases hxf
    rw [e]; exact hj x
  by_cases h3 : o = 2
  · refine Ev.pos h3 ?_
    obtain ⟨n, hn, hn0⟩ := tight_is d
    refine Ev.pure hn (core (n == 0) ?_)
    rw [beq_iff_eq, hn0]
    exact ⟨fun h => ⟨h3, h⟩, fun h => h.2⟩
  · exact Ev.neg h3 (core false (by simp [h3]))

theorem tmod_of (n m : Int) (hm : 0 < m) : Int.tmod n m = n % m ∨ Int.tmod n m = n % m - m := by
  rw [Int.tmod_eq_emod]
  split
  · left; omega
  · right; rw [Int.natAbs_of_nonneg (by omega)]
theorem rest_is (n m : Int) (hm : 0 < m) (hm2 : m ≤ 65536) : tautochronelaw20_rest.f n m = some (n % m) := by
  unfold tautochronelaw20_rest.f
  rw [if_neg (by omega)]
  have h0 := Int.emod_nonneg n (show m ≠ 0 by omega)
  have h1 := Int.emod_lt_of_pos n hm
  have ht := tmod_of n m hm
  rw [wrap_in (by omega) (by omega), Int.tmod_eq_emod_of_nonneg (by omega)]
  congr 1
  rcases ht with ht | ht <;> rw [ht]
  · rw [Int.add_emod_right, Int.emod_emod]
  · rw [show n % m - m + m = n % m by omega, Int.emod_emod]
/-- A code that may be, of any. -/
def mkA (o a : Int) : Int := if o % 14 = 4 ∨ o % 14 = 5 then a % 9 - 1 else a % 8
def makeS (o d t a b c v g : Int) : T8 := bareS (o % 14) (d % 10) (t % 8) (mkA o a) (b % 8) (c % 8) v (g % 65536)
theorem make_ev (o d t a b c v g : Int) : Ev (fun k => tautochronelaw20_Make.f k o d t a b c v g) (makeS o d t a b c v g) := by
  unfold tautochronelaw20_Make.f
  have hr : ∀ n m : Int, 0 < m → m ≤ 65536 → tautochronelaw20_rest.f n m = some (n % m) := rest_is
  refine Ev.pure (hr o 14 (by decide) (by decide)) (Ev.pure (hr d 10 (by decide) (by decide)) (Ev.pure (hr t 8 (by decide) (by decide)) (Ev.pure (hr b 8 (by decide) (by decide)) (Ev.pure (hr c 8 (by decide) (by decide)) (Ev.pure (hr g 65536 (by decide) (by decide)) ?_)))))
  have core : ∀ x : Bool, (x = true ↔ o % 14 = 4 ∨ o % 14 = 5) → Ev (fun k => tautochronelaw20_Make.j0 k x (o % 14) (d % 10) (t % 8) a (b % 8) (c % 8) v (g % 65536)) (makeS o d t a b c v g) := by
    intro x hx
    refine Ev.step (fun k => tautochronelaw20_Make.j0.eq_2 ..) ?_
    cases x with
    | true =>
      have h := hx.1 rfl
      refine Ev.pos rfl (Ev.pure (hr a 9 (by decide) (by decide)) ?_)
      rw [wrap_in (by omega) (by omega)]
      refine Ev.bind (lawbare_ev ..) (Ev.done ?_)
      simp only [makeS, mkA, if_pos h]
    | false =>
      have h : ¬ (o % 14 = 4 ∨ o % 14 = 5) := fun h => by have := hx.2 h; cases this
      refine Ev.neg (by decide) (Ev.pure (hr a 8 (by decide) (by decide)) ?_)
      refine Ev.bind (lawbare_ev ..) (Ev.done ?_)
      simp only [makeS, mkA, if_neg h]
  by_cases h4 : o % 14 = 4
  · exact Ev.pos h4 (core true (by simp [h4]))
  · exact Ev.neg h4 (core (o % 14 == 5) (by rw [beq_iff_eq]; omega))
/-- A code in its ranges, that is as it is told. -/
structure Ok8 (o d t a b c v g : Int) : Prop where
  o0 : 0 ≤ o
  o1 : o ≤ 13
  d0 : 0 ≤ d
  d1 : d ≤ 9
  t0 : -1 ≤ t
  t1 : t ≤ 7
  a0 : -1 ≤ a
  a1 : a ≤ 7
  b0 : -1 ≤ b
  b1 : b ≤ 7
  c0 : -1 ≤ c
  c1 : c ≤ 7
  v0 : 0 ≤ v
  v1 : v ≤ 18446744073709551615
  g0 : 0 ≤ g
  g1 : g ≤ 65535
  may : MayS o d t a b c v g
theorem make_ok (o d t a b c v g : Int) (hv0 : 0 ≤ v) (hv1 : v ≤ 18446744073709551615) :
    Ok8 (makeS o d t a b c v g).1 (makeS o d t a b c v g).2.1 (makeS o d t a b c v g).2.2.1 (makeS o d t a b c v g).2.2.2.1 (makeS o d t a b c v g).2.2.2.2.1 (makeS o d t a b c v g).2.2.2.2.2.1 (makeS o d t a b c v g).2.2.2.2.2.2.1 (makeS o d t a b c v g).2.2.2.2.2.2.2 := by
  have hA : (o % 14 = 4 ∨ o % 14 = 5 → -1 ≤ mkA o a ∧ mkA o a ≤ 7) ∧ (¬ (o % 14 = 4 ∨ o % 14 = 5) → 0 ≤ mkA o a ∧ mkA o a ≤ 7) := by
    unfold mkA
    constructor
    · intro h; rw [if_pos h]; omega
    · intro h; rw [if_neg h]; omega
  unfold makeS
  generalize mkA o a = a' at hA
  have ho : 0 ≤ o % 14 ∧ o % 14 ≤ 13 := by omega
  generalize o % 14 = o' at ho hA
  have hd : 0 ≤ d % 10 ∧ d % 10 ≤ 9 := by omega
  generalize d % 10 = d' at hd
  have ht : 0 ≤ t % 8 ∧ t % 8 ≤ 7 := by omega
  generalize t % 8 = t' at ht
  have hb : 0 ≤ b % 8 ∧ b % 8 ≤ 7 := by omega
  generalize b % 8 = b' at hb
  have hc : 0 ≤ c % 8 ∧ c % 8 ≤ 7 := by omega
  generalize c % 8 = c' at hc
  have hg : 0 ≤ g % 65536 ∧ g % 65536 ≤ 65535 := by omega
  generalize g % 65536 = g' at hg
  have hcases : o' = 0 ∨ o' = 1 ∨ o' = 2 ∨ o' = 3 ∨ o' = 4 ∨ o' = 5 ∨ o' = 6 ∨ o' = 7 ∨ o' = 8 ∨ o' = 9 ∨ o' = 10 ∨ o' = 11 ∨ o' = 12 ∨ o' = 13 := by omega
  clear ho
  rcases hcases with rfl | rfl | rfl | rfl | rfl | rfl | rfl | rfl | rfl | rfl | rfl | rfl | rfl | rfl <;> simp at hA
  all_goals first
    | (constructor <;> simp [bareS, MayS, IsBare, usesS] <;> omega)
    | (have hm : mx a' (-1) = a' := by unfold mx; omega
       constructor <;> simp [bareS, MayS, IsBare, usesS, hm] <;> (first | omega | (split <;> simp <;> omega)))
def regS (r : Int) : Int := if r < 0 then 255 else r % 256
theorem reg_is (r : Int) : encode_reg.f r = some (regS r) := by
  unfold encode_reg.f regS; split <;> rfl
/-- A code's bytes. -/
def headS (o d t a b c g : Int) : List Int := [o % 256, d % 256, regS t, regS a, regS b, regS c, (g / 256) % 256, g % 256]
def wordS (v : Int) : List Int := [v / 72057594037927936 % 256, v / 281474976710656 % 256, v / 1099511627776 % 256, v / 4294967296 % 256, v / 16777216 % 256, v / 65536 % 256, v / 256 % 256, v % 256]
def encS (o d t a b c v g : Int) : List Int := headS o d t a b c g ++ wordS v
theorem enc_step (k : Nat) (xs : List Int) (j o d t a b c v g : Int) (h0 : 0 ≤ j) (h7 : j ≤ 7) (hl : xs.length < 100) :
    encode_Encode.l0 (k + 1) xs j o d t a b c v g = encode_Encode.l0 k (xs ++ [(shr .u64 v (8 * j)) % 256]) (j - 1) o d t a b c v g := by
  show (if j ≥ 0 then _ else _) = _
  rw [if_pos h0, wrap_in (x := 8 * j) (by omega) (by omega), if_pos (by omega), if_pos (by omega), wrap_in (by omega) (by omega)]
theorem enc_loop (k : Nat) (hd : List Int) (hh : hd.length = 8) (o d t a b c v g : Int) : encode_Encode.l0 (k + 9) hd 7 o d t a b c v g = some (hd ++ wordS v, true) := by
  rw [enc_step (k + 8) _ _ _ _ _ _ _ _ _ _ (by omega) (by omega) (by omega)]
  rw [enc_step (k + 7) _ _ _ _ _ _ _ _ _ _ (by omega) (by omega) (by simp only [List.length_append, List.length_cons, List.length_nil]; omega)]
  rw [enc_step (k + 6) _ _ _ _ _ _ _ _ _ _ (by omega) (by omega) (by simp only [List.length_append, List.length_cons, List.length_nil]; omega)]
  rw [enc_step (k + 5) _ _ _ _ _ _ _ _ _ _ (by omega) (by omega) (by simp only [List.length_append, List.length_cons, List.length_nil]; omega)]
  rw [enc_step (k + 4) _ _ _ _ _ _ _ _ _ _ (by omega) (by omega) (by simp only [List.length_append, List.length_cons, List.length_nil]; omega)]
  rw [enc_step (k + 3) _ _ _ _ _ _ _ _ _ _ (by omega) (by omega) (by simp only [List.length_append, List.length_cons, List.length_nil]; omega)]
  rw [enc_step (k + 2) _ _ _ _ _ _ _ _ _ _ (by omega) (by omega) (by simp only [List.length_append, List.length_cons, List.length_nil]; omega)]
  rw [enc_step (k + 1) _ _ _ _ _ _ _ _ _ _ (by omega) (by omega) (by simp only [List.length_append, List.length_cons, List.length_nil]; omega)]
  show (if (7 - 1 - 1 - 1 - 1 - 1 - 1 - 1 - 1 : Int) ≥ 0 then _ else _) = _
  rw [if_neg (by omega)]
  have e7 : shr .u64 v (8 * 7) = v / 72057594037927936 := (shr_small (k := .u64) (x := v) (y := 56) (j := _) rfl (by decide)).symm
  have e6 : shr .u64 v (8 * (7 - 1)) = v / 281474976710656 := (shr_small (k := .u64) (x := v) (y := 48) (j := _) rfl (by decide)).symm
  have e5 : shr .u64 v (8 * (7 - 1 - 1)) = v / 1099511627776 := (shr_small (k := .u64) (x := v) (y := 40) (j := _) rfl (by decide)).symm
  have e4 : shr .u64 v (8 * (7 - 1 - 1 - 1)) = v / 4294967296 := (shr_small (k := .u64) (x := v) (y := 32) (j := _) rfl (by decide)).symm
  have e3 : shr .u64 v (8 * (7 - 1 - 1 - 1 - 1)) = v / 16777216 := (shr_small (k := .u64) (x := v) (y := 24) (j := _) rfl (by decide)).symm
  have e2 : shr .u64 v (8 * (7 - 1 - 1 - 1 - 1 - 1)) = v / 65536 := (shr_small (k := .u64) (x := v) (y := 16) (j := _) rfl (by decide)).symm
  have e1 : shr .u64 v (8 * (7 - 1 - 1 - 1 - 1 - 1 - 1)) = v / 256 := (shr_small (k := .u64) (x := v) (y := 8) (j := _) rfl (by decide)).symm
  have e0 : shr .u64 v (8 * (7 - 1 - 1 - 1 - 1 - 1 - 1 - 1)) = v := by
    have := (shr_small (k := .u64) (x := v) (y := 0) (j := _) rfl (by decide)).symm
    simpa using this
  rw [e7, e6, e5, e4, e3, e2, e1, e0]
  simp only [wordS, List.append_assoc, List.cons_append, List.nil_append]
theorem enc_ev (o d t a b c v g : Int) : Ev (fun k => encode_Encode.f k o d t a b c v g) (if MayS o d t a b c v g then (encS o d t a b c v g, true) else ([], false)) := by
  unfold encode_Encode.f
  refine Ev.bind (may_ev ..) ?_
  by_cases h : MayS o d t a b c v g
  · rw [decide_eq_true h, if_pos h]
    refine Ev.pos rfl (Ev.pure (reg_is t) (Ev.pure (reg_is a) (Ev.pure (reg_is b) (Ev.pure (reg_is c) ?_))))
    exact ev4 9 (fun k => enc_loop k (headS o d t a b c g) rfl o d t a b c v g)
  · rw [decide_eq_false h, if_neg h]
    exact Ev.neg (by decide) (Ev.done rfl)
theorem reg_inj {x y : Int} (hx0 : -1 ≤ x) (hx1 : x ≤ 7) (hy0 : -1 ≤ y) (hy1 : y ≤ 7) (h : regS x = regS y) : x = y := by
  unfold regS at h
  split at h <;> split at h <;> omega
theorem word_inj {v w : Int} (hv0 : 0 ≤ v) (hv1 : v ≤ 18446744073709551615) (hw0 : 0 ≤ w) (hw1 : w ≤ 18446744073709551615) (h : wordS v = wordS w) : v = w := by
  unfold wordS at h
  simp only [List.cons.injEq, and_true] at h
  omega
theorem enc_inj {o d t a b c v g o' d' t' a' b' c' v' g' : Int} (h : Ok8 o d t a b c v g) (h' : Ok8 o' d' t' a' b' c' v' g') (e : encS o d t a b c v g = encS o' d' t' a' b' c' v' g') :
    o = o' ∧ d = d' ∧ t = t' ∧ a = a' ∧ b = b' ∧ c = c' ∧ v = v' ∧ g = g' := by
  obtain ⟨o0, o1, d0, d1, t0, t1, a0, a1, b0, b1, c0, c1, v0, v1, g0, g1, _⟩ := h
  obtain ⟨o0', o1', d0', d1', t0', t1', a0', a1', b0', b1', c0', c1', v0', v1', g0', g1', _⟩ := h'
  have e1 : headS o d t a b c g = headS o' d' t' a' b' c' g' ∧ wordS v = wordS v' := List.append_inj e rfl
  have e2 := e1.1
  unfold headS at e2
  simp only [List.cons.injEq, and_true] at e2
  obtain ⟨x1, x2, x3, x4, x5, x6, x7, x8⟩ := e2
  exact ⟨by omega, by omega, reg_inj t0 t1 t0' t1' x3, reg_inj a0 a1 a0' a1' x4, reg_inj b0 b1 b0' b1' x5, reg_inj c0 c1 c0' c1' x6, word_inj v0 v1 v0' v1' e1.2, by omega⟩
theorem enc_byte (o d t a b c v g : Int) : ∀ x ∈ encS o d t a b c v g, 0 ≤ x ∧ x < 256 := by
  intro x hx
  have hr : ∀ r, 0 ≤ regS r ∧ regS r < 256 := fun r => by unfold regS; split <;> omega
  unfold encS headS wordS at hx
  simp only [List.cons_append, List.nil_append, List.mem_cons, List.not_mem_nil, or_false] at hx
  rcases hx with rfl | rfl | rfl | rfl | rfl | rfl | rfl | rfl | rfl | rfl | rfl | rfl | rfl | rfl | rfl | rfl <;> first | exact hr _ | omega
theorem str_inj {xs ys : List Int} (hx : ∀ x ∈ xs, 0 ≤ x ∧ x < 256) (hy : ∀ y ∈ ys, 0 ≤ y ∧ y < 256) : ((strOfNums xs).toList == (strOfNums ys).toList) = decide (xs = ys) := by
  have e : ∀ zs : List Int, (strOfNums zs).toList = zs.map fun n => UInt8.ofNat n.toNat := by
    intro zs; simp [strOfNums, ByteArray.toList_eq]
  rw [e, e, Bool.eq_iff_iff, beq_iff_eq, decide_eq_true_iff]
  constructor
  · intro h
    have hl : xs.length = ys.length := by have := congrArg List.length h; simpa using this
    refine List.ext_getElem hl (fun i h1 h2 => ?_)
    have h3 : (xs.map fun n => UInt8.ofNat n.toNat)[i]'(by simpa using h1) = (ys.map fun n => UInt8.ofNat n.toNat)[i]'(by simpa using h2) := by simp only [h]
    rw [List.getElem_map, List.getElem_map] at h3
    have hx1 := hx _ (List.getElem_mem h1)
    have hy1 := hy _ (List.getElem_mem h2)
    have h4 := congrArg UInt8.toNat h3
    simp only [UInt8.toNat_ofNat'] at h4
    omega
  · rintro rfl; rfl
theorem awake_ev : Ev (fun k => tautochronelaw20_awake.f k) true := by
  unfold tautochronelaw20_awake.f
  refine Ev.bind (Bare_ev ..) (Ev.bind (enc_ev ..) ?_)
  have hm : MayS (bareS 13 0 0 0 0 0 0 0).1 (bareS 13 0 0 0 0 0 0 0).2.1 (bareS 13 0 0 0 0 0 0 0).2.2.1 (bareS 13 0 0 0 0 0 0 0).2.2.2.1 (bareS 13 0 0 0 0 0 0 0).2.2.2.2.1 (bareS 13 0 0 0 0 0 0 0).2.2.2.2.2.1 (bareS 13 0 0 0 0 0 0 0).2.2.2.2.2.2.1 (bareS 13 0 0 0 0 0 0 0).2.2.2.2.2.2.2 := by decide
  rw [if_pos hm]
  exact Ev.fix (by decide)
theorem lawuses_loop (us : List Int) (hl : us.length ≤ 3) : ∀ (m i : Nat), i + m = us.length → (∀ u ∈ us.take i, 0 ≤ u ∧ u < 8) → Ev (fun k => tautochronelaw20_may.l0 k us (us.length : Int) (i : Int)) (decide (∀ u ∈ us, 0 ≤ u ∧ u < 8)) := by
  intro m
  induction m with
  | zero =>
    intro i hi hu
    refine Ev.step (fun k => rfl) ?_
    refine Ev.neg (by omega) (Ev.done ?_)
    rw [List.take_of_length_le (by omega)] at hu
    exact (decide_eq_true hu).symm
  | succ m ih =>
    intro i hi hu
    have hlt : i < us.length := by omega
    refine Ev.step (fun k => rfl) ?_
    refine Ev.pos (by omega) (Ev.pos (by omega) (Ev.pos (by omega) ?_))
    have hm : us[i] ∈ us := List.getElem_mem hlt
    rw [rd_get us i hlt]
    by_cases h0 : us[i] < 0
    · exact Ev.pos h0 (Ev.done (decide_eq_false (fun h => by have := h _ hm; omega)).symm)
    · refine Ev.neg h0 ?_
      by_cases h1 : us[i] > 7
      · exact Ev.pos h1 (Ev.done (decide_eq_false (fun h => by have := h _ hm; omega)).symm)
      · refine Ev.neg h1 ?_
        have e2 : wrap64 ((i : Int) + 1) = ((i + 1 : Nat) : Int) := by rw [wrap_in (by omega) (by omega)]; rfl
        simp only [e2]
        refine ih (i + 1) (by omega) (fun u hu1 => ?_)
        rw [List.take_succ_eq_append_getElem hlt] at hu1
        rcases List.mem_append.1 hu1 with h | h
        · exact hu u h
        · rw [List.mem_singleton] at h; subst h; omega
theorem lawmay_j1 (o d t a b c v g : Int) (x : Bool) : Ev (fun k => tautochronelaw20_may.j1 k x o d t a b c v g) (!x && decide (∀ u ∈ usesS o a b c, 0 ≤ u ∧ u < 8)) := by
  refine Ev.step (f := fun k => if x = true then some false else (code_Uses.f k o d t a b c v g).bind fun t152 => tautochronelaw20_may.l0 k t152 (t152.length : Int) 0) (fun k => rfl) ?_
  cases x with
  | true => exact Ev.pos rfl (Ev.done rfl)
  | false =>
    refine Ev.neg (by decide) (Ev.bind (uses_ev ..) ?_)
    have := lawuses_loop (usesS o a b c) (uses_len ..) (usesS o a b c).length 0 (by omega) (by simp)
    simpa using this
theorem lawmay_j0 (o d t a b c v g : Int) (x : Bool) : Ev (fun k => tautochronelaw20_may.j0 k x o d t a b c v g) (!x && decide ((o = 0 ∨ o = 1 ∨ o = 2 ∨ o = 3 ∨ o = 4 → 0 ≤ t ∧ t < 8) ∧ ∀ u ∈ usesS o a b c, 0 ≤ u ∧ u < 8)) := by
  refine Ev.step (fun k => tautochronelaw20_may.j0.eq_2 ..) ?_
  cases x with
  | true => exact Ev.pos rfl (Ev.done rfl)
  | false =>
    refine Ev.neg (by decide) (Ev.pure (defines_is ..) ?_)
    by_cases h : o = 0 ∨ o = 1 ∨ o = 2 ∨ o = 3 ∨ o = 4
    · rw [if_pos h]
      refine Ev.pos rfl ?_
      by_cases ht : t < 0
      · refine Ev.pos ht ?_
        have := lawmay_j1 o d t a b c v g true
        have e : (!false && decide ((o = 0 ∨ o = 1 ∨ o = 2 ∨ o = 3 ∨ o = 4 → 0 ≤ t ∧ t < 8) ∧ ∀ u ∈ usesS o a b c, 0 ≤ u ∧ u < 8)) = false := by
          simp only [Bool.not_false, Bool.true_and, decide_eq_false_iff_not]
          intro hh; have := hh.1 h; omega
        rw [e]; simpa using this
      · refine Ev.neg ht ?_
        have := lawmay_j1 o d t a b c v g (decide (t > 7))
        have e : (!false && decide ((o = 0 ∨ o = 1 ∨ o = 2 ∨ o = 3 ∨ o = 4 → 0 ≤ t ∧ t < 8) ∧ ∀ u ∈ usesS o a b c, 0 ≤ u ∧ u < 8)) = (!decide (t > 7) && decide (∀ u ∈ usesS o a b c, 0 ≤ u ∧ u < 8)) := by
          rw [Bool.eq_iff_iff]
          simp only [Bool.not_false, Bool.true_and, decide_eq_true_eq, Bool.and_eq_true, Bool.not_eq_true', decide_eq_false_iff_not]
          constructor
          · intro hh; exact ⟨by have := hh.1 h; omega, hh.2⟩
          · intro hh; exact ⟨fun _ => by omega, hh.2⟩
        rw [e]; exact this
    · rw [if_neg h]
      refine Ev.neg (by simp) ?_
      have := lawmay_j1 o d t a b c v g false
      have e : (!false && decide ((o = 0 ∨ o = 1 ∨ o = 2 ∨ o = 3 ∨ o = 4 → 0 ≤ t ∧ t < 8) ∧ ∀ u ∈ usesS o a b c, 0 ≤ u ∧ u < 8)) = (!false && decide (∀ u ∈ usesS o a b c, 0 ≤ u ∧ u < 8)) := by
        rw [Bool.eq_iff_iff]
        simp only [Bool.not_false, Bool.true_and, decide_eq_true_eq]
        exact ⟨fun hh => hh.2, fun hh => ⟨fun h2 => absurd h2 h, hh⟩⟩
      rw [e]; exact this
theorem lawmay_tail (o d t a b c v g : Int) : Ev (fun k => (tautochronelaw20_bare.f k o d t a b c v g).bind fun bt => (if (!(o == bt.1) || (!(d == bt.2.1) || (!(t == bt.2.2.1) || (!(a == bt.2.2.2.1) || (!(b == bt.2.2.2.2.1) || (!(c == bt.2.2.2.2.2.1) || (!(v == bt.2.2.2.2.2.2.1) || (!(g == bt.2.2.2.2.2.2.2))))))))) = true then (tautochronelaw20_may.j0 k true o d t a b c v g) else (if g < 0 then (tautochronelaw20_may.j0 k true o d t a b c v g) else (tautochronelaw20_may.j0 k (decide (g > 65535)) o d t a b c v g))))
    (decide (IsBare o d t a b c v g ∧ 0 ≤ g ∧ g ≤ 65535 ∧ (o = 0 ∨ o = 1 ∨ o = 2 ∨ o = 3 ∨ o = 4 → 0 ≤ t ∧ t < 8) ∧ ∀ u ∈ usesS o a b c, 0 ≤ u ∧ u < 8)) := by
  refine Ev.bind (lawbare_ev ..) ?_
  rw [bare_test]
  have hf : ∀ P : Prop, [Decidable P] → ¬ P → Ev (fun k => tautochronelaw20_may.j0 k true o d t a b c v g) (decide P) := by
    intro P _ hP
    rw [decide_eq_false hP]; simpa using lawmay_j0 o d t a b c v g true
  by_cases h : IsBare o d t a b c v g
  · refine Ev.neg (by simp [h]) ?_
    by_cases hg : g < 0
    · refine Ev.pos hg (hf _ (fun hh => by have := hh.2.1; omega))
    · refine Ev.neg hg ?_
      have := lawmay_j0 o d t a b c v g (decide (g > 65535))
      have e : (decide (IsBare o d t a b c v g ∧ 0 ≤ g ∧ g ≤ 65535 ∧ (o = 0 ∨ o = 1 ∨ o = 2 ∨ o = 3 ∨ o = 4 → 0 ≤ t ∧ t < 8) ∧ ∀ u ∈ usesS o a b c, 0 ≤ u ∧ u < 8)) = (!decide (g > 65535) && decide ((o = 0 ∨ o = 1 ∨ o = 2 ∨ o = 3 ∨ o = 4 → 0 ≤ t ∧ t < 8) ∧ ∀ u ∈ usesS o a b c, 0 ≤ u ∧ u < 8)) := by
        rw [Bool.eq_iff_iff]
        simp only [Bool.not_false, Bool.true_and, decide_eq_true_eq, Bool.and_eq_true, Bool.not_eq_true', decide_eq_false_iff_not]
        constructor
        · intro hh; exact ⟨by omega, hh.2.2.2⟩
        · intro hh; exact ⟨h, by omega, by omega, hh.2⟩
      rw [e]; exact this
  · refine Ev.pos (by simp [h]) (hf _ (fun hh => h hh.1))
theorem lawmay_ev (o d t a b c v g : Int) : Ev (fun k => tautochronelaw20_may.f k o d t a b c v g) (decide (MayS o d t a b c v g)) := by
  unfold tautochronelaw20_may.f
  have hf : ¬ MayS o d t a b c v g → Ev (fun k => tautochronelaw20_may.j0 k true o d t a b c v g) (decide (MayS o d t a b c v g)) := by
    intro hP
    rw [decide_eq_false hP]; simpa using lawmay_j0 o d t a b c v g true
  have ht : 0 ≤ o → o ≤ 13 → (o = 2 → 0 ≤ d ∧ d ≤ 9) → decide (MayS o d t a b c v g) = decide (IsBare o d t a b c v g ∧ 0 ≤ g ∧ g ≤ 65535 ∧ (o = 0 ∨ o = 1 ∨ o = 2 ∨ o = 3 ∨ o = 4 → 0 ≤ t ∧ t < 8) ∧ ∀ u ∈ usesS o a b c, 0 ≤ u ∧ u < 8) := by
    intro h0 h1 h2
    rw [Bool.eq_iff_iff, decide_eq_true_iff, decide_eq_true_iff]
    constructor
    · rintro ⟨_, _, hd, hb, hg0, hg1, ht, hu⟩
      exact ⟨hb, hg0, hg1, fun h => ht (by omega), hu⟩
    · rintro ⟨hb, hg0, hg1, ht, hu⟩
      exact ⟨h0, h1, h2, hb, hg0, hg1, fun h => ht (by omega), hu⟩
  by_cases h1 : o < 0
  · exact Ev.pos h1 (hf (fun h => by have := h.1; omega))
  refine Ev.neg h1 ?_
  by_cases h2 : o > 13
  · exact Ev.pos h2 (hf (fun h => by have := h.2.1; omega))
  refine Ev.neg h2 ?_
  by_cases h3 : o = 2
  · refine Ev.pos h3 ?_
    by_cases h4 : d < 0
    · exact Ev.pos h4 (hf (fun h => by have := h.2.2.1 h3; omega))
    refine Ev.neg h4 ?_
    by_cases h5 : d > 9
    · exact Ev.pos h5 (hf (fun h => by have := h.2.2.1 h3; omega))
    refine Ev.neg h5 ?_
    rw [ht (by omega) (by omega) (fun _ => by omega)]
    exact lawmay_tail ..
  · refine Ev.neg h3 ?_
    rw [ht (by omega) (by omega) (fun h => absurd h h3)]
    exact lawmay_tail ..
theorem lawreg_is (r : Int) : tautochronelaw20_reg.f r = some (regS r) := by
  unfold tautochronelaw20_reg.f regS; split <;> rfl
theorem lb_step (k : Nat) (b : List Int) (v : Int) (j : Nat) (hj : 8 ≤ j) (hb : b.length = 16) (h15 : j ≤ 15) (hv0 : 0 ≤ v) (hv1 : v ≤ 18446744073709551615) :
    tautochronelaw20_bytes.l0 (k + 1) b v (j : Int) = tautochronelaw20_bytes.l0 k (b.set j (v % 256)) (v / 256) ((j - 1 : Nat) : Int) := by
  show (if (j : Int) ≥ 8 then _ else _) = _
  have e1 : Int.tmod v 256 % 256 = v % 256 := by rw [Int.tmod_eq_emod_of_nonneg hv0]; omega
  have e2 : IntKind.u64.wrap (Int.tdiv v 256) = v / 256 := by rw [Int.tdiv_eq_ediv_of_nonneg hv0, IntKind.wrap_u64]; omega
  have e3 : wrap64 ((j : Int) - 1) = ((j - 1 : Nat) : Int) := by rw [wrap_in (by omega) (by omega)]; omega
  rw [if_pos (by omega), if_pos (by omega), if_pos (by omega), e1, e2, e3]
  rfl
theorem lb_loop (k : Nat) (x0 x1 x2 x3 x4 x5 x6 x7 v : Int) (hv0 : 0 ≤ v) (hv1 : v ≤ 18446744073709551615) :
    tautochronelaw20_bytes.l0 (k + 9) [x0, x1, x2, x3, x4, x5, x6, x7, 0, 0, 0, 0, 0, 0, 0, 0] v 15 = some ([x0, x1, x2, x3, x4, x5, x6, x7] ++ wordS v) := by
  have st := fun k b v (j : Nat) h1 h2 h3 h4 h5 => lb_step k b v j h1 h2 h3 h4 h5
  rw [show (15 : Int) = ((15 : Nat) : Int) from rfl, lb_step (k + 8) _ _ 15 (by omega) rfl (by omega) hv0 hv1]
  rw [lb_step (k + 7) _ _ (15 - 1) (by omega) (by simp only [List.length_set, List.length_cons, List.length_nil]) (by omega) (by omega) (by omega)]
  rw [lb_step (k + 6) _ _ (15 - 1 - 1) (by omega) (by simp only [List.length_set, List.length_cons, List.length_nil]) (by omega) (by omega) (by omega)]
  rw [lb_step (k + 5) _ _ (15 - 1 - 1 - 1) (by omega) (by simp only [List.length_set, List.length_cons, List.length_nil]) (by omega) (by omega) (by omega)]
  rw [lb_step (k + 4) _ _ (15 - 1 - 1 - 1 - 1) (by omega) (by simp only [List.length_set, List.length_cons, List.length_nil]) (by omega) (by omega) (by omega)]
  rw [lb_step (k + 3) _ _ (15 - 1 - 1 - 1 - 1 - 1) (by omega) (by simp only [List.length_set, List.length_cons, List.length_nil]) (by omega) (by omega) (by omega)]
  rw [lb_step (k + 2) _ _ (15 - 1 - 1 - 1 - 1 - 1 - 1) (by omega) (by simp only [List.length_set, List.length_cons, List.length_nil]) (by omega) (by omega) (by omega)]
  rw [lb_step (k + 1) _ _ (15 - 1 - 1 - 1 - 1 - 1 - 1 - 1) (by omega) (by simp only [List.length_set, List.length_cons, List.length_nil]) (by omega) (by omega) (by omega)]
  show (if (((15 - 1 - 1 - 1 - 1 - 1 - 1 - 1 - 1 : Nat)) : Int) ≥ 8 then _ else _) = _
  rw [if_neg (by omega)]
  have d2 : v / 256 / 256 = v / 65536 := by omega
  have d3 : v / 65536 / 256 = v / 16777216 := by omega
  have d4 : v / 16777216 / 256 = v / 4294967296 := by omega
  have d5 : v / 4294967296 / 256 = v / 1099511627776 := by omega
  have d6 : v / 1099511627776 / 256 = v / 281474976710656 := by omega
  have d7 : v / 281474976710656 / 256 = v / 72057594037927936 := by omega
  rw [d2, d3, d4, d5, d6, d7]
  rfl
theorem lawbytes_ev {o d t a b c v g : Int} (h : Ok8 o d t a b c v g) : Ev (fun k => tautochronelaw20_bytes.f k o d t a b c v g) (encS o d t a b c v g) := by
  unfold tautochronelaw20_bytes.f
  refine Ev.pure (lawreg_is t) (Ev.pure (lawreg_is a) (Ev.pure (lawreg_is b) (Ev.pure (lawreg_is c) ?_)))
  have g0 := h.g0
  have g1 := h.g1
  have e1 : wrap64 (Int.tdiv g 256) % 256 = g / 256 % 256 := by rw [Int.tdiv_eq_ediv_of_nonneg g0, wrap_in (by omega) (by omega)]
  have e2 : Int.tmod g 256 % 256 = g % 256 := by rw [Int.tmod_eq_emod_of_nonneg g0]; omega
  rw [e1, e2]
  exact ev4 9 (fun k => lb_loop k _ _ _ _ _ _ _ _ v h.v0 h.v1)
def backS (x : Int) : Int := if x = 255 then -1 else x
theorem back_is (x : Int) (h0 : 0 ≤ x) (h1 : x < 256) : encode_back.f x = some (backS x) := by
  unfold encode_back.f backS
  by_cases h : x = 255
  · rw [if_pos h, if_pos h]
  · rw [if_neg h, if_neg h, wrap_in (by omega) (by omega)]
theorem or_add (a b : Nat) (hb : b < 256) : a * 256 ||| b = a * 256 + b := by
  have := Nat.two_pow_add_eq_or_of_lt (i := 8) (b := b) (by omega) a
  have e : 2 ^ 8 * a = a * 256 := by omega
  rw [e] at this
  exact this.symm
theorem or_u64 (v x : Int) (v0 : 0 ≤ v) (v1 : v < 72057594037927936) (x0 : 0 ≤ x) (x1 : x < 256) : Go.bits .or .u64 (IntKind.u64.wrap (v * 256)) (IntKind.u64.wrap x) = v * 256 + x := by
  have e1 : IntKind.u64.wrap (v * 256) = ((v.toNat * 256 : Nat) : Int) := by rw [IntKind.wrap_u64]; omega
  have e2 : IntKind.u64.wrap x = ((x.toNat : Nat) : Int) := by rw [IntKind.wrap_u64]; omega
  rw [e1, e2, bits_or_u64_nat _ _ (by omega) (by omega), or_add _ _ (by omega)]
  omega
theorem or_i64 (x y : Int) (x0 : 0 ≤ x) (x1 : x < 256) (y0 : 0 ≤ y) (y1 : y < 256) : Go.bits .or .i64 (wrap64 (wrap64 x * 256)) (wrap64 y) = x * 256 + y := by
  rw [wrap_in (x := x) (by omega) (by omega), wrap_in (x := x * 256) (by omega) (by omega), wrap_in (x := y) (by omega) (by omega)]
  obtain ⟨a, rfl⟩ : ∃ a : Nat, x = a := ⟨x.toNat, by omega⟩
  obtain ⟨b, rfl⟩ : ∃ b : Nat, y = b := ⟨y.toNat, by omega⟩
  have e : ((a : Int) * 256) = ((a * 256 : Nat) : Int) := by omega
  rw [e]
  have h1 : (BitVec.ofInt 64 ((a * 256 : Nat) : Int)).toNat = a * 256 := by
    rw [BitVec.ofInt_natCast, BitVec.toNat_ofNat]; exact Nat.mod_eq_of_lt (by omega)
  have h2 : (BitVec.ofInt 64 (b : Int)).toNat = b := by
    rw [BitVec.ofInt_natCast, BitVec.toNat_ofNat]; exact Nat.mod_eq_of_lt (by omega)
  show IntKind.i64.wrap ((BitVec.ofInt 64 ((a * 256 : Nat) : Int) ||| BitVec.ofInt 64 (b : Int)).toNat : Int) = _
  rw [BitVec.toNat_or, h1, h2, or_add _ _ (by omega)]
  have : IntKind.i64.wrap ((a * 256 + b : Nat) : Int) = wrap64 ((a * 256 + b : Nat) : Int) := by
    simp only [wrap64, IntKind.wrap, IntKind.bits, IntKind.signed]
    simp
    split <;> omega
  rw [this, wrap_in (by omega) (by omega)]
  omega
theorem dec_step (k : Nat) (ys : List Int) (j : Nat) (o d t a b c v g y : Int) (hl : ys.length = 8) (hj : j < 8) (hy : ys[j]? = some y) (y0 : 0 ≤ y) (y1 : y < 256) (v0 : 0 ≤ v) (v1 : v < 72057594037927936) :
    encode_Decode.l0 (k + 1) ys 8 (j : Int) o d t a b c v g = encode_Decode.l0 k ys 8 ((j + 1 : Nat) : Int) o d t a b c (v * 256 + y) g := by
  have hr : rd ys (j : Int) = y := by
    rw [rd_cast, List.getD_eq_getElem?_getD, hy]; rfl
  rw [encode_Decode.l0, if_pos (by omega), if_pos (by omega), if_pos (by omega), hr, or_u64 v y v0 v1 y0 y1, wrap_in (by omega) (by omega)]
  rfl
def wordV (x8 x9 x10 x11 x12 x13 x14 x15 : Int) : Int := ((((((x8 * 256 + x9) * 256 + x10) * 256 + x11) * 256 + x12) * 256 + x13) * 256 + x14) * 256 + x15
def Byte (x : Int) : Prop := 0 ≤ x ∧ x < 256
theorem dec_loop (k : Nat) (x8 x9 x10 x11 x12 x13 x14 x15 o d t a b c g : Int) (h8 : Byte x8) (h9 : Byte x9) (h10 : Byte x10) (h11 : Byte x11) (h12 : Byte x12) (h13 : Byte x13) (h14 : Byte x14) (h15 : Byte x15) :
    encode_Decode.l0 (k + 9) [x8, x9, x10, x11, x12, x13, x14, x15] 8 0 o d t a b c 0 g = (encode_May.f k o d t a b c (wordV x8 x9 x10 x11 x12 x13 x14 x15) g).bind fun r => if r = true then some (o, d, t, a, b, c, wordV x8 x9 x10 x11 x12 x13 x14 x15, g, true) else some (0, 0, 0, 0, 0, 0, 0, 0, false) := by
  obtain ⟨p8, q8⟩ := h8; obtain ⟨p9, q9⟩ := h9; obtain ⟨p10, q10⟩ := h10; obtain ⟨p11, q11⟩ := h11
  obtain ⟨p12, q12⟩ := h12; obtain ⟨p13, q13⟩ := h13; obtain ⟨p14, q14⟩ := h14; obtain ⟨p15, q15⟩ := h15
  have s0 := dec_step (k + 8) [x8, x9, x10, x11, x12, x13, x14, x15] 0 o d t a b c 0 g x8 rfl (by omega) rfl p8 q8 (by omega) (by omega)
  have s1 := dec_step (k + 7) [x8, x9, x10, x11, x12, x13, x14, x15] 1 o d t a b c x8 g x9 rfl (by omega) rfl p9 q9 (by omega) (by omega)
  have s2 := dec_step (k + 6) [x8, x9, x10, x11, x12, x13, x14, x15] 2 o d t a b c (x8 * 256 + x9) g x10 rfl (by omega) rfl p10 q10 (by omega) (by omega)
  have s3 := dec_step (k + 5) [x8, x9, x10, x11, x12, x13, x14, x15] 3 o d t a b c ((x8 * 256 + x9) * 256 + x10) g x11 rfl (by omega) rfl p11 q11 (by omega) (by omega)
  have s4 := dec_step (k + 4) [x8, x9, x10, x11, x12, x13, x14, x15] 4 o d t a b c (((x8 * 256 + x9) * 256 + x10) * 256 + x11) g x12 rfl (by omega) rfl p12 q12 (by omega) (by omega)
  have s5 := dec_step (k + 3) [x8, x9, x10, x11, x12, x13, x14, x15] 5 o d t a b c ((((x8 * 256 + x9) * 256 + x10) * 256 + x11) * 256 + x12) g x13 rfl (by omega) rfl p13 q13 (by omega) (by omega)
  have s6 := dec_step (k + 2) [x8, x9, x10, x11, x12, x13, x14, x15] 6 o d t a b c (((((x8 * 256 + x9) * 256 + x10) * 256 + x11) * 256 + x12) * 256 + x13) g x14 rfl (by omega) rfl p14 q14 (by omega) (by omega)
  have s7 := dec_step (k + 1) [x8, x9, x10, x11, x12, x13, x14, x15] 7 o d t a b c ((((((x8 * 256 + x9) * 256 + x10) * 256 + x11) * 256 + x12) * 256 + x13) * 256 + x14) g x15 rfl (by omega) rfl p15 q15 (by omega) (by omega)
  have e0 : (0 : Int) * 256 + x8 = x8 := by omega
  rw [e0] at s0
  refine s0.trans (s1.trans (s2.trans (s3.trans (s4.trans (s5.trans (s6.trans (s7.trans ?_)))))))
  rw [encode_Decode.l0, if_neg (by omega)]
  rfl
theorem dec_ev (x0 x1 x2 x3 x4 x5 x6 x7 x8 x9 x10 x11 x12 x13 x14 x15 : Int) (h0 : Byte x0) (h1 : Byte x1) (h2 : Byte x2) (h3 : Byte x3) (h4 : Byte x4) (h5 : Byte x5) (h6 : Byte x6) (h7 : Byte x7)
    (h8 : Byte x8) (h9 : Byte x9) (h10 : Byte x10) (h11 : Byte x11) (h12 : Byte x12) (h13 : Byte x13) (h14 : Byte x14) (h15 : Byte x15) :
    Ev (fun k => encode_Decode.f k [x0, x1, x2, x3, x4, x5, x6, x7, x8, x9, x10, x11, x12, x13, x14, x15])
      (if MayS x0 x1 (backS x2) (backS x3) (backS x4) (backS x5) (wordV x8 x9 x10 x11 x12 x13 x14 x15) (x6 * 256 + x7) then (x0, x1, backS x2, backS x3, backS x4, backS x5, wordV x8 x9 x10 x11 x12 x13 x14 x15, x6 * 256 + x7, true) else (0, 0, 0, 0, 0, 0, 0, 0, false)) := by
  have hr : ∀ k, encode_Decode.f k [x0, x1, x2, x3, x4, x5, x6, x7, x8, x9, x10, x11, x12, x13, x14, x15] = encode_Decode.l0 k [x8, x9, x10, x11, x12, x13, x14, x15] 8 0 x0 x1 (backS x2) (backS x3) (backS x4) (backS x5) 0 (x6 * 256 + x7) := by
    intro k
    unfold encode_Decode.f
    have r2 : rd [x0, x1, x2, x3, x4, x5, x6, x7, x8, x9, x10, x11, x12, x13, x14, x15] 2 = x2 := rfl
    have r3 : rd [x0, x1, x2, x3, x4, x5, x6, x7, x8, x9, x10, x11, x12, x13, x14, x15] 3 = x3 := rfl
    have r4 : rd [x0, x1, x2, x3, x4, x5, x6, x7, x8, x9, x10, x11, x12, x13, x14, x15] 4 = x4 := rfl
    have r5 : rd [x0, x1, x2, x3, x4, x5, x6, x7, x8, x9, x10, x11, x12, x13, x14, x15] 5 = x5 := rfl
    have r6 : rd [x0, x1, x2, x3, x4, x5, x6, x7, x8, x9, x10, x11, x12, x13, x14, x15] 6 = x6 := rfl
    have r7 : rd [x0, x1, x2, x3, x4, x5, x6, x7, x8, x9, x10, x11, x12, x13, x14, x15] 7 = x7 := rfl
    have r0 : rd [x0, x1, x2, x3, x4, x5, x6, x7, x8, x9, x10, x11, x12, x13, x14, x15] 0 = x0 := rfl
    have r1 : rd [x0, x1, x2, x3, x4, x5, x6, x7, x8, x9, x10, x11, x12, x13, x14, x15] 1 = x1 := rfl
    have hlen : (([x0, x1, x2, x3, x4, x5, x6, x7, x8, x9, x10, x11, x12, x13, x14, x15] : List Int).length : Int) = 16 := rfl
    rw [hlen, if_pos rfl, if_pos (by decide), if_pos (by decide), if_pos (by decide), r2, back_is x2 h2.1 h2.2]
    simp only [Option.bind_some]
    rw [if_pos (by decide), r3, back_is x3 h3.1 h3.2]
    simp only [Option.bind_some]
    rw [if_pos (by decide), r4, back_is x4 h4.1 h4.2]
    simp only [Option.bind_some]
    rw [if_pos (by decide), r5, back_is x5 h5.1 h5.2]
    simp only [Option.bind_some]
    rw [if_pos (by decide), if_pos (by decide), if_pos (by decide), r0, r1, r6, r7, or_i64 x6 x7 h6.1 h6.2 h7.1 h7.2, wrap_in (x := x0) (by have := h0.1; omega) (by have := h0.2; omega), wrap_in (x := x1) (by have := h1.1; omega) (by have := h1.2; omega)]
    rfl
  have hm := may_ev x0 x1 (backS x2) (backS x3) (backS x4) (backS x5) (wordV x8 x9 x10 x11 x12 x13 x14 x15) (x6 * 256 + x7)
  refine Ev.at_ ?_
  obtain ⟨K, hK⟩ := Ev.bind hm (r := if MayS x0 x1 (backS x2) (backS x3) (backS x4) (backS x5) (wordV x8 x9 x10 x11 x12 x13 x14 x15) (x6 * 256 + x7) then (x0, x1, backS x2, backS x3, backS x4, backS x5, wordV x8 x9 x10 x11 x12 x13 x14 x15, x6 * 256 + x7, true) else (0, 0, 0, 0, 0, 0, 0, 0, false))
    (f := fun _ r => if r = true then some (x0, x1, backS x2, backS x3, backS x4, backS x5, wordV x8 x9 x10 x11 x12 x13 x14 x15, x6 * 256 + x7, true) else some (0, 0, 0, 0, 0, 0, 0, 0, false)) (by
      by_cases hc : MayS x0 x1 (backS x2) (backS x3) (backS x4) (backS x5) (wordV x8 x9 x10 x11 x12 x13 x14 x15) (x6 * 256 + x7)
      · rw [decide_eq_true hc, if_pos hc]; exact Ev.pos rfl (Ev.done rfl)
      · rw [decide_eq_false hc, if_neg hc]; exact Ev.neg (by decide) (Ev.done rfl))
  refine ⟨K + 9, fun k hk => ?_⟩
  obtain ⟨m, rfl⟩ : ∃ m, k = m + 9 := ⟨k - 9, by omega⟩
  rw [hr, dec_loop m _ _ _ _ _ _ _ _ _ _ _ _ _ _ _ h8 h9 h10 h11 h12 h13 h14 h15]
  exact hK m (by omega)
theorem dec_none (l : List Int) (h : l.length ≠ 16) (k : Nat) : encode_Decode.f k l = some (0, 0, 0, 0, 0, 0, 0, 0, false) := by
  unfold encode_Decode.f
  rw [if_neg (by omega)]
/-- What is read of bytes has these bytes. -/
theorem dec_enc (x0 x1 x2 x3 x4 x5 x6 x7 x8 x9 x10 x11 x12 x13 x14 x15 : Int) (h0 : Byte x0) (h1 : Byte x1) (h2 : Byte x2) (h3 : Byte x3) (h4 : Byte x4) (h5 : Byte x5) (h6 : Byte x6) (h7 : Byte x7)
    (h8 : Byte x8) (h9 : Byte x9) (h10 : Byte x10) (h11 : Byte x11) (h12 : Byte x12) (h13 : Byte x13) (h14 : Byte x14) (h15 : Byte x15) :
    encS x0 x1 (backS x2) (backS x3) (backS x4) (backS x5) (wordV x8 x9 x10 x11 x12 x13 x14 x15) (x6 * 256 + x7) = [x0, x1, x2, x3, x4, x5, x6, x7, x8, x9, x10, x11, x12, x13, x14, x15] := by
  have hb : ∀ x, Byte x → regS (backS x) = x := by
    intro x ⟨p, q⟩
    unfold regS backS
    by_cases e : x = 255
    · rw [if_pos e, if_pos (by omega)]; omega
    · rw [if_neg e, if_neg (by omega)]; omega
  obtain ⟨p0, q0⟩ := h0; obtain ⟨p1, q1⟩ := h1; obtain ⟨p6, q6⟩ := h6; obtain ⟨p7, q7⟩ := h7
  obtain ⟨p8, q8⟩ := h8; obtain ⟨p9, q9⟩ := h9; obtain ⟨p10, q10⟩ := h10; obtain ⟨p11, q11⟩ := h11
  obtain ⟨p12, q12⟩ := h12; obtain ⟨p13, q13⟩ := h13; obtain ⟨p14, q14⟩ := h14; obtain ⟨p15, q15⟩ := h15
  have hd : headS x0 x1 (backS x2) (backS x3) (backS x4) (backS x5) (x6 * 256 + x7) = [x0, x1, x2, x3, x4, x5, x6, x7] := by
    unfold headS
    rw [hb x2 h2, hb x3 h3, hb x4 h4, hb x5 h5, show x0 % 256 = x0 by omega, show x1 % 256 = x1 by omega, show (x6 * 256 + x7) / 256 % 256 = x6 by omega, show (x6 * 256 + x7) % 256 = x7 by omega]
  have hw : wordS (wordV x8 x9 x10 x11 x12 x13 x14 x15) = [x8, x9, x10, x11, x12, x13, x14, x15] := by
    unfold wordS wordV
    refine List.cons_eq_cons.mpr ⟨by omega, List.cons_eq_cons.mpr ⟨by omega, List.cons_eq_cons.mpr ⟨by omega, List.cons_eq_cons.mpr ⟨by omega, List.cons_eq_cons.mpr ⟨by omega, List.cons_eq_cons.mpr ⟨by omega, List.cons_eq_cons.mpr ⟨by omega, List.cons_eq_cons.mpr ⟨by omega, rfl⟩⟩⟩⟩⟩⟩⟩⟩
  rw [encS, hd, hw]
  rfl
def okX (x : S26) : Prop := MayS x.f0 x.f1 x.f2 x.f3 x.f4 x.f5 x.f6 x.f7
instance (x : S26) : Decidable (okX x) := by unfold okX; infer_instance
def encX (x : S26) : List Int := encS x.f0 x.f1 x.f2 x.f3 x.f4 x.f5 x.f6 x.f7
theorem encX_len (x : S26) : (encX x).length = 16 := rfl
theorem flat_lenX (xs : List S26) : (xs.flatMap encX).length = 16 * xs.length := by
  induction xs with
  | nil => rfl
  | cons a xs ih => rw [List.flatMap_cons, List.length_append, ih, encX_len, List.length_cons]; omega
theorem rdT_at (xs : List S26) (i : Nat) (h : i < xs.length) : rd_T26 xs (i : Int) = xs[i] := by
  simp [rd_T26, List.getD_eq_getElem?_getD, List.getElem?_eq_getElem h]
theorem nxt (i : Nat) (h : i ≤ 9223372036854775806) : wrap64 ((i : Int) + 1) = ((i + 1 : Nat) : Int) := by rw [wrap_in (by omega) (by omega)]; rfl
theorem back_reg (r : Int) (h0 : -1 ≤ r) (h1 : r ≤ 7) : backS (regS r) = r := by
  unfold backS regS
  by_cases h : r < 0
  · rw [if_pos h, if_pos rfl]; omega
  · rw [if_neg h, if_neg (by omega)]; omega
theorem word_back (v : Int) (h0 : 0 ≤ v) (h1 : v ≤ 18446744073709551615) :
    wordV (v / 72057594037927936 % 256) (v / 281474976710656 % 256) (v / 1099511627776 % 256) (v / 4294967296 % 256) (v / 16777216 % 256) (v / 65536 % 256) (v / 256 % 256) (v % 256) = v := by
  unfold wordV; omega
theorem byte_mod (x : Int) : Byte (x % 256) := by unfold Byte; omega
theorem byte_reg (x : Int) : Byte (regS x) := by unfold Byte regS; split <;> omega
theorem dec_of_enc {o d t a b c v g : Int} (h : Ok8 o d t a b c v g) : Ev (fun k => encode_Decode.f k (encS o d t a b c v g)) (o, d, t, a, b, c, v, g, true) := by
  have := dec_ev (o % 256) (d % 256) (regS t) (regS a) (regS b) (regS c) (g / 256 % 256) (g % 256) (v / 72057594037927936 % 256) (v / 281474976710656 % 256) (v / 1099511627776 % 256) (v / 4294967296 % 256) (v / 16777216 % 256) (v / 65536 % 256) (v / 256 % 256) (v % 256)
    (byte_mod _) (byte_mod _) (byte_reg _) (byte_reg _) (byte_reg _) (byte_reg _) (byte_mod _) (byte_mod _) (byte_mod _) (byte_mod _) (byte_mod _) (byte_mod _) (byte_mod _) (byte_mod _) (byte_mod _) (byte_mod _)
  rw [back_reg t h.t0 h.t1, back_reg a h.a0 h.a1, back_reg b h.b0 h.b1, back_reg c h.c0 h.c1, word_back v h.v0 h.v1, show o % 256 = o by have := h.o0; have := h.o1; omega, show d % 256 = d by have := h.d0; have := h.d1; omega,
    show g / 256 % 256 * 256 + g % 256 = g by have := h.g0; have := h.g1; omega, if_pos h.may] at this
  have e : encS o d t a b c v g = [o, d, regS t, regS a, regS b, regS c, g / 256 % 256, g % 256, v / 72057594037927936 % 256, v / 281474976710656 % 256, v / 1099511627776 % 256, v / 4294967296 % 256, v / 16777216 % 256, v / 65536 % 256, v / 256 % 256, v % 256] := by
    unfold encS headS wordS
    rw [show o % 256 = o by have := h.o0; have := h.o1; omega, show d % 256 = d by have := h.d0; have := h.d1; omega]
    rfl
  rw [e]
  exact this
def Ok26 (x : S26) : Prop := Ok8 x.f0 x.f1 x.f2 x.f3 x.f4 x.f5 x.f6 x.f7
end Go.Proofs.Ytnnedajhphkphaa.Pure
