/-
The statement EncodeTwo, plainly: two codes that may be have the same bytes just if they are the same. Condition: none beyond the statement's own.
-/
import Derived.Test.YtnnedajhphkphaaVEncodeTwo
import Derived.Test.YtnnedajhphkphaaKit
set_option linter.unusedSimpArgs false
set_option linter.unusedVariables false
namespace Go.Proofs.Ytnnedajhphkphaa.Pure
open Go.RowKit Go.Proofs.YtnnedajhphkphaaW.PrintWords Go.Proofs.YtnnedajhphkphaaW.PrintLast Go.Proofs.YtnnedajhphkphaaW.PrintMore Go.Proofs.Ytnnedajhphkphaa.Kit
open Go.Proofs.Ytnnedajhphkphaa.PEncodeTwo
/-- A code's eight numbers: Op, Do, To, A, B, C, Value, Target. -/
abbrev T8 := Int × Int × Int × Int × Int × Int × Int × Int
/-- What counts of a code. -/
def bareS (o d t a b c v g : Int) : T8 :=
  (o, if o = 2 then d else 0, if o = 0 ∨ o = 1 ∨ o = 2 ∨ o = 3 ∨ o = 4 then t else -1,
    if o = 1 ∨ o = 2 ∨ o = 3 ∨ o = 7 ∨ o = 10 ∨ o = 12 then a else if o = 4 ∨ o = 5 then mx a (-1) else -1,
    if o = 2 ∨ o = 3 ∨ o = 5 then b else -1, if o = 3 then c else -1,
    if o = 0 ∨ o = 4 ∨ o = 5 ∨ o = 8 ∨ o = 9 ∨ o = 10 then v else 0, if o = 6 ∨ o = 7 then g else 0)
def IsBare (o d t a b c v g : Int) : Prop :=
  (bareS o d t a b c v g).2.1 = d ∧ (bareS o d t a b c v g).2.2.1 = t ∧ (bareS o d t a b c v g).2.2.2.1 = a ∧ (bareS o d t a b c v g).2.2.2.2.1 = b ∧ (bareS o d t a b c v g).2.2.2.2.2.1 = c ∧ (bareS o d t a b c v g).2.2.2.2.2.2.1 = v ∧ (bareS o d t a b c v g).2.2.2.2.2.2.2 = g
instance (o d t a b c v g : Int) : Decidable (IsBare o d t a b c v g) := by unfold IsBare; infer_instance
theorem isBare_iff (o d t a b c v g : Int) : IsBare o d t a b c v g ↔ bareS o d t a b c v g = (o, d, t, a, b, c, v, g) := by
  unfold IsBare
  constructor
  · rintro ⟨h1, h2, h3, h4, h5, h6, h7⟩
    have h0 : (bareS o d t a b c v g).1 = o := rfl
    exact Prod.ext h0 (Prod.ext h1 (Prod.ext h2 (Prod.ext h3 (Prod.ext h4 (Prod.ext h5 (Prod.ext h6 h7))))))
  · intro h; rw [h]; exact ⟨rfl, rfl, rfl, rfl, rfl, rfl, rfl⟩
theorem op_cases {P : Int → Prop} (o : Int) (h : ∀ n : Int, n = 0 ∨ n = 1 ∨ n = 2 ∨ n = 3 ∨ n = 4 ∨ n = 5 ∨ n = 6 ∨ n = 7 ∨ n = 8 ∨ n = 9 ∨ n = 10 ∨ n = 11 ∨ n = 12 ∨ n = 13 → P n)
    (hx : o ≠ 0 → o ≠ 1 → o ≠ 2 → o ≠ 3 → o ≠ 4 → o ≠ 5 → o ≠ 6 → o ≠ 7 → o ≠ 8 → o ≠ 9 → o ≠ 10 → o ≠ 11 → o ≠ 12 → o ≠ 13 → P o) : P o := by
  by_cases hr : 0 ≤ o ∧ o ≤ 13
  · exact h o (by omega)
  · exact hx (by omega) (by omega) (by omega) (by omega) (by omega) (by omega) (by omega) (by omega) (by omega) (by omega) (by omega) (by omega) (by omega) (by omega)
theorem bare_is (k : Nat) (o d t a b c v g : Int) : encode_bare.f (k + 4) o d t a b c v g = some (bareS o d t a b c v g) := by
  refine op_cases (P := fun o => encode_bare.f (k + 4) o d t a b c v g = some (bareS o d t a b c v g)) o (fun n hn => ?_) (fun h0 h1 h2 h3 h4 h5 h6 h7 h8 h9 h10 h11 h12 h13 => ?_)
  · rcases hn with rfl | rfl | rfl | rfl | rfl | rfl | rfl | rfl | rfl | rfl | rfl | rfl | rfl | rfl <;> simp [encode_bare.f, code_Defines.f, encode_bare.j0, encode_bare.j1, encode_bare.j2, encode_bare.j3, bareS]
  · simp [encode_bare.f, code_Defines.f, encode_bare.j0, encode_bare.j1, encode_bare.j2, encode_bare.j3, bareS, h0, h1, h2, h3, h4, h5, h6, h7, h8, h9, h10, h11, h12, h13]
theorem lawbare_is (k : Nat) (o d t a b c v g : Int) : tautochronelaw20_bare.f (k + 4) o d t a b c v g = some (bareS o d t a b c v g) := by
  refine op_cases (P := fun o => tautochronelaw20_bare.f (k + 4) o d t a b c v g = some (bareS o d t a b c v g)) o (fun n hn => ?_) (fun h0 h1 h2 h3 h4 h5 h6 h7 h8 h9 h10 h11 h12 h13 => ?_)
  · rcases hn with rfl | rfl | rfl | rfl | rfl | rfl | rfl | rfl | rfl | rfl | rfl | rfl | rfl | rfl <;> simp [tautochronelaw20_bare.f, code_Defines.f, tautochronelaw20_bare.j0, tautochronelaw20_bare.j1, tautochronelaw20_bare.j2, tautochronelaw20_bare.j3, bareS]
  · simp [tautochronelaw20_bare.f, code_Defines.f, tautochronelaw20_bare.j0, tautochronelaw20_bare.j1, tautochronelaw20_bare.j2, tautochronelaw20_bare.j3, bareS, h0, h1, h2, h3, h4, h5, h6, h7, h8, h9, h10, h11, h12, h13]
theorem ev4 {α : Type} {g : Nat → Option α} {r : α} (m : Nat) (h : ∀ k, g (k + m) = some r) : Ev g r :=
  ⟨m, fun k hk => by obtain ⟨j, rfl⟩ : ∃ j, k = j + m := ⟨k - m, by omega⟩; exact h j⟩
theorem bare_ev (o d t a b c v g : Int) : Ev (fun k => encode_bare.f k o d t a b c v g) (bareS o d t a b c v g) := ev4 4 (fun k => bare_is k ..)
theorem lawbare_ev (o d t a b c v g : Int) : Ev (fun k => tautochronelaw20_bare.f k o d t a b c v g) (bareS o d t a b c v g) := ev4 4 (fun k => lawbare_is k ..)
theorem Bare_ev (o d t a b c v g : Int) : Ev (fun k => encode_Bare.f k o d t a b c v g) (bareS o d t a b c v g) := by
  unfold encode_Bare.f
  exact Ev.bind (bare_ev ..) (Ev.done rfl)
/-- The registers that a code takes. -/
def usesS (o a b c : Int) : List Int :=
  if o = 1 ∨ o = 7 ∨ o = 10 ∨ o = 12 then [a] else if o = 2 then [a, b] else if o = 3 then [a, b, c] else if o = 4 then (if a ≥ 0 then [a] else []) else if o = 5 then (if a ≥ 0 then [a, b] else [b]) else []
theorem uses_is (k : Nat) (o d t a b c v g : Int) : code_Uses.f (k + 1) o d t a b c v g = some (usesS o a b c) := by
  refine op_cases (P := fun o => code_Uses.f (k + 1) o d t a b c v g = some (usesS o a b c)) o (fun n hn => ?_) (fun h0 h1 h2 h3 h4 h5 h6 h7 h8 h9 h10 h11 h12 h13 => ?_)
  · rcases hn with rfl | rfl | rfl | rfl | rfl | rfl | rfl | rfl | rfl | rfl | rfl | rfl | rfl | rfl <;> simp [code_Uses.f, code_Uses.j0, usesS] <;> split <;> rfl
  · simp [code_Uses.f, code_Uses.j0, usesS, h1, h2, h3, h4, h5, h7, h10, h12]
theorem uses_ev (o d t a b c v g : Int) : Ev (fun k => code_Uses.f k o d t a b c v g) (usesS o a b c) := ev4 1 (fun k => uses_is k ..)
theorem defines_is (o d t a b c v g : Int) : code_Defines.f o d t a b c v g = some (if o = 0 ∨ o = 1 ∨ o = 2 ∨ o = 3 ∨ o = 4 then (t, true) else (0, false)) := by
  unfold code_Defines.f
  by_cases h0 : o = 0
  · simp [h0]
  by_cases h1 : o = 1
  · simp [h1]
  by_cases h2 : o = 2
  · simp [h2]
  by_cases h3 : o = 3
  · simp [h3]
  by_cases h4 : o = 4
  · simp [h4]
  simp [h0, h1, h2, h3, h4]
theorem tight_is (d : Int) : ∃ n, word_Tight.f d = some n ∧ (n = 0 ↔ ¬ (0 ≤ d ∧ d ≤ 9)) := by
  by_cases h : 0 ≤ d ∧ d ≤ 9
  · have hk : ∀ n : Nat, n < 10 → ∃ m : Int, word_Tight.f (n : Int) = some m ∧ m ≠ 0 := by
      intro n hn
      have : n = 0 ∨ n = 1 ∨ n = 2 ∨ n = 3 ∨ n = 4 ∨ n = 5 ∨ n = 6 ∨ n = 7 ∨ n = 8 ∨ n = 9 := by omega
      rcases this with rfl | rfl | rfl | rfl | rfl | rfl | rfl | rfl | rfl | rfl <;> exact ⟨_, rfl, by decide⟩
    obtain ⟨n, rfl⟩ := Int.eq_ofNat_of_zero_le h.1
    obtain ⟨m, hm, h0⟩ := hk n (by omega)
    exact ⟨m, hm, by simp [h0]; omega⟩
  · refine ⟨0, ?_, by simp [h]⟩
    unfold word_Tight.f
    simp only [Option.bind_some]
    by_cases h1 : d < 0
    · rw [if_pos h1]
    · rw [if_neg h1, if_pos (by simp; omega)]
/-- Whether a code may have bytes. -/
def MayS (o d t a b c v g : Int) : Prop :=
  0 ≤ o ∧ o ≤ 13 ∧ (o = 2 → 0 ≤ d ∧ d ≤ 9) ∧ IsBare o d t a b c v g ∧ 0 ≤ g ∧ g ≤ 65535 ∧ (o ≤ 4 → 0 ≤ t ∧ t < 8) ∧ ∀ u ∈ usesS o a b c, 0 ≤ u ∧ u < 8
instance (o d t a b c v g : Int) : Decidable (MayS o d t a b c v g) := by unfold MayS; infer_instance
theorem uses_loop (us : List Int) (hl : us.length ≤ 3) : ∀ (m i : Nat), i + m = us.length → (∀ u ∈ us.take i, 0 ≤ u ∧ u < 8) → Ev (fun k => encode_May.l0 k us (us.length : Int) (i : Int)) (decide (∀ u ∈ us, 0 ≤ u ∧ u < 8)) := by
  intro m
  induction m with
  | zero =>
    intro i hi hu
    refine Ev.step (fun k => rfl) ?_
    refine Ev.neg (by omega) (Ev.done ?_)
    rw [List.take_of_length_le (by omega)] at hu
    exact (decide_eq_true hu).symm
  | succ m ih =>
    intro i hi hu
    have hlt : i < us.length := by omega
    refine Ev.step (fun k => rfl) ?_
    refine Ev.pos (by omega) (Ev.pos (by omega) (Ev.pos (by omega) ?_))
    have hm : us[i] ∈ us := List.getElem_mem hlt
    rw [rd_get us i hlt]
    by_cases h0 : us[i] < 0
    · exact Ev.pos h0 (Ev.done (decide_eq_false (fun h => by have := h _ hm; omega)).symm)
    · refine Ev.neg h0 ?_
      by_cases h1 : us[i] ≥ 8
      · exact Ev.pos h1 (Ev.done (decide_eq_false (fun h => by have := h _ hm; omega)).symm)
      · refine Ev.neg h1 ?_
        have e2 : wrap64 ((i : Int) + 1) = ((i + 1 : Nat) : Int) := by rw [wrap_in (by omega) (by omega)]; rfl
        simp only [e2]
        refine ih (i + 1) (by omega) (fun u hu1 => ?_)
        rw [List.take_succ_eq_append_getElem hlt] at hu1
        rcases List.mem_append.1 hu1 with h | h
        · exact hu u h
        · rw [List.mem_singleton] at h; subst h; omega
theorem uses_len (o a b c : Int) : (usesS o a b c).length ≤ 3 := by
  unfold usesS
  repeat' split
  all_goals simp
theorem bare_test (o d t a b c v g : Int) : (!(o == (bareS o d t a b c v g).1) || (!(d == (bareS o d t a b c v g).2.1) || (!(t == (bareS o d t a b c v g).2.2.1) || (!(a == (bareS o d t a b c v g).2.2.2.1) || (!(b == (bareS o d t a b c v g).2.2.2.2.1) || (!(c == (bareS o d t a b c v g).2.2.2.2.2.1) || (!(v == (bareS o d t a b c v g).2.2.2.2.2.2.1) || (!(g == (bareS o d t a b c v g).2.2.2.2.2.2.2)))))))))
    = !(decide (IsBare o d t a b c v g)) := by
  have h0 : (bareS o d t a b c v g).1 = o := rfl
  have e : ∀ x y : Int, (x == y) = decide (y = x) := fun x y => by
    by_cases h : y = x
    · subst h; simp
    · rw [decide_eq_false h, beq_eq_false_iff_ne.mpr (fun h3 => h h3.symm)]
  rw [h0]
  simp only [e, decide_true, Bool.not_true, Bool.false_or]
  have e2 : decide (IsBare o d t a b c v g) = decide ((bareS o d t a b c v g).2.1 = d ∧ (bareS o d t a b c v g).2.2.1 = t ∧ (bareS o d t a b c v g).2.2.2.1 = a ∧ (bareS o d t a b c v g).2.2.2.2.1 = b ∧ (bareS o d t a b c v g).2.2.2.2.2.1 = c ∧ (bareS o d t a b c v g).2.2.2.2.2.2.1 = v ∧ (bareS o d t a b c v g).2.2.2.2.2.2.2 = g) := by
    unfold IsBare; rfl
  rw [e2]
  generalize (bareS o d t a b c v g).2.1 = x1, (bareS o d t a b c v g).2.2.1 = x2, (bareS o d t a b c v g).2.2.2.1 = x3, (bareS o d t a b c v g).2.2.2.2.1 = x4, (bareS o d t a b c v g).2.2.2.2.2.1 = x5, (bareS o d t a b c v g).2.2.2.2.2.2.1 = x6, (bareS o d t a b c v g).2.2.2.2.2.2.2 = x7
  rw [Bool.eq_iff_iff]
  simp only [Bool.or_eq_true, Bool.not_eq_true', decide_eq_false_iff_not]
  omega
theorem may_j2 (o d t a b c v g : Int) (x : Bool) : Ev (fun k => encode_May.j2 k x o d t a b c v g) (!x && decide (∀ u ∈ usesS o a b c, 0 ≤ u ∧ u < 8)) := by
  refine Ev.step (f := fun k => if x = true then some false else (code_Uses.f k o d t a b c v g).bind fun t152 => encode_May.l0 k t152 (t152.length : Int) 0) (fun k => rfl) ?_
  cases x with
  | true => exact Ev.pos rfl (Ev.done rfl)
  | false =>
    refine Ev.neg (by decide) (Ev.bind (uses_ev ..) ?_)
    have := uses_loop (usesS o a b c) (uses_len ..) (usesS o a b c).length 0 (by omega) (by simp)
    simpa using this
theorem may_j1 (o d t a b c v g : Int) (x : Bool) : Ev (fun k => encode_May.j1 k x o d t a b c v g) (!x && decide ((o = 0 ∨ o = 1 ∨ o = 2 ∨ o = 3 ∨ o = 4 → 0 ≤ t ∧ t < 8) ∧ ∀ u ∈ usesS o a b c, 0 ≤ u ∧ u < 8)) := by
  refine Ev.step (fun k => encode_May.j1.eq_2 ..) ?_
  cases x with
  | true => exact Ev.pos rfl (Ev.done rfl)
  | false =>
    refine Ev.neg (by decide) (Ev.pure (defines_is ..) ?_)
    by_cases h : o = 0 ∨ o = 1 ∨ o = 2 ∨ o = 3 ∨ o = 4
    · rw [if_pos h]
      refine Ev.pos rfl ?_
      by_cases ht : t < 0
      · refine Ev.pos ht ?_
        have := may_j2 o d t a b c v g true
        have e : (!false && decide ((o = 0 ∨ o = 1 ∨ o = 2 ∨ o = 3 ∨ o = 4 → 0 ≤ t ∧ t < 8) ∧ ∀ u ∈ usesS o a b c, 0 ≤ u ∧ u < 8)) = false := by
          simp only [Bool.not_false, Bool.true_and, decide_eq_false_iff_not]
          intro hh; have := hh.1 h; omega
        rw [e]; simpa using this
      · refine Ev.neg ht ?_
        have := may_j2 o d t a b c v g (decide (t ≥ 8))
        have e : (!false && decide ((o = 0 ∨ o = 1 ∨ o = 2 ∨ o = 3 ∨ o = 4 → 0 ≤ t ∧ t < 8) ∧ ∀ u ∈ usesS o a b c, 0 ≤ u ∧ u < 8)) = (!decide (t ≥ 8) && decide (∀ u ∈ usesS o a b c, 0 ≤ u ∧ u < 8)) := by
          rw [Bool.eq_iff_iff]
          simp only [Bool.not_false, Bool.true_and, decide_eq_true_eq, Bool.and_eq_true, Bool.not_eq_true', decide_eq_false_iff_not]
          constructor
          · intro hh; exact ⟨by have := hh.1 h; omega, hh.2⟩
          · intro hh; exact ⟨fun _ => by omega, hh.2⟩
        rw [e]; exact this
    · rw [if_neg h]
      refine Ev.neg (by simp) ?_
      have := may_j2 o d t a b c v g false
      have e : (!false && decide ((o = 0 ∨ o = 1 ∨ o = 2 ∨ o = 3 ∨ o = 4 → 0 ≤ t ∧ t < 8) ∧ ∀ u ∈ usesS o a b c, 0 ≤ u ∧ u < 8)) = (!false && decide (∀ u ∈ usesS o a b c, 0 ≤ u ∧ u < 8)) := by
        rw [Bool.eq_iff_iff]
        simp only [Bool.not_false, Bool.true_and, decide_eq_true_eq]
        exact ⟨fun hh => hh.2, fun hh => ⟨fun h2 => absurd h2 h, hh⟩⟩
      rw [e]; exact this
theorem may_j0 (o d t a b c v g : Int) (x : Bool) : Ev (fun k => encode_May.j0 k x o d t a b c v g) (!x && decide (IsBare o d t a b c v g ∧ 0 ≤ g ∧ g ≤ 65535 ∧ (o = 0 ∨ o = 1 ∨ o = 2 ∨ o = 3 ∨ o = 4 → 0 ≤ t ∧ t < 8) ∧ ∀ u ∈ usesS o a b c, 0 ≤ u ∧ u < 8)) := by
  refine Ev.step (fun k => encode_May.j0.eq_2 ..) ?_
  cases x with
  | true => exact Ev.pos rfl (Ev.done rfl)
  | false =>
    refine Ev.neg (by decide) (Ev.bind (bare_ev ..) ?_)
    rw [bare_test]
    by_cases h : IsBare o d t a b c v g
    · refine Ev.neg (by simp [h]) ?_
      by_cases hg : g < 0
      · refine Ev.pos hg ?_
        have := may_j1 o d t a b c v g true
        have e : (!false && decide (IsBare o d t a b c v g ∧ 0 ≤ g ∧ g ≤ 65535 ∧ (o = 0 ∨ o = 1 ∨ o = 2 ∨ o = 3 ∨ o = 4 → 0 ≤ t ∧ t < 8) ∧ ∀ u ∈ usesS o a b c, 0 ≤ u ∧ u < 8)) = false := by
          simp only [Bool.not_false, Bool.true_and, decide_eq_false_iff_not]
          intro hh; have := hh.2.1; omega
        rw [e]; simpa using this
      · refine Ev.neg hg ?_
        have := may_j1 o d t a b c v g (decide (g > 65535))
        have e : (!false && decide (IsBare o d t a b c v g ∧ 0 ≤ g ∧ g ≤ 65535 ∧ (o = 0 ∨ o = 1 ∨ o = 2 ∨ o = 3 ∨ o = 4 → 0 ≤ t ∧ t < 8) ∧ ∀ u ∈ usesS o a b c, 0 ≤ u ∧ u < 8)) = (!decide (g > 65535) && decide ((o = 0 ∨ o = 1 ∨ o = 2 ∨ o = 3 ∨ o = 4 → 0 ≤ t ∧ t < 8) ∧ ∀ u ∈ usesS o a b c, 0 ≤ u ∧ u < 8)) := by
          rw [Bool.eq_iff_iff]
          simp only [Bool.not_false, Bool.true_and, decide_eq_true_eq, Bool.and_eq_true, Bool.not_eq_true', decide_eq_false_iff_not]
          constructor
          · intro hh; exact ⟨by omega, hh.2.2.2⟩
          · intro hh; exact ⟨h, by omega, by omega, hh.2⟩
        rw [e]; exact this
    · refine Ev.pos (by simp [h]) ?_
      have := may_j1 o d t a b c v g true
      have e : (!false && decide (IsBare o d t a b c v g ∧ 0 ≤ g ∧ g ≤ 65535 ∧ (o = 0 ∨ o = 1 ∨ o = 2 ∨ o = 3 ∨ o = 4 → 0 ≤ t ∧ t < 8) ∧ ∀ u ∈ usesS o a b c, 0 ≤ u ∧ u < 8)) = false := by
        simp only [Bool.not_false, Bool.true_and, decide_eq_false_iff_not]
        intro hh; exact h hh.1
      rw [e]; simpa using this
theorem may_ev (o d t a b c v g : Int) : Ev (fun k => encode_May.f k o d t a b c v g) (decide (MayS o d t a b c v g)) := by
  unfold encode_May.f
  have hj := may_j0 o d t a b c v g
  by_cases h1 : o < 0
  · refine Ev.pos h1 ?_
    have e : decide (MayS o d t a b c v g) = false := decide_eq_false (fun h => by have := h.1; omega)
    rw [e]; simpa using hj true
  refine Ev.neg h1 ?_
  by_cases h2 : o > 13
  · refine Ev.pos h2 ?_
    have e : decide (MayS o d t a b c v g) = false := decide_eq_false (fun h => by have := h.2.1; omega)
    rw [e]; simpa using hj true
  refine Ev.neg h2 ?_
  have core : ∀ x : Bool, (x = true ↔ o = 2 ∧ ¬ (0 ≤ d ∧ d ≤ 9)) → Ev (fun k => encode_May.j0 k x o d t a b c v g) (decide (MayS o d t a b c v g)) := by
    intro x hx
    have e : decide (MayS o d t a b c v g) = (!x && decide (IsBare o d t a b c v g ∧ 0 ≤ g ∧ g ≤ 65535 ∧ (o = 0 ∨ o = 1 ∨ o = 2 ∨ o = 3 ∨ o = 4 → 0 ≤ t ∧ t < 8) ∧ ∀ u ∈ usesS o a b c, 0 ≤ u ∧ u < 8)) := by
      rw [Bool.eq_iff_iff, Bool.and_eq_true, Bool.not_eq_true', decide_eq_true_iff, decide_eq_true_iff]
      constructor
      · rintro ⟨_, _, hd, hb, hg0, hg1, ht, hu⟩
        refine ⟨?_, hb, hg0, hg1, fun h => ht (by omega), hu⟩
        cases x with
        | false => rfl
        | true => have := hx.1 rfl; exact absurd (hd this.1) this.2
      · rintro ⟨hxf, hb, hg0, hg1, ht, hu⟩
        refine ⟨by omega, by omega, fun ho => ?_, hb, hg0, hg1, fun h => ht (by omega), hu⟩
        by_cases hd : 0 ≤ d ∧ d ≤ 9
        · exact hd
        · rw [hx.2 ⟨ho, hd⟩] at hxf; cases hxf
    rw [e]; exact hj x
  by_cases h3 : o = 2
  · refine Ev.pos h3 ?_
    obtain ⟨n, hn, hn0⟩ := tight_is d
    refine Ev.pure hn (core (n == 0) ?_)
    rw [beq_iff_eq, hn0]
    exact ⟨fun h => ⟨h3, h⟩, fun h => h.2⟩
  · exact Ev.neg h3 (core false (by simp [h3]))
theorem tmod_of (n m : Int) (hm : 0 < m) : Int.tmod n m = n % m ∨ Int.tmod n m = n % m - m := by
  rw [Int.tmod_eq_emod]
  split
  · left; omega
  · right; rw [Int.natAbs_of_nonneg (by omega)]
theorem rest_is (n m : Int) (hm : 0 < m) (hm2 : m ≤ 65536) : tautochronelaw20_rest.f n m = some (n % m) := by
  unfold tautochronelaw20_rest.f
  rw [if_neg (by omega)]
  have h0 := Int.emod_nonneg n (show m ≠ 0 by omega)
  have h1 := Int.emod_lt_of_pos n hm
  have ht := tmod_of n m hm
  rw [wrap_in (by omega) (by omega), Int.tmod_eq_emod_of_nonneg (by omega)]
  congr 1
  rcases ht with ht | ht <;> rw [ht]
  · rw [Int.add_emod_right, Int.emod_emod]
  · rw [show n % m - m + m = n % m by omega, Int.emod_emod]
/-- A code that may be, of any. -/
def mkA (o a : Int) : Int := if o % 14 = 4 ∨ o % 14 = 5 then a % 9 - 1 else a % 8
def makeS (o d t a b c v g : Int) : T8 := bareS (o % 14) (d % 10) (t % 8) (mkA o a) (b % 8) (c % 8) v (g % 65536)
theorem make_ev (o d t a b c v g : Int) : Ev (fun k => tautochronelaw20_Make.f k o d t a b c v g) (makeS o d t a b c v g) := by
  unfold tautochronelaw20_Make.f
  have hr : ∀ n m : Int, 0 < m → m ≤ 65536 → tautochronelaw20_rest.f n m = some (n % m) := rest_is
  refine Ev.pure (hr o 14 (by decide) (by decide)) (Ev.pure (hr d 10 (by decide) (by decide)) (Ev.pure (hr t 8 (by decide) (by decide)) (Ev.pure (hr b 8 (by decide) (by decide)) (Ev.pure (hr c 8 (by decide) (by decide)) (Ev.pure (hr g 65536 (by decide) (by decide)) ?_)))))
  have core : ∀ x : Bool, (x = true ↔ o % 14 = 4 ∨ o % 14 = 5) → Ev (fun k => tautochronelaw20_Make.j0 k x (o % 14) (d % 10) (t % 8) a (b % 8) (c % 8) v (g % 65536)) (makeS o d t a b c v g) := by
    intro x hx
    refine Ev.step (fun k => tautochronelaw20_Make.j0.eq_2 ..) ?_
    cases x with
    | true =>
      have h := hx.1 rfl
      refine Ev.pos rfl (Ev.pure (hr a 9 (by decide) (by decide)) ?_)
      rw [wrap_in (by omega) (by omega)]
      refine Ev.bind (lawbare_ev ..) (Ev.done ?_)
      simp only [makeS, mkA, if_pos h]
    | false =>
      have h : ¬ (o % 14 = 4 ∨ o % 14 = 5) := fun h => by have := hx.2 h; cases this
      refine Ev.neg (by decide) (Ev.pure (hr a 8 (by decide) (by decide)) ?_)
      refine Ev.bind (lawbare_ev ..) (Ev.done ?_)
      simp only [makeS, mkA, if_neg h]
  by_cases h4 : o % 14 = 4
  · exact Ev.pos h4 (core true (by simp [h4]))
  · exact Ev.neg h4 (core (o % 14 == 5) (by rw [beq_iff_eq]; omega))
/-- A code in its ranges, that is as it is told. -/
structure Ok8 (o d t a b c v g : Int) : Prop where
  o0 : 0 ≤ o
  o1 : o ≤ 13
  d0 : 0 ≤ d
  d1 : d ≤ 9
  t0 : -1 ≤ t
  t1 : t ≤ 7
  a0 : -1 ≤ a
  a1 : a ≤ 7
  b0 : -1 ≤ b
  b1 : b ≤ 7
  c0 : -1 ≤ c
  c1 : c ≤ 7
  v0 : 0 ≤ v
  v1 : v ≤ 18446744073709551615
  g0 : 0 ≤ g
  g1 : g ≤ 65535
  may : MayS o d t a b c v g
theorem make_ok (o d t a b c v g : Int) (hv0 : 0 ≤ v) (hv1 : v ≤ 18446744073709551615) :
    Ok8 (makeS o d t a b c v g).1 (makeS o d t a b c v g).2.1 (makeS o d t a b c v g).2.2.1 (makeS o d t a b c v g).2.2.2.1 (makeS o d t a b c v g).2.2.2.2.1 (makeS o d t a b c v g).2.2.2.2.2.1 (makeS o d t a b c v g).2.2.2.2.2.2.1 (makeS o d t a b c v g).2.2.2.2.2.2.2 := by
  have hA : (o % 14 = 4 ∨ o % 14 = 5 → -1 ≤ mkA o a ∧ mkA o a ≤ 7) ∧ (¬ (o % 14 = 4 ∨ o % 14 = 5) → 0 ≤ mkA o a ∧ mkA o a ≤ 7) := by
    unfold mkA
    constructor
    · intro h; rw [if_pos h]; omega
    · intro h; rw [if_neg h]; omega
  unfold makeS
  generalize mkA o a = a' at hA
  have ho : 0 ≤ o % 14 ∧ o % 14 ≤ 13 := by omega
  generalize o % 14 = o' at ho hA
  have hd : 0 ≤ d % 10 ∧ d % 10 ≤ 9 := by omega
  generalize d % 10 = d' at hd
  have ht : 0 ≤ t % 8 ∧ t % 8 ≤ 7 := by omega
  generalize t % 8 = t' at ht
  have hb : 0 ≤ b % 8 ∧ b % 8 ≤ 7 := by omega
  generalize b % 8 = b' at hb
  have hc : 0 ≤ c % 8 ∧ c % 8 ≤ 7 := by omega
  generalize c % 8 = c' at hc
  have hg : 0 ≤ g % 65536 ∧ g % 65536 ≤ 65535 := by omega
  generalize g % 65536 = g' at hg
  have hcases : o' = 0 ∨ o' = 1 ∨ o' = 2 ∨ o' = 3 ∨ o' = 4 ∨ o' = 5 ∨ o' = 6 ∨ o' = 7 ∨ o' = 8 ∨ o' = 9 ∨ o' = 10 ∨ o' = 11 ∨ o' = 12 ∨ o' = 13 := by omega
  clear ho
  rcases hcases with rfl | rfl | rfl | rfl | rfl | rfl | rfl | rfl | rfl | rfl | rfl | rfl | rfl | rfl <;> simp at hA
  all_goals first
    | (constructor <;> simp [bareS, MayS, IsBare, usesS] <;> omega)
    | (have hm : mx a' (-1) = a' := by unfold mx; omega
       constructor <;> simp [bareS, MayS, IsBare, usesS, hm] <;> (first | omega | (split <;> simp <;> omega)))
def regS (r : Int) : Int := if r < 0 then 255 else r % 256
theorem reg_is (r : Int) : encode_reg.f r = some (regS r) := by
  unfold encode_reg.f regS; split <;> rfl
/-- A code's bytes. -/
def headS (o d t a b c g : Int) : List Int := [o % 256, d % 256, regS t, regS a, regS b, regS c, (g / 256) % 256, g % 256]
def wordS (v : Int) : List Int := [v / 72057594037927936 % 256, v / 281474976710656 % 256, v / 1099511627776 % 256, v / 4294967296 % 256, v / 16777216 % 256, v / 65536 % 256, v / 256 % 256, v % 256]
def encS (o d t a b c v g : Int) : List Int := headS o d t a b c g ++ wordS v
theorem enc_step (k : Nat) (xs : List Int) (j o d t a b c v g : Int) (h0 : 0 ≤ j) (h7 : j ≤ 7) (hl : xs.length < 100) :
    encode_Encode.l0 (k + 1) xs j o d t a b c v g = encode_Encode.l0 k (xs ++ [(shr .u64 v (8 * j)) % 256]) (j - 1) o d t a b c v g := by
  show (if j ≥ 0 then _ else _) = _
  rw [if_pos h0, wrap_in (x := 8 * j) (by omega) (by omega), if_pos (by omega), if_pos (by omega), wrap_in (by omega) (by omega)]
theorem enc_loop (k : Nat) (hd : List Int) (hh : hd.length = 8) (o d t a b c v g : Int) : encode_Encode.l0 (k + 9) hd 7 o d t a b c v g = some (hd ++ wordS v, true) := by
  rw [enc_step (k + 8) _ _ _ _ _ _ _ _ _ _ (by omega) (by omega) (by omega)]
  rw [enc_step (k + 7) _ _ _ _ _ _ _ _ _ _ (by omega) (by omega) (by simp only [List.length_append, List.length_cons, List.length_nil]; omega)]
  rw [enc_step (k + 6) _ _ _ _ _ _ _ _ _ _ (by omega) (by omega) (by simp only [List.length_append, List.length_cons, List.length_nil]; omega)]
  rw [enc_step (k + 5) _ _ _ _ _ _ _ _ _ _ (by omega) (by omega) (by simp only [List.length_append, List.length_cons, List.length_nil]; omega)]
  rw [enc_step (k + 4) _ _ _ _ _ _ _ _ _ _ (by omega) (by omega) (by simp only [List.length_append, List.length_cons, List.length_nil]; omega)]
  rw [enc_step (k + 3) _ _ _ _ _ _ _ _ _ _ (by omega) (by omega) (by simp only [List.length_append, List.length_cons, List.length_nil]; omega)]
  rw [enc_step (k + 2) _ _ _ _ _ _ _ _ _ _ (by omega) (by omega) (by simp only [List.length_append, List.length_cons, List.length_nil]; omega)]
  rw [enc_step (k + 1) _ _ _ _ _ _ _ _ _ _ (by omega) (by omega) (by simp only [List.length_append, List.length_cons, List.length_nil]; omega)]
  show (if (7 - 1 - 1 - 1 - 1 - 1 - 1 - 1 - 1 : Int) ≥ 0 then _ else _) = _
  rw [if_neg (by omega)]
  have e7 : shr .u64 v (8 * 7) = v / 72057594037927936 := (shr_small (k := .u64) (x := v) (y := 56) (j := _) rfl (by decide)).symm
  have e6 : shr .u64 v (8 * (7 - 1)) = v / 281474976710656 := (shr_small (k := .u64) (x := v) (y := 48) (j := _) rfl (by decide)).symm
  have e5 : shr .u64 v (8 * (7 - 1 - 1)) = v / 1099511627776 := (shr_small (k := .u64) (x := v) (y := 40) (j := _) rfl (by decide)).symm
  have e4 : shr .u64 v (8 * (7 - 1 - 1 - 1)) = v / 4294967296 := (shr_small (k := .u64) (x := v) (y := 32) (j := _) rfl (by decide)).symm
  have e3 : shr .u64 v (8 * (7 - 1 - 1 - 1 - 1)) = v / 16777216 := (shr_small (k := .u64) (x := v) (y := 24) (j := _) rfl (by decide)).symm
  have e2 : shr .u64 v (8 * (7 - 1 - 1 - 1 - 1 - 1)) = v / 65536 := (shr_small (k := .u64) (x := v) (y := 16) (j := _) rfl (by decide)).symm
  have e1 : shr .u64 v (8 * (7 - 1 - 1 - 1 - 1 - 1 - 1)) = v / 256 := (shr_small (k := .u64) (x := v) (y := 8) (j := _) rfl (by decide)).symm
  have e0 : shr .u64 v (8 * (7 - 1 - 1 - 1 - 1 - 1 - 1 - 1)) = v := by
    have := (shr_small (k := .u64) (x := v) (y := 0) (j := _) rfl (by decide)).symm
    simpa using this
  rw [e7, e6, e5, e4, e3, e2, e1, e0]
  simp only [wordS, List.append_assoc, List.cons_append, List.nil_append]
theorem enc_ev (o d t a b c v g : Int) : Ev (fun k => encode_Encode.f k o d t a b c v g) (if MayS o d t a b c v g then (encS o d t a b c v g, true) else ([], false)) := by
  unfold encode_Encode.f
  refine Ev.bind (may_ev ..) ?_
  by_cases h : MayS o d t a b c v g
  · rw [decide_eq_true h, if_pos h]
    refine Ev.pos rfl (Ev.pure (reg_is t) (Ev.pure (reg_is a) (Ev.pure (reg_is b) (Ev.pure (reg_is c) ?_))))
    exact ev4 9 (fun k => enc_loop k (headS o d t a b c g) rfl o d t a b c v g)
  · rw [decide_eq_false h, if_neg h]
    exact Ev.neg (by decide) (Ev.done rfl)
theorem reg_inj {x y : Int} (hx0 : -1 ≤ x) (hx1 : x ≤ 7) (hy0 : -1 ≤ y) (hy1 : y ≤ 7) (h : regS x = regS y) : x = y := by
  unfold regS at h
  split at h <;> split at h <;> omega
theorem word_inj {v w : Int} (hv0 : 0 ≤ v) (hv1 : v ≤ 18446744073709551615) (hw0 : 0 ≤ w) (hw1 : w ≤ 18446744073709551615) (h : wordS v = wordS w) : v = w := by
  unfold wordS at h
  simp only [List.cons.injEq, and_true] at h
  omega
theorem enc_inj {o d t a b c v g o' d' t' a' b' c' v' g' : Int} (h : Ok8 o d t a b c v g) (h' : Ok8 o' d' t' a' b' c' v' g') (e : encS o d t a b c v g = encS o' d' t' a' b' c' v' g') :
    o = o' ∧ d = d' ∧ t = t' ∧ a = a' ∧ b = b' ∧ c = c' ∧ v = v' ∧ g = g' := by
  obtain ⟨o0, o1, d0, d1, t0, t1, a0, a1, b0, b1, c0, c1, v0, v1, g0, g1, _⟩ := h
  obtain ⟨o0', o1', d0', d1', t0', t1', a0', a1', b0', b1', c0', c1', v0', v1', g0', g1', _⟩ := h'
  have e1 : headS o d t a b c g = headS o' d' t' a' b' c' g' ∧ wordS v = wordS v' := List.append_inj e rfl
  have e2 := e1.1
  unfold headS at e2
  simp only [List.cons.injEq, and_true] at e2
  obtain ⟨x1, x2, x3, x4, x5, x6, x7, x8⟩ := e2
  exact ⟨by omega, by omega, reg_inj t0 t1 t0' t1' x3, reg_inj a0 a1 a0' a1' x4, reg_inj b0 b1 b0' b1' x5, reg_inj c0 c1 c0' c1' x6, word_inj v0 v1 v0' v1' e1.2, by omega⟩
theorem enc_byte (o d t a b c v g : Int) : ∀ x ∈ encS o d t a b c v g, 0 ≤ x ∧ x < 256 := by
  intro x hx
  have hr : ∀ r, 0 ≤ regS r ∧ regS r < 256 := fun r => by unfold regS; split <;> omega
  unfold encS headS wordS at hx
  simp only [List.cons_append, List.nil_append, List.mem_cons, List.not_mem_nil, or_false] at hx
  rcases hx with rfl | rfl | rfl | rfl | rfl | rfl | rfl | rfl | rfl | rfl | rfl | rfl | rfl | rfl | rfl | rfl <;> first | exact hr _ | omega
theorem str_inj {xs ys : List Int} (hx : ∀ x ∈ xs, 0 ≤ x ∧ x < 256) (hy : ∀ y ∈ ys, 0 ≤ y ∧ y < 256) : ((strOfNums xs).toList == (strOfNums ys).toList) = decide (xs = ys) := by
  have e : ∀ zs : List Int, (strOfNums zs).toList = zs.map fun n => UInt8.ofNat n.toNat := by
    intro zs; simp [strOfNums, ByteArray.toList_eq]
  rw [e, e, Bool.eq_iff_iff, beq_iff_eq, decide_eq_true_iff]
  constructor
  · intro h
    have hl : xs.length = ys.length := by have := congrArg List.length h; simpa using this
    refine List.ext_getElem hl (fun i h1 h2 => ?_)
    have h3 : (xs.map fun n => UInt8.ofNat n.toNat)[i]'(by simpa using h1) = (ys.map fun n => UInt8.ofNat n.toNat)[i]'(by simpa using h2) := by simp only [h]
    rw [List.getElem_map, List.getElem_map] at h3
    have hx1 := hx _ (List.getElem_mem h1)
    have hy1 := hy _ (List.getElem_mem h2)
    have h4 := congrArg UInt8.toNat h3
    simp only [UInt8.toNat_ofNat'] at h4
    omega
  · rintro rfl; rfl
theorem awake_ev : Ev (fun k => tautochronelaw20_awake.f k) true := by
  unfold tautochronelaw20_awake.f
  refine Ev.bind (Bare_ev ..) (Ev.bind (enc_ev ..) ?_)
  have hm : MayS (bareS 13 0 0 0 0 0 0 0).1 (bareS 13 0 0 0 0 0 0 0).2.1 (bareS 13 0 0 0 0 0 0 0).2.2.1 (bareS 13 0 0 0 0 0 0 0).2.2.2.1 (bareS 13 0 0 0 0 0 0 0).2.2.2.2.1 (bareS 13 0 0 0 0 0 0 0).2.2.2.2.2.1 (bareS 13 0 0 0 0 0 0 0).2.2.2.2.2.2.1 (bareS 13 0 0 0 0 0 0 0).2.2.2.2.2.2.2 := by decide
  rw [if_pos hm]
  exact Ev.fix (by decide)

theorem t8_eq (x y : T8) : (x.1 == y.1 && (x.2.1 == y.2.1 && (x.2.2.1 == y.2.2.1 && (x.2.2.2.1 == y.2.2.2.1 && (x.2.2.2.2.1 == y.2.2.2.2.1 && (x.2.2.2.2.2.1 == y.2.2.2.2.2.1 && (x.2.2.2.2.2.2.1 == y.2.2.2.2.2.2.1 && (x.2.2.2.2.2.2.2 == y.2.2.2.2.2.2.2)))))))) = true ↔ x = y := by
  simp only [Bool.and_eq_true, beq_iff_eq, Prod.ext_iff]

theorem EncodeTwo : tautochronelaw20_EncodeTwo.PureR := by
  intro x y hx hy
  have key : Ev (fun k => tautochronelaw20_EncodeTwo.f k x.f0 x.f1 x.f2 x.f3 x.f4 x.f5 x.f6 x.f7 y.f0 y.f1 y.f2 y.f3 y.f4 y.f5 y.f6 y.f7) true := by
    unfold tautochronelaw20_EncodeTwo.f
    refine Ev.bind awake_ev (Ev.pos rfl (Ev.bind (make_ev ..) (Ev.bind (make_ev ..) ?_)))
    obtain ⟨hxv0, hxv1⟩ := wf_bounds_u64 hx.2.2.2.2.2.2.1
    obtain ⟨hyv0, hyv1⟩ := wf_bounds_u64 hy.2.2.2.2.2.2.1
    have ox := make_ok x.f0 x.f1 x.f2 x.f3 x.f4 x.f5 x.f6 x.f7 hxv0 hxv1
    have oy := make_ok y.f0 y.f1 y.f2 y.f3 y.f4 y.f5 y.f6 y.f7 hyv0 hyv1
    generalize makeS x.f0 x.f1 x.f2 x.f3 x.f4 x.f5 x.f6 x.f7 = p at ox ⊢
    generalize makeS y.f0 y.f1 y.f2 y.f3 y.f4 y.f5 y.f6 y.f7 = q at oy ⊢
    refine Ev.bind (enc_ev ..) (Ev.bind (enc_ev ..) ?_)
    rw [if_pos ox.may, if_pos oy.may]
    refine Ev.pos rfl (Ev.pos rfl (Ev.done ?_))
    rw [str_inj (fun b h => enc_byte _ _ _ _ _ _ _ _ b h) (fun b h => enc_byte _ _ _ _ _ _ _ _ b h), beq_iff_eq]
    rw [Bool.eq_iff_iff, decide_eq_true_iff, t8_eq]
    constructor
    · intro e
      obtain ⟨e0, e1, e2, e3, e4, e5, e6, e7⟩ := enc_inj ox oy e
      exact Prod.ext e0 (Prod.ext e1 (Prod.ext e2 (Prod.ext e3 (Prod.ext e4 (Prod.ext e5 (Prod.ext e6 e7))))))
    · rintro rfl; rfl
  obtain ⟨K, hK⟩ := key
  exact ⟨K, hK K (Nat.le_refl _)⟩

end Go.Proofs.Ytnnedajhphkphaa.Pure
